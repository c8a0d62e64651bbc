/- texts: XB. -/
import Derived.Test.YtffbilcjhlncfaaGreatDoorDQS17
import Derived.Deep.DeepAppendRoom
namespace Go.Proofs.YtffbilcjhlncfaaGreatDoor
set_option maxHeartbeats 8000000
set_option linter.all false
section
open Go.RowKit Go.Shelf
theorem fq {P:Program} {ops:Array Oper} {rest:List Oper} {o:Oper} {a:Act} {Q:Exit→Act→World→Prop} (w:World) (hgd:o.guard=none) (s x:Operand) (t:TypeId)
  (ho:o.op= .call {callee:= .builtin .append,args:=#[s,x],argTypes:=#[t,t]})
  (base:Nat) (e:TypeId) (i:TypeInfo) (z:Value) (size bytes:Nat) (ht:P.underlying t=some (.slice e)) (hi:P.info? e=some i) (hz:i.zero=some z)
  (hsize:i.size=size) (hby:i.bytes=bytes) (hzs:z.cells.size=size) (hsz:0<size)
  (v:Value) (n:Nat) (xs:List Value) (hs:a.eval s=v) (hown:w.ownsRow base e size v n xs)
  (ad:Addr) (m c:Nat) (news:List Value) (hx:a.eval x= .slice (some ad) m c) (hl:news.length=m*size) (hnews:∀j u,news[j]? =some u→w.cell? (ad.add j)=some u) (h1:∀u∈news,u.oneCell'=true)
  (h63:n+m≤maxLen) (hbytes:(n+m)*bytes≤140737488355328) (hbase:base≤w.heap.size)
  (h:∀v' w',w'.ownsRow base e size v' (n+m) (xs++news)→w.grownBy w' v.ownBlock→(v'.ownBlock=v.ownBlock∨∀g,v'.ownBlock=some g→w.heap.size≤g)→wpList P ops Q rest (a.put o.dst v') w'):wpList P ops Q (o::rest) a w:=by
 rcases id hown.2 with⟨rfl,rfl⟩|⟨g,cap,cur,rfl,hb,hh,hnc,hcm,hcs,htk⟩
 ·have hown0:w.ownsRow w.heap.size e size (.slice none 0 0) 0 xs:=⟨hown.1, .inl ⟨rfl,rfl⟩⟩
  refine wpList_append_own w hgd s x t ho w.heap.size e i z size bytes ht hi hz hsize hby hzs hsz _ 0 xs hs hown0 ad m c news hx hl hnews h1 h63 hbytes (qaA _) fun v' w' h2 h3 _=> ?_
  exact h v' w' (AY h2 hbase) h3 (.inr fun g hg=>(h2.lt g hg).1)
 ·by_cases hroom:n+m≤cap
  ·exact wpList_append_own_spare w hgd s x t ho base e i size ht hi hsize g n cap xs hs hown ad m c news hx hl hnews h1 hroom fun w' h2 h3=>h _ w' h2 h3 (.inl rfl)
  ·obtain⟨v',w',hrun,h2,h3⟩:=dM (P:=P) (w:=w) t o.type e i z size bytes ht hi hz hsize hby hzs hsz ⟨g,0,none⟩ n cap xs hown.1 (hown.cells rfl) ad m c news hl hnews (by omega) h63 hbytes
   refine wpList_plain hgd fun _ hK=> ?_
   refine cZ s x t ho (by rw[hs,hx];exact hrun) (hK _ _ ?_)
   exact h v' w' (AY h2 hbase) ⟨h3.os,h3.tape,h3.output,h3.size,fun k hk _=>h3.block k hk⟩ (.inr fun g hg=>(h2.lt g hg).1)
end
end Go.Proofs.YtffbilcjhlncfaaGreatDoor
