/- texts: Ap. -/
import Derived.Test.YtffbilcjhlncfaaGreatDoorDQS9
import Derived.ArgAppend
import Derived.Deep.DeepAppendWide
namespace Go.Proofs.YtffbilcjhlncfaaGreatDoor
set_option maxHeartbeats 8000000
set_option linter.all false
section
open Go.RowKit
theorem cZ {P:Program} {o:Oper} {a:Act} {K:Act→World→Prop} {Q:Exit→Act→World→Prop} {w w':World} {v:Value} (s x:Operand) (t:TypeId)
  (ho:o.op= .call {callee:= .builtin .append,args:=#[s,x],argTypes:=#[t,t]})
  (hr:(Builtin.append_ #[t,t] o.type #[a.eval s,a.eval x]).run P w= .ok v w') (h:K (a.put o.dst v) w'):o.wp P a w K Q:=by
 unfold Oper.wp execOp
 simp only[ho,resolve,invoke,builtin,Sem.run_bind,Sem.run_pure,Result.andThen_ok,List.map_toArray,List.map_cons,List.map_nil,hr]
 exact h
theorem dM {P:Program} {w:World} (t ty e:TypeId) (i:TypeInfo) (z:Value) (size bytes:Nat) (ht:P.underlying t=some (.slice e)) (hi:P.info? e=some i) (hz:i.zero=some z)
  (hsize:i.size=size) (hby:i.bytes=bytes) (hzs:z.cells.size=size) (hsz:0<size)
  (b:Addr) (n cap:Nat) (olds:List Value) (hlo:olds.length=n*size) (holds:∀j u,olds[j]? =some u→w.cell? (b.add j)=some u)
  (a:Addr) (m c:Nat) (news:List Value) (hl:news.length=m*size) (hnews:∀j u,news[j]? =some u→w.cell? (a.add j)=some u)
  (hg:cap<n+m) (h63:n+m≤maxLen) (hbytes:(n+m)*bytes≤140737488355328):
  ∃v' w',(Builtin.append_ #[t,t] ty #[.slice (some b) n cap, .slice (some a) m c]).run P w= .ok v' w'∧w'.ownsRow w.heap.size e size v' (n+m) (olds++news)∧Below w.heap.size w w':=by
 obtain⟨v',w',h1,h2,h3⟩:=run_append_arg_grows (P:=P) w t ty e i z size bytes ht hi hz hsize hby hzs hsz b n cap olds hlo holds a m c news hl hnews hg h63 hbytes
 exact⟨v',w',h1,h2,⟨h3.os,h3.tape,h3.output,h3.size,fun k hk=>h3.block k hk (by simp)⟩⟩
theorem append_nil {P:Program} {w:World} (t ty e:TypeId) (i:TypeInfo) (ht:P.underlying t=some (.slice e)) (hi:P.info? e=some i) (b:Addr) (ao:Option Addr) (c:Nat):
  (Builtin.append_ #[t,t] ty #[.slice (some b) 0 0, .slice ao 0 c]).run P w= .ok (.slice (some b) 0 0) w:=by
 cases ao<;>simp[Builtin.append_,run_underlying ht,sizeOf,typeInfo,hi,Builtin.lenOf,Builtin.firstCells,loadCells,loadCellsFrom,storeCells]
end
end Go.Proofs.YtffbilcjhlncfaaGreatDoor
