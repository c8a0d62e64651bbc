/- texts: XB XC XE. -/
import Derived.Deep.DeepAppendRoom
import Derived.Test.YtokhkhnofkcalaaGreatDoorKZS37
namespace Go.Proofs.YtokhkhnofkcalaaGreatDoor
set_option maxHeartbeats 8000000
set_option linter.unusedSimpArgs false
set_option linter.unusedVariables false
section
open Go.RowKit Go.Shelf
theorem fq {P:Program} {ops:Array Oper} {rest:List Oper} {o:Oper} {a:Act} {Q:Exit→Act→World→Prop} (w:World) (hgd:o.guard=none) (s x:Operand) (t:TypeId)
  (ho:o.op= .call {callee:= .builtin .append,args:=#[s,x],argTypes:=#[t,t]})
  (base:Nat) (e:TypeId) (i:TypeInfo) (z:Value) (size bytes:Nat) (ht:P.underlying t=some (.slice e)) (hi:P.info? e=some i) (hz:i.zero=some z)
  (hsize:i.size=size) (hby:i.bytes=bytes) (hzs:z.cells.size=size) (hsz:0<size)
  (v:Value) (n:Nat) (xs:List Value) (hs:a.eval s=v) (hown:w.ownsRow base e size v n xs)
  (ad:Addr) (m c:Nat) (news:List Value) (hx:a.eval x= .slice (some ad) m c) (hl:news.length=m*size) (hnews:∀j u,news[j]? =some u→w.cell? (ad.add j)=some u) (h1:∀u∈news,u.oneCell'=true)
  (h63:n+m≤maxLen) (hbytes:(n+m)*bytes≤140737488355328) (hbase:base≤w.heap.size)
  (h:∀v' w',w'.ownsRow base e size v' (n+m) (xs++news)→w.grownBy w' v.ownBlock→(v'.ownBlock=v.ownBlock∨∀g,v'.ownBlock=some g→w.heap.size≤g)→wpList P ops Q rest (a.put o.dst v') w'):wpList P ops Q (o::rest) a w:=by
 rcases id hown.2 with⟨rfl,rfl⟩|⟨g,cap,cur,rfl,hb,hh,hnc,hcm,hcs,htk⟩
 ·have hown0:w.ownsRow w.heap.size e size (.slice none 0 0) 0 xs:=⟨hown.1, .inl ⟨rfl,rfl⟩⟩
  refine wpList_append_own w hgd s x t ho w.heap.size e i z size bytes ht hi hz hsize hby hzs hsz _ 0 xs hs hown0 ad m c news hx hl hnews h1 h63 hbytes (Nat.le_refl _) fun v' w' h2 h3 _=> ?_
  exact h v' w' (AY h2 hbase) h3 (.inr fun g hg=>(h2.lt g hg).1)
 ·by_cases hroom:n+m≤cap
  ·exact wpList_append_own_spare w hgd s x t ho base e i size ht hi hsize g n cap xs hs hown ad m c news hx hl hnews h1 hroom fun w' h2 h3=>h _ w' h2 h3 (.inl rfl)
  ·obtain⟨v',w',hrun,h2,h3⟩:=dM (P:=P) (w:=w) t o.type e i z size bytes ht hi hz hsize hby hzs hsz ⟨g,0,none⟩ n cap xs hown.1 (hown.cells rfl) ad m c news hl hnews (by omega) h63 hbytes
   refine wpList_plain hgd fun _ hK=> ?_
   refine cZ s x t ho (by rw[hs,hx];exact hrun) (hK _ _ ?_)
   exact h v' w' (AY h2 hbase) ⟨h3.os,h3.tape,h3.output,h3.size,fun k hk _=>h3.block k hk⟩ (.inr fun g hg=>(h2.lt g hg).1)
end
section
open Go.RowKit Go.Shelf
set_option maxRecDepth 100000
attribute [local go_sem] Ext.cell Ext.frozen
theorem tY (i m b off c gs gl gp:Nat) (s l x:Int) (W:World) (hs: -1000≤s∧s≤1000) (hl: -1000000≤l∧l≤1000000) (hx: -1000000≤x∧x≤1000000) (hi:i<m)
  (cs:W.cell? ⟨gs,0,none⟩=some (.int .i64 s)) (cl:W.cell? ⟨gl,0,none⟩=some (.int .i64 l)) (cp:W.cell? ⟨gp,0,none⟩=some (.slice (some ⟨b,off,none⟩) m c)) (cx:W.cell? ⟨b,off+i,none⟩=some (.int .i64 x)):
  Calls Tryz.prog 122 #[.int .i64 i, .pointer (some ⟨gs,0,none⟩), .pointer (some ⟨gl,0,none⟩), .pointer (some ⟨gp,0,none⟩)] W (Ret W (v4 (el l s x))):=by
 have hm:=aJ hs.1 hs.2 hx.1 hx.2
 have e:el l s x=(1, -s,0,l-s*x):=rfl
 rw[e]
 generalize hmm:s*x=y at*
 have k1:IntKind.i64.wrap (-s)= -s:=IntWalk.i64_in _ (by omega)
 have k2:IntKind.i64.wrap (s*x)=y:=by rw[hmm];exact IntWalk.i64_in _ (by omega)
 have k3:IntKind.i64.wrap (l-y)=l-y:=IntWalk.i64_in _ (by omega)
 clear hm hmm e
 have zb:=World.block_lt_of_cell? W _ cx
 have zs':=World.block_lt_of_cell? W _ cs
 have zl:=World.block_lt_of_cell? W _ cl
 have zp:=World.block_lt_of_cell? W _ cp
 simp only at zb zs' zl zp
 obtain⟨V,HV⟩:∃V,Hid (W.alloc (.cells #[.int .i64 0, .int .i64 0, .int .i64 0, .int .i64 0] 69)=V):=⟨_,Lib.hid rfl⟩
 have hV:Below W.heap.size W V:=by rw[←HV.out];exact bel
 have HR:Hid (V.heap[W.heap.size]? =some (.cells #[.int .i64 0, .int .i64 0, .int .i64 0, .int .i64 0] 69 (0,0))):=by rw[←HV.out];exact Lib.hid (ai rfl)
 have cx:=ab hV cx
 have cs:=ab hV cs
 have cl:=ab hV cl
 have cp:=ab hV cp
 have zV:=hV.size
 have zb:=Nat.lt_of_lt_of_le zb zV
 have zs':=Nat.lt_of_lt_of_le zs' zV
 have zl:=Nat.lt_of_lt_of_le zl zV
 have zp:=Nat.lt_of_lt_of_le zp zV
 have q1:(i:Int)<(m:Int):=by omega
 have q2:(0:Int)≤(i:Int):=by omega
 go_enter Tryz.func122,Tryz.ntmps122
 go_wp2
 rw[HV.out]
 clear HV
 apply aj [] [0,1,2,3,4,5,6,7,8,9,10] 11 [] [sv _,sv _,sv _,sv _,sv _,sv _,sv _,sv _,sv _,sv _,sv _] (by kernel_rfl) (by kernel_rfl)
 iterate 11 ((try go_frame);refine wkQ ?_)
 try go_frame
 refine aI (fun u hR=> ?_)
 have hb1:=ae hV u.below
 have HRu:=Lib.hid ((u.below.block _ (ah HR.out)).trans HR.out)
 clear hR HR cx cs cl cp zb zs' zl zp
 generalize u.val=w9 at*
 clear u
 obtain⟨r0,r1,r2,r3,rf,rz⟩:=ff HRu.out
 have rf0:=rf 0
 have rf1:=rf 1
 have rf2:=rf 2
 have rf3:=rf 3
 simp only[oas]
 go_wp2
 refine NoPanic.normal ?_
 go_wp2
 refine bodyPost_ret (v:= .agg #[.int .i64 (1), .int .i64 (-s), .int .i64 (0), .int .i64 (l-y)]) (by simp[results,Tryz.results122,go_sem,r0,r1,r2,r3]) rfl ⟨rfl, ?_⟩
 exact(((hb1.setCell (by simp) _).setCell (by simp) _).setCell (by simp) _).setCell (by simp) _
theorem tZ (i m b off c gs gl gp gw:Nat) (s l x q:Int) (W:World) (hs: -1000≤s∧s≤1000) (hl: -1000000≤l∧l≤1000000) (hx: -1000000≤x∧x≤1000000) (hq: -1000000≤q∧q≤1000000) (hi:i<m)
  (cs:W.cell? ⟨gs,0,none⟩=some (.int .i64 s)) (cl:W.cell? ⟨gl,0,none⟩=some (.int .i64 l)) (cp:W.cell? ⟨gp,0,none⟩=some (.slice (some ⟨b,off,none⟩) m c)) (cw:W.cell? ⟨gw,0,none⟩=some (.int .i64 q)) (cx:W.cell? ⟨b,off+i,none⟩=some (.int .i64 x)):
  Calls Tryz.prog 123 #[.int .i64 i, .pointer (some ⟨gs,0,none⟩), .pointer (some ⟨gl,0,none⟩), .pointer (some ⟨gp,0,none⟩), .pointer (some ⟨gw,0,none⟩)] W (Ret W (v4 (em l s q x))):=by
 have hm:=aJ hs.1 hs.2 (show -2000000≤x+q by omega) (show x+q≤2000000 by omega)
 have e:em l s q x=(1,s,0,l+s*(x+q)):=rfl
 rw[e]
 generalize hmm:s*(x+q)=y at*
 have k1:IntKind.i64.wrap (x+q)=x+q:=IntWalk.i64_in _ (by omega)
 have k2:IntKind.i64.wrap (s*(x+q))=y:=by rw[hmm];exact IntWalk.i64_in _ (by omega)
 have k3:IntKind.i64.wrap (l+y)=l+y:=IntWalk.i64_in _ (by omega)
 have zw:=World.block_lt_of_cell? W _ cw
 simp only at zw
 clear hm hmm e
 have zb:=World.block_lt_of_cell? W _ cx
 have zs':=World.block_lt_of_cell? W _ cs
 have zl:=World.block_lt_of_cell? W _ cl
 have zp:=World.block_lt_of_cell? W _ cp
 simp only at zb zs' zl zp
 obtain⟨V,HV⟩:∃V,Hid (W.alloc (.cells #[.int .i64 0, .int .i64 0, .int .i64 0, .int .i64 0] 69)=V):=⟨_,Lib.hid rfl⟩
 have hV:Below W.heap.size W V:=by rw[←HV.out];exact bel
 have HR:Hid (V.heap[W.heap.size]? =some (.cells #[.int .i64 0, .int .i64 0, .int .i64 0, .int .i64 0] 69 (0,0))):=by rw[←HV.out];exact Lib.hid (ai rfl)
 have cx:=ab hV cx
 have cs:=ab hV cs
 have cl:=ab hV cl
 have cp:=ab hV cp
 have zV:=hV.size
 have zb:=Nat.lt_of_lt_of_le zb zV
 have zs':=Nat.lt_of_lt_of_le zs' zV
 have zl:=Nat.lt_of_lt_of_le zl zV
 have zp:=Nat.lt_of_lt_of_le zp zV
 have q1:(i:Int)<(m:Int):=by omega
 have q2:(0:Int)≤(i:Int):=by omega
 go_enter Tryz.func123,Tryz.ntmps123
 go_wp2
 rw[HV.out]
 clear HV
 have cw:=ab hV cw
 have zw:=Nat.lt_of_lt_of_le zw zV
 apply aj [] [0,1,2,3,4,5,6,7,8,9,10,11] 12 [] [sv _,sv _,sv _,sv _,sv _,sv _,sv _,sv _,sv _,sv _,sv _,sv _] (by kernel_rfl) (by kernel_rfl)
 iterate 12 ((try go_frame);refine wkQ ?_)
 try go_frame
 refine aI (fun u hR=> ?_)
 have hb1:=ae hV u.below
 have HRu:=Lib.hid ((u.below.block _ (ah HR.out)).trans HR.out)
 clear hR HR cx cs cl cp zb zs' zl zp
 generalize u.val=w9 at*
 clear u
 obtain⟨r0,r1,r2,r3,rf,rz⟩:=ff HRu.out
 have rf0:=rf 0
 have rf1:=rf 1
 have rf2:=rf 2
 have rf3:=rf 3
 simp only[oas]
 go_wp2
 refine NoPanic.normal ?_
 go_wp2
 refine bodyPost_ret (v:= .agg #[.int .i64 (1), .int .i64 (s), .int .i64 (0), .int .i64 (l+y)]) (by simp[results,Tryz.results123,go_sem,r0,r1,r2,r3]) rfl ⟨rfl, ?_⟩
 exact(((hb1.setCell (by simp) _).setCell (by simp) _).setCell (by simp) _).setCell (by simp) _
end
section
open Go.RowKit Go.Shelf
structure KI (W:World) (B:Nat) (L:List (Nat×Array Value×TypeId)) (gk:Nat) (cs0 cs1:List (List Q4)) (a0 a1:Value) (w:World):Prop where
 below:Below W.heap.size W w
 base:W.heap.size≤B
 ge:B≤gk
 keep:∀x∈L,w.heap[x.1]? =some (.cells x.2.1 x.2.2 (0,0))∧x.2.2≠104∧x.2.2≠72
 row:w.heap[gk]? =some (.cells #[a0,a1] 72 (0,0))
 c0:CO B cs0 a0 w
 c1:CO B cs1 a1 w
 apart:∀g,a0.ownBlock=some g→a1.ownBlock≠some g
theorem KI.grow {W:World} {B:Nat} {L:List (Nat×Array Value×TypeId)} {gk:Nat} {cs0 cs1:List (List Q4)} {a0 a1:Value} {w w':World} (h:KI W B L gk cs0 cs1 a0 a1 w) (hb:Below w.heap.size w w'):KI W B L gk cs0 cs1 a0 a1 w' where
 below:=ae h.below hb
 base:=h.base
 ge:=h.ge
 keep x hx:=⟨(hb.block _ (ah (h.keep x hx).1)).trans (h.keep x hx).1,(h.keep x hx).2⟩
 row:=(hb.block _ (ah h.row)).trans h.row
 c0:=bU _ _ _ _ _ hb h.c0
 c1:=bU _ _ _ _ _ hb h.c1
 apart:=h.apart
theorem CO.kept {B:Nat} {cs:List (List Q4)} {v:Value} {w w':World} {row:Option Nat} (h:CO B cs v w) (hg:w.grownBy w' row) (hne:v.ownBlock=none∨v.ownBlock≠row) (hrow:∀g o,row=some g→w.heap[g]? =some o→∃c t,o= .cells c t (0,0)∧t≠69):CO B cs v w':=by
 obtain⟨vs,ho,hr⟩:=h
 exact⟨vs,ho.kept hg hne,hr.kept hg hrow⟩
theorem oD {B:Nat} {cs:List (List Q4)} {v:Value} {w:World} (h:CO B cs v w):∀g o,v.ownBlock=some g→w.heap[g]? =some o→∃c t,o= .cells c t (0,0)∧t≠69:=by
 obtain⟨vs,ho,_⟩:=h
 intro g o hg hh
 rcases ho.2 with⟨rfl,_⟩|⟨g',cap,cur,rfl,_,h2,_⟩
 ·simp[Value.ownBlock]at hg
 ·obtain rfl:g'=g:=by simpa [Value.ownBlock]using hg
  rw[h2]at hh
  cases hh
  exact⟨_,_,rfl,by decide⟩
theorem lq {B:Nat} {cs:List (List Q4)} {v:Value} {w:World} (h:CO B cs v w):∀g,v.ownBlock=some g→B≤g∧g<w.heap.size:=by
 obtain⟨vs,ho,_⟩:=h
 exact ho.lt
theorem fg {B:Nat} {cs:List (List Q4)} {v:Value} {w:World} {g:Nat} {c:Array Value} {T:TypeId} (h:CO B cs v w) (hg:w.heap[g]? =some (.cells c T (0,0))) (hT:T≠104):some g≠v.ownBlock:=by
 obtain⟨vs,ho,_⟩:=h
 exact fun e=>aG ho hg (fun e=>hT e.symm) e.symm
section
variable {W:World} {B:Nat} {L:List (Nat×Array Value×TypeId)} {gk:Nat} {cs0 cs1 cs':List (List Q4)} {a0 a1 a':Value} {w w':World}
theorem KI.core (h:KI W B L gk cs0 cs1 a0 a1 w) {r:Value} {cr:List (List Q4)} (hr:CO B cr r w) (hg:w.grownBy w' r.ownBlock) (i:Nat) (x y:Value)
  (hrow:(w'.setCell ⟨gk,i,none⟩ a').heap[gk]? =some (.cells #[x,y] 72 (0,0))) (h0:CO B cs0 x w'∨CO B cs' x w') (hk:w'.heap[gk]? =some (.cells #[a0,a1] 72 (0,0))):
  Below W.heap.size W (w'.setCell ⟨gk,i,none⟩ a')∧∀x∈L,(w'.setCell ⟨gk,i,none⟩ a').heap[x.1]? =some (.cells x.2.1 x.2.2 (0,0))∧x.2.2≠104∧x.2.2≠72:=by
 have hb:Below W.heap.size W w':=h.below.grown hg h.below.size (fun z hz=>Nat.le_trans h.base (lq hr z hz).1)
 refine⟨hb.setCell (Nat.le_trans h.base h.ge) _,fun x hx=>⟨?_,(h.keep x hx).2⟩⟩
 obtain⟨h1,h2,h3⟩:=h.keep x hx
 have h4:w'.heap[x.1]? =some (.cells x.2.1 x.2.2 (0,0)):=(hg.block _ (ah h1) (fg hr h1 h2)).trans h1
 refine(Below.heap_setCell w' ⟨gk,i,none⟩ a' _ (fun e=> ?_)).trans h4
 simp only at e
 rw[e,hk]at h4
 have e2:=Option.some.inj h4
 injection e2 with _ e3
 exact h3 e3.symm
theorem KI.app0 (h:KI W B L gk cs0 cs1 a0 a1 w) (hg:w.grownBy w' a0.ownBlock) (hc:CO B cs' a' w') (ha:a'.ownBlock=a0.ownBlock∨∀g,a'.ownBlock=some g→w.heap.size≤g):KI W B L gk cs' cs1 a' a1 (w'.setCell ⟨gk,0,none⟩ a'):=by
 have hk:w'.heap[gk]? =some (.cells #[a0,a1] 72 (0,0)):=(hg.block _ (ah h.row) (fg h.c0 h.row (by decide))).trans h.row
 have hk2:(w'.setCell ⟨gk,0,none⟩ a').heap[gk]? =some (.cells #[a',a1] 72 (0,0)):=br hk 0 a'
 have h1:CO B cs1 a1 w':=h.c1.kept hg (by
  cases e1:a1.ownBlock with
  |none=>exact .inl rfl
  |some g=>exact .inr (fun e=>h.apart g e.symm e1)) (oD h.c0)
 obtain⟨hb,hL⟩:=h.core (a':=a') (cs':=cs') h.c0 hg 0 a' a1 hk2 (.inr hc) hk
 refine⟨hb,h.base,h.ge,hL,hk2,hc.set hk (by decide) (by decide),h1.set hk (by decide) (by decide),fun g hg1 hg2=> ?_⟩
 rcases ha with ha|ha
 ·exact h.apart g (by rw[←ha];exact hg1) hg2
 ·have:=ha g hg1
  have:=(lq h.c1 g hg2).2
  omega
theorem KI.app1 (h:KI W B L gk cs0 cs1 a0 a1 w) (hg:w.grownBy w' a1.ownBlock) (hc:CO B cs' a' w') (ha:a'.ownBlock=a1.ownBlock∨∀g,a'.ownBlock=some g→w.heap.size≤g):KI W B L gk cs0 cs' a0 a' (w'.setCell ⟨gk,1,none⟩ a'):=by
 have hk:w'.heap[gk]? =some (.cells #[a0,a1] 72 (0,0)):=(hg.block _ (ah h.row) (fg h.c1 h.row (by decide))).trans h.row
 have hk2:(w'.setCell ⟨gk,1,none⟩ a').heap[gk]? =some (.cells #[a0,a'] 72 (0,0)):=br hk 1 a'
 have h1:CO B cs0 a0 w':=h.c0.kept hg (by
  cases e1:a0.ownBlock with
  |none=>exact .inl rfl
  |some g=>exact .inr (fun e=>h.apart g e1 e.symm)) (oD h.c1)
 obtain⟨hb,hL⟩:=h.core (a':=a') (cs':=cs') h.c1 hg 1 a0 a' hk2 (.inl h1) hk
 refine⟨hb,h.base,h.ge,hL,hk2,h1.set hk (by decide) (by decide),hc.set hk (by decide) (by decide),fun g hg1 hg2=> ?_⟩
 rcases ha with ha|ha
 ·exact h.apart g hg1 (by rw[←ha];exact hg2)
 ·have:=ha g hg2
  have:=(lq h.c0 g hg1).2
  omega
theorem KI.ko (h:KI W B L gk cs0 cs1 a0 a1 w):KO B [cs0,cs1] (.slice (some ⟨gk,0,none⟩) 2 2) w:=
 ⟨[a0,a1],⟨rfl, .inr ⟨gk,2,#[a0,a1],rfl,h.ge,h.row,Nat.le_refl _,by unfold maxLen;omega,rfl,rfl⟩⟩,rfl,fun i h1 h2=>by
  rcases(by simp at h1;omega:i=0∨i=1)with rfl|rfl
  ·exact h.c0
  ·exact h.c1⟩
end
theorem PO.app {B gk i:Nat} {ps:List Q4} {v r x y a':Value} {cr:List (List Q4)} {w w':World} (h:PO B ps v w) (hr:CO B cr r w) (hg:w.grownBy w' r.ownBlock) (hk:w.heap[gk]? =some (.cells #[x,y] 72 (0,0))):PO B ps v (w'.setCell ⟨gk,i,none⟩ a'):=by
 have h1:PO B ps v w':=h.kept hg (by
  cases e1:v.ownBlock with
  |none=>exact .inl rfl
  |some g=>
   right
   intro e
   obtain⟨vs,ho,_⟩:=hr
   rcases ho.2 with⟨rfl,_⟩|⟨g',cap,cur,rfl,_,h2,_⟩
   ·cases e
   ·have:g'=g:=by simpa [Value.ownBlock]using e.symm
    subst this
    exact aG h h2 (by decide) e1)
 have hk':w'.heap[gk]? =some (.cells #[x,y] 72 (0,0)):=(hg.block _ (ah hk) (fg hr hk (by decide))).trans hk
 exact aF h1 _ _ (fun e=>aG h1 hk' (by decide) e.symm)
theorem bE {ops:Array Oper} {rest:List Oper} {o:Oper} {a:Act} {Q:Exit→Act→World→Prop} {w:World} {B:Nat} {cs ds:List (List Q4)} {v xv:Value} (hc:CO B cs v w) (hd:FO B ds xv w) (s x:Operand) (hgd:o.guard=none)
  (ho:o.op= .call {callee:= .builtin .append,args:=#[s,x],argTypes:=#[72,72]})
  (hs:a.eval s=v) (hx:a.eval x=xv) (hn:cs.length+ds.length≤100000) (hB:B≤w.heap.size)
  (h:∀v' w',CO B (cs++ds) v' w'→w.grownBy w' v.ownBlock→(v'.ownBlock=v.ownBlock∨∀g,v'.ownBlock=some g→w.heap.size≤g)→wpList Tryz.prog ops Q rest (a.put o.dst v') w'):wpList Tryz.prog ops Q (o::rest) a w:=by
 obtain⟨i0,hi0,hz0,hz1,hz2⟩:=info_parts gT
 have hrow:=oD hc
 obtain⟨us,hu1,hu2⟩:=hc
 obtain⟨⟨g2,rfl⟩,ws,hw1,hw2⟩:=hd
 refine fq w hgd s x 72 ho B 104 i0 (.slice none 0 0) 1 24 gU hi0 hz0 hz1 hz2 rfl (by decide) v cs.length us hs hu1 ⟨g2,0,none⟩ ds.length ds.length ws hx hw1.1 (hw1.cells rfl) (fun u hu=> ?_) (by unfold maxLen;omega) (by omega) hB fun v' w' h1 h2 h3=>h v' w' ⟨us++ws,by rw[List.length_append];exact h1, ?_⟩ h2 h3
 ·obtain⟨i,hi,rfl⟩:=List.getElem_of_mem hu
  obtain⟨a,c,e⟩:=aT (hw2.2 i hi (by rw[←hw2.1];exact hi))
  rw[e]
  rfl
 ·have r1:=hu2.kept h2 hrow
  have r2:=hw2.kept h2 hrow
  refine⟨by simp[hu2.1,hw2.1],fun i h4 h5=> ?_⟩
  by_cases hi:i<us.length
  ·have hc:i<cs.length:=by rw[←hu2.1];exact hi
   rw[List.getElem_append_left hi,List.getElem_append_left hc]
   exact r1.2 i hi hc
  ·have hc:¬i<cs.length:=by rw[←hu2.1];exact hi
   rw[List.getElem_append_right (by omega),List.getElem_append_right (by omega)]
   have:=r2.2 (i-us.length) (by simp at h4;omega) (by have:=hu2.1;simp at h5;omega)
   have e:=hu2.1
   simp only[e]at this ⊢
   exact this
theorem KI.at {W:World} {B:Nat} {L:List (Nat×Array Value×TypeId)} {gk:Nat} {cs0 cs1:List (List Q4)} {a0 a1:Value} {w:World} (h:KI W B L gk cs0 cs1 a0 a1 w) (x:Nat×Array Value×TypeId) (hx:x∈L):w.heap[x.1]? =some (.cells x.2.1 x.2.2 (0,0)):=(h.keep x hx).1
theorem qn:∀w,(Instr.makeSlice 73 (.int .i64 2) (.int .i64 2)).run Tryz.prog w= .ok (.slice (some ⟨w.heap.size,0,none⟩) 2 2) (w.alloc (.cells #[.slice none 0 0, .slice none 0 0] 72)):=fun _=>by kernel_rfl
theorem CO.nil {B:Nat} {w:World}:CO B [] (.slice none 0 0) w:=⟨[],World.ownsRow_nil _ _ _ _,RowsV.nil⟩
end
end Go.Proofs.YtokhkhnofkcalaaGreatDoor
