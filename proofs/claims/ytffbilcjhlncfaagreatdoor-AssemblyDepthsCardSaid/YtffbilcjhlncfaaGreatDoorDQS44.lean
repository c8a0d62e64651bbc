/- texts: E5. -/
import Derived.Test.YtffbilcjhlncfaaGreatDoorDQS43
import Derived.Deep.Slices
namespace Go.Proofs.YtffbilcjhlncfaaGreatDoor
set_option maxHeartbeats 8000000
set_option linter.all false
section
open Go.ChangeShapes Go.WideShapes Go.ChangeAt Go.WideMaps Go.WideElems Go.RowKit
set_option maxRecDepth 100000
theorem PW:Tryz.prog.underlying 162=some (.slice 190):=by kernel_rfl
theorem Qn:Tryz.prog.underlying 73=some (.slice 164):=by kernel_rfl
theorem PH:Tryz.prog.cellsOf 190=4:=by kernel_rfl
theorem PC:Tryz.prog.cellsOf 162=1:=by kernel_rfl
theorem PY:Tryz.prog.cellsOf 164=1:=by kernel_rfl
theorem PI:Tryz.prog.cellsOf 73=1:=by kernel_rfl
theorem PJ:Tryz.prog.cellsOf 75=1:=by kernel_rfl
theorem QP (b off j:Nat):(⟨b,off,none⟩:Addr).add j=⟨b,off+j,none⟩:=by
 unfold Addr.add
 by_cases h:j=0<;>simp[h]
theorem Qo {H:Type} {enc:TypeId×Value→H} {W:World} {fuel:Nat} {c0 c1 c2 c3:Value} {y:DataW H×List MemPlace} (h:DataW.trod enc Tryz.prog W 0 (fun _=>true) true fuel 190 [c0,c1,c2,c3]=some y):
  ∃p:Q4,c0= .int .i64 p.1∧c1= .int .i64 p.2.1∧c2= .int .i64 p.2.2.1∧c3= .int .i64 p.2.2.2:=by
 obtain⟨y0,y1,y2,y3,m,hx,_,h0,h1,h2,h3⟩:=Go.Joins.trod_struct4 Tryz.underlying190 h
 simp[fx]at h0 h1 h2 h3
 obtain⟨a0,ha0,_,w0⟩:=DataW.trod_int eJ h0
 obtain⟨a1,ha1,_,w1⟩:=DataW.trod_int eJ h1
 obtain⟨a2,ha2,_,w2⟩:=DataW.trod_int eJ h2
 obtain⟨a3,ha3,_,w3⟩:=DataW.trod_int eJ h3
 simp only[List.cons.injEq,and_true]at ha0 ha1 ha2 ha3
 exact⟨(a0,a1,a2,a3),ha0,ha1,ha2,ha3⟩
theorem PK {H:Type} {enc:TypeId×Value→H} {W:World} {fuel:Nat} {v:Value} {y:DataW H×List MemPlace} (h:DataW.trod enc Tryz.prog W 0 (fun _=>true) true fuel 162 [v]=some y):
  ∃ps:List Q4,Q4s W v ps∧ps.length≤maxLen:=by
 rcases Deep.open_slice PW h with⟨hcs,hx⟩|⟨a,len,cap,m,n,D,Pl,hcs,_,hl,hm,hmm,hx,hel⟩
 ·simp only[List.cons.injEq,and_true]at hcs
  subst hcs
  exact⟨[],⟨none,0,0,rfl,rfl,qaA _,fun h=>absurd h (by omega)⟩,by simp⟩
 ·simp only[List.cons.injEq,and_true]at hcs
  subst hcs
  simp only[if_true]at hmm
  rw[PH]at hel
  obtain⟨F,hF⟩:=Deep.choose_lt (α:=Q4) (n:=len) (p:=fun i q=>W.cell? (a.add (i*4))=some (.int .i64 q.1)∧W.cell? (a.add (i*4+1))=some (.int .i64 q.2.1)∧W.cell? (a.add (i*4+2))=some (.int .i64 q.2.2.1)∧W.cell? (a.add (i*4+3))=some (.int .i64 q.2.2.2)) (fun i hi=>by
   obtain⟨cs',k1,k2⟩:=hel i (by omega)
   obtain⟨_,hlen,hc⟩:=World.cells?_some k1
   match cs',hlen,k2,hc with
   | [c0,c1,c2,c3],_,k2,hc=>
    obtain⟨p,rfl,rfl,rfl,rfl⟩:=Qo k2
    have e0:=hc 0 (by omega)
    have e1:=hc 1 (by omega)
    have e2:=hc 2 (by omega)
    have e3:=hc 3 (by omega)
    rw[Deep.add_add]at e0 e1 e2 e3
    exact⟨p,e0,e1,e2,e3⟩)
  refine⟨(List.range len).map F,⟨some a,len,cap,rfl,by simp,hl,fun h0=> ?_⟩,by simp;omega⟩
  obtain⟨b,off,spot⟩:=a
  have hspot:spot=none:=by simpa [Addr.add]using World.cell?_spot (hF 0 h0).1
  subst hspot
  refine⟨b,off,rfl,fun i hi=> ?_⟩
  obtain⟨e0,e1,e2,e3⟩:=hF i (by simpa using hi)
  rw[QP]at e0 e1 e2 e3
  simp only[qdB,qdD]
  exact⟨e0,e1,e2,e3⟩
theorem PD {H:Type} {enc:TypeId×Value→H} {W:World} {fuel:Nat} {v:Value} {y:DataW H×List MemPlace} {t e:TypeId} {α:Type} [Inhabited α] (E:World→Value→α→Prop) (Q:α→Prop) (ht:Tryz.prog.underlying t=some (.slice e)) (hc:Tryz.prog.cellsOf e=1)
  (hE:∀n u z,DataW.trod enc Tryz.prog W 0 (fun _=>true) true n e [u]=some z→∃c,E W u c∧Q c) (h:DataW.trod enc Tryz.prog W 0 (fun _=>true) true fuel t [v]=some y):
  ∃cs:List α,Each W v E cs∧cs.length≤maxLen∧∀c∈cs,Q c:=by
 rcases Deep.open_slice1 ht hc h with⟨hcs,hx⟩|⟨a,len,cap,m,n,V,D,Pl,hcs,_,hl,hm,hmm,hx,hel⟩
 ·simp only[List.cons.injEq,and_true]at hcs
  subst hcs
  exact⟨[],⟨none,0,0,rfl,rfl,qaA _,fun h=>absurd h (by omega)⟩,by simp,fun _ h=>by cases h⟩
 ·simp only[List.cons.injEq,and_true]at hcs
  subst hcs
  simp only[if_true]at hmm
  obtain⟨F,hF⟩:=Deep.choose_lt (α:=α) (n:=len) (p:=fun i q=>W.cell? (a.add i)=some (V i)∧E W (V i) q∧Q q) (fun i hi=>by
   obtain⟨k1,k2⟩:=hel i (by omega)
   obtain⟨c,k3,k4⟩:=hE _ _ _ k2
   exact⟨c,k1,k3,k4⟩)
  refine⟨(List.range len).map F,⟨some a,len,cap,rfl,by simp,hl,fun h0=> ?_⟩,by simp;omega,fun c hc=> ?_⟩
  ·obtain⟨b,off,spot⟩:=a
   have hspot:spot=none:=by simpa [Addr.add]using World.cell?_spot (hF 0 h0).1
   subst hspot
   refine⟨b,off,rfl,fun i hi=> ?_⟩
   obtain⟨e0,e1,e2⟩:=hF i (by simpa using hi)
   rw[QP]at e0
   simp only[qdB,qdD]
   exact⟨V i,e0,e1⟩
  ·obtain⟨i,hi,rfl⟩:=altt.1 hc
   exact(hF i (by simpa using hi)).2.2
def QY (css:List (List Q4)):Prop:=css.length≤maxLen∧∀c∈css,c.length≤maxLen
theorem PZ {H:Type} {enc:TypeId×Value→H} {W:World} {fuel:Nat} {v:Value} {y:DataW H×List MemPlace} (h:DataW.trod enc Tryz.prog W 0 (fun _=>true) true fuel 73 [v]=some y):
  ∃css,SolV W v css∧QY css:=by
 obtain⟨css,h1,h2,h3⟩:=PD (α:=List Q4) Q4s (fun c=>c.length≤maxLen) Qn PY (fun n u z hz=>by
  obtain⟨y0,m,hx,_,h0⟩:=trod_struct1 Tryz.underlying164 hz
  simp[PC]at h0
  exact PK h0) h
 exact⟨css,h1,h2,h3⟩
end
end Go.Proofs.YtffbilcjhlncfaaGreatDoor
