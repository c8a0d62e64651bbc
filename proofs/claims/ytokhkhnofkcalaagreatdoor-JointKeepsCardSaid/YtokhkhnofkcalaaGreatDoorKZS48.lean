/- texts: E1. -/
import Derived.Test.YtokhkhnofkcalaaGreatDoorKZS47
import Derived.Deep.Strs
namespace Go.Proofs.YtokhkhnofkcalaaGreatDoor
set_option maxHeartbeats 8000000
set_option linter.unusedSimpArgs false
set_option linter.unusedVariables false
section
open Go.ChangeShapes Go.WideShapes Go.ChangeAt Go.WideMaps Go.WideElems Go.RowKit
set_option maxRecDepth 100000
theorem zJ {α:Type} {cs:Array α} (h:cs.size=5):∃c0 c1 c2 c3 c4,cs=#[c0,c1,c2,c3,c4]:=by
 obtain⟨l⟩:=cs
 match l,h with
 | [c0,c1,c2,c3,c4],_=>exact⟨c0,c1,c2,c3,c4,rfl⟩
theorem qy:Tryz.prog.cellsOf 25=5:=by kernel_rfl
theorem rW:Tryz.prog.cellsOf 22=3:=by kernel_rfl
theorem rX:Tryz.prog.cellsOf 23=1:=by kernel_rfl
theorem rY {H:Type} {enc:TypeId×Value→H} {W:World} {fuel:Nat} {v:Value} {y:DataW H×List MemPlace} (h:DataW.trod enc Tryz.prog W 0 (fun _=>true) true fuel 23 [v]=some y):
  ∃n:List Int,Ints W v n∧n.length≤maxLen∧(∀x∈n,(Lit.int .i64 x).wf=true)∧re v∧(y.1= .nil∨∃sp,y.1= .slice (lits .i64 n) sp):=by
 rcases open_ints eY eJ fx h with⟨hcs,hx⟩|⟨a,len,cap,zs,hcs,_,hl,hm,hz,hx,hcell,hwz⟩
 ·simp only[List.cons.injEq,and_true]at hcs
  subst hcs
  exact⟨[],⟨none,0,0,rfl,rfl,Nat.le_refl _,fun h=>by omega⟩,by simp,(fun _ h=>by cases h),(fun m c e=>by cases e;exact⟨rfl,rfl⟩),Or.inl (by rw[hx])⟩
 ·simp only[List.cons.injEq,and_true]at hcs
  subst hcs
  simp only[if_true]at hz
  refine⟨zs.take len,⟨some a,len,cap,rfl,by simp;omega,hl,fun h0=> ?_⟩,by simp;omega,fun x hx=>hwz x (List.mem_of_mem_take hx),(fun m c e=>by cases e),Or.inr ⟨_,by rw[hx]⟩⟩
  obtain⟨b,off,spot⟩:=a
  have hspot:spot=none:=by simpa [Addr.add]using World.cell?_spot (hcell 0 (by omega))
  subst hspot
  refine⟨b,off,rfl,fun i hi=> ?_⟩
  have hi':i<len:=by simp at hi;omega
  have:=hcell i (by omega)
  rw[vp]at this
  rw[this]
  simp[List.getD,(by omega:i<zs.length)]
theorem rZ {H:Type} {enc:TypeId×Value→H} {W:World} {base:Nat} {v:Value} {d:DataW H} {p:List MemPlace}
  (hv:Value.okWide Tryz.prog W .any base 25 v) (h:DataW.Trod enc Tryz.prog W 0 (fun _=>true) true 25 v d p):
  ∃k l w t nv n,v=vJ k l w t nv∧Ints W nv n∧re nv∧n.length≤maxLen∧((Lit.int .i64 k).wf=true∧(Lit.int .i64 l).wf=true∧(Lit.int .i64 w).wf=true∧(Lit.int .i64 t).wf=true∧∀x∈n,(Lit.int .i64 x).wf=true)∧
   ∃d0 d1 d2,d= .agg [d0,d1,d2]∧(d2= .nil∨∃sp,d2= .slice (lits .i64 n) sp):=by
 obtain⟨cs,rfl,hsz⟩:=okWide_struct Tryz.underlying25 hv
 obtain⟨c0,c1,c2,c3,c4,rfl⟩:=zJ (hsz.trans qy)
 obtain⟨fuel,hf⟩:=h
 obtain⟨y0,y1,y2,m,hx,_,h0,h1,h2⟩:=Deep.trod_struct3 Tryz.underlying25 hf
 simp only[Prod.mk.injEq]at hx
 simp[Value.cells,fx,rW,rX]at h0 h1 h2
 obtain⟨k,hk,_,wk⟩:=DataW.trod_int eJ h0
 obtain⟨xs,q,_,_,_,hl,hel⟩:=DataW.trod_array oN h1
 have e0:=hel 0 (by omega)
 have e1:=hel 1 (by omega)
 have e2:=hel 2 (by omega)
 simp[fx]at e0 e1 e2
 rw[List.getElem?_eq_getElem (by omega)]at e0 e1 e2
 obtain⟨a0,ha0,_,w0⟩:=DataW.trod_int eJ e0
 obtain⟨a1,ha1,_,w1⟩:=DataW.trod_int eJ e1
 obtain⟨a2,ha2,_,w2⟩:=DataW.trod_int eJ e2
 obtain⟨n,hn,hln,hwn,hnil,hd⟩:=rY h2
 simp only[List.cons.injEq,and_true]at hk ha0 ha1 ha2
 subst hk ha0 ha1 ha2
 exact⟨k,a0,a1,a2,c4,n,rfl,hn,hnil,hln,⟨wk,w0,w1,w2,hwn⟩,_,_,_,hx.1,hd⟩
end
end Go.Proofs.YtokhkhnofkcalaaGreatDoor
