/- texts: E1. -/
import Derived.Test.YtnpmkepfpekhfaaGreatDoorAQS44
import Derived.Deep.Strs
namespace Go.Proofs.YtnpmkepfpekhfaaGreatDoor
set_option maxHeartbeats 8000000
set_option linter.all false
section
open Go.ChangeShapes Go.WideShapes Go.ChangeAt Go.WideMaps Go.WideElems Go.RowKit
theorem rY {H:Type} {enc:TypeId×Value→H} {W:World} {fuel:Nat} {v:Value} {y:DataW H×List MemPlace} (h:DataW.trod enc Tryz.prog W 0 (fun _=>true) true fuel 49 [v]=some y):
  ∃n:List Int,Ints W v n∧n.length≤maxLen∧(∀x∈n,(Lit.int .i64 x).wf=true)∧MW v∧(y.1= .nil∨∃sp,y.1= .slice (lits .i64 n) sp):=by
 rcases open_ints Pw eJ fx h with⟨hcs,hx⟩|⟨a,len,cap,zs,hcs,_,hl,hm,hz,hx,hcell,hwz⟩
 ·simp only[List.cons.injEq,and_true]at hcs
  subst hcs
  exact⟨[],⟨none,0,0,rfl,rfl,qaA _,fun h=>by omega⟩,by simp,(fun _ h=>by cases h),(fun m c e=>by cases e;exact⟨rfl,rfl⟩),Or.inl (by rw[hx])⟩
 ·simp only[List.cons.injEq,and_true]at hcs
  subst hcs
  simp only[if_true]at hz
  refine⟨zs.take len,⟨some a,len,cap,rfl,by simp;omega,hl,fun h0=> ?_⟩,by simp;omega,fun x hx=>hwz x (List.mem_of_mem_take hx),(fun m c e=>by cases e),Or.inr ⟨_,by rw[hx]⟩⟩
  obtain⟨b,off,spot⟩:=a
  have hspot:spot=none:=by simpa [Addr.add]using World.cell?_spot (hcell 0 (by omega))
  subst hspot
  refine⟨b,off,rfl,fun i hi=> ?_⟩
  have hi':i<len:=by simp at hi;omega
  have:=hcell i (by omega)
  rw[vp]at this
  rw[this]
  simp[List.getD,(by omega:i<zs.length)]
end
end Go.Proofs.YtnpmkepfpekhfaaGreatDoor
