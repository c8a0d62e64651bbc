/- texts: E6 E8. -/
import Derived.Test.YtoidbolmlckhnaaGreatDoorSES48
namespace Go.Proofs.YtoidbolmlckhnaaGreatDoor
set_option maxHeartbeats 8000000
set_option linter.unusedSimpArgs false
set_option linter.unusedVariables false
section
open Go.ChangeShapes Go.WideShapes Go.ChangeAt Go.WideMaps Go.WideElems Go.RowKit
set_option maxRecDepth 100000
theorem Pr:Tryz.prog.underlying 44=some (.slice 24):=by kernel_rfl
theorem Qa {H:Type} {enc:TypeId×Value→H} {W:World} {base:Nat} {v:Value} {d:DataW H} {p:List MemPlace}
  (hv:Value.okWide Tryz.prog W .any base 44 v) (h:DataW.Trod enc Tryz.prog W 0 (fun _=>true) true 44 v d p):∃l:List (List (List Q4)),SolsV W v l∧l.length≤maxLen∧∀s∈l,QY s:=by
 obtain⟨a,len,cap,rfl⟩:=okWide_slice Pr hv
 obtain⟨fuel,hf⟩:=h
 simp only[Value.cells]at hf
 exact PD (α:=List (List Q4)) SolV QY Pr PJ (fun n u z hz=>by
  obtain⟨y0,m,hx,_,h0⟩:=trod_struct1 Tryz.underlying24 hz
  simp[PI]at h0
  exact PZ h0) hf
theorem Vp {H:Type} {enc:TypeId×Value→H} {W:World} {base:Nat} {v:Value} {d:DataW H} {p:List MemPlace}
  (hv:Value.okWide Tryz.prog W .any base 45 v) (h:DataW.Trod enc Tryz.prog W 0 (fun _=>true) true 45 v d p):∃n:List Int,Ints W v n∧MW v∧n.length≤maxLen:=by
 obtain⟨a,len,cap,rfl⟩:=okWide_slice Pw hv
 obtain⟨fuel,hf⟩:=h
 simp only[Value.cells]at hf
 obtain⟨n,h1,h2,_,h3,_⟩:=rY hf
 exact⟨n,h1,h3,h2⟩
end
end Go.Proofs.YtoidbolmlckhnaaGreatDoor
