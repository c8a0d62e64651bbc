/- texts: E6. -/
import Derived.Test.YtffbilcjhlncfaaGreatDoorDQS44
namespace Go.Proofs.YtffbilcjhlncfaaGreatDoor
set_option maxHeartbeats 8000000
set_option linter.all false
section
open Go.ChangeShapes Go.WideShapes Go.ChangeAt Go.WideMaps Go.WideElems Go.RowKit
set_option maxRecDepth 100000
theorem Pr:Tryz.prog.underlying 22=some (.slice 75):=by kernel_rfl
theorem Qa {H:Type} {enc:TypeId×Value→H} {W:World} {base:Nat} {v:Value} {d:DataW H} {p:List MemPlace}
  (hv:Value.okWide Tryz.prog W .any base 22 v) (h:DataW.Trod enc Tryz.prog W 0 (fun _=>true) true 22 v d p):∃l:List (List (List Q4)),SolsV W v l∧l.length≤maxLen∧∀s∈l,QY s:=by
 obtain⟨a,len,cap,rfl⟩:=okWide_slice Pr hv
 obtain⟨fuel,hf⟩:=h
 simp only[Value.cells]at hf
 exact PD (α:=List (List Q4)) SolV QY Pr PJ (fun n u z hz=>by
  obtain⟨y0,m,hx,_,h0⟩:=trod_struct1 Tryz.underlying75 hz
  simp[PI]at h0
  exact PZ h0) hf
end
end Go.Proofs.YtffbilcjhlncfaaGreatDoor
