/- texts of mine, merged: FE. -/
import Derived.Test.YtjglkglaogaenaaGreatDoorRows
import Derived.JoinedOf
import Derived.KernelRfl
/- The closed facts of the row jointFree, one by one. -/
namespace Go.Proofs.YtjglkglaogaenaaGreatDoor
open Go
set_option maxRecDepth 100000
theorem jointFree_k1 : (Rows.jointFreeRow.wf (OpenSpec.ofChange Rows.jointFreeSpec) : Bool) = true := by kernel_rfl
theorem jointFree_k2 : (laidOutB Tryz.prog : Bool) = true := by kernel_rfl
theorem jointFree_k3 : (mapsRowed Tryz.prog : Bool) = true := by kernel_rfl
theorem jointFree_k4 : (Tryz.f7.params.all (Tryz.prog.readableRec ·) : Bool) = true := by kernel_rfl
theorem jointFree_k5 : (namedTie Tryz.prog Rows.jointFreeRow.named Rows.jointFreeSpec.vars : Bool) = true := by kernel_rfl
theorem jointFree_k6 : ((Rows.jointFreeRow.stops == []) : Bool) = true := by kernel_rfl
theorem jointFree_k7 : ((Tryz.prog.stops == []) : Bool) = true := by kernel_rfl
theorem jointFree_k8 : ((Rows.jointFreeRow.knobs == []) : Bool) = true := by kernel_rfl
theorem jointFree_k9 : ((Tryz.prog.stopKnobs == []) : Bool) = true := by kernel_rfl
theorem jointFree_k10 : ((Rows.jointFreeRow.inPlace == Tryz.prog.inPlace 7) : Bool) = true := by kernel_rfl
theorem jointFree_k11 : ((Rows.jointFreeRow.unfollowed == Tryz.prog.unfollowed 7) : Bool) = true := by kernel_rfl
theorem jointFree_k12 : ((Rows.jointFreeRow.recurses == Tryz.prog.recurses 7) : Bool) = true := by kernel_rfl
theorem jointFree_k13 : ((Rows.jointFreeRow.named == Tryz.prog.varsNamed 7) : Bool) = true := by kernel_rfl
theorem jointFree_k14 : ((Rows.jointFreeRow.maps == (Tryz.f7.params.toList ++ Rows.jointFreeSpec.plain.varTypes Tryz.prog).any (Tryz.prog.mapsRec ·)) : Bool) = true := by kernel_rfl
theorem jointFree_k15 : ((Rows.jointFreeRow.ifaces == (Tryz.f7.params.toList ++ Rows.jointFreeSpec.plain.varTypes Tryz.prog).any (Tryz.prog.ifacesRec ·)) : Bool) = true := by kernel_rfl
theorem jointFree_k16 : ((Rows.jointFreeRow.mapsOut == Tryz.prog.mapsAmong Tryz.f7.resultTypes.toList) : Bool) = true := by kernel_rfl
theorem jointFree_k17 : ((Rows.jointFreeRow.loops == (Tryz.f7.params.toList ++ Rows.jointFreeSpec.plain.varTypes Tryz.prog).any (Tryz.prog.loopsFrom ·)) : Bool) = true := by kernel_rfl
theorem jointFree_k18 : ((Rows.jointFreeRow.wideKeys == (Tryz.f7.params.toList ++ Rows.jointFreeSpec.plain.varTypes Tryz.prog ++ Tryz.f7.resultTypes.toList).any (Tryz.prog.wideKeysFrom ·)) : Bool) = true := by kernel_rfl
theorem jointFree_k19 : (Rows.jointFreeSpec.vars.all (Tryz.prog.varReadable ·) : Bool) = true := by kernel_rfl
theorem jointFree_k20 : (Tryz.f7.resultTypes.all (fun t => Tryz.prog.readableRec t && decide (t < Tryz.prog.types.size)) : Bool) = true := by kernel_rfl
theorem jointFree_k21 : ((Rows.jointFreeRow.ifacesOut == Tryz.f7.resultTypes.toList.any (Tryz.prog.ifacesRec ·)) : Bool) = true := by kernel_rfl
theorem jointFree_k22 : ((Rows.jointFreeRow.loopsOut == Tryz.f7.resultTypes.toList.any (Tryz.prog.loopsFrom ·)) : Bool) = true := by kernel_rfl
theorem jointFree_k23 : ((Rows.jointFreeRow.plainKeys == Tryz.prog.plainKeys) : Bool) = true := by kernel_rfl
theorem jointFree_k24 : (Rows.jointFreeRow.shortTexts.isNone : Bool) = true := by kernel_rfl
theorem jointFree_k25 : (Tryz.prog.stopsHeard : Bool) = true := by kernel_rfl
theorem jointFree_k26 : (Tryz.prog.mayEnter : Bool) = true := by kernel_rfl
theorem jointFree_k27 : ((Rows.jointFreeRow.lifted == Tryz.prog.liftsFinal) : Bool) = true := by kernel_rfl
theorem jointFree_k28 : ((Tryz.prog.make == some Rows.jointFreeRow.make) : Bool) = true := by kernel_rfl
theorem jointFree_k29 : ((Rows.jointFreeRow.kinds == (if Rows.jointFreeRow.domain.isEmpty then [] else Tryz.f7.params.toList.map fun t => match Tryz.prog.underlying t with | some (.int k) => some k | _ => none)) : Bool) = true := by kernel_rfl
theorem jointFree_k30 : ((Rows.jointFreeRow.pinned == Rows.jointFreeRow.pinnedBy) : Bool) = true := by kernel_rfl
theorem jointFree_k31 : ((Rows.jointFreeRow.veiled == (Tryz.f7.params.toList ++ Rows.jointFreeSpec.plain.varTypes Tryz.prog ++ Tryz.f7.resultTypes.toList).any (Tryz.prog.veiledRec ·)) : Bool) = true := by kernel_rfl
theorem jointFree_k32 : (Rows.jointFreeRow.veiledFits Tryz.prog Tryz.f7.params.toList (Tryz.f7.params.toList ++ Rows.jointFreeSpec.plain.varTypes Tryz.prog ++ Tryz.f7.resultTypes.toList) : Bool) = true := by kernel_rfl
theorem jointFree_and {a b : Bool} (h : a = true) (k : b = true) : (a && b) = true := by rw [h, k]; rfl
theorem jointFree_closed : joinedFacts Tryz.prog 7 Tryz.f7 Rows.jointFreeSpec Rows.jointFreeRow = true := by
  unfold joinedFacts
  exact jointFree_and (jointFree_and (jointFree_and (jointFree_and (jointFree_and (jointFree_and (jointFree_and (jointFree_and (jointFree_and (jointFree_and (jointFree_and (jointFree_and (jointFree_and (jointFree_and (jointFree_and (jointFree_and (jointFree_and (jointFree_and (jointFree_and (jointFree_and (jointFree_and (jointFree_and (jointFree_and (jointFree_and (jointFree_and (jointFree_and (jointFree_and (jointFree_and (jointFree_and (jointFree_and (jointFree_and jointFree_k1 jointFree_k2) jointFree_k3) jointFree_k4) jointFree_k5) jointFree_k6) jointFree_k7) jointFree_k8) jointFree_k9) jointFree_k10) jointFree_k11) jointFree_k12) jointFree_k13) jointFree_k14) jointFree_k15) jointFree_k16) jointFree_k17) jointFree_k18) jointFree_k19) jointFree_k20) jointFree_k21) jointFree_k22) jointFree_k23) jointFree_k24) jointFree_k25) jointFree_k26) jointFree_k27) jointFree_k28) jointFree_k29) jointFree_k30) jointFree_k31) jointFree_k32
end Go.Proofs.YtjglkglaogaenaaGreatDoor
