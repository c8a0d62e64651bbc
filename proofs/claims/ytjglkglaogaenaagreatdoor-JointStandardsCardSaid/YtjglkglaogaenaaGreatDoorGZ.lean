/- texts of mine, merged: SF. -/
import Derived.Test.YtjglkglaogaenaaGreatDoorRows
import Derived.JoinedOf
import Derived.KernelRfl
/- The closed facts of the row jointStandards, one by one. -/
namespace Go.Proofs.YtjglkglaogaenaaGreatDoor
open Go
set_option maxRecDepth 100000
theorem jointStandards_k1 : (Rows.jointStandardsRow.wf (OpenSpec.ofChange Rows.jointStandardsSpec) : Bool) = true := by kernel_rfl
theorem jointStandards_k2 : (laidOutB Tryz.prog : Bool) = true := by kernel_rfl
theorem jointStandards_k3 : (mapsRowed Tryz.prog : Bool) = true := by kernel_rfl
theorem jointStandards_k4 : (Tryz.f6.params.all (Tryz.prog.readableRec ·) : Bool) = true := by kernel_rfl
theorem jointStandards_k5 : (namedTie Tryz.prog Rows.jointStandardsRow.named Rows.jointStandardsSpec.vars : Bool) = true := by kernel_rfl
theorem jointStandards_k6 : ((Rows.jointStandardsRow.stops == []) : Bool) = true := by kernel_rfl
theorem jointStandards_k7 : ((Tryz.prog.stops == []) : Bool) = true := by kernel_rfl
theorem jointStandards_k8 : ((Rows.jointStandardsRow.knobs == []) : Bool) = true := by kernel_rfl
theorem jointStandards_k9 : ((Tryz.prog.stopKnobs == []) : Bool) = true := by kernel_rfl
theorem jointStandards_k10 : ((Rows.jointStandardsRow.inPlace == Tryz.prog.inPlace 6) : Bool) = true := by kernel_rfl
theorem jointStandards_k11 : ((Rows.jointStandardsRow.unfollowed == Tryz.prog.unfollowed 6) : Bool) = true := by kernel_rfl
theorem jointStandards_k12 : ((Rows.jointStandardsRow.recurses == Tryz.prog.recurses 6) : Bool) = true := by kernel_rfl
theorem jointStandards_k13 : ((Rows.jointStandardsRow.named == Tryz.prog.varsNamed 6) : Bool) = true := by kernel_rfl
theorem jointStandards_k14 : ((Rows.jointStandardsRow.maps == (Tryz.f6.params.toList ++ Rows.jointStandardsSpec.plain.varTypes Tryz.prog).any (Tryz.prog.mapsRec ·)) : Bool) = true := by kernel_rfl
theorem jointStandards_k15 : ((Rows.jointStandardsRow.ifaces == (Tryz.f6.params.toList ++ Rows.jointStandardsSpec.plain.varTypes Tryz.prog).any (Tryz.prog.ifacesRec ·)) : Bool) = true := by kernel_rfl
theorem jointStandards_k16 : ((Rows.jointStandardsRow.mapsOut == Tryz.prog.mapsAmong Tryz.f6.resultTypes.toList) : Bool) = true := by kernel_rfl
theorem jointStandards_k17 : ((Rows.jointStandardsRow.loops == (Tryz.f6.params.toList ++ Rows.jointStandardsSpec.plain.varTypes Tryz.prog).any (Tryz.prog.loopsFrom ·)) : Bool) = true := by kernel_rfl
theorem jointStandards_k18 : ((Rows.jointStandardsRow.wideKeys == (Tryz.f6.params.toList ++ Rows.jointStandardsSpec.plain.varTypes Tryz.prog ++ Tryz.f6.resultTypes.toList).any (Tryz.prog.wideKeysFrom ·)) : Bool) = true := by kernel_rfl
theorem jointStandards_k19 : (Rows.jointStandardsSpec.vars.all (Tryz.prog.varReadable ·) : Bool) = true := by kernel_rfl
theorem jointStandards_k20 : (Tryz.f6.resultTypes.all (fun t => Tryz.prog.readableRec t && decide (t < Tryz.prog.types.size)) : Bool) = true := by kernel_rfl
theorem jointStandards_k21 : ((Rows.jointStandardsRow.ifacesOut == Tryz.f6.resultTypes.toList.any (Tryz.prog.ifacesRec ·)) : Bool) = true := by kernel_rfl
theorem jointStandards_k22 : ((Rows.jointStandardsRow.loopsOut == Tryz.f6.resultTypes.toList.any (Tryz.prog.loopsFrom ·)) : Bool) = true := by kernel_rfl
theorem jointStandards_k23 : ((Rows.jointStandardsRow.plainKeys == Tryz.prog.plainKeys) : Bool) = true := by kernel_rfl
theorem jointStandards_k24 : (Rows.jointStandardsRow.shortTexts.isNone : Bool) = true := by kernel_rfl
theorem jointStandards_k25 : (Tryz.prog.stopsHeard : Bool) = true := by kernel_rfl
theorem jointStandards_k26 : (Tryz.prog.mayEnter : Bool) = true := by kernel_rfl
theorem jointStandards_k27 : ((Rows.jointStandardsRow.lifted == Tryz.prog.liftsFinal) : Bool) = true := by kernel_rfl
theorem jointStandards_k28 : ((Tryz.prog.make == some Rows.jointStandardsRow.make) : Bool) = true := by kernel_rfl
theorem jointStandards_k29 : ((Rows.jointStandardsRow.kinds == (if Rows.jointStandardsRow.domain.isEmpty then [] else Tryz.f6.params.toList.map fun t => match Tryz.prog.underlying t with | some (.int k) => some k | _ => none)) : Bool) = true := by kernel_rfl
theorem jointStandards_k30 : ((Rows.jointStandardsRow.pinned == Rows.jointStandardsRow.pinnedBy) : Bool) = true := by kernel_rfl
theorem jointStandards_k31 : ((Rows.jointStandardsRow.veiled == (Tryz.f6.params.toList ++ Rows.jointStandardsSpec.plain.varTypes Tryz.prog ++ Tryz.f6.resultTypes.toList).any (Tryz.prog.veiledRec ·)) : Bool) = true := by kernel_rfl
theorem jointStandards_k32 : (Rows.jointStandardsRow.veiledFits Tryz.prog Tryz.f6.params.toList (Tryz.f6.params.toList ++ Rows.jointStandardsSpec.plain.varTypes Tryz.prog ++ Tryz.f6.resultTypes.toList) : Bool) = true := by kernel_rfl
theorem jointStandards_and {a b : Bool} (h : a = true) (k : b = true) : (a && b) = true := by rw [h, k]; rfl
theorem jointStandards_closed : joinedFacts Tryz.prog 6 Tryz.f6 Rows.jointStandardsSpec Rows.jointStandardsRow = true := by
  unfold joinedFacts
  exact jointStandards_and (jointStandards_and (jointStandards_and (jointStandards_and (jointStandards_and (jointStandards_and (jointStandards_and (jointStandards_and (jointStandards_and (jointStandards_and (jointStandards_and (jointStandards_and (jointStandards_and (jointStandards_and (jointStandards_and (jointStandards_and (jointStandards_and (jointStandards_and (jointStandards_and (jointStandards_and (jointStandards_and (jointStandards_and (jointStandards_and (jointStandards_and (jointStandards_and (jointStandards_and (jointStandards_and (jointStandards_and (jointStandards_and (jointStandards_and (jointStandards_and jointStandards_k1 jointStandards_k2) jointStandards_k3) jointStandards_k4) jointStandards_k5) jointStandards_k6) jointStandards_k7) jointStandards_k8) jointStandards_k9) jointStandards_k10) jointStandards_k11) jointStandards_k12) jointStandards_k13) jointStandards_k14) jointStandards_k15) jointStandards_k16) jointStandards_k17) jointStandards_k18) jointStandards_k19) jointStandards_k20) jointStandards_k21) jointStandards_k22) jointStandards_k23) jointStandards_k24) jointStandards_k25) jointStandards_k26) jointStandards_k27) jointStandards_k28) jointStandards_k29) jointStandards_k30) jointStandards_k31) jointStandards_k32
end Go.Proofs.YtjglkglaogaenaaGreatDoor
