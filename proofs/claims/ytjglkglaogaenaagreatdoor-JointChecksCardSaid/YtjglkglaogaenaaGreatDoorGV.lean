/- texts of mine, merged: KF. -/
import Derived.Test.YtjglkglaogaenaaGreatDoorRows
import Derived.JoinedOf
import Derived.KernelRfl
/- The closed facts of the row jointChecks, one by one. -/
namespace Go.Proofs.YtjglkglaogaenaaGreatDoor
open Go
set_option maxRecDepth 100000
theorem jointChecks_k1 : (Rows.jointChecksRow.wf (OpenSpec.ofChange Rows.jointChecksSpec) : Bool) = true := by kernel_rfl
theorem jointChecks_k2 : (laidOutB Tryz.prog : Bool) = true := by kernel_rfl
theorem jointChecks_k3 : (mapsRowed Tryz.prog : Bool) = true := by kernel_rfl
theorem jointChecks_k4 : (Tryz.f4.params.all (Tryz.prog.readableRec ·) : Bool) = true := by kernel_rfl
theorem jointChecks_k5 : (namedTie Tryz.prog Rows.jointChecksRow.named Rows.jointChecksSpec.vars : Bool) = true := by kernel_rfl
theorem jointChecks_k6 : ((Rows.jointChecksRow.stops == []) : Bool) = true := by kernel_rfl
theorem jointChecks_k7 : ((Tryz.prog.stops == []) : Bool) = true := by kernel_rfl
theorem jointChecks_k8 : ((Rows.jointChecksRow.knobs == []) : Bool) = true := by kernel_rfl
theorem jointChecks_k9 : ((Tryz.prog.stopKnobs == []) : Bool) = true := by kernel_rfl
theorem jointChecks_k10 : ((Rows.jointChecksRow.inPlace == Tryz.prog.inPlace 4) : Bool) = true := by kernel_rfl
theorem jointChecks_k11 : ((Rows.jointChecksRow.unfollowed == Tryz.prog.unfollowed 4) : Bool) = true := by kernel_rfl
theorem jointChecks_k12 : ((Rows.jointChecksRow.recurses == Tryz.prog.recurses 4) : Bool) = true := by kernel_rfl
theorem jointChecks_k13 : ((Rows.jointChecksRow.named == Tryz.prog.varsNamed 4) : Bool) = true := by kernel_rfl
theorem jointChecks_k14 : ((Rows.jointChecksRow.maps == (Tryz.f4.params.toList ++ Rows.jointChecksSpec.plain.varTypes Tryz.prog).any (Tryz.prog.mapsRec ·)) : Bool) = true := by kernel_rfl
theorem jointChecks_k15 : ((Rows.jointChecksRow.ifaces == (Tryz.f4.params.toList ++ Rows.jointChecksSpec.plain.varTypes Tryz.prog).any (Tryz.prog.ifacesRec ·)) : Bool) = true := by kernel_rfl
theorem jointChecks_k16 : ((Rows.jointChecksRow.mapsOut == Tryz.prog.mapsAmong Tryz.f4.resultTypes.toList) : Bool) = true := by kernel_rfl
theorem jointChecks_k17 : ((Rows.jointChecksRow.loops == (Tryz.f4.params.toList ++ Rows.jointChecksSpec.plain.varTypes Tryz.prog).any (Tryz.prog.loopsFrom ·)) : Bool) = true := by kernel_rfl
theorem jointChecks_k18 : ((Rows.jointChecksRow.wideKeys == (Tryz.f4.params.toList ++ Rows.jointChecksSpec.plain.varTypes Tryz.prog ++ Tryz.f4.resultTypes.toList).any (Tryz.prog.wideKeysFrom ·)) : Bool) = true := by kernel_rfl
theorem jointChecks_k19 : (Rows.jointChecksSpec.vars.all (Tryz.prog.varReadable ·) : Bool) = true := by kernel_rfl
theorem jointChecks_k20 : (Tryz.f4.resultTypes.all (fun t => Tryz.prog.readableRec t && decide (t < Tryz.prog.types.size)) : Bool) = true := by kernel_rfl
theorem jointChecks_k21 : ((Rows.jointChecksRow.ifacesOut == Tryz.f4.resultTypes.toList.any (Tryz.prog.ifacesRec ·)) : Bool) = true := by kernel_rfl
theorem jointChecks_k22 : ((Rows.jointChecksRow.loopsOut == Tryz.f4.resultTypes.toList.any (Tryz.prog.loopsFrom ·)) : Bool) = true := by kernel_rfl
theorem jointChecks_k23 : ((Rows.jointChecksRow.plainKeys == Tryz.prog.plainKeys) : Bool) = true := by kernel_rfl
theorem jointChecks_k24 : (Rows.jointChecksRow.shortTexts.isNone : Bool) = true := by kernel_rfl
theorem jointChecks_k25 : (Tryz.prog.stopsHeard : Bool) = true := by kernel_rfl
theorem jointChecks_k26 : (Tryz.prog.mayEnter : Bool) = true := by kernel_rfl
theorem jointChecks_k27 : ((Rows.jointChecksRow.lifted == Tryz.prog.liftsFinal) : Bool) = true := by kernel_rfl
theorem jointChecks_k28 : ((Tryz.prog.make == some Rows.jointChecksRow.make) : Bool) = true := by kernel_rfl
theorem jointChecks_k29 : ((Rows.jointChecksRow.kinds == (if Rows.jointChecksRow.domain.isEmpty then [] else Tryz.f4.params.toList.map fun t => match Tryz.prog.underlying t with | some (.int k) => some k | _ => none)) : Bool) = true := by kernel_rfl
theorem jointChecks_k30 : ((Rows.jointChecksRow.pinned == Rows.jointChecksRow.pinnedBy) : Bool) = true := by kernel_rfl
theorem jointChecks_k31 : ((Rows.jointChecksRow.veiled == (Tryz.f4.params.toList ++ Rows.jointChecksSpec.plain.varTypes Tryz.prog ++ Tryz.f4.resultTypes.toList).any (Tryz.prog.veiledRec ·)) : Bool) = true := by kernel_rfl
theorem jointChecks_k32 : (Rows.jointChecksRow.veiledFits Tryz.prog Tryz.f4.params.toList (Tryz.f4.params.toList ++ Rows.jointChecksSpec.plain.varTypes Tryz.prog ++ Tryz.f4.resultTypes.toList) : Bool) = true := by kernel_rfl
theorem jointChecks_and {a b : Bool} (h : a = true) (k : b = true) : (a && b) = true := by rw [h, k]; rfl
theorem jointChecks_closed : joinedFacts Tryz.prog 4 Tryz.f4 Rows.jointChecksSpec Rows.jointChecksRow = true := by
  unfold joinedFacts
  exact jointChecks_and (jointChecks_and (jointChecks_and (jointChecks_and (jointChecks_and (jointChecks_and (jointChecks_and (jointChecks_and (jointChecks_and (jointChecks_and (jointChecks_and (jointChecks_and (jointChecks_and (jointChecks_and (jointChecks_and (jointChecks_and (jointChecks_and (jointChecks_and (jointChecks_and (jointChecks_and (jointChecks_and (jointChecks_and (jointChecks_and (jointChecks_and (jointChecks_and (jointChecks_and (jointChecks_and (jointChecks_and (jointChecks_and (jointChecks_and (jointChecks_and jointChecks_k1 jointChecks_k2) jointChecks_k3) jointChecks_k4) jointChecks_k5) jointChecks_k6) jointChecks_k7) jointChecks_k8) jointChecks_k9) jointChecks_k10) jointChecks_k11) jointChecks_k12) jointChecks_k13) jointChecks_k14) jointChecks_k15) jointChecks_k16) jointChecks_k17) jointChecks_k18) jointChecks_k19) jointChecks_k20) jointChecks_k21) jointChecks_k22) jointChecks_k23) jointChecks_k24) jointChecks_k25) jointChecks_k26) jointChecks_k27) jointChecks_k28) jointChecks_k29) jointChecks_k30) jointChecks_k31) jointChecks_k32
end Go.Proofs.YtjglkglaogaenaaGreatDoor
