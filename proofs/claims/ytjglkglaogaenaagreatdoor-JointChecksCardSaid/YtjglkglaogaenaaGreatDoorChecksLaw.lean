/- THE LAW JointChecks HOLDS: for every joint, whether it is right and how many loose members it has is as specified. Conditions: those of the given card (the listed tables as the program's text lays them). -/
import Derived.Test.YtjglkglaogaenaaGreatDoorGU
import Derived.Test.YtjglkglaogaenaaGreatDoorGT
import Derived.Test.YtjglkglaogaenaaGreatDoorCards
import Derived.Test.YtjglkglaogaenaaGreatDoorGV
namespace Go.Proofs.YtjglkglaogaenaaGreatDoor
open Go.ChangeShapes Go.WideShapes Go.ChangeAt Go.WideMaps Go.WideElems Go.RowKit

theorem laidOut : laidOutB Tryz.prog = true := by kernel_rfl
set_option maxRecDepth 100000 in
theorem checks_lifted (os : Os) (started : os.Started) (H : Type) (enc : TypeId × Value → H) :
    ReturnsInHanded {} Tryz.checked os 4 .any (fun w args => (Rows.jointChecksSpec.pre enc Tryz.prog Tryz.f4 [] false w args ∧ laidMetH Tryz.prog laid3 w) ∧ sizedMet enc Tryz.prog Tryz.f4 (OpenSpec.ofChange Rows.jointChecksSpec) false w args)
      (Rows.jointChecksSpec.post enc Tryz.prog Tryz.f4 false true false false) := by
  refine returnsInHanded_of_change_and (C := Tryz.checked) (X := fun w _ => laidMetH Tryz.prog laid3 w) (fun _ _ _ hh h => h.of_heap hh) own started (by kernel_rfl) Tryz.func4
    (ChangeSpec.witness_shaped (enc := enc) (C := Tryz.checked) (os := os) (X := fun w _ => laidMetH Tryz.prog laid3 w) false (World.doorLaid Tryz.prog 400 os) #[.agg #[.int .i64 0, .int .i64 0, .int .i64 0, .int .i64 0, .slice none 0 0]] 8 rfl (World.shaped_of_RefB (by kernel_rfl) (by kernel_rfl)) (by kernel_rfl) (by kernel_rfl) (by kernel_rfl) (door_met os _)) ?_
  intro W base args ds gs before hval0 hW _ _ hL _
  have hval : ∀ (j : Nat) t v, Tryz.f4.params[j]? = some t → args[j]? = some v → Value.okWide Tryz.prog W .any base t v := hval0
  have hW' := hW
  obtain ⟨p, q, hA0, hV, rfl, hfz, hnd⟩ := hW
  have hA : DataW.TrodAll enc Tryz.prog W 0 (fun _ => true) true Tryz.f4.params.toList args.toList ds p := hA0
  rw [Tryz.params4] at hA hval
  obtain ⟨v0, d0, rfl, rfl, h0⟩ := trodAll_one hA
  obtain ⟨rfl, rfl⟩ := trodVars_none hV
  have h0k := h0
  obtain ⟨k, l, w, t, nv, n, rfl, hn, hnil, _, _, _⟩ := open_joint (hval 0 25 v0 rfl rfl) h0
  simp only [List.append_nil] at hW'
  have hlt : ∀ x ∈ p, x.block < W.heap.size := fun x hx => by simpa using hW'.lt x hx
  refine (JointChecks_any k l w t nv n W hn hnil (tab_of_laid hL)).mono fun e W' ⟨he, hb⟩ => ?_
  subst he
  refine ⟨_, rfl, post_law (before := p) hW' rfl hb (by kernel_rfl) rfl ?_⟩
  rw [Tryz.params4]
  exact trodAll_mk1 (Below.trod laidOut (by kernel_rfl) (of_decide_eq_true (by kernel_rfl)) h0k hb hlt)

theorem checks_fn : Tryz.pinned.checked.prog.funcNamed Rows.jointChecksRow.func = some 4 := by kernel_rfl
theorem checks_c1 : Rows.jointChecksRow.wfByText (OpenSpec.ofChange Rows.jointChecksSpec) = true := by kernel_rfl
theorem checks_c2 : Tryz.pinned.checked.prog.mainIs = some (Rows.jointChecksCard.stood.harness.1, Rows.jointChecksCard.stood.harness.2.toList) := by kernel_rfl
theorem checks_c3 : false = Tryz.pinned.checked.prog.looks [] := by kernel_rfl
theorem checks_c4 : ([25].all fun u => !Tryz.prog.wantsStandIn u) = true := by kernel_rfl
theorem checks_c5 : false = Rows.jointChecksRow.goesBy Tryz.pinned.checked.prog := by kernel_rfl
theorem checks_row : Rows.JointChecksSaid :=
  OpenClaim.holds_of_wide 4 Tryz.f4 rfl rfl rfl rfl rfl rfl rfl ⟨rfl, rfl, rfl, rfl, rfl⟩ rfl rfl rfl rfl rfl checks_fn Tryz.func4 jointChecks_closed
    (of_decide_eq_true (by kernel_rfl)) (by unfold Func.isWrapper; first | (rw [if_pos (by decide +kernel)]; kernel_rfl) | (rw [if_neg (by decide +kernel)]; exact ⟨rfl, rfl⟩))
    (fun os started H enc _ => checks_lifted os started H enc)

theorem JointChecks_holds : Rows.JointChecksCardSaid :=
  Claim7.holds_tied_plain_at .later [] [.data, .data, .data] true Rows.jointChecksCard.stood.harness false
    checks_row (fun _ h => by cases h) checks_c1 (fun _ h => by cases h) jointChecks_row_tie rfl ⟨rfl, rfl⟩ checks_c2 rfl
    (fun f fn hf hfn => by
      obtain rfl : f = 4 := Option.some.inj (checks_fn.symm.trans hf) |>.symm
      obtain rfl : fn = Tryz.f4 := (Option.some.inj (Tryz.func4.symm.trans hfn)).symm
      exact ⟨checks_c3, fun j t ht => by
        rw [Tryz.params4] at ht
        have hm : t ∈ [25] := by simpa using Array.mem_of_getElem? ht
        have hall := checks_c4
        exact (show Tryz.prog.wantsStandIn t = false by simpa using List.all_eq_true.1 hall t hm)⟩)
    checks_c5
#print axioms JointChecks_holds
end Go.Proofs.YtjglkglaogaenaaGreatDoor
