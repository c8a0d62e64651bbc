/- THE LAW JointAreas HOLDS: for every joint, the areas of contact and the rules that it breaks are as specified, or the error. Conditions: those of the given card (the listed tables as the program's text lays them). -/
import Derived.Test.YtjglkglaogaenaaGreatDoorGAO
import Derived.Test.YtjglkglaogaenaaGreatDoorGAA
import Derived.Test.YtjglkglaogaenaaGreatDoorCards
import Derived.Test.YtjglkglaogaenaaGreatDoorGAP
namespace Go.Proofs.YtjglkglaogaenaaGreatDoor
open Go.ChangeShapes Go.WideShapes Go.ChangeAt Go.WideMaps Go.WideElems Go.RowKit

set_option maxRecDepth 100000 in
theorem jointAreas_lifted (os : Os) (started : os.Started) (H : Type) (enc : TypeId × Value → H) :
    ReturnsInHanded {} Tryz.checked os 8 .any (fun w args => (Rows.jointAreasSpec.pre enc Tryz.prog Tryz.f8 [] false w args ∧ laidMetH Tryz.prog laid3 w) ∧ sizedMet enc Tryz.prog Tryz.f8 (OpenSpec.ofChange Rows.jointAreasSpec) false w args)
      (Rows.jointAreasSpec.post enc Tryz.prog Tryz.f8 false true false false) := by
  refine returnsInHanded_of_change_and (C := Tryz.checked) (X := fun w _ => laidMetH Tryz.prog laid3 w) (fun _ _ _ hh h => h.of_heap hh) own started (by kernel_rfl) Tryz.func8
    (ChangeSpec.witness_shaped (enc := enc) (C := Tryz.checked) (os := os) (X := fun w _ => laidMetH Tryz.prog laid3 w) false (World.doorLaid Tryz.prog 400 os) #[.agg #[.int .i64 0, .int .i64 0, .int .i64 0, .int .i64 0, .slice none 0 0]] 8 rfl (World.shaped_of_RefB (by kernel_rfl) (by kernel_rfl)) (by kernel_rfl) (by kernel_rfl) (by kernel_rfl) (door_met os _)) ?_
  intro W base args ds gs before hval0 hW _ _ hL _
  have hval : ∀ (j : Nat) t v, Tryz.f8.params[j]? = some t → args[j]? = some v → Value.okWide Tryz.prog W .any base t v := hval0
  have hW' := hW
  obtain ⟨p, q, hA0, hV, rfl, hfz, hnd⟩ := hW
  have hA : DataW.TrodAll enc Tryz.prog W 0 (fun _ => true) true Tryz.f8.params.toList args.toList ds p := hA0
  rw [Tryz.params8] at hA hval
  obtain ⟨v0, d0, rfl, rfl, h0⟩ := trodAll_one hA
  obtain ⟨rfl, rfl⟩ := trodVars_none hV
  have h0k := h0
  obtain ⟨k0, l0, w0, t0, nv0, n0, rfl, hn0, hnil0, _, _, _⟩ := open_joint (hval 0 25 v0 rfl rfl) h0
  simp only [List.append_nil] at hW'
  have hlt0 : ∀ x ∈ p, x.block < W.heap.size := fun x hx => by simpa using hW'.lt x hx
  refine (JointAreas_any k0 l0 w0 t0 nv0 n0 W hn0 hnil0 (tab_of_laid hL)).mono fun e W' ⟨he, hb⟩ => ?_
  subst he
  refine ⟨_, rfl, post_law hW' rfl hb (by kernel_rfl) rfl ?_⟩
  rw [Tryz.params8]
  exact trodAll_mk1 (Below.trod laidOut (by kernel_rfl) (of_decide_eq_true (by kernel_rfl)) h0k hb hlt0)

theorem jointAreas_fn : Tryz.pinned.checked.prog.funcNamed Rows.jointAreasRow.func = some 8 := by kernel_rfl
theorem jointAreas_c1 : Rows.jointAreasRow.wfByText (OpenSpec.ofChange Rows.jointAreasSpec) = true := by kernel_rfl
theorem jointAreas_c2 : Tryz.pinned.checked.prog.mainIs = some (Rows.jointAreasCard.stood.harness.1, Rows.jointAreasCard.stood.harness.2.toList) := by kernel_rfl
theorem jointAreas_c3 : false = Tryz.pinned.checked.prog.looks [] := by kernel_rfl
theorem jointAreas_c4 : ([25].all fun u => !Tryz.prog.wantsStandIn u) = true := by kernel_rfl
theorem jointAreas_c5 : false = Rows.jointAreasRow.goesBy Tryz.pinned.checked.prog := by kernel_rfl
theorem jointAreas_row : Rows.JointAreasSaid :=
  OpenClaim.holds_of_wide 8 Tryz.f8 rfl rfl rfl rfl rfl rfl rfl ⟨rfl, rfl, rfl, rfl, rfl⟩ rfl rfl rfl rfl rfl jointAreas_fn Tryz.func8 jointAreas_closed
    (of_decide_eq_true (by kernel_rfl)) (by unfold Func.isWrapper; first | (rw [if_pos (by decide +kernel)]; kernel_rfl) | (rw [if_neg (by decide +kernel)]; exact ⟨rfl, rfl⟩))
    (fun os started H enc _ => jointAreas_lifted os started H enc)

theorem JointAreas_holds : Rows.JointAreasCardSaid :=
  Claim7.holds_tied_plain_at .later [] [.data, .data, .data] true Rows.jointAreasCard.stood.harness false
    jointAreas_row (fun _ h => by cases h) jointAreas_c1 (fun _ h => by cases h) jointAreas_row_tie rfl ⟨rfl, rfl⟩ jointAreas_c2 rfl
    (fun f fn hf hfn => by
      obtain rfl : f = 8 := Option.some.inj (jointAreas_fn.symm.trans hf) |>.symm
      obtain rfl : fn = Tryz.f8 := (Option.some.inj (Tryz.func8.symm.trans hfn)).symm
      exact ⟨jointAreas_c3, fun j t ht => by
        rw [Tryz.params8] at ht
        have hm : t ∈ [25] := by simpa using Array.mem_of_getElem? ht
        have hall := jointAreas_c4
        exact (show Tryz.prog.wantsStandIn t = false by simpa using List.all_eq_true.1 hall t hm)⟩)
    jointAreas_c5
#print axioms JointAreas_holds
end Go.Proofs.YtjglkglaogaenaaGreatDoor
