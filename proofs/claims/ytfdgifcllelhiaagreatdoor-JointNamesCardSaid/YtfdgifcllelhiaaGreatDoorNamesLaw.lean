/- THE LAW JointNames HOLDS: for every kind and name the names of kinds, the kinds with names and the numbers of members are as specified. Conditions: those of the given card (the listed tables as the program's text lays them). -/
import Derived.Test.YtfdgifcllelhiaaGreatDoorNamesLawM14
import Derived.Test.YtfdgifcllelhiaaGreatDoorCards
namespace Go.Proofs.YtfdgifcllelhiaaGreatDoor
open Go.ChangeShapes Go.WideShapes Go.ChangeAt Go.WideMaps Go.WideElems Go.RowKit

set_option maxRecDepth 100000 in
theorem names_lifted (os : Os) (started : os.Started) (H : Type) (enc : TypeId × Value → H) :
    ReturnsInHanded {} Tryz.checked os 5 .any (fun w args => (Rows.jointNamesSpec.pre enc Tryz.prog Tryz.f5 [] false w args ∧ laidMetH Tryz.prog laid3 w) ∧ sizedMet enc Tryz.prog Tryz.f5 (OpenSpec.ofChange Rows.jointNamesSpec) false w args)
      (Rows.jointNamesSpec.post enc Tryz.prog Tryz.f5 false true false false) := by
  refine returnsInHanded_of_change_and (C := Tryz.checked) (X := fun w _ => laidMetH Tryz.prog laid3 w) (fun _ _ _ hh h => h.of_heap hh) own started (by kernel_rfl) Tryz.func5
    (ChangeSpec.witness_shaped (enc := enc) (C := Tryz.checked) (os := os) (X := fun w _ => laidMetH Tryz.prog laid3 w) false (World.doorLaid Tryz.prog 400 os) #[.int .i64 0, .string ⟨#[]⟩] 8 rfl (World.shaped_of_RefB (by kernel_rfl) (by kernel_rfl)) (by kernel_rfl) (by kernel_rfl) (by kernel_rfl) (door_met os _)) ?_
  intro W base args ds gs before hval0 hW _ _ hL _
  have hval : ∀ (j : Nat) t v, Tryz.f5.params[j]? = some t → args[j]? = some v → Value.okWide Tryz.prog W .any base t v := hval0
  have hW' := hW
  obtain ⟨p, q, hA0, hV, rfl, hfz, hnd⟩ := hW
  have hA : DataW.TrodAll enc Tryz.prog W 0 (fun _ => true) true Tryz.f5.params.toList args.toList ds p := hA0
  rw [Tryz.params5] at hA hval
  obtain ⟨v0, v1, d0, d1, p0, p1, rfl, rfl, rfl, h0, h1⟩ := trodAll_two hA
  obtain ⟨rfl, rfl⟩ := trodVars_none hV
  obtain ⟨k, rfl, rfl, rfl, hk⟩ := open_int und_int (hval 0 3 v0 rfl rfl) h0
  obtain ⟨s, rfl, rfl, rfl, hs⟩ := ChangeMaps.open_string und_str (hval 1 9 v1 rfl rfl) h1
  simp only [List.append_nil] at hW'
  refine (JointNames_any k s W (tab_of_laid hL)).mono fun e W' ⟨he, hb⟩ => ?_
  subst he
  refine ⟨_, rfl, post_law (before := []) hW' rfl hb (by kernel_rfl) rfl ?_⟩
  rw [Tryz.params5]
  exact trodAll_mk2 (shut_int und_int hk) (ChangeMaps.shut_string und_str hs)

theorem names_fn : Tryz.pinned.checked.prog.funcNamed Rows.jointNamesRow.func = some 5 := by kernel_rfl
theorem names_c1 : Rows.jointNamesRow.wfByText (OpenSpec.ofChange Rows.jointNamesSpec) = true := by kernel_rfl
theorem names_c2 : Tryz.pinned.checked.prog.mainIs = some (Rows.jointNamesCard.stood.harness.1, Rows.jointNamesCard.stood.harness.2.toList) := by kernel_rfl
theorem names_c3 : false = Tryz.pinned.checked.prog.looks [] := by kernel_rfl
theorem names_c4 : ([3, 9].all fun u => !Tryz.prog.wantsStandIn u) = true := by kernel_rfl
theorem names_c5 : false = Rows.jointNamesRow.goesBy Tryz.pinned.checked.prog := by kernel_rfl
theorem names_row : Rows.JointNamesSaid :=
  OpenClaim.holds_of_wide 5 Tryz.f5 rfl rfl rfl rfl rfl rfl rfl ⟨rfl, rfl, rfl, rfl, rfl⟩ rfl rfl rfl rfl rfl names_fn Tryz.func5 jointNames_closed
    (of_decide_eq_true (by kernel_rfl)) (by unfold Func.isWrapper; first | (rw [if_pos (by decide +kernel)]; kernel_rfl) | (rw [if_neg (by decide +kernel)]; exact ⟨rfl, rfl⟩))
    (fun os started H enc _ => names_lifted os started H enc)

theorem JointNames_holds : Rows.JointNamesCardSaid :=
  Claim7.holds_tied_plain_at .later [] [.data, .data, .data] true Rows.jointNamesCard.stood.harness false
    names_row (fun _ h => by cases h) names_c1 (fun _ h => by cases h) jointNames_row_tie rfl ⟨rfl, rfl⟩ names_c2 rfl
    (fun f fn hf hfn => by
      obtain rfl : f = 5 := Option.some.inj (names_fn.symm.trans hf) |>.symm
      obtain rfl : fn = Tryz.f5 := (Option.some.inj (Tryz.func5.symm.trans hfn)).symm
      exact ⟨names_c3, fun j t ht => by
        rw [Tryz.params5] at ht
        have hm : t ∈ [3, 9] := by simpa using Array.mem_of_getElem? ht
        have hall := names_c4
        exact (show Tryz.prog.wantsStandIn t = false by simpa using List.all_eq_true.1 hall t hm)⟩)
    names_c5
#print axioms JointNames_holds
end Go.Proofs.YtfdgifcllelhiaaGreatDoor
