/- THE LAW JointStandards HOLDS: for every kind and box a standard joint is as specified, or the error; it is right. Conditions: those of the given card (the listed tables as the program's text lays them). -/
import Derived.Test.YtjglkglaogaenaaGreatDoorGY
import Derived.Test.YtjglkglaogaenaaGreatDoorGAA
import Derived.Test.YtjglkglaogaenaaGreatDoorCards
import Derived.Test.YtjglkglaogaenaaGreatDoorGZ
namespace Go.Proofs.YtjglkglaogaenaaGreatDoor
open Go.ChangeShapes Go.WideShapes Go.ChangeAt Go.WideMaps Go.WideElems Go.RowKit

set_option maxRecDepth 100000 in
theorem jointStandards_lifted (os : Os) (started : os.Started) (H : Type) (enc : TypeId × Value → H) :
    ReturnsInHanded {} Tryz.checked os 6 .any (fun w args => (Rows.jointStandardsSpec.pre enc Tryz.prog Tryz.f6 [] false w args ∧ laidMetH Tryz.prog laid3 w) ∧ sizedMet enc Tryz.prog Tryz.f6 (OpenSpec.ofChange Rows.jointStandardsSpec) false w args)
      (Rows.jointStandardsSpec.post enc Tryz.prog Tryz.f6 false true false false) := by
  refine returnsInHanded_of_change_and (C := Tryz.checked) (X := fun w _ => laidMetH Tryz.prog laid3 w) (fun _ _ _ hh h => h.of_heap hh) own started (by kernel_rfl) Tryz.func6
    (ChangeSpec.witness_shaped (enc := enc) (C := Tryz.checked) (os := os) (X := fun w _ => laidMetH Tryz.prog laid3 w) false (World.doorLaid Tryz.prog 400 os) #[.int .i64 0, .agg #[.int .i64 0, .int .i64 0, .int .i64 0]] 8 rfl (World.shaped_of_RefB (by kernel_rfl) (by kernel_rfl)) (by kernel_rfl) (by kernel_rfl) (by kernel_rfl) (door_met os _)) ?_
  intro W base args ds gs before hval0 hW _ _ hL _
  have hval : ∀ (j : Nat) t v, Tryz.f6.params[j]? = some t → args[j]? = some v → Value.okWide Tryz.prog W .any base t v := hval0
  have hW' := hW
  obtain ⟨p, q, hA0, hV, rfl, hfz, hnd⟩ := hW
  have hA : DataW.TrodAll enc Tryz.prog W 0 (fun _ => true) true Tryz.f6.params.toList args.toList ds p := hA0
  rw [Tryz.params6] at hA hval
  obtain ⟨v0, v1, d0, d1, p0, p1, rfl, rfl, rfl, h0, h1⟩ := trodAll_two hA
  obtain ⟨rfl, rfl⟩ := trodVars_none hV
  have h0k := h0
  have h1k := h1
  obtain ⟨i0, rfl, _, _, hi0⟩ := open_int und_int (hval 0 3 v0 rfl rfl) h0
  obtain ⟨a1, b1, c1, rfl, ha1⟩ := open_arr3 (hval 1 22 v1 rfl rfl) h1
  simp only [List.append_nil] at hW'
  have hlt0 : ∀ x ∈ p0, x.block < W.heap.size := fun x hx => by simpa using hW'.lt x (by simp [hx])
  have hlt1 : ∀ x ∈ p1, x.block < W.heap.size := fun x hx => by simpa using hW'.lt x (by simp [hx])
  refine (JointStandards_any i0 a1 b1 c1 W (tab_of_laid hL)).mono fun e W' ⟨he, hb⟩ => ?_
  subst he
  refine ⟨_, rfl, post_law hW' rfl hb (by kernel_rfl) rfl ?_⟩
  rw [Tryz.params6]
  exact trodAll_mk2 (Below.trod laidOut (by kernel_rfl) (of_decide_eq_true (by kernel_rfl)) h0k hb hlt0) (Below.trod laidOut (by kernel_rfl) (of_decide_eq_true (by kernel_rfl)) h1k hb hlt1)

theorem jointStandards_fn : Tryz.pinned.checked.prog.funcNamed Rows.jointStandardsRow.func = some 6 := by kernel_rfl
theorem jointStandards_c1 : Rows.jointStandardsRow.wfByText (OpenSpec.ofChange Rows.jointStandardsSpec) = true := by kernel_rfl
theorem jointStandards_c2 : Tryz.pinned.checked.prog.mainIs = some (Rows.jointStandardsCard.stood.harness.1, Rows.jointStandardsCard.stood.harness.2.toList) := by kernel_rfl
theorem jointStandards_c3 : false = Tryz.pinned.checked.prog.looks [] := by kernel_rfl
theorem jointStandards_c4 : ([3, 22].all fun u => !Tryz.prog.wantsStandIn u) = true := by kernel_rfl
theorem jointStandards_c5 : false = Rows.jointStandardsRow.goesBy Tryz.pinned.checked.prog := by kernel_rfl
theorem jointStandards_row : Rows.JointStandardsSaid :=
  OpenClaim.holds_of_wide 6 Tryz.f6 rfl rfl rfl rfl rfl rfl rfl ⟨rfl, rfl, rfl, rfl, rfl⟩ rfl rfl rfl rfl rfl jointStandards_fn Tryz.func6 jointStandards_closed
    (of_decide_eq_true (by kernel_rfl)) (by unfold Func.isWrapper; first | (rw [if_pos (by decide +kernel)]; kernel_rfl) | (rw [if_neg (by decide +kernel)]; exact ⟨rfl, rfl⟩))
    (fun os started H enc _ => jointStandards_lifted os started H enc)

theorem JointStandards_holds : Rows.JointStandardsCardSaid :=
  Claim7.holds_tied_plain_at .later [] [.data, .data, .data] true Rows.jointStandardsCard.stood.harness false
    jointStandards_row (fun _ h => by cases h) jointStandards_c1 (fun _ h => by cases h) jointStandards_row_tie rfl ⟨rfl, rfl⟩ jointStandards_c2 rfl
    (fun f fn hf hfn => by
      obtain rfl : f = 6 := Option.some.inj (jointStandards_fn.symm.trans hf) |>.symm
      obtain rfl : fn = Tryz.f6 := (Option.some.inj (Tryz.func6.symm.trans hfn)).symm
      exact ⟨jointStandards_c3, fun j t ht => by
        rw [Tryz.params6] at ht
        have hm : t ∈ [3, 22] := by simpa using Array.mem_of_getElem? ht
        have hall := jointStandards_c4
        exact (show Tryz.prog.wantsStandIn t = false by simpa using List.all_eq_true.1 hall t hm)⟩)
    jointStandards_c5
#print axioms JointStandards_holds
end Go.Proofs.YtjglkglaogaenaaGreatDoor
