/- THE LAW JointGaps HOLDS: for every joint and every gap, the gaps of the joint are as specified, cell by cell, and the loosened joint is, or the error. Conditions: those of the given card (the listed tables as the program's text lays them). -/
import Derived.Test.YtokhkhnofkcalaaGreatDoorGZS43
import Derived.Test.YtokhkhnofkcalaaGreatDoorGZS46
import Derived.Test.YtokhkhnofkcalaaGreatDoorCards
import Derived.Test.YtokhkhnofkcalaaGreatDoorGZS47
namespace Go.Proofs.YtokhkhnofkcalaaGreatDoor
open Go.ChangeShapes Go.WideShapes Go.ChangeAt Go.WideMaps Go.WideElems Go.RowKit

set_option maxRecDepth 100000 in
theorem jointGaps_lifted (os : Os) (started : os.Started) (H : Type) (enc : TypeId × Value → H) :
    ReturnsInHanded {} Tryz.checked os 4 .any (fun w args => (Rows.jointGapsSpec.pre enc Tryz.prog Tryz.f4 [] false w args ∧ laidMetH Tryz.prog laid3 w) ∧ sizedMet enc Tryz.prog Tryz.f4 (OpenSpec.ofChange Rows.jointGapsSpec) false w args)
      (Rows.jointGapsSpec.post enc Tryz.prog Tryz.f4 false true false false) := by
  refine returnsInHanded_of_change_and (C := Tryz.checked) (X := fun w _ => laidMetH Tryz.prog laid3 w) (fun _ _ _ hh h => h.of_heap hh) own started (by kernel_rfl) Tryz.func4
    (ChangeSpec.witness_shaped (enc := enc) (C := Tryz.checked) (os := os) (X := fun w _ => laidMetH Tryz.prog laid3 w) false (World.doorLaid Tryz.prog 400 os) #[.agg #[.int .i64 0, .int .i64 0, .int .i64 0, .int .i64 0, .slice none 0 0], .int .i64 0] 8 rfl (World.shaped_of_RefB (by kernel_rfl) (by kernel_rfl)) (by kernel_rfl) (by kernel_rfl) (by kernel_rfl) (door_met os _)) ?_
  intro W base args ds gs before hval0 hW _ _ hL _
  have hval : ∀ (j : Nat) t v, Tryz.f4.params[j]? = some t → args[j]? = some v → Value.okWide Tryz.prog W .any base t v := hval0
  have hW' := hW
  obtain ⟨p, q, hA0, hV, rfl, hfz, hnd⟩ := hW
  have hA : DataW.TrodAll enc Tryz.prog W 0 (fun _ => true) true Tryz.f4.params.toList args.toList ds p := hA0
  rw [Tryz.params4] at hA hval
  obtain ⟨v0, v1, d0, d1, p0, p1, rfl, rfl, rfl, h0, h1⟩ := trodAll_two hA
  obtain ⟨rfl, rfl⟩ := trodVars_none hV
  have h0k := h0
  have h1k := h1
  obtain ⟨k0, l0, w0, t0, nv0, n0, rfl, hn0, hnil0, _, _, _⟩ := open_joint (hval 0 25 v0 rfl rfl) h0
  obtain ⟨i1, rfl, _, _, hi1⟩ := open_int und_int (hval 1 3 v1 rfl rfl) h1
  simp only [List.append_nil] at hW'
  have hlt0 : ∀ x ∈ p0, x.block < W.heap.size := fun x hx => by simpa using hW'.lt x (by simp [hx])
  have hlt1 : ∀ x ∈ p1, x.block < W.heap.size := fun x hx => by simpa using hW'.lt x (by simp [hx])
  refine (JointGaps_any k0 l0 w0 t0 nv0 n0 i1 W hn0 hnil0 hi1 (tab_of_laid hL)).mono fun e W' ⟨he, hb⟩ => ?_
  subst he
  refine ⟨_, rfl, post_law hW' rfl hb (by kernel_rfl) rfl ?_⟩
  rw [Tryz.params4]
  exact trodAll_mk2 (Below.trod laidOut (by kernel_rfl) (of_decide_eq_true (by kernel_rfl)) h0k hb hlt0) (Below.trod laidOut (by kernel_rfl) (of_decide_eq_true (by kernel_rfl)) h1k hb hlt1)

theorem jointGaps_fn : Tryz.pinned.checked.prog.funcNamed Rows.jointGapsRow.func = some 4 := by kernel_rfl
theorem jointGaps_c1 : Rows.jointGapsRow.wfByText (OpenSpec.ofChange Rows.jointGapsSpec) = true := by kernel_rfl
theorem jointGaps_c2 : Tryz.pinned.checked.prog.mainIs = some (Rows.jointGapsCard.stood.harness.1, Rows.jointGapsCard.stood.harness.2.toList) := by kernel_rfl
theorem jointGaps_c3 : false = Tryz.pinned.checked.prog.looks [] := by kernel_rfl
theorem jointGaps_c4 : ([25, 3].all fun u => !Tryz.prog.wantsStandIn u) = true := by kernel_rfl
theorem jointGaps_c5 : false = Rows.jointGapsRow.goesBy Tryz.pinned.checked.prog := by kernel_rfl
theorem jointGaps_row : Rows.JointGapsSaid :=
  OpenClaim.holds_of_wide 4 Tryz.f4 rfl rfl rfl rfl rfl rfl rfl ⟨rfl, rfl, rfl, rfl, rfl⟩ rfl rfl rfl rfl rfl jointGaps_fn Tryz.func4 jointGaps_closed
    (of_decide_eq_true (by kernel_rfl)) (by unfold Func.isWrapper; first | (rw [if_pos (by decide +kernel)]; kernel_rfl) | (rw [if_neg (by decide +kernel)]; exact ⟨rfl, rfl⟩))
    (fun os started H enc _ => jointGaps_lifted os started H enc)

theorem JointGaps_holds : Rows.JointGapsCardSaid :=
  Claim7.holds_tied_plain_at .later [] [.data, .data, .data] true Rows.jointGapsCard.stood.harness false
    jointGaps_row (fun _ h => by cases h) jointGaps_c1 (fun _ h => by cases h) jointGaps_row_tie rfl ⟨rfl, rfl⟩ jointGaps_c2 rfl
    (fun f fn hf hfn => by
      obtain rfl : f = 4 := Option.some.inj (jointGaps_fn.symm.trans hf) |>.symm
      obtain rfl : fn = Tryz.f4 := (Option.some.inj (Tryz.func4.symm.trans hfn)).symm
      exact ⟨jointGaps_c3, fun j t ht => by
        rw [Tryz.params4] at ht
        have hm : t ∈ [25, 3] := by simpa using Array.mem_of_getElem? ht
        have hall := jointGaps_c4
        exact (show Tryz.prog.wantsStandIn t = false by simpa using List.all_eq_true.1 hall t hm)⟩)
    jointGaps_c5
#print axioms JointGaps_holds
end Go.Proofs.YtokhkhnofkcalaaGreatDoor
