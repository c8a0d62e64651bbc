/- THE LAW JointFreeAt HOLDS: for every joint, setting and way, a turned way, and the ways in which a member of the joint at the setting is free, are as specified, or the error. Conditions: those of the given card (the listed tables as the program's text lays them). -/
import Derived.Test.YtjglkglaogaenaaGreatDoorGBD
import Derived.Test.YtjglkglaogaenaaGreatDoorGBF
import Derived.Test.YtjglkglaogaenaaGreatDoorCards
import Derived.Test.YtjglkglaogaenaaGreatDoorGBE
namespace Go.Proofs.YtjglkglaogaenaaGreatDoor
open Go.ChangeShapes Go.WideShapes Go.ChangeAt Go.WideMaps Go.WideElems Go.RowKit

set_option maxRecDepth 100000 in
theorem jointFreeAt_lifted (os : Os) (started : os.Started) (H : Type) (enc : TypeId × Value → H) :
    ReturnsInHanded {} Tryz.checked os 9 .any (fun w args => (Rows.jointFreeAtSpec.pre enc Tryz.prog Tryz.f9 [] false w args ∧ laidMetH Tryz.prog laid3 w) ∧ sizedMet enc Tryz.prog Tryz.f9 (OpenSpec.ofChange Rows.jointFreeAtSpec) false w args)
      (Rows.jointFreeAtSpec.post enc Tryz.prog Tryz.f9 false true false false) := by
  refine returnsInHanded_of_change_and (C := Tryz.checked) (X := fun w _ => laidMetH Tryz.prog laid3 w) (fun _ _ _ hh h => h.of_heap hh) own started (by kernel_rfl) Tryz.func9
    (ChangeSpec.witness_shaped (enc := enc) (C := Tryz.checked) (os := os) (X := fun w _ => laidMetH Tryz.prog laid3 w) false (World.doorLaid Tryz.prog 400 os) #[.agg #[.int .i64 0, .int .i64 0, .int .i64 0, .int .i64 0, .slice none 0 0], .agg #[.int .i64 0, .int .i64 0, .int .i64 0, .int .i64 0], .agg #[.int .i64 0, .int .i64 0, .int .i64 0]] 8 rfl (World.shaped_of_RefB (by kernel_rfl) (by kernel_rfl)) (by kernel_rfl) (by kernel_rfl) (by kernel_rfl) (door_met os _)) ?_
  intro W base args ds gs before hval0 hW _ _ hL _
  have hval : ∀ (j : Nat) t v, Tryz.f9.params[j]? = some t → args[j]? = some v → Value.okWide Tryz.prog W .any base t v := hval0
  have hW' := hW
  obtain ⟨p, q, hA0, hV, rfl, hfz, hnd⟩ := hW
  have hA : DataW.TrodAll enc Tryz.prog W 0 (fun _ => true) true Tryz.f9.params.toList args.toList ds p := hA0
  rw [Tryz.params9] at hA hval
  obtain ⟨v0, v1, v2, d0, d1, d2, p0, p1, p2, rfl, rfl, rfl, h0, h1, h2⟩ := trodAll_three hA
  obtain ⟨rfl, rfl⟩ := trodVars_none hV
  have h0k := h0
  have h1k := h1
  have h2k := h2
  obtain ⟨k0, l0, w0, t0, nv0, n0, rfl, hn0, hnil0, _, _, _⟩ := open_joint (hval 0 25 v0 rfl rfl) h0
  obtain ⟨a1, b1, c1, e1, rfl, _⟩ := open_setting (hval 1 67 v1 rfl rfl) h1
  obtain ⟨a2, b2, c2, rfl, _⟩ := open_way (hval 2 69 v2 rfl rfl) h2
  simp only [List.append_nil] at hW'
  have hlt0 : ∀ x ∈ p0, x.block < W.heap.size := fun x hx => by simpa using hW'.lt x (by simp [hx])
  have hlt1 : ∀ x ∈ p1, x.block < W.heap.size := fun x hx => by simpa using hW'.lt x (by simp [hx])
  have hlt2 : ∀ x ∈ p2, x.block < W.heap.size := fun x hx => by simpa using hW'.lt x (by simp [hx])
  refine (JointFreeAt_any k0 l0 w0 t0 nv0 n0 a1 b1 c1 e1 a2 b2 c2 W hn0 hnil0   (tab_of_laid hL)).mono fun e W' ⟨he, hb⟩ => ?_
  subst he
  refine ⟨_, rfl, post_law hW' rfl hb (by kernel_rfl) rfl ?_⟩
  rw [Tryz.params9]
  rw [List.append_assoc]
  exact trodAll_mk3 (Below.trod laidOut (by kernel_rfl) (of_decide_eq_true (by kernel_rfl)) h0k hb hlt0) (Below.trod laidOut (by kernel_rfl) (of_decide_eq_true (by kernel_rfl)) h1k hb hlt1) (Below.trod laidOut (by kernel_rfl) (of_decide_eq_true (by kernel_rfl)) h2k hb hlt2)

theorem jointFreeAt_fn : Tryz.pinned.checked.prog.funcNamed Rows.jointFreeAtRow.func = some 9 := by kernel_rfl
theorem jointFreeAt_c1 : Rows.jointFreeAtRow.wfByText (OpenSpec.ofChange Rows.jointFreeAtSpec) = true := by kernel_rfl
theorem jointFreeAt_c2 : Tryz.pinned.checked.prog.mainIs = some (Rows.jointFreeAtCard.stood.harness.1, Rows.jointFreeAtCard.stood.harness.2.toList) := by kernel_rfl
theorem jointFreeAt_c3 : false = Tryz.pinned.checked.prog.looks [] := by kernel_rfl
theorem jointFreeAt_c4 : ([25, 67, 69].all fun u => !Tryz.prog.wantsStandIn u) = true := by kernel_rfl
theorem jointFreeAt_c5 : false = Rows.jointFreeAtRow.goesBy Tryz.pinned.checked.prog := by kernel_rfl
theorem jointFreeAt_row : Rows.JointFreeAtSaid :=
  OpenClaim.holds_of_wide 9 Tryz.f9 rfl rfl rfl rfl rfl rfl rfl ⟨rfl, rfl, rfl, rfl, rfl⟩ rfl rfl rfl rfl rfl jointFreeAt_fn Tryz.func9 jointFreeAt_closed
    (of_decide_eq_true (by kernel_rfl)) (by unfold Func.isWrapper; first | (rw [if_pos (by decide +kernel)]; kernel_rfl) | (rw [if_neg (by decide +kernel)]; exact ⟨rfl, rfl⟩))
    (fun os started H enc _ => jointFreeAt_lifted os started H enc)

theorem JointFreeAt_holds : Rows.JointFreeAtCardSaid :=
  Claim7.holds_tied_plain_at .later [] [.data, .data, .data] true Rows.jointFreeAtCard.stood.harness false
    jointFreeAt_row (fun _ h => by cases h) jointFreeAt_c1 (fun _ h => by cases h) jointFreeAt_row_tie rfl ⟨rfl, rfl⟩ jointFreeAt_c2 rfl
    (fun f fn hf hfn => by
      obtain rfl : f = 9 := Option.some.inj (jointFreeAt_fn.symm.trans hf) |>.symm
      obtain rfl : fn = Tryz.f9 := (Option.some.inj (Tryz.func9.symm.trans hfn)).symm
      exact ⟨jointFreeAt_c3, fun j t ht => by
        rw [Tryz.params9] at ht
        have hm : t ∈ [25, 67, 69] := by simpa using Array.mem_of_getElem? ht
        have hall := jointFreeAt_c4
        exact (show Tryz.prog.wantsStandIn t = false by simpa using List.all_eq_true.1 hall t hm)⟩)
    jointFreeAt_c5
#print axioms JointFreeAt_holds
end Go.Proofs.YtjglkglaogaenaaGreatDoor
