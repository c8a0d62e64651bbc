/- THE LAW JointOpposite HOLDS: for every joint and turn: B is free just where A is free in the opposite way, a joint turned back and forth changes no way, and what is turned is a way. Conditions: those of the given card (the listed tables as the program's text lays them). -/
import Derived.Test.YtjglkglaogaenaaGreatDoorGBG
import Derived.Test.YtjglkglaogaenaaGreatDoorGBI
import Derived.Test.YtjglkglaogaenaaGreatDoorCards
import Derived.Test.YtjglkglaogaenaaGreatDoorGBH
namespace Go.Proofs.YtjglkglaogaenaaGreatDoor
open Go.ChangeShapes Go.WideShapes Go.ChangeAt Go.WideMaps Go.WideElems Go.RowKit

set_option maxRecDepth 100000 in
theorem jointOpposite_lifted (os : Os) (started : os.Started) (H : Type) (enc : TypeId × Value → H) :
    ReturnsInHanded {} Tryz.checked os 10 .any (fun w args => (Rows.jointOppositeSpec.pre enc Tryz.prog Tryz.f10 [] false w args ∧ laidMetH Tryz.prog laid3 w) ∧ sizedMet enc Tryz.prog Tryz.f10 (OpenSpec.ofChange Rows.jointOppositeSpec) false w args)
      (Rows.jointOppositeSpec.post enc Tryz.prog Tryz.f10 false true false false) := by
  refine returnsInHanded_of_change_and (C := Tryz.checked) (X := fun w _ => laidMetH Tryz.prog laid3 w) (fun _ _ _ hh h => h.of_heap hh) own started (by kernel_rfl) Tryz.func10
    (ChangeSpec.witness_shaped (enc := enc) (C := Tryz.checked) (os := os) (X := fun w _ => laidMetH Tryz.prog laid3 w) false (World.doorLaid Tryz.prog 400 os) #[.agg #[.int .i64 0, .int .i64 0, .int .i64 0, .int .i64 0, .slice none 0 0], .int .i64 0] 8 rfl (World.shaped_of_RefB (by kernel_rfl) (by kernel_rfl)) (by kernel_rfl) (by kernel_rfl) (by kernel_rfl) (door_met os _)) ?_
  intro W base args ds gs before hval0 hW _ hz hL _
  have hval : ∀ (j : Nat) t v, Tryz.f10.params[j]? = some t → args[j]? = some v → Value.okWide Tryz.prog W .any base t v := hval0
  have hW' := hW
  obtain ⟨p, q, hA0, hV, rfl, hfz, hnd⟩ := hW
  have hA : DataW.TrodAll enc Tryz.prog W 0 (fun _ => true) true Tryz.f10.params.toList args.toList ds p := hA0
  rw [Tryz.params10] at hA hval
  obtain ⟨v0, v1, d0, d1, p0, p1, rfl, rfl, rfl, h0, h1⟩ := trodAll_two hA
  obtain ⟨rfl, rfl⟩ := trodVars_none hV
  have h0k := h0
  have h1k := h1
  obtain ⟨k0, l0, w0, t0, nv0, n0, rfl, hn0, hnil0, _, _, _⟩ := open_joint (hval 0 25 v0 rfl rfl) h0
  obtain ⟨i1, rfl, _, _, _⟩ := open_int und_int (hval 1 3 v1 rfl rfl) h1
  simp only [List.append_nil] at hW'
  have hlt0 : ∀ x ∈ p0, x.block < W.heap.size := fun x hx => by simpa using hW'.lt x (by simp [hx])
  have hlt1 : ∀ x ∈ p1, x.block < W.heap.size := fun x hx => by simpa using hW'.lt x (by simp [hx])
  refine (JointOpposite_any k0 l0 w0 t0 nv0 n0 i1 W hn0 hnil0 (joint_len h0k hn0 hz rfl rfl) (tab_of_laid hL)).mono fun e W' ⟨he, hb⟩ => ?_
  subst he
  refine ⟨_, rfl, post_law hW' rfl hb (by kernel_rfl) rfl ?_⟩
  rw [Tryz.params10]
  exact trodAll_mk2 (Below.trod laidOut (by kernel_rfl) (of_decide_eq_true (by kernel_rfl)) h0k hb hlt0) (Below.trod laidOut (by kernel_rfl) (of_decide_eq_true (by kernel_rfl)) h1k hb hlt1)

theorem jointOpposite_fn : Tryz.pinned.checked.prog.funcNamed Rows.jointOppositeRow.func = some 10 := by kernel_rfl
theorem jointOpposite_c1 : Rows.jointOppositeRow.wfByText (OpenSpec.ofChange Rows.jointOppositeSpec) = true := by kernel_rfl
theorem jointOpposite_c2 : Tryz.pinned.checked.prog.mainIs = some (Rows.jointOppositeCard.stood.harness.1, Rows.jointOppositeCard.stood.harness.2.toList) := by kernel_rfl
theorem jointOpposite_c3 : false = Tryz.pinned.checked.prog.looks [] := by kernel_rfl
theorem jointOpposite_c4 : ([25, 3].all fun u => !Tryz.prog.wantsStandIn u) = true := by kernel_rfl
theorem jointOpposite_c5 : false = Rows.jointOppositeRow.goesBy Tryz.pinned.checked.prog := by kernel_rfl
theorem jointOpposite_row : Rows.JointOppositeSaid :=
  OpenClaim.holds_of_wide 10 Tryz.f10 rfl rfl rfl rfl rfl rfl rfl ⟨rfl, rfl, rfl, rfl, rfl⟩ rfl rfl rfl rfl rfl jointOpposite_fn Tryz.func10 jointOpposite_closed
    (of_decide_eq_true (by kernel_rfl)) (by unfold Func.isWrapper; first | (rw [if_pos (by decide +kernel)]; kernel_rfl) | (rw [if_neg (by decide +kernel)]; exact ⟨rfl, rfl⟩))
    (fun os started H enc _ => jointOpposite_lifted os started H enc)

theorem JointOpposite_holds : Rows.JointOppositeCardSaid :=
  Claim7.holds_tied_plain_at .later [] [.data, .data, .data] true Rows.jointOppositeCard.stood.harness false
    jointOpposite_row (fun _ h => by cases h) jointOpposite_c1 (fun _ h => by cases h) jointOpposite_row_tie rfl ⟨rfl, rfl⟩ jointOpposite_c2 rfl
    (fun f fn hf hfn => by
      obtain rfl : f = 10 := Option.some.inj (jointOpposite_fn.symm.trans hf) |>.symm
      obtain rfl : fn = Tryz.f10 := (Option.some.inj (Tryz.func10.symm.trans hfn)).symm
      exact ⟨jointOpposite_c3, fun j t ht => by
        rw [Tryz.params10] at ht
        have hm : t ∈ [25, 3] := by simpa using Array.mem_of_getElem? ht
        have hall := jointOpposite_c4
        exact (show Tryz.prog.wantsStandIn t = false by simpa using List.all_eq_true.1 hall t hm)⟩)
    jointOpposite_c5
#print axioms JointOpposite_holds
end Go.Proofs.YtjglkglaogaenaaGreatDoor
