/- texts of mine, merged: Q7, QA. -/
import Derived.Test.YtjglkglaogaenaaGreatDoorGAD
import Derived.Test.YtjglkglaogaenaaGreatDoorGAH
import Derived.Test.YtjglkglaogaenaaGreatDoorGAI
/- The reference of joints: Broken, rule by rule (written by gen_rbroken.py). -/
namespace Go.Proofs.YtjglkglaogaenaaGreatDoor
section
open Go.RowKit Go.Shelf
attribute [local go_sem] Ext.cell Ext.frozen
set_option linter.unusedVariables false in
set_option maxRecDepth 100000 in
set_option maxHeartbeats 4000000 in
theorem rBroken_0_0 (l w t : Int) (nv : Value) (n : List Int) (W : World) (hn : Ints W nv n) (hlen : n.length = 1) (hl : 1 ≤ l ∧ l ≤ 100000) (hw : 1 ≤ w ∧ w ≤ 100000) (ht : 1 ≤ t ∧ t ≤ 100000) (hb : ∀ i, i < n.length → -100000 ≤ n.getD i 0 ∧ n.getD i 0 ≤ 100000) :
    Calls Tryz.prog 89 #[vJ 0 l w t nv, .int .i64 0] W (Ret W (.bool (thinB t (n.getD 0 0) || thinB t (t - n.getD 0 0)))) := by
  have HN := Lib.hid hn
  unfold vJ at *
  obtain ⟨b, off, c, rfl, hcc, zb, hi⟩ := hn.at' (by omega)
  have n0 := hi 0 (by omega)
  rw [Nat.add_zero] at n0
  have b0 := hb 0 (by omega)
  rw [hlen]
  obtain ⟨r1, hr1⟩ : ∃ r, thinB t (n.getD 0 0) = r := ⟨_, rfl⟩
  try rw [hr1]
  obtain ⟨r2, hr2⟩ : ∃ r, thinB t (t - n.getD 0 0) = r := ⟨_, rfl⟩
  try rw [hr2]
  generalize n.getD 0 0 = x0 at *
  clear hi hn hb hcc
  have w1 : wrap64 (t - x0) = t - x0 := by unfold wrap64; omega
  have v1 : IntKind.i64.wrap (t - x0) = t - x0 := IntWalk.i64_in _ (by omega)
  -- a is t - x0
  obtain ⟨V, HV⟩ : ∃ V, Hid (W.alloc (.cells #[.int .i64 0, .int .i64 l, .int .i64 w, .int .i64 t, .slice (some ⟨b, off, none⟩) 1 c] 25) = V) := ⟨_, Lib.hid rfl⟩
  have hV : Below W.heap.size W V := by rw [← HV.out]; (repeat (first | exact brf | assumption | refine ble ?_ | refine blx ?_ | refine bla ?_ | refine bls ?_ | refine bld ?_))
  have HJ : Hid (V.heap[W.heap.size]? = some (.cells #[.int .i64 0, .int .i64 l, .int .i64 w, .int .i64 t, .slice (some ⟨b, off, none⟩) 1 c] 25 (0, 0))) := Lib.hid (by rw [← HV.out]; exact heap_new rfl)
  have zV := blk_lt HJ.out
  obtain ⟨c0, c1, c2, c3, c4, _, _⟩ := blk5 HJ.out
  go_enter Tryz.func89, Tryz.ntmps89
  go_wp2
  rw [HV.out]
  refine wp_region_quietB (by kernel_rfl) (by kernel_rfl) ?_
  repeat (first | go_big_quiet_step (fail) | quiet_step (fail))
  refine wpQuiet_nil ?_
  rintro _ ⟨u, rfl⟩
  have HJu := Lib.hid ((u.below.block _ zV).trans HJ.out)
  have hwu : Below W.heap.size W u.val := below_trans hV u.below
  clear c0 c1 c2 c3 c4
  generalize u.val = w9 at *
  clear u
  obtain ⟨c0, c1, c2, c3, c4, _, zju⟩ := blk5 HJu.out
  have zb9 := Nat.lt_of_lt_of_le zb hwu.size
  have n0 := below_cell hwu n0
  go_wp2
  cases r1
  · cases r2
    · refine wp_region_quietB (by kernel_rfl) (by kernel_rfl) ?_
      repeat (first | go_big_quiet_step ((go_at_call 149; exact quietB_ret (less_any _ _ _ (by omega)))) | quiet_step ((go_at_call 149; exact quietB_ret (less_any _ _ _ (by omega)))))
      refine wpQuiet_nil ?_
      rintro _ ⟨u, rfl⟩
      go_wp2
      go_ret
      exact ⟨ret_bool (by simp), by (repeat (first | exact brf | assumption | refine ble ?_ | refine blx ?_ | refine bla ?_ | refine bls ?_ | refine bld ?_))⟩
    · refine wp_region_quietB (by kernel_rfl) (by kernel_rfl) ?_
      repeat (first | go_big_quiet_step ((go_at_call 149; exact quietB_ret (less_any _ _ _ (by omega)))) | quiet_step ((go_at_call 149; exact quietB_ret (less_any _ _ _ (by omega)))))
      refine wpQuiet_nil ?_
      rintro _ ⟨u, rfl⟩
      go_wp2
      go_ret
      exact ⟨ret_bool (by simp), by (repeat (first | exact brf | assumption | refine ble ?_ | refine blx ?_ | refine bla ?_ | refine bls ?_ | refine bld ?_))⟩
  · cases r2
    · refine wp_region_quietB (by kernel_rfl) (by kernel_rfl) ?_
      repeat (first | go_big_quiet_step ((go_at_call 149; exact quietB_ret (less_any _ _ _ (by omega)))) | quiet_step ((go_at_call 149; exact quietB_ret (less_any _ _ _ (by omega)))))
      refine wpQuiet_nil ?_
      rintro _ ⟨u, rfl⟩
      go_wp2
      go_ret
      exact ⟨ret_bool (by simp), by (repeat (first | exact brf | assumption | refine ble ?_ | refine blx ?_ | refine bla ?_ | refine bls ?_ | refine bld ?_))⟩
    · refine wp_region_quietB (by kernel_rfl) (by kernel_rfl) ?_
      repeat (first | go_big_quiet_step ((go_at_call 149; exact quietB_ret (less_any _ _ _ (by omega)))) | quiet_step ((go_at_call 149; exact quietB_ret (less_any _ _ _ (by omega)))))
      refine wpQuiet_nil ?_
      rintro _ ⟨u, rfl⟩
      go_wp2
      go_ret
      exact ⟨ret_bool (by simp), by (repeat (first | exact brf | assumption | refine ble ?_ | refine blx ?_ | refine bla ?_ | refine bls ?_ | refine bld ?_))⟩
set_option linter.unusedVariables false in
set_option maxRecDepth 100000 in
set_option maxHeartbeats 4000000 in
theorem rBroken_0_10 (l w t : Int) (nv : Value) (n : List Int) (W : World) (hn : Ints W nv n) (hlen : n.length = 5) (hl : 1 ≤ l ∧ l ≤ 100000) (hw : 1 ≤ w ∧ w ≤ 100000) (ht : 1 ≤ t ∧ t ≤ 100000) (hb : ∀ i, i < n.length → -100000 ≤ n.getD i 0 ∧ n.getD i 0 ≤ 100000) :
    Calls Tryz.prog 89 #[vJ 10 l w t nv, .int .i64 0] W (Ret W (.bool (thinB t (n.getD 0 0) || thinB t (t - n.getD 0 0)))) := by
  have HN := Lib.hid hn
  unfold vJ at *
  obtain ⟨b, off, c, rfl, hcc, zb, hi⟩ := hn.at' (by omega)
  have n0 := hi 0 (by omega)
  rw [Nat.add_zero] at n0
  have b0 := hb 0 (by omega)
  rw [hlen]
  obtain ⟨r1, hr1⟩ : ∃ r, thinB t (n.getD 0 0) = r := ⟨_, rfl⟩
  try rw [hr1]
  obtain ⟨r2, hr2⟩ : ∃ r, thinB t (t - n.getD 0 0) = r := ⟨_, rfl⟩
  try rw [hr2]
  generalize n.getD 0 0 = x0 at *
  clear hi hn hb hcc
  have w1 : wrap64 (t - x0) = t - x0 := by unfold wrap64; omega
  have v1 : IntKind.i64.wrap (t - x0) = t - x0 := IntWalk.i64_in _ (by omega)
  -- a is t - x0
  obtain ⟨V, HV⟩ : ∃ V, Hid (W.alloc (.cells #[.int .i64 10, .int .i64 l, .int .i64 w, .int .i64 t, .slice (some ⟨b, off, none⟩) 5 c] 25) = V) := ⟨_, Lib.hid rfl⟩
  have hV : Below W.heap.size W V := by rw [← HV.out]; (repeat (first | exact brf | assumption | refine ble ?_ | refine blx ?_ | refine bla ?_ | refine bls ?_ | refine bld ?_))
  have HJ : Hid (V.heap[W.heap.size]? = some (.cells #[.int .i64 10, .int .i64 l, .int .i64 w, .int .i64 t, .slice (some ⟨b, off, none⟩) 5 c] 25 (0, 0))) := Lib.hid (by rw [← HV.out]; exact heap_new rfl)
  have zV := blk_lt HJ.out
  obtain ⟨c0, c1, c2, c3, c4, _, _⟩ := blk5 HJ.out
  go_enter Tryz.func89, Tryz.ntmps89
  go_wp2
  rw [HV.out]
  refine wp_region_quietB (by kernel_rfl) (by kernel_rfl) ?_
  repeat (first | go_big_quiet_step (fail) | quiet_step (fail))
  refine wpQuiet_nil ?_
  rintro _ ⟨u, rfl⟩
  have HJu := Lib.hid ((u.below.block _ zV).trans HJ.out)
  have hwu : Below W.heap.size W u.val := below_trans hV u.below
  clear c0 c1 c2 c3 c4
  generalize u.val = w9 at *
  clear u
  obtain ⟨c0, c1, c2, c3, c4, _, zju⟩ := blk5 HJu.out
  have zb9 := Nat.lt_of_lt_of_le zb hwu.size
  have n0 := below_cell hwu n0
  go_wp2
  cases r1
  · cases r2
    · refine wp_region_quietB (by kernel_rfl) (by kernel_rfl) ?_
      repeat (first | go_big_quiet_step ((go_at_call 149; exact quietB_ret (less_any _ _ _ (by omega)))) | quiet_step ((go_at_call 149; exact quietB_ret (less_any _ _ _ (by omega)))))
      refine wpQuiet_nil ?_
      rintro _ ⟨u, rfl⟩
      go_wp2
      go_ret
      exact ⟨ret_bool (by simp), by (repeat (first | exact brf | assumption | refine ble ?_ | refine blx ?_ | refine bla ?_ | refine bls ?_ | refine bld ?_))⟩
    · refine wp_region_quietB (by kernel_rfl) (by kernel_rfl) ?_
      repeat (first | go_big_quiet_step ((go_at_call 149; exact quietB_ret (less_any _ _ _ (by omega)))) | quiet_step ((go_at_call 149; exact quietB_ret (less_any _ _ _ (by omega)))))
      refine wpQuiet_nil ?_
      rintro _ ⟨u, rfl⟩
      go_wp2
      go_ret
      exact ⟨ret_bool (by simp), by (repeat (first | exact brf | assumption | refine ble ?_ | refine blx ?_ | refine bla ?_ | refine bls ?_ | refine bld ?_))⟩
  · cases r2
    · refine wp_region_quietB (by kernel_rfl) (by kernel_rfl) ?_
      repeat (first | go_big_quiet_step ((go_at_call 149; exact quietB_ret (less_any _ _ _ (by omega)))) | quiet_step ((go_at_call 149; exact quietB_ret (less_any _ _ _ (by omega)))))
      refine wpQuiet_nil ?_
      rintro _ ⟨u, rfl⟩
      go_wp2
      go_ret
      exact ⟨ret_bool (by simp), by (repeat (first | exact brf | assumption | refine ble ?_ | refine blx ?_ | refine bla ?_ | refine bls ?_ | refine bld ?_))⟩
    · refine wp_region_quietB (by kernel_rfl) (by kernel_rfl) ?_
      repeat (first | go_big_quiet_step ((go_at_call 149; exact quietB_ret (less_any _ _ _ (by omega)))) | quiet_step ((go_at_call 149; exact quietB_ret (less_any _ _ _ (by omega)))))
      refine wpQuiet_nil ?_
      rintro _ ⟨u, rfl⟩
      go_wp2
      go_ret
      exact ⟨ret_bool (by simp), by (repeat (first | exact brf | assumption | refine ble ?_ | refine blx ?_ | refine bla ?_ | refine bls ?_ | refine bld ?_))⟩
set_option linter.unusedVariables false in
set_option maxRecDepth 100000 in
set_option maxHeartbeats 4000000 in
theorem rBroken_0_1 (l w t : Int) (nv : Value) (n : List Int) (W : World) (hn : Ints W nv n) (hlen : n.length = 2) (hl : 1 ≤ l ∧ l ≤ 100000) (hw : 1 ≤ w ∧ w ≤ 100000) (ht : 1 ≤ t ∧ t ≤ 100000) (hb : ∀ i, i < n.length → -100000 ≤ n.getD i 0 ∧ n.getD i 0 ≤ 100000) :
    Calls Tryz.prog 89 #[vJ 1 l w t nv, .int .i64 0] W (Ret W (.bool (thinB t (n.getD 0 0) || (thinB t (n.getD 1 0 - n.getD 0 0) || thinB t (t - n.getD 1 0))))) := by
  have HN := Lib.hid hn
  unfold vJ at *
  obtain ⟨b, off, c, rfl, hcc, zb, hi⟩ := hn.at' (by omega)
  have n0 := hi 0 (by omega)
  have n1 := hi 1 (by omega)
  rw [Nat.add_zero] at n0
  have b0 := hb 0 (by omega)
  have b1 := hb 1 (by omega)
  rw [hlen]
  obtain ⟨r1, hr1⟩ : ∃ r, thinB t (n.getD 0 0) = r := ⟨_, rfl⟩
  try rw [hr1]
  obtain ⟨r2, hr2⟩ : ∃ r, thinB t (n.getD 1 0 - n.getD 0 0) = r := ⟨_, rfl⟩
  try rw [hr2]
  obtain ⟨r3, hr3⟩ : ∃ r, thinB t (t - n.getD 1 0) = r := ⟨_, rfl⟩
  try rw [hr3]
  generalize n.getD 0 0 = x0 at *
  generalize n.getD 1 0 = x1 at *
  clear hi hn hb hcc
  have w1 : wrap64 (x1 - x0) = x1 - x0 := by unfold wrap64; omega
  have v1 : IntKind.i64.wrap (x1 - x0) = x1 - x0 := IntWalk.i64_in _ (by omega)
  -- a is x1 - x0
  have w2 : wrap64 (t - x1) = t - x1 := by unfold wrap64; omega
  have v2 : IntKind.i64.wrap (t - x1) = t - x1 := IntWalk.i64_in _ (by omega)
  -- b is t - x1
  obtain ⟨V, HV⟩ : ∃ V, Hid (W.alloc (.cells #[.int .i64 1, .int .i64 l, .int .i64 w, .int .i64 t, .slice (some ⟨b, off, none⟩) 2 c] 25) = V) := ⟨_, Lib.hid rfl⟩
  have hV : Below W.heap.size W V := by rw [← HV.out]; (repeat (first | exact brf | assumption | refine ble ?_ | refine blx ?_ | refine bla ?_ | refine bls ?_ | refine bld ?_))
  have HJ : Hid (V.heap[W.heap.size]? = some (.cells #[.int .i64 1, .int .i64 l, .int .i64 w, .int .i64 t, .slice (some ⟨b, off, none⟩) 2 c] 25 (0, 0))) := Lib.hid (by rw [← HV.out]; exact heap_new rfl)
  have zV := blk_lt HJ.out
  obtain ⟨c0, c1, c2, c3, c4, _, _⟩ := blk5 HJ.out
  go_enter Tryz.func89, Tryz.ntmps89
  go_wp2
  rw [HV.out]
  refine wp_region_quietB (by kernel_rfl) (by kernel_rfl) ?_
  repeat (first | go_big_quiet_step (fail) | quiet_step (fail))
  refine wpQuiet_nil ?_
  rintro _ ⟨u, rfl⟩
  have HJu := Lib.hid ((u.below.block _ zV).trans HJ.out)
  have hwu : Below W.heap.size W u.val := below_trans hV u.below
  clear c0 c1 c2 c3 c4
  generalize u.val = w9 at *
  clear u
  obtain ⟨c0, c1, c2, c3, c4, _, zju⟩ := blk5 HJu.out
  have zb9 := Nat.lt_of_lt_of_le zb hwu.size
  have n0 := below_cell hwu n0
  have n1 := below_cell hwu n1
  go_wp2
  cases r1
  · cases r2
    · refine wp_region_quietB (by kernel_rfl) (by kernel_rfl) ?_
      repeat (first | go_big_quiet_step ((go_at_call 149; exact quietB_ret (less_any _ _ _ (by omega)))) | quiet_step ((go_at_call 149; exact quietB_ret (less_any _ _ _ (by omega)))))
      refine wpQuiet_nil ?_
      rintro _ ⟨u, rfl⟩
      go_wp2
      go_ret
      exact ⟨ret_bool (by simp), by (repeat (first | exact brf | assumption | refine ble ?_ | refine blx ?_ | refine bla ?_ | refine bls ?_ | refine bld ?_))⟩
    · refine wp_region_quietB (by kernel_rfl) (by kernel_rfl) ?_
      repeat (first | go_big_quiet_step ((go_at_call 149; exact quietB_ret (less_any _ _ _ (by omega)))) | quiet_step ((go_at_call 149; exact quietB_ret (less_any _ _ _ (by omega)))))
      refine wpQuiet_nil ?_
      rintro _ ⟨u, rfl⟩
      go_wp2
      go_ret
      exact ⟨ret_bool (by simp), by (repeat (first | exact brf | assumption | refine ble ?_ | refine blx ?_ | refine bla ?_ | refine bls ?_ | refine bld ?_))⟩
  · cases r2
    · refine wp_region_quietB (by kernel_rfl) (by kernel_rfl) ?_
      repeat (first | go_big_quiet_step ((go_at_call 149; exact quietB_ret (less_any _ _ _ (by omega)))) | quiet_step ((go_at_call 149; exact quietB_ret (less_any _ _ _ (by omega)))))
      refine wpQuiet_nil ?_
      rintro _ ⟨u, rfl⟩
      go_wp2
      go_ret
      exact ⟨ret_bool (by simp), by (repeat (first | exact brf | assumption | refine ble ?_ | refine blx ?_ | refine bla ?_ | refine bls ?_ | refine bld ?_))⟩
    · refine wp_region_quietB (by kernel_rfl) (by kernel_rfl) ?_
      repeat (first | go_big_quiet_step ((go_at_call 149; exact quietB_ret (less_any _ _ _ (by omega)))) | quiet_step ((go_at_call 149; exact quietB_ret (less_any _ _ _ (by omega)))))
      refine wpQuiet_nil ?_
      rintro _ ⟨u, rfl⟩
      go_wp2
      go_ret
      exact ⟨ret_bool (by simp), by (repeat (first | exact brf | assumption | refine ble ?_ | refine blx ?_ | refine bla ?_ | refine bls ?_ | refine bld ?_))⟩
set_option linter.unusedVariables false in
set_option maxRecDepth 100000 in
set_option maxHeartbeats 4000000 in
theorem rBroken_0_no (k : Int) (l w t : Int) (nv : Value) (n : List Int) (W : World) (hn : Ints W nv n) (hlen : 1 ≤ n.length) (hl : 1 ≤ l ∧ l ≤ 100000) (hw : 1 ≤ w ∧ w ≤ 100000) (ht : 1 ≤ t ∧ t ≤ 100000) (hb : ∀ i, i < n.length → -100000 ≤ n.getD i 0 ∧ n.getD i 0 ≤ 100000) (hk0 : k ≠ 0) (hk10 : k ≠ 10) (hk1 : k ≠ 1) :
    Calls Tryz.prog 89 #[vJ k l w t nv, .int .i64 0] W (Ret W (.bool (false))) := by
  have HN := Lib.hid hn
  unfold vJ at *
  obtain ⟨b, off, c, rfl, hcc, zb, hi⟩ := hn.at' (by omega)
  have kk0 : (k == 0) = false := by simpa using hk0
  have kn0 : (k != 0) = true := by simpa using hk0
  have kk10 : (k == 10) = false := by simpa using hk10
  have kn10 : (k != 10) = true := by simpa using hk10
  have kk1 : (k == 1) = false := by simpa using hk1
  have kn1 : (k != 1) = true := by simpa using hk1
  generalize n.length = q at *
  clear hi hn hb hcc
  obtain ⟨V, HV⟩ : ∃ V, Hid (W.alloc (.cells #[.int .i64 k, .int .i64 l, .int .i64 w, .int .i64 t, .slice (some ⟨b, off, none⟩) q c] 25) = V) := ⟨_, Lib.hid rfl⟩
  have hV : Below W.heap.size W V := by rw [← HV.out]; (repeat (first | exact brf | assumption | refine ble ?_ | refine blx ?_ | refine bla ?_ | refine bls ?_ | refine bld ?_))
  have HJ : Hid (V.heap[W.heap.size]? = some (.cells #[.int .i64 k, .int .i64 l, .int .i64 w, .int .i64 t, .slice (some ⟨b, off, none⟩) q c] 25 (0, 0))) := Lib.hid (by rw [← HV.out]; exact heap_new rfl)
  have zV := blk_lt HJ.out
  obtain ⟨c0, c1, c2, c3, c4, _, _⟩ := blk5 HJ.out
  go_enter Tryz.func89, Tryz.ntmps89
  go_wp2
  rw [HV.out]
  refine wp_region_quietB (by kernel_rfl) (by kernel_rfl) ?_
  repeat (first | go_big_quiet_step (fail) | quiet_step (fail))
  refine wpQuiet_nil ?_
  rintro _ ⟨u, rfl⟩
  have HJu := Lib.hid ((u.below.block _ zV).trans HJ.out)
  have hwu : Below W.heap.size W u.val := below_trans hV u.below
  clear c0 c1 c2 c3 c4
  generalize u.val = w9 at *
  clear u
  obtain ⟨c0, c1, c2, c3, c4, _, zju⟩ := blk5 HJu.out
  have zb9 := Nat.lt_of_lt_of_le zb hwu.size
  go_wp2
  refine wp_region_quietB (by kernel_rfl) (by kernel_rfl) ?_
  repeat (first | go_big_quiet_step (fail) | quiet_step (fail))
  refine wpQuiet_nil ?_
  rintro _ ⟨u, rfl⟩
  go_wp2
  go_ret
  exact ⟨ret_bool rfl, by (repeat (first | exact brf | assumption | refine ble ?_ | refine blx ?_ | refine bla ?_ | refine bls ?_ | refine bld ?_))⟩
end
/- The reference of joints: Broken, Proportions; joint.Proportions. -/
section
open Go.RowKit Go.Shelf
attribute [local go_sem] Ext.cell Ext.frozen
theorem Good.ge1 {k l w t : Int} {n : List Int} (g : Good k l w t n) : 1 ≤ n.length := by
  obtain ⟨a0, a1, a2, a3, a4, a5, a6, a7, a8, a9, a10⟩ := cnt_of g.cnt g.kind
  have hk := g.kind
  rcases (by omega : k = 0 ∨ k = 1 ∨ k = 2 ∨ k = 3 ∨ k = 4 ∨ k = 5 ∨ k = 6 ∨ k = 7 ∨ k = 8 ∨ k = 9 ∨ k = 10) with h | h | h | h | h | h | h | h | h | h | h
  all_goals first | (have := a0 h; omega) | (have := a1 h; omega) | (have := a2 h; omega) | (have := a3 h; omega) | (have := a4 h; omega) | (have := a5 h; omega) | (have := a6 h; omega) | (have := a7 h; omega) | (have := a8 h; omega) | (have := a9 h; omega) | (have := a10 h; omega)
theorem rBroken_any (k l w t : Int) (nv : Value) (n : List Int) (W : World) (hn : Ints W nv n) (g : Good k l w t n) (r : Nat) (hr : r < 8) :
    Calls Tryz.prog 89 #[vJ k l w t nv, .int .i64 r] W (Ret W (.bool (brkB k l w t n r))) := by
  obtain ⟨hl, hw, ht⟩ := g.dims
  have hb := g.bd
  have h24 := g.len
  have h1 := g.ge1
  obtain ⟨a0, a1, a2, a3, a4, a5, a6, a7, a8, a9, a10⟩ := cnt_of g.cnt g.kind
  have hk := g.kind
  rcases (by omega : r = 0 ∨ r = 1 ∨ r = 2 ∨ r = 3 ∨ r = 4 ∨ r = 5 ∨ r = 6 ∨ r = 7) with rfl | rfl | rfl | rfl | rfl | rfl | rfl | rfl
  · by_cases e0 : k = 0
    · subst e0; exact rBroken_0_0 l w t nv n W hn (a0 rfl) hl hw ht hb
    · by_cases e10 : k = 10
      · subst e10; exact rBroken_0_10 l w t nv n W hn (a10 rfl) hl hw ht hb
      · by_cases e1 : k = 1
        · subst e1; exact rBroken_0_1 l w t nv n W hn (a1 rfl) hl hw ht hb
        · have : brkB k l w t n 0 = false := by simp [brkB, e0, e10, e1]
          rw [this]
          exact rBroken_0_no k l w t nv n W hn h1 hl hw ht hb e0 e10 e1
  · by_cases e0 : k = 2
    · subst e0; exact rBroken_1_2 l w t nv n W hn (a2 rfl) hl hw ht hb
    · by_cases e10 : k = 3
      · subst e10; exact rBroken_1_3 l w t nv n W hn (a3 rfl) hl hw ht hb
      · by_cases e1 : k = 4
        · subst e1; exact rBroken_1_4 l w t nv n W hn (a4 rfl) hl hw ht hb
        · have : brkB k l w t n 1 = false := by simp [brkB, e0, e10, e1]
          rw [this]
          exact rBroken_1_no k l w t nv n W hn h1 hl hw ht hb e0 e10 e1
  · by_cases e0 : k = 3
    · subst e0; exact rBroken_2_3 l w t nv n W hn (a3 rfl) hl hw ht hb
    · by_cases e10 : k = 4
      · subst e10; exact rBroken_2_4 l w t nv n W hn (a4 rfl) hl hw ht hb
      · by_cases e1 : k = 8
        · subst e1; exact rBroken_2_8 l w t nv n W hn (a8 rfl).1 h24 hl hw ht hb
        · have : brkB k l w t n 2 = false := by simp [brkB, e0, e10, e1]
          rw [this]
          exact rBroken_2_no k l w t nv n W hn h1 hl hw ht hb e0 e10 e1
  · by_cases e0 : k = 9
    · subst e0; exact rBroken_3_9 l w t nv n W hn (a9 rfl) hl hw ht hb
    · by_cases e10 : k = 2
      · subst e10; exact rBroken_3_2 l w t nv n W hn (a2 rfl) hl hw ht hb
      · by_cases e1 : k = 3
        · subst e1; exact rBroken_3_3 l w t nv n W hn (a3 rfl) hl hw ht hb
        · have : brkB k l w t n 3 = false := by simp [brkB, e0, e10, e1]
          rw [this]
          exact rBroken_3_no k l w t nv n W hn h1 hl hw ht hb e0 e10 e1
  · by_cases e0 : k = 5
    · subst e0; exact rBroken_4_5 l w t nv n W hn (a5 rfl) h24 hl hw ht hb
    · have : brkB k l w t n 4 = false := by simp [brkB, e0]
      rw [this]
      exact rBroken_4_no k l w t nv n W hn h1 hl hw ht hb e0
  · by_cases e0 : k = 5
    · subst e0; exact rBroken_5_5 l w t nv n W hn (a5 rfl) h24 hl hw ht hb g.tails
    · have : brkB k l w t n 5 = false := by simp [brkB, e0]
      rw [this]
      exact rBroken_5_no k l w t nv n W hn h1 hl hw ht hb e0
  · by_cases e0 : k = 6
    · subst e0; exact rBroken_6_6 l w t nv n W hn (a6 rfl) hl hw ht hb g.scarf.1 g.scarf.2
    · have : brkB k l w t n 6 = false := by simp [brkB, e0]
      rw [this]
      exact rBroken_6_no k l w t nv n W hn h1 hl hw ht hb e0
  · by_cases e0 : k = 8
    · subst e0
      have := a8 rfl
      exact rBroken_7_8 l w t nv n W hn (dowN n) (by unfold dowN; omega) (by unfold dowN; omega) (by unfold dowN; omega) hl hw ht hb
    · have : brkB k l w t n 7 = false := by simp [brkB, e0]
      rw [this]
      exact rBroken_7_no k l w t nv n W hn h1 hl hw ht hb e0
set_option maxRecDepth 100000 in
set_option maxHeartbeats 2000000 in
theorem rProportions_any (k l w t : Int) (nv : Value) (n : List Int) (W : World) (hn : Ints W nv n) (g : Good k l w t n) :
    Calls Tryz.prog 39 #[vJ k l w t nv] W (RetL W (brkTo k l w t n 8)) := by
  obtain ⟨i0, hi0, hz0, hz1, hz2⟩ := info_parts info_intz
  have Hi0 := Lib.hid (And.intro hi0 (And.intro hz0 (And.intro hz1 hz2)))
  clear hi0 hz0 hz1 hz2
  have hB := fun W' h r hr => Lib.hid (rBroken_any k l w t nv n W' (hn.below (w' := W') h) g r hr)
  have HS : Hid (∀ j, brkTo k l w t n (j + 1) = brkTo k l w t n j ++ if brkB k l w t n j then [(j : Int)] else []) := Lib.hid (fun j => brkTo_succ k l w t n j)
  have HL : Hid (∀ j, (brkTo k l w t n j).length ≤ j) := Lib.hid (fun j => brkTo_len k l w t n j)
  have H0 : Hid (brkTo k l w t n 0 = []) := Lib.hid (by simp [brkTo])
  unfold vJ at *
  obtain ⟨a, m, c, rfl, hlen, hc, hx⟩ := hn
  clear hx hlen hc
  generalize brkB k l w t n = bB at *
  generalize brkTo k l w t n = bT at *
  obtain ⟨V, HV⟩ : ∃ V, Hid (W.alloc (.cells #[.int .i64 k, .int .i64 l, .int .i64 w, .int .i64 t, .slice a m c] 25) = V) := ⟨_, Lib.hid rfl⟩
  have hV : Below W.heap.size W V := by rw [← HV.out]; (repeat (first | exact brf | assumption | refine ble ?_ | refine blx ?_ | refine bla ?_ | refine bls ?_ | refine bld ?_))
  have HJ : Hid (V.heap[W.heap.size]? = some (.cells #[.int .i64 k, .int .i64 l, .int .i64 w, .int .i64 t, .slice a m c] 25 (0, 0))) := Lib.hid (by rw [← HV.out]; exact heap_new rfl)
  go_enter Tryz.func39, Tryz.ntmps39
  go_wp2
  rw [HV.out]
  go_loopw [3, 4] (fun s i wr => ∃ j q : Nat, j ≤ 8 ∧ q ≤ j ∧ i = .int .i64 j ∧ Below V.heap.size V wr ∧ Hid (q = (bT j).length) ∧ Hid (wr.ownsRow V.heap.size 3 1 s q ((bT j).map (Value.int .i64)))) (fun _ i _ => 8 - (intOf i).toNat)
  case atStart => exact ⟨0, 0, by omega, by omega, rfl, Below.refl _ _, Lib.hid (by rw [H0.out]; rfl), Lib.hid (by rw [H0.out]; exact World.ownsRow_nil _ _ _ _)⟩
  case round =>
    obtain ⟨j, q, hj, hq, rfl, hbj, HQ, HO⟩ := hrel
    obtain ⟨sa, sc, rfl⟩ := own_sliceI HO.out
    by_cases hlt : j < 8
    · have HJj := Lib.hid ((hbj.block _ (blk_lt HJ.out)).trans HJ.out)
      have c0 := (blk_cell HJj.out 0).trans rfl
      have c1 := (blk_cell HJj.out 1).trans rfl
      have c2 := (blk_cell HJj.out 2).trans rfl
      have c3 := (blk_cell HJj.out 3).trans rfl
      have c4 := (blk_cell HJj.out 4).trans rfl
      simp only [List.getElem?_toArray, List.getElem?_cons_zero, List.getElem?_cons_succ] at c0 c1 c2 c3 c4
      have zj := blk_lt HJj.out
      have hBj := fun W' h => hB W' h j hlt
      have Hs := Lib.hid (HS.out j)
      generalize bB j = bj at *
      cases bj
      · go_wp2_with fail
        refine ((hBj _ (below_trans hV hbj)).out).mono ?_
        rintro e w1 ⟨rfl, hb1⟩
        go_wp2
        go_roundw
        case rel => exact ⟨j + 1, q, by omega, by omega, by go_num, below_trans hbj hb1, Lib.hid (by rw [Hs.out, HQ.out]; simp), Lib.hid (by rw [Hs.out]; simpa using own_below HO.out hb1)⟩
        case measure => simp [intOf]; omega
      · go_wp2_with fail
        refine ((hBj _ (below_trans hV hbj)).out).mono ?_
        rintro e w1 ⟨rfl, hb1⟩
        have HO1 := Lib.hid (own_below HO.out hb1)
        have hb1j := below_trans hbj hb1
        clear HO c0 c1 c2 c3 c4 zj HJj
        go_wp2_with (at_builtin; refine wpList_append_own _ rfl _ _ 23 rfl V.heap.size 3 i0 (.int .i64 0) 1 8 und_ints Hi0.out.1 Hi0.out.2.1 Hi0.out.2.2.1 Hi0.out.2.2.2 rfl (by decide) _ q _ rfl (HO1.out.alloc _) ⟨(w1).heap.size, 0, none⟩ 1 1 [.int .i64 ((j : Int))] rfl rfl ?c1 ?c2 ?c3 ?c4 ?c5 ?_)
        try (case c1 =>
          intro jj uu hu
          rw [add0, cell_new rfl jj]
          simpa using hu)
        case c2 => first | (intro v hv; simp at hv; subst hv; rfl) | rfl
        case c3 => unfold maxLen; omega
        case c4 => omega
        case c5 => (try simp); have := hb1j.size; omega
        intro v' w2 hown2 hg2 _
        have hb2 : Below V.heap.size V w2 := (hb1j.alloc hb1j.size _).grown hg2 (by simp; have := hb1j.size; omega) (fun z hz => by have := (HO1.out.lt z hz).1; omega)
        have HO2 := Lib.hid hown2
        obtain ⟨va, vc, rfl⟩ := own_sliceI hown2
        clear hown2 hg2
        go_wp2
        go_roundw
        case rel => exact ⟨j + 1, q + 1, by omega, by omega, by go_num, hb2, Lib.hid (by rw [Hs.out, HQ.out]; simp), Lib.hid (by rw [Hs.out]; simpa using HO2.out)⟩
        case measure => simp [intOf]; omega
    · obtain rfl : j = 8 := by omega
      go_wp2
      go_ret
      refine ⟨_, rfl, below_trans hV hbj, ?_, ok_own HO.out⟩
      refine ints_own (base := V.heap.size) (T := 3) ?_
      rw [← HQ.out]
      exact HO.out
end
end Go.Proofs.YtjglkglaogaenaaGreatDoor
