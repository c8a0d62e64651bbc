/- texts of mine, merged: Q8. -/
import Derived.Test.YtjglkglaogaenaaGreatDoorGAD
/- The reference of joints: Broken, rule by rule (written by gen_rbroken.py). -/
namespace Go.Proofs.YtjglkglaogaenaaGreatDoor
open Go.RowKit Go.Shelf
attribute [local go_sem] Ext.cell Ext.frozen

set_option linter.unusedVariables false in
set_option maxRecDepth 100000 in
set_option maxHeartbeats 4000000 in
theorem rBroken_1_2 (l w t : Int) (nv : Value) (n : List Int) (W : World) (hn : Ints W nv n) (hlen : n.length = 4) (hl : 1 ≤ l ∧ l ≤ 100000) (hw : 1 ≤ w ∧ w ≤ 100000) (ht : 1 ≤ t ∧ t ≤ 100000) (hb : ∀ i, i < n.length → -100000 ≤ n.getD i 0 ∧ n.getD i 0 ≤ 100000) :
    Calls Tryz.prog 89 #[vJ 2 l w t nv, .int .i64 1] W (Ret W (.bool (thinB t (n.getD 3 0 - n.getD 2 0) || decide (t < 2 * (n.getD 3 0 - n.getD 2 0))))) := by
  have HN := Lib.hid hn
  unfold vJ at *
  obtain ⟨b, off, c, rfl, hcc, zb, hi⟩ := hn.at' (by omega)
  have n2 := hi 2 (by omega)
  have n3 := hi 3 (by omega)
  have b2 := hb 2 (by omega)
  have b3 := hb 3 (by omega)
  rw [hlen]
  obtain ⟨r1, hr1⟩ : ∃ r, thinB t (n.getD 3 0 - n.getD 2 0) = r := ⟨_, rfl⟩
  try rw [hr1]
  have hW := fun W' => Lib.hid (bwithin_any 2 2 4 W')
  simp only [Int.reduceLE, and_self, decide_true] at hW
  generalize n.getD 2 0 = x2 at *
  generalize n.getD 3 0 = x3 at *
  clear hi hn hb hcc
  have w1 : wrap64 (x3 - x2) = x3 - x2 := by unfold wrap64; omega
  have v1 : IntKind.i64.wrap (x3 - x2) = x3 - x2 := IntWalk.i64_in _ (by omega)
  have w2 : wrap64 (2 * (x3 - x2)) = 2 * (x3 - x2) := by unfold wrap64; omega
  have v2 : IntKind.i64.wrap (2 * (x3 - x2)) = 2 * (x3 - x2) := IntWalk.i64_in _ (by omega)
  -- a is 2 * (x3 - x2)
  obtain ⟨V, HV⟩ : ∃ V, Hid (W.alloc (.cells #[.int .i64 2, .int .i64 l, .int .i64 w, .int .i64 t, .slice (some ⟨b, off, none⟩) 4 c] 25) = V) := ⟨_, Lib.hid rfl⟩
  have hV : Below W.heap.size W V := by rw [← HV.out]; (repeat (first | exact brf | assumption | refine ble ?_ | refine blx ?_ | refine bla ?_ | refine bls ?_ | refine bld ?_))
  have HJ : Hid (V.heap[W.heap.size]? = some (.cells #[.int .i64 2, .int .i64 l, .int .i64 w, .int .i64 t, .slice (some ⟨b, off, none⟩) 4 c] 25 (0, 0))) := Lib.hid (by rw [← HV.out]; exact heap_new rfl)
  have zV := blk_lt HJ.out
  obtain ⟨c0, c1, c2, c3, c4, _, _⟩ := blk5 HJ.out
  go_enter Tryz.func89, Tryz.ntmps89
  go_wp2
  rw [HV.out]
  refine wp_region_quietB (by kernel_rfl) (by kernel_rfl) ?_
  repeat (first | go_big_quiet_step (fail) | quiet_step (fail))
  refine wpQuiet_nil ?_
  rintro _ ⟨u, rfl⟩
  have HJu := Lib.hid ((u.below.block _ zV).trans HJ.out)
  have hwu : Below W.heap.size W u.val := below_trans hV u.below
  clear c0 c1 c2 c3 c4
  generalize u.val = w9 at *
  clear u
  obtain ⟨c0, c1, c2, c3, c4, _, zju⟩ := blk5 HJu.out
  have zb9 := Nat.lt_of_lt_of_le zb hwu.size
  have n2 := below_cell hwu n2
  have n3 := below_cell hwu n3
  cases r1
  · go_wp2_with fail
    refine ((hW _).out).mono ?_
    rintro e wG ⟨rfl, rfl⟩
    go_wp2
    refine wp_region_quietB (by kernel_rfl) (by kernel_rfl) ?_
    repeat (first | go_big_quiet_step (fail) | quiet_step (fail))
    refine wpQuiet_nil ?_
    rintro _ ⟨u, rfl⟩
    have hwv : Below W.heap.size W u.val := by (repeat (first | exact brf | assumption | refine ble ?_ | refine blx ?_ | refine bla ?_ | refine bls ?_ | refine bld ?_))
    go_wp2_with fail
    refine (less_any _ _ _ (by omega)).mono ?_
    rintro e w7 ⟨rfl, hb7⟩
    go_wp2
    go_ret
    exact ⟨ret_bool (by simp), below_trans hwv hb7⟩
  · go_wp2_with fail
    refine ((hW _).out).mono ?_
    rintro e wG ⟨rfl, rfl⟩
    go_wp2
    refine wp_region_quietB (by kernel_rfl) (by kernel_rfl) ?_
    repeat (first | go_big_quiet_step (fail) | quiet_step (fail))
    refine wpQuiet_nil ?_
    rintro _ ⟨u, rfl⟩
    have hwv : Below W.heap.size W u.val := by (repeat (first | exact brf | assumption | refine ble ?_ | refine blx ?_ | refine bla ?_ | refine bls ?_ | refine bld ?_))
    go_wp2_with fail
    refine (less_any _ _ _ (by omega)).mono ?_
    rintro e w7 ⟨rfl, hb7⟩
    go_wp2
    go_ret
    exact ⟨ret_bool (by simp), below_trans hwv hb7⟩

set_option linter.unusedVariables false in
set_option maxRecDepth 100000 in
set_option maxHeartbeats 4000000 in
theorem rBroken_1_4 (l w t : Int) (nv : Value) (n : List Int) (W : World) (hn : Ints W nv n) (hlen : n.length = 4) (hl : 1 ≤ l ∧ l ≤ 100000) (hw : 1 ≤ w ∧ w ≤ 100000) (ht : 1 ≤ t ∧ t ≤ 100000) (hb : ∀ i, i < n.length → -100000 ≤ n.getD i 0 ∧ n.getD i 0 ≤ 100000) :
    Calls Tryz.prog 89 #[vJ 4 l w t nv, .int .i64 1] W (Ret W (.bool (thinB t (n.getD 3 0 - n.getD 2 0) || decide (t < 2 * (n.getD 3 0 - n.getD 2 0))))) := by
  have HN := Lib.hid hn
  unfold vJ at *
  obtain ⟨b, off, c, rfl, hcc, zb, hi⟩ := hn.at' (by omega)
  have n2 := hi 2 (by omega)
  have n3 := hi 3 (by omega)
  have b2 := hb 2 (by omega)
  have b3 := hb 3 (by omega)
  rw [hlen]
  obtain ⟨r1, hr1⟩ : ∃ r, thinB t (n.getD 3 0 - n.getD 2 0) = r := ⟨_, rfl⟩
  try rw [hr1]
  have hW := fun W' => Lib.hid (bwithin_any 4 2 4 W')
  simp only [Int.reduceLE, and_self, decide_true] at hW
  generalize n.getD 2 0 = x2 at *
  generalize n.getD 3 0 = x3 at *
  clear hi hn hb hcc
  have w1 : wrap64 (x3 - x2) = x3 - x2 := by unfold wrap64; omega
  have v1 : IntKind.i64.wrap (x3 - x2) = x3 - x2 := IntWalk.i64_in _ (by omega)
  have w2 : wrap64 (2 * (x3 - x2)) = 2 * (x3 - x2) := by unfold wrap64; omega
  have v2 : IntKind.i64.wrap (2 * (x3 - x2)) = 2 * (x3 - x2) := IntWalk.i64_in _ (by omega)
  -- a is 2 * (x3 - x2)
  obtain ⟨V, HV⟩ : ∃ V, Hid (W.alloc (.cells #[.int .i64 4, .int .i64 l, .int .i64 w, .int .i64 t, .slice (some ⟨b, off, none⟩) 4 c] 25) = V) := ⟨_, Lib.hid rfl⟩
  have hV : Below W.heap.size W V := by rw [← HV.out]; (repeat (first | exact brf | assumption | refine ble ?_ | refine blx ?_ | refine bla ?_ | refine bls ?_ | refine bld ?_))
  have HJ : Hid (V.heap[W.heap.size]? = some (.cells #[.int .i64 4, .int .i64 l, .int .i64 w, .int .i64 t, .slice (some ⟨b, off, none⟩) 4 c] 25 (0, 0))) := Lib.hid (by rw [← HV.out]; exact heap_new rfl)
  have zV := blk_lt HJ.out
  obtain ⟨c0, c1, c2, c3, c4, _, _⟩ := blk5 HJ.out
  go_enter Tryz.func89, Tryz.ntmps89
  go_wp2
  rw [HV.out]
  refine wp_region_quietB (by kernel_rfl) (by kernel_rfl) ?_
  repeat (first | go_big_quiet_step (fail) | quiet_step (fail))
  refine wpQuiet_nil ?_
  rintro _ ⟨u, rfl⟩
  have HJu := Lib.hid ((u.below.block _ zV).trans HJ.out)
  have hwu : Below W.heap.size W u.val := below_trans hV u.below
  clear c0 c1 c2 c3 c4
  generalize u.val = w9 at *
  clear u
  obtain ⟨c0, c1, c2, c3, c4, _, zju⟩ := blk5 HJu.out
  have zb9 := Nat.lt_of_lt_of_le zb hwu.size
  have n2 := below_cell hwu n2
  have n3 := below_cell hwu n3
  cases r1
  · go_wp2_with fail
    refine ((hW _).out).mono ?_
    rintro e wG ⟨rfl, rfl⟩
    go_wp2
    refine wp_region_quietB (by kernel_rfl) (by kernel_rfl) ?_
    repeat (first | go_big_quiet_step (fail) | quiet_step (fail))
    refine wpQuiet_nil ?_
    rintro _ ⟨u, rfl⟩
    have hwv : Below W.heap.size W u.val := by (repeat (first | exact brf | assumption | refine ble ?_ | refine blx ?_ | refine bla ?_ | refine bls ?_ | refine bld ?_))
    go_wp2_with fail
    refine (less_any _ _ _ (by omega)).mono ?_
    rintro e w7 ⟨rfl, hb7⟩
    go_wp2
    go_ret
    exact ⟨ret_bool (by simp), below_trans hwv hb7⟩
  · go_wp2_with fail
    refine ((hW _).out).mono ?_
    rintro e wG ⟨rfl, rfl⟩
    go_wp2
    refine wp_region_quietB (by kernel_rfl) (by kernel_rfl) ?_
    repeat (first | go_big_quiet_step (fail) | quiet_step (fail))
    refine wpQuiet_nil ?_
    rintro _ ⟨u, rfl⟩
    have hwv : Below W.heap.size W u.val := by (repeat (first | exact brf | assumption | refine ble ?_ | refine blx ?_ | refine bla ?_ | refine bls ?_ | refine bld ?_))
    go_wp2_with fail
    refine (less_any _ _ _ (by omega)).mono ?_
    rintro e w7 ⟨rfl, hb7⟩
    go_wp2
    go_ret
    exact ⟨ret_bool (by simp), below_trans hwv hb7⟩

set_option linter.unusedVariables false in
set_option maxRecDepth 100000 in
set_option maxHeartbeats 4000000 in
theorem rBroken_1_3 (l w t : Int) (nv : Value) (n : List Int) (W : World) (hn : Ints W nv n) (hlen : n.length = 6) (hl : 1 ≤ l ∧ l ≤ 100000) (hw : 1 ≤ w ∧ w ≤ 100000) (ht : 1 ≤ t ∧ t ≤ 100000) (hb : ∀ i, i < n.length → -100000 ≤ n.getD i 0 ∧ n.getD i 0 ≤ 100000) :
    Calls Tryz.prog 89 #[vJ 3 l w t nv, .int .i64 1] W (Ret W (.bool (thinB t (n.getD 5 0 - n.getD 4 0) || decide (t < 2 * (n.getD 5 0 - n.getD 4 0))))) := by
  have HN := Lib.hid hn
  unfold vJ at *
  obtain ⟨b, off, c, rfl, hcc, zb, hi⟩ := hn.at' (by omega)
  have n4 := hi 4 (by omega)
  have n5 := hi 5 (by omega)
  have b4 := hb 4 (by omega)
  have b5 := hb 5 (by omega)
  rw [hlen]
  obtain ⟨r1, hr1⟩ : ∃ r, thinB t (n.getD 5 0 - n.getD 4 0) = r := ⟨_, rfl⟩
  try rw [hr1]
  have hW := fun W' => Lib.hid (bwithin_any 3 2 4 W')
  simp only [Int.reduceLE, and_self, decide_true] at hW
  generalize n.getD 4 0 = x4 at *
  generalize n.getD 5 0 = x5 at *
  clear hi hn hb hcc
  have w1 : wrap64 (x5 - x4) = x5 - x4 := by unfold wrap64; omega
  have v1 : IntKind.i64.wrap (x5 - x4) = x5 - x4 := IntWalk.i64_in _ (by omega)
  have w2 : wrap64 (2 * (x5 - x4)) = 2 * (x5 - x4) := by unfold wrap64; omega
  have v2 : IntKind.i64.wrap (2 * (x5 - x4)) = 2 * (x5 - x4) := IntWalk.i64_in _ (by omega)
  -- a is 2 * (x5 - x4)
  obtain ⟨V, HV⟩ : ∃ V, Hid (W.alloc (.cells #[.int .i64 3, .int .i64 l, .int .i64 w, .int .i64 t, .slice (some ⟨b, off, none⟩) 6 c] 25) = V) := ⟨_, Lib.hid rfl⟩
  have hV : Below W.heap.size W V := by rw [← HV.out]; (repeat (first | exact brf | assumption | refine ble ?_ | refine blx ?_ | refine bla ?_ | refine bls ?_ | refine bld ?_))
  have HJ : Hid (V.heap[W.heap.size]? = some (.cells #[.int .i64 3, .int .i64 l, .int .i64 w, .int .i64 t, .slice (some ⟨b, off, none⟩) 6 c] 25 (0, 0))) := Lib.hid (by rw [← HV.out]; exact heap_new rfl)
  have zV := blk_lt HJ.out
  obtain ⟨c0, c1, c2, c3, c4, _, _⟩ := blk5 HJ.out
  go_enter Tryz.func89, Tryz.ntmps89
  go_wp2
  rw [HV.out]
  refine wp_region_quietB (by kernel_rfl) (by kernel_rfl) ?_
  repeat (first | go_big_quiet_step (fail) | quiet_step (fail))
  refine wpQuiet_nil ?_
  rintro _ ⟨u, rfl⟩
  have HJu := Lib.hid ((u.below.block _ zV).trans HJ.out)
  have hwu : Below W.heap.size W u.val := below_trans hV u.below
  clear c0 c1 c2 c3 c4
  generalize u.val = w9 at *
  clear u
  obtain ⟨c0, c1, c2, c3, c4, _, zju⟩ := blk5 HJu.out
  have zb9 := Nat.lt_of_lt_of_le zb hwu.size
  have n4 := below_cell hwu n4
  have n5 := below_cell hwu n5
  cases r1
  · go_wp2_with fail
    refine ((hW _).out).mono ?_
    rintro e wG ⟨rfl, rfl⟩
    go_wp2
    refine wp_region_quietB (by kernel_rfl) (by kernel_rfl) ?_
    repeat (first | go_big_quiet_step (fail) | quiet_step (fail))
    refine wpQuiet_nil ?_
    rintro _ ⟨u, rfl⟩
    have hwv : Below W.heap.size W u.val := by (repeat (first | exact brf | assumption | refine ble ?_ | refine blx ?_ | refine bla ?_ | refine bls ?_ | refine bld ?_))
    go_wp2_with fail
    refine (less_any _ _ _ (by omega)).mono ?_
    rintro e w7 ⟨rfl, hb7⟩
    go_wp2
    go_ret
    exact ⟨ret_bool (by simp), below_trans hwv hb7⟩
  · go_wp2_with fail
    refine ((hW _).out).mono ?_
    rintro e wG ⟨rfl, rfl⟩
    go_wp2
    refine wp_region_quietB (by kernel_rfl) (by kernel_rfl) ?_
    repeat (first | go_big_quiet_step (fail) | quiet_step (fail))
    refine wpQuiet_nil ?_
    rintro _ ⟨u, rfl⟩
    have hwv : Below W.heap.size W u.val := by (repeat (first | exact brf | assumption | refine ble ?_ | refine blx ?_ | refine bla ?_ | refine bls ?_ | refine bld ?_))
    go_wp2_with fail
    refine (less_any _ _ _ (by omega)).mono ?_
    rintro e w7 ⟨rfl, hb7⟩
    go_wp2
    go_ret
    exact ⟨ret_bool (by simp), below_trans hwv hb7⟩

set_option linter.unusedVariables false in
set_option maxRecDepth 100000 in
set_option maxHeartbeats 4000000 in
theorem rBroken_1_no (k : Int) (l w t : Int) (nv : Value) (n : List Int) (W : World) (hn : Ints W nv n) (hlen : 1 ≤ n.length) (hl : 1 ≤ l ∧ l ≤ 100000) (hw : 1 ≤ w ∧ w ≤ 100000) (ht : 1 ≤ t ∧ t ≤ 100000) (hb : ∀ i, i < n.length → -100000 ≤ n.getD i 0 ∧ n.getD i 0 ≤ 100000) (hk2 : k ≠ 2) (hk3 : k ≠ 3) (hk4 : k ≠ 4) :
    Calls Tryz.prog 89 #[vJ k l w t nv, .int .i64 1] W (Ret W (.bool (false))) := by
  have HN := Lib.hid hn
  unfold vJ at *
  obtain ⟨b, off, c, rfl, hcc, zb, hi⟩ := hn.at' (by omega)
  have kk2 : (k == 2) = false := by simpa using hk2
  have kn2 : (k != 2) = true := by simpa using hk2
  have kk3 : (k == 3) = false := by simpa using hk3
  have kn3 : (k != 3) = true := by simpa using hk3
  have kk4 : (k == 4) = false := by simpa using hk4
  have kn4 : (k != 4) = true := by simpa using hk4
  generalize n.length = q at *
  have hW := fun W' => Lib.hid (bwithin_any k 2 4 W')
  rw [show decide (2 ≤ k ∧ k ≤ 4) = false from decide_eq_false (by omega)] at hW
  clear hi hn hb hcc
  obtain ⟨V, HV⟩ : ∃ V, Hid (W.alloc (.cells #[.int .i64 k, .int .i64 l, .int .i64 w, .int .i64 t, .slice (some ⟨b, off, none⟩) q c] 25) = V) := ⟨_, Lib.hid rfl⟩
  have hV : Below W.heap.size W V := by rw [← HV.out]; (repeat (first | exact brf | assumption | refine ble ?_ | refine blx ?_ | refine bla ?_ | refine bls ?_ | refine bld ?_))
  have HJ : Hid (V.heap[W.heap.size]? = some (.cells #[.int .i64 k, .int .i64 l, .int .i64 w, .int .i64 t, .slice (some ⟨b, off, none⟩) q c] 25 (0, 0))) := Lib.hid (by rw [← HV.out]; exact heap_new rfl)
  have zV := blk_lt HJ.out
  obtain ⟨c0, c1, c2, c3, c4, _, _⟩ := blk5 HJ.out
  go_enter Tryz.func89, Tryz.ntmps89
  go_wp2
  rw [HV.out]
  refine wp_region_quietB (by kernel_rfl) (by kernel_rfl) ?_
  repeat (first | go_big_quiet_step (fail) | quiet_step (fail))
  refine wpQuiet_nil ?_
  rintro _ ⟨u, rfl⟩
  have HJu := Lib.hid ((u.below.block _ zV).trans HJ.out)
  have hwu : Below W.heap.size W u.val := below_trans hV u.below
  clear c0 c1 c2 c3 c4
  generalize u.val = w9 at *
  clear u
  obtain ⟨c0, c1, c2, c3, c4, _, zju⟩ := blk5 HJu.out
  have zb9 := Nat.lt_of_lt_of_le zb hwu.size
  go_wp2_with fail
  refine ((hW _).out).mono ?_
  rintro e wG ⟨rfl, rfl⟩
  go_wp2
  go_ret
  exact ⟨ret_bool rfl, by (repeat (first | exact brf | assumption | refine ble ?_ | refine blx ?_ | refine bla ?_ | refine bls ?_ | refine bld ?_))⟩

set_option linter.unusedVariables false in
set_option maxRecDepth 100000 in
set_option maxHeartbeats 4000000 in
theorem rBroken_2_3 (l w t : Int) (nv : Value) (n : List Int) (W : World) (hn : Ints W nv n) (hlen : n.length = 6) (hl : 1 ≤ l ∧ l ≤ 100000) (hw : 1 ≤ w ∧ w ≤ 100000) (ht : 1 ≤ t ∧ t ≤ 100000) (hb : ∀ i, i < n.length → -100000 ≤ n.getD i 0 ∧ n.getD i 0 ≤ 100000) :
    Calls Tryz.prog 89 #[vJ 3 l w t nv, .int .i64 2] W (Ret W (.bool (decide (2 * n.getD 0 0 < l)))) := by
  have HN := Lib.hid hn
  unfold vJ at *
  obtain ⟨b, off, c, rfl, hcc, zb, hi⟩ := hn.at' (by omega)
  have n0 := hi 0 (by omega)
  rw [Nat.add_zero] at n0
  have b0 := hb 0 (by omega)
  rw [hlen]
  generalize n.getD 0 0 = x0 at *
  clear hi hn hb hcc
  have w1 : wrap64 (2 * x0) = 2 * x0 := by unfold wrap64; omega
  have v1 : IntKind.i64.wrap (2 * x0) = 2 * x0 := IntWalk.i64_in _ (by omega)
  -- a is 2 * x0
  obtain ⟨V, HV⟩ : ∃ V, Hid (W.alloc (.cells #[.int .i64 3, .int .i64 l, .int .i64 w, .int .i64 t, .slice (some ⟨b, off, none⟩) 6 c] 25) = V) := ⟨_, Lib.hid rfl⟩
  have hV : Below W.heap.size W V := by rw [← HV.out]; (repeat (first | exact brf | assumption | refine ble ?_ | refine blx ?_ | refine bla ?_ | refine bls ?_ | refine bld ?_))
  have HJ : Hid (V.heap[W.heap.size]? = some (.cells #[.int .i64 3, .int .i64 l, .int .i64 w, .int .i64 t, .slice (some ⟨b, off, none⟩) 6 c] 25 (0, 0))) := Lib.hid (by rw [← HV.out]; exact heap_new rfl)
  have zV := blk_lt HJ.out
  obtain ⟨c0, c1, c2, c3, c4, _, _⟩ := blk5 HJ.out
  go_enter Tryz.func89, Tryz.ntmps89
  go_wp2
  rw [HV.out]
  refine wp_region_quietB (by kernel_rfl) (by kernel_rfl) ?_
  repeat (first | go_big_quiet_step (fail) | quiet_step (fail))
  refine wpQuiet_nil ?_
  rintro _ ⟨u, rfl⟩
  have HJu := Lib.hid ((u.below.block _ zV).trans HJ.out)
  have hwu : Below W.heap.size W u.val := below_trans hV u.below
  clear c0 c1 c2 c3 c4
  generalize u.val = w9 at *
  clear u
  obtain ⟨c0, c1, c2, c3, c4, _, zju⟩ := blk5 HJu.out
  have zb9 := Nat.lt_of_lt_of_le zb hwu.size
  have n0 := below_cell hwu n0
  go_wp2
  by_cases h1 : 2 * x0 < l
  · have hd : decide (2 * x0 < l) = true := by simpa using h1
    refine wp_region_quietB (by kernel_rfl) (by kernel_rfl) ?_
    repeat (first | go_big_quiet_step (fail) | quiet_step (fail))
    refine wpQuiet_nil ?_
    rintro _ ⟨u, rfl⟩
    go_wp2
    go_ret
    exact ⟨ret_bool (by first | rfl | (rw [hd]; rfl) | (rw [hd]; simp) | simp [hd]), by (repeat (first | exact brf | assumption | refine ble ?_ | refine blx ?_ | refine bla ?_ | refine bls ?_ | refine bld ?_))⟩
  · have hd : decide (2 * x0 < l) = false := by simpa using h1
    refine wp_region_quietB (by kernel_rfl) (by kernel_rfl) ?_
    repeat (first | go_big_quiet_step (fail) | quiet_step (fail))
    refine wpQuiet_nil ?_
    rintro _ ⟨u, rfl⟩
    go_wp2
    go_ret
    exact ⟨ret_bool (by first | rfl | (rw [hd]; rfl) | (rw [hd]; simp) | simp [hd]), by (repeat (first | exact brf | assumption | refine ble ?_ | refine blx ?_ | refine bla ?_ | refine bls ?_ | refine bld ?_))⟩

set_option linter.unusedVariables false in
set_option maxRecDepth 100000 in
set_option maxHeartbeats 4000000 in
theorem rBroken_2_4 (l w t : Int) (nv : Value) (n : List Int) (W : World) (hn : Ints W nv n) (hlen : n.length = 4) (hl : 1 ≤ l ∧ l ≤ 100000) (hw : 1 ≤ w ∧ w ≤ 100000) (ht : 1 ≤ t ∧ t ≤ 100000) (hb : ∀ i, i < n.length → -100000 ≤ n.getD i 0 ∧ n.getD i 0 ≤ 100000) :
    Calls Tryz.prog 89 #[vJ 4 l w t nv, .int .i64 2] W (Ret W (.bool (decide (2 * n.getD 0 0 < l)))) := by
  have HN := Lib.hid hn
  unfold vJ at *
  obtain ⟨b, off, c, rfl, hcc, zb, hi⟩ := hn.at' (by omega)
  have n0 := hi 0 (by omega)
  rw [Nat.add_zero] at n0
  have b0 := hb 0 (by omega)
  rw [hlen]
  generalize n.getD 0 0 = x0 at *
  clear hi hn hb hcc
  have w1 : wrap64 (2 * x0) = 2 * x0 := by unfold wrap64; omega
  have v1 : IntKind.i64.wrap (2 * x0) = 2 * x0 := IntWalk.i64_in _ (by omega)
  -- a is 2 * x0
  obtain ⟨V, HV⟩ : ∃ V, Hid (W.alloc (.cells #[.int .i64 4, .int .i64 l, .int .i64 w, .int .i64 t, .slice (some ⟨b, off, none⟩) 4 c] 25) = V) := ⟨_, Lib.hid rfl⟩
  have hV : Below W.heap.size W V := by rw [← HV.out]; (repeat (first | exact brf | assumption | refine ble ?_ | refine blx ?_ | refine bla ?_ | refine bls ?_ | refine bld ?_))
  have HJ : Hid (V.heap[W.heap.size]? = some (.cells #[.int .i64 4, .int .i64 l, .int .i64 w, .int .i64 t, .slice (some ⟨b, off, none⟩) 4 c] 25 (0, 0))) := Lib.hid (by rw [← HV.out]; exact heap_new rfl)
  have zV := blk_lt HJ.out
  obtain ⟨c0, c1, c2, c3, c4, _, _⟩ := blk5 HJ.out
  go_enter Tryz.func89, Tryz.ntmps89
  go_wp2
  rw [HV.out]
  refine wp_region_quietB (by kernel_rfl) (by kernel_rfl) ?_
  repeat (first | go_big_quiet_step (fail) | quiet_step (fail))
  refine wpQuiet_nil ?_
  rintro _ ⟨u, rfl⟩
  have HJu := Lib.hid ((u.below.block _ zV).trans HJ.out)
  have hwu : Below W.heap.size W u.val := below_trans hV u.below
  clear c0 c1 c2 c3 c4
  generalize u.val = w9 at *
  clear u
  obtain ⟨c0, c1, c2, c3, c4, _, zju⟩ := blk5 HJu.out
  have zb9 := Nat.lt_of_lt_of_le zb hwu.size
  have n0 := below_cell hwu n0
  go_wp2
  by_cases h1 : 2 * x0 < l
  · have hd : decide (2 * x0 < l) = true := by simpa using h1
    refine wp_region_quietB (by kernel_rfl) (by kernel_rfl) ?_
    repeat (first | go_big_quiet_step (fail) | quiet_step (fail))
    refine wpQuiet_nil ?_
    rintro _ ⟨u, rfl⟩
    go_wp2
    go_ret
    exact ⟨ret_bool (by first | rfl | (rw [hd]; rfl) | (rw [hd]; simp) | simp [hd]), by (repeat (first | exact brf | assumption | refine ble ?_ | refine blx ?_ | refine bla ?_ | refine bls ?_ | refine bld ?_))⟩
  · have hd : decide (2 * x0 < l) = false := by simpa using h1
    refine wp_region_quietB (by kernel_rfl) (by kernel_rfl) ?_
    repeat (first | go_big_quiet_step (fail) | quiet_step (fail))
    refine wpQuiet_nil ?_
    rintro _ ⟨u, rfl⟩
    go_wp2
    go_ret
    exact ⟨ret_bool (by first | rfl | (rw [hd]; rfl) | (rw [hd]; simp) | simp [hd]), by (repeat (first | exact brf | assumption | refine ble ?_ | refine blx ?_ | refine bla ?_ | refine bls ?_ | refine bld ?_))⟩

set_option linter.unusedVariables false in
set_option maxRecDepth 100000 in
set_option maxHeartbeats 4000000 in
theorem rBroken_2_8 (l w t : Int) (nv : Value) (n : List Int) (W : World) (hn : Ints W nv n) (hlen : 8 ≤ n.length) (h24 : n.length ≤ 24) (hl : 1 ≤ l ∧ l ≤ 100000) (hw : 1 ≤ w ∧ w ≤ 100000) (ht : 1 ≤ t ∧ t ≤ 100000) (hb : ∀ i, i < n.length → -100000 ≤ n.getD i 0 ∧ n.getD i 0 ≤ 100000) :
    Calls Tryz.prog 89 #[vJ 8 l w t nv, .int .i64 2] W (Ret W (.bool (decide (n.getD 3 0 < 3 * n.getD 1 0) || decide (n.getD 4 0 < 3 * n.getD 1 0)))) := by
  have HN := Lib.hid hn
  unfold vJ at *
  obtain ⟨b, off, c, rfl, hcc, zb, hi⟩ := hn.at' (by omega)
  have n1 := hi 1 (by omega)
  have n3 := hi 3 (by omega)
  have n4 := hi 4 (by omega)
  have b1 := hb 1 (by omega)
  have b3 := hb 3 (by omega)
  have b4 := hb 4 (by omega)
  generalize n.length = q at *
  have q1 : (1 : Int) < (q : Int) := by omega
  have q3 : (3 : Int) < (q : Int) := by omega
  have q4 : (4 : Int) < (q : Int) := by omega
  generalize n.getD 1 0 = x1 at *
  generalize n.getD 3 0 = x3 at *
  generalize n.getD 4 0 = x4 at *
  clear hi hn hb hcc
  have w1 : wrap64 (3 * x1) = 3 * x1 := by unfold wrap64; omega
  have v1 : IntKind.i64.wrap (3 * x1) = 3 * x1 := IntWalk.i64_in _ (by omega)
  -- a is 3 * x1
  obtain ⟨V, HV⟩ : ∃ V, Hid (W.alloc (.cells #[.int .i64 8, .int .i64 l, .int .i64 w, .int .i64 t, .slice (some ⟨b, off, none⟩) q c] 25) = V) := ⟨_, Lib.hid rfl⟩
  have hV : Below W.heap.size W V := by rw [← HV.out]; (repeat (first | exact brf | assumption | refine ble ?_ | refine blx ?_ | refine bla ?_ | refine bls ?_ | refine bld ?_))
  have HJ : Hid (V.heap[W.heap.size]? = some (.cells #[.int .i64 8, .int .i64 l, .int .i64 w, .int .i64 t, .slice (some ⟨b, off, none⟩) q c] 25 (0, 0))) := Lib.hid (by rw [← HV.out]; exact heap_new rfl)
  have zV := blk_lt HJ.out
  obtain ⟨c0, c1, c2, c3, c4, _, _⟩ := blk5 HJ.out
  go_enter Tryz.func89, Tryz.ntmps89
  go_wp2
  rw [HV.out]
  refine wp_region_quietB (by kernel_rfl) (by kernel_rfl) ?_
  repeat (first | go_big_quiet_step (fail) | quiet_step (fail))
  refine wpQuiet_nil ?_
  rintro _ ⟨u, rfl⟩
  have HJu := Lib.hid ((u.below.block _ zV).trans HJ.out)
  have hwu : Below W.heap.size W u.val := below_trans hV u.below
  clear c0 c1 c2 c3 c4
  generalize u.val = w9 at *
  clear u
  obtain ⟨c0, c1, c2, c3, c4, _, zju⟩ := blk5 HJu.out
  have zb9 := Nat.lt_of_lt_of_le zb hwu.size
  have n1 := below_cell hwu n1
  have n3 := below_cell hwu n3
  have n4 := below_cell hwu n4
  go_wp2
  by_cases h1 : x3 < 3 * x1
  · have hd : decide (x3 < 3 * x1) = true := by simpa using h1
    refine wp_region_quietB (by kernel_rfl) (by kernel_rfl) ?_
    repeat (first | go_big_quiet_step (fail) | quiet_step (fail))
    refine wpQuiet_nil ?_
    rintro _ ⟨u, rfl⟩
    go_wp2
    go_ret
    exact ⟨ret_bool (by first | rfl | (rw [hd]; rfl) | (rw [hd]; simp) | simp [hd]), by (repeat (first | exact brf | assumption | refine ble ?_ | refine blx ?_ | refine bla ?_ | refine bls ?_ | refine bld ?_))⟩
  · have hd : decide (x3 < 3 * x1) = false := by simpa using h1
    refine wp_region_quietB (by kernel_rfl) (by kernel_rfl) ?_
    repeat (first | go_big_quiet_step (fail) | quiet_step (fail))
    refine wpQuiet_nil ?_
    rintro _ ⟨u, rfl⟩
    go_wp2
    go_ret
    exact ⟨ret_bool (by first | rfl | (rw [hd]; rfl) | (rw [hd]; simp) | simp [hd]), by (repeat (first | exact brf | assumption | refine ble ?_ | refine blx ?_ | refine bla ?_ | refine bls ?_ | refine bld ?_))⟩

set_option linter.unusedVariables false in
set_option maxRecDepth 100000 in
set_option maxHeartbeats 4000000 in
theorem rBroken_2_no (k : Int) (l w t : Int) (nv : Value) (n : List Int) (W : World) (hn : Ints W nv n) (hlen : 1 ≤ n.length) (hl : 1 ≤ l ∧ l ≤ 100000) (hw : 1 ≤ w ∧ w ≤ 100000) (ht : 1 ≤ t ∧ t ≤ 100000) (hb : ∀ i, i < n.length → -100000 ≤ n.getD i 0 ∧ n.getD i 0 ≤ 100000) (hk3 : k ≠ 3) (hk4 : k ≠ 4) (hk8 : k ≠ 8) :
    Calls Tryz.prog 89 #[vJ k l w t nv, .int .i64 2] W (Ret W (.bool (false))) := by
  have HN := Lib.hid hn
  unfold vJ at *
  obtain ⟨b, off, c, rfl, hcc, zb, hi⟩ := hn.at' (by omega)
  have kk3 : (k == 3) = false := by simpa using hk3
  have kn3 : (k != 3) = true := by simpa using hk3
  have kk4 : (k == 4) = false := by simpa using hk4
  have kn4 : (k != 4) = true := by simpa using hk4
  have kk8 : (k == 8) = false := by simpa using hk8
  have kn8 : (k != 8) = true := by simpa using hk8
  generalize n.length = q at *
  clear hi hn hb hcc
  obtain ⟨V, HV⟩ : ∃ V, Hid (W.alloc (.cells #[.int .i64 k, .int .i64 l, .int .i64 w, .int .i64 t, .slice (some ⟨b, off, none⟩) q c] 25) = V) := ⟨_, Lib.hid rfl⟩
  have hV : Below W.heap.size W V := by rw [← HV.out]; (repeat (first | exact brf | assumption | refine ble ?_ | refine blx ?_ | refine bla ?_ | refine bls ?_ | refine bld ?_))
  have HJ : Hid (V.heap[W.heap.size]? = some (.cells #[.int .i64 k, .int .i64 l, .int .i64 w, .int .i64 t, .slice (some ⟨b, off, none⟩) q c] 25 (0, 0))) := Lib.hid (by rw [← HV.out]; exact heap_new rfl)
  have zV := blk_lt HJ.out
  obtain ⟨c0, c1, c2, c3, c4, _, _⟩ := blk5 HJ.out
  go_enter Tryz.func89, Tryz.ntmps89
  go_wp2
  rw [HV.out]
  refine wp_region_quietB (by kernel_rfl) (by kernel_rfl) ?_
  repeat (first | go_big_quiet_step (fail) | quiet_step (fail))
  refine wpQuiet_nil ?_
  rintro _ ⟨u, rfl⟩
  have HJu := Lib.hid ((u.below.block _ zV).trans HJ.out)
  have hwu : Below W.heap.size W u.val := below_trans hV u.below
  clear c0 c1 c2 c3 c4
  generalize u.val = w9 at *
  clear u
  obtain ⟨c0, c1, c2, c3, c4, _, zju⟩ := blk5 HJu.out
  have zb9 := Nat.lt_of_lt_of_le zb hwu.size
  go_wp2
  refine wp_region_quietB (by kernel_rfl) (by kernel_rfl) ?_
  repeat (first | go_big_quiet_step (fail) | quiet_step (fail))
  refine wpQuiet_nil ?_
  rintro _ ⟨u, rfl⟩
  go_wp2
  go_ret
  exact ⟨ret_bool rfl, by (repeat (first | exact brf | assumption | refine ble ?_ | refine blx ?_ | refine bla ?_ | refine bls ?_ | refine bld ?_))⟩

set_option linter.unusedVariables false in
set_option maxRecDepth 100000 in
set_option maxHeartbeats 4000000 in
theorem rBroken_3_9 (l w t : Int) (nv : Value) (n : List Int) (W : World) (hn : Ints W nv n) (hlen : n.length = 5) (hl : 1 ≤ l ∧ l ≤ 100000) (hw : 1 ≤ w ∧ w ≤ 100000) (ht : 1 ≤ t ∧ t ≤ 100000) (hb : ∀ i, i < n.length → -100000 ≤ n.getD i 0 ∧ n.getD i 0 ≤ 100000) :
    Calls Tryz.prog 89 #[vJ 9 l w t nv, .int .i64 3] W (Ret W (.bool (thinB t (n.getD 3 0) || thinB t (t - n.getD 4 0)))) := by
  have HN := Lib.hid hn
  unfold vJ at *
  obtain ⟨b, off, c, rfl, hcc, zb, hi⟩ := hn.at' (by omega)
  have n3 := hi 3 (by omega)
  have n4 := hi 4 (by omega)
  have b3 := hb 3 (by omega)
  have b4 := hb 4 (by omega)
  rw [hlen]
  obtain ⟨r1, hr1⟩ : ∃ r, thinB t (n.getD 3 0) = r := ⟨_, rfl⟩
  try rw [hr1]
  obtain ⟨r2, hr2⟩ : ∃ r, thinB t (t - n.getD 4 0) = r := ⟨_, rfl⟩
  try rw [hr2]
  generalize n.getD 3 0 = x3 at *
  generalize n.getD 4 0 = x4 at *
  clear hi hn hb hcc
  have w1 : wrap64 (t - x4) = t - x4 := by unfold wrap64; omega
  have v1 : IntKind.i64.wrap (t - x4) = t - x4 := IntWalk.i64_in _ (by omega)
  -- a is t - x4
  obtain ⟨V, HV⟩ : ∃ V, Hid (W.alloc (.cells #[.int .i64 9, .int .i64 l, .int .i64 w, .int .i64 t, .slice (some ⟨b, off, none⟩) 5 c] 25) = V) := ⟨_, Lib.hid rfl⟩
  have hV : Below W.heap.size W V := by rw [← HV.out]; (repeat (first | exact brf | assumption | refine ble ?_ | refine blx ?_ | refine bla ?_ | refine bls ?_ | refine bld ?_))
  have HJ : Hid (V.heap[W.heap.size]? = some (.cells #[.int .i64 9, .int .i64 l, .int .i64 w, .int .i64 t, .slice (some ⟨b, off, none⟩) 5 c] 25 (0, 0))) := Lib.hid (by rw [← HV.out]; exact heap_new rfl)
  have zV := blk_lt HJ.out
  obtain ⟨c0, c1, c2, c3, c4, _, _⟩ := blk5 HJ.out
  go_enter Tryz.func89, Tryz.ntmps89
  go_wp2
  rw [HV.out]
  refine wp_region_quietB (by kernel_rfl) (by kernel_rfl) ?_
  repeat (first | go_big_quiet_step (fail) | quiet_step (fail))
  refine wpQuiet_nil ?_
  rintro _ ⟨u, rfl⟩
  have HJu := Lib.hid ((u.below.block _ zV).trans HJ.out)
  have hwu : Below W.heap.size W u.val := below_trans hV u.below
  clear c0 c1 c2 c3 c4
  generalize u.val = w9 at *
  clear u
  obtain ⟨c0, c1, c2, c3, c4, _, zju⟩ := blk5 HJu.out
  have zb9 := Nat.lt_of_lt_of_le zb hwu.size
  have n3 := below_cell hwu n3
  have n4 := below_cell hwu n4
  go_wp2
  cases r1
  · refine wp_region_quietB (by kernel_rfl) (by kernel_rfl) ?_
    repeat (first | go_big_quiet_step ((go_at_call 149; exact quietB_ret (less_any _ _ _ (by omega)))) | quiet_step ((go_at_call 149; exact quietB_ret (less_any _ _ _ (by omega)))))
    refine wpQuiet_nil ?_
    rintro _ ⟨u, rfl⟩
    go_wp2
    go_ret
    exact ⟨ret_bool (by simp), by (repeat (first | exact brf | assumption | refine ble ?_ | refine blx ?_ | refine bla ?_ | refine bls ?_ | refine bld ?_))⟩
  · refine wp_region_quietB (by kernel_rfl) (by kernel_rfl) ?_
    repeat (first | go_big_quiet_step ((go_at_call 149; exact quietB_ret (less_any _ _ _ (by omega)))) | quiet_step ((go_at_call 149; exact quietB_ret (less_any _ _ _ (by omega)))))
    refine wpQuiet_nil ?_
    rintro _ ⟨u, rfl⟩
    go_wp2
    go_ret
    exact ⟨ret_bool (by simp), by (repeat (first | exact brf | assumption | refine ble ?_ | refine blx ?_ | refine bla ?_ | refine bls ?_ | refine bld ?_))⟩
end Go.Proofs.YtjglkglaogaenaaGreatDoor
