/- texts of mine, merged: Q9. -/
import Derived.Test.YtjglkglaogaenaaGreatDoorGAD
/- The reference of joints: Broken, rule by rule (written by gen_rbroken.py). -/
namespace Go.Proofs.YtjglkglaogaenaaGreatDoor
open Go.RowKit Go.Shelf
attribute [local go_sem] Ext.cell Ext.frozen

set_option linter.unusedVariables false in
set_option maxRecDepth 100000 in
set_option maxHeartbeats 4000000 in
theorem rBroken_3_2 (l w t : Int) (nv : Value) (n : List Int) (W : World) (hn : Ints W nv n) (hlen : n.length = 4) (hl : 1 ≤ l ∧ l ≤ 100000) (hw : 1 ≤ w ∧ w ≤ 100000) (ht : 1 ≤ t ∧ t ≤ 100000) (hb : ∀ i, i < n.length → -100000 ≤ n.getD i 0 ∧ n.getD i 0 ≤ 100000) :
    Calls Tryz.prog 89 #[vJ 2 l w t nv, .int .i64 3] W (Ret W (.bool (decide (8 * n.getD 0 0 < w) || decide (8 * (w - n.getD 1 0) < w)))) := by
  have HN := Lib.hid hn
  unfold vJ at *
  obtain ⟨b, off, c, rfl, hcc, zb, hi⟩ := hn.at' (by omega)
  have n0 := hi 0 (by omega)
  have n1 := hi 1 (by omega)
  rw [Nat.add_zero] at n0
  have b0 := hb 0 (by omega)
  have b1 := hb 1 (by omega)
  rw [hlen]
  generalize n.getD 0 0 = x0 at *
  generalize n.getD 1 0 = x1 at *
  clear hi hn hb hcc
  have w1 : wrap64 (8 * x0) = 8 * x0 := by unfold wrap64; omega
  have v1 : IntKind.i64.wrap (8 * x0) = 8 * x0 := IntWalk.i64_in _ (by omega)
  -- a is 8 * x0
  have w2 : wrap64 (w - x1) = w - x1 := by unfold wrap64; omega
  have v2 : IntKind.i64.wrap (w - x1) = w - x1 := IntWalk.i64_in _ (by omega)
  have w3 : wrap64 (8 * (w - x1)) = 8 * (w - x1) := by unfold wrap64; omega
  have v3 : IntKind.i64.wrap (8 * (w - x1)) = 8 * (w - x1) := IntWalk.i64_in _ (by omega)
  -- b is 8 * (w - x1)
  obtain ⟨V, HV⟩ : ∃ V, Hid (W.alloc (.cells #[.int .i64 2, .int .i64 l, .int .i64 w, .int .i64 t, .slice (some ⟨b, off, none⟩) 4 c] 25) = V) := ⟨_, Lib.hid rfl⟩
  have hV : Below W.heap.size W V := by rw [← HV.out]; (repeat (first | exact brf | assumption | refine ble ?_ | refine blx ?_ | refine bla ?_ | refine bls ?_ | refine bld ?_))
  have HJ : Hid (V.heap[W.heap.size]? = some (.cells #[.int .i64 2, .int .i64 l, .int .i64 w, .int .i64 t, .slice (some ⟨b, off, none⟩) 4 c] 25 (0, 0))) := Lib.hid (by rw [← HV.out]; exact heap_new rfl)
  have zV := blk_lt HJ.out
  obtain ⟨c0, c1, c2, c3, c4, _, _⟩ := blk5 HJ.out
  go_enter Tryz.func89, Tryz.ntmps89
  go_wp2
  rw [HV.out]
  refine wp_region_quietB (by kernel_rfl) (by kernel_rfl) ?_
  repeat (first | go_big_quiet_step (fail) | quiet_step (fail))
  refine wpQuiet_nil ?_
  rintro _ ⟨u, rfl⟩
  have HJu := Lib.hid ((u.below.block _ zV).trans HJ.out)
  have hwu : Below W.heap.size W u.val := below_trans hV u.below
  clear c0 c1 c2 c3 c4
  generalize u.val = w9 at *
  clear u
  obtain ⟨c0, c1, c2, c3, c4, _, zju⟩ := blk5 HJu.out
  have zb9 := Nat.lt_of_lt_of_le zb hwu.size
  have n0 := below_cell hwu n0
  have n1 := below_cell hwu n1
  go_wp2
  by_cases h1 : 8 * x0 < w
  · have hd : decide (8 * x0 < w) = true := by simpa using h1
    refine wp_region_quietB (by kernel_rfl) (by kernel_rfl) ?_
    repeat (first | go_big_quiet_step (fail) | quiet_step (fail))
    refine wpQuiet_nil ?_
    rintro _ ⟨u, rfl⟩
    go_wp2
    go_ret
    exact ⟨ret_bool (by first | rfl | (rw [hd]; rfl) | (rw [hd]; simp) | simp [hd]), by (repeat (first | exact brf | assumption | refine ble ?_ | refine blx ?_ | refine bla ?_ | refine bls ?_ | refine bld ?_))⟩
  · have hd : decide (8 * x0 < w) = false := by simpa using h1
    refine wp_region_quietB (by kernel_rfl) (by kernel_rfl) ?_
    repeat (first | go_big_quiet_step (fail) | quiet_step (fail))
    refine wpQuiet_nil ?_
    rintro _ ⟨u, rfl⟩
    go_wp2
    go_ret
    exact ⟨ret_bool (by first | rfl | (rw [hd]; rfl) | (rw [hd]; simp) | simp [hd]), by (repeat (first | exact brf | assumption | refine ble ?_ | refine blx ?_ | refine bla ?_ | refine bls ?_ | refine bld ?_))⟩

set_option linter.unusedVariables false in
set_option maxRecDepth 100000 in
set_option maxHeartbeats 4000000 in
theorem rBroken_3_3 (l w t : Int) (nv : Value) (n : List Int) (W : World) (hn : Ints W nv n) (hlen : n.length = 6) (hl : 1 ≤ l ∧ l ≤ 100000) (hw : 1 ≤ w ∧ w ≤ 100000) (ht : 1 ≤ t ∧ t ≤ 100000) (hb : ∀ i, i < n.length → -100000 ≤ n.getD i 0 ∧ n.getD i 0 ≤ 100000) :
    Calls Tryz.prog 89 #[vJ 3 l w t nv, .int .i64 3] W (Ret W (.bool (decide (8 * n.getD 2 0 < w) || decide (8 * (w - n.getD 3 0) < w)))) := by
  have HN := Lib.hid hn
  unfold vJ at *
  obtain ⟨b, off, c, rfl, hcc, zb, hi⟩ := hn.at' (by omega)
  have n2 := hi 2 (by omega)
  have n3 := hi 3 (by omega)
  have b2 := hb 2 (by omega)
  have b3 := hb 3 (by omega)
  rw [hlen]
  generalize n.getD 2 0 = x2 at *
  generalize n.getD 3 0 = x3 at *
  clear hi hn hb hcc
  have w1 : wrap64 (8 * x2) = 8 * x2 := by unfold wrap64; omega
  have v1 : IntKind.i64.wrap (8 * x2) = 8 * x2 := IntWalk.i64_in _ (by omega)
  -- a is 8 * x2
  have w2 : wrap64 (w - x3) = w - x3 := by unfold wrap64; omega
  have v2 : IntKind.i64.wrap (w - x3) = w - x3 := IntWalk.i64_in _ (by omega)
  have w3 : wrap64 (8 * (w - x3)) = 8 * (w - x3) := by unfold wrap64; omega
  have v3 : IntKind.i64.wrap (8 * (w - x3)) = 8 * (w - x3) := IntWalk.i64_in _ (by omega)
  -- b is 8 * (w - x3)
  obtain ⟨V, HV⟩ : ∃ V, Hid (W.alloc (.cells #[.int .i64 3, .int .i64 l, .int .i64 w, .int .i64 t, .slice (some ⟨b, off, none⟩) 6 c] 25) = V) := ⟨_, Lib.hid rfl⟩
  have hV : Below W.heap.size W V := by rw [← HV.out]; (repeat (first | exact brf | assumption | refine ble ?_ | refine blx ?_ | refine bla ?_ | refine bls ?_ | refine bld ?_))
  have HJ : Hid (V.heap[W.heap.size]? = some (.cells #[.int .i64 3, .int .i64 l, .int .i64 w, .int .i64 t, .slice (some ⟨b, off, none⟩) 6 c] 25 (0, 0))) := Lib.hid (by rw [← HV.out]; exact heap_new rfl)
  have zV := blk_lt HJ.out
  obtain ⟨c0, c1, c2, c3, c4, _, _⟩ := blk5 HJ.out
  go_enter Tryz.func89, Tryz.ntmps89
  go_wp2
  rw [HV.out]
  refine wp_region_quietB (by kernel_rfl) (by kernel_rfl) ?_
  repeat (first | go_big_quiet_step (fail) | quiet_step (fail))
  refine wpQuiet_nil ?_
  rintro _ ⟨u, rfl⟩
  have HJu := Lib.hid ((u.below.block _ zV).trans HJ.out)
  have hwu : Below W.heap.size W u.val := below_trans hV u.below
  clear c0 c1 c2 c3 c4
  generalize u.val = w9 at *
  clear u
  obtain ⟨c0, c1, c2, c3, c4, _, zju⟩ := blk5 HJu.out
  have zb9 := Nat.lt_of_lt_of_le zb hwu.size
  have n2 := below_cell hwu n2
  have n3 := below_cell hwu n3
  go_wp2
  by_cases h1 : 8 * x2 < w
  · have hd : decide (8 * x2 < w) = true := by simpa using h1
    refine wp_region_quietB (by kernel_rfl) (by kernel_rfl) ?_
    repeat (first | go_big_quiet_step (fail) | quiet_step (fail))
    refine wpQuiet_nil ?_
    rintro _ ⟨u, rfl⟩
    go_wp2
    go_ret
    exact ⟨ret_bool (by first | rfl | (rw [hd]; rfl) | (rw [hd]; simp) | simp [hd]), by (repeat (first | exact brf | assumption | refine ble ?_ | refine blx ?_ | refine bla ?_ | refine bls ?_ | refine bld ?_))⟩
  · have hd : decide (8 * x2 < w) = false := by simpa using h1
    refine wp_region_quietB (by kernel_rfl) (by kernel_rfl) ?_
    repeat (first | go_big_quiet_step (fail) | quiet_step (fail))
    refine wpQuiet_nil ?_
    rintro _ ⟨u, rfl⟩
    go_wp2
    go_ret
    exact ⟨ret_bool (by first | rfl | (rw [hd]; rfl) | (rw [hd]; simp) | simp [hd]), by (repeat (first | exact brf | assumption | refine ble ?_ | refine blx ?_ | refine bla ?_ | refine bls ?_ | refine bld ?_))⟩

set_option linter.unusedVariables false in
set_option maxRecDepth 100000 in
set_option maxHeartbeats 4000000 in
theorem rBroken_3_no (k : Int) (l w t : Int) (nv : Value) (n : List Int) (W : World) (hn : Ints W nv n) (hlen : 1 ≤ n.length) (hl : 1 ≤ l ∧ l ≤ 100000) (hw : 1 ≤ w ∧ w ≤ 100000) (ht : 1 ≤ t ∧ t ≤ 100000) (hb : ∀ i, i < n.length → -100000 ≤ n.getD i 0 ∧ n.getD i 0 ≤ 100000) (hk9 : k ≠ 9) (hk2 : k ≠ 2) (hk3 : k ≠ 3) :
    Calls Tryz.prog 89 #[vJ k l w t nv, .int .i64 3] W (Ret W (.bool (false))) := by
  have HN := Lib.hid hn
  unfold vJ at *
  obtain ⟨b, off, c, rfl, hcc, zb, hi⟩ := hn.at' (by omega)
  have kk9 : (k == 9) = false := by simpa using hk9
  have kn9 : (k != 9) = true := by simpa using hk9
  have kk2 : (k == 2) = false := by simpa using hk2
  have kn2 : (k != 2) = true := by simpa using hk2
  have kk3 : (k == 3) = false := by simpa using hk3
  have kn3 : (k != 3) = true := by simpa using hk3
  generalize n.length = q at *
  clear hi hn hb hcc
  obtain ⟨V, HV⟩ : ∃ V, Hid (W.alloc (.cells #[.int .i64 k, .int .i64 l, .int .i64 w, .int .i64 t, .slice (some ⟨b, off, none⟩) q c] 25) = V) := ⟨_, Lib.hid rfl⟩
  have hV : Below W.heap.size W V := by rw [← HV.out]; (repeat (first | exact brf | assumption | refine ble ?_ | refine blx ?_ | refine bla ?_ | refine bls ?_ | refine bld ?_))
  have HJ : Hid (V.heap[W.heap.size]? = some (.cells #[.int .i64 k, .int .i64 l, .int .i64 w, .int .i64 t, .slice (some ⟨b, off, none⟩) q c] 25 (0, 0))) := Lib.hid (by rw [← HV.out]; exact heap_new rfl)
  have zV := blk_lt HJ.out
  obtain ⟨c0, c1, c2, c3, c4, _, _⟩ := blk5 HJ.out
  go_enter Tryz.func89, Tryz.ntmps89
  go_wp2
  rw [HV.out]
  refine wp_region_quietB (by kernel_rfl) (by kernel_rfl) ?_
  repeat (first | go_big_quiet_step (fail) | quiet_step (fail))
  refine wpQuiet_nil ?_
  rintro _ ⟨u, rfl⟩
  have HJu := Lib.hid ((u.below.block _ zV).trans HJ.out)
  have hwu : Below W.heap.size W u.val := below_trans hV u.below
  clear c0 c1 c2 c3 c4
  generalize u.val = w9 at *
  clear u
  obtain ⟨c0, c1, c2, c3, c4, _, zju⟩ := blk5 HJu.out
  have zb9 := Nat.lt_of_lt_of_le zb hwu.size
  go_wp2
  go_ret
  exact ⟨ret_bool rfl, by (repeat (first | exact brf | assumption | refine ble ?_ | refine blx ?_ | refine bla ?_ | refine bls ?_ | refine bld ?_))⟩

set_option linter.unusedVariables false in
set_option maxRecDepth 100000 in
set_option maxHeartbeats 4000000 in
theorem rBroken_4_5 (l w t : Int) (nv : Value) (n : List Int) (W : World) (hn : Ints W nv n) (hlen : 3 ≤ n.length) (h24 : n.length ≤ 24) (hl : 1 ≤ l ∧ l ≤ 100000) (hw : 1 ≤ w ∧ w ≤ 100000) (ht : 1 ≤ t ∧ t ≤ 100000) (hb : ∀ i, i < n.length → -100000 ≤ n.getD i 0 ∧ n.getD i 0 ≤ 100000) :
    Calls Tryz.prog 89 #[vJ 5 l w t nv, .int .i64 4] W (Ret W (.bool (decide (n.getD 0 0 < 6)))) := by
  have HN := Lib.hid hn
  unfold vJ at *
  obtain ⟨b, off, c, rfl, hcc, zb, hi⟩ := hn.at' (by omega)
  have n0 := hi 0 (by omega)
  rw [Nat.add_zero] at n0
  have b0 := hb 0 (by omega)
  generalize n.length = q at *
  have q0 : (0 : Int) < (q : Int) := by omega
  generalize n.getD 0 0 = x0 at *
  clear hi hn hb hcc
  have w1 : wrap64 (2 * x0) = 2 * x0 := by unfold wrap64; omega
  have v1 : IntKind.i64.wrap (2 * x0) = 2 * x0 := IntWalk.i64_in _ (by omega)
  -- a is 2 * x0
  obtain ⟨V, HV⟩ : ∃ V, Hid (W.alloc (.cells #[.int .i64 5, .int .i64 l, .int .i64 w, .int .i64 t, .slice (some ⟨b, off, none⟩) q c] 25) = V) := ⟨_, Lib.hid rfl⟩
  have hV : Below W.heap.size W V := by rw [← HV.out]; (repeat (first | exact brf | assumption | refine ble ?_ | refine blx ?_ | refine bla ?_ | refine bls ?_ | refine bld ?_))
  have HJ : Hid (V.heap[W.heap.size]? = some (.cells #[.int .i64 5, .int .i64 l, .int .i64 w, .int .i64 t, .slice (some ⟨b, off, none⟩) q c] 25 (0, 0))) := Lib.hid (by rw [← HV.out]; exact heap_new rfl)
  have zV := blk_lt HJ.out
  obtain ⟨c0, c1, c2, c3, c4, _, _⟩ := blk5 HJ.out
  go_enter Tryz.func89, Tryz.ntmps89
  go_wp2
  rw [HV.out]
  refine wp_region_quietB (by kernel_rfl) (by kernel_rfl) ?_
  repeat (first | go_big_quiet_step (fail) | quiet_step (fail))
  refine wpQuiet_nil ?_
  rintro _ ⟨u, rfl⟩
  have HJu := Lib.hid ((u.below.block _ zV).trans HJ.out)
  have hwu : Below W.heap.size W u.val := below_trans hV u.below
  clear c0 c1 c2 c3 c4
  generalize u.val = w9 at *
  clear u
  obtain ⟨c0, c1, c2, c3, c4, _, zju⟩ := blk5 HJu.out
  have zb9 := Nat.lt_of_lt_of_le zb hwu.size
  have n0 := below_cell hwu n0
  go_wp2
  go_ret
  exact ⟨ret_bool (by simp), by (repeat (first | exact brf | assumption | refine ble ?_ | refine blx ?_ | refine bla ?_ | refine bls ?_ | refine bld ?_))⟩

set_option linter.unusedVariables false in
set_option maxRecDepth 100000 in
set_option maxHeartbeats 4000000 in
theorem rBroken_4_no (k : Int) (l w t : Int) (nv : Value) (n : List Int) (W : World) (hn : Ints W nv n) (hlen : 1 ≤ n.length) (hl : 1 ≤ l ∧ l ≤ 100000) (hw : 1 ≤ w ∧ w ≤ 100000) (ht : 1 ≤ t ∧ t ≤ 100000) (hb : ∀ i, i < n.length → -100000 ≤ n.getD i 0 ∧ n.getD i 0 ≤ 100000) (hk5 : k ≠ 5) :
    Calls Tryz.prog 89 #[vJ k l w t nv, .int .i64 4] W (Ret W (.bool (false))) := by
  have HN := Lib.hid hn
  unfold vJ at *
  obtain ⟨b, off, c, rfl, hcc, zb, hi⟩ := hn.at' (by omega)
  have kk5 : (k == 5) = false := by simpa using hk5
  have kn5 : (k != 5) = true := by simpa using hk5
  generalize n.length = q at *
  clear hi hn hb hcc
  obtain ⟨V, HV⟩ : ∃ V, Hid (W.alloc (.cells #[.int .i64 k, .int .i64 l, .int .i64 w, .int .i64 t, .slice (some ⟨b, off, none⟩) q c] 25) = V) := ⟨_, Lib.hid rfl⟩
  have hV : Below W.heap.size W V := by rw [← HV.out]; (repeat (first | exact brf | assumption | refine ble ?_ | refine blx ?_ | refine bla ?_ | refine bls ?_ | refine bld ?_))
  have HJ : Hid (V.heap[W.heap.size]? = some (.cells #[.int .i64 k, .int .i64 l, .int .i64 w, .int .i64 t, .slice (some ⟨b, off, none⟩) q c] 25 (0, 0))) := Lib.hid (by rw [← HV.out]; exact heap_new rfl)
  have zV := blk_lt HJ.out
  obtain ⟨c0, c1, c2, c3, c4, _, _⟩ := blk5 HJ.out
  go_enter Tryz.func89, Tryz.ntmps89
  go_wp2
  rw [HV.out]
  refine wp_region_quietB (by kernel_rfl) (by kernel_rfl) ?_
  repeat (first | go_big_quiet_step (fail) | quiet_step (fail))
  refine wpQuiet_nil ?_
  rintro _ ⟨u, rfl⟩
  have HJu := Lib.hid ((u.below.block _ zV).trans HJ.out)
  have hwu : Below W.heap.size W u.val := below_trans hV u.below
  clear c0 c1 c2 c3 c4
  generalize u.val = w9 at *
  clear u
  obtain ⟨c0, c1, c2, c3, c4, _, zju⟩ := blk5 HJu.out
  have zb9 := Nat.lt_of_lt_of_le zb hwu.size
  go_wp2
  go_ret
  exact ⟨ret_bool rfl, by (repeat (first | exact brf | assumption | refine ble ?_ | refine blx ?_ | refine bla ?_ | refine bls ?_ | refine bld ?_))⟩

set_option linter.unusedVariables false in
set_option maxRecDepth 100000 in
set_option maxHeartbeats 4000000 in
theorem rBroken_5_5 (l w t : Int) (nv : Value) (n : List Int) (W : World) (hn : Ints W nv n) (hlen : 3 ≤ n.length) (h24 : n.length ≤ 24) (hl : 1 ≤ l ∧ l ≤ 100000) (hw : 1 ≤ w ∧ w ≤ 100000) (ht : 1 ≤ t ∧ t ≤ 100000) (hb : ∀ i, i < n.length → -100000 ≤ n.getD i 0 ∧ n.getD i 0 ≤ 100000) (h0 : 1 ≤ n.getD 0 0 ∧ n.getD 0 0 ≤ 8) :
    Calls Tryz.prog 89 #[vJ 5 l w t nv, .int .i64 5] W (Ret W (.bool (narrowB l w t n))) := by
  have HN := Lib.hid hn
  unfold vJ at *
  obtain ⟨b, off, c, rfl, hcc, zb, hi⟩ := hn.at' (by omega)
  have hS := fun W' h => Lib.hid (narrow_any l w t _ n W' (HN.out.below (w' := W') h) hlen h24 hl hw ht h0 hb)
  unfold vJ at hS
  generalize narrowB l w t n = r1 at *
  generalize n.length = q at *
  clear hi hn hb hcc
  obtain ⟨V, HV⟩ : ∃ V, Hid (W.alloc (.cells #[.int .i64 5, .int .i64 l, .int .i64 w, .int .i64 t, .slice (some ⟨b, off, none⟩) q c] 25) = V) := ⟨_, Lib.hid rfl⟩
  have hV : Below W.heap.size W V := by rw [← HV.out]; (repeat (first | exact brf | assumption | refine ble ?_ | refine blx ?_ | refine bla ?_ | refine bls ?_ | refine bld ?_))
  have HJ : Hid (V.heap[W.heap.size]? = some (.cells #[.int .i64 5, .int .i64 l, .int .i64 w, .int .i64 t, .slice (some ⟨b, off, none⟩) q c] 25 (0, 0))) := Lib.hid (by rw [← HV.out]; exact heap_new rfl)
  have zV := blk_lt HJ.out
  obtain ⟨c0, c1, c2, c3, c4, _, _⟩ := blk5 HJ.out
  go_enter Tryz.func89, Tryz.ntmps89
  go_wp2
  rw [HV.out]
  refine wp_region_quietB (by kernel_rfl) (by kernel_rfl) ?_
  repeat (first | go_big_quiet_step (fail) | quiet_step (fail))
  refine wpQuiet_nil ?_
  rintro _ ⟨u, rfl⟩
  have HJu := Lib.hid ((u.below.block _ zV).trans HJ.out)
  have hwu : Below W.heap.size W u.val := below_trans hV u.below
  clear c0 c1 c2 c3 c4
  generalize u.val = w9 at *
  clear u
  obtain ⟨c0, c1, c2, c3, c4, _, zju⟩ := blk5 HJu.out
  have zb9 := Nat.lt_of_lt_of_le zb hwu.size
  go_wp2_with fail
  refine ((hS _ (by (repeat (first | exact brf | assumption | refine ble ?_ | refine blx ?_ | refine bla ?_ | refine bls ?_ | refine bld ?_)))).out).mono ?_
  rintro e w7 ⟨rfl, hb7⟩
  go_wp2
  go_ret
  exact ⟨ret_bool (by simp), below_trans (by (repeat (first | exact brf | assumption | refine ble ?_ | refine blx ?_ | refine bla ?_ | refine bls ?_ | refine bld ?_))) hb7⟩

set_option linter.unusedVariables false in
set_option maxRecDepth 100000 in
set_option maxHeartbeats 4000000 in
theorem rBroken_5_no (k : Int) (l w t : Int) (nv : Value) (n : List Int) (W : World) (hn : Ints W nv n) (hlen : 1 ≤ n.length) (hl : 1 ≤ l ∧ l ≤ 100000) (hw : 1 ≤ w ∧ w ≤ 100000) (ht : 1 ≤ t ∧ t ≤ 100000) (hb : ∀ i, i < n.length → -100000 ≤ n.getD i 0 ∧ n.getD i 0 ≤ 100000) (hk5 : k ≠ 5) :
    Calls Tryz.prog 89 #[vJ k l w t nv, .int .i64 5] W (Ret W (.bool (false))) := by
  have HN := Lib.hid hn
  unfold vJ at *
  obtain ⟨b, off, c, rfl, hcc, zb, hi⟩ := hn.at' (by omega)
  have kk5 : (k == 5) = false := by simpa using hk5
  have kn5 : (k != 5) = true := by simpa using hk5
  generalize n.length = q at *
  clear hi hn hb hcc
  obtain ⟨V, HV⟩ : ∃ V, Hid (W.alloc (.cells #[.int .i64 k, .int .i64 l, .int .i64 w, .int .i64 t, .slice (some ⟨b, off, none⟩) q c] 25) = V) := ⟨_, Lib.hid rfl⟩
  have hV : Below W.heap.size W V := by rw [← HV.out]; (repeat (first | exact brf | assumption | refine ble ?_ | refine blx ?_ | refine bla ?_ | refine bls ?_ | refine bld ?_))
  have HJ : Hid (V.heap[W.heap.size]? = some (.cells #[.int .i64 k, .int .i64 l, .int .i64 w, .int .i64 t, .slice (some ⟨b, off, none⟩) q c] 25 (0, 0))) := Lib.hid (by rw [← HV.out]; exact heap_new rfl)
  have zV := blk_lt HJ.out
  obtain ⟨c0, c1, c2, c3, c4, _, _⟩ := blk5 HJ.out
  go_enter Tryz.func89, Tryz.ntmps89
  go_wp2
  rw [HV.out]
  refine wp_region_quietB (by kernel_rfl) (by kernel_rfl) ?_
  repeat (first | go_big_quiet_step (fail) | quiet_step (fail))
  refine wpQuiet_nil ?_
  rintro _ ⟨u, rfl⟩
  have HJu := Lib.hid ((u.below.block _ zV).trans HJ.out)
  have hwu : Below W.heap.size W u.val := below_trans hV u.below
  clear c0 c1 c2 c3 c4
  generalize u.val = w9 at *
  clear u
  obtain ⟨c0, c1, c2, c3, c4, _, zju⟩ := blk5 HJu.out
  have zb9 := Nat.lt_of_lt_of_le zb hwu.size
  go_wp2
  go_ret
  exact ⟨ret_bool rfl, by (repeat (first | exact brf | assumption | refine ble ?_ | refine blx ?_ | refine bla ?_ | refine bls ?_ | refine bld ?_))⟩

set_option linter.unusedVariables false in
set_option maxRecDepth 100000 in
set_option maxHeartbeats 4000000 in
theorem rBroken_6_6 (l w t : Int) (nv : Value) (n : List Int) (W : World) (hn : Ints W nv n) (hlen : n.length = 3) (hl : 1 ≤ l ∧ l ≤ 100000) (hw : 1 ≤ w ∧ w ≤ 100000) (ht : 1 ≤ t ∧ t ≤ 100000) (hb : ∀ i, i < n.length → -100000 ≤ n.getD i 0 ∧ n.getD i 0 ≤ 100000) (h1 : 1 ≤ n.getD 1 0 ∧ n.getD 1 0 ≤ 8) (h2 : -8 ≤ n.getD 2 0 ∧ n.getD 2 0 ≤ 8) :
    Calls Tryz.prog 89 #[vJ 6 l w t nv, .int .i64 6] W (Ret W (.bool (decide (runN t n < 6 * t)))) := by
  have HN := Lib.hid hn
  unfold vJ at *
  obtain ⟨b, off, c, rfl, hcc, zb, hi⟩ := hn.at' (by omega)
  have hS := fun W' h => Lib.hid (run_any l w t _ n W' (HN.out.below (w' := W') h) hlen ht h1 h2)
  unfold vJ at hS
  generalize runN t n = z at *
  rw [hlen] at hS ⊢
  clear hi hn hb hcc
  have w1 : wrap64 (6 * t) = 6 * t := by unfold wrap64; omega
  have v1 : IntKind.i64.wrap (6 * t) = 6 * t := IntWalk.i64_in _ (by omega)
  -- a is 6 * t
  obtain ⟨V, HV⟩ : ∃ V, Hid (W.alloc (.cells #[.int .i64 6, .int .i64 l, .int .i64 w, .int .i64 t, .slice (some ⟨b, off, none⟩) 3 c] 25) = V) := ⟨_, Lib.hid rfl⟩
  have hV : Below W.heap.size W V := by rw [← HV.out]; (repeat (first | exact brf | assumption | refine ble ?_ | refine blx ?_ | refine bla ?_ | refine bls ?_ | refine bld ?_))
  have HJ : Hid (V.heap[W.heap.size]? = some (.cells #[.int .i64 6, .int .i64 l, .int .i64 w, .int .i64 t, .slice (some ⟨b, off, none⟩) 3 c] 25 (0, 0))) := Lib.hid (by rw [← HV.out]; exact heap_new rfl)
  have zV := blk_lt HJ.out
  obtain ⟨c0, c1, c2, c3, c4, _, _⟩ := blk5 HJ.out
  go_enter Tryz.func89, Tryz.ntmps89
  go_wp2
  rw [HV.out]
  refine wp_region_quietB (by kernel_rfl) (by kernel_rfl) ?_
  repeat (first | go_big_quiet_step (fail) | quiet_step (fail))
  refine wpQuiet_nil ?_
  rintro _ ⟨u, rfl⟩
  have HJu := Lib.hid ((u.below.block _ zV).trans HJ.out)
  have hwu : Below W.heap.size W u.val := below_trans hV u.below
  clear c0 c1 c2 c3 c4
  generalize u.val = w9 at *
  clear u
  obtain ⟨c0, c1, c2, c3, c4, _, zju⟩ := blk5 HJu.out
  have zb9 := Nat.lt_of_lt_of_le zb hwu.size
  go_wp2_with fail
  refine ((hS _ (by (repeat (first | exact brf | assumption | refine ble ?_ | refine blx ?_ | refine bla ?_ | refine bls ?_ | refine bld ?_)))).out).mono ?_
  rintro e w7 ⟨rfl, hb7⟩
  go_wp2
  go_ret
  exact ⟨ret_bool (by simp), below_trans (by (repeat (first | exact brf | assumption | refine ble ?_ | refine blx ?_ | refine bla ?_ | refine bls ?_ | refine bld ?_))) hb7⟩

set_option linter.unusedVariables false in
set_option maxRecDepth 100000 in
set_option maxHeartbeats 4000000 in
theorem rBroken_6_no (k : Int) (l w t : Int) (nv : Value) (n : List Int) (W : World) (hn : Ints W nv n) (hlen : 1 ≤ n.length) (hl : 1 ≤ l ∧ l ≤ 100000) (hw : 1 ≤ w ∧ w ≤ 100000) (ht : 1 ≤ t ∧ t ≤ 100000) (hb : ∀ i, i < n.length → -100000 ≤ n.getD i 0 ∧ n.getD i 0 ≤ 100000) (hk6 : k ≠ 6) :
    Calls Tryz.prog 89 #[vJ k l w t nv, .int .i64 6] W (Ret W (.bool (false))) := by
  have HN := Lib.hid hn
  unfold vJ at *
  obtain ⟨b, off, c, rfl, hcc, zb, hi⟩ := hn.at' (by omega)
  have kk6 : (k == 6) = false := by simpa using hk6
  have kn6 : (k != 6) = true := by simpa using hk6
  generalize n.length = q at *
  clear hi hn hb hcc
  obtain ⟨V, HV⟩ : ∃ V, Hid (W.alloc (.cells #[.int .i64 k, .int .i64 l, .int .i64 w, .int .i64 t, .slice (some ⟨b, off, none⟩) q c] 25) = V) := ⟨_, Lib.hid rfl⟩
  have hV : Below W.heap.size W V := by rw [← HV.out]; (repeat (first | exact brf | assumption | refine ble ?_ | refine blx ?_ | refine bla ?_ | refine bls ?_ | refine bld ?_))
  have HJ : Hid (V.heap[W.heap.size]? = some (.cells #[.int .i64 k, .int .i64 l, .int .i64 w, .int .i64 t, .slice (some ⟨b, off, none⟩) q c] 25 (0, 0))) := Lib.hid (by rw [← HV.out]; exact heap_new rfl)
  have zV := blk_lt HJ.out
  obtain ⟨c0, c1, c2, c3, c4, _, _⟩ := blk5 HJ.out
  go_enter Tryz.func89, Tryz.ntmps89
  go_wp2
  rw [HV.out]
  refine wp_region_quietB (by kernel_rfl) (by kernel_rfl) ?_
  repeat (first | go_big_quiet_step (fail) | quiet_step (fail))
  refine wpQuiet_nil ?_
  rintro _ ⟨u, rfl⟩
  have HJu := Lib.hid ((u.below.block _ zV).trans HJ.out)
  have hwu : Below W.heap.size W u.val := below_trans hV u.below
  clear c0 c1 c2 c3 c4
  generalize u.val = w9 at *
  clear u
  obtain ⟨c0, c1, c2, c3, c4, _, zju⟩ := blk5 HJu.out
  have zb9 := Nat.lt_of_lt_of_le zb hwu.size
  go_wp2
  go_ret
  exact ⟨ret_bool rfl, by (repeat (first | exact brf | assumption | refine ble ?_ | refine blx ?_ | refine bla ?_ | refine bls ?_ | refine bld ?_))⟩

set_option linter.unusedVariables false in
set_option maxRecDepth 100000 in
set_option maxHeartbeats 4000000 in
theorem rBroken_7_no (k : Int) (l w t : Int) (nv : Value) (n : List Int) (W : World) (hn : Ints W nv n) (hlen : 1 ≤ n.length) (hl : 1 ≤ l ∧ l ≤ 100000) (hw : 1 ≤ w ∧ w ≤ 100000) (ht : 1 ≤ t ∧ t ≤ 100000) (hb : ∀ i, i < n.length → -100000 ≤ n.getD i 0 ∧ n.getD i 0 ≤ 100000) (hk8 : k ≠ 8) :
    Calls Tryz.prog 89 #[vJ k l w t nv, .int .i64 7] W (Ret W (.bool (false))) := by
  have HN := Lib.hid hn
  unfold vJ at *
  obtain ⟨b, off, c, rfl, hcc, zb, hi⟩ := hn.at' (by omega)
  have kk8 : (k == 8) = false := by simpa using hk8
  have kn8 : (k != 8) = true := by simpa using hk8
  generalize n.length = q at *
  clear hi hn hb hcc
  obtain ⟨V, HV⟩ : ∃ V, Hid (W.alloc (.cells #[.int .i64 k, .int .i64 l, .int .i64 w, .int .i64 t, .slice (some ⟨b, off, none⟩) q c] 25) = V) := ⟨_, Lib.hid rfl⟩
  have hV : Below W.heap.size W V := by rw [← HV.out]; (repeat (first | exact brf | assumption | refine ble ?_ | refine blx ?_ | refine bla ?_ | refine bls ?_ | refine bld ?_))
  have HJ : Hid (V.heap[W.heap.size]? = some (.cells #[.int .i64 k, .int .i64 l, .int .i64 w, .int .i64 t, .slice (some ⟨b, off, none⟩) q c] 25 (0, 0))) := Lib.hid (by rw [← HV.out]; exact heap_new rfl)
  have zV := blk_lt HJ.out
  obtain ⟨c0, c1, c2, c3, c4, _, _⟩ := blk5 HJ.out
  go_enter Tryz.func89, Tryz.ntmps89
  go_wp2
  rw [HV.out]
  refine wp_region_quietB (by kernel_rfl) (by kernel_rfl) ?_
  repeat (first | go_big_quiet_step (fail) | quiet_step (fail))
  refine wpQuiet_nil ?_
  rintro _ ⟨u, rfl⟩
  have HJu := Lib.hid ((u.below.block _ zV).trans HJ.out)
  have hwu : Below W.heap.size W u.val := below_trans hV u.below
  clear c0 c1 c2 c3 c4
  generalize u.val = w9 at *
  clear u
  obtain ⟨c0, c1, c2, c3, c4, _, zju⟩ := blk5 HJu.out
  have zb9 := Nat.lt_of_lt_of_le zb hwu.size
  go_wp2
  go_ret
  exact ⟨ret_bool rfl, by (repeat (first | exact brf | assumption | refine ble ?_ | refine blx ?_ | refine bla ?_ | refine bls ?_ | refine bld ?_))⟩

set_option linter.unusedVariables false in
set_option maxRecDepth 100000 in
set_option maxHeartbeats 4000000 in
theorem rBroken_7_8 (l w t : Int) (nv : Value) (n : List Int) (W : World) (hn : Ints W nv n) (m : Nat) (hlen : n.length = 6 + 2 * m) (hm1 : 1 ≤ m) (hm : m ≤ 24) (hl : 1 ≤ l ∧ l ≤ 100000) (hw : 1 ≤ w ∧ w ≤ 100000) (ht : 1 ≤ t ∧ t ≤ 100000) (hb : ∀ i, i < n.length → -100000 ≤ n.getD i 0 ∧ n.getD i 0 ≤ 100000) :
    Calls Tryz.prog 89 #[vJ 8 l w t nv, .int .i64 7] W (Ret W (.bool (decide (t < 4 * n.getD 1 0) || nearTo n (m - 1)))) := by
  have HN := Lib.hid hn
  unfold vJ at *
  obtain ⟨b, off, c, rfl, hcc, zb, hi⟩ := hn.at' (by omega)
  have n1 := hi 1 (by omega)
  have b1 := hb 1 (by omega)
  have HI := Lib.hid hi
  have HB := Lib.hid hb
  have Hns : Hid (∀ j, nearTo n (j + 1) = (nearTo n j || decide (n.getD (8 + 2 * j) 0 - n.getD (6 + 2 * j) 0 < 6 * n.getD 1 0))) := Lib.hid (fun j => nearTo_succ n j)
  have Hn0 : Hid (nearTo n 0 = false) := Lib.hid (by simp [nearTo])
  have Hlen := Lib.hid hlen
  rw [hlen]
  obtain ⟨q, Hq⟩ : ∃ q, Hid (6 + 2 * m = q) := ⟨_, Lib.hid rfl⟩
  rw [Hq.out]
  have q1 : (1 : Int) < (q : Int) := by have := Hq.out; omega
  generalize n.getD 1 0 = x1 at *
  clear hi hn hb hcc
  have w1 : wrap64 (4 * x1) = 4 * x1 := by unfold wrap64; omega
  have v1 : IntKind.i64.wrap (4 * x1) = 4 * x1 := IntWalk.i64_in _ (by omega)
  -- a is 4 * x1
  have w2 : wrap64 (6 * x1) = 6 * x1 := by unfold wrap64; omega
  have v2 : IntKind.i64.wrap (6 * x1) = 6 * x1 := IntWalk.i64_in _ (by omega)
  -- b is 6 * x1
  obtain ⟨V, HV⟩ : ∃ V, Hid (W.alloc (.cells #[.int .i64 8, .int .i64 l, .int .i64 w, .int .i64 t, .slice (some ⟨b, off, none⟩) q c] 25) = V) := ⟨_, Lib.hid rfl⟩
  have hV : Below W.heap.size W V := by rw [← HV.out]; (repeat (first | exact brf | assumption | refine ble ?_ | refine blx ?_ | refine bla ?_ | refine bls ?_ | refine bld ?_))
  have HJ : Hid (V.heap[W.heap.size]? = some (.cells #[.int .i64 8, .int .i64 l, .int .i64 w, .int .i64 t, .slice (some ⟨b, off, none⟩) q c] 25 (0, 0))) := Lib.hid (by rw [← HV.out]; exact heap_new rfl)
  have zV := blk_lt HJ.out
  obtain ⟨g, Hg⟩ : ∃ g, Hid (decide (t < 4 * x1) = g) := ⟨_, Lib.hid rfl⟩
  rw [Hg.out]
  obtain ⟨c0, c1, c2, c3, c4, _, _⟩ := blk5 HJ.out
  go_enter Tryz.func89, Tryz.ntmps89
  go_wp2
  rw [HV.out]
  refine wp_region_quietB (by kernel_rfl) (by kernel_rfl) ?_
  repeat (first | go_big_quiet_step (fail) | quiet_step (fail))
  refine wpQuiet_nil ?_
  rintro _ ⟨u, rfl⟩
  have HJu := Lib.hid ((u.below.block _ zV).trans HJ.out)
  have hwu : Below W.heap.size W u.val := below_trans hV u.below
  clear c0 c1 c2 c3 c4
  generalize u.val = w9 at *
  clear u
  obtain ⟨c0, c1, c2, c3, c4, _, zju⟩ := blk5 HJu.out
  have zb9 := Nat.lt_of_lt_of_le zb hwu.size
  have n1 := below_cell hwu n1
  go_wp2
  have HI9 : Hid (∀ i, i < n.length → (w9.alloc (.cells #[.int .i64 t] 168)).cell? ⟨b, off + i, none⟩ = some (.int .i64 (n.getD i 0))) := Lib.hid (fun i h => below_cell (show Below W.heap.size W _ by (repeat (first | exact brf | assumption | refine ble ?_ | refine blx ?_ | refine bla ?_ | refine bls ?_ | refine bld ?_))) (HI.out i h))
  have hw9 : Below W.heap.size W (w9.alloc (.cells #[.int .i64 t] 168)) := by (repeat (first | exact brf | assumption | refine ble ?_ | refine blx ?_ | refine bla ?_ | refine bls ?_ | refine bld ?_))
  have n1 := below_cell (show Below w9.heap.size w9 (w9.alloc (.cells #[.int .i64 t] 168)) by (repeat (first | exact brf | assumption | refine ble ?_ | refine blx ?_ | refine bla ?_ | refine bls ?_ | refine bld ?_))) n1
  generalize (w9.alloc (.cells #[.int .i64 t] 168)) = Y at *
  clear HJu hwu c0 c1 c2 c3 c4 zju zb9
  go_loopw [13, 14] (fun s i wr => ∃ j : Nat, j + 1 ≤ m ∧ i = .int .i64 ((8 + 2 * j : Nat) : Int) ∧ (∃ o, s = .bool o ∧ Hid (o = (g || nearTo n j))) ∧ Below Y.heap.size Y wr) (fun _ i _ => q - (intOf i).toNat)
  case atStart => exact ⟨0, by omega, rfl, ⟨_, rfl, Lib.hid (by rw [Hn0.out, Bool.or_false]; exact Hg.out)⟩, Below.refl _ _⟩
  case round =>
    obtain ⟨j, hj, rfl, ⟨o, rfl, HO⟩, hbj⟩ := hrel
    by_cases hlt : j + 1 < m
    · have d2 := below_cell hbj (HI9.out (8 + 2 * j) (by have := Hlen.out; omega))
      have d1 := below_cell hbj (HI9.out (6 + 2 * j) (by have := Hlen.out; omega))
      have d0 := below_cell hbj n1
      have b8 := HB.out (8 + 2 * j) (by have := Hlen.out; omega)
      have b6 := HB.out (6 + 2 * j) (by have := Hlen.out; omega)
      have Hm := Lib.hid (Hns.out j)
      have zb2 := World.block_lt_of_cell? wr _ d2
      simp only at zb2
      generalize n.getD (8 + 2 * j) 0 = y2 at *
      generalize n.getD (6 + 2 * j) 0 = y1 at *
      have u1 : IntKind.i64.wrap (y2 - y1) = y2 - y1 := IntWalk.i64_in _ (by omega)
      have u2 : IntKind.i64.wrap (6 * x1) = 6 * x1 := IntWalk.i64_in _ (by omega)
      have u6 : IntKind.i64.wrap (((8 + 2 * j : Nat) : Int) - 2) = ((6 + 2 * j : Nat) : Int) := (IntWalk.i64_in _ (by omega)).trans (by omega)
      have m1 : (0 : Int) ≤ ((8 + 2 * j : Nat) : Int) := by omega
      have m2 : ((8 + 2 * j : Nat) : Int) < (q : Int) := by have := Hq.out; omega
      have m3 : (0 : Int) ≤ ((6 + 2 * j : Nat) : Int) := by omega
      have m4 : ((6 + 2 * j : Nat) : Int) < (q : Int) := by have := Hq.out; omega
      obtain ⟨i8, Hi8⟩ : ∃ i8, Hid (8 + 2 * j = i8) := ⟨_, Lib.hid rfl⟩
      obtain ⟨i6, Hi6⟩ : ∃ i6, Hid (6 + 2 * j = i6) := ⟨_, Lib.hid rfl⟩
      have bi8 : i8 ≤ 1000 := by have := Hi8.out; omega
      rw [Hi8.out] at d2 u6 m1 m2 ⊢
      rw [Hi6.out] at d1 u6 m3 m4
      cases o
      · go_wp2
        refine wp_region_quietB (by kernel_rfl) (by kernel_rfl) ?_
        repeat (first | go_big_quiet_step (fail) | quiet_step (fail))
        refine wpQuiet_nil ?_
        rintro _ ⟨u, rfl⟩
        go_wp2
        go_roundw
        case rel => exact ⟨j + 1, by omega, by have := Hi8.out; go_num, ⟨_, rfl, Lib.hid (by rw [Hm.out, ← Bool.or_assoc, ← HO.out]; simp)⟩, below_trans hbj u.below⟩
        case measure => have := Hq.out; have := Hi8.out; simp [intOf]; omega
      · go_wp2
        refine wp_region_quietB (by kernel_rfl) (by kernel_rfl) ?_
        repeat (first | go_big_quiet_step (fail) | quiet_step (fail))
        refine wpQuiet_nil ?_
        rintro _ ⟨u, rfl⟩
        go_wp2
        go_roundw
        case rel => exact ⟨j + 1, by omega, by have := Hi8.out; go_num, ⟨_, rfl, Lib.hid (by rw [Hm.out, ← Bool.or_assoc, ← HO.out]; simp)⟩, below_trans hbj u.below⟩
        case measure => have := Hq.out; have := Hi8.out; simp [intOf]; omega
    · obtain rfl : m = j + 1 := by omega
      have m2 : ¬ ((8 + 2 * j : Nat) : Int) < (q : Int) := by have := Hq.out; omega
      go_wp2
      go_ret
      exact ⟨ret_bool HO.out, below_trans hw9 hbj⟩
end Go.Proofs.YtjglkglaogaenaaGreatDoor
