/- texts of mine, merged: D2. -/
import Derived.Test.YtjglkglaogaenaaGreatDoorGQ
import Derived.Test.YtjglkglaogaenaaGreatDoorGO
/- spokeshaveref03.Right: the kinds with layers (written by gen_right.py). -/
namespace Go.Proofs.YtjglkglaogaenaaGreatDoor
open Go.RowKit Go.Shelf
attribute [local go_sem] Ext.cell Ext.frozen

set_option maxRecDepth 100000 in
set_option maxHeartbeats 2000000 in
theorem rRight_1 (l w t : Int) (nv : Value) (n : List Int) (W : World) (hn : Ints W nv n) (hl : n.length = 2) :
    Calls Tryz.prog 58 #[vJ 1 l w t nv] W (Ret W (.bool (risingB [0, n.getD 0 0, n.getD 1 0, t]))) := by
  unfold vJ
  obtain ⟨b, off, c, rfl, hc, zb, hi⟩ := hn.at' (by omega)
  have c0 := hi 0 (by omega)
  have c1 := hi 1 (by omega)
  rw [Nat.add_zero] at c0
  rw [hl]
  have hr := fun W' x y g hg => Lib.hid (rrising_any _ [0, x, y, t] _ (ints_newL (W := W') (T := 3) (g := g) [0, x, y, t] hg) (by simp))
  generalize n.getD 0 0 = x0 at *
  generalize n.getD 1 0 = x1 at *
  clear hi hn hl
  go_enter Tryz.func58, Tryz.ntmps58
  go_wp2
  refine wp_region_quietB (by kernel_rfl) (by kernel_rfl) ?_
  repeat (first | go_big_quiet_step (fail) | quiet_step (fail))
  refine wpQuiet_nil ?_
  rintro _ ⟨u, rfl⟩
  go_wp2
  have hbu : Below W.heap.size W u.val := by (repeat (first | exact brf | assumption | refine ble ?_ | refine blx ?_ | refine bla ?_ | refine bls ?_ | refine bld ?_))
  have zbu := Nat.lt_of_lt_of_le zb hbu.size
  have cu0 := below_cell hbu c0
  have cu1 := below_cell hbu c1
  refine wp_region_tailB 7 (by kernel_rfl) (by kernel_rfl) ?_
  simp only [List.take_succ_cons, List.take_zero, List.drop_succ_cons, List.drop_zero]
  repeat (first | go_big_quiet_step (fail) | quiet_step (fail))
  refine wpQuiet_nil ?_
  rintro _ ⟨u, rfl⟩
  go_wp2_with fail
  refine ((hr _ _ _ _ rfl).out).mono ?_
  rintro e w1 ⟨rfl, hb1⟩
  go_wp2
  go_ret
  exact ⟨rfl, below_trans (show Below W.heap.size W u.val by (repeat (first | exact brf | assumption | refine ble ?_ | refine blx ?_ | refine bla ?_ | refine bls ?_ | refine bld ?_))) (below_trans (by (repeat (first | exact brf | assumption | refine ble ?_ | refine blx ?_ | refine bla ?_ | refine bls ?_ | refine bld ?_))) hb1)⟩

set_option maxRecDepth 100000 in
set_option maxHeartbeats 1000000 in
theorem rRight_0 (l w t : Int) (nv : Value) (n : List Int) (W : World) (hn : Ints W nv n) (hl : n.length = 1) :
    Calls Tryz.prog 58 #[vJ 0 l w t nv] W (Ret W (.bool (risingB [0, n.getD 0 0, t]))) := by
  unfold vJ
  obtain ⟨b, off, c, rfl, hc, zb, hi⟩ := hn.at' (by omega)
  have c0 := hi 0 (by omega)
  rw [Nat.add_zero] at c0
  rw [hl]
  have hr := fun W' x g hg => Lib.hid (rrising_any _ [0, x, t] _ (ints_newL (W := W') (T := 3) (g := g) [0, x, t] hg) (by simp))
  generalize n.getD 0 0 = x0 at *
  clear hi hn hl
  go_enter Tryz.func58, Tryz.ntmps58
  go_wp2
  refine wp_region_quietB (by kernel_rfl) (by kernel_rfl) ?_
  repeat (first | go_big_quiet_step (fail) | quiet_step (fail))
  refine wpQuiet_nil ?_
  rintro _ ⟨u, rfl⟩
  go_wp2_with fail
  refine ((hr _ _ _ rfl).out).mono ?_
  rintro e w1 ⟨rfl, hb1⟩
  go_wp2
  go_ret
  exact ⟨rfl, below_trans (show Below W.heap.size W u.val by (repeat (first | exact brf | assumption | refine ble ?_ | refine blx ?_ | refine bla ?_ | refine bls ?_ | refine bld ?_))) (below_trans (by (repeat (first | exact brf | assumption | refine ble ?_ | refine blx ?_ | refine bla ?_ | refine bls ?_ | refine bld ?_))) hb1)⟩

set_option maxRecDepth 100000 in
set_option maxHeartbeats 8000000 in
theorem rRight_2 (l w t : Int) (nv : Value) (n : List Int) (W : World) (hn : Ints W nv n) (hl : n.length = 4) :
    Calls Tryz.prog 58 #[vJ 2 l w t nv] W (Ret W (.bool (risingB [0, n.getD 0 0, n.getD 1 0, w] && risingB [0, n.getD 2 0, n.getD 3 0, t]))) := by
  unfold vJ
  obtain ⟨b, off, c, rfl, hc, zb, hi⟩ := hn.at' (by omega)
  have c0 := hi 0 (by omega)
  have c1 := hi 1 (by omega)
  have c2 := hi 2 (by omega)
  have c3 := hi 3 (by omega)
  rw [Nat.add_zero] at c0
  rw [hl]
  generalize n.getD 0 0 = x0 at *
  generalize n.getD 1 0 = x1 at *
  generalize n.getD 2 0 = x2 at *
  generalize n.getD 3 0 = x3 at *
  have h1 := fun W' v (h : Ints W' v [0, x0, x1, w]) => Lib.hid (rrising_any v [0, x0, x1, w] W' h (by simp))
  generalize risingB [0, x0, x1, w] = b1 at *
  have h2 := fun W' v (h : Ints W' v [0, x2, x3, t]) => Lib.hid (rrising_any v [0, x2, x3, t] W' h (by simp))
  generalize risingB [0, x2, x3, t] = b2 at *
  obtain ⟨b3, Hb3⟩ : ∃ b3, Hid ((b1 && b2) = b3) := ⟨_, Lib.hid rfl⟩
  rw [Hb3.out]
  clear hi hn hl
  go_enter Tryz.func58, Tryz.ntmps58
  go_wp2
  refine wp_region_quietB (by kernel_rfl) (by kernel_rfl) ?_
  repeat (first | go_big_quiet_step (fail) | quiet_step (fail))
  refine wpQuiet_nil ?_
  rintro _ ⟨u, rfl⟩
  go_wp2
  have hbu : Below W.heap.size W u.val := by (repeat (first | exact brf | assumption | refine ble ?_ | refine blx ?_ | refine bla ?_ | refine bls ?_ | refine bld ?_))
  have zbu := Nat.lt_of_lt_of_le zb hbu.size
  have cu0 := below_cell hbu c0
  have cu1 := below_cell hbu c1
  have cu2 := below_cell hbu c2
  have cu3 := below_cell hbu c3
  refine wp_region_grow [0, 1, 2, 3, 4, 5, 6, 7, 8, 9, 10, 11, 12, 13, 14, 15, 16, 17, 18, 19] 20 [] (pick [IsV (.slice (some ⟨b, off, none⟩) 4 c), IsV (.pointer (some ⟨b, off, none⟩)), IsV (.int .i64 x0), IsV (.slice (some ⟨b, off, none⟩) 4 c), IsV (.pointer (some ⟨b, off + 1, none⟩)), IsV (.int .i64 x1), IsV (.int .i64 w), IsL [0, x0, x1, w], IsV (.bool b1), IsV (.bool b1), Gd b1 (IsV (.slice (some ⟨b, off, none⟩) 4 c)), Gd b1 (IsV (.pointer (some ⟨b, off + 2, none⟩))), Gd b1 (IsV (.int .i64 x2)), Gd b1 (IsV (.slice (some ⟨b, off, none⟩) 4 c)), Gd b1 (IsV (.pointer (some ⟨b, off + 3, none⟩))), Gd b1 (IsV (.int .i64 x3)), Gd b1 (IsV (.int .i64 t)), Gd b1 (IsL [0, x2, x3, t]), Gd b1 (IsV (.bool b2)), IsV (.bool b3)]) (by kernel_rfl) (by kernel_rfl) (Stabs.pick (by repeat (first | exact Stabs.nil | refine Stabs.cons (by first | exact stab_v _ | exact stab_l _ | exact stab_gd (by first | exact stab_v _ | exact stab_l _)) ?_))) ?_
  try go_frame
  refine wgs rfl rfl (by simp) (fun w' hb' hR K hK => ?_) (fun o0 => ?_)
  · clear hR
    go_simp
    exact hK _ _ (Below.refl _ _) rfl
  try go_frame
  refine wgs rfl rfl (by simp) (fun w' hb' hR K hK => ?_) (fun o1 => ?_)
  · obtain rfl : o0 = .slice (some ⟨b, off, none⟩) 4 c := hR 0 (by kernel_rfl)
    clear hR
    go_simp
    exact hK _ _ (Below.refl _ _) rfl
  try go_frame
  refine wgs rfl rfl (by simp) (fun w' hb' hR K hK => ?_) (fun o2 => ?_)
  · obtain rfl : o1 = .pointer (some ⟨b, off, none⟩) := hR 1 (by kernel_rfl)
    clear hR
    have cc := below_cell hb' cu0
    have zz := World.block_lt_of_cell? w' _ cc
    simp only at zz
    go_simp
    exact hK _ _ (Below.refl _ _) rfl
  try go_frame
  refine wgs rfl rfl (by simp) (fun w' hb' hR K hK => ?_) (fun o3 => ?_)
  · clear hR
    go_simp
    exact hK _ _ (Below.refl _ _) rfl
  try go_frame
  refine wgs rfl rfl (by simp) (fun w' hb' hR K hK => ?_) (fun o4 => ?_)
  · obtain rfl : o3 = .slice (some ⟨b, off, none⟩) 4 c := hR 3 (by kernel_rfl)
    clear hR
    go_simp
    exact hK _ _ (Below.refl _ _) rfl
  try go_frame
  refine wgs rfl rfl (by simp) (fun w' hb' hR K hK => ?_) (fun o5 => ?_)
  · obtain rfl : o4 = .pointer (some ⟨b, off + 1, none⟩) := hR 4 (by kernel_rfl)
    clear hR
    have cc := below_cell hb' cu1
    have zz := World.block_lt_of_cell? w' _ cc
    simp only at zz
    go_simp
    exact hK _ _ (Below.refl _ _) rfl
  try go_frame
  refine wgs rfl rfl (by simp) (fun w' hb' hR K hK => ?_) (fun o6 => ?_)
  · clear hR
    go_simp
    exact hK _ _ (Below.refl _ _) rfl
  try go_frame
  refine wgs rfl rfl (by simp) (fun w' hb' hR K hK => ?_) (fun o7 => ?_)
  · obtain rfl : o2 = .int .i64 x0 := hR 2 (by kernel_rfl)
    obtain rfl : o5 = .int .i64 x1 := hR 5 (by kernel_rfl)
    obtain rfl : o6 = .int .i64 w := hR 6 (by kernel_rfl)
    clear hR
    go_simp
    exact hK _ _ (by (repeat (first | exact brf | assumption | refine ble ?_ | refine blx ?_ | refine bla ?_ | refine bls ?_ | refine bld ?_))) (ints_newL [0, x0, x1, w] rfl)
  try go_frame
  refine wgs rfl rfl (by simp) (fun w' hb' hR K hK => ?_) (fun o8 => ?_)
  · have h7 : (IsL [0, x0, x1, w]) o7 w' := hR 7 (by kernel_rfl)
    clear hR
    go_simp
    refine ((h1 _ _ h7).out).mono ?_
    rintro e w1 ⟨rfl, hb1⟩
    exact hK _ _ hb1 rfl
  try go_frame
  refine wgs rfl rfl (by simp) (fun w' hb' hR K hK => ?_) (fun o9 => ?_)
  · obtain rfl : o8 = .bool b1 := hR 8 (by kernel_rfl)
    clear hR
    go_simp
    exact hK _ _ (Below.refl _ _) rfl
  try go_frame
  refine wgg rfl rfl (by simp) (fun w' hb' hR K hK => ?_) (fun o10 => ?_)
  · obtain rfl : o9 = .bool b1 := hR 9 (by kernel_rfl)
    clear hR
    cases b1
    · exact ifn rfl
    · refine ifp ?_
      go_simp
      exact hK _ _ (Below.refl _ _) rfl
  try go_frame
  refine wgg rfl rfl (by simp) (fun w' hb' hR K hK => ?_) (fun o11 => ?_)
  · obtain rfl : o9 = .bool b1 := hR 9 (by kernel_rfl)
    have h10 : (Gd b1 (IsV (.slice (some ⟨b, off, none⟩) 4 c))) o10 w' := hR 10 (by kernel_rfl)
    clear hR
    cases b1
    · exact ifn rfl
    · refine ifp ?_
      obtain rfl : o10 = .slice (some ⟨b, off, none⟩) 4 c := h10
      go_simp
      exact hK _ _ (Below.refl _ _) rfl
  try go_frame
  refine wgg rfl rfl (by simp) (fun w' hb' hR K hK => ?_) (fun o12 => ?_)
  · obtain rfl : o9 = .bool b1 := hR 9 (by kernel_rfl)
    have h11 : (Gd b1 (IsV (.pointer (some ⟨b, off + 2, none⟩)))) o11 w' := hR 11 (by kernel_rfl)
    clear hR
    cases b1
    · exact ifn rfl
    · refine ifp ?_
      obtain rfl : o11 = .pointer (some ⟨b, off + 2, none⟩) := h11
      have cc := below_cell hb' cu2
      have zz := World.block_lt_of_cell? w' _ cc
      simp only at zz
      go_simp
      exact hK _ _ (Below.refl _ _) rfl
  try go_frame
  refine wgg rfl rfl (by simp) (fun w' hb' hR K hK => ?_) (fun o13 => ?_)
  · obtain rfl : o9 = .bool b1 := hR 9 (by kernel_rfl)
    clear hR
    cases b1
    · exact ifn rfl
    · refine ifp ?_
      go_simp
      exact hK _ _ (Below.refl _ _) rfl
  try go_frame
  refine wgg rfl rfl (by simp) (fun w' hb' hR K hK => ?_) (fun o14 => ?_)
  · obtain rfl : o9 = .bool b1 := hR 9 (by kernel_rfl)
    have h13 : (Gd b1 (IsV (.slice (some ⟨b, off, none⟩) 4 c))) o13 w' := hR 13 (by kernel_rfl)
    clear hR
    cases b1
    · exact ifn rfl
    · refine ifp ?_
      obtain rfl : o13 = .slice (some ⟨b, off, none⟩) 4 c := h13
      go_simp
      exact hK _ _ (Below.refl _ _) rfl
  try go_frame
  refine wgg rfl rfl (by simp) (fun w' hb' hR K hK => ?_) (fun o15 => ?_)
  · obtain rfl : o9 = .bool b1 := hR 9 (by kernel_rfl)
    have h14 : (Gd b1 (IsV (.pointer (some ⟨b, off + 3, none⟩)))) o14 w' := hR 14 (by kernel_rfl)
    clear hR
    cases b1
    · exact ifn rfl
    · refine ifp ?_
      obtain rfl : o14 = .pointer (some ⟨b, off + 3, none⟩) := h14
      have cc := below_cell hb' cu3
      have zz := World.block_lt_of_cell? w' _ cc
      simp only at zz
      go_simp
      exact hK _ _ (Below.refl _ _) rfl
  try go_frame
  refine wgg rfl rfl (by simp) (fun w' hb' hR K hK => ?_) (fun o16 => ?_)
  · obtain rfl : o9 = .bool b1 := hR 9 (by kernel_rfl)
    clear hR
    cases b1
    · exact ifn rfl
    · refine ifp ?_
      go_simp
      exact hK _ _ (Below.refl _ _) rfl
  try go_frame
  refine wgg rfl rfl (by simp) (fun w' hb' hR K hK => ?_) (fun o17 => ?_)
  · obtain rfl : o9 = .bool b1 := hR 9 (by kernel_rfl)
    have h12 : (Gd b1 (IsV (.int .i64 x2))) o12 w' := hR 12 (by kernel_rfl)
    have h15 : (Gd b1 (IsV (.int .i64 x3))) o15 w' := hR 15 (by kernel_rfl)
    have h16 : (Gd b1 (IsV (.int .i64 t))) o16 w' := hR 16 (by kernel_rfl)
    clear hR
    cases b1
    · exact ifn rfl
    · refine ifp ?_
      obtain rfl : o12 = .int .i64 x2 := h12
      obtain rfl : o15 = .int .i64 x3 := h15
      obtain rfl : o16 = .int .i64 t := h16
      go_simp
      exact hK _ _ (by (repeat (first | exact brf | assumption | refine ble ?_ | refine blx ?_ | refine bla ?_ | refine bls ?_ | refine bld ?_))) (ints_newL [0, x2, x3, t] rfl)
  try go_frame
  refine wgg rfl rfl (by simp) (fun w' hb' hR K hK => ?_) (fun o18 => ?_)
  · obtain rfl : o9 = .bool b1 := hR 9 (by kernel_rfl)
    have h17 : (Gd b1 (IsL [0, x2, x3, t])) o17 w' := hR 17 (by kernel_rfl)
    clear hR
    cases b1
    · exact ifn rfl
    · refine ifp ?_
      replace h17 : (IsL [0, x2, x3, t]) o17 w' := h17
      go_simp
      refine ((h2 _ _ h17).out).mono ?_
      rintro e w1 ⟨rfl, hb1⟩
      exact hK _ _ hb1 rfl
  try go_frame
  refine wgs rfl rfl (by simp) (fun w' hb' hR K hK => ?_) (fun o19 => ?_)
  · obtain rfl : o9 = .bool b1 := hR 9 (by kernel_rfl)
    have h18 : (Gd b1 (IsV (.bool b2))) o18 w' := hR 18 (by kernel_rfl)
    clear hR
    cases b1
    · obtain rfl : o18 = undef := h18
      go_simp
      exact hK _ _ (Below.refl _ _) (by show _ = _; rw [← Hb3.out]; simp)
    · obtain rfl : o18 = .bool b2 := h18
      go_simp
      exact hK _ _ (Below.refl _ _) (by show _ = _; rw [← Hb3.out]; simp)
  try go_frame
  refine wpG_nil (fun w' hb' hR => ?_)
  obtain rfl : o19 = .bool b3 := hR 19 (by simp)
  clear hR
  simp only [opsAt, List.filterMap_cons, List.filterMap_nil, List.getElem?_toArray, List.getElem?_cons_zero, List.getElem?_cons_succ]
  go_wp2
  refine NoPanic.normal ?_
  go_wp2
  go_ret
  exact ⟨rfl, below_trans (show Below W.heap.size W _ by (repeat (first | exact brf | assumption | refine ble ?_ | refine blx ?_ | refine bla ?_ | refine bls ?_ | refine bld ?_))) hb'⟩

set_option maxRecDepth 100000 in
set_option maxHeartbeats 8000000 in
theorem rRight_3 (l w t : Int) (nv : Value) (n : List Int) (W : World) (hn : Ints W nv n) (hl : n.length = 6) (hx : (-1000000 ≤ n.getD 0 0 ∧ n.getD 0 0 ≤ 1000000) ∧ (-1000000 ≤ n.getD 1 0 ∧ n.getD 1 0 ≤ 1000000)) :
    Calls Tryz.prog 58 #[vJ 3 l w t nv] W (Ret W (.bool (risingB [0, n.getD 2 0, n.getD 3 0, w] && risingB [0, n.getD 4 0, n.getD 5 0, t] && depthB l n))) := by
  unfold vJ
  obtain ⟨b, off, c, rfl, hc, zb, hi⟩ := hn.at' (by omega)
  have c0 := hi 0 (by omega)
  have c1 := hi 1 (by omega)
  have c2 := hi 2 (by omega)
  have c3 := hi 3 (by omega)
  have c4 := hi 4 (by omega)
  have c5 := hi 5 (by omega)
  rw [Nat.add_zero] at c0
  rw [hl]
  unfold depthB
  generalize n.getD 0 0 = x0 at *
  generalize n.getD 1 0 = x1 at *
  generalize n.getD 2 0 = x2 at *
  generalize n.getD 3 0 = x3 at *
  generalize n.getD 4 0 = x4 at *
  generalize n.getD 5 0 = x5 at *
  have h1 := fun W' v (h : Ints W' v [0, x2, x3, w]) => Lib.hid (rrising_any v [0, x2, x3, w] W' h (by simp))
  generalize risingB [0, x2, x3, w] = b1 at *
  have h2 := fun W' v (h : Ints W' v [0, x4, x5, t]) => Lib.hid (rrising_any v [0, x4, x5, t] W' h (by simp))
  generalize risingB [0, x4, x5, t] = b2 at *
  have hs : IntKind.i64.wrap (x0 + x1) = x0 + x1 := IntWalk.i64_in _ (by omega)
  obtain ⟨g1, Hg1⟩ : ∃ g1, Hid ((decide (0 < x0)) = g1) := ⟨_, Lib.hid rfl⟩
  obtain ⟨b4, Hb4⟩ : ∃ b4, Hid ((g1 && decide (0 ≤ x1)) = b4) := ⟨_, Lib.hid rfl⟩
  obtain ⟨b5, Hb5⟩ : ∃ b5, Hid ((b4 && decide (x0 + x1 < l)) = b5) := ⟨_, Lib.hid rfl⟩
  obtain ⟨b6, Hb6⟩ : ∃ b6, Hid ((b5 && b1) = b6) := ⟨_, Lib.hid rfl⟩
  obtain ⟨b7, Hb7⟩ : ∃ b7, Hid ((b6 && b2) = b7) := ⟨_, Lib.hid rfl⟩
  rw [show (b1 && b2 && decide (0 < x0 ∧ 0 ≤ x1 ∧ x0 + x1 < l)) = b7 by rw [← Hb7.out, ← Hb6.out, ← Hb5.out, ← Hb4.out, ← Hg1.out, Bool.decide_and, Bool.decide_and]; ac_rfl]
  clear hx
  clear hi hn hl
  go_enter Tryz.func58, Tryz.ntmps58
  go_wp2
  refine wp_region_quietB (by kernel_rfl) (by kernel_rfl) ?_
  repeat (first | go_big_quiet_step (fail) | quiet_step (fail))
  refine wpQuiet_nil ?_
  rintro _ ⟨u, rfl⟩
  go_wp2
  have hbu : Below W.heap.size W u.val := by (repeat (first | exact brf | assumption | refine ble ?_ | refine blx ?_ | refine bla ?_ | refine bls ?_ | refine bld ?_))
  have zbu := Nat.lt_of_lt_of_le zb hbu.size
  have cu0 := below_cell hbu c0
  have cu1 := below_cell hbu c1
  have cu2 := below_cell hbu c2
  have cu3 := below_cell hbu c3
  have cu4 := below_cell hbu c4
  have cu5 := below_cell hbu c5
  refine wp_region_grow [0, 1, 2, 3, 4, 5, 6, 7, 8, 9, 10, 11, 12, 13, 14, 15, 16, 17, 18, 19, 20, 21, 22, 23, 24, 25, 26, 27, 28, 29, 30, 31, 32, 33, 34, 35, 36, 37, 38, 39, 40, 41, 42] 43 [] (pick [IsV (.slice (some ⟨b, off, none⟩) 6 c), IsV (.pointer (some ⟨b, off, none⟩)), IsV (.int .i64 x0), IsV (.bool g1), IsV (.bool g1), Gd g1 (IsV (.slice (some ⟨b, off, none⟩) 6 c)), Gd g1 (IsV (.pointer (some ⟨b, off + 1, none⟩))), Gd g1 (IsV (.int .i64 x1)), Gd g1 (IsV (.bool (decide (0 ≤ x1)))), IsV (.bool b4), IsV (.bool b4), Gd b4 (IsV (.slice (some ⟨b, off, none⟩) 6 c)), Gd b4 (IsV (.pointer (some ⟨b, off, none⟩))), Gd b4 (IsV (.int .i64 x0)), Gd b4 (IsV (.slice (some ⟨b, off, none⟩) 6 c)), Gd b4 (IsV (.pointer (some ⟨b, off + 1, none⟩))), Gd b4 (IsV (.int .i64 x1)), Gd b4 (IsV (.int .i64 (x0 + x1))), Gd b4 (IsV (.int .i64 l)), Gd b4 (IsV (.bool (decide ((x0 + x1) < l)))), IsV (.bool b5), IsV (.bool b5), Gd b5 (IsV (.slice (some ⟨b, off, none⟩) 6 c)), Gd b5 (IsV (.pointer (some ⟨b, off + 2, none⟩))), Gd b5 (IsV (.int .i64 x2)), Gd b5 (IsV (.slice (some ⟨b, off, none⟩) 6 c)), Gd b5 (IsV (.pointer (some ⟨b, off + 3, none⟩))), Gd b5 (IsV (.int .i64 x3)), Gd b5 (IsV (.int .i64 w)), Gd b5 (IsL [0, x2, x3, w]), Gd b5 (IsV (.bool b1)), IsV (.bool b6), IsV (.bool b6), Gd b6 (IsV (.slice (some ⟨b, off, none⟩) 6 c)), Gd b6 (IsV (.pointer (some ⟨b, off + 4, none⟩))), Gd b6 (IsV (.int .i64 x4)), Gd b6 (IsV (.slice (some ⟨b, off, none⟩) 6 c)), Gd b6 (IsV (.pointer (some ⟨b, off + 5, none⟩))), Gd b6 (IsV (.int .i64 x5)), Gd b6 (IsV (.int .i64 t)), Gd b6 (IsL [0, x4, x5, t]), Gd b6 (IsV (.bool b2)), IsV (.bool b7)]) (by kernel_rfl) (by kernel_rfl) (Stabs.pick (by repeat (first | exact Stabs.nil | refine Stabs.cons (by first | exact stab_v _ | exact stab_l _ | exact stab_gd (by first | exact stab_v _ | exact stab_l _)) ?_))) ?_
  try go_frame
  refine wgs rfl rfl (by simp) (fun w' hb' hR K hK => ?_) (fun o0 => ?_)
  · clear hR
    go_simp
    exact hK _ _ (Below.refl _ _) rfl
  try go_frame
  refine wgs rfl rfl (by simp) (fun w' hb' hR K hK => ?_) (fun o1 => ?_)
  · obtain rfl : o0 = .slice (some ⟨b, off, none⟩) 6 c := hR 0 (by kernel_rfl)
    clear hR
    go_simp
    exact hK _ _ (Below.refl _ _) rfl
  try go_frame
  refine wgs rfl rfl (by simp) (fun w' hb' hR K hK => ?_) (fun o2 => ?_)
  · obtain rfl : o1 = .pointer (some ⟨b, off, none⟩) := hR 1 (by kernel_rfl)
    clear hR
    have cc := below_cell hb' cu0
    have zz := World.block_lt_of_cell? w' _ cc
    simp only at zz
    go_simp
    exact hK _ _ (Below.refl _ _) rfl
  try go_frame
  refine wgs rfl rfl (by simp) (fun w' hb' hR K hK => ?_) (fun o3 => ?_)
  · obtain rfl : o2 = .int .i64 x0 := hR 2 (by kernel_rfl)
    clear hR
    go_simp
    exact hK _ _ (Below.refl _ _) (by show _ = _; rw [Hg1.out])
  try go_frame
  refine wgs rfl rfl (by simp) (fun w' hb' hR K hK => ?_) (fun o4 => ?_)
  · obtain rfl : o3 = .bool g1 := hR 3 (by kernel_rfl)
    clear hR
    go_simp
    exact hK _ _ (Below.refl _ _) rfl
  try go_frame
  refine wgg rfl rfl (by simp) (fun w' hb' hR K hK => ?_) (fun o5 => ?_)
  · obtain rfl : o4 = .bool g1 := hR 4 (by kernel_rfl)
    clear hR
    cases g1
    · exact ifn rfl
    · refine ifp ?_
      go_simp
      exact hK _ _ (Below.refl _ _) rfl
  try go_frame
  refine wgg rfl rfl (by simp) (fun w' hb' hR K hK => ?_) (fun o6 => ?_)
  · obtain rfl : o4 = .bool g1 := hR 4 (by kernel_rfl)
    have h5 : (Gd g1 (IsV (.slice (some ⟨b, off, none⟩) 6 c))) o5 w' := hR 5 (by kernel_rfl)
    clear hR
    cases g1
    · exact ifn rfl
    · refine ifp ?_
      obtain rfl : o5 = .slice (some ⟨b, off, none⟩) 6 c := h5
      go_simp
      exact hK _ _ (Below.refl _ _) rfl
  try go_frame
  refine wgg rfl rfl (by simp) (fun w' hb' hR K hK => ?_) (fun o7 => ?_)
  · obtain rfl : o4 = .bool g1 := hR 4 (by kernel_rfl)
    have h6 : (Gd g1 (IsV (.pointer (some ⟨b, off + 1, none⟩)))) o6 w' := hR 6 (by kernel_rfl)
    clear hR
    cases g1
    · exact ifn rfl
    · refine ifp ?_
      obtain rfl : o6 = .pointer (some ⟨b, off + 1, none⟩) := h6
      have cc := below_cell hb' cu1
      have zz := World.block_lt_of_cell? w' _ cc
      simp only at zz
      go_simp
      exact hK _ _ (Below.refl _ _) rfl
  try go_frame
  refine wgg rfl rfl (by simp) (fun w' hb' hR K hK => ?_) (fun o8 => ?_)
  · obtain rfl : o4 = .bool g1 := hR 4 (by kernel_rfl)
    have h7 : (Gd g1 (IsV (.int .i64 x1))) o7 w' := hR 7 (by kernel_rfl)
    clear hR
    cases g1
    · exact ifn rfl
    · refine ifp ?_
      obtain rfl : o7 = .int .i64 x1 := h7
      go_simp
      exact hK _ _ (Below.refl _ _) rfl
  try go_frame
  refine wgs rfl rfl (by simp) (fun w' hb' hR K hK => ?_) (fun o9 => ?_)
  · obtain rfl : o4 = .bool g1 := hR 4 (by kernel_rfl)
    have h8 : (Gd g1 (IsV (.bool (decide (0 ≤ x1))))) o8 w' := hR 8 (by kernel_rfl)
    clear hR
    cases g1
    · obtain rfl : o8 = undef := h8
      go_simp
      exact hK _ _ (Below.refl _ _) (by show _ = _; rw [← Hb4.out]; simp)
    · obtain rfl : o8 = .bool (decide (0 ≤ x1)) := h8
      go_simp
      exact hK _ _ (Below.refl _ _) (by show _ = _; rw [← Hb4.out]; simp)
  try go_frame
  refine wgs rfl rfl (by simp) (fun w' hb' hR K hK => ?_) (fun o10 => ?_)
  · obtain rfl : o9 = .bool b4 := hR 9 (by kernel_rfl)
    clear hR
    go_simp
    exact hK _ _ (Below.refl _ _) rfl
  try go_frame
  refine wgg rfl rfl (by simp) (fun w' hb' hR K hK => ?_) (fun o11 => ?_)
  · obtain rfl : o10 = .bool b4 := hR 10 (by kernel_rfl)
    clear hR
    cases b4
    · exact ifn rfl
    · refine ifp ?_
      go_simp
      exact hK _ _ (Below.refl _ _) rfl
  try go_frame
  refine wgg rfl rfl (by simp) (fun w' hb' hR K hK => ?_) (fun o12 => ?_)
  · obtain rfl : o10 = .bool b4 := hR 10 (by kernel_rfl)
    have h11 : (Gd b4 (IsV (.slice (some ⟨b, off, none⟩) 6 c))) o11 w' := hR 11 (by kernel_rfl)
    clear hR
    cases b4
    · exact ifn rfl
    · refine ifp ?_
      obtain rfl : o11 = .slice (some ⟨b, off, none⟩) 6 c := h11
      go_simp
      exact hK _ _ (Below.refl _ _) rfl
  try go_frame
  refine wgg rfl rfl (by simp) (fun w' hb' hR K hK => ?_) (fun o13 => ?_)
  · obtain rfl : o10 = .bool b4 := hR 10 (by kernel_rfl)
    have h12 : (Gd b4 (IsV (.pointer (some ⟨b, off, none⟩)))) o12 w' := hR 12 (by kernel_rfl)
    clear hR
    cases b4
    · exact ifn rfl
    · refine ifp ?_
      obtain rfl : o12 = .pointer (some ⟨b, off, none⟩) := h12
      have cc := below_cell hb' cu0
      have zz := World.block_lt_of_cell? w' _ cc
      simp only at zz
      go_simp
      exact hK _ _ (Below.refl _ _) rfl
  try go_frame
  refine wgg rfl rfl (by simp) (fun w' hb' hR K hK => ?_) (fun o14 => ?_)
  · obtain rfl : o10 = .bool b4 := hR 10 (by kernel_rfl)
    clear hR
    cases b4
    · exact ifn rfl
    · refine ifp ?_
      go_simp
      exact hK _ _ (Below.refl _ _) rfl
  try go_frame
  refine wgg rfl rfl (by simp) (fun w' hb' hR K hK => ?_) (fun o15 => ?_)
  · obtain rfl : o10 = .bool b4 := hR 10 (by kernel_rfl)
    have h14 : (Gd b4 (IsV (.slice (some ⟨b, off, none⟩) 6 c))) o14 w' := hR 14 (by kernel_rfl)
    clear hR
    cases b4
    · exact ifn rfl
    · refine ifp ?_
      obtain rfl : o14 = .slice (some ⟨b, off, none⟩) 6 c := h14
      go_simp
      exact hK _ _ (Below.refl _ _) rfl
  try go_frame
  refine wgg rfl rfl (by simp) (fun w' hb' hR K hK => ?_) (fun o16 => ?_)
  · obtain rfl : o10 = .bool b4 := hR 10 (by kernel_rfl)
    have h15 : (Gd b4 (IsV (.pointer (some ⟨b, off + 1, none⟩)))) o15 w' := hR 15 (by kernel_rfl)
    clear hR
    cases b4
    · exact ifn rfl
    · refine ifp ?_
      obtain rfl : o15 = .pointer (some ⟨b, off + 1, none⟩) := h15
      have cc := below_cell hb' cu1
      have zz := World.block_lt_of_cell? w' _ cc
      simp only at zz
      go_simp
      exact hK _ _ (Below.refl _ _) rfl
  try go_frame
  refine wgg rfl rfl (by simp) (fun w' hb' hR K hK => ?_) (fun o17 => ?_)
  · obtain rfl : o10 = .bool b4 := hR 10 (by kernel_rfl)
    have h13 : (Gd b4 (IsV (.int .i64 x0))) o13 w' := hR 13 (by kernel_rfl)
    have h16 : (Gd b4 (IsV (.int .i64 x1))) o16 w' := hR 16 (by kernel_rfl)
    clear hR
    cases b4
    · exact ifn rfl
    · refine ifp ?_
      obtain rfl : o13 = .int .i64 x0 := h13
      obtain rfl : o16 = .int .i64 x1 := h16
      go_simp
      exact hK _ _ (Below.refl _ _) rfl
  try go_frame
  refine wgg rfl rfl (by simp) (fun w' hb' hR K hK => ?_) (fun o18 => ?_)
  · obtain rfl : o10 = .bool b4 := hR 10 (by kernel_rfl)
    clear hR
    cases b4
    · exact ifn rfl
    · refine ifp ?_
      go_simp
      exact hK _ _ (Below.refl _ _) rfl
  try go_frame
  refine wgg rfl rfl (by simp) (fun w' hb' hR K hK => ?_) (fun o19 => ?_)
  · obtain rfl : o10 = .bool b4 := hR 10 (by kernel_rfl)
    have h17 : (Gd b4 (IsV (.int .i64 (x0 + x1)))) o17 w' := hR 17 (by kernel_rfl)
    have h18 : (Gd b4 (IsV (.int .i64 l))) o18 w' := hR 18 (by kernel_rfl)
    clear hR
    cases b4
    · exact ifn rfl
    · refine ifp ?_
      obtain rfl : o17 = .int .i64 (x0 + x1) := h17
      obtain rfl : o18 = .int .i64 l := h18
      go_simp
      exact hK _ _ (Below.refl _ _) rfl
  try go_frame
  refine wgs rfl rfl (by simp) (fun w' hb' hR K hK => ?_) (fun o20 => ?_)
  · obtain rfl : o10 = .bool b4 := hR 10 (by kernel_rfl)
    have h19 : (Gd b4 (IsV (.bool (decide ((x0 + x1) < l))))) o19 w' := hR 19 (by kernel_rfl)
    clear hR
    cases b4
    · obtain rfl : o19 = undef := h19
      go_simp
      exact hK _ _ (Below.refl _ _) (by show _ = _; rw [← Hb5.out]; simp)
    · obtain rfl : o19 = .bool (decide ((x0 + x1) < l)) := h19
      go_simp
      exact hK _ _ (Below.refl _ _) (by show _ = _; rw [← Hb5.out]; simp)
  try go_frame
  refine wgs rfl rfl (by simp) (fun w' hb' hR K hK => ?_) (fun o21 => ?_)
  · obtain rfl : o20 = .bool b5 := hR 20 (by kernel_rfl)
    clear hR
    go_simp
    exact hK _ _ (Below.refl _ _) rfl
  try go_frame
  refine wgg rfl rfl (by simp) (fun w' hb' hR K hK => ?_) (fun o22 => ?_)
  · obtain rfl : o21 = .bool b5 := hR 21 (by kernel_rfl)
    clear hR
    cases b5
    · exact ifn rfl
    · refine ifp ?_
      go_simp
      exact hK _ _ (Below.refl _ _) rfl
  try go_frame
  refine wgg rfl rfl (by simp) (fun w' hb' hR K hK => ?_) (fun o23 => ?_)
  · obtain rfl : o21 = .bool b5 := hR 21 (by kernel_rfl)
    have h22 : (Gd b5 (IsV (.slice (some ⟨b, off, none⟩) 6 c))) o22 w' := hR 22 (by kernel_rfl)
    clear hR
    cases b5
    · exact ifn rfl
    · refine ifp ?_
      obtain rfl : o22 = .slice (some ⟨b, off, none⟩) 6 c := h22
      go_simp
      exact hK _ _ (Below.refl _ _) rfl
  try go_frame
  refine wgg rfl rfl (by simp) (fun w' hb' hR K hK => ?_) (fun o24 => ?_)
  · obtain rfl : o21 = .bool b5 := hR 21 (by kernel_rfl)
    have h23 : (Gd b5 (IsV (.pointer (some ⟨b, off + 2, none⟩)))) o23 w' := hR 23 (by kernel_rfl)
    clear hR
    cases b5
    · exact ifn rfl
    · refine ifp ?_
      obtain rfl : o23 = .pointer (some ⟨b, off + 2, none⟩) := h23
      have cc := below_cell hb' cu2
      have zz := World.block_lt_of_cell? w' _ cc
      simp only at zz
      go_simp
      exact hK _ _ (Below.refl _ _) rfl
  try go_frame
  refine wgg rfl rfl (by simp) (fun w' hb' hR K hK => ?_) (fun o25 => ?_)
  · obtain rfl : o21 = .bool b5 := hR 21 (by kernel_rfl)
    clear hR
    cases b5
    · exact ifn rfl
    · refine ifp ?_
      go_simp
      exact hK _ _ (Below.refl _ _) rfl
  try go_frame
  refine wgg rfl rfl (by simp) (fun w' hb' hR K hK => ?_) (fun o26 => ?_)
  · obtain rfl : o21 = .bool b5 := hR 21 (by kernel_rfl)
    have h25 : (Gd b5 (IsV (.slice (some ⟨b, off, none⟩) 6 c))) o25 w' := hR 25 (by kernel_rfl)
    clear hR
    cases b5
    · exact ifn rfl
    · refine ifp ?_
      obtain rfl : o25 = .slice (some ⟨b, off, none⟩) 6 c := h25
      go_simp
      exact hK _ _ (Below.refl _ _) rfl
  try go_frame
  refine wgg rfl rfl (by simp) (fun w' hb' hR K hK => ?_) (fun o27 => ?_)
  · obtain rfl : o21 = .bool b5 := hR 21 (by kernel_rfl)
    have h26 : (Gd b5 (IsV (.pointer (some ⟨b, off + 3, none⟩)))) o26 w' := hR 26 (by kernel_rfl)
    clear hR
    cases b5
    · exact ifn rfl
    · refine ifp ?_
      obtain rfl : o26 = .pointer (some ⟨b, off + 3, none⟩) := h26
      have cc := below_cell hb' cu3
      have zz := World.block_lt_of_cell? w' _ cc
      simp only at zz
      go_simp
      exact hK _ _ (Below.refl _ _) rfl
  try go_frame
  refine wgg rfl rfl (by simp) (fun w' hb' hR K hK => ?_) (fun o28 => ?_)
  · obtain rfl : o21 = .bool b5 := hR 21 (by kernel_rfl)
    clear hR
    cases b5
    · exact ifn rfl
    · refine ifp ?_
      go_simp
      exact hK _ _ (Below.refl _ _) rfl
  try go_frame
  refine wgg rfl rfl (by simp) (fun w' hb' hR K hK => ?_) (fun o29 => ?_)
  · obtain rfl : o21 = .bool b5 := hR 21 (by kernel_rfl)
    have h24 : (Gd b5 (IsV (.int .i64 x2))) o24 w' := hR 24 (by kernel_rfl)
    have h27 : (Gd b5 (IsV (.int .i64 x3))) o27 w' := hR 27 (by kernel_rfl)
    have h28 : (Gd b5 (IsV (.int .i64 w))) o28 w' := hR 28 (by kernel_rfl)
    clear hR
    cases b5
    · exact ifn rfl
    · refine ifp ?_
      obtain rfl : o24 = .int .i64 x2 := h24
      obtain rfl : o27 = .int .i64 x3 := h27
      obtain rfl : o28 = .int .i64 w := h28
      go_simp
      exact hK _ _ (by (repeat (first | exact brf | assumption | refine ble ?_ | refine blx ?_ | refine bla ?_ | refine bls ?_ | refine bld ?_))) (ints_newL [0, x2, x3, w] rfl)
  try go_frame
  refine wgg rfl rfl (by simp) (fun w' hb' hR K hK => ?_) (fun o30 => ?_)
  · obtain rfl : o21 = .bool b5 := hR 21 (by kernel_rfl)
    have h29 : (Gd b5 (IsL [0, x2, x3, w])) o29 w' := hR 29 (by kernel_rfl)
    clear hR
    cases b5
    · exact ifn rfl
    · refine ifp ?_
      replace h29 : (IsL [0, x2, x3, w]) o29 w' := h29
      go_simp
      refine ((h1 _ _ h29).out).mono ?_
      rintro e w1 ⟨rfl, hb1⟩
      exact hK _ _ hb1 rfl
  try go_frame
  refine wgs rfl rfl (by simp) (fun w' hb' hR K hK => ?_) (fun o31 => ?_)
  · obtain rfl : o21 = .bool b5 := hR 21 (by kernel_rfl)
    have h30 : (Gd b5 (IsV (.bool b1))) o30 w' := hR 30 (by kernel_rfl)
    clear hR
    cases b5
    · obtain rfl : o30 = undef := h30
      go_simp
      exact hK _ _ (Below.refl _ _) (by show _ = _; rw [← Hb6.out]; simp)
    · obtain rfl : o30 = .bool b1 := h30
      go_simp
      exact hK _ _ (Below.refl _ _) (by show _ = _; rw [← Hb6.out]; simp)
  try go_frame
  refine wgs rfl rfl (by simp) (fun w' hb' hR K hK => ?_) (fun o32 => ?_)
  · obtain rfl : o31 = .bool b6 := hR 31 (by kernel_rfl)
    clear hR
    go_simp
    exact hK _ _ (Below.refl _ _) rfl
  try go_frame
  refine wgg rfl rfl (by simp) (fun w' hb' hR K hK => ?_) (fun o33 => ?_)
  · obtain rfl : o32 = .bool b6 := hR 32 (by kernel_rfl)
    clear hR
    cases b6
    · exact ifn rfl
    · refine ifp ?_
      go_simp
      exact hK _ _ (Below.refl _ _) rfl
  try go_frame
  refine wgg rfl rfl (by simp) (fun w' hb' hR K hK => ?_) (fun o34 => ?_)
  · obtain rfl : o32 = .bool b6 := hR 32 (by kernel_rfl)
    have h33 : (Gd b6 (IsV (.slice (some ⟨b, off, none⟩) 6 c))) o33 w' := hR 33 (by kernel_rfl)
    clear hR
    cases b6
    · exact ifn rfl
    · refine ifp ?_
      obtain rfl : o33 = .slice (some ⟨b, off, none⟩) 6 c := h33
      go_simp
      exact hK _ _ (Below.refl _ _) rfl
  try go_frame
  refine wgg rfl rfl (by simp) (fun w' hb' hR K hK => ?_) (fun o35 => ?_)
  · obtain rfl : o32 = .bool b6 := hR 32 (by kernel_rfl)
    have h34 : (Gd b6 (IsV (.pointer (some ⟨b, off + 4, none⟩)))) o34 w' := hR 34 (by kernel_rfl)
    clear hR
    cases b6
    · exact ifn rfl
    · refine ifp ?_
      obtain rfl : o34 = .pointer (some ⟨b, off + 4, none⟩) := h34
      have cc := below_cell hb' cu4
      have zz := World.block_lt_of_cell? w' _ cc
      simp only at zz
      go_simp
      exact hK _ _ (Below.refl _ _) rfl
  try go_frame
  refine wgg rfl rfl (by simp) (fun w' hb' hR K hK => ?_) (fun o36 => ?_)
  · obtain rfl : o32 = .bool b6 := hR 32 (by kernel_rfl)
    clear hR
    cases b6
    · exact ifn rfl
    · refine ifp ?_
      go_simp
      exact hK _ _ (Below.refl _ _) rfl
  try go_frame
  refine wgg rfl rfl (by simp) (fun w' hb' hR K hK => ?_) (fun o37 => ?_)
  · obtain rfl : o32 = .bool b6 := hR 32 (by kernel_rfl)
    have h36 : (Gd b6 (IsV (.slice (some ⟨b, off, none⟩) 6 c))) o36 w' := hR 36 (by kernel_rfl)
    clear hR
    cases b6
    · exact ifn rfl
    · refine ifp ?_
      obtain rfl : o36 = .slice (some ⟨b, off, none⟩) 6 c := h36
      go_simp
      exact hK _ _ (Below.refl _ _) rfl
  try go_frame
  refine wgg rfl rfl (by simp) (fun w' hb' hR K hK => ?_) (fun o38 => ?_)
  · obtain rfl : o32 = .bool b6 := hR 32 (by kernel_rfl)
    have h37 : (Gd b6 (IsV (.pointer (some ⟨b, off + 5, none⟩)))) o37 w' := hR 37 (by kernel_rfl)
    clear hR
    cases b6
    · exact ifn rfl
    · refine ifp ?_
      obtain rfl : o37 = .pointer (some ⟨b, off + 5, none⟩) := h37
      have cc := below_cell hb' cu5
      have zz := World.block_lt_of_cell? w' _ cc
      simp only at zz
      go_simp
      exact hK _ _ (Below.refl _ _) rfl
  try go_frame
  refine wgg rfl rfl (by simp) (fun w' hb' hR K hK => ?_) (fun o39 => ?_)
  · obtain rfl : o32 = .bool b6 := hR 32 (by kernel_rfl)
    clear hR
    cases b6
    · exact ifn rfl
    · refine ifp ?_
      go_simp
      exact hK _ _ (Below.refl _ _) rfl
  try go_frame
  refine wgg rfl rfl (by simp) (fun w' hb' hR K hK => ?_) (fun o40 => ?_)
  · obtain rfl : o32 = .bool b6 := hR 32 (by kernel_rfl)
    have h35 : (Gd b6 (IsV (.int .i64 x4))) o35 w' := hR 35 (by kernel_rfl)
    have h38 : (Gd b6 (IsV (.int .i64 x5))) o38 w' := hR 38 (by kernel_rfl)
    have h39 : (Gd b6 (IsV (.int .i64 t))) o39 w' := hR 39 (by kernel_rfl)
    clear hR
    cases b6
    · exact ifn rfl
    · refine ifp ?_
      obtain rfl : o35 = .int .i64 x4 := h35
      obtain rfl : o38 = .int .i64 x5 := h38
      obtain rfl : o39 = .int .i64 t := h39
      go_simp
      exact hK _ _ (by (repeat (first | exact brf | assumption | refine ble ?_ | refine blx ?_ | refine bla ?_ | refine bls ?_ | refine bld ?_))) (ints_newL [0, x4, x5, t] rfl)
  try go_frame
  refine wgg rfl rfl (by simp) (fun w' hb' hR K hK => ?_) (fun o41 => ?_)
  · obtain rfl : o32 = .bool b6 := hR 32 (by kernel_rfl)
    have h40 : (Gd b6 (IsL [0, x4, x5, t])) o40 w' := hR 40 (by kernel_rfl)
    clear hR
    cases b6
    · exact ifn rfl
    · refine ifp ?_
      replace h40 : (IsL [0, x4, x5, t]) o40 w' := h40
      go_simp
      refine ((h2 _ _ h40).out).mono ?_
      rintro e w1 ⟨rfl, hb1⟩
      exact hK _ _ hb1 rfl
  try go_frame
  refine wgs rfl rfl (by simp) (fun w' hb' hR K hK => ?_) (fun o42 => ?_)
  · obtain rfl : o32 = .bool b6 := hR 32 (by kernel_rfl)
    have h41 : (Gd b6 (IsV (.bool b2))) o41 w' := hR 41 (by kernel_rfl)
    clear hR
    cases b6
    · obtain rfl : o41 = undef := h41
      go_simp
      exact hK _ _ (Below.refl _ _) (by show _ = _; rw [← Hb7.out]; simp)
    · obtain rfl : o41 = .bool b2 := h41
      go_simp
      exact hK _ _ (Below.refl _ _) (by show _ = _; rw [← Hb7.out]; simp)
  try go_frame
  refine wpG_nil (fun w' hb' hR => ?_)
  obtain rfl : o42 = .bool b7 := hR 42 (by simp)
  clear hR
  simp only [opsAt, List.filterMap_cons, List.filterMap_nil, List.getElem?_toArray, List.getElem?_cons_zero, List.getElem?_cons_succ]
  go_wp2
  refine NoPanic.normal ?_
  go_wp2
  go_ret
  exact ⟨rfl, below_trans (show Below W.heap.size W _ by (repeat (first | exact brf | assumption | refine ble ?_ | refine blx ?_ | refine bla ?_ | refine bls ?_ | refine bld ?_))) hb'⟩

set_option maxRecDepth 100000 in
set_option maxHeartbeats 8000000 in
theorem rRight_4 (l w t : Int) (nv : Value) (n : List Int) (W : World) (hn : Ints W nv n) (hl : n.length = 4) (hx : (-1000000 ≤ n.getD 0 0 ∧ n.getD 0 0 ≤ 1000000) ∧ (-1000000 ≤ n.getD 1 0 ∧ n.getD 1 0 ≤ 1000000)) :
    Calls Tryz.prog 58 #[vJ 4 l w t nv] W (Ret W (.bool (risingB [0, n.getD 2 0, n.getD 3 0, t] && depthB l n))) := by
  unfold vJ
  obtain ⟨b, off, c, rfl, hc, zb, hi⟩ := hn.at' (by omega)
  have c0 := hi 0 (by omega)
  have c1 := hi 1 (by omega)
  have c2 := hi 2 (by omega)
  have c3 := hi 3 (by omega)
  rw [Nat.add_zero] at c0
  rw [hl]
  unfold depthB
  generalize n.getD 0 0 = x0 at *
  generalize n.getD 1 0 = x1 at *
  generalize n.getD 2 0 = x2 at *
  generalize n.getD 3 0 = x3 at *
  have h1 := fun W' v (h : Ints W' v [0, x2, x3, t]) => Lib.hid (rrising_any v [0, x2, x3, t] W' h (by simp))
  generalize risingB [0, x2, x3, t] = b1 at *
  have hs : IntKind.i64.wrap (x0 + x1) = x0 + x1 := IntWalk.i64_in _ (by omega)
  obtain ⟨g1, Hg1⟩ : ∃ g1, Hid ((decide (0 < x0)) = g1) := ⟨_, Lib.hid rfl⟩
  obtain ⟨b4, Hb4⟩ : ∃ b4, Hid ((g1 && decide (0 ≤ x1)) = b4) := ⟨_, Lib.hid rfl⟩
  obtain ⟨b5, Hb5⟩ : ∃ b5, Hid ((b4 && decide (x0 + x1 < l)) = b5) := ⟨_, Lib.hid rfl⟩
  obtain ⟨b6, Hb6⟩ : ∃ b6, Hid ((b5 && b1) = b6) := ⟨_, Lib.hid rfl⟩
  rw [show (b1 && decide (0 < x0 ∧ 0 ≤ x1 ∧ x0 + x1 < l)) = b6 by rw [← Hb6.out, ← Hb5.out, ← Hb4.out, ← Hg1.out, Bool.decide_and, Bool.decide_and]; ac_rfl]
  clear hx
  clear hi hn hl
  go_enter Tryz.func58, Tryz.ntmps58
  go_wp2
  refine wp_region_quietB (by kernel_rfl) (by kernel_rfl) ?_
  repeat (first | go_big_quiet_step (fail) | quiet_step (fail))
  refine wpQuiet_nil ?_
  rintro _ ⟨u, rfl⟩
  go_wp2
  have hbu : Below W.heap.size W u.val := by (repeat (first | exact brf | assumption | refine ble ?_ | refine blx ?_ | refine bla ?_ | refine bls ?_ | refine bld ?_))
  have zbu := Nat.lt_of_lt_of_le zb hbu.size
  have cu0 := below_cell hbu c0
  have cu1 := below_cell hbu c1
  have cu2 := below_cell hbu c2
  have cu3 := below_cell hbu c3
  refine wp_region_grow [0, 1, 2, 3, 4, 5, 6, 7, 8, 9, 10, 11, 12, 13, 14, 15, 16, 17, 18, 19, 20, 21, 22, 23, 24, 25, 26, 27, 28, 29, 30, 31] 32 [] (pick [IsV (.slice (some ⟨b, off, none⟩) 4 c), IsV (.pointer (some ⟨b, off, none⟩)), IsV (.int .i64 x0), IsV (.bool g1), IsV (.bool g1), Gd g1 (IsV (.slice (some ⟨b, off, none⟩) 4 c)), Gd g1 (IsV (.pointer (some ⟨b, off + 1, none⟩))), Gd g1 (IsV (.int .i64 x1)), Gd g1 (IsV (.bool (decide (0 ≤ x1)))), IsV (.bool b4), IsV (.bool b4), Gd b4 (IsV (.slice (some ⟨b, off, none⟩) 4 c)), Gd b4 (IsV (.pointer (some ⟨b, off, none⟩))), Gd b4 (IsV (.int .i64 x0)), Gd b4 (IsV (.slice (some ⟨b, off, none⟩) 4 c)), Gd b4 (IsV (.pointer (some ⟨b, off + 1, none⟩))), Gd b4 (IsV (.int .i64 x1)), Gd b4 (IsV (.int .i64 (x0 + x1))), Gd b4 (IsV (.int .i64 l)), Gd b4 (IsV (.bool (decide ((x0 + x1) < l)))), IsV (.bool b5), IsV (.bool b5), Gd b5 (IsV (.slice (some ⟨b, off, none⟩) 4 c)), Gd b5 (IsV (.pointer (some ⟨b, off + 2, none⟩))), Gd b5 (IsV (.int .i64 x2)), Gd b5 (IsV (.slice (some ⟨b, off, none⟩) 4 c)), Gd b5 (IsV (.pointer (some ⟨b, off + 3, none⟩))), Gd b5 (IsV (.int .i64 x3)), Gd b5 (IsV (.int .i64 t)), Gd b5 (IsL [0, x2, x3, t]), Gd b5 (IsV (.bool b1)), IsV (.bool b6)]) (by kernel_rfl) (by kernel_rfl) (Stabs.pick (by repeat (first | exact Stabs.nil | refine Stabs.cons (by first | exact stab_v _ | exact stab_l _ | exact stab_gd (by first | exact stab_v _ | exact stab_l _)) ?_))) ?_
  try go_frame
  refine wgs rfl rfl (by simp) (fun w' hb' hR K hK => ?_) (fun o0 => ?_)
  · clear hR
    go_simp
    exact hK _ _ (Below.refl _ _) rfl
  try go_frame
  refine wgs rfl rfl (by simp) (fun w' hb' hR K hK => ?_) (fun o1 => ?_)
  · obtain rfl : o0 = .slice (some ⟨b, off, none⟩) 4 c := hR 0 (by kernel_rfl)
    clear hR
    go_simp
    exact hK _ _ (Below.refl _ _) rfl
  try go_frame
  refine wgs rfl rfl (by simp) (fun w' hb' hR K hK => ?_) (fun o2 => ?_)
  · obtain rfl : o1 = .pointer (some ⟨b, off, none⟩) := hR 1 (by kernel_rfl)
    clear hR
    have cc := below_cell hb' cu0
    have zz := World.block_lt_of_cell? w' _ cc
    simp only at zz
    go_simp
    exact hK _ _ (Below.refl _ _) rfl
  try go_frame
  refine wgs rfl rfl (by simp) (fun w' hb' hR K hK => ?_) (fun o3 => ?_)
  · obtain rfl : o2 = .int .i64 x0 := hR 2 (by kernel_rfl)
    clear hR
    go_simp
    exact hK _ _ (Below.refl _ _) (by show _ = _; rw [Hg1.out])
  try go_frame
  refine wgs rfl rfl (by simp) (fun w' hb' hR K hK => ?_) (fun o4 => ?_)
  · obtain rfl : o3 = .bool g1 := hR 3 (by kernel_rfl)
    clear hR
    go_simp
    exact hK _ _ (Below.refl _ _) rfl
  try go_frame
  refine wgg rfl rfl (by simp) (fun w' hb' hR K hK => ?_) (fun o5 => ?_)
  · obtain rfl : o4 = .bool g1 := hR 4 (by kernel_rfl)
    clear hR
    cases g1
    · exact ifn rfl
    · refine ifp ?_
      go_simp
      exact hK _ _ (Below.refl _ _) rfl
  try go_frame
  refine wgg rfl rfl (by simp) (fun w' hb' hR K hK => ?_) (fun o6 => ?_)
  · obtain rfl : o4 = .bool g1 := hR 4 (by kernel_rfl)
    have h5 : (Gd g1 (IsV (.slice (some ⟨b, off, none⟩) 4 c))) o5 w' := hR 5 (by kernel_rfl)
    clear hR
    cases g1
    · exact ifn rfl
    · refine ifp ?_
      obtain rfl : o5 = .slice (some ⟨b, off, none⟩) 4 c := h5
      go_simp
      exact hK _ _ (Below.refl _ _) rfl
  try go_frame
  refine wgg rfl rfl (by simp) (fun w' hb' hR K hK => ?_) (fun o7 => ?_)
  · obtain rfl : o4 = .bool g1 := hR 4 (by kernel_rfl)
    have h6 : (Gd g1 (IsV (.pointer (some ⟨b, off + 1, none⟩)))) o6 w' := hR 6 (by kernel_rfl)
    clear hR
    cases g1
    · exact ifn rfl
    · refine ifp ?_
      obtain rfl : o6 = .pointer (some ⟨b, off + 1, none⟩) := h6
      have cc := below_cell hb' cu1
      have zz := World.block_lt_of_cell? w' _ cc
      simp only at zz
      go_simp
      exact hK _ _ (Below.refl _ _) rfl
  try go_frame
  refine wgg rfl rfl (by simp) (fun w' hb' hR K hK => ?_) (fun o8 => ?_)
  · obtain rfl : o4 = .bool g1 := hR 4 (by kernel_rfl)
    have h7 : (Gd g1 (IsV (.int .i64 x1))) o7 w' := hR 7 (by kernel_rfl)
    clear hR
    cases g1
    · exact ifn rfl
    · refine ifp ?_
      obtain rfl : o7 = .int .i64 x1 := h7
      go_simp
      exact hK _ _ (Below.refl _ _) rfl
  try go_frame
  refine wgs rfl rfl (by simp) (fun w' hb' hR K hK => ?_) (fun o9 => ?_)
  · obtain rfl : o4 = .bool g1 := hR 4 (by kernel_rfl)
    have h8 : (Gd g1 (IsV (.bool (decide (0 ≤ x1))))) o8 w' := hR 8 (by kernel_rfl)
    clear hR
    cases g1
    · obtain rfl : o8 = undef := h8
      go_simp
      exact hK _ _ (Below.refl _ _) (by show _ = _; rw [← Hb4.out]; simp)
    · obtain rfl : o8 = .bool (decide (0 ≤ x1)) := h8
      go_simp
      exact hK _ _ (Below.refl _ _) (by show _ = _; rw [← Hb4.out]; simp)
  try go_frame
  refine wgs rfl rfl (by simp) (fun w' hb' hR K hK => ?_) (fun o10 => ?_)
  · obtain rfl : o9 = .bool b4 := hR 9 (by kernel_rfl)
    clear hR
    go_simp
    exact hK _ _ (Below.refl _ _) rfl
  try go_frame
  refine wgg rfl rfl (by simp) (fun w' hb' hR K hK => ?_) (fun o11 => ?_)
  · obtain rfl : o10 = .bool b4 := hR 10 (by kernel_rfl)
    clear hR
    cases b4
    · exact ifn rfl
    · refine ifp ?_
      go_simp
      exact hK _ _ (Below.refl _ _) rfl
  try go_frame
  refine wgg rfl rfl (by simp) (fun w' hb' hR K hK => ?_) (fun o12 => ?_)
  · obtain rfl : o10 = .bool b4 := hR 10 (by kernel_rfl)
    have h11 : (Gd b4 (IsV (.slice (some ⟨b, off, none⟩) 4 c))) o11 w' := hR 11 (by kernel_rfl)
    clear hR
    cases b4
    · exact ifn rfl
    · refine ifp ?_
      obtain rfl : o11 = .slice (some ⟨b, off, none⟩) 4 c := h11
      go_simp
      exact hK _ _ (Below.refl _ _) rfl
  try go_frame
  refine wgg rfl rfl (by simp) (fun w' hb' hR K hK => ?_) (fun o13 => ?_)
  · obtain rfl : o10 = .bool b4 := hR 10 (by kernel_rfl)
    have h12 : (Gd b4 (IsV (.pointer (some ⟨b, off, none⟩)))) o12 w' := hR 12 (by kernel_rfl)
    clear hR
    cases b4
    · exact ifn rfl
    · refine ifp ?_
      obtain rfl : o12 = .pointer (some ⟨b, off, none⟩) := h12
      have cc := below_cell hb' cu0
      have zz := World.block_lt_of_cell? w' _ cc
      simp only at zz
      go_simp
      exact hK _ _ (Below.refl _ _) rfl
  try go_frame
  refine wgg rfl rfl (by simp) (fun w' hb' hR K hK => ?_) (fun o14 => ?_)
  · obtain rfl : o10 = .bool b4 := hR 10 (by kernel_rfl)
    clear hR
    cases b4
    · exact ifn rfl
    · refine ifp ?_
      go_simp
      exact hK _ _ (Below.refl _ _) rfl
  try go_frame
  refine wgg rfl rfl (by simp) (fun w' hb' hR K hK => ?_) (fun o15 => ?_)
  · obtain rfl : o10 = .bool b4 := hR 10 (by kernel_rfl)
    have h14 : (Gd b4 (IsV (.slice (some ⟨b, off, none⟩) 4 c))) o14 w' := hR 14 (by kernel_rfl)
    clear hR
    cases b4
    · exact ifn rfl
    · refine ifp ?_
      obtain rfl : o14 = .slice (some ⟨b, off, none⟩) 4 c := h14
      go_simp
      exact hK _ _ (Below.refl _ _) rfl
  try go_frame
  refine wgg rfl rfl (by simp) (fun w' hb' hR K hK => ?_) (fun o16 => ?_)
  · obtain rfl : o10 = .bool b4 := hR 10 (by kernel_rfl)
    have h15 : (Gd b4 (IsV (.pointer (some ⟨b, off + 1, none⟩)))) o15 w' := hR 15 (by kernel_rfl)
    clear hR
    cases b4
    · exact ifn rfl
    · refine ifp ?_
      obtain rfl : o15 = .pointer (some ⟨b, off + 1, none⟩) := h15
      have cc := below_cell hb' cu1
      have zz := World.block_lt_of_cell? w' _ cc
      simp only at zz
      go_simp
      exact hK _ _ (Below.refl _ _) rfl
  try go_frame
  refine wgg rfl rfl (by simp) (fun w' hb' hR K hK => ?_) (fun o17 => ?_)
  · obtain rfl : o10 = .bool b4 := hR 10 (by kernel_rfl)
    have h13 : (Gd b4 (IsV (.int .i64 x0))) o13 w' := hR 13 (by kernel_rfl)
    have h16 : (Gd b4 (IsV (.int .i64 x1))) o16 w' := hR 16 (by kernel_rfl)
    clear hR
    cases b4
    · exact ifn rfl
    · refine ifp ?_
      obtain rfl : o13 = .int .i64 x0 := h13
      obtain rfl : o16 = .int .i64 x1 := h16
      go_simp
      exact hK _ _ (Below.refl _ _) rfl
  try go_frame
  refine wgg rfl rfl (by simp) (fun w' hb' hR K hK => ?_) (fun o18 => ?_)
  · obtain rfl : o10 = .bool b4 := hR 10 (by kernel_rfl)
    clear hR
    cases b4
    · exact ifn rfl
    · refine ifp ?_
      go_simp
      exact hK _ _ (Below.refl _ _) rfl
  try go_frame
  refine wgg rfl rfl (by simp) (fun w' hb' hR K hK => ?_) (fun o19 => ?_)
  · obtain rfl : o10 = .bool b4 := hR 10 (by kernel_rfl)
    have h17 : (Gd b4 (IsV (.int .i64 (x0 + x1)))) o17 w' := hR 17 (by kernel_rfl)
    have h18 : (Gd b4 (IsV (.int .i64 l))) o18 w' := hR 18 (by kernel_rfl)
    clear hR
    cases b4
    · exact ifn rfl
    · refine ifp ?_
      obtain rfl : o17 = .int .i64 (x0 + x1) := h17
      obtain rfl : o18 = .int .i64 l := h18
      go_simp
      exact hK _ _ (Below.refl _ _) rfl
  try go_frame
  refine wgs rfl rfl (by simp) (fun w' hb' hR K hK => ?_) (fun o20 => ?_)
  · obtain rfl : o10 = .bool b4 := hR 10 (by kernel_rfl)
    have h19 : (Gd b4 (IsV (.bool (decide ((x0 + x1) < l))))) o19 w' := hR 19 (by kernel_rfl)
    clear hR
    cases b4
    · obtain rfl : o19 = undef := h19
      go_simp
      exact hK _ _ (Below.refl _ _) (by show _ = _; rw [← Hb5.out]; simp)
    · obtain rfl : o19 = .bool (decide ((x0 + x1) < l)) := h19
      go_simp
      exact hK _ _ (Below.refl _ _) (by show _ = _; rw [← Hb5.out]; simp)
  try go_frame
  refine wgs rfl rfl (by simp) (fun w' hb' hR K hK => ?_) (fun o21 => ?_)
  · obtain rfl : o20 = .bool b5 := hR 20 (by kernel_rfl)
    clear hR
    go_simp
    exact hK _ _ (Below.refl _ _) rfl
  try go_frame
  refine wgg rfl rfl (by simp) (fun w' hb' hR K hK => ?_) (fun o22 => ?_)
  · obtain rfl : o21 = .bool b5 := hR 21 (by kernel_rfl)
    clear hR
    cases b5
    · exact ifn rfl
    · refine ifp ?_
      go_simp
      exact hK _ _ (Below.refl _ _) rfl
  try go_frame
  refine wgg rfl rfl (by simp) (fun w' hb' hR K hK => ?_) (fun o23 => ?_)
  · obtain rfl : o21 = .bool b5 := hR 21 (by kernel_rfl)
    have h22 : (Gd b5 (IsV (.slice (some ⟨b, off, none⟩) 4 c))) o22 w' := hR 22 (by kernel_rfl)
    clear hR
    cases b5
    · exact ifn rfl
    · refine ifp ?_
      obtain rfl : o22 = .slice (some ⟨b, off, none⟩) 4 c := h22
      go_simp
      exact hK _ _ (Below.refl _ _) rfl
  try go_frame
  refine wgg rfl rfl (by simp) (fun w' hb' hR K hK => ?_) (fun o24 => ?_)
  · obtain rfl : o21 = .bool b5 := hR 21 (by kernel_rfl)
    have h23 : (Gd b5 (IsV (.pointer (some ⟨b, off + 2, none⟩)))) o23 w' := hR 23 (by kernel_rfl)
    clear hR
    cases b5
    · exact ifn rfl
    · refine ifp ?_
      obtain rfl : o23 = .pointer (some ⟨b, off + 2, none⟩) := h23
      have cc := below_cell hb' cu2
      have zz := World.block_lt_of_cell? w' _ cc
      simp only at zz
      go_simp
      exact hK _ _ (Below.refl _ _) rfl
  try go_frame
  refine wgg rfl rfl (by simp) (fun w' hb' hR K hK => ?_) (fun o25 => ?_)
  · obtain rfl : o21 = .bool b5 := hR 21 (by kernel_rfl)
    clear hR
    cases b5
    · exact ifn rfl
    · refine ifp ?_
      go_simp
      exact hK _ _ (Below.refl _ _) rfl
  try go_frame
  refine wgg rfl rfl (by simp) (fun w' hb' hR K hK => ?_) (fun o26 => ?_)
  · obtain rfl : o21 = .bool b5 := hR 21 (by kernel_rfl)
    have h25 : (Gd b5 (IsV (.slice (some ⟨b, off, none⟩) 4 c))) o25 w' := hR 25 (by kernel_rfl)
    clear hR
    cases b5
    · exact ifn rfl
    · refine ifp ?_
      obtain rfl : o25 = .slice (some ⟨b, off, none⟩) 4 c := h25
      go_simp
      exact hK _ _ (Below.refl _ _) rfl
  try go_frame
  refine wgg rfl rfl (by simp) (fun w' hb' hR K hK => ?_) (fun o27 => ?_)
  · obtain rfl : o21 = .bool b5 := hR 21 (by kernel_rfl)
    have h26 : (Gd b5 (IsV (.pointer (some ⟨b, off + 3, none⟩)))) o26 w' := hR 26 (by kernel_rfl)
    clear hR
    cases b5
    · exact ifn rfl
    · refine ifp ?_
      obtain rfl : o26 = .pointer (some ⟨b, off + 3, none⟩) := h26
      have cc := below_cell hb' cu3
      have zz := World.block_lt_of_cell? w' _ cc
      simp only at zz
      go_simp
      exact hK _ _ (Below.refl _ _) rfl
  try go_frame
  refine wgg rfl rfl (by simp) (fun w' hb' hR K hK => ?_) (fun o28 => ?_)
  · obtain rfl : o21 = .bool b5 := hR 21 (by kernel_rfl)
    clear hR
    cases b5
    · exact ifn rfl
    · refine ifp ?_
      go_simp
      exact hK _ _ (Below.refl _ _) rfl
  try go_frame
  refine wgg rfl rfl (by simp) (fun w' hb' hR K hK => ?_) (fun o29 => ?_)
  · obtain rfl : o21 = .bool b5 := hR 21 (by kernel_rfl)
    have h24 : (Gd b5 (IsV (.int .i64 x2))) o24 w' := hR 24 (by kernel_rfl)
    have h27 : (Gd b5 (IsV (.int .i64 x3))) o27 w' := hR 27 (by kernel_rfl)
    have h28 : (Gd b5 (IsV (.int .i64 t))) o28 w' := hR 28 (by kernel_rfl)
    clear hR
    cases b5
    · exact ifn rfl
    · refine ifp ?_
      obtain rfl : o24 = .int .i64 x2 := h24
      obtain rfl : o27 = .int .i64 x3 := h27
      obtain rfl : o28 = .int .i64 t := h28
      go_simp
      exact hK _ _ (by (repeat (first | exact brf | assumption | refine ble ?_ | refine blx ?_ | refine bla ?_ | refine bls ?_ | refine bld ?_))) (ints_newL [0, x2, x3, t] rfl)
  try go_frame
  refine wgg rfl rfl (by simp) (fun w' hb' hR K hK => ?_) (fun o30 => ?_)
  · obtain rfl : o21 = .bool b5 := hR 21 (by kernel_rfl)
    have h29 : (Gd b5 (IsL [0, x2, x3, t])) o29 w' := hR 29 (by kernel_rfl)
    clear hR
    cases b5
    · exact ifn rfl
    · refine ifp ?_
      replace h29 : (IsL [0, x2, x3, t]) o29 w' := h29
      go_simp
      refine ((h1 _ _ h29).out).mono ?_
      rintro e w1 ⟨rfl, hb1⟩
      exact hK _ _ hb1 rfl
  try go_frame
  refine wgs rfl rfl (by simp) (fun w' hb' hR K hK => ?_) (fun o31 => ?_)
  · obtain rfl : o21 = .bool b5 := hR 21 (by kernel_rfl)
    have h30 : (Gd b5 (IsV (.bool b1))) o30 w' := hR 30 (by kernel_rfl)
    clear hR
    cases b5
    · obtain rfl : o30 = undef := h30
      go_simp
      exact hK _ _ (Below.refl _ _) (by show _ = _; rw [← Hb6.out]; simp)
    · obtain rfl : o30 = .bool b1 := h30
      go_simp
      exact hK _ _ (Below.refl _ _) (by show _ = _; rw [← Hb6.out]; simp)
  try go_frame
  refine wpG_nil (fun w' hb' hR => ?_)
  obtain rfl : o31 = .bool b6 := hR 31 (by simp)
  clear hR
  simp only [opsAt, List.filterMap_cons, List.filterMap_nil, List.getElem?_toArray, List.getElem?_cons_zero, List.getElem?_cons_succ]
  go_wp2
  refine NoPanic.normal ?_
  go_wp2
  go_ret
  exact ⟨rfl, below_trans (show Below W.heap.size W _ by (repeat (first | exact brf | assumption | refine ble ?_ | refine blx ?_ | refine bla ?_ | refine bls ?_ | refine bld ?_))) hb'⟩

set_option maxRecDepth 100000 in
set_option maxHeartbeats 8000000 in
theorem rRight_10 (l w t : Int) (nv : Value) (n : List Int) (W : World) (hn : Ints W nv n) (hl : n.length = 5) :
    Calls Tryz.prog 58 #[vJ 10 l w t nv] W (Ret W (.bool (risingB [0, n.getD 0 0, t] && risingB [0, n.getD 1 0, n.getD 2 0, l] && risingB [0, n.getD 3 0, n.getD 4 0, w]))) := by
  unfold vJ
  obtain ⟨b, off, c, rfl, hc, zb, hi⟩ := hn.at' (by omega)
  have c0 := hi 0 (by omega)
  have c1 := hi 1 (by omega)
  have c2 := hi 2 (by omega)
  have c3 := hi 3 (by omega)
  have c4 := hi 4 (by omega)
  rw [Nat.add_zero] at c0
  rw [hl]
  generalize n.getD 0 0 = x0 at *
  generalize n.getD 1 0 = x1 at *
  generalize n.getD 2 0 = x2 at *
  generalize n.getD 3 0 = x3 at *
  generalize n.getD 4 0 = x4 at *
  have h1 := fun W' v (h : Ints W' v [0, x0, t]) => Lib.hid (rrising_any v [0, x0, t] W' h (by simp))
  generalize risingB [0, x0, t] = b1 at *
  have h2 := fun W' v (h : Ints W' v [0, x1, x2, l]) => Lib.hid (rrising_any v [0, x1, x2, l] W' h (by simp))
  generalize risingB [0, x1, x2, l] = b2 at *
  have h4 := fun W' v (h : Ints W' v [0, x3, x4, w]) => Lib.hid (rrising_any v [0, x3, x4, w] W' h (by simp))
  generalize risingB [0, x3, x4, w] = b4 at *
  obtain ⟨b3, Hb3⟩ : ∃ b3, Hid ((b1 && b2) = b3) := ⟨_, Lib.hid rfl⟩
  rw [Hb3.out]
  obtain ⟨b5, Hb5⟩ : ∃ b5, Hid ((b3 && b4) = b5) := ⟨_, Lib.hid rfl⟩
  rw [Hb5.out]
  clear hi hn hl
  go_enter Tryz.func58, Tryz.ntmps58
  go_wp2
  refine wp_region_quietB (by kernel_rfl) (by kernel_rfl) ?_
  repeat (first | go_big_quiet_step (fail) | quiet_step (fail))
  refine wpQuiet_nil ?_
  rintro _ ⟨u, rfl⟩
  go_wp2
  have hbu : Below W.heap.size W u.val := by (repeat (first | exact brf | assumption | refine ble ?_ | refine blx ?_ | refine bla ?_ | refine bls ?_ | refine bld ?_))
  have zbu := Nat.lt_of_lt_of_le zb hbu.size
  have cu0 := below_cell hbu c0
  have cu1 := below_cell hbu c1
  have cu2 := below_cell hbu c2
  have cu3 := below_cell hbu c3
  have cu4 := below_cell hbu c4
  refine wp_region_grow [0, 1, 2, 3, 4, 5, 6, 7, 8, 9, 10, 11, 12, 13, 14, 15, 16, 17, 18, 19, 20, 21, 22, 23, 24, 25, 26, 27] 28 [] (pick [IsV (.slice (some ⟨b, off, none⟩) 5 c), IsV (.pointer (some ⟨b, off, none⟩)), IsV (.int .i64 x0), IsV (.int .i64 t), IsL [0, x0, t], IsV (.bool b1), IsV (.bool b1), Gd b1 (IsV (.slice (some ⟨b, off, none⟩) 5 c)), Gd b1 (IsV (.pointer (some ⟨b, off + 1, none⟩))), Gd b1 (IsV (.int .i64 x1)), Gd b1 (IsV (.slice (some ⟨b, off, none⟩) 5 c)), Gd b1 (IsV (.pointer (some ⟨b, off + 2, none⟩))), Gd b1 (IsV (.int .i64 x2)), Gd b1 (IsV (.int .i64 l)), Gd b1 (IsL [0, x1, x2, l]), Gd b1 (IsV (.bool b2)), IsV (.bool b3), IsV (.bool b3), Gd b3 (IsV (.slice (some ⟨b, off, none⟩) 5 c)), Gd b3 (IsV (.pointer (some ⟨b, off + 3, none⟩))), Gd b3 (IsV (.int .i64 x3)), Gd b3 (IsV (.slice (some ⟨b, off, none⟩) 5 c)), Gd b3 (IsV (.pointer (some ⟨b, off + 4, none⟩))), Gd b3 (IsV (.int .i64 x4)), Gd b3 (IsV (.int .i64 w)), Gd b3 (IsL [0, x3, x4, w]), Gd b3 (IsV (.bool b4)), IsV (.bool b5)]) (by kernel_rfl) (by kernel_rfl) (Stabs.pick (by repeat (first | exact Stabs.nil | refine Stabs.cons (by first | exact stab_v _ | exact stab_l _ | exact stab_gd (by first | exact stab_v _ | exact stab_l _)) ?_))) ?_
  try go_frame
  refine wgs rfl rfl (by simp) (fun w' hb' hR K hK => ?_) (fun o0 => ?_)
  · clear hR
    go_simp
    exact hK _ _ (Below.refl _ _) rfl
  try go_frame
  refine wgs rfl rfl (by simp) (fun w' hb' hR K hK => ?_) (fun o1 => ?_)
  · obtain rfl : o0 = .slice (some ⟨b, off, none⟩) 5 c := hR 0 (by kernel_rfl)
    clear hR
    go_simp
    exact hK _ _ (Below.refl _ _) rfl
  try go_frame
  refine wgs rfl rfl (by simp) (fun w' hb' hR K hK => ?_) (fun o2 => ?_)
  · obtain rfl : o1 = .pointer (some ⟨b, off, none⟩) := hR 1 (by kernel_rfl)
    clear hR
    have cc := below_cell hb' cu0
    have zz := World.block_lt_of_cell? w' _ cc
    simp only at zz
    go_simp
    exact hK _ _ (Below.refl _ _) rfl
  try go_frame
  refine wgs rfl rfl (by simp) (fun w' hb' hR K hK => ?_) (fun o3 => ?_)
  · clear hR
    go_simp
    exact hK _ _ (Below.refl _ _) rfl
  try go_frame
  refine wgs rfl rfl (by simp) (fun w' hb' hR K hK => ?_) (fun o4 => ?_)
  · obtain rfl : o2 = .int .i64 x0 := hR 2 (by kernel_rfl)
    obtain rfl : o3 = .int .i64 t := hR 3 (by kernel_rfl)
    clear hR
    go_simp
    exact hK _ _ (by (repeat (first | exact brf | assumption | refine ble ?_ | refine blx ?_ | refine bla ?_ | refine bls ?_ | refine bld ?_))) (ints_newL [0, x0, t] rfl)
  try go_frame
  refine wgs rfl rfl (by simp) (fun w' hb' hR K hK => ?_) (fun o5 => ?_)
  · have h4 : (IsL [0, x0, t]) o4 w' := hR 4 (by kernel_rfl)
    clear hR
    go_simp
    refine ((h1 _ _ h4).out).mono ?_
    rintro e w1 ⟨rfl, hb1⟩
    exact hK _ _ hb1 rfl
  try go_frame
  refine wgs rfl rfl (by simp) (fun w' hb' hR K hK => ?_) (fun o6 => ?_)
  · obtain rfl : o5 = .bool b1 := hR 5 (by kernel_rfl)
    clear hR
    go_simp
    exact hK _ _ (Below.refl _ _) rfl
  try go_frame
  refine wgg rfl rfl (by simp) (fun w' hb' hR K hK => ?_) (fun o7 => ?_)
  · obtain rfl : o6 = .bool b1 := hR 6 (by kernel_rfl)
    clear hR
    cases b1
    · exact ifn rfl
    · refine ifp ?_
      go_simp
      exact hK _ _ (Below.refl _ _) rfl
  try go_frame
  refine wgg rfl rfl (by simp) (fun w' hb' hR K hK => ?_) (fun o8 => ?_)
  · obtain rfl : o6 = .bool b1 := hR 6 (by kernel_rfl)
    have h7 : (Gd b1 (IsV (.slice (some ⟨b, off, none⟩) 5 c))) o7 w' := hR 7 (by kernel_rfl)
    clear hR
    cases b1
    · exact ifn rfl
    · refine ifp ?_
      obtain rfl : o7 = .slice (some ⟨b, off, none⟩) 5 c := h7
      go_simp
      exact hK _ _ (Below.refl _ _) rfl
  try go_frame
  refine wgg rfl rfl (by simp) (fun w' hb' hR K hK => ?_) (fun o9 => ?_)
  · obtain rfl : o6 = .bool b1 := hR 6 (by kernel_rfl)
    have h8 : (Gd b1 (IsV (.pointer (some ⟨b, off + 1, none⟩)))) o8 w' := hR 8 (by kernel_rfl)
    clear hR
    cases b1
    · exact ifn rfl
    · refine ifp ?_
      obtain rfl : o8 = .pointer (some ⟨b, off + 1, none⟩) := h8
      have cc := below_cell hb' cu1
      have zz := World.block_lt_of_cell? w' _ cc
      simp only at zz
      go_simp
      exact hK _ _ (Below.refl _ _) rfl
  try go_frame
  refine wgg rfl rfl (by simp) (fun w' hb' hR K hK => ?_) (fun o10 => ?_)
  · obtain rfl : o6 = .bool b1 := hR 6 (by kernel_rfl)
    clear hR
    cases b1
    · exact ifn rfl
    · refine ifp ?_
      go_simp
      exact hK _ _ (Below.refl _ _) rfl
  try go_frame
  refine wgg rfl rfl (by simp) (fun w' hb' hR K hK => ?_) (fun o11 => ?_)
  · obtain rfl : o6 = .bool b1 := hR 6 (by kernel_rfl)
    have h10 : (Gd b1 (IsV (.slice (some ⟨b, off, none⟩) 5 c))) o10 w' := hR 10 (by kernel_rfl)
    clear hR
    cases b1
    · exact ifn rfl
    · refine ifp ?_
      obtain rfl : o10 = .slice (some ⟨b, off, none⟩) 5 c := h10
      go_simp
      exact hK _ _ (Below.refl _ _) rfl
  try go_frame
  refine wgg rfl rfl (by simp) (fun w' hb' hR K hK => ?_) (fun o12 => ?_)
  · obtain rfl : o6 = .bool b1 := hR 6 (by kernel_rfl)
    have h11 : (Gd b1 (IsV (.pointer (some ⟨b, off + 2, none⟩)))) o11 w' := hR 11 (by kernel_rfl)
    clear hR
    cases b1
    · exact ifn rfl
    · refine ifp ?_
      obtain rfl : o11 = .pointer (some ⟨b, off + 2, none⟩) := h11
      have cc := below_cell hb' cu2
      have zz := World.block_lt_of_cell? w' _ cc
      simp only at zz
      go_simp
      exact hK _ _ (Below.refl _ _) rfl
  try go_frame
  refine wgg rfl rfl (by simp) (fun w' hb' hR K hK => ?_) (fun o13 => ?_)
  · obtain rfl : o6 = .bool b1 := hR 6 (by kernel_rfl)
    clear hR
    cases b1
    · exact ifn rfl
    · refine ifp ?_
      go_simp
      exact hK _ _ (Below.refl _ _) rfl
  try go_frame
  refine wgg rfl rfl (by simp) (fun w' hb' hR K hK => ?_) (fun o14 => ?_)
  · obtain rfl : o6 = .bool b1 := hR 6 (by kernel_rfl)
    have h9 : (Gd b1 (IsV (.int .i64 x1))) o9 w' := hR 9 (by kernel_rfl)
    have h12 : (Gd b1 (IsV (.int .i64 x2))) o12 w' := hR 12 (by kernel_rfl)
    have h13 : (Gd b1 (IsV (.int .i64 l))) o13 w' := hR 13 (by kernel_rfl)
    clear hR
    cases b1
    · exact ifn rfl
    · refine ifp ?_
      obtain rfl : o9 = .int .i64 x1 := h9
      obtain rfl : o12 = .int .i64 x2 := h12
      obtain rfl : o13 = .int .i64 l := h13
      go_simp
      exact hK _ _ (by (repeat (first | exact brf | assumption | refine ble ?_ | refine blx ?_ | refine bla ?_ | refine bls ?_ | refine bld ?_))) (ints_newL [0, x1, x2, l] rfl)
  try go_frame
  refine wgg rfl rfl (by simp) (fun w' hb' hR K hK => ?_) (fun o15 => ?_)
  · obtain rfl : o6 = .bool b1 := hR 6 (by kernel_rfl)
    have h14 : (Gd b1 (IsL [0, x1, x2, l])) o14 w' := hR 14 (by kernel_rfl)
    clear hR
    cases b1
    · exact ifn rfl
    · refine ifp ?_
      replace h14 : (IsL [0, x1, x2, l]) o14 w' := h14
      go_simp
      refine ((h2 _ _ h14).out).mono ?_
      rintro e w1 ⟨rfl, hb1⟩
      exact hK _ _ hb1 rfl
  try go_frame
  refine wgs rfl rfl (by simp) (fun w' hb' hR K hK => ?_) (fun o16 => ?_)
  · obtain rfl : o6 = .bool b1 := hR 6 (by kernel_rfl)
    have h15 : (Gd b1 (IsV (.bool b2))) o15 w' := hR 15 (by kernel_rfl)
    clear hR
    cases b1
    · obtain rfl : o15 = undef := h15
      go_simp
      exact hK _ _ (Below.refl _ _) (by show _ = _; rw [← Hb3.out]; simp)
    · obtain rfl : o15 = .bool b2 := h15
      go_simp
      exact hK _ _ (Below.refl _ _) (by show _ = _; rw [← Hb3.out]; simp)
  try go_frame
  refine wgs rfl rfl (by simp) (fun w' hb' hR K hK => ?_) (fun o17 => ?_)
  · obtain rfl : o16 = .bool b3 := hR 16 (by kernel_rfl)
    clear hR
    go_simp
    exact hK _ _ (Below.refl _ _) rfl
  try go_frame
  refine wgg rfl rfl (by simp) (fun w' hb' hR K hK => ?_) (fun o18 => ?_)
  · obtain rfl : o17 = .bool b3 := hR 17 (by kernel_rfl)
    clear hR
    cases b3
    · exact ifn rfl
    · refine ifp ?_
      go_simp
      exact hK _ _ (Below.refl _ _) rfl
  try go_frame
  refine wgg rfl rfl (by simp) (fun w' hb' hR K hK => ?_) (fun o19 => ?_)
  · obtain rfl : o17 = .bool b3 := hR 17 (by kernel_rfl)
    have h18 : (Gd b3 (IsV (.slice (some ⟨b, off, none⟩) 5 c))) o18 w' := hR 18 (by kernel_rfl)
    clear hR
    cases b3
    · exact ifn rfl
    · refine ifp ?_
      obtain rfl : o18 = .slice (some ⟨b, off, none⟩) 5 c := h18
      go_simp
      exact hK _ _ (Below.refl _ _) rfl
  try go_frame
  refine wgg rfl rfl (by simp) (fun w' hb' hR K hK => ?_) (fun o20 => ?_)
  · obtain rfl : o17 = .bool b3 := hR 17 (by kernel_rfl)
    have h19 : (Gd b3 (IsV (.pointer (some ⟨b, off + 3, none⟩)))) o19 w' := hR 19 (by kernel_rfl)
    clear hR
    cases b3
    · exact ifn rfl
    · refine ifp ?_
      obtain rfl : o19 = .pointer (some ⟨b, off + 3, none⟩) := h19
      have cc := below_cell hb' cu3
      have zz := World.block_lt_of_cell? w' _ cc
      simp only at zz
      go_simp
      exact hK _ _ (Below.refl _ _) rfl
  try go_frame
  refine wgg rfl rfl (by simp) (fun w' hb' hR K hK => ?_) (fun o21 => ?_)
  · obtain rfl : o17 = .bool b3 := hR 17 (by kernel_rfl)
    clear hR
    cases b3
    · exact ifn rfl
    · refine ifp ?_
      go_simp
      exact hK _ _ (Below.refl _ _) rfl
  try go_frame
  refine wgg rfl rfl (by simp) (fun w' hb' hR K hK => ?_) (fun o22 => ?_)
  · obtain rfl : o17 = .bool b3 := hR 17 (by kernel_rfl)
    have h21 : (Gd b3 (IsV (.slice (some ⟨b, off, none⟩) 5 c))) o21 w' := hR 21 (by kernel_rfl)
    clear hR
    cases b3
    · exact ifn rfl
    · refine ifp ?_
      obtain rfl : o21 = .slice (some ⟨b, off, none⟩) 5 c := h21
      go_simp
      exact hK _ _ (Below.refl _ _) rfl
  try go_frame
  refine wgg rfl rfl (by simp) (fun w' hb' hR K hK => ?_) (fun o23 => ?_)
  · obtain rfl : o17 = .bool b3 := hR 17 (by kernel_rfl)
    have h22 : (Gd b3 (IsV (.pointer (some ⟨b, off + 4, none⟩)))) o22 w' := hR 22 (by kernel_rfl)
    clear hR
    cases b3
    · exact ifn rfl
    · refine ifp ?_
      obtain rfl : o22 = .pointer (some ⟨b, off + 4, none⟩) := h22
      have cc := below_cell hb' cu4
      have zz := World.block_lt_of_cell? w' _ cc
      simp only at zz
      go_simp
      exact hK _ _ (Below.refl _ _) rfl
  try go_frame
  refine wgg rfl rfl (by simp) (fun w' hb' hR K hK => ?_) (fun o24 => ?_)
  · obtain rfl : o17 = .bool b3 := hR 17 (by kernel_rfl)
    clear hR
    cases b3
    · exact ifn rfl
    · refine ifp ?_
      go_simp
      exact hK _ _ (Below.refl _ _) rfl
  try go_frame
  refine wgg rfl rfl (by simp) (fun w' hb' hR K hK => ?_) (fun o25 => ?_)
  · obtain rfl : o17 = .bool b3 := hR 17 (by kernel_rfl)
    have h20 : (Gd b3 (IsV (.int .i64 x3))) o20 w' := hR 20 (by kernel_rfl)
    have h23 : (Gd b3 (IsV (.int .i64 x4))) o23 w' := hR 23 (by kernel_rfl)
    have h24 : (Gd b3 (IsV (.int .i64 w))) o24 w' := hR 24 (by kernel_rfl)
    clear hR
    cases b3
    · exact ifn rfl
    · refine ifp ?_
      obtain rfl : o20 = .int .i64 x3 := h20
      obtain rfl : o23 = .int .i64 x4 := h23
      obtain rfl : o24 = .int .i64 w := h24
      go_simp
      exact hK _ _ (by (repeat (first | exact brf | assumption | refine ble ?_ | refine blx ?_ | refine bla ?_ | refine bls ?_ | refine bld ?_))) (ints_newL [0, x3, x4, w] rfl)
  try go_frame
  refine wgg rfl rfl (by simp) (fun w' hb' hR K hK => ?_) (fun o26 => ?_)
  · obtain rfl : o17 = .bool b3 := hR 17 (by kernel_rfl)
    have h25 : (Gd b3 (IsL [0, x3, x4, w])) o25 w' := hR 25 (by kernel_rfl)
    clear hR
    cases b3
    · exact ifn rfl
    · refine ifp ?_
      replace h25 : (IsL [0, x3, x4, w]) o25 w' := h25
      go_simp
      refine ((h4 _ _ h25).out).mono ?_
      rintro e w1 ⟨rfl, hb1⟩
      exact hK _ _ hb1 rfl
  try go_frame
  refine wgs rfl rfl (by simp) (fun w' hb' hR K hK => ?_) (fun o27 => ?_)
  · obtain rfl : o17 = .bool b3 := hR 17 (by kernel_rfl)
    have h26 : (Gd b3 (IsV (.bool b4))) o26 w' := hR 26 (by kernel_rfl)
    clear hR
    cases b3
    · obtain rfl : o26 = undef := h26
      go_simp
      exact hK _ _ (Below.refl _ _) (by show _ = _; rw [← Hb5.out]; simp)
    · obtain rfl : o26 = .bool b4 := h26
      go_simp
      exact hK _ _ (Below.refl _ _) (by show _ = _; rw [← Hb5.out]; simp)
  try go_frame
  refine wpG_nil (fun w' hb' hR => ?_)
  obtain rfl : o27 = .bool b5 := hR 27 (by simp)
  clear hR
  simp only [opsAt, List.filterMap_cons, List.filterMap_nil, List.getElem?_toArray, List.getElem?_cons_zero, List.getElem?_cons_succ]
  go_wp2
  refine NoPanic.normal ?_
  go_wp2
  go_ret
  exact ⟨rfl, below_trans (show Below W.heap.size W _ by (repeat (first | exact brf | assumption | refine ble ?_ | refine blx ?_ | refine bla ?_ | refine bls ?_ | refine bld ?_))) hb'⟩

set_option maxRecDepth 100000 in
set_option maxHeartbeats 8000000 in
theorem rRight_9 (l w t : Int) (nv : Value) (n : List Int) (W : World) (hn : Ints W nv n) (hl : n.length = 5) (hL : -1000000 ≤ l ∧ l ≤ 1000000) (hx : ∀ x ∈ n, -1000000 ≤ x ∧ x ≤ 1000000) :
    Calls Tryz.prog 58 #[vJ 9 l w t nv] W (Ret W (.bool (splineB l w t n))) := by
  unfold vJ
  obtain ⟨b, off, c, rfl, hc, zb, hi⟩ := hn.at' (by omega)
  have c0 := hi 0 (by omega)
  have c1 := hi 1 (by omega)
  have c2 := hi 2 (by omega)
  have c3 := hi 3 (by omega)
  have c4 := hi 4 (by omega)
  rw [Nat.add_zero] at c0
  rw [hl]
  unfold splineB
  have q0 : -1000000 ≤ n.getD 0 0 ∧ n.getD 0 0 ≤ 1000000 := by rw [← getDI n 0 (by omega)]; exact hx _ (List.getElem_mem _)
  have q1 : -1000000 ≤ n.getD 1 0 ∧ n.getD 1 0 ≤ 1000000 := by rw [← getDI n 1 (by omega)]; exact hx _ (List.getElem_mem _)
  have q2 : -1000000 ≤ n.getD 2 0 ∧ n.getD 2 0 ≤ 1000000 := by rw [← getDI n 2 (by omega)]; exact hx _ (List.getElem_mem _)
  generalize n.getD 0 0 = x0 at *
  generalize n.getD 1 0 = x1 at *
  generalize n.getD 2 0 = x2 at *
  generalize n.getD 3 0 = x3 at *
  generalize n.getD 4 0 = x4 at *
  have h1 := fun W' v (h : Ints W' v [0, x3, x4, t]) => Lib.hid (rrising_any v [0, x3, x4, t] W' h (by simp))
  generalize risingB [0, x3, x4, t] = b1 at *
  have s1 : IntKind.i64.wrap (x1 + x2) = x1 + x2 := IntWalk.i64_in _ (by omega)
  have s2 : IntKind.i64.wrap (x0 + x1) = x0 + x1 := IntWalk.i64_in _ (by omega)
  have s3 : IntKind.i64.wrap (x0 + x1 + x2) = x0 + x1 + x2 := IntWalk.i64_in _ (by omega)
  have s4 : IntKind.i64.wrap (2 * l) = 2 * l := IntWalk.i64_in _ (by omega)
  obtain ⟨g1, Hg1⟩ : ∃ g1, Hid ((l == w) = g1) := ⟨_, Lib.hid rfl⟩
  obtain ⟨g2, Hg2⟩ : ∃ g2, Hid ((g1 && decide (0 < x1)) = g2) := ⟨_, Lib.hid rfl⟩
  obtain ⟨g3, Hg3⟩ : ∃ g3, Hid ((g2 && decide (0 < x2)) = g3) := ⟨_, Lib.hid rfl⟩
  obtain ⟨g4, Hg4⟩ : ∃ g4, Hid ((g3 && decide (x1 + x2 ≤ x0)) = g4) := ⟨_, Lib.hid rfl⟩
  obtain ⟨g5, Hg5⟩ : ∃ g5, Hid ((g4 && decide (x0 + x1 + x2 ≤ 2 * l)) = g5) := ⟨_, Lib.hid rfl⟩
  obtain ⟨g6, Hg6⟩ : ∃ g6, Hid ((g5 && b1) = g6) := ⟨_, Lib.hid rfl⟩
  rw [show (decide (l = w ∧ 0 < x1 ∧ 0 < x2 ∧ x1 + x2 ≤ x0 ∧ x0 + x1 + x2 ≤ 2 * l) && b1) = g6 by rw [← Hg6.out, ← Hg5.out, ← Hg4.out, ← Hg3.out, ← Hg2.out, ← Hg1.out, Bool.decide_and, Bool.decide_and, Bool.decide_and, Bool.decide_and, show decide (l = w) = (l == w) from rfl]; ac_rfl]
  clear hx hL q0 q1 q2
  clear hi hn hl
  go_enter Tryz.func58, Tryz.ntmps58
  go_wp2
  refine wp_region_quietB (by kernel_rfl) (by kernel_rfl) ?_
  repeat (first | go_big_quiet_step (fail) | quiet_step (fail))
  refine wpQuiet_nil ?_
  rintro _ ⟨u, rfl⟩
  go_wp2
  have hbu : Below W.heap.size W u.val := by (repeat (first | exact brf | assumption | refine ble ?_ | refine blx ?_ | refine bla ?_ | refine bls ?_ | refine bld ?_))
  have zbu := Nat.lt_of_lt_of_le zb hbu.size
  have cu0 := below_cell hbu c0
  have cu1 := below_cell hbu c1
  have cu2 := below_cell hbu c2
  have cu3 := below_cell hbu c3
  have cu4 := below_cell hbu c4
  refine wp_region_quietB (by kernel_rfl) (by kernel_rfl) ?_
  repeat (first | go_big_quiet_step (fail) | quiet_step (fail))
  refine wpQuiet_nil ?_
  rintro _ ⟨u, rfl⟩
  go_wp2
  have hbu : Below W.heap.size W u.val := by (repeat (first | exact brf | assumption | refine ble ?_ | refine blx ?_ | refine bla ?_ | refine bls ?_ | refine bld ?_))
  have zbu := Nat.lt_of_lt_of_le zb hbu.size
  have cu0 := below_cell hbu c0
  have cu1 := below_cell hbu c1
  have cu2 := below_cell hbu c2
  have cu3 := below_cell hbu c3
  have cu4 := below_cell hbu c4
  refine wp_region_grow [0, 1, 2, 3, 4, 5, 6, 7, 8, 9, 10, 11, 12, 13, 14, 15, 16, 17, 18, 19, 20, 21, 22, 23, 24, 25, 26, 27, 28, 29, 30, 31, 32, 33, 34, 35, 36, 37, 38] 39 [] (pick [IsV (.int .i64 l), IsV (.int .i64 w), IsV (.bool g1), IsV (.bool g1), Gd g1 (IsV (.int .i64 x1)), Gd g1 (IsV (.bool (decide (0 < x1)))), IsV (.bool g2), IsV (.bool g2), Gd g2 (IsV (.int .i64 x2)), Gd g2 (IsV (.bool (decide (0 < x2)))), IsV (.bool g3), IsV (.bool g3), Gd g3 (IsV (.int .i64 x1)), Gd g3 (IsV (.int .i64 x2)), Gd g3 (IsV (.int .i64 (x1 + x2))), Gd g3 (IsV (.int .i64 x0)), Gd g3 (IsV (.bool (decide ((x1 + x2) ≤ x0)))), IsV (.bool g4), IsV (.bool g4), Gd g4 (IsV (.int .i64 x0)), Gd g4 (IsV (.int .i64 x1)), Gd g4 (IsV (.int .i64 (x0 + x1))), Gd g4 (IsV (.int .i64 x2)), Gd g4 (IsV (.int .i64 ((x0 + x1) + x2))), Gd g4 (IsV (.int .i64 l)), Gd g4 (IsV (.int .i64 (2 * l))), Gd g4 (IsV (.bool (decide (((x0 + x1) + x2) ≤ (2 * l))))), IsV (.bool g5), IsV (.bool g5), Gd g5 (IsV (.slice (some ⟨b, off, none⟩) 5 c)), Gd g5 (IsV (.pointer (some ⟨b, off + 3, none⟩))), Gd g5 (IsV (.int .i64 x3)), Gd g5 (IsV (.slice (some ⟨b, off, none⟩) 5 c)), Gd g5 (IsV (.pointer (some ⟨b, off + 4, none⟩))), Gd g5 (IsV (.int .i64 x4)), Gd g5 (IsV (.int .i64 t)), Gd g5 (IsL [0, x3, x4, t]), Gd g5 (IsV (.bool b1)), IsV (.bool g6)]) (by kernel_rfl) (by kernel_rfl) (Stabs.pick (by repeat (first | exact Stabs.nil | refine Stabs.cons (by first | exact stab_v _ | exact stab_l _ | exact stab_gd (by first | exact stab_v _ | exact stab_l _)) ?_))) ?_
  try go_frame
  refine wgs rfl rfl (by simp) (fun w' hb' hR K hK => ?_) (fun o0 => ?_)
  · clear hR
    go_simp
    exact hK _ _ (Below.refl _ _) rfl
  try go_frame
  refine wgs rfl rfl (by simp) (fun w' hb' hR K hK => ?_) (fun o1 => ?_)
  · clear hR
    go_simp
    exact hK _ _ (Below.refl _ _) rfl
  try go_frame
  refine wgs rfl rfl (by simp) (fun w' hb' hR K hK => ?_) (fun o2 => ?_)
  · obtain rfl : o0 = .int .i64 l := hR 0 (by kernel_rfl)
    obtain rfl : o1 = .int .i64 w := hR 1 (by kernel_rfl)
    clear hR
    go_simp
    exact hK _ _ (Below.refl _ _) (by show _ = _; rw [Hg1.out])
  try go_frame
  refine wgs rfl rfl (by simp) (fun w' hb' hR K hK => ?_) (fun o3 => ?_)
  · obtain rfl : o2 = .bool g1 := hR 2 (by kernel_rfl)
    clear hR
    go_simp
    exact hK _ _ (Below.refl _ _) rfl
  try go_frame
  refine wgg rfl rfl (by simp) (fun w' hb' hR K hK => ?_) (fun o4 => ?_)
  · obtain rfl : o3 = .bool g1 := hR 3 (by kernel_rfl)
    clear hR
    cases g1
    · exact ifn rfl
    · refine ifp ?_
      go_simp
      exact hK _ _ (Below.refl _ _) rfl
  try go_frame
  refine wgg rfl rfl (by simp) (fun w' hb' hR K hK => ?_) (fun o5 => ?_)
  · obtain rfl : o3 = .bool g1 := hR 3 (by kernel_rfl)
    have h4 : (Gd g1 (IsV (.int .i64 x1))) o4 w' := hR 4 (by kernel_rfl)
    clear hR
    cases g1
    · exact ifn rfl
    · refine ifp ?_
      obtain rfl : o4 = .int .i64 x1 := h4
      go_simp
      exact hK _ _ (Below.refl _ _) rfl
  try go_frame
  refine wgs rfl rfl (by simp) (fun w' hb' hR K hK => ?_) (fun o6 => ?_)
  · obtain rfl : o3 = .bool g1 := hR 3 (by kernel_rfl)
    have h5 : (Gd g1 (IsV (.bool (decide (0 < x1))))) o5 w' := hR 5 (by kernel_rfl)
    clear hR
    cases g1
    · obtain rfl : o5 = undef := h5
      go_simp
      exact hK _ _ (Below.refl _ _) (by show _ = _; rw [← Hg2.out]; simp)
    · obtain rfl : o5 = .bool (decide (0 < x1)) := h5
      go_simp
      exact hK _ _ (Below.refl _ _) (by show _ = _; rw [← Hg2.out]; simp)
  try go_frame
  refine wgs rfl rfl (by simp) (fun w' hb' hR K hK => ?_) (fun o7 => ?_)
  · obtain rfl : o6 = .bool g2 := hR 6 (by kernel_rfl)
    clear hR
    go_simp
    exact hK _ _ (Below.refl _ _) rfl
  try go_frame
  refine wgg rfl rfl (by simp) (fun w' hb' hR K hK => ?_) (fun o8 => ?_)
  · obtain rfl : o7 = .bool g2 := hR 7 (by kernel_rfl)
    clear hR
    cases g2
    · exact ifn rfl
    · refine ifp ?_
      go_simp
      exact hK _ _ (Below.refl _ _) rfl
  try go_frame
  refine wgg rfl rfl (by simp) (fun w' hb' hR K hK => ?_) (fun o9 => ?_)
  · obtain rfl : o7 = .bool g2 := hR 7 (by kernel_rfl)
    have h8 : (Gd g2 (IsV (.int .i64 x2))) o8 w' := hR 8 (by kernel_rfl)
    clear hR
    cases g2
    · exact ifn rfl
    · refine ifp ?_
      obtain rfl : o8 = .int .i64 x2 := h8
      go_simp
      exact hK _ _ (Below.refl _ _) rfl
  try go_frame
  refine wgs rfl rfl (by simp) (fun w' hb' hR K hK => ?_) (fun o10 => ?_)
  · obtain rfl : o7 = .bool g2 := hR 7 (by kernel_rfl)
    have h9 : (Gd g2 (IsV (.bool (decide (0 < x2))))) o9 w' := hR 9 (by kernel_rfl)
    clear hR
    cases g2
    · obtain rfl : o9 = undef := h9
      go_simp
      exact hK _ _ (Below.refl _ _) (by show _ = _; rw [← Hg3.out]; simp)
    · obtain rfl : o9 = .bool (decide (0 < x2)) := h9
      go_simp
      exact hK _ _ (Below.refl _ _) (by show _ = _; rw [← Hg3.out]; simp)
  try go_frame
  refine wgs rfl rfl (by simp) (fun w' hb' hR K hK => ?_) (fun o11 => ?_)
  · obtain rfl : o10 = .bool g3 := hR 10 (by kernel_rfl)
    clear hR
    go_simp
    exact hK _ _ (Below.refl _ _) rfl
  try go_frame
  refine wgg rfl rfl (by simp) (fun w' hb' hR K hK => ?_) (fun o12 => ?_)
  · obtain rfl : o11 = .bool g3 := hR 11 (by kernel_rfl)
    clear hR
    cases g3
    · exact ifn rfl
    · refine ifp ?_
      go_simp
      exact hK _ _ (Below.refl _ _) rfl
  try go_frame
  refine wgg rfl rfl (by simp) (fun w' hb' hR K hK => ?_) (fun o13 => ?_)
  · obtain rfl : o11 = .bool g3 := hR 11 (by kernel_rfl)
    clear hR
    cases g3
    · exact ifn rfl
    · refine ifp ?_
      go_simp
      exact hK _ _ (Below.refl _ _) rfl
  try go_frame
  refine wgg rfl rfl (by simp) (fun w' hb' hR K hK => ?_) (fun o14 => ?_)
  · obtain rfl : o11 = .bool g3 := hR 11 (by kernel_rfl)
    have h12 : (Gd g3 (IsV (.int .i64 x1))) o12 w' := hR 12 (by kernel_rfl)
    have h13 : (Gd g3 (IsV (.int .i64 x2))) o13 w' := hR 13 (by kernel_rfl)
    clear hR
    cases g3
    · exact ifn rfl
    · refine ifp ?_
      obtain rfl : o12 = .int .i64 x1 := h12
      obtain rfl : o13 = .int .i64 x2 := h13
      go_simp
      exact hK _ _ (Below.refl _ _) rfl
  try go_frame
  refine wgg rfl rfl (by simp) (fun w' hb' hR K hK => ?_) (fun o15 => ?_)
  · obtain rfl : o11 = .bool g3 := hR 11 (by kernel_rfl)
    clear hR
    cases g3
    · exact ifn rfl
    · refine ifp ?_
      go_simp
      exact hK _ _ (Below.refl _ _) rfl
  try go_frame
  refine wgg rfl rfl (by simp) (fun w' hb' hR K hK => ?_) (fun o16 => ?_)
  · obtain rfl : o11 = .bool g3 := hR 11 (by kernel_rfl)
    have h14 : (Gd g3 (IsV (.int .i64 (x1 + x2)))) o14 w' := hR 14 (by kernel_rfl)
    have h15 : (Gd g3 (IsV (.int .i64 x0))) o15 w' := hR 15 (by kernel_rfl)
    clear hR
    cases g3
    · exact ifn rfl
    · refine ifp ?_
      obtain rfl : o14 = .int .i64 (x1 + x2) := h14
      obtain rfl : o15 = .int .i64 x0 := h15
      go_simp
      exact hK _ _ (Below.refl _ _) rfl
  try go_frame
  refine wgs rfl rfl (by simp) (fun w' hb' hR K hK => ?_) (fun o17 => ?_)
  · obtain rfl : o11 = .bool g3 := hR 11 (by kernel_rfl)
    have h16 : (Gd g3 (IsV (.bool (decide ((x1 + x2) ≤ x0))))) o16 w' := hR 16 (by kernel_rfl)
    clear hR
    cases g3
    · obtain rfl : o16 = undef := h16
      go_simp
      exact hK _ _ (Below.refl _ _) (by show _ = _; rw [← Hg4.out]; simp)
    · obtain rfl : o16 = .bool (decide ((x1 + x2) ≤ x0)) := h16
      go_simp
      exact hK _ _ (Below.refl _ _) (by show _ = _; rw [← Hg4.out]; simp)
  try go_frame
  refine wgs rfl rfl (by simp) (fun w' hb' hR K hK => ?_) (fun o18 => ?_)
  · obtain rfl : o17 = .bool g4 := hR 17 (by kernel_rfl)
    clear hR
    go_simp
    exact hK _ _ (Below.refl _ _) rfl
  try go_frame
  refine wgg rfl rfl (by simp) (fun w' hb' hR K hK => ?_) (fun o19 => ?_)
  · obtain rfl : o18 = .bool g4 := hR 18 (by kernel_rfl)
    clear hR
    cases g4
    · exact ifn rfl
    · refine ifp ?_
      go_simp
      exact hK _ _ (Below.refl _ _) rfl
  try go_frame
  refine wgg rfl rfl (by simp) (fun w' hb' hR K hK => ?_) (fun o20 => ?_)
  · obtain rfl : o18 = .bool g4 := hR 18 (by kernel_rfl)
    clear hR
    cases g4
    · exact ifn rfl
    · refine ifp ?_
      go_simp
      exact hK _ _ (Below.refl _ _) rfl
  try go_frame
  refine wgg rfl rfl (by simp) (fun w' hb' hR K hK => ?_) (fun o21 => ?_)
  · obtain rfl : o18 = .bool g4 := hR 18 (by kernel_rfl)
    have h19 : (Gd g4 (IsV (.int .i64 x0))) o19 w' := hR 19 (by kernel_rfl)
    have h20 : (Gd g4 (IsV (.int .i64 x1))) o20 w' := hR 20 (by kernel_rfl)
    clear hR
    cases g4
    · exact ifn rfl
    · refine ifp ?_
      obtain rfl : o19 = .int .i64 x0 := h19
      obtain rfl : o20 = .int .i64 x1 := h20
      go_simp
      exact hK _ _ (Below.refl _ _) rfl
  try go_frame
  refine wgg rfl rfl (by simp) (fun w' hb' hR K hK => ?_) (fun o22 => ?_)
  · obtain rfl : o18 = .bool g4 := hR 18 (by kernel_rfl)
    clear hR
    cases g4
    · exact ifn rfl
    · refine ifp ?_
      go_simp
      exact hK _ _ (Below.refl _ _) rfl
  try go_frame
  refine wgg rfl rfl (by simp) (fun w' hb' hR K hK => ?_) (fun o23 => ?_)
  · obtain rfl : o18 = .bool g4 := hR 18 (by kernel_rfl)
    have h21 : (Gd g4 (IsV (.int .i64 (x0 + x1)))) o21 w' := hR 21 (by kernel_rfl)
    have h22 : (Gd g4 (IsV (.int .i64 x2))) o22 w' := hR 22 (by kernel_rfl)
    clear hR
    cases g4
    · exact ifn rfl
    · refine ifp ?_
      obtain rfl : o21 = .int .i64 (x0 + x1) := h21
      obtain rfl : o22 = .int .i64 x2 := h22
      go_simp
      exact hK _ _ (Below.refl _ _) rfl
  try go_frame
  refine wgg rfl rfl (by simp) (fun w' hb' hR K hK => ?_) (fun o24 => ?_)
  · obtain rfl : o18 = .bool g4 := hR 18 (by kernel_rfl)
    clear hR
    cases g4
    · exact ifn rfl
    · refine ifp ?_
      go_simp
      exact hK _ _ (Below.refl _ _) rfl
  try go_frame
  refine wgg rfl rfl (by simp) (fun w' hb' hR K hK => ?_) (fun o25 => ?_)
  · obtain rfl : o18 = .bool g4 := hR 18 (by kernel_rfl)
    have h24 : (Gd g4 (IsV (.int .i64 l))) o24 w' := hR 24 (by kernel_rfl)
    clear hR
    cases g4
    · exact ifn rfl
    · refine ifp ?_
      obtain rfl : o24 = .int .i64 l := h24
      go_simp
      exact hK _ _ (Below.refl _ _) rfl
  try go_frame
  refine wgg rfl rfl (by simp) (fun w' hb' hR K hK => ?_) (fun o26 => ?_)
  · obtain rfl : o18 = .bool g4 := hR 18 (by kernel_rfl)
    have h23 : (Gd g4 (IsV (.int .i64 ((x0 + x1) + x2)))) o23 w' := hR 23 (by kernel_rfl)
    have h25 : (Gd g4 (IsV (.int .i64 (2 * l)))) o25 w' := hR 25 (by kernel_rfl)
    clear hR
    cases g4
    · exact ifn rfl
    · refine ifp ?_
      obtain rfl : o23 = .int .i64 ((x0 + x1) + x2) := h23
      obtain rfl : o25 = .int .i64 (2 * l) := h25
      go_simp
      exact hK _ _ (Below.refl _ _) rfl
  try go_frame
  refine wgs rfl rfl (by simp) (fun w' hb' hR K hK => ?_) (fun o27 => ?_)
  · obtain rfl : o18 = .bool g4 := hR 18 (by kernel_rfl)
    have h26 : (Gd g4 (IsV (.bool (decide (((x0 + x1) + x2) ≤ (2 * l)))))) o26 w' := hR 26 (by kernel_rfl)
    clear hR
    cases g4
    · obtain rfl : o26 = undef := h26
      go_simp
      exact hK _ _ (Below.refl _ _) (by show _ = _; rw [← Hg5.out]; simp)
    · obtain rfl : o26 = .bool (decide (((x0 + x1) + x2) ≤ (2 * l))) := h26
      go_simp
      exact hK _ _ (Below.refl _ _) (by show _ = _; rw [← Hg5.out]; simp)
  try go_frame
  refine wgs rfl rfl (by simp) (fun w' hb' hR K hK => ?_) (fun o28 => ?_)
  · obtain rfl : o27 = .bool g5 := hR 27 (by kernel_rfl)
    clear hR
    go_simp
    exact hK _ _ (Below.refl _ _) rfl
  try go_frame
  refine wgg rfl rfl (by simp) (fun w' hb' hR K hK => ?_) (fun o29 => ?_)
  · obtain rfl : o28 = .bool g5 := hR 28 (by kernel_rfl)
    clear hR
    cases g5
    · exact ifn rfl
    · refine ifp ?_
      go_simp
      exact hK _ _ (Below.refl _ _) rfl
  try go_frame
  refine wgg rfl rfl (by simp) (fun w' hb' hR K hK => ?_) (fun o30 => ?_)
  · obtain rfl : o28 = .bool g5 := hR 28 (by kernel_rfl)
    have h29 : (Gd g5 (IsV (.slice (some ⟨b, off, none⟩) 5 c))) o29 w' := hR 29 (by kernel_rfl)
    clear hR
    cases g5
    · exact ifn rfl
    · refine ifp ?_
      obtain rfl : o29 = .slice (some ⟨b, off, none⟩) 5 c := h29
      go_simp
      exact hK _ _ (Below.refl _ _) rfl
  try go_frame
  refine wgg rfl rfl (by simp) (fun w' hb' hR K hK => ?_) (fun o31 => ?_)
  · obtain rfl : o28 = .bool g5 := hR 28 (by kernel_rfl)
    have h30 : (Gd g5 (IsV (.pointer (some ⟨b, off + 3, none⟩)))) o30 w' := hR 30 (by kernel_rfl)
    clear hR
    cases g5
    · exact ifn rfl
    · refine ifp ?_
      obtain rfl : o30 = .pointer (some ⟨b, off + 3, none⟩) := h30
      have cc := below_cell hb' cu3
      have zz := World.block_lt_of_cell? w' _ cc
      simp only at zz
      go_simp
      exact hK _ _ (Below.refl _ _) rfl
  try go_frame
  refine wgg rfl rfl (by simp) (fun w' hb' hR K hK => ?_) (fun o32 => ?_)
  · obtain rfl : o28 = .bool g5 := hR 28 (by kernel_rfl)
    clear hR
    cases g5
    · exact ifn rfl
    · refine ifp ?_
      go_simp
      exact hK _ _ (Below.refl _ _) rfl
  try go_frame
  refine wgg rfl rfl (by simp) (fun w' hb' hR K hK => ?_) (fun o33 => ?_)
  · obtain rfl : o28 = .bool g5 := hR 28 (by kernel_rfl)
    have h32 : (Gd g5 (IsV (.slice (some ⟨b, off, none⟩) 5 c))) o32 w' := hR 32 (by kernel_rfl)
    clear hR
    cases g5
    · exact ifn rfl
    · refine ifp ?_
      obtain rfl : o32 = .slice (some ⟨b, off, none⟩) 5 c := h32
      go_simp
      exact hK _ _ (Below.refl _ _) rfl
  try go_frame
  refine wgg rfl rfl (by simp) (fun w' hb' hR K hK => ?_) (fun o34 => ?_)
  · obtain rfl : o28 = .bool g5 := hR 28 (by kernel_rfl)
    have h33 : (Gd g5 (IsV (.pointer (some ⟨b, off + 4, none⟩)))) o33 w' := hR 33 (by kernel_rfl)
    clear hR
    cases g5
    · exact ifn rfl
    · refine ifp ?_
      obtain rfl : o33 = .pointer (some ⟨b, off + 4, none⟩) := h33
      have cc := below_cell hb' cu4
      have zz := World.block_lt_of_cell? w' _ cc
      simp only at zz
      go_simp
      exact hK _ _ (Below.refl _ _) rfl
  try go_frame
  refine wgg rfl rfl (by simp) (fun w' hb' hR K hK => ?_) (fun o35 => ?_)
  · obtain rfl : o28 = .bool g5 := hR 28 (by kernel_rfl)
    clear hR
    cases g5
    · exact ifn rfl
    · refine ifp ?_
      go_simp
      exact hK _ _ (Below.refl _ _) rfl
  try go_frame
  refine wgg rfl rfl (by simp) (fun w' hb' hR K hK => ?_) (fun o36 => ?_)
  · obtain rfl : o28 = .bool g5 := hR 28 (by kernel_rfl)
    have h31 : (Gd g5 (IsV (.int .i64 x3))) o31 w' := hR 31 (by kernel_rfl)
    have h34 : (Gd g5 (IsV (.int .i64 x4))) o34 w' := hR 34 (by kernel_rfl)
    have h35 : (Gd g5 (IsV (.int .i64 t))) o35 w' := hR 35 (by kernel_rfl)
    clear hR
    cases g5
    · exact ifn rfl
    · refine ifp ?_
      obtain rfl : o31 = .int .i64 x3 := h31
      obtain rfl : o34 = .int .i64 x4 := h34
      obtain rfl : o35 = .int .i64 t := h35
      go_simp
      exact hK _ _ (by (repeat (first | exact brf | assumption | refine ble ?_ | refine blx ?_ | refine bla ?_ | refine bls ?_ | refine bld ?_))) (ints_newL [0, x3, x4, t] rfl)
  try go_frame
  refine wgg rfl rfl (by simp) (fun w' hb' hR K hK => ?_) (fun o37 => ?_)
  · obtain rfl : o28 = .bool g5 := hR 28 (by kernel_rfl)
    have h36 : (Gd g5 (IsL [0, x3, x4, t])) o36 w' := hR 36 (by kernel_rfl)
    clear hR
    cases g5
    · exact ifn rfl
    · refine ifp ?_
      replace h36 : (IsL [0, x3, x4, t]) o36 w' := h36
      go_simp
      refine ((h1 _ _ h36).out).mono ?_
      rintro e w1 ⟨rfl, hb1⟩
      exact hK _ _ hb1 rfl
  try go_frame
  refine wgs rfl rfl (by simp) (fun w' hb' hR K hK => ?_) (fun o38 => ?_)
  · obtain rfl : o28 = .bool g5 := hR 28 (by kernel_rfl)
    have h37 : (Gd g5 (IsV (.bool b1))) o37 w' := hR 37 (by kernel_rfl)
    clear hR
    cases g5
    · obtain rfl : o37 = undef := h37
      go_simp
      exact hK _ _ (Below.refl _ _) (by show _ = _; rw [← Hg6.out]; simp)
    · obtain rfl : o37 = .bool b1 := h37
      go_simp
      exact hK _ _ (Below.refl _ _) (by show _ = _; rw [← Hg6.out]; simp)
  try go_frame
  refine wpG_nil (fun w' hb' hR => ?_)
  obtain rfl : o38 = .bool g6 := hR 38 (by simp)
  clear hR
  simp only [opsAt, List.filterMap_cons, List.filterMap_nil, List.getElem?_toArray, List.getElem?_cons_zero, List.getElem?_cons_succ]
  go_wp2
  refine NoPanic.normal ?_
  go_wp2
  go_ret
  exact ⟨rfl, below_trans (show Below W.heap.size W _ by (repeat (first | exact brf | assumption | refine ble ?_ | refine blx ?_ | refine bla ?_ | refine bls ?_ | refine bld ?_))) hb'⟩
end Go.Proofs.YtjglkglaogaenaaGreatDoor
