/- texts of mine, merged: J6, J7, J8, R0. -/
import Derived.Test.YtjglkglaogaenaaGreatDoorGI
import Derived.Lib.AppendZerosOnto
import Derived.Laws.AppendOwnNone
import Derived.Shelf.Lays8
/- joint: right (lap, dovetail), checkBox, Check. -/
namespace Go.Proofs.YtjglkglaogaenaaGreatDoor
section
open Go.RowKit Go.Shelf
attribute [local go_sem] Ext.cell Ext.frozen
def vJ (k l w t : Int) (n : Value) : Value := .agg #[.int .i64 k, .int .i64 l, .int .i64 w, .int .i64 t, n]
theorem ints_newL {W : World} {T : TypeId} (xs : List Int) {g : Nat} (hg : g = W.heap.size) : Ints (W.alloc (.cells (xs.map (Value.int .i64)).toArray T)) (.slice (some ⟨g, 0, none⟩) xs.length xs.length) xs :=
  ⟨_, _, _, rfl, rfl, Nat.le_refl _, fun _ => ⟨g, 0, rfl, fun i hi => by
    refine (cell_new hg _).trans ?_
    simp [hi]⟩⟩
set_option maxRecDepth 100000 in
set_option maxHeartbeats 1000000 in
theorem right_0 (l w t : Int) (nv : Value) (n : List Int) (W : World) (hn : Ints W nv n) (hl : n.length = 1) :
    Calls Tryz.prog 75 #[vJ 0 l w t nv] W (Ret W (.bool (risingB [0, n.getD 0 0, t]))) := by
  unfold vJ
  obtain ⟨a, m, c, rfl, hm, hc, hx⟩ := hn
  obtain ⟨b, off, rfl, hi⟩ := hx (by omega)
  have c0 := hi 0 (by omega)
  have zb := World.block_lt_of_cell? W _ c0
  simp only at zb
  rw [getDI n _ (by omega)] at c0
  rw [Nat.add_zero] at c0
  generalize n.getD 0 0 = x at *
  obtain rfl : m = 1 := by omega
  have hr := fun W' g hg => Lib.hid (rising_any _ [0, x, t] _ (ints_newL (W := W') (T := 3) (g := g) [0, x, t] hg) (by simp))
  clear hi hx hm
  go_enter Tryz.func75, Tryz.ntmps75
  go_wp2
  refine wp_region_quietB (by kernel_rfl) (by kernel_rfl) ?_
  repeat (first | go_big_quiet_step (fail) | quiet_step (fail))
  refine wpQuiet_nil ?_
  rintro _ ⟨u, rfl⟩
  go_wp2_with fail
  refine ((hr _ _ rfl).out).mono ?_
  rintro e w1 ⟨rfl, hb1⟩
  go_wp2
  go_ret
  exact ⟨rfl, below_trans (show Below W.heap.size W u.val by (repeat (first | exact brf | assumption | refine ble ?_ | refine blx ?_ | refine bla ?_ | refine bls ?_ | refine bld ?_))) (below_trans (by (repeat (first | exact brf | assumption | refine ble ?_ | refine blx ?_ | refine bla ?_ | refine bls ?_ | refine bld ?_))) hb1)⟩
set_option maxRecDepth 100000 in
set_option maxHeartbeats 1000000 in
theorem right_5 (l w t : Int) (nv : Value) (n : List Int) (W : World) (hn : Ints W nv n) (hl : 3 ≤ n.length) (hm : n.length ≤ 1000000) (hb : ∀ x ∈ n, -1000000 ≤ x ∧ x ≤ 1000000) (hL : 1 ≤ l ∧ l ≤ 1000000) :
    Calls Tryz.prog 75 #[vJ 5 l w t nv] W (Ret W (.bool (tailsB l w n))) := by
  unfold vJ
  have hr := fun W' h => Lib.hid (rightTails_any l w nv n W' (hn.below (w' := W') h) hl hm hb hL)
  clear hn
  go_enter Tryz.func75, Tryz.ntmps75
  go_wp2
  refine wp_region_quietB (by kernel_rfl) (by kernel_rfl) ?_
  repeat (first | go_big_quiet_step (fail) | quiet_step (fail))
  refine wpQuiet_nil ?_
  rintro _ ⟨u, rfl⟩
  go_wp2_with fail
  refine ((hr _ (by (repeat (first | exact brf | assumption | refine ble ?_ | refine blx ?_ | refine bla ?_ | refine bls ?_ | refine bld ?_)))).out).mono ?_
  rintro e w1 ⟨rfl, hb1⟩
  go_wp2
  go_ret
  exact ⟨rfl, below_trans (by (repeat (first | exact brf | assumption | refine ble ?_ | refine blx ?_ | refine bla ?_ | refine bls ?_ | refine bld ?_))) hb1⟩
def boxE (k l w t : Int) : Int := if (0 ≤ k ∧ k ≤ 10) ∧ withinB 1 100000 [l, w, t] = true then 0 else 2
set_option maxRecDepth 100000 in
set_option maxHeartbeats 1000000 in
theorem checkBox_any (k l w t : Int) (W : World) :
    Calls Tryz.prog 72 #[.int .i64 k, .agg #[.int .i64 l, .int .i64 w, .int .i64 t]] W (Ret W (.int .i64 (boxE k l w t))) := by
  by_cases hk : 0 ≤ k ∧ k ≤ 10
  · have hi := fun W' => Lib.hid (isKind_any k W')
    rw [show decide (0 ≤ k ∧ k ≤ 10) = true from decide_eq_true hk] at hi
    cases hw : withinB 1 100000 [l, w, t] with
    | true =>
      have hr := fun W' T g hg => Lib.hid (within_any 1 100000 _ [l, w, t] _ (ints_newL (W := W') (T := T) (g := g) [l, w, t] hg) (by simp))
      rw [hw] at hr
      have He := Lib.hid (show boxE k l w t = 0 by unfold boxE; rw [if_pos ⟨hk, hw⟩])
      clear hw
      go_enter Tryz.func72, Tryz.ntmps72
      go_wp2_with fail
      refine ((hi _).out).mono ?_
      rintro e w1 ⟨rfl, rfl⟩
      go_wp2_with fail
      refine ((hr _ _ _ rfl).out).mono ?_
      rintro e w1 ⟨rfl, hb1⟩
      go_wp2
      go_ret
      exact ⟨ret_int He.out.symm, below_trans (by (repeat (first | exact brf | assumption | refine ble ?_ | refine blx ?_ | refine bla ?_ | refine bls ?_ | refine bld ?_))) hb1⟩
    | false =>
      have hr := fun W' T g hg => Lib.hid (within_any 1 100000 _ [l, w, t] _ (ints_newL (W := W') (T := T) (g := g) [l, w, t] hg) (by simp))
      rw [hw] at hr
      have He := Lib.hid (show boxE k l w t = 2 by unfold boxE; rw [if_neg (fun h => by rw [hw] at h; exact Bool.false_ne_true h.2)])
      clear hw
      go_enter Tryz.func72, Tryz.ntmps72
      go_wp2_with fail
      refine ((hi _).out).mono ?_
      rintro e w1 ⟨rfl, rfl⟩
      go_wp2_with fail
      refine ((hr _ _ _ rfl).out).mono ?_
      rintro e w1 ⟨rfl, hb1⟩
      go_wp2
      go_ret
      exact ⟨ret_int He.out.symm, below_trans (by (repeat (first | exact brf | assumption | refine ble ?_ | refine blx ?_ | refine bla ?_ | refine bls ?_ | refine bld ?_))) hb1⟩
  · have hi := fun W' => Lib.hid (isKind_any k W')
    rw [show decide (0 ≤ k ∧ k ≤ 10) = false from decide_eq_false hk] at hi
    have He := Lib.hid (show boxE k l w t = 2 by unfold boxE; rw [if_neg (fun h => hk h.1)])
    go_enter Tryz.func72, Tryz.ntmps72
    go_wp2_with fail
    refine ((hi _).out).mono ?_
    rintro e w1 ⟨rfl, rfl⟩
    go_wp2
    go_ret
    exact ⟨ret_int He.out.symm, by (repeat (first | exact brf | assumption | refine ble ?_ | refine blx ?_ | refine bla ?_ | refine bls ?_ | refine bld ?_))⟩
end
/- joint: Check, over what right answers. -/
section
open Go.RowKit Go.Shelf
attribute [local go_sem] Ext.cell Ext.frozen
def checkE (k l w t : Int) (n : List Int) (rb : Bool) : Int :=
  if boxE k l w t ≠ 0 then 2 else if 24 < n.length then 8 else if cntB k n.length = false then 10 else
  if withinB (-100000) 100000 n = false then 2 else if rb = false then 3 else 0
set_option maxRecDepth 100000 in
set_option maxHeartbeats 2000000 in
theorem Check_any (k l w t : Int) (nv : Value) (n : List Int) (rb : Bool) (W : World) (hn : Ints W nv n) (hm : n.length ≤ 1000000)
    (hr : (0 ≤ k ∧ k ≤ 10) → withinB 1 100000 [l, w, t] = true → n.length ≤ 24 → cntB k n.length = true → withinB (-100000) 100000 n = true → ∀ W', Below W.heap.size W W' → Calls Tryz.prog 75 #[vJ k l w t nv] W' (Ret W' (.bool rb))) :
    Calls Tryz.prog 23 #[vJ k l w t nv] W (Ret W (.int .i64 (checkE k l w t n rb))) := by
  unfold vJ at *
  have h1 := fun W' => Lib.hid (checkBox_any k l w t W')
  by_cases hbx : boxE k l w t = 0
  · rw [hbx] at h1
    by_cases h24 : 24 < n.length
    · have He := Lib.hid (show checkE k l w t n rb = 8 by unfold checkE; rw [if_neg (by simp [hbx]), if_pos h24])
      clear hr
      obtain ⟨a, m, c, rfl, hm', hc, hx⟩ := hn
      have m24 : (24 : Int) < (m : Int) := by omega
      have m24' : 24 < m := by omega
      clear hx
      go_enter Tryz.func23, Tryz.ntmps23
      go_wp2_with fail
      refine ((h1 _).out).mono ?_
      rintro e w1 ⟨rfl, hb1⟩
      have hw1 := below_trans (show Below W.heap.size W (W.alloc (.cells #[.int .i64 k, .int .i64 l, .int .i64 w, .int .i64 t, .slice a m c] 25)) by (repeat (first | exact brf | assumption | refine ble ?_ | refine blx ?_ | refine bla ?_ | refine bls ?_ | refine bld ?_))) hb1
      have c0 := below_cell hb1 ((cell_new rfl 0).trans rfl : _ = some (.int .i64 k))
      have c4 := below_cell hb1 ((cell_new rfl 4).trans rfl : _ = some (.slice a m c))
      have c1 := below_cell hb1 ((cell_new rfl 1).trans rfl : _ = some (.int .i64 l))
      have c2 := below_cell hb1 ((cell_new rfl 2).trans rfl : _ = some (.int .i64 w))
      have c3 := below_cell hb1 ((cell_new rfl 3).trans rfl : _ = some (.int .i64 t))
      go_wp2
      go_ret
      exact ⟨ret_int He.out.symm, hw1⟩
    · obtain ⟨hk, hwi⟩ : (0 ≤ k ∧ k ≤ 10) ∧ withinB 1 100000 [l, w, t] = true := by
        unfold boxE at hbx
        split at hbx
        · assumption
        · simp at hbx
      have h2 := fun W' => Lib.hid (counted_any k n.length W' hk)
      cases hc : cntB k n.length with
      | false =>
        have He := Lib.hid (show checkE k l w t n rb = 10 by unfold checkE; rw [if_neg (by simp [hbx]), if_neg h24, if_pos hc])
        rw [hc] at h2
        clear hr hc
        obtain ⟨a, m, c, rfl, hm', hc, hx⟩ := hn
        rw [hm'] at h2
        have m24 : ¬ 24 < m := by omega
        clear hx
        go_enter Tryz.func23, Tryz.ntmps23
        go_wp2_with fail
        refine ((h1 _).out).mono ?_
        rintro e w1 ⟨rfl, hb1⟩
        have hw1 := below_trans (show Below W.heap.size W (W.alloc (.cells #[.int .i64 k, .int .i64 l, .int .i64 w, .int .i64 t, .slice a m c] 25)) by (repeat (first | exact brf | assumption | refine ble ?_ | refine blx ?_ | refine bla ?_ | refine bls ?_ | refine bld ?_))) hb1
        have c0 := below_cell hb1 ((cell_new rfl 0).trans rfl : _ = some (.int .i64 k))
        have c4 := below_cell hb1 ((cell_new rfl 4).trans rfl : _ = some (.slice a m c))
        have c1 := below_cell hb1 ((cell_new rfl 1).trans rfl : _ = some (.int .i64 l))
        have c2 := below_cell hb1 ((cell_new rfl 2).trans rfl : _ = some (.int .i64 w))
        have c3 := below_cell hb1 ((cell_new rfl 3).trans rfl : _ = some (.int .i64 t))
        go_wp2_with fail
        refine ((h2 _).out).mono ?_
        rintro e w2 ⟨rfl, rfl⟩
        go_wp2
        go_ret
        exact ⟨ret_int He.out.symm, hw1⟩
      | true =>
        rw [hc] at h2
        have h3 := fun W' h => Lib.hid (within_any (-100000) 100000 nv n W' (hn.below (w' := W') h) (by omega))
        cases hcw : withinB (-100000) 100000 n with
        | false =>
          have He := Lib.hid (show checkE k l w t n rb = 2 by unfold checkE; rw [if_neg (by simp [hbx]), if_neg h24, if_neg (by simp [hc]), if_pos hcw])
          rw [hcw] at h3
          clear hr hc hcw
          obtain ⟨a, m, c, rfl, hm', hc, hx⟩ := hn
          rw [hm'] at h2
          have m24 : ¬ 24 < m := by omega
          clear hx
          go_enter Tryz.func23, Tryz.ntmps23
          go_wp2_with fail
          refine ((h1 _).out).mono ?_
          rintro e w1 ⟨rfl, hb1⟩
          have hw1 := below_trans (show Below W.heap.size W (W.alloc (.cells #[.int .i64 k, .int .i64 l, .int .i64 w, .int .i64 t, .slice a m c] 25)) by (repeat (first | exact brf | assumption | refine ble ?_ | refine blx ?_ | refine bla ?_ | refine bls ?_ | refine bld ?_))) hb1
          have c0 := below_cell hb1 ((cell_new rfl 0).trans rfl : _ = some (.int .i64 k))
          have c4 := below_cell hb1 ((cell_new rfl 4).trans rfl : _ = some (.slice a m c))
          have c1 := below_cell hb1 ((cell_new rfl 1).trans rfl : _ = some (.int .i64 l))
          have c2 := below_cell hb1 ((cell_new rfl 2).trans rfl : _ = some (.int .i64 w))
          have c3 := below_cell hb1 ((cell_new rfl 3).trans rfl : _ = some (.int .i64 t))
          go_wp2_with fail
          refine ((h2 _).out).mono ?_
          rintro e w2 ⟨rfl, rfl⟩
          go_wp2_with fail
          refine ((h3 _ hw1).out).mono ?_
          rintro e w3 ⟨rfl, hb3⟩
          go_wp2
          go_ret
          exact ⟨ret_int He.out.symm, below_trans hw1 hb3⟩
        | true =>
          have He := Lib.hid (show checkE k l w t n rb = if rb = false then 3 else 0 by unfold checkE; rw [if_neg (by simp [hbx]), if_neg h24, if_neg (by simp [hc]), if_neg (by simp [hcw])])
          have h4 := fun W' h => Lib.hid (hr hk hwi (by omega) hc hcw W' h)
          rw [hcw] at h3
          clear hr hc hcw
          obtain ⟨a, m, c, rfl, hm', hc, hx⟩ := hn
          rw [hm'] at h2
          have m24 : ¬ 24 < m := by omega
          clear hx
          cases rb
          · go_enter Tryz.func23, Tryz.ntmps23
            go_wp2_with fail
            refine ((h1 _).out).mono ?_
            rintro e w1 ⟨rfl, hb1⟩
            have hw1 := below_trans (show Below W.heap.size W (W.alloc (.cells #[.int .i64 k, .int .i64 l, .int .i64 w, .int .i64 t, .slice a m c] 25)) by (repeat (first | exact brf | assumption | refine ble ?_ | refine blx ?_ | refine bla ?_ | refine bls ?_ | refine bld ?_))) hb1
            have c0 := below_cell hb1 ((cell_new rfl 0).trans rfl : _ = some (.int .i64 k))
            have c4 := below_cell hb1 ((cell_new rfl 4).trans rfl : _ = some (.slice a m c))
            have c1 := below_cell hb1 ((cell_new rfl 1).trans rfl : _ = some (.int .i64 l))
            have c2 := below_cell hb1 ((cell_new rfl 2).trans rfl : _ = some (.int .i64 w))
            have c3 := below_cell hb1 ((cell_new rfl 3).trans rfl : _ = some (.int .i64 t))
            go_wp2_with fail
            refine ((h2 _).out).mono ?_
            rintro e w2 ⟨rfl, rfl⟩
            go_wp2_with fail
            refine ((h3 _ hw1).out).mono ?_
            rintro e w3 ⟨rfl, hb3⟩
            have c0 := below_cell hb3 c0
            have c1 := below_cell hb3 c1
            have c2 := below_cell hb3 c2
            have c3 := below_cell hb3 c3
            have c4 := below_cell hb3 c4
            go_wp2_with fail
            refine ((h4 _ (below_trans hw1 hb3)).out).mono ?_
            rintro e w4 ⟨rfl, hb4⟩
            go_wp2
            go_ret
            exact ⟨ret_int He.out.symm, below_trans (below_trans hw1 hb3) hb4⟩
          · go_enter Tryz.func23, Tryz.ntmps23
            go_wp2_with fail
            refine ((h1 _).out).mono ?_
            rintro e w1 ⟨rfl, hb1⟩
            have hw1 := below_trans (show Below W.heap.size W (W.alloc (.cells #[.int .i64 k, .int .i64 l, .int .i64 w, .int .i64 t, .slice a m c] 25)) by (repeat (first | exact brf | assumption | refine ble ?_ | refine blx ?_ | refine bla ?_ | refine bls ?_ | refine bld ?_))) hb1
            have c0 := below_cell hb1 ((cell_new rfl 0).trans rfl : _ = some (.int .i64 k))
            have c4 := below_cell hb1 ((cell_new rfl 4).trans rfl : _ = some (.slice a m c))
            have c1 := below_cell hb1 ((cell_new rfl 1).trans rfl : _ = some (.int .i64 l))
            have c2 := below_cell hb1 ((cell_new rfl 2).trans rfl : _ = some (.int .i64 w))
            have c3 := below_cell hb1 ((cell_new rfl 3).trans rfl : _ = some (.int .i64 t))
            go_wp2_with fail
            refine ((h2 _).out).mono ?_
            rintro e w2 ⟨rfl, rfl⟩
            go_wp2_with fail
            refine ((h3 _ hw1).out).mono ?_
            rintro e w3 ⟨rfl, hb3⟩
            have c0 := below_cell hb3 c0
            have c1 := below_cell hb3 c1
            have c2 := below_cell hb3 c2
            have c3 := below_cell hb3 c3
            have c4 := below_cell hb3 c4
            go_wp2_with fail
            refine ((h4 _ (below_trans hw1 hb3)).out).mono ?_
            rintro e w4 ⟨rfl, hb4⟩
            go_wp2
            go_ret
            exact ⟨ret_int He.out.symm, below_trans (below_trans hw1 hb3) hb4⟩
  · have He := Lib.hid (show checkE k l w t n rb = 2 by unfold checkE; rw [if_pos hbx])
    have : boxE k l w t = 2 := by unfold boxE at hbx ⊢; split at hbx <;> simp_all
    rw [this] at h1
    clear this hbx hr hn
    go_enter Tryz.func23, Tryz.ntmps23
    go_wp2_with fail
    refine ((h1 _).out).mono ?_
    rintro e w1 ⟨rfl, hb1⟩
    have hw1 := below_trans (show Below W.heap.size W (W.alloc (.cells #[.int .i64 k, .int .i64 l, .int .i64 w, .int .i64 t, nv] 25)) by (repeat (first | exact brf | assumption | refine ble ?_ | refine blx ?_ | refine bla ?_ | refine bls ?_ | refine bld ?_))) hb1
    have c0 := below_cell hb1 ((cell_new rfl 0).trans rfl : _ = some (.int .i64 k))
    have c4 := below_cell hb1 ((cell_new rfl 4).trans rfl : _ = some nv)
    have c1 := below_cell hb1 ((cell_new rfl 1).trans rfl : _ = some (.int .i64 l))
    have c2 := below_cell hb1 ((cell_new rfl 2).trans rfl : _ = some (.int .i64 w))
    have c3 := below_cell hb1 ((cell_new rfl 3).trans rfl : _ = some (.int .i64 t))
    go_wp2
    go_ret
    exact ⟨ret_int He.out.symm, hw1⟩
end
/- slices.Grow of nil, slices.Concat. -/
section
open Go.RowKit Go.Shelf
attribute [local go_sem] Ext.cell Ext.frozen
theorem info_intz : (Tryz.prog.info? 3).map (fun i => (i.zero, i.size, i.bytes)) = some (some (.int .i64 0), 1, 8) := by kernel_rfl
theorem und_ints : Tryz.prog.underlying 23 = some (.slice 3) := by kernel_rfl
set_option maxHeartbeats 2000000 in
set_option maxRecDepth 100000 in
theorem grow_int (n : Nat) (w : World) (hn : n ≤ 1000000) : Calls Tryz.prog 169 #[.slice none 0 0, .int .i64 n] w fun e w' => ∃ r, e = .returned r ∧ Below w.heap.size w w' ∧ w'.ownsRow w.heap.size 3 1 r 0 [] := by
  obtain ⟨i0, hi0, hz0, hz1, hz2⟩ := info_parts info_intz
  by_cases h0 : n = 0
  · subst h0
    go_enter Tryz.func169, Tryz.ntmps169
    go_wp2
    go_ret
    exact ⟨_, rfl, Below.refl _ _, World.ownsRow_nil _ _ _ _⟩
  · have hrz : ∀ ty, (Builtin.append_ #[23, 3] ty #[.slice none 0 0, .int .i64 n]).run Tryz.prog w =
        .ok (.slice (some ⟨w.heap.size, 0, none⟩) n (grownCap w n 0 3)) (w.drew.alloc (.cells (#[] ++ Builtin.zeroCells (Value.int .i64 0).cells n ++ Builtin.zeroCells (Value.int .i64 0).cells (grownCap w n 0 3 - n)) 3)) := fun ty => by
      have h := Lib.run_append_grow_zeros w 23 3 ty 3 i0 (Value.int .i64 0) .i64 .i64 und_ints und_int hi0 hz0 none 0 0 [] (run_firstCells_none w.drew i0.size 0 0 0) n (by omega) (by omega) (by omega) (by omega) (by rw [hz2]; omega) (growslice_fits (by omega) (by rw [hz2]; omega))
      simpa using h
    have hGn : n ≤ grownCap w n 0 3 := grownCap_ge w _ _ _
    have hGm : grownCap w n 0 3 ≤ maxLen := grownCap_le_maxLen w n 0 3 (by unfold maxLen; omega)
    generalize grownCap w n 0 3 = G at *
    have h1 : ¬ ((n : Int) < 0) := by omega
    have h2 : 0 < n := by omega
    have hG63 : G ≤ 9223372036854775807 := by unfold maxLen at hGm; omega
    have Hrz := fun ty => Lib.hid (hrz ty)
    have Hm := Lib.hid hGm
    clear hrz hi0 hz0 hz1 hz2 hGm
    go_enter Tryz.func169, Tryz.ntmps169
    go_wp2_with (at_builtin; refine Lib.wpList_append_run _ rfl _ _ _ _ rfl _ _ rfl rfl _ _ (Hrz _).out ?_)
    go_ret
    refine ⟨_, rfl, Below.alloc (Below.drew (Below.refl _ _)) (by simp) _, World.ownsRow_made _ _ G (by simp) Hm.out ?_⟩
    rw [Array.size_append, size_zeroCells, size_zeroCells]
    show n * 1 + (G - n) * 1 = G * 1
    omega
theorem und_cell : Tryz.prog.underlying 136 = some (.slice 95) := by kernel_rfl
set_option maxHeartbeats 2000000 in
set_option maxRecDepth 100000 in
theorem grow_cell (n : Nat) (w : World) (hn : n ≤ 1000000) : Calls Tryz.prog 174 #[.slice none 0 0, .int .i64 n] w fun e w' => ∃ r, e = .returned r ∧ Below w.heap.size w w' ∧ w'.ownsRow w.heap.size 95 4 r 0 [] := by
  obtain ⟨i0, hi0, hz0, hz1, hz2⟩ := info_parts info_plane
  by_cases h0 : n = 0
  · subst h0
    go_enter Tryz.func174, Tryz.ntmps174
    go_wp2
    go_ret
    exact ⟨_, rfl, Below.refl _ _, World.ownsRow_nil _ _ _ _⟩
  · have hrz : ∀ ty, (Builtin.append_ #[136, 3] ty #[.slice none 0 0, .int .i64 n]).run Tryz.prog w =
        .ok (.slice (some ⟨w.heap.size, 0, none⟩) n (grownCap w n 0 95)) (w.drew.alloc (.cells (#[] ++ Builtin.zeroCells (v4 (0, 0, 0, 0)).cells n ++ Builtin.zeroCells (v4 (0, 0, 0, 0)).cells (grownCap w n 0 95 - n)) 95)) := fun ty => by
      have h := Lib.run_append_grow_zeros w 136 3 ty 95 i0 (v4 (0, 0, 0, 0)) .i64 .i64 und_cell und_int hi0 hz0 none 0 0 [] (run_firstCells_none w.drew i0.size 0 0 0) n (by omega) (by omega) (by omega) (by omega) (by rw [hz2]; omega) (growslice_fits (by omega) (by rw [hz2]; omega))
      simpa using h
    have hGn : n ≤ grownCap w n 0 95 := grownCap_ge w _ _ _
    have hGm : grownCap w n 0 95 ≤ maxLen := grownCap_le_maxLen w n 0 95 (by unfold maxLen; omega)
    generalize grownCap w n 0 95 = G at *
    have h1 : ¬ ((n : Int) < 0) := by omega
    have h2 : 0 < n := by omega
    have hG63 : G ≤ 9223372036854775807 := by unfold maxLen at hGm; omega
    have Hrz := fun ty => Lib.hid (hrz ty)
    have Hm := Lib.hid hGm
    clear hrz hi0 hz0 hz1 hz2 hGm
    go_enter Tryz.func174, Tryz.ntmps174
    go_wp2_with (at_builtin; refine Lib.wpList_append_run _ rfl _ _ _ _ rfl _ _ rfl rfl _ _ (Hrz _).out ?_)
    go_ret
    refine ⟨_, rfl, Below.alloc (Below.drew (Below.refl _ _)) (by simp) _, World.ownsRow_made _ _ G (by simp) Hm.out ?_⟩
    rw [Array.size_append, size_zeroCells, size_zeroCells]
    show n * 4 + (G - n) * 4 = G * 4
    omega
/-- A slice, nil or not, that holds these cells. -/
def Raw (W : World) (sz : Nat) (v : Value) (cs : List Value) : Prop :=
  ∃ a m c, v = .slice a m c ∧ cs.length = m * sz ∧ (a = none → m = 0 ∧ c = 0) ∧ ∀ ad, a = some ad → ∀ j u, cs[j]? = some u → W.cell? (ad.add j) = some u
theorem Raw.below {W W' : World} {sz : Nat} {v : Value} {cs : List Value} (h : Raw W sz v cs) (hb : Below W.heap.size W W') : Raw W' sz v cs := by
  obtain ⟨a, m, c, hv, hl, hn, hc⟩ := h
  exact ⟨a, m, c, hv, hl, hn, fun ad ha j u hu => below_cell hb (hc ad ha j u hu)⟩
def Parts (W : World) (sz b off : Nat) (css : List (List Value)) : Prop :=
  ∀ i (h : i < css.length), ∃ u, W.cell? ⟨b, off + i, none⟩ = some u ∧ Raw W sz u css[i]
theorem flat_succ {css : List (List Value)} {k : Nat} (h : k < css.length) : (css.take (k + 1)).flatten = (css.take k).flatten ++ css[k] := by
  rw [List.take_succ_eq_append_getElem h, List.flatten_append, List.flatten_singleton]
theorem flat_le (css : List (List Value)) (k : Nat) : (css.take k).flatten.length ≤ css.flatten.length := by
  have : css.flatten = (css.take k).flatten ++ (css.drop k).flatten := by rw [← List.flatten_append, List.take_append_drop]
  rw [this]; simp
set_option maxHeartbeats 2000000 in
set_option maxRecDepth 100000 in
theorem concat_int (w : World) (b off cc : Nat) (css : List (List Value)) (hp : Parts w 1 b off css) (h0 : 0 < css.length) (hcs : css.length ≤ 1000000) (hone : ∀ cs ∈ css, ∀ u ∈ cs, u.oneCell' = true) (hl : css.flatten.length ≤ 1000000) :
    Calls Tryz.prog 100 #[.slice (some ⟨b, off, none⟩) css.length cc] w fun e w' => ∃ r m, e = .returned r ∧ Below w.heap.size w w' ∧ w'.ownsRow w.heap.size 3 1 r m css.flatten := by
  obtain ⟨i0, hi0, hz0, hz1, hz2⟩ := info_parts info_intz
  have Hi0 := Lib.hid (And.intro hi0 (And.intro hz0 (And.intro hz1 hz2)))
  clear hi0 hz0 hz1 hz2
  have HP := Lib.hid hp
  have H1 := Lib.hid hone
  obtain ⟨n, Hn⟩ : ∃ n, Hid (css.length = n) := ⟨_, Lib.hid rfl⟩
  rw [Hn.out] at h0 hcs ⊢
  have Hl := Lib.hid hl
  have zb : b < w.heap.size := by
    obtain ⟨u, hu, _⟩ := hp 0 (by have := Hn.out; omega)
    exact World.block_lt_of_cell? w _ hu
  clear hp hone hl
  go_enter Tryz.func100, Tryz.ntmps100
  go_wp2
  go_loopw [3, 11] (fun s i wr => w = wr ∧ ∃ k T : Nat, k ≤ n ∧ i = .int .i64 k ∧ s = .int .i64 T ∧ Hid (T * 1 = (css.take k).flatten.length)) (fun _ i _ => n - (intOf i).toNat)
  case atStart => exact ⟨rfl, 0, 0, by omega, rfl, rfl, Lib.hid (by simp)⟩
  case round =>
    obtain ⟨rfl, k, T, hk, rfl, rfl, HT⟩ := hrel
    by_cases hlt : k < n
    · have hk' : k < css.length := by have := Hn.out; omega
      obtain ⟨u, cu, a, m, c, rfl, hm, hz, hc⟩ := HP.out k hk'
      have hTm : (T + m) * 1 = (css.take (k + 1)).flatten.length := by rw [flat_succ hk', List.length_append, hm, Nat.add_mul, HT.out]
      have hT9 : T + m ≤ 1000000 := by have := flat_le css (k + 1); have := Hl.out; omega
      have HTm := Lib.hid hTm
      have w1 : IntKind.i64.wrap ((T : Int) + (m : Int)) = ((T + m : Nat) : Int) := (IntWalk.i64_in _ (by omega)).trans (by omega)
      clear hTm hm hz hc hk'
      go_wp2
      go_roundw
      case rel => exact ⟨trivial, k + 1, T + m, by omega, by go_num, rfl, HTm⟩
      case measure => simp [intOf]; omega
    · obtain rfl : n = k := by omega
      have hT9 : T ≤ 1000000 := by have := flat_le css n; have := Hl.out; have := HT.out; omega
      have hg := Lib.hid (grow_int T w hT9)
      go_wp2_with fail
      refine hg.out.mono ?_
      rintro e w1 ⟨r, rfl, hb1, ho1⟩
      have HO1 := Lib.hid ho1
      clear ho1 hg
      go_wp2
      go_loopw [6, 27] (fun s i wr => ∃ k T : Nat, k ≤ n ∧ i = .int .i64 k ∧ Below w.heap.size w wr ∧ Hid (wr.ownsRow w.heap.size 3 1 s T (css.take k).flatten)) (fun _ i _ => n - (intOf i).toNat)
      case atStart => exact ⟨0, 0, by omega, rfl, hb1, HO1⟩
      case round =>
        clear hb1 HO1
        obtain ⟨k, T, hk, rfl, hb, HO⟩ := hrel
        by_cases hlt : k < n
        · have hk' : k < css.length := by have := Hn.out; omega
          obtain ⟨u, cu, a, m, c, rfl, hm, hz, hc⟩ := HP.out k hk'
          have cu' := below_cell hb cu
          have zb' : b < wr.heap.size := World.block_lt_of_cell? wr _ cu'
          have hTm : T * 1 = (css.take k).flatten.length := HO.out.1.symm
          have hT9 : (T + m) * 1 ≤ 1000000 := by have := flat_le css (k + 1); rw [flat_succ hk', List.length_append] at this; have := Hl.out; omega
          have Hs := Lib.hid (flat_succ hk')
          have h1 := Lib.hid (H1.out _ (List.getElem_mem hk'))
          have Hc := Lib.hid hc
          have Hm := Lib.hid hm
          clear hTm hm hc cu
          generalize css[k] = ck at *
          clear hk'
          cases a with
          | none =>
            obtain ⟨rfl, rfl⟩ := hz rfl
            have hnil : ck = [] := List.length_eq_zero_iff.1 (by simpa using Hm.out)
            rw [hnil] at Hs
            clear Hc Hm h1 hz hnil
            go_wp2_with (at_builtin; refine wpList_append_own_none rfl _ _ 23 rfl w.heap.size 3 i0 1 und_ints Hi0.out.1 u6 T _ rfl HO.out rfl ?_)
            go_roundw
            case rel => exact ⟨k + 1, T, by omega, by go_num, hb, Lib.hid (by rw [Hs.out]; simpa using HO.out)⟩
            case measure => simp [intOf]; omega
          | some ad =>
            clear hz
            go_wp2_with (at_builtin; refine wpList_append_own _ rfl _ _ 23 rfl w.heap.size 3 i0 (Value.int .i64 0) 1 8 und_ints Hi0.out.1 Hi0.out.2.1 Hi0.out.2.2.1 Hi0.out.2.2.2 rfl (by decide) u6 T _ rfl HO.out ad m c _ rfl Hm.out ?c1 h1.out ?c3 ?c4 ?c5 ?_)
            case c1 => exact fun j u hu => below_cell hb (Hc.out ad rfl j u hu)
            case c3 => unfold maxLen; omega
            case c4 => omega
            case c5 => exact hb.size
            intro v' w2 hown2 hg2 _
            have hbw2 : Below w.heap.size w w2 := hb.grown hg2 hb.size (fun q hq => (HO.out.lt q hq).1)
            have HO3 := Lib.hid hown2
            clear hown2 hg2
            go_wp2
            go_roundw
            case rel => exact ⟨k + 1, T + m, by omega, by go_num, hbw2, Lib.hid (by rw [Hs.out]; exact HO3.out)⟩
            case measure => simp [intOf]; omega
        · obtain rfl : n = k := by omega
          go_wp2
          go_ret
          exact ⟨_, _, rfl, hb, by have := HO.out; rwa [List.take_of_length_le (by have := Hn.out; omega)] at this⟩
set_option maxHeartbeats 2000000 in
set_option maxRecDepth 100000 in
theorem concat_cell (w : World) (b off cc : Nat) (css : List (List Value)) (hp : Parts w 4 b off css) (h0 : 0 < css.length) (hcs : css.length ≤ 1000000) (hone : ∀ cs ∈ css, ∀ u ∈ cs, u.oneCell' = true) (hl : css.flatten.length ≤ 1000000) :
    Calls Tryz.prog 104 #[.slice (some ⟨b, off, none⟩) css.length cc] w fun e w' => ∃ r m, e = .returned r ∧ Below w.heap.size w w' ∧ w'.ownsRow w.heap.size 95 4 r m css.flatten := by
  obtain ⟨i0, hi0, hz0, hz1, hz2⟩ := info_parts info_plane
  have Hi0 := Lib.hid (And.intro hi0 (And.intro hz0 (And.intro hz1 hz2)))
  clear hi0 hz0 hz1 hz2
  have HP := Lib.hid hp
  have H1 := Lib.hid hone
  obtain ⟨n, Hn⟩ : ∃ n, Hid (css.length = n) := ⟨_, Lib.hid rfl⟩
  rw [Hn.out] at h0 hcs ⊢
  have Hl := Lib.hid hl
  have zb : b < w.heap.size := by
    obtain ⟨u, hu, _⟩ := hp 0 (by have := Hn.out; omega)
    exact World.block_lt_of_cell? w _ hu
  clear hp hone hl
  go_enter Tryz.func104, Tryz.ntmps104
  go_wp2
  go_loopw [3, 11] (fun s i wr => w = wr ∧ ∃ k T : Nat, k ≤ n ∧ i = .int .i64 k ∧ s = .int .i64 T ∧ Hid (T * 4 = (css.take k).flatten.length)) (fun _ i _ => n - (intOf i).toNat)
  case atStart => exact ⟨rfl, 0, 0, by omega, rfl, rfl, Lib.hid (by simp)⟩
  case round =>
    obtain ⟨rfl, k, T, hk, rfl, rfl, HT⟩ := hrel
    by_cases hlt : k < n
    · have hk' : k < css.length := by have := Hn.out; omega
      obtain ⟨u, cu, a, m, c, rfl, hm, hz, hc⟩ := HP.out k hk'
      have hTm : (T + m) * 4 = (css.take (k + 1)).flatten.length := by rw [flat_succ hk', List.length_append, hm, Nat.add_mul, HT.out]
      have hT9 : T + m ≤ 1000000 := by have := flat_le css (k + 1); have := Hl.out; omega
      have HTm := Lib.hid hTm
      have w1 : IntKind.i64.wrap ((T : Int) + (m : Int)) = ((T + m : Nat) : Int) := (IntWalk.i64_in _ (by omega)).trans (by omega)
      clear hTm hm hz hc hk'
      go_wp2
      go_roundw
      case rel => exact ⟨trivial, k + 1, T + m, by omega, by go_num, rfl, HTm⟩
      case measure => simp [intOf]; omega
    · obtain rfl : n = k := by omega
      have hT9 : T ≤ 1000000 := by have := flat_le css n; have := Hl.out; have := HT.out; omega
      have hg := Lib.hid (grow_cell T w hT9)
      go_wp2_with fail
      refine hg.out.mono ?_
      rintro e w1 ⟨r, rfl, hb1, ho1⟩
      have HO1 := Lib.hid ho1
      clear ho1 hg
      go_wp2
      go_loopw [6, 27] (fun s i wr => ∃ k T : Nat, k ≤ n ∧ i = .int .i64 k ∧ Below w.heap.size w wr ∧ Hid (wr.ownsRow w.heap.size 95 4 s T (css.take k).flatten)) (fun _ i _ => n - (intOf i).toNat)
      case atStart => exact ⟨0, 0, by omega, rfl, hb1, HO1⟩
      case round =>
        clear hb1 HO1
        obtain ⟨k, T, hk, rfl, hb, HO⟩ := hrel
        by_cases hlt : k < n
        · have hk' : k < css.length := by have := Hn.out; omega
          obtain ⟨u, cu, a, m, c, rfl, hm, hz, hc⟩ := HP.out k hk'
          have cu' := below_cell hb cu
          have zb' : b < wr.heap.size := World.block_lt_of_cell? wr _ cu'
          have hTm : T * 4 = (css.take k).flatten.length := HO.out.1.symm
          have hT9 : (T + m) * 4 ≤ 1000000 := by have := flat_le css (k + 1); rw [flat_succ hk', List.length_append] at this; have := Hl.out; omega
          have Hs := Lib.hid (flat_succ hk')
          have h1 := Lib.hid (H1.out _ (List.getElem_mem hk'))
          have Hc := Lib.hid hc
          have Hm := Lib.hid hm
          clear hTm hm hc cu
          generalize css[k] = ck at *
          clear hk'
          cases a with
          | none =>
            obtain ⟨rfl, rfl⟩ := hz rfl
            have hnil : ck = [] := List.length_eq_zero_iff.1 (by simpa using Hm.out)
            rw [hnil] at Hs
            clear Hc Hm h1 hz hnil
            go_wp2_with (at_builtin; refine wpList_append_own_none rfl _ _ 136 rfl w.heap.size 95 i0 4 und_cell Hi0.out.1 u6 T _ rfl HO.out rfl ?_)
            go_roundw
            case rel => exact ⟨k + 1, T, by omega, by go_num, hb, Lib.hid (by rw [Hs.out]; simpa using HO.out)⟩
            case measure => simp [intOf]; omega
          | some ad =>
            clear hz
            go_wp2_with (at_builtin; refine wpList_append_own _ rfl _ _ 136 rfl w.heap.size 95 i0 (v4 (0, 0, 0, 0)) 4 32 und_cell Hi0.out.1 Hi0.out.2.1 Hi0.out.2.2.1 Hi0.out.2.2.2 rfl (by decide) u6 T _ rfl HO.out ad m c _ rfl Hm.out ?c1 h1.out ?c3 ?c4 ?c5 ?_)
            case c1 => exact fun j u hu => below_cell hb (Hc.out ad rfl j u hu)
            case c3 => unfold maxLen; omega
            case c4 => omega
            case c5 => exact hb.size
            intro v' w2 hown2 hg2 _
            have hbw2 : Below w.heap.size w w2 := hb.grown hg2 hb.size (fun q hq => (HO.out.lt q hq).1)
            have HO3 := Lib.hid hown2
            clear hown2 hg2
            go_wp2
            go_roundw
            case rel => exact ⟨k + 1, T + m, by omega, by go_num, hbw2, Lib.hid (by rw [Hs.out]; exact HO3.out)⟩
            case measure => simp [intOf]; omega
        · obtain rfl : n = k := by omega
          go_wp2
          go_ret
          exact ⟨_, _, rfl, hb, by have := HO.out; rwa [List.take_of_length_le (by have := Hn.out; omega)] at this⟩
end
/- base.Within; the reference of joints: kinds, members. -/
section
open Go.RowKit Go.Shelf
attribute [local go_sem] Ext.cell Ext.frozen
set_option maxHeartbeats 400000 in
theorem bwithin_any (n lo hi : Int) (w : World) : Calls Tryz.prog 17 #[.int .i64 n, .int .i64 lo, .int .i64 hi] w fun e w' => e = .returned (.bool (decide (lo ≤ n ∧ n ≤ hi))) ∧ w = w' := by
  by_cases h1 : lo ≤ n
  · by_cases h2 : n ≤ hi
    · go_enter Tryz.func17, Tryz.ntmps17
      go_wp2
      go_ret
      exact ⟨ret_bool (by simp [h1, h2]), rfl⟩
    · go_enter Tryz.func17, Tryz.ntmps17
      go_wp2
      go_ret
      exact ⟨ret_bool (by simp [h2]), rfl⟩
  · go_enter Tryz.func17, Tryz.ntmps17
    go_wp2
    go_ret
    exact ⟨ret_bool (by simp; omega), rfl⟩
set_option maxHeartbeats 400000 in
theorem rIsKind_any (k : Int) (w : World) : Calls Tryz.prog 120 #[.int .i64 k] w fun e w' => e = .returned (.bool (decide (0 ≤ k ∧ k ≤ 10))) ∧ w = w' := by
  have h := fun w => Lib.hid (bwithin_any k 0 10 w)
  go_enter Tryz.func120, Tryz.ntmps120
  go_wp2_with fail
  refine ((h _).out).mono ?_
  rintro e w1 ⟨rfl, rfl⟩
  go_wp2
  go_ret
  exact ⟨ret_bool (by simp), rfl⟩
set_option maxHeartbeats 400000 in
theorem rMembers_any (k : Int) (w : World) : Calls Tryz.prog 18 #[.int .i64 k] w fun e w' => e = .returned (.int .i64 (memB k)) ∧ w = w' := by
  by_cases h : k = 10
  · subst h
    go_enter Tryz.func18, Tryz.ntmps18
    go_wp2
    go_ret
    exact ⟨rfl, rfl⟩
  · have h' : (k == 10) = false := by simpa using h
    go_enter Tryz.func18, Tryz.ntmps18
    go_wp2
    go_ret
    exact ⟨ret_int (by simp [memB, h]), rfl⟩
end
end Go.Proofs.YtjglkglaogaenaaGreatDoor
