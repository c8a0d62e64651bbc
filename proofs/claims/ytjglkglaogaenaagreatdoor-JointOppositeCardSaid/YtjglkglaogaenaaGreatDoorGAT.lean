/- texts of mine, merged: F2, F4, F5. -/
import Derived.Test.YtjglkglaogaenaaGreatDoorGAS
import Derived.RangeFuncNested
import Derived.RangeFuncBound
import Derived.RangeFuncCalls
import Derived.RangeFuncLeaves
import Derived.Shelf.Abstract
import Derived.Shelf.RegionOpen
import Derived.OwnWalkIn
import Derived.TacticsInMore
import Derived.LoopNIn
import Derived.LoopIn
import Derived.Test.YtjglkglaogaenaaGreatDoorGJ
import Derived.Test.YtjglkglaogaenaaGreatDoorGS
/- joint: ways, an iterator. -/
namespace Go.Proofs.YtjglkglaogaenaaGreatDoor
section
open Go.RowKit Go.Shelf
attribute [local go_sem] Oper.semAt_some
theorem abide_alloc {β : Type} {B : Nat} {J : β → World → Prop} (h : AbidesFrom B J) {s : β} {W : World} (hs : J s W) (o : Obj) : J s (W.alloc o) :=
  h s W _ none hs (World.grownBy_alloc W o none) (fun r e => by cases e)
theorem abide_drew {β : Type} {B : Nat} {J : β → World → Prop} (h : AbidesFrom B J) {s : β} {W : World} (hs : J s W) : J s W.drew := by
  refine h s W _ none hs ?_ (fun r e => by cases e)
  exact ⟨rfl, rfl, rfl, Nat.le_refl _, fun _ _ _ => rfl⟩
abbrev WayS := { v : Q3 // v ∈ ways26 }
theorem wdec_mem (m : Nat) (hm : m < 27) (h : wdec m ≠ (0, 0, 0)) : wdec m ∈ ways26 := by
  have : ∀ m, m < 27 → wdec m = (0, 0, 0) ∨ wdec m ∈ ways26 := by decide
  exact (this m hm).resolve_left h
set_option maxRecDepth 100000 in
set_option maxHeartbeats 4000000 in
theorem ways_in (l : Nat) (J Jx : List WayS → World → Prop) (W0 : World) (hJa : AbidesFrom W0.heap.size J) (n : Nat) (hn : 1 ≤ n) (n₀ : Nat)
    (hY : ∀ pre x W1, J pre W1 → pre.length < 26 → YieldAt Fence.wide (n - 1) Tryz.prog l #[vW x.1] W1 fun e W' =>
      (e = .returned (.bool true) ∧ J (pre ++ [x]) W' ∧ Below n₀ W1 W') ∨ (e = .returned (.bool false) ∧ Jx (pre ++ [x]) W'))
    (W : World) (h0 : J [] W) :
    CallsIn Fence.wide n Tryz.prog 140 #[.func (.yield l) #[] #[]] W fun e W' => (∃ v, e = .returned v) ∧ ((∃ xs : List WayS, xs.map Subtype.val = ways26 ∧ J xs W') ∨ (∃ pre : List WayS, True ∧ Jx pre W')) := by
  refine callsIn_of_wp Tryz.func140 rfl trivial ?_ rfl
  simp only [Tryz.ntmps140, List.size_toArray, List.length_cons, List.length_nil, Nat.reduceAdd, Nat.reduceSub, Array.replicate_succ, Array.replicate_zero, List.push_toArray, List.append_toArray, List.nil_append, List.cons_append]
  gi_wp2
  gi_loopw [2] (fun p wr => ∃ (i : Nat) (x : Int), i ≤ 3 ∧ p = .int .i64 x ∧ Hid (x = (i : Int) - 1) ∧ ∃ pre : List WayS, Hid (pre.map Subtype.val = wpre (9 * i)) ∧ J pre wr) (fun p _ => (2 - intOf p).toNat)
  case atStart => exact ⟨0, -1, by omega, rfl, Lib.hid (by omega), [], Lib.hid rfl, h0⟩
  case round =>
    obtain ⟨i, x, hi, rfl, Hx, pre, Hp, hJ⟩ := hrel
    by_cases hi3 : i < 3
    · have t1 : x ≤ 1 := by have := Hx.out; omega
      have lx : -1 ≤ x := by have := Hx.out; omega
      gi_wp2
      gi_loopw [3] (fun p wr => ∃ (j : Nat) (y : Int), j ≤ 3 ∧ p = .int .i64 y ∧ Hid (y = (j : Int) - 1) ∧ ∃ pre : List WayS, Hid (pre.map Subtype.val = wpre (9 * i + 3 * j)) ∧ J pre wr) (fun p _ => (2 - intOf p).toNat)
      case atStart => exact ⟨0, -1, by omega, rfl, Lib.hid (by omega), pre, Hp, hJ⟩
      case round =>
        clear hJ Hp pre
        obtain ⟨j, y, hj, rfl, Hy, pre, Hp, hJ⟩ := hrel
        by_cases hj3 : j < 3
        · have t2 : y ≤ 1 := by have := Hy.out; omega
          have ly : -1 ≤ y := by have := Hy.out; omega
          gi_wp2
          gi_loopw [4] (fun p wr => ∃ (q : Nat) (z : Int), q ≤ 3 ∧ p = .int .i64 z ∧ Hid (z = (q : Int) - 1) ∧ ∃ pre : List WayS, Hid (pre.map Subtype.val = wpre (9 * i + 3 * j + q)) ∧ J pre wr) (fun p _ => (2 - intOf p).toNat)
          case atStart => exact ⟨0, -1, by omega, rfl, Lib.hid (by omega), pre, Hp, hJ⟩
          case round =>
            clear hJ Hp pre
            obtain ⟨q, z, hq, rfl, Hz, pre, Hp, hJ⟩ := hrel
            by_cases hq3 : q < 3
            · have t3 : z ≤ 1 := by have := Hz.out; omega
              have lz : -1 ≤ z := by have := Hz.out; omega
              have Hs := Lib.hid (wpre_succ (9 * i + 3 * j + q))
              have Hd := Lib.hid (wdec_at (i := i) hj3 hq3)
              have Hm := Lib.hid (wdec_mem (9 * i + 3 * j + q) (by omega))
              have Hl := Lib.hid (wpre_lt (9 * i + 3 * j + q) (by omega))
              rw [Hd.out, ← Hx.out, ← Hy.out, ← Hz.out] at Hs Hm Hl
              have hpl : pre.length = (wpre (9 * i + 3 * j + q)).length := by rw [← Hp.out]; simp
              by_cases h0 : ((x, y, z) : Q3) = (0, 0, 0)
              · have Hs' : Hid (pre.map Subtype.val = wpre (9 * i + 3 * j + (q + 1))) := Lib.hid (by rw [show 9 * i + 3 * j + (q + 1) = 9 * i + 3 * j + q + 1 by omega, Hs.out, if_neg (by simpa using h0), List.append_nil]; exact Hp.out)
                simp only [Prod.mk.injEq] at h0
                obtain ⟨rfl, rfl, rfl⟩ := h0
                have hJ2 := abide_alloc hJa hJ (.cells #[.int .i64 0, .int .i64 0, .int .i64 0] 69)
                clear Hs Hp Hd Hm Hl hJ
                gi_wp2
                refine ⟨fun _ h => (by cases h), ?_⟩
                gi_wp2
                go_roundw
                case rel => exact ⟨q + 1, 0 + 1, by omega, rfl, Lib.hid (by have := Hz.out; omega), pre, Hs', hJ2⟩
                case measure => first | (simp [intOf]; done) | (simp [intOf]; omega)
              · have hmem := Hm.out h0
                have hlt := Hl.out h0
                have Hs' : Hid ((pre ++ [(⟨(x, y, z), hmem⟩ : WayS)]).map Subtype.val = wpre (9 * i + 3 * j + (q + 1))) := Lib.hid (by
                  rw [show 9 * i + 3 * j + (q + 1) = 9 * i + 3 * j + q + 1 by omega, Hs.out, if_pos h0, List.map_append, Hp.out]; rfl)
                by_cases ex : x = 0
                · subst ex
                  by_cases ey : y = 0
                  · subst ey
                    have ez : ¬ z = 0 := fun e => h0 (by rw [e])
                    obtain ⟨fn, tmps, assign, body, hy, hR⟩ := hY pre ⟨(0, 0, z), hmem⟩ (wr.alloc (.cells #[.int .i64 (0), .int .i64 (0), .int .i64 (z)] 69)) (abide_alloc hJa hJ _) (by omega)
                    dsimp only [vW] at hy
                    clear Hs Hp Hd Hm Hl hJ hY
                    gi_wp2
                    refine hR.mono ?_
                    rintro e W3 (⟨rfl, hJ3, hk3⟩ | ⟨rfl, hJx3⟩)
                    · gi_wp2
                      go_roundw
                      case rel => exact ⟨q + 1, z + 1, by omega, rfl, Lib.hid (by have := Hz.out; omega), _, Hs', hJ3⟩
                      case measure => first | (simp [intOf]; done) | (simp [intOf]; omega)
                    · gi_wp2
                      refine bodyPost_ret (results_none rfl _ _ _) rfl ?_
                      exact ⟨⟨_, rfl⟩, .inr ⟨_, trivial, hJx3⟩⟩
                  · obtain ⟨fn, tmps, assign, body, hy, hR⟩ := hY pre ⟨(0, y, z), hmem⟩ (wr.alloc (.cells #[.int .i64 (0), .int .i64 (y), .int .i64 (z)] 69)) (abide_alloc hJa hJ _) (by omega)
                    dsimp only [vW] at hy
                    clear Hs Hp Hd Hm Hl hJ hY
                    gi_wp2
                    refine hR.mono ?_
                    rintro e W3 (⟨rfl, hJ3, hk3⟩ | ⟨rfl, hJx3⟩)
                    · gi_wp2
                      go_roundw
                      case rel => exact ⟨q + 1, z + 1, by omega, rfl, Lib.hid (by have := Hz.out; omega), _, Hs', hJ3⟩
                      case measure => first | (simp [intOf]; done) | (simp [intOf]; omega)
                    · gi_wp2
                      refine bodyPost_ret (results_none rfl _ _ _) rfl ?_
                      exact ⟨⟨_, rfl⟩, .inr ⟨_, trivial, hJx3⟩⟩
                · obtain ⟨fn, tmps, assign, body, hy, hR⟩ := hY pre ⟨(x, y, z), hmem⟩ (wr.alloc (.cells #[.int .i64 (x), .int .i64 (y), .int .i64 (z)] 69)) (abide_alloc hJa hJ _) (by omega)
                  dsimp only [vW] at hy
                  clear Hs Hp Hd Hm Hl hJ hY
                  gi_wp2
                  refine hR.mono ?_
                  rintro e W3 (⟨rfl, hJ3, hk3⟩ | ⟨rfl, hJx3⟩)
                  · gi_wp2
                    go_roundw
                    case rel => exact ⟨q + 1, z + 1, by omega, rfl, Lib.hid (by have := Hz.out; omega), _, Hs', hJ3⟩
                    case measure => first | (simp [intOf]; done) | (simp [intOf]; omega)
                  · gi_wp2
                    refine bodyPost_ret (results_none rfl _ _ _) rfl ?_
                    exact ⟨⟨_, rfl⟩, .inr ⟨_, trivial, hJx3⟩⟩
            · obtain rfl : q = 3 := by omega
              have t3 : ¬ z ≤ 1 := by have := Hz.out; omega
              gi_wp2
              go_roundw
              case rel => exact ⟨j + 1, y + 1, by omega, rfl, Lib.hid (by have := Hy.out; omega), pre, Lib.hid (by rw [show 9 * i + 3 * (j + 1) = 9 * i + 3 * j + 3 by omega]; exact Hp.out), hJ⟩
              case measure => first | (simp [intOf]; done) | (simp [intOf]; omega)
        · obtain rfl : j = 3 := by omega
          have t2 : ¬ y ≤ 1 := by have := Hy.out; omega
          gi_wp2
          go_roundw
          case rel => exact ⟨i + 1, x + 1, by omega, rfl, Lib.hid (by have := Hx.out; omega), pre, Lib.hid (by rw [show 9 * (i + 1) = 9 * i + 3 * 3 by omega]; exact Hp.out), hJ⟩
          case measure => first | (simp [intOf]; done) | (simp [intOf]; omega)
    · obtain rfl : i = 3 := by omega
      have t1 : ¬ x ≤ 1 := by have := Hx.out; omega
      gi_wp2
      go_end0
      exact ⟨⟨_, rfl⟩, .inl ⟨pre, Hp.out.trans wpre_27, hJ⟩⟩
end
/- The reference's first, IsFree, Free. -/
section
open Go.RowKit Go.Shelf
set_option linter.unusedSimpArgs false
attribute [local go_sem] Ext.cell Ext.frozen
set_option maxRecDepth 100000 in
set_option maxHeartbeats 2000000 in
set_option linter.unusedVariables false in
theorem first_0 (l w t x y z : Int) (nv : Value) (n : List Int) (W : World) (hn : Ints W nv n) (hx : -1 ≤ x ∧ x ≤ 1) (hy : -1 ≤ y ∧ y ≤ 1) (hz : -1 ≤ z ∧ z ≤ 1)  :
    Calls Tryz.prog 143 #[vJ 0 l w t nv, .agg #[.int .i64 x, .int .i64 y, .int .i64 z]] W (Ret W (.bool (decide (0 ≤ z)))) := by
  unfold vJ
  obtain ⟨a, m, c, rfl, hlen, hcc, hxx⟩ := hn
  clear hlen hcc hxx
  go_enter Tryz.func143, Tryz.ntmps143
  go_wp2
  go_ret
  exact ⟨ret_bool (by simp [nat_beq1]), by (repeat (first | exact brf | assumption | refine ble ?_ | refine blx ?_ | refine bla ?_ | refine bls ?_ | refine bld ?_))⟩
set_option maxRecDepth 100000 in
set_option maxHeartbeats 2000000 in
set_option linter.unusedVariables false in
theorem first_1 (l w t x y z : Int) (nv : Value) (n : List Int) (W : World) (hn : Ints W nv n) (hx : -1 ≤ x ∧ x ≤ 1) (hy : -1 ≤ y ∧ y ≤ 1) (hz : -1 ≤ z ∧ z ≤ 1)  :
    Calls Tryz.prog 143 #[vJ 1 l w t nv, .agg #[.int .i64 x, .int .i64 y, .int .i64 z]] W (Ret W (.bool (z == 0))) := by
  unfold vJ
  obtain ⟨a, m, c, rfl, hlen, hcc, hxx⟩ := hn
  clear hlen hcc hxx
  go_enter Tryz.func143, Tryz.ntmps143
  go_wp2
  go_ret
  exact ⟨ret_bool (by simp [nat_beq1]), by (repeat (first | exact brf | assumption | refine ble ?_ | refine blx ?_ | refine bla ?_ | refine bls ?_ | refine bld ?_))⟩
set_option maxRecDepth 100000 in
set_option maxHeartbeats 2000000 in
set_option linter.unusedVariables false in
theorem first_2 (l w t x y z : Int) (nv : Value) (n : List Int) (W : World) (hn : Ints W nv n) (hx : -1 ≤ x ∧ x ≤ 1) (hy : -1 ≤ y ∧ y ≤ 1) (hz : -1 ≤ z ∧ z ≤ 1)  :
    Calls Tryz.prog 143 #[vJ 2 l w t nv, .agg #[.int .i64 x, .int .i64 y, .int .i64 z]] W (Ret W (.bool (y == 0 && z == 0))) := by
  unfold vJ
  obtain ⟨a, m, c, rfl, hlen, hcc, hxx⟩ := hn
  clear hlen hcc hxx
  cases h : (y == 0)
  · go_enter Tryz.func143, Tryz.ntmps143
    go_wp2
    go_ret
    exact ⟨ret_bool (by simp [nat_beq1]), by (repeat (first | exact brf | assumption | refine ble ?_ | refine blx ?_ | refine bla ?_ | refine bls ?_ | refine bld ?_))⟩
  · go_enter Tryz.func143, Tryz.ntmps143
    go_wp2
    go_ret
    exact ⟨ret_bool (by simp [nat_beq1]), by (repeat (first | exact brf | assumption | refine ble ?_ | refine blx ?_ | refine bla ?_ | refine bls ?_ | refine bld ?_))⟩
set_option maxRecDepth 100000 in
set_option maxHeartbeats 2000000 in
set_option linter.unusedVariables false in
theorem first_4 (l w t x y z : Int) (nv : Value) (n : List Int) (W : World) (hn : Ints W nv n) (hx : -1 ≤ x ∧ x ≤ 1) (hy : -1 ≤ y ∧ y ≤ 1) (hz : -1 ≤ z ∧ z ≤ 1) (hm : 2 ≤ n.length) :
    Calls Tryz.prog 143 #[vJ 4 l w t nv, .agg #[.int .i64 x, .int .i64 y, .int .i64 z]] W (Ret W (.bool (z == 0 && (or (decide (0 ≤ x)) (y != 0 && decide (w ≤ n.getD 1 0)))))) := by
  unfold vJ
  obtain ⟨b, off, c, rfl, hcc, zb, hi⟩ := hn.at' (by omega)
  have zb1 : b < W.heap.size + 1 := by omega
  have zb2 : b < W.heap.size + 1 + 1 := by omega
  have n1 := hi 1 (by omega)
  have q1 : (1 : Int) < (n.length : Int) := by omega
  generalize n.getD 1 0 = a1 at *
  clear hi hn
  generalize n.length = m at *
  cases h1 : (z == 0)
  · go_enter Tryz.func143, Tryz.ntmps143
    go_wp2
    refine wp_region_quietB (by kernel_rfl) (by kernel_rfl) ?_
    repeat (first | go_big_quiet_step (fail) | quiet_step (fail))
    refine wpQuiet_nil ?_
    rintro _ ⟨u, rfl⟩
    go_wp2
    go_ret
    exact ⟨ret_bool (by simp [nat_beq1]), by (repeat (first | exact brf | assumption | refine ble ?_ | refine blx ?_ | refine bla ?_ | refine bls ?_ | refine bld ?_))⟩
  · cases h2 : decide (0 ≤ x)
    · cases h3 : (y != 0)
      · go_enter Tryz.func143, Tryz.ntmps143
        go_wp2
        refine wp_region_quietB (by kernel_rfl) (by kernel_rfl) ?_
        repeat (first | go_big_quiet_step (fail) | quiet_step (fail))
        refine wpQuiet_nil ?_
        rintro _ ⟨u, rfl⟩
        go_wp2
        go_ret
        exact ⟨ret_bool (by simp [nat_beq1]), by (repeat (first | exact brf | assumption | refine ble ?_ | refine blx ?_ | refine bla ?_ | refine bls ?_ | refine bld ?_))⟩
      · go_enter Tryz.func143, Tryz.ntmps143
        go_wp2
        refine wp_region_quietB (by kernel_rfl) (by kernel_rfl) ?_
        repeat (first | go_big_quiet_step (fail) | quiet_step (fail))
        refine wpQuiet_nil ?_
        rintro _ ⟨u, rfl⟩
        go_wp2
        go_ret
        exact ⟨ret_bool (by simp [nat_beq1]), by (repeat (first | exact brf | assumption | refine ble ?_ | refine blx ?_ | refine bla ?_ | refine bls ?_ | refine bld ?_))⟩
    · go_enter Tryz.func143, Tryz.ntmps143
      go_wp2
      refine wp_region_quietB (by kernel_rfl) (by kernel_rfl) ?_
      repeat (first | go_big_quiet_step (fail) | quiet_step (fail))
      refine wpQuiet_nil ?_
      rintro _ ⟨u, rfl⟩
      go_wp2
      go_ret
      exact ⟨ret_bool (by simp [nat_beq1]), by (repeat (first | exact brf | assumption | refine ble ?_ | refine blx ?_ | refine bla ?_ | refine bls ?_ | refine bld ?_))⟩
set_option maxRecDepth 100000 in
set_option maxHeartbeats 2000000 in
set_option linter.unusedVariables false in
theorem first_6 (l w t x y z : Int) (nv : Value) (n : List Int) (W : World) (hn : Ints W nv n) (hx : -1 ≤ x ∧ x ≤ 1) (hy : -1 ≤ y ∧ y ≤ 1) (hz : -1 ≤ z ∧ z ≤ 1) (hm : 3 ≤ n.length) (hb : (-100000 ≤ n.getD 1 0 ∧ n.getD 1 0 ≤ 100000) ∧ -100000 ≤ n.getD 2 0 ∧ n.getD 2 0 ≤ 100000) :
    Calls Tryz.prog 143 #[vJ 6 l w t nv, .agg #[.int .i64 x, .int .i64 y, .int .i64 z]] W (Ret W (.bool (decide (0 ≤ n.getD 1 0 * x - n.getD 2 0 * z)))) := by
  unfold vJ
  obtain ⟨b, off, c, rfl, hcc, zb, hi⟩ := hn.at' (by omega)
  have zb1 : b < W.heap.size + 1 := by omega
  have zb2 : b < W.heap.size + 1 + 1 := by omega
  have n1 := hi 1 (by omega)
  have n2 := hi 2 (by omega)
  have q1 : (1 : Int) < (n.length : Int) := by omega
  have q2 : (2 : Int) < (n.length : Int) := by omega
  generalize n.getD 1 0 = a1 at *
  generalize n.getD 2 0 = a2 at *
  clear hi hn
  generalize n.length = m at *
  have m1 := mul_bd (a := a1) (x := x) (A := 100000) (X := 1) (by omega) (by omega) (by omega) (by omega)
  have m2 := mul_bd (a := a2) (x := z) (A := 100000) (X := 1) (by omega) (by omega) (by omega) (by omega)
  obtain ⟨p1, hp1⟩ : ∃ p1, a1 * x = p1 := ⟨_, rfl⟩
  obtain ⟨p2, hp2⟩ : ∃ p2, a2 * z = p2 := ⟨_, rfl⟩
  have w1 : wrap64 (a1 * x) = p1 := by rw [hp1] at m1 ⊢; unfold wrap64; omega
  have w2 : wrap64 (a2 * z) = p2 := by rw [hp2] at m2 ⊢; unfold wrap64; omega
  have w3 : wrap64 (p1 - p2) = p1 - p2 := by rw [hp1] at m1; rw [hp2] at m2; unfold wrap64; omega
  rw [hp1, hp2]
  clear m1 m2 hp1 hp2
  go_enter Tryz.func143, Tryz.ntmps143
  go_wp2
  refine wp_region_quietB (by kernel_rfl) (by kernel_rfl) ?_
  repeat (first | go_big_quiet_step (fail) | quiet_step (fail))
  refine wpQuiet_nil ?_
  rintro _ ⟨u, rfl⟩
  go_wp2
  go_ret
  exact ⟨ret_bool (by first | (simp; done) | (simp [w1, w2, w3]; done) | (simp [w1, w2, w3]; omega)), by (repeat (first | exact brf | assumption | refine ble ?_ | refine blx ?_ | refine bla ?_ | refine bls ?_ | refine bld ?_))⟩
set_option maxRecDepth 100000 in
set_option maxHeartbeats 2000000 in
set_option linter.unusedVariables false in
theorem first_7 (l w t x y z : Int) (nv : Value) (n : List Int) (W : World) (hn : Ints W nv n) (hx : -1 ≤ x ∧ x ≤ 1) (hy : -1 ≤ y ∧ y ≤ 1) (hz : -1 ≤ z ∧ z ≤ 1) (hm : n.length ≤ 24) :
    Calls Tryz.prog 143 #[vJ 7 l w t nv, .agg #[.int .i64 x, .int .i64 y, .int .i64 z]] W (Ret W (.bool (or (y == 0) (decide (y < 0) && n.length == 1)))) := by
  unfold vJ
  obtain ⟨a, m, c, rfl, hlen, hcc, hxx⟩ := hn
  rw [hlen] at hm ⊢
  clear hlen hcc hxx
  cases h : (y == 0)
  · cases h2 : decide (y < 0)
    · go_enter Tryz.func143, Tryz.ntmps143
      go_wp2
      go_ret
      exact ⟨ret_bool (by simp [nat_beq1]), by (repeat (first | exact brf | assumption | refine ble ?_ | refine blx ?_ | refine bla ?_ | refine bls ?_ | refine bld ?_))⟩
    · go_enter Tryz.func143, Tryz.ntmps143
      go_wp2
      go_ret
      exact ⟨ret_bool (by simp [nat_beq1]), by (repeat (first | exact brf | assumption | refine ble ?_ | refine blx ?_ | refine bla ?_ | refine bls ?_ | refine bld ?_))⟩
  · go_enter Tryz.func143, Tryz.ntmps143
    go_wp2
    go_ret
    exact ⟨ret_bool (by simp [nat_beq1]), by (repeat (first | exact brf | assumption | refine ble ?_ | refine blx ?_ | refine bla ?_ | refine bls ?_ | refine bld ?_))⟩
set_option maxRecDepth 100000 in
set_option maxHeartbeats 2000000 in
set_option linter.unusedVariables false in
theorem first_3 (l w t x y z : Int) (nv : Value) (n : List Int) (W : World) (hn : Ints W nv n) (hx : -1 ≤ x ∧ x ≤ 1) (hy : -1 ≤ y ∧ y ≤ 1) (hz : -1 ≤ z ∧ z ≤ 1)  :
    Calls Tryz.prog 143 #[vJ 3 l w t nv, .agg #[.int .i64 x, .int .i64 y, .int .i64 z]] W (Ret W (.bool (x == 1 && (y == 0 && z == 0)))) := by
  unfold vJ
  obtain ⟨a, m, c, rfl, hlen, hcc, hxx⟩ := hn
  clear hlen hcc hxx
  cases h1 : (x == 1)
  · go_enter Tryz.func143, Tryz.ntmps143
    go_wp2
    go_ret
    exact ⟨ret_bool (by simp [nat_beq1]), by (repeat (first | exact brf | assumption | refine ble ?_ | refine blx ?_ | refine bla ?_ | refine bls ?_ | refine bld ?_))⟩
  · cases h2 : (y == 0)
    · go_enter Tryz.func143, Tryz.ntmps143
      go_wp2
      go_ret
      exact ⟨ret_bool (by simp [nat_beq1]), by (repeat (first | exact brf | assumption | refine ble ?_ | refine blx ?_ | refine bla ?_ | refine bls ?_ | refine bld ?_))⟩
    · go_enter Tryz.func143, Tryz.ntmps143
      go_wp2
      go_ret
      exact ⟨ret_bool (by simp [nat_beq1]), by (repeat (first | exact brf | assumption | refine ble ?_ | refine blx ?_ | refine bla ?_ | refine bls ?_ | refine bld ?_))⟩
set_option maxRecDepth 100000 in
set_option maxHeartbeats 2000000 in
set_option linter.unusedVariables false in
theorem first_8 (l w t x y z : Int) (nv : Value) (n : List Int) (W : World) (hn : Ints W nv n) (hx : -1 ≤ x ∧ x ≤ 1) (hy : -1 ≤ y ∧ y ≤ 1) (hz : -1 ≤ z ∧ z ≤ 1)  :
    Calls Tryz.prog 143 #[vJ 8 l w t nv, .agg #[.int .i64 x, .int .i64 y, .int .i64 z]] W (Ret W (.bool (x == 1 && (y == 0 && z == 0)))) := by
  unfold vJ
  obtain ⟨a, m, c, rfl, hlen, hcc, hxx⟩ := hn
  clear hlen hcc hxx
  cases h1 : (x == 1)
  · go_enter Tryz.func143, Tryz.ntmps143
    go_wp2
    go_ret
    exact ⟨ret_bool (by simp [nat_beq1]), by (repeat (first | exact brf | assumption | refine ble ?_ | refine blx ?_ | refine bla ?_ | refine bls ?_ | refine bld ?_))⟩
  · cases h2 : (y == 0)
    · go_enter Tryz.func143, Tryz.ntmps143
      go_wp2
      go_ret
      exact ⟨ret_bool (by simp [nat_beq1]), by (repeat (first | exact brf | assumption | refine ble ?_ | refine blx ?_ | refine bla ?_ | refine bls ?_ | refine bld ?_))⟩
    · go_enter Tryz.func143, Tryz.ntmps143
      go_wp2
      go_ret
      exact ⟨ret_bool (by simp [nat_beq1]), by (repeat (first | exact brf | assumption | refine ble ?_ | refine blx ?_ | refine bla ?_ | refine bls ?_ | refine bld ?_))⟩
set_option maxRecDepth 100000 in
set_option maxHeartbeats 2000000 in
set_option linter.unusedVariables false in
theorem first_9 (l w t x y z : Int) (nv : Value) (n : List Int) (W : World) (hn : Ints W nv n) (hx : -1 ≤ x ∧ x ≤ 1) (hy : -1 ≤ y ∧ y ≤ 1) (hz : -1 ≤ z ∧ z ≤ 1)  :
    Calls Tryz.prog 143 #[vJ 9 l w t nv, .agg #[.int .i64 x, .int .i64 y, .int .i64 z]] W (Ret W (.bool (x == 1 && (y == -1 && z == 0)))) := by
  unfold vJ
  obtain ⟨a, m, c, rfl, hlen, hcc, hxx⟩ := hn
  clear hlen hcc hxx
  cases h1 : (x == 1)
  · go_enter Tryz.func143, Tryz.ntmps143
    go_wp2
    go_ret
    exact ⟨ret_bool (by simp [nat_beq1]), by (repeat (first | exact brf | assumption | refine ble ?_ | refine blx ?_ | refine bla ?_ | refine bls ?_ | refine bld ?_))⟩
  · cases h2 : (y == -1)
    · go_enter Tryz.func143, Tryz.ntmps143
      go_wp2
      go_ret
      exact ⟨ret_bool (by simp [nat_beq1]), by (repeat (first | exact brf | assumption | refine ble ?_ | refine blx ?_ | refine bla ?_ | refine bls ?_ | refine bld ?_))⟩
    · go_enter Tryz.func143, Tryz.ntmps143
      go_wp2
      go_ret
      exact ⟨ret_bool (by simp [nat_beq1]), by (repeat (first | exact brf | assumption | refine ble ?_ | refine blx ?_ | refine bla ?_ | refine bls ?_ | refine bld ?_))⟩
set_option maxRecDepth 100000 in
set_option maxHeartbeats 2000000 in
set_option linter.unusedVariables false in
theorem first_10 (l w t x y z : Int) (nv : Value) (n : List Int) (W : World) (hn : Ints W nv n) (hx : -1 ≤ x ∧ x ≤ 1) (hy : -1 ≤ y ∧ y ≤ 1) (hz : -1 ≤ z ∧ z ≤ 1)  :
    Calls Tryz.prog 143 #[vJ 10 l w t nv, .agg #[.int .i64 x, .int .i64 y, .int .i64 z]] W (Ret W (.bool (x == 0 && (y == 0 && z == 1)))) := by
  unfold vJ
  obtain ⟨a, m, c, rfl, hlen, hcc, hxx⟩ := hn
  clear hlen hcc hxx
  cases h1 : (x == 0)
  · go_enter Tryz.func143, Tryz.ntmps143
    go_wp2
    go_ret
    exact ⟨ret_bool (by simp [nat_beq1]), by (repeat (first | exact brf | assumption | refine ble ?_ | refine blx ?_ | refine bla ?_ | refine bls ?_ | refine bld ?_))⟩
  · cases h2 : (y == 0)
    · go_enter Tryz.func143, Tryz.ntmps143
      go_wp2
      go_ret
      exact ⟨ret_bool (by simp [nat_beq1]), by (repeat (first | exact brf | assumption | refine ble ?_ | refine blx ?_ | refine bla ?_ | refine bls ?_ | refine bld ?_))⟩
    · go_enter Tryz.func143, Tryz.ntmps143
      go_wp2
      go_ret
      exact ⟨ret_bool (by simp [nat_beq1]), by (repeat (first | exact brf | assumption | refine ble ?_ | refine blx ?_ | refine bla ?_ | refine bls ?_ | refine bld ?_))⟩
set_option maxRecDepth 100000 in
set_option maxHeartbeats 2000000 in
set_option linter.unusedVariables false in
theorem first_5 (l w t x y z : Int) (nv : Value) (n : List Int) (W : World) (hn : Ints W nv n) (hx : -1 ≤ x ∧ x ≤ 1) (hy : -1 ≤ y ∧ y ≤ 1) (hz : -1 ≤ z ∧ z ≤ 1) (hm : 1 ≤ n.length) :
    Calls Tryz.prog 143 #[vJ 5 l w t nv, .agg #[.int .i64 x, .int .i64 y, .int .i64 z]] W (Ret W (.bool (or (x == -1 && (or (y == 0) (n.getD 0 0 == 1))) (x == 0 && y == 0)))) := by
  unfold vJ
  obtain ⟨b, off, c, rfl, hcc, zb, hi⟩ := hn.at' (by omega)
  have zb1 : b < W.heap.size + 1 := by omega
  have zb2 : b < W.heap.size + 1 + 1 := by omega
  have n0 := hi 0 (by omega)
  have q1 : (0 : Int) < (n.length : Int) := by omega
  rw [Nat.add_zero] at n0
  generalize n.getD 0 0 = a0 at *
  clear hi hn
  generalize n.length = m at *
  cases h1 : (x == -1)
  · cases h2 : (x == 0)
    · go_enter Tryz.func143, Tryz.ntmps143
      go_wp2
      go_ret
      exact ⟨ret_bool (by simp [nat_beq1]), by (repeat (first | exact brf | assumption | refine ble ?_ | refine blx ?_ | refine bla ?_ | refine bls ?_ | refine bld ?_))⟩
    · go_enter Tryz.func143, Tryz.ntmps143
      go_wp2
      go_ret
      exact ⟨ret_bool (by simp [nat_beq1]), by (repeat (first | exact brf | assumption | refine ble ?_ | refine blx ?_ | refine bla ?_ | refine bls ?_ | refine bld ?_))⟩
  · have h0 : (x == 0) = false := by simp at h1 ⊢; omega
    cases h2 : (y == 0)
    · cases h3 : (a0 == 1)
      · go_enter Tryz.func143, Tryz.ntmps143
        go_wp2
        go_ret
        exact ⟨ret_bool (by simp [nat_beq1]), by (repeat (first | exact brf | assumption | refine ble ?_ | refine blx ?_ | refine bla ?_ | refine bls ?_ | refine bld ?_))⟩
      · go_enter Tryz.func143, Tryz.ntmps143
        go_wp2
        go_ret
        exact ⟨ret_bool (by simp [nat_beq1]), by (repeat (first | exact brf | assumption | refine ble ?_ | refine blx ?_ | refine bla ?_ | refine bls ?_ | refine bld ?_))⟩
    · go_enter Tryz.func143, Tryz.ntmps143
      go_wp2
      go_ret
      exact ⟨ret_bool (by simp [nat_beq1]), by (repeat (first | exact brf | assumption | refine ble ?_ | refine blx ?_ | refine bla ?_ | refine bls ?_ | refine bld ?_))⟩
end
/- The reference's IsFree, Free. -/
section
open Go.RowKit Go.Shelf
attribute [local go_sem] Ext.cell Ext.frozen
theorem neg_mem : ∀ v ∈ ways26, neg3 v ∈ ways26 := by decide
set_option maxRecDepth 100000 in
set_option maxHeartbeats 2000000 in
theorem isFree_any (k l w t m : Int) (nv : Value) (n : List Int) (v : Q3) (W : World) (hn : Ints W nv n) (hv : v ∈ ways26)
    (HF : ∀ v W', v ∈ ways26 → Below W.heap.size W W' → Calls Tryz.prog 143 #[vJ k l w t nv, vW v] W' (Ret W' (.bool (firstB k w n v)))) :
    Calls Tryz.prog 83 #[vJ k l w t nv, .int .i64 m, vW v] W (Ret W (.bool (isFreeB k w n m v))) := by
  obtain ⟨a, q, c, rfl, _, _, _⟩ := hn
  have H1 := fun W' h => Lib.hid (HF v W' hv h)
  have H2 := fun W' h => Lib.hid (HF (neg3 v) W' (neg_mem v hv) h)
  have He : Hid (isFreeB k w n m v = if memB k ≤ m then false else if m = 0 then firstB k w n v else if m = 1 then firstB k w n (neg3 v) else firstB k w n v || firstB k w n (neg3 v)) := Lib.hid rfl
  generalize firstB k w n v = b1 at *
  generalize firstB k w n (neg3 v) = b2 at *
  generalize isFreeB k w n m v = r at *
  have HM := fun W' => Lib.hid (rMembers_any k W')
  generalize memB k = mk at *
  obtain ⟨g1, g2, g3, _⟩ := ways_bd v hv
  obtain ⟨x, y, z⟩ := v
  simp only at g1 g2 g3
  unfold vJ vW neg3 at *
  simp only at H1 H2
  obtain ⟨V, HV⟩ : ∃ V, Hid (((W.alloc (.cells #[.int .i64 k, .int .i64 l, .int .i64 w, .int .i64 t, .slice a q c] 25)).alloc (.cells #[.int .i64 x, .int .i64 y, .int .i64 z] 69)).alloc (.cells #[.int .i64 (-x), .int .i64 (-y), .int .i64 (-z)] 69) = V) := ⟨_, Lib.hid rfl⟩
  have hV : Below W.heap.size W V := by rw [← HV.out]; (repeat (first | exact brf | assumption | refine ble ?_ | refine blx ?_ | refine bla ?_ | refine bls ?_ | refine bld ?_))
  have HJ : Hid (V.heap[W.heap.size]? = some (.cells #[.int .i64 k, .int .i64 l, .int .i64 w, .int .i64 t, .slice a q c] 25 (0, 0))) := Lib.hid (by rw [← HV.out]; exact (heap_old (by simp; omega)).trans ((heap_old (by simp)).trans (heap_new rfl)))
  have HW : Hid (V.heap[W.heap.size + 1]? = some (.cells #[.int .i64 x, .int .i64 y, .int .i64 z] 69 (0, 0))) := Lib.hid (by rw [← HV.out]; exact (heap_old (by simp)).trans (heap_new (by simp)))
  have HB : Hid (V.heap[W.heap.size + 2]? = some (.cells #[.int .i64 (-x), .int .i64 (-y), .int .i64 (-z)] 69 (0, 0))) := Lib.hid (by rw [← HV.out]; exact heap_new (by simp))
  clear HF hv
  have lay : ∀ w1, Below V.heap.size V w1 →
      (w1.cell? ⟨W.heap.size, 0, none⟩ = some (.int .i64 k) ∧ w1.cell? ⟨W.heap.size, 1, none⟩ = some (.int .i64 l) ∧ w1.cell? ⟨W.heap.size, 2, none⟩ = some (.int .i64 w) ∧ w1.cell? ⟨W.heap.size, 3, none⟩ = some (.int .i64 t) ∧ w1.cell? ⟨W.heap.size, 4, none⟩ = some (.slice a q c)) ∧
      (w1.cell? ⟨W.heap.size + 1, 0, none⟩ = some (.int .i64 x) ∧ w1.cell? ⟨W.heap.size + 1, 1, none⟩ = some (.int .i64 y) ∧ w1.cell? ⟨W.heap.size + 1, 2, none⟩ = some (.int .i64 z)) ∧
      (w1.cell? ⟨W.heap.size + 2, 0, none⟩ = some (.int .i64 (-x)) ∧ w1.cell? ⟨W.heap.size + 2, 1, none⟩ = some (.int .i64 (-y)) ∧ w1.cell? ⟨W.heap.size + 2, 2, none⟩ = some (.int .i64 (-z))) := fun w1 hb => by
    have h1 := (hb.block _ (blk_lt HJ.out)).trans HJ.out
    have h2 := (hb.block _ (blk_lt HW.out)).trans HW.out
    have h3 := (hb.block _ (blk_lt HB.out)).trans HB.out
    exact ⟨⟨(blk_cell h1 0).trans rfl, (blk_cell h1 1).trans rfl, (blk_cell h1 2).trans rfl, (blk_cell h1 3).trans rfl, (blk_cell h1 4).trans rfl⟩, ⟨(blk_cell h2 0).trans rfl, (blk_cell h2 1).trans rfl, (blk_cell h2 2).trans rfl⟩, (blk_cell h3 0).trans rfl, (blk_cell h3 1).trans rfl, (blk_cell h3 2).trans rfl⟩
  have Hlay := Lib.hid lay
  clear lay HJ HW HB
  obtain ⟨⟨j0, j1, j2, j3, j4⟩, ⟨x0, x1, x2⟩, y0, y1, y2⟩ := Hlay.out V (Below.refl _ _)
  by_cases hm : mk ≤ m
  · have e1 : r = false := by rw [He.out, if_pos hm]
    clear He
    go_enter Tryz.func83, Tryz.ntmps83
    go_wp2_with fail
    rw [HV.out]
    refine ((HM _).out).mono ?_
    rintro e w1 ⟨rfl, rfl⟩
    go_wp2
    go_ret
    exact ⟨ret_bool e1.symm, hV⟩
  · rw [if_neg hm] at He
    by_cases h0 : m = 0
    · have e1 : r = b1 := by rw [He.out, if_pos h0]
      clear He
      subst h0
      go_enter Tryz.func83, Tryz.ntmps83
      go_wp2_with fail
      rw [HV.out]
      refine ((HM _).out).mono ?_
      rintro e w1 ⟨rfl, rfl⟩
      go_wp2_with fail
      refine ((H1 _ hV).out).mono ?_
      rintro e w1 ⟨rfl, hb1⟩
      go_wp2
      go_ret
      exact ⟨ret_bool e1.symm, below_trans hV hb1⟩
    · rw [if_neg h0] at He
      by_cases h1 : m = 1
      · have e1 : r = b2 := by rw [He.out, if_pos h1]
        clear He
        subst h1
        go_enter Tryz.func83, Tryz.ntmps83
        go_wp2_with fail
        rw [HV.out]
        refine ((HM _).out).mono ?_
        rintro e w1 ⟨rfl, rfl⟩
        go_wp2_with fail
        refine ((H2 _ hV).out).mono ?_
        rintro e w1 ⟨rfl, hb1⟩
        go_wp2
        go_ret
        exact ⟨ret_bool e1.symm, below_trans hV hb1⟩
      · rw [if_neg h1] at He
        cases b1 with
        | true =>
          have e1 : r = true := by rw [He.out]; rfl
          clear He
          go_enter Tryz.func83, Tryz.ntmps83
          go_wp2_with fail
          rw [HV.out]
          refine ((HM _).out).mono ?_
          rintro e w1 ⟨rfl, rfl⟩
          go_wp2_with fail
          refine ((H1 _ hV).out).mono ?_
          rintro e w1 ⟨rfl, hb1⟩
          go_wp2
          go_ret
          exact ⟨ret_bool e1.symm, below_trans hV hb1⟩
        | false =>
          have e1 : r = b2 := by rw [He.out]; simp
          clear He
          go_enter Tryz.func83, Tryz.ntmps83
          go_wp2_with fail
          rw [HV.out]
          refine ((HM _).out).mono ?_
          rintro e w1 ⟨rfl, rfl⟩
          go_wp2_with fail
          refine ((H1 _ hV).out).mono ?_
          rintro e w1 ⟨rfl, hb1⟩
          clear j0 j1 j2 j3 j4 x0 x1 x2 y0 y1 y2
          obtain ⟨⟨j0, j1, j2, j3, j4⟩, ⟨x0, x1, x2⟩, y0, y1, y2⟩ := Hlay.out w1 hb1
          have z1 := World.block_lt_of_cell? w1 _ j0
          have z2 := World.block_lt_of_cell? w1 _ y0
          simp only at z1 z2
          go_wp2_with fail
          refine ((H2 _ (below_trans hV hb1)).out).mono ?_
          rintro e w2 ⟨rfl, hb2⟩
          go_wp2
          go_ret
          exact ⟨ret_bool e1.symm, below_trans hV (below_trans hb1 hb2)⟩
theorem filt_snoc {α : Type} (p : α → Bool) (xs : List α) (k : Nat) (h : k < xs.length) : (xs.take (k + 1)).filter p = (xs.take k).filter p ++ if p xs[k] then [xs[k]] else [] := by
  rw [List.take_succ_eq_append_getElem h, List.filter_append]
  congr 1
  cases hp : p xs[k] <;> simp [hp]
set_option maxRecDepth 100000 in
set_option maxHeartbeats 2000000 in
theorem rFree_any (k l w t m : Int) (nv : Value) (n : List Int) (W : World) (hn : Ints W nv n)
    (HI : ∀ v W', v ∈ ways26 → Below W.heap.size W W' → Calls Tryz.prog 83 #[vJ k l w t nv, .int .i64 m, vW v] W' (Ret W' (.bool (isFreeB k w n m v)))) :
    Calls Tryz.prog 34 #[vJ k l w t nv, .int .i64 m] W (RetW W (ways26.filter (isFreeB k w n m))) := by
  obtain ⟨i0, hi0, hz0, hz1, hz2⟩ := info_parts info_way
  have Hi0 := Lib.hid (And.intro hi0 (And.intro hz0 (And.intro hz1 hz2)))
  clear hi0 hz0 hz1 hz2
  obtain ⟨a, q, c, rfl, _, _, _⟩ := hn
  generalize isFreeB k w n m = fB at *
  have HI' := fun v hv W' h => Lib.hid (HI v W' hv h)
  have Hs := fun i h => Lib.hid (filt_snoc fB ways26 i h)
  have Hmem := Lib.hid (fun i (h : i < ways26.length) => List.getElem_mem h)
  have Hlen : Hid (ways26.length = 26) := Lib.hid rfl
  have hrw := fun W' => Lib.hid (rWays_any W')
  generalize ways26 = ws at *
  clear HI
  unfold vJ at *
  obtain ⟨V, HV⟩ : ∃ V, Hid (W.alloc (.cells #[.int .i64 k, .int .i64 l, .int .i64 w, .int .i64 t, .slice a q c] 25) = V) := ⟨_, Lib.hid rfl⟩
  have hV : Below W.heap.size W V := by rw [← HV.out]; (repeat (first | exact brf | assumption | refine ble ?_ | refine blx ?_ | refine bla ?_ | refine bls ?_ | refine bld ?_))
  have HJ : Hid (V.heap[W.heap.size]? = some (.cells #[.int .i64 k, .int .i64 l, .int .i64 w, .int .i64 t, .slice a q c] 25 (0, 0))) := Lib.hid (by rw [← HV.out]; exact heap_new rfl)
  go_enter Tryz.func34, Tryz.ntmps34
  go_wp2_with fail
  rw [HV.out]
  refine ((hrw _).out).mono ?_
  rintro e w1 ⟨r, rfl, hb1, ho⟩
  obtain ⟨ra, rn, rc, rfl, hrl, _, hrx⟩ := q3s_own ho
  have HX := Lib.hid hrx
  have hrn : rn = 26 := by have := Hlen.out; omega
  have hj1 : Hid (w1.heap[W.heap.size]? = some (.cells #[.int .i64 k, .int .i64 l, .int .i64 w, .int .i64 t, .slice a q c] 25 (0, 0))) := Lib.hid ((hb1.block _ (blk_lt HJ.out)).trans HJ.out)
  have hw1 := below_trans hV hb1
  clear ho hrx hb1 HJ hrw
  go_wp2
  go_loopw [6, 7] (fun s i wr => ∃ j : Nat, j ≤ rn ∧ i = .int .i64 j ∧ Below w1.heap.size w1 wr ∧ Hid (wr.ownsRow w1.heap.size 69 3 s ((ws.take j).filter fB).length (((ws.take j).filter fB).flatMap enc3))) (fun _ i _ => rn - (intOf i).toNat)
  case atStart => exact ⟨0, by omega, rfl, Below.refl _ _, Lib.hid (World.ownsRow_nil _ _ _ _)⟩
  case round =>
    obtain ⟨j, hj, rfl, hb, HO⟩ := hrel
    by_cases hlt : j < rn
    · have hjl : j < ws.length := by omega
      have Hsn := Lib.hid ((Hs j hjl).out)
      have hmem := Hmem.out j hjl
      obtain ⟨b, off, rfl, hi⟩ := HX.out (by omega)
      obtain ⟨c0, c1, c2⟩ := (hi.below hb) j hjl
      have hfl : ((ws.take j).filter fB).length ≤ 26 := Nat.le_trans (List.length_filter_le _ _) (by simp; omega)
      generalize ws[j] = x at *
      have HJw : Hid (wr.heap[W.heap.size]? = _) := Lib.hid ((hb.block _ (blk_lt hj1.out)).trans hj1.out)
      have j0 := (blk_cell HJw.out 0).trans rfl
      have j1 := (blk_cell HJw.out 1).trans rfl
      have j2 := (blk_cell HJw.out 2).trans rfl
      have j3 := (blk_cell HJw.out 3).trans rfl
      have j4 := (blk_cell HJw.out 4).trans rfl
      simp only [List.getElem?_toArray, List.getElem?_cons_zero, List.getElem?_cons_succ] at j0 j1 j2 j3 j4
      have zj := blk_lt HJw.out
      have z1 := World.block_lt_of_cell? wr _ c0
      simp only at z1
      have q1 : (j : Int) < (rn : Int) := by omega
      have q2 : (0 : Int) ≤ (j : Int) := by omega
      have hww := below_trans hw1 hb
      have HC := fun W' h => Lib.hid ((HI' x hmem W' h).out)
      obtain ⟨x0, x1, x2⟩ := x
      simp only [vW] at HC c0 c1 c2
      generalize (ws.take j).filter fB = P at *
      clear hi HI' HX Hmem Hs
      cases hfx : fB (x0, x1, x2) with
      | true =>
        rw [hfx] at HC
        have Hsn' : Hid (List.filter fB (List.take (j + 1) ws) = P ++ [(x0, x1, x2)]) := Lib.hid (by rw [Hsn.out, if_pos hfx])
        clear Hsn hfx
        go_wp2
        refine wp_region_quietB (by kernel_rfl) (by kernel_rfl) ?_
        repeat (first | go_big_quiet_step ((go_at_call 83; exact quietB_ret ((HC _ (below_trans hww (Ext.below _))).out))) | quiet_step ((go_at_call 83; exact quietB_ret ((HC _ (below_trans hww (Ext.below _))).out))))
        refine wpQuiet_nil ?_
        rintro _ ⟨u, rfl⟩
        have d0 := (u.cell (a := ⟨b, off + j * 3, none⟩) z1).trans c0
        have d1 := (u.cell (a := ⟨b, off + j * 3 + 1, none⟩) z1).trans c1
        have d2 := (u.cell (a := ⟨b, off + j * 3 + 2, none⟩) z1).trans c2
        have zu := Nat.lt_of_lt_of_le z1 u.size
        have hbu : Below w1.heap.size w1 u.val := below_trans hb u.below
        have HOu := Lib.hid (own_below HO.out u.below)
        clear HO c0 c1 c2 j0 j1 j2 j3 j4 HC
        generalize u.val = wu at *
        go_wp2_with (at_builtin; refine wpList_append_own _ rfl _ _ 54 rfl w1.heap.size 69 i0 (vW (0, 0, 0)) 3 24 und_ways Hi0.out.1 Hi0.out.2.1 Hi0.out.2.2.1 Hi0.out.2.2.2 rfl (by decide) _ (P.length) _ rfl (HOu.out.alloc _) ⟨wu.heap.size, 0, none⟩ 1 1 (enc3 ((x0, x1, x2))) rfl rfl ?c1 ?c2 ?c3 ?c4 ?c5 ?_)
        case c1 =>
          intro jj uu hu
          rw [add0, cell_new rfl jj]
          simpa [enc3] using hu
        case c2 => intro v hv; simp [enc3] at hv; rcases hv with rfl | rfl | rfl <;> rfl
        case c3 => unfold maxLen; omega
        case c4 => omega
        case c5 => simp; have := hbu.size; omega
        intro v' w2 hown2 hg2 _
        have hb2 : Below w1.heap.size w1 w2 := (hbu.alloc hbu.size _).grown hg2 (by simp; have := hbu.size; omega) (fun z hz => by have := (HOu.out.lt z hz).1; omega)
        have HO2 := Lib.hid hown2
        clear hown2 hg2
        go_wp2
        go_roundw
        case rel => exact ⟨j + 1, by omega, by go_num, hb2, Lib.hid (by rw [Hsn'.out]; simpa using HO2.out)⟩
        case measure => simp [intOf]; omega
      | false =>
        rw [hfx] at HC
        have Hsn' : Hid (List.filter fB (List.take (j + 1) ws) = P) := Lib.hid (by rw [Hsn.out, if_neg (by simp [hfx])]; simp)
        clear Hsn hfx
        go_wp2
        refine wp_region_quietB (by kernel_rfl) (by kernel_rfl) ?_
        repeat (first | go_big_quiet_step ((go_at_call 83; exact quietB_ret ((HC _ (below_trans hww (Ext.below _))).out))) | quiet_step ((go_at_call 83; exact quietB_ret ((HC _ (below_trans hww (Ext.below _))).out))))
        refine wpQuiet_nil ?_
        rintro _ ⟨u, rfl⟩
        go_wp2
        go_roundw
        case rel => exact ⟨j + 1, by omega, by go_num, below_trans hb u.below, Lib.hid (by rw [Hsn'.out]; exact own_below HO.out u.below)⟩
        case measure => simp [intOf]; omega
    · obtain rfl : j = rn := by omega
      have Ht : Hid (ws.take j = ws) := Lib.hid (List.take_of_length_le (by omega))
      go_wp2
      go_ret
      exact ⟨_, rfl, below_trans hw1 hb, own_mono (by rw [← Ht.out]; exact HO.out) hw1.size⟩
end
end Go.Proofs.YtjglkglaogaenaaGreatDoor
