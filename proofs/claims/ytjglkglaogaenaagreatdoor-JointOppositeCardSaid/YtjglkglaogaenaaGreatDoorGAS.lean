/- texts of mine, merged: F3, F1. -/
import Derived.Test.YtjglkglaogaenaaGreatDoorGAR
import Derived.Test.YtjglkglaogaenaaGreatDoorGE
import Derived.Test.YtjglkglaogaenaaGreatDoorGK
import Derived.Test.YtjglkglaogaenaaGreatDoorGO
/- Lists of ways: SameWays; the reference's Ways. -/
namespace Go.Proofs.YtjglkglaogaenaaGreatDoor
section
open Go.RowKit Go.Shelf
attribute [local go_sem] Ext.cell Ext.frozen
theorem nat_beq1 (m : Nat) : ((m : Int) == 1) = (m == 1) := by
  by_cases h : m = 1
  · subst h; rfl
  · rw [beq_eq_false_iff_ne.2 h]; exact beq_eq_false_iff_ne.2 (by omega)
def enc3 (v : Q3) : List Value := [.int .i64 v.1, .int .i64 v.2.1, .int .i64 v.2.2]
theorem enc3_len (v : Q3) : (enc3 v).length = 3 := rfl
def Q3At (w : World) (b off : Nat) (xs : List Q3) : Prop := ∀ i (h : i < xs.length),
  w.cell? ⟨b, off + i * 3, none⟩ = some (.int .i64 xs[i].1) ∧ w.cell? ⟨b, off + i * 3 + 1, none⟩ = some (.int .i64 xs[i].2.1) ∧ w.cell? ⟨b, off + i * 3 + 2, none⟩ = some (.int .i64 xs[i].2.2)
theorem Q3At.below {w w' : World} {b off : Nat} {xs : List Q3} (h : Q3At w b off xs) (hb : Below w.heap.size w w') : Q3At w' b off xs := fun i hi => ⟨below_cell hb (h i hi).1, below_cell hb (h i hi).2.1, below_cell hb (h i hi).2.2⟩
/-- A slice of structs of three ints that reads as a list. -/
def Q3s (w : World) (v : Value) (xs : List Q3) : Prop :=
  ∃ a n c, v = .slice a n c ∧ xs.length = n ∧ n ≤ c ∧ (0 < n → ∃ b off, a = some ⟨b, off, none⟩ ∧ Q3At w b off xs)
theorem Q3s.below {w w' : World} {v : Value} {xs : List Q3} (h : Q3s w v xs) (hb : Below w.heap.size w w') : Q3s w' v xs := by
  obtain ⟨a, n, c, hv, hn, hc, hx⟩ := h
  exact ⟨a, n, c, hv, hn, hc, fun h0 => by obtain ⟨b, off, ha, hi⟩ := hx h0; exact ⟨b, off, ha, hi.below hb⟩⟩
theorem q3s_own {w : World} {base : Nat} {T : TypeId} {v : Value} {cs : List Q3} (h : w.ownsRow base T 3 v cs.length (cs.flatMap enc3)) : Q3s w v cs := by
  rcases h.2 with ⟨rfl, h0⟩ | ⟨g, cap, cur, rfl, hb, hh, hc, hm, hcs, ht⟩
  · exact ⟨none, 0, 0, rfl, h0, Nat.le_refl _, fun h => absurd h (by omega)⟩
  · refine ⟨some ⟨g, 0, none⟩, cs.length, cap, rfl, rfl, hc, fun _ => ⟨g, 0, rfl, fun i hi => ?_⟩⟩
    have key : ∀ j, j < 3 → w.cell? ⟨g, i * 3 + j, none⟩ = (enc3 cs[i])[j]? := fun j hj => by
      rw [blk_cell hh, ← flat_get enc3 3 enc3_len cs i hi j hj, ← ht, List.getElem?_take_of_lt (by omega), Array.getElem?_toList]
    simp only [Nat.zero_add]
    exact ⟨key 0 (by omega), key 1 (by omega), key 2 (by omega)⟩
theorem q3s_nil (w : World) : Q3s w (.slice none 0 0) [] := ⟨none, 0, 0, rfl, rfl, Nat.le_refl _, fun h => absurd h (by omega)⟩
def vW (v : Q3) : Value := .agg #[.int .i64 v.1, .int .i64 v.2.1, .int .i64 v.2.2]
theorem info_way : (Tryz.prog.info? 69).map (fun i => (i.zero, i.size, i.bytes)) = some (some (vW (0, 0, 0)), 3, 24) := by kernel_rfl
theorem und_ways : Tryz.prog.underlying 54 = some (.slice 69) := by kernel_rfl
theorem IW : ∃ i0, Tryz.prog.info? 69 = some i0 ∧ i0.zero = some (vW (0, 0, 0)) ∧ i0.size = 3 ∧ i0.bytes = 24 := by
  obtain ⟨i0, hi0, hz0, hz1, hz2⟩ := info_parts info_way
  exact ⟨i0, hi0, hz0, hz1, hz2⟩
set_option maxHeartbeats 2000000 in
theorem SameWays_same (v v2 : Value) (xs : List Q3) (W : World) (hx : Q3s W v xs) (hy : Q3s W v2 xs) (hm : xs.length ≤ 1000000) :
    Calls Tryz.prog 33 #[v, v2] W (Ret W (.bool true)) := by
  obtain ⟨a, n, c, rfl, hn, _, hx⟩ := hx
  obtain ⟨a2, n2, c2, rfl, hn2, _, hy⟩ := hy
  obtain rfl : n = n2 := hn.symm.trans hn2
  have HX := Lib.hid hx
  have HY := Lib.hid hy
  clear hx hy hn2
  go_enter Tryz.func33, Tryz.ntmps33
  go_wp2
  go_loopw [5] (fun i wr => ∃ k : Nat, k ≤ n ∧ i = .int .i64 k ∧ Below W.heap.size W wr) (fun i _ => n - (intOf i).toNat)
  case atStart => exact ⟨0, by omega, rfl, Below.refl _ _⟩
  case round =>
    obtain ⟨k, hk, rfl, hb⟩ := hrel
    by_cases hlt : k < n
    · obtain ⟨b, off, rfl, hi⟩ := HX.out (by omega)
      obtain ⟨b2, off2, rfl, hi2⟩ := HY.out (by omega)
      obtain ⟨c0, c1, c2'⟩ := (hi.below hb) k (by omega)
      obtain ⟨d0, d1, d2⟩ := (hi2.below hb) k (by omega)
      generalize xs[k] = x at *
      obtain ⟨x0, x1, x2⟩ := x
      simp only at c0 c1 c2' d0 d1 d2
      have z1 := World.block_lt_of_cell? wr _ c0
      have z2 := World.block_lt_of_cell? wr _ d0
      simp only at z1 z2
      have q1 : (k : Int) < (n : Int) := by omega
      have q2 : (0 : Int) ≤ (k : Int) := by omega
      clear hi hi2 HX HY
      go_wp2
      refine wp_region_quietB (by kernel_rfl) (by kernel_rfl) ?_
      repeat (first | go_big_quiet_step (fail) | quiet_step (fail))
      refine wpQuiet_nil ?_
      rintro _ ⟨u, rfl⟩
      go_wp2
      go_roundw
      case rel => exact ⟨k + 1, by omega, by go_num, below_trans hb u.below⟩
      case measure => simp [intOf]; omega
    · obtain rfl : k = n := by omega
      go_wp2
      go_ret
      exact ⟨rfl, hb⟩
def wdec (m : Nat) : Q3 := (((m / 9 : Nat) : Int) - 1, ((m / 3 % 3 : Nat) : Int) - 1, ((m % 3 : Nat) : Int) - 1)
def wpre (m : Nat) : List Q3 := ((List.range m).map wdec).filter (fun v => decide (v ≠ (0, 0, 0)))
theorem wpre_27 : wpre 27 = ways26 := by decide
theorem wdec_at {i j q : Nat} (hj : j < 3) (hq : q < 3) : wdec (9 * i + 3 * j + q) = ((i : Int) - 1, (j : Int) - 1, (q : Int) - 1) := by
  unfold wdec
  rw [show (9 * i + 3 * j + q) / 9 = i by omega, show (9 * i + 3 * j + q) / 3 % 3 = j by omega, show (9 * i + 3 * j + q) % 3 = q by omega]
theorem wpre_succ (m : Nat) : wpre (m + 1) = wpre m ++ if wdec m ≠ (0, 0, 0) then [wdec m] else [] := by
  simp only [wpre, List.range_succ, List.map_append, List.filter_append]
  congr 1
  by_cases h : wdec m = (0, 0, 0) <;> simp [h]
theorem wpre_len (m : Nat) : (wpre m).length ≤ m := by
  unfold wpre
  exact Nat.le_trans (List.length_filter_le _ _) (by simp)
theorem wpre_lt : ∀ m, m < 27 → wdec m ≠ (0, 0, 0) → (wpre m).length < 26 := by decide
/-- A list of ways that is returned. -/
def RetW (W : World) (xs : List Q3) (e : Ending) (w' : World) : Prop := ∃ r, e = .returned r ∧ Below W.heap.size W w' ∧ w'.ownsRow W.heap.size 69 3 r xs.length (xs.flatMap enc3)
set_option maxRecDepth 100000 in
set_option maxHeartbeats 4000000 in
theorem rWays_any (W : World) : Calls Tryz.prog 82 #[] W (RetW W ways26) := by
  obtain ⟨i0, hi0, hz0, hz1, hz2⟩ := info_parts info_way
  have Hi0 := Lib.hid (And.intro hi0 (And.intro hz0 (And.intro hz1 hz2)))
  clear hi0 hz0 hz1 hz2
  go_enter Tryz.func82, Tryz.ntmps82
  go_wp2
  go_loopw [1, 2] (fun s p wr => ∃ i : Nat, i ≤ 3 ∧ p = .int .i64 ((i : Int) - 1) ∧ Below W.heap.size W wr ∧ Hid (wr.ownsRow W.heap.size 69 3 s (wpre (9 * i)).length ((wpre (9 * i)).flatMap enc3))) (fun _ p _ => (2 - intOf p).toNat)
  case atStart => exact ⟨0, by omega, rfl, Below.refl _ _, Lib.hid (World.ownsRow_nil _ _ _ _)⟩
  case round =>
    obtain ⟨i, hi, rfl, hb, HO⟩ := hrel
    by_cases hi3 : i < 3
    · have t1 : (i : Int) - 1 ≤ 1 := by omega
      go_wp2
      go_loopw [1, 3] (fun s p wr => ∃ j : Nat, j ≤ 3 ∧ p = .int .i64 ((j : Int) - 1) ∧ Below W.heap.size W wr ∧ Hid (wr.ownsRow W.heap.size 69 3 s (wpre (9 * i + 3 * j)).length ((wpre (9 * i + 3 * j)).flatMap enc3))) (fun _ p _ => (2 - intOf p).toNat)
      case atStart => exact ⟨0, by omega, rfl, hb, HO⟩
      case round =>
        clear hb HO
        obtain ⟨j, hj, rfl, hb, HO⟩ := hrel
        by_cases hj3 : j < 3
        · have t2 : (j : Int) - 1 ≤ 1 := by omega
          go_wp2
          go_loopw [1, 4] (fun s p wr => ∃ q : Nat, q ≤ 3 ∧ p = .int .i64 ((q : Int) - 1) ∧ Below W.heap.size W wr ∧ Hid (wr.ownsRow W.heap.size 69 3 s (wpre (9 * i + 3 * j + q)).length ((wpre (9 * i + 3 * j + q)).flatMap enc3))) (fun _ p _ => (2 - intOf p).toNat)
          case atStart => exact ⟨0, by omega, rfl, hb, HO⟩
          case round =>
            clear hb HO
            obtain ⟨q, hq, rfl, hb, HO⟩ := hrel
            by_cases hq3 : q < 3
            · have t3 : (q : Int) - 1 ≤ 1 := by omega
              have Hs := Lib.hid (wpre_succ (9 * i + 3 * j + q))
              have Hd := Lib.hid (wdec_at (i := i) hj3 hq3)
              have Hl := Lib.hid (wpre_len (9 * i + 3 * j + q))
              have hl := Hl.out
              rw [Hd.out] at Hs
              generalize wpre (9 * i + 3 * j + q) = P at *
              clear Hd Hl
              by_cases h0 : ((i : Int) - 1, (j : Int) - 1, (q : Int) - 1) = ((0, 0, 0) : Q3)
              · have Hs' : Hid (wpre (9 * i + 3 * j + q + 1) = P) := Lib.hid (by rw [Hs.out, if_neg (by simpa using h0)]; simp)
                simp only [Prod.mk.injEq] at h0
                obtain ⟨a1, a2, a3⟩ := h0
                have b1 : ((i : Int) - 1 != 0) = false := by simpa using a1
                have b2 : ((j : Int) - 1 != 0) = false := by simpa using a2
                have b3 : ((q : Int) - 1 != 0) = false := by simpa using a3
                clear a1 a2 a3 Hs
                go_wp2
                go_roundw
                case rel => exact ⟨q + 1, by omega, by go_num, hb, Lib.hid (by rw [show 9 * i + 3 * j + (q + 1) = 9 * i + 3 * j + q + 1 by omega, Hs'.out]; exact HO.out)⟩
                case measure => simp [intOf]; omega
              · have Hs' : Hid (wpre (9 * i + 3 * j + q + 1) = P ++ [((i : Int) - 1, (j : Int) - 1, (q : Int) - 1)]) := Lib.hid (by rw [Hs.out, if_pos h0])
                clear Hs
                have hor : ((i : Int) - 1 != 0) = true ∨ ((i : Int) - 1 != 0) = false ∧ ((j : Int) - 1 != 0) = true ∨ ((i : Int) - 1 != 0) = false ∧ ((j : Int) - 1 != 0) = false ∧ ((q : Int) - 1 != 0) = true := by
                  simp only [Prod.mk.injEq] at h0
                  simp only [bne_iff_ne, bne_eq_false_iff_eq]
                  omega
                clear h0
                rcases hor with h1 | ⟨h1, h2⟩ | ⟨h1, h2, h3⟩
                all_goals
                  go_wp2_with (at_builtin; refine wpList_append_own _ rfl _ _ 54 rfl W.heap.size 69 i0 (vW (0, 0, 0)) 3 24 und_ways Hi0.out.1 Hi0.out.2.1 Hi0.out.2.2.1 Hi0.out.2.2.2 rfl (by decide) _ (P.length) _ rfl (HO.out.alloc _) ⟨wr.heap.size, 0, none⟩ 1 1 (enc3 (((i : Int) - 1, (j : Int) - 1, (q : Int) - 1))) rfl rfl ?c1 ?c2 ?c3 ?c4 ?c5 ?_)
                  case c1 =>
                    intro jj uu hu
                    rw [add0, cell_new rfl jj]
                    simpa [enc3] using hu
                  case c2 => intro v hv; simp [enc3] at hv; rcases hv with rfl | rfl | rfl <;> rfl
                  case c3 => unfold maxLen; omega
                  case c4 => omega
                  case c5 => simp; have := hb.size; omega
                  intro v' w2 hown2 hg2 _
                  have hb2 : Below W.heap.size W w2 := (hb.alloc hb.size _).grown hg2 (by simp; have := hb.size; omega) (fun z hz => by have := (HO.out.lt z hz).1; omega)
                  have HO2 := Lib.hid hown2
                  clear hown2 hg2
                  go_wp2
                  go_roundw
                  case rel => exact ⟨q + 1, by omega, by go_num, hb2, Lib.hid (by rw [show 9 * i + 3 * j + (q + 1) = 9 * i + 3 * j + q + 1 by omega, Hs'.out]; simpa using HO2.out)⟩
                  case measure => simp [intOf]; omega
            · obtain rfl : q = 3 := by omega
              have t3 : ¬ ((3 : Nat) : Int) - 1 ≤ 1 := by omega
              go_wp2
              go_roundw
              case rel => exact ⟨j + 1, by omega, by go_num, hb, Lib.hid (by rw [show 9 * i + 3 * (j + 1) = 9 * i + 3 * j + 3 by omega]; exact HO.out)⟩
              case measure => simp [intOf]; omega
        · obtain rfl : j = 3 := by omega
          have t2 : ¬ ((3 : Nat) : Int) - 1 ≤ 1 := by omega
          go_wp2
          go_roundw
          case rel => exact ⟨i + 1, by omega, by go_num, hb, Lib.hid (by rw [show 9 * (i + 1) = 9 * i + 3 * 3 by omega]; exact HO.out)⟩
          case measure => simp [intOf]; omega
    · obtain rfl : i = 3 := by omega
      have t1 : ¬ ((3 : Nat) : Int) - 1 ≤ 1 := by omega
      go_wp2
      go_ret
      exact ⟨_, rfl, hb, by rw [← wpre_27]; exact HO.out⟩
end
/- joint: freeA, opposite; the reference's first. -/
section
open Go.RowKit Go.Shelf
set_option linter.unusedSimpArgs false
attribute [local go_sem] Ext.cell Ext.frozen
theorem opposite_any (x y z : Int) (W : World) (hx : -1 ≤ x ∧ x ≤ 1) (hy : -1 ≤ y ∧ y ≤ 1) (hz : -1 ≤ z ∧ z ≤ 1) : Calls Tryz.prog 142 #[.agg #[.int .i64 x, .int .i64 y, .int .i64 z]] W (Ret W (.agg #[.int .i64 (-x), .int .i64 (-y), .int .i64 (-z)])) := by
  go_enter Tryz.func142, Tryz.ntmps142
  go_wp2
  refine bodyPost_ret (v := .agg #[.int .i64 (-x), .int .i64 (-y), .int .i64 (-z)]) (by simp [results, Tryz.results142, go_sem]) rfl ⟨rfl, ?_⟩
  (repeat (first | exact brf | assumption | refine ble ?_ | refine blx ?_ | refine bla ?_ | refine bls ?_ | refine bld ?_))
set_option maxRecDepth 100000 in
set_option maxHeartbeats 2000000 in
set_option linter.unusedVariables false in
theorem freeA_0 (l w t x y z : Int) (nv : Value) (n : List Int) (W : World) (hn : Ints W nv n) (hx : -1 ≤ x ∧ x ≤ 1) (hy : -1 ≤ y ∧ y ≤ 1) (hz : -1 ≤ z ∧ z ≤ 1)  :
    Calls Tryz.prog 141 #[vJ 0 l w t nv, .agg #[.int .i64 x, .int .i64 y, .int .i64 z]] W (Ret W (.bool (decide (0 ≤ z)))) := by
  unfold vJ
  obtain ⟨a, m, c, rfl, hlen, hcc, hxx⟩ := hn
  clear hlen hcc hxx
  go_enter Tryz.func141, Tryz.ntmps141
  go_wp2
  go_ret
  exact ⟨ret_bool (by simp [nat_beq1]), by (repeat (first | exact brf | assumption | refine ble ?_ | refine blx ?_ | refine bla ?_ | refine bls ?_ | refine bld ?_))⟩
set_option maxRecDepth 100000 in
set_option maxHeartbeats 2000000 in
set_option linter.unusedVariables false in
theorem freeA_1 (l w t x y z : Int) (nv : Value) (n : List Int) (W : World) (hn : Ints W nv n) (hx : -1 ≤ x ∧ x ≤ 1) (hy : -1 ≤ y ∧ y ≤ 1) (hz : -1 ≤ z ∧ z ≤ 1)  :
    Calls Tryz.prog 141 #[vJ 1 l w t nv, .agg #[.int .i64 x, .int .i64 y, .int .i64 z]] W (Ret W (.bool (z == 0))) := by
  unfold vJ
  obtain ⟨a, m, c, rfl, hlen, hcc, hxx⟩ := hn
  clear hlen hcc hxx
  go_enter Tryz.func141, Tryz.ntmps141
  go_wp2
  go_ret
  exact ⟨ret_bool (by simp [nat_beq1]), by (repeat (first | exact brf | assumption | refine ble ?_ | refine blx ?_ | refine bla ?_ | refine bls ?_ | refine bld ?_))⟩
set_option maxRecDepth 100000 in
set_option maxHeartbeats 2000000 in
set_option linter.unusedVariables false in
theorem freeA_2 (l w t x y z : Int) (nv : Value) (n : List Int) (W : World) (hn : Ints W nv n) (hx : -1 ≤ x ∧ x ≤ 1) (hy : -1 ≤ y ∧ y ≤ 1) (hz : -1 ≤ z ∧ z ≤ 1)  :
    Calls Tryz.prog 141 #[vJ 2 l w t nv, .agg #[.int .i64 x, .int .i64 y, .int .i64 z]] W (Ret W (.bool (y == 0 && z == 0))) := by
  unfold vJ
  obtain ⟨a, m, c, rfl, hlen, hcc, hxx⟩ := hn
  clear hlen hcc hxx
  cases h : (y == 0)
  · go_enter Tryz.func141, Tryz.ntmps141
    go_wp2
    go_ret
    exact ⟨ret_bool (by simp [nat_beq1]), by (repeat (first | exact brf | assumption | refine ble ?_ | refine blx ?_ | refine bla ?_ | refine bls ?_ | refine bld ?_))⟩
  · go_enter Tryz.func141, Tryz.ntmps141
    go_wp2
    go_ret
    exact ⟨ret_bool (by simp [nat_beq1]), by (repeat (first | exact brf | assumption | refine ble ?_ | refine blx ?_ | refine bla ?_ | refine bls ?_ | refine bld ?_))⟩
set_option maxRecDepth 100000 in
set_option maxHeartbeats 2000000 in
set_option linter.unusedVariables false in
theorem freeA_4 (l w t x y z : Int) (nv : Value) (n : List Int) (W : World) (hn : Ints W nv n) (hx : -1 ≤ x ∧ x ≤ 1) (hy : -1 ≤ y ∧ y ≤ 1) (hz : -1 ≤ z ∧ z ≤ 1) (hm : 2 ≤ n.length) :
    Calls Tryz.prog 141 #[vJ 4 l w t nv, .agg #[.int .i64 x, .int .i64 y, .int .i64 z]] W (Ret W (.bool (z == 0 && (or (decide (0 ≤ x)) (y != 0 && decide (w ≤ n.getD 1 0)))))) := by
  unfold vJ
  obtain ⟨b, off, c, rfl, hcc, zb, hi⟩ := hn.at' (by omega)
  have zb1 : b < W.heap.size + 1 := by omega
  have zb2 : b < W.heap.size + 1 + 1 := by omega
  have n1 := hi 1 (by omega)
  have q1 : (1 : Int) < (n.length : Int) := by omega
  generalize n.getD 1 0 = a1 at *
  clear hi hn
  generalize n.length = m at *
  cases h1 : (z == 0)
  · go_enter Tryz.func141, Tryz.ntmps141
    go_wp2
    refine wp_region_quietB (by kernel_rfl) (by kernel_rfl) ?_
    repeat (first | go_big_quiet_step (fail) | quiet_step (fail))
    refine wpQuiet_nil ?_
    rintro _ ⟨u, rfl⟩
    go_wp2
    go_ret
    exact ⟨ret_bool (by simp [nat_beq1]), by (repeat (first | exact brf | assumption | refine ble ?_ | refine blx ?_ | refine bla ?_ | refine bls ?_ | refine bld ?_))⟩
  · cases h2 : decide (0 ≤ x)
    · cases h3 : (y != 0)
      · go_enter Tryz.func141, Tryz.ntmps141
        go_wp2
        refine wp_region_quietB (by kernel_rfl) (by kernel_rfl) ?_
        repeat (first | go_big_quiet_step (fail) | quiet_step (fail))
        refine wpQuiet_nil ?_
        rintro _ ⟨u, rfl⟩
        go_wp2
        go_ret
        exact ⟨ret_bool (by simp [nat_beq1]), by (repeat (first | exact brf | assumption | refine ble ?_ | refine blx ?_ | refine bla ?_ | refine bls ?_ | refine bld ?_))⟩
      · go_enter Tryz.func141, Tryz.ntmps141
        go_wp2
        refine wp_region_quietB (by kernel_rfl) (by kernel_rfl) ?_
        repeat (first | go_big_quiet_step (fail) | quiet_step (fail))
        refine wpQuiet_nil ?_
        rintro _ ⟨u, rfl⟩
        go_wp2
        go_ret
        exact ⟨ret_bool (by simp [nat_beq1]), by (repeat (first | exact brf | assumption | refine ble ?_ | refine blx ?_ | refine bla ?_ | refine bls ?_ | refine bld ?_))⟩
    · go_enter Tryz.func141, Tryz.ntmps141
      go_wp2
      refine wp_region_quietB (by kernel_rfl) (by kernel_rfl) ?_
      repeat (first | go_big_quiet_step (fail) | quiet_step (fail))
      refine wpQuiet_nil ?_
      rintro _ ⟨u, rfl⟩
      go_wp2
      go_ret
      exact ⟨ret_bool (by simp [nat_beq1]), by (repeat (first | exact brf | assumption | refine ble ?_ | refine blx ?_ | refine bla ?_ | refine bls ?_ | refine bld ?_))⟩
set_option maxRecDepth 100000 in
set_option maxHeartbeats 2000000 in
set_option linter.unusedVariables false in
theorem freeA_6 (l w t x y z : Int) (nv : Value) (n : List Int) (W : World) (hn : Ints W nv n) (hx : -1 ≤ x ∧ x ≤ 1) (hy : -1 ≤ y ∧ y ≤ 1) (hz : -1 ≤ z ∧ z ≤ 1) (hm : 3 ≤ n.length) (hb : (-100000 ≤ n.getD 1 0 ∧ n.getD 1 0 ≤ 100000) ∧ -100000 ≤ n.getD 2 0 ∧ n.getD 2 0 ≤ 100000) :
    Calls Tryz.prog 141 #[vJ 6 l w t nv, .agg #[.int .i64 x, .int .i64 y, .int .i64 z]] W (Ret W (.bool (decide (0 ≤ n.getD 1 0 * x - n.getD 2 0 * z)))) := by
  unfold vJ
  obtain ⟨b, off, c, rfl, hcc, zb, hi⟩ := hn.at' (by omega)
  have zb1 : b < W.heap.size + 1 := by omega
  have zb2 : b < W.heap.size + 1 + 1 := by omega
  have n1 := hi 1 (by omega)
  have n2 := hi 2 (by omega)
  have q1 : (1 : Int) < (n.length : Int) := by omega
  have q2 : (2 : Int) < (n.length : Int) := by omega
  generalize n.getD 1 0 = a1 at *
  generalize n.getD 2 0 = a2 at *
  clear hi hn
  generalize n.length = m at *
  have m1 := mul_bd (a := a1) (x := x) (A := 100000) (X := 1) (by omega) (by omega) (by omega) (by omega)
  have m2 := mul_bd (a := a2) (x := z) (A := 100000) (X := 1) (by omega) (by omega) (by omega) (by omega)
  obtain ⟨p1, hp1⟩ : ∃ p1, a1 * x = p1 := ⟨_, rfl⟩
  obtain ⟨p2, hp2⟩ : ∃ p2, a2 * z = p2 := ⟨_, rfl⟩
  have w1 : wrap64 (a1 * x) = p1 := by rw [hp1] at m1 ⊢; unfold wrap64; omega
  have w2 : wrap64 (a2 * z) = p2 := by rw [hp2] at m2 ⊢; unfold wrap64; omega
  have w3 : wrap64 (p1 - p2) = p1 - p2 := by rw [hp1] at m1; rw [hp2] at m2; unfold wrap64; omega
  rw [hp1, hp2]
  clear m1 m2 hp1 hp2
  go_enter Tryz.func141, Tryz.ntmps141
  go_wp2
  refine wp_region_quietB (by kernel_rfl) (by kernel_rfl) ?_
  repeat (first | go_big_quiet_step (fail) | quiet_step (fail))
  refine wpQuiet_nil ?_
  rintro _ ⟨u, rfl⟩
  go_wp2
  go_ret
  exact ⟨ret_bool (by first | (simp; done) | (simp [w1, w2, w3]; done) | (simp [w1, w2, w3]; omega)), by (repeat (first | exact brf | assumption | refine ble ?_ | refine blx ?_ | refine bla ?_ | refine bls ?_ | refine bld ?_))⟩
set_option maxRecDepth 100000 in
set_option maxHeartbeats 2000000 in
set_option linter.unusedVariables false in
theorem freeA_7 (l w t x y z : Int) (nv : Value) (n : List Int) (W : World) (hn : Ints W nv n) (hx : -1 ≤ x ∧ x ≤ 1) (hy : -1 ≤ y ∧ y ≤ 1) (hz : -1 ≤ z ∧ z ≤ 1) (hm : n.length ≤ 24) :
    Calls Tryz.prog 141 #[vJ 7 l w t nv, .agg #[.int .i64 x, .int .i64 y, .int .i64 z]] W (Ret W (.bool (or (y == 0) (decide (y < 0) && n.length == 1)))) := by
  unfold vJ
  obtain ⟨a, m, c, rfl, hlen, hcc, hxx⟩ := hn
  rw [hlen] at hm ⊢
  clear hlen hcc hxx
  cases h : (y == 0)
  · cases h2 : decide (y < 0)
    · go_enter Tryz.func141, Tryz.ntmps141
      go_wp2
      go_ret
      exact ⟨ret_bool (by simp [nat_beq1]), by (repeat (first | exact brf | assumption | refine ble ?_ | refine blx ?_ | refine bla ?_ | refine bls ?_ | refine bld ?_))⟩
    · go_enter Tryz.func141, Tryz.ntmps141
      go_wp2
      go_ret
      exact ⟨ret_bool (by simp [nat_beq1]), by (repeat (first | exact brf | assumption | refine ble ?_ | refine blx ?_ | refine bla ?_ | refine bls ?_ | refine bld ?_))⟩
  · go_enter Tryz.func141, Tryz.ntmps141
    go_wp2
    go_ret
    exact ⟨ret_bool (by simp [nat_beq1]), by (repeat (first | exact brf | assumption | refine ble ?_ | refine blx ?_ | refine bla ?_ | refine bls ?_ | refine bld ?_))⟩
set_option maxRecDepth 100000 in
set_option maxHeartbeats 2000000 in
set_option linter.unusedVariables false in
theorem freeA_3 (l w t x y z : Int) (nv : Value) (n : List Int) (W : World) (hn : Ints W nv n) (hx : -1 ≤ x ∧ x ≤ 1) (hy : -1 ≤ y ∧ y ≤ 1) (hz : -1 ≤ z ∧ z ≤ 1)  :
    Calls Tryz.prog 141 #[vJ 3 l w t nv, .agg #[.int .i64 x, .int .i64 y, .int .i64 z]] W (Ret W (.bool (x == 1 && (y == 0 && z == 0)))) := by
  unfold vJ
  obtain ⟨a, m, c, rfl, hlen, hcc, hxx⟩ := hn
  clear hlen hcc hxx
  go_enter Tryz.func141, Tryz.ntmps141
  go_wp2
  all_goals go_ret
  all_goals exact ⟨ret_bool (by simp_all), by (repeat (first | exact brf | assumption | refine ble ?_ | refine blx ?_ | refine bla ?_ | refine bls ?_ | refine bld ?_))⟩
set_option maxRecDepth 100000 in
set_option maxHeartbeats 2000000 in
set_option linter.unusedVariables false in
theorem freeA_8 (l w t x y z : Int) (nv : Value) (n : List Int) (W : World) (hn : Ints W nv n) (hx : -1 ≤ x ∧ x ≤ 1) (hy : -1 ≤ y ∧ y ≤ 1) (hz : -1 ≤ z ∧ z ≤ 1)  :
    Calls Tryz.prog 141 #[vJ 8 l w t nv, .agg #[.int .i64 x, .int .i64 y, .int .i64 z]] W (Ret W (.bool (x == 1 && (y == 0 && z == 0)))) := by
  unfold vJ
  obtain ⟨a, m, c, rfl, hlen, hcc, hxx⟩ := hn
  clear hlen hcc hxx
  go_enter Tryz.func141, Tryz.ntmps141
  go_wp2
  all_goals go_ret
  all_goals exact ⟨ret_bool (by simp_all), by (repeat (first | exact brf | assumption | refine ble ?_ | refine blx ?_ | refine bla ?_ | refine bls ?_ | refine bld ?_))⟩
set_option maxRecDepth 100000 in
set_option maxHeartbeats 2000000 in
set_option linter.unusedVariables false in
theorem freeA_9 (l w t x y z : Int) (nv : Value) (n : List Int) (W : World) (hn : Ints W nv n) (hx : -1 ≤ x ∧ x ≤ 1) (hy : -1 ≤ y ∧ y ≤ 1) (hz : -1 ≤ z ∧ z ≤ 1)  :
    Calls Tryz.prog 141 #[vJ 9 l w t nv, .agg #[.int .i64 x, .int .i64 y, .int .i64 z]] W (Ret W (.bool (x == 1 && (y == -1 && z == 0)))) := by
  unfold vJ
  obtain ⟨a, m, c, rfl, hlen, hcc, hxx⟩ := hn
  clear hlen hcc hxx
  go_enter Tryz.func141, Tryz.ntmps141
  go_wp2
  all_goals go_ret
  all_goals exact ⟨ret_bool (by simp_all), by (repeat (first | exact brf | assumption | refine ble ?_ | refine blx ?_ | refine bla ?_ | refine bls ?_ | refine bld ?_))⟩
set_option maxRecDepth 100000 in
set_option maxHeartbeats 2000000 in
set_option linter.unusedVariables false in
theorem freeA_10 (l w t x y z : Int) (nv : Value) (n : List Int) (W : World) (hn : Ints W nv n) (hx : -1 ≤ x ∧ x ≤ 1) (hy : -1 ≤ y ∧ y ≤ 1) (hz : -1 ≤ z ∧ z ≤ 1)  :
    Calls Tryz.prog 141 #[vJ 10 l w t nv, .agg #[.int .i64 x, .int .i64 y, .int .i64 z]] W (Ret W (.bool (x == 0 && (y == 0 && z == 1)))) := by
  unfold vJ
  obtain ⟨a, m, c, rfl, hlen, hcc, hxx⟩ := hn
  clear hlen hcc hxx
  go_enter Tryz.func141, Tryz.ntmps141
  go_wp2
  all_goals go_ret
  all_goals exact ⟨ret_bool (by simp_all), by (repeat (first | exact brf | assumption | refine ble ?_ | refine blx ?_ | refine bla ?_ | refine bls ?_ | refine bld ?_))⟩
set_option maxRecDepth 100000 in
set_option maxHeartbeats 2000000 in
set_option linter.unusedVariables false in
theorem freeA_5 (l w t x y z : Int) (nv : Value) (n : List Int) (W : World) (hn : Ints W nv n) (hx : -1 ≤ x ∧ x ≤ 1) (hy : -1 ≤ y ∧ y ≤ 1) (hz : -1 ≤ z ∧ z ≤ 1) (hm : 1 ≤ n.length) :
    Calls Tryz.prog 141 #[vJ 5 l w t nv, .agg #[.int .i64 x, .int .i64 y, .int .i64 z]] W (Ret W (.bool (or (y == 0 && decide (x ≤ 0)) (n.getD 0 0 == 1 && x == -1)))) := by
  unfold vJ
  obtain ⟨b, off, c, rfl, hcc, zb, hi⟩ := hn.at' (by omega)
  have zb1 : b < W.heap.size + 1 := by omega
  have zb2 : b < W.heap.size + 1 + 1 := by omega
  have n0 := hi 0 (by omega)
  have q1 : (0 : Int) < (n.length : Int) := by omega
  rw [Nat.add_zero] at n0
  generalize n.getD 0 0 = a0 at *
  clear hi hn
  generalize n.length = m at *
  cases h1 : (y == 0)
  · cases h3 : (a0 == 1)
    · go_enter Tryz.func141, Tryz.ntmps141
      go_wp2
      go_ret
      exact ⟨ret_bool (by simp [nat_beq1]), by (repeat (first | exact brf | assumption | refine ble ?_ | refine blx ?_ | refine bla ?_ | refine bls ?_ | refine bld ?_))⟩
    · go_enter Tryz.func141, Tryz.ntmps141
      go_wp2
      go_ret
      exact ⟨ret_bool (by simp [nat_beq1]), by (repeat (first | exact brf | assumption | refine ble ?_ | refine blx ?_ | refine bla ?_ | refine bls ?_ | refine bld ?_))⟩
  · cases h2 : decide (x ≤ 0)
    · cases h3 : (a0 == 1)
      · go_enter Tryz.func141, Tryz.ntmps141
        go_wp2
        go_ret
        exact ⟨ret_bool (by simp [nat_beq1]), by (repeat (first | exact brf | assumption | refine ble ?_ | refine blx ?_ | refine bla ?_ | refine bls ?_ | refine bld ?_))⟩
      · go_enter Tryz.func141, Tryz.ntmps141
        go_wp2
        go_ret
        exact ⟨ret_bool (by simp [nat_beq1]), by (repeat (first | exact brf | assumption | refine ble ?_ | refine blx ?_ | refine bla ?_ | refine bls ?_ | refine bld ?_))⟩
    · go_enter Tryz.func141, Tryz.ntmps141
      go_wp2
      go_ret
      exact ⟨ret_bool (by simp [nat_beq1]), by (repeat (first | exact brf | assumption | refine ble ?_ | refine blx ?_ | refine bla ?_ | refine bls ?_ | refine bld ?_))⟩
end
end Go.Proofs.YtjglkglaogaenaaGreatDoor
