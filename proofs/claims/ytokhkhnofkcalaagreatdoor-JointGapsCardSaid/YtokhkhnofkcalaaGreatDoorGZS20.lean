/- texts: C2 C3 C5 C4. -/
import Derived.Test.YtokhkhnofkcalaaGreatDoorGZS19
namespace Go.Proofs.YtokhkhnofkcalaaGreatDoor
set_option maxHeartbeats 8000000
set_option linter.unusedSimpArgs false
set_option linter.unusedVariables false
section
open Go.RowKit Go.Shelf
attribute [local go_sem] Ext.cell Ext.frozen
def NilV (v : Value) : Prop := ∀ m c, v = .slice none m c → m = 0 ∧ c = 0
theorem addO (b o j : Nat) : (⟨b, o, none⟩ : Addr).add j = ⟨b, o + j, none⟩ := by
 unfold Addr.add
 split
 ·rename_i h; subst h; rfl
 ·rfl
theorem ints_own {w : World} {base : Nat} {T : TypeId} {v : Value} {xs : List Int} (h : w.ownsRow base T 1 v xs.length (xs.map (Value.int .i64))) : Ints w v xs := by
 rcases h.2 with ⟨rfl, h0⟩ | ⟨g, cap, cur, rfl, hb, hh, hc, hm, hcs, ht⟩
 ·exact ⟨none, 0, 0, rfl, h0, Nat.le_refl _, fun h => absurd h (by omega)⟩
 ·refine ⟨some ⟨g, 0, none⟩, xs.length, cap, rfl, rfl, hc, fun _ => ⟨g, 0, rfl, fun i hi => ?_⟩⟩
  rw [Nat.zero_add, blk_cell hh]
  have h2 : (cur.toList.take (xs.length * 1))[i]? = some (Value.int .i64 xs[i]) := by rw [ht]; simp [hi]
  rw [List.getElem?_take_of_lt (by omega)] at h2
  simpa using h2
set_option maxRecDepth 100000 in
theorem CopyInts_any (v : Value) (xs : List Int) (W : World) (hx : Ints W v xs) (hnil : NilV v) (hm : xs.length * 8 ≤ 140737488355328) :
  Calls Tryz.prog 32 #[v] W fun e w' => ∃ r, e = .returned r ∧ Below W.heap.size W w' ∧ w'.ownsRow W.heap.size 3 1 r xs.length (xs.map (Value.int .i64)) := by
 obtain ⟨i0, hi0, hz0, hz1, hz2⟩ := info_parts info_intz
 have Hi0 := Lib.hid (And.intro hi0 (And.intro hz0 (And.intro hz1 hz2)))
 clear hi0 hz0 hz1 hz2
 obtain ⟨a, m, c, rfl, hl, hc, hx⟩ := hx
 have hmade : (W.alloc (.cells #[] 3)).ownsRow W.heap.size 3 1 (.slice (some ⟨W.heap.size, 0, none⟩) 0 0) 0 [] := World.ownsRow_made W #[] 0 (Nat.le_refl _) (Nat.zero_le _) rfl
 have Hm := Lib.hid hmade
 clear hmade
 cases a with
 | none =>
  obtain ⟨rfl, rfl⟩ := hnil m c rfl
  obtain rfl : xs = [] := List.length_eq_zero_iff.1 hl
  clear hx hnil hl
  go_enter Tryz.func32, Tryz.ntmps32
  go_wp2_with (at_builtin; refine wpList_append_own_none rfl _ _ 23 rfl W.heap.size 3 i0 1 und_ints Hi0.out.1 _ 0 [] rfl Hm.out rfl ?_)
  go_ret
  exact ⟨_, rfl, bel, Hm.out⟩
 | some ad =>
  have HN : Hid (∀ j u, (xs.map (Value.int .i64))[j]? = some u → (W.alloc (.cells #[] 3)).cell? (ad.add j) = some u) := Lib.hid (fun j u hu => by
   have hj : j < xs.length := by
    have := (List.getElem?_eq_some_iff.1 hu).1
    simpa using this
   obtain ⟨b, off, e, hi⟩ := hx (by omega)
   cases e
   rw [addO]
   refine below_cell (show Below W.heap.size W _ from bel) ?_
   rw [hi j hj]
   simpa [hj] using hu)
  clear hx hnil
  go_enter Tryz.func32, Tryz.ntmps32
  go_wp2_with (at_builtin; refine wpList_append_own _ rfl _ _ 23 rfl W.heap.size 3 i0 (.int .i64 0) 1 8 und_ints Hi0.out.1 Hi0.out.2.1 Hi0.out.2.2.1 Hi0.out.2.2.2 rfl (by decide) _ 0 [] rfl Hm.out ad m c (xs.map (Value.int .i64)) rfl ?c0 HN.out ?c2 ?c3 ?c4 ?c5 ?_)
  case c0 => simp [hl]
  case c2 => intro u hu; simp at hu; obtain ⟨_, _, rfl⟩ := hu; rfl
  case c3 => unfold maxLen; omega
  case c4 => omega
  case c5 => simp
  intro v' w2 hown2 hg2 _
  have hb2 : Below W.heap.size W w2 := Below.grown (show Below W.heap.size W (W.alloc (.cells #[] 3)) from bel) hg2 (by simp) (fun q hq => (Hm.out.lt q hq).1)
  have HO := Lib.hid hown2
  clear hown2 hg2
  go_wp2
  go_ret
  exact ⟨_, rfl, hb2, by have := HO.out; simpa [hl] using this⟩
set_option maxRecDepth 100000 in
theorem copied_any (k l w t : Int) (nv : Value) (n : List Int) (W : World) (hn : Ints W nv n) (hnil : NilV nv) (hm : n.length * 8 ≤ 140737488355328) :
  Calls Tryz.prog 9 #[vJ k l w t nv] W fun e w' => ∃ r, e = .returned (vJ k l w t r) ∧ Below W.heap.size W w' ∧ w'.ownsRow W.heap.size 3 1 r n.length (n.map (Value.int .i64)) := by
 have HC := fun W' h => Lib.hid (CopyInts_any nv n W' (hn.below (w' := W') h) hnil hm)
 unfold vJ
 obtain ⟨a, m, c, rfl, hl, hc, hx⟩ := hn
 clear hx hnil hl
 go_enter Tryz.func9, Tryz.ntmps9
 go_wp2_with fail
 refine ((HC _ bel).out).mono ?_
 rintro e w1 ⟨r, rfl, hb1, ho⟩
 have HO := Lib.hid ho
 obtain ⟨ra, rc, rfl⟩ : ∃ ra rc, r = .slice ra n.length rc := by
  rcases ho.2 with ⟨rfl, h0⟩ | ⟨g, cap, cur, rfl, _⟩
  ·exact ⟨none, 0, by rw [h0]⟩
  ·exact ⟨_, _, rfl⟩
 have HB := Lib.hid ((hb1.block W.heap.size (by simp; omega)).trans ((heap_old (by simp)).trans (heap_new rfl)))
 have HR := Lib.hid ((hb1.block (W.heap.size + 1) (by simp)).trans (heap_new (by simp)))
 have r0 := (blk_cell HR.out 0).trans rfl
 have r1 := (blk_cell HR.out 1).trans rfl
 have r2 := (blk_cell HR.out 2).trans rfl
 have r3 := (blk_cell HR.out 3).trans rfl
 have r4 := (blk_cell HR.out 4).trans rfl
 have rf0 := blk_free HR.out 0
 have rf1 := blk_free HR.out 1
 have rf2 := blk_free HR.out 2
 have rf3 := blk_free HR.out 3
 have rf4 := blk_free HR.out 4
 have zr := blk_lt HR.out
 simp only [List.getElem?_toArray, List.getElem?_cons_zero, List.getElem?_cons_succ] at r0 r1 r2 r3 r4
 have c0 := (blk_cell HB.out 0).trans rfl
 have c1 := (blk_cell HB.out 1).trans rfl
 have c2 := (blk_cell HB.out 2).trans rfl
 have c3 := (blk_cell HB.out 3).trans rfl
 have c4 := (blk_cell HB.out 4).trans rfl
 have f4 := blk_free HB.out 4
 have zb := blk_lt HB.out
 simp only [List.getElem?_toArray, List.getElem?_cons_zero, List.getElem?_cons_succ] at c0 c1 c2 c3 c4
 have hw1 := below_trans (show Below W.heap.size W (W.alloc (.cells #[.int .i64 k, .int .i64 l, .int .i64 w, .int .i64 t, .slice a m c] 25)) from bel) (below_trans (show Below (W.alloc (.cells #[.int .i64 k, .int .i64 l, .int .i64 w, .int .i64 t, .slice a m c] 25)).heap.size _ _ from bel) hb1)
 clear ho hb1 HC
 go_wp2
 refine bodyPost_ret (v := .agg #[.int .i64 k, .int .i64 l, .int .i64 w, .int .i64 t, .slice ra n.length rc]) (by simp [results, Tryz.results9, go_sem, r0, r1, r2, r3, r4]) rfl ⟨_, rfl, ?_, ?_⟩
 ·refine Below.setCell (Below.setCell (Below.setCell (Below.setCell (Below.setCell (Below.setCell hw1 ?_ _) ?_ _) ?_ _) ?_ _) ?_ _) ?_ _ <;> simp
 ·have nb : (Value.slice ra n.length rc).ownBlock ≠ some W.heap.size := own_blk_ne HO.out HB.out (by decide)
  have nr : (Value.slice ra n.length rc).ownBlock ≠ some (W.heap.size + 1) := own_blk_ne HO.out HR.out (by decide)
  exact own_mono (own_setCell_far (own_setCell_far (own_setCell_far (own_setCell_far (own_setCell_far (own_setCell_far HO.out _ _ (fun e => nb e.symm)) _ _ (fun e => nr e.symm)) _ _ (fun e => nr e.symm)) _ _ (fun e => nr e.symm)) _ _ (fun e => nr e.symm)) _ _ (fun e => nr e.symm)) (by simp; omega)
theorem Few_any (k l w t : Int) (a : Option Addr) (m c : Nat) (W : World) : Calls Tryz.prog 7 #[vJ k l w t (.slice a m c)] W (Ret W (.bool (decide (m ≤ 30)))) := by
 unfold vJ
 go_enter Tryz.func7, Tryz.ntmps7
 go_wp2
 go_ret
 exact ⟨ret_bool (by simp; omega), bel⟩
theorem enc2s_len (ps : List (Int × Int)) : (ps.flatMap enc2).length = ps.length * 2 := by
 induction ps with
 | nil => rfl
 | cons p ps ih => simp [enc2] at ih ⊢; omega
theorem holes_cell {w : World} {base g cap m : Nat} {T : TypeId} {ps : List (Int × Int)} (h : w.ownsRow base T 2 (.slice (some ⟨g, 0, none⟩) m cap) m (ps.flatMap enc2)) (i : Nat) (hi : i < ps.length) :
  w.cell? ⟨g, i * 2, none⟩ = some (.int .i64 ps[i].1) ∧ w.cell? ⟨g, i * 2 + 1, none⟩ = some (.int .i64 ps[i].2) := by
 rcases h.2 with ⟨h, _⟩ | ⟨g', cap', cur, h, hb, hh, hc, hm, hcs, ht⟩
 ·cases h
 ·cases h
  have key : ∀ j, j < 2 → w.cell? ⟨g, i * 2 + j, none⟩ = (enc2 ps[i])[j]? := fun j hj => by
   rw [blk_cell hh, ← flat_get enc2 2 (fun _ => rfl) ps i hi j hj, ← ht, List.getElem?_take_of_lt (by
    have := h.1
    have hl := enc2s_len ps
    omega), Array.getElem?_toList]
  exact ⟨key 0 (by omega), key 1 (by omega)⟩
theorem rise3 (a b c : Int) : risingB [a, b, c] = decide (a < b ∧ b < c) := by simp [risingB, Bool.decide_and]
set_option maxRecDepth 100000 in
theorem rightDowels_any (l w t : Int) (v : Value) (xs : List Int) (W : World) (m : Nat) (hx : Ints W v xs) (hm : xs.length = 6 + 2 * m) (h1 : 1 ≤ m) (hl : m ≤ 1000)
  (hb : ∀ x ∈ xs, -1000000 ≤ x ∧ x ≤ 1000000) (hL : -1000000 ≤ l ∧ l ≤ 1000000) (hT : -1000000 ≤ t ∧ t ≤ 1000000) :
  Calls Tryz.prog 135 #[.agg #[.int .i64 l, .int .i64 w, .int .i64 t], v] W (Ret W (.bool (dowelsB l w t xs))) := by
 have HH := fun W' h => Lib.hid (holes_any v xs W' m (hx.below (w' := W') h) hm (by omega))
 obtain ⟨b, off, c, rfl, hc, zb, hi⟩ := hx.at' (by omega)
 have c0 := hi 0 (by omega)
 have c1 := hi 1 (by omega)
 have c2 := hi 2 (by omega)
 have c3 := hi 3 (by omega)
 have c4 := hi 4 (by omega)
 have c5 := hi 5 (by omega)
 rw [Nat.add_zero] at c0
 have hB : ∀ i, i < xs.length → -1000000 ≤ xs.getD i 0 ∧ xs.getD i 0 ≤ 1000000 := fun i h => by rw [← getDI xs i h]; exact hb _ (List.getElem_mem h)
 have HB := Lib.hid hB
 have b0 := hB 0 (by omega)
 have b1 := hB 1 (by omega)
 have b2 := hB 2 (by omega)
 have b3 := hB 3 (by omega)
 have b4 := hB 4 (by omega)
 have b5 := hB 5 (by omega)
 have Hmm : Hid ((xs.length - 6) / 2 = m) := Lib.hid (by omega)
 have Hhead : Hid (dowHead l xs = (risingB [0, xs.getD 1 0, xs.getD 2 0, 2 * xs.getD 1 0] && decide (0 < xs.getD 3 0 ∧ 0 < xs.getD 4 0 ∧ 0 ≤ xs.getD 5 0 ∧ xs.getD 4 0 + xs.getD 5 0 < xs.getD 0 0 ∧ xs.getD 0 0 + xs.getD 3 0 + xs.getD 5 0 < l))) := Lib.hid rfl
 have Hno1 : Hid (dowHead l xs = false → dowelsB l w t xs = false) := Lib.hid dowelsB_no1
 have Hno2 : Hid (∀ i, i < m → dowOK t xs i = false → dowelsB l w t xs = false) := Lib.hid (fun i h => dowelsB_no2 i (by rw [Hmm.out]; exact h))
 have Hend : Hid (dowHead l xs = true → (∀ i, i < m → dowOK t xs i = true) → dowelsB l w t xs = decide (dowPrev xs m + xs.getD 1 0 < w)) := Lib.hid (fun h1 h2 => by rw [dowelsB_end h1 (by rw [Hmm.out]; exact h2), Hmm.out])
 have Hok : Hid (∀ i, dowOK t xs i = (decide (dowPrev xs i + 2 * xs.getD 1 0 < xs.getD (6 + 2 * i) 0) && decide (xs.getD 1 0 < xs.getD (7 + 2 * i) 0 ∧ xs.getD (7 + 2 * i) 0 < t - xs.getD 1 0))) := Lib.hid (fun i => rfl)
 have Hp0 : Hid (dowPrev xs 0 = -(xs.getD 1 0)) := Lib.hid (by simp [dowPrev])
 have Hps : Hid (∀ i, dowPrev xs (i + 1) = xs.getD (6 + 2 * i) 0) := Lib.hid (fun i => by simp [dowPrev, show 4 + 2 * (i + 1) = 6 + 2 * i by omega])
 have hr := fun W' x y z q g hg => Lib.hid (rising_any _ [x, y, z, q] _ (ints_newL (W := W') (T := 3) (g := g) [x, y, z, q] hg) (by simp))
 have hr3 := fun W' x y z g hg => Lib.hid (rising_any _ [x, y, z] _ (ints_newL (W := W') (T := 3) (g := g) [x, y, z] hg) (by simp))
 simp only [rise3] at hr3
 generalize dowHead l xs = hd at *
 generalize dowelsB l w t xs = res at *
 rw [hm] at HH ⊢
 generalize xs.getD 0 0 = x0 at *
 generalize xs.getD 1 0 = x1 at *
 generalize xs.getD 2 0 = x2 at *
 generalize xs.getD 3 0 = x3 at *
 generalize xs.getD 4 0 = x4 at *
 generalize xs.getD 5 0 = x5 at *
 clear hi hx hb hB
 have hr' := fun W' g hg => hr W' 0 x1 x2 (2 * x1) g hg
 clear hr
 generalize risingB [0, x1, x2, 2 * x1] = r1 at *
 have n5 : (5 : Int) < ((6 + 2 * m : Nat) : Int) := by omega
 have n4 : (4 : Int) < ((6 + 2 * m : Nat) : Int) := by omega
 have n3 : (3 : Int) < ((6 + 2 * m : Nat) : Int) := by omega
 have n2 : (2 : Int) < ((6 + 2 * m : Nat) : Int) := by omega
 have n1 : (1 : Int) < ((6 + 2 * m : Nat) : Int) := by omega
 have n0 : (0 : Int) < ((6 + 2 * m : Nat) : Int) := by omega
 by_cases hgood : r1 = true ∧ 0 < x3 ∧ 0 < x4 ∧ 0 ≤ x5 ∧ x4 + x5 < x0 ∧ x0 + x3 + x5 < l
 ·obtain ⟨rfl, g1, g2, g3, g4, g5⟩ := hgood
  have k1 : decide (x3 ≤ 0) = false := by simp; omega
  have k2 : decide (x4 ≤ 0) = false := by simp; omega
  have k3 : decide (x5 < 0) = false := by simp; omega
  have k4 : decide (x0 ≤ x4 + x5) = false := by simp; omega
  have k5 : decide (l ≤ x0 + x3 + x5) = false := by simp; omega
  have Hhd : Hid (hd = true) := Lib.hid (by rw [Hhead.out]; simp [g1, g2, g3, g4, g5])
  go_enter Tryz.func135, Tryz.ntmps135
  go_wp2
  refine wqb ?_
  repeat (first | go_big_quiet_step (fail) | quiet_step (fail))
  refine wqn fun u => ?_
  go_wp2_with fail
  refine ((hr' _ _ rfl).out).mono ?_
  rintro e w1 ⟨rfl, hb1⟩
  have hw1 := below_trans (show Below W.heap.size W u.val from bel) (below_trans (show Below u.val.heap.size u.val _ from bel) hb1)
  have HS : Hid (w1.heap[W.heap.size]? = some (.cells #[.int .i64 l, .int .i64 w, .int .i64 t] 22 (0, 0))) := Lib.hid (by
   have h1 := (u.below.block W.heap.size (by simp)).trans (heap_new rfl)
   have h2 := (heap_old (o := .cells (List.map (Value.int .i64) [0, x1, x2, 2 * x1]).toArray 3) (blk_lt h1)).trans h1
   exact (hb1.block _ (blk_lt h2)).trans h2)
  have d0 : w1.cell? ⟨W.heap.size, 0, none⟩ = some (.int .i64 l) := (blk_cell HS.out 0).trans rfl
  have zs := blk_lt HS.out
  clear hb1 hr' c0 c1 c2 c3 c4 c5
  go_wp2_with fail
  refine ((HH _ bel).out).mono ?_
  rintro e w2 ⟨r, rfl, hb2, ho⟩
  have hw2 := below_trans (show Below W.heap.size W w1 from hw1) hb2
  have HS2 : Hid (w2.heap[W.heap.size]? = _) := Lib.hid ((hb2.block _ zs).trans HS.out)
  obtain ⟨g, cap, rfl, hg1, hg2⟩ := own_form ho (by omega)
  have HC : Hid (∀ i, i < m → w2.cell? ⟨g, i * 2, none⟩ = some (.int .i64 (xs.getD (6 + 2 * i) 0)) ∧ w2.cell? ⟨g, i * 2 + 1, none⟩ = some (.int .i64 (xs.getD (7 + 2 * i) 0))) := Lib.hid (fun i hi => by
   have := holes_cell ho i (by rw [holesTo_len]; exact hi)
   simpa [holesTo] using this)
  have Hp := Lib.hid Hp0.out
  obtain ⟨q0, Hq0⟩ : ∃ q, Hid (dowPrev xs 0 = q) := ⟨_, Lib.hid rfl⟩
  have hq0 : -x1 = q0 := by rw [← Hq0.out, Hp0.out]
  clear ho HH HS hb2 hw1 d0 zs
  go_wp2
  go_loopw [73, 11] (fun i s wr => ∃ k : Nat, k ≤ m ∧ i = .int .i64 k ∧ s = .int .i64 (dowPrev xs k) ∧ Below w2.heap.size w2 wr ∧ Hid (∀ i, i < k → dowOK t xs i = true)) (fun i _ _ => m - (intOf i).toNat)
  case atStart => exact ⟨0, by omega, rfl, by rw [Hq0.out], Below.refl _ _, Lib.hid (fun i h => by omega)⟩
  case round =>
   obtain ⟨k, hk, rfl, rfl, hbk, HZ⟩ := hrel
   have HSk : Hid (wr.heap[W.heap.size]? = _) := Lib.hid ((hbk.block _ (blk_lt HS2.out)).trans HS2.out)
   have e1 : wr.cell? ⟨W.heap.size, 1, none⟩ = some (.int .i64 w) := (blk_cell HSk.out 1).trans rfl
   have e2 : wr.cell? ⟨W.heap.size, 2, none⟩ = some (.int .i64 t) := (blk_cell HSk.out 2).trans rfl
   have zs := blk_lt HSk.out
   have bq : -1000000 ≤ dowPrev xs k ∧ dowPrev xs k ≤ 1000000 := by
    cases k with
    | zero => rw [Hp0.out]; omega
    | succ k => rw [Hps.out]; exact HB.out _ (by omega)
   obtain ⟨q, Hq⟩ : ∃ q, Hid (dowPrev xs k = q) := ⟨_, Lib.hid rfl⟩
   rw [Hq.out] at bq ⊢
   by_cases hlt : k < m
   ·have cy := below_cell hbk (HC.out k hlt).1
    have cz := below_cell hbk (HC.out k hlt).2
    have zg := World.block_lt_of_cell? wr _ cy
    simp only at zg
    have by_ := HB.out (6 + 2 * k) (by omega)
    have bz := HB.out (7 + 2 * k) (by omega)
    have Hokk := Lib.hid (Hok.out k)
    have Hn := Lib.hid (Hno2.out k hlt)
    have Hpk := Lib.hid (Hps.out k)
    rw [Hq.out] at Hokk
    generalize xs.getD (6 + 2 * k) 0 = y at *
    generalize xs.getD (7 + 2 * k) 0 = z at *
    have kt : ((k : Int) * 2).toNat = k * 2 := by omega
    clear HC hq0
    by_cases hy : q + 2 * x1 < y
    ·have hyd : decide (y ≤ q + 2 * x1) = false := by simp; omega
     have hr4 := fun W' g hg => hr3 W' x1 z (t - x1) g hg
     by_cases hz : x1 < z ∧ z < t - x1
     ·rw [show decide (x1 < z ∧ z < t - x1) = true from decide_eq_true hz] at hr4
      go_wp2_with fail
      refine ((hr4 _ _ (by simp)).out).mono ?_
      rintro e w3 ⟨rfl, hb3⟩
      have HK : Hid (w3.heap[wr.heap.size]? = some (.cells #[.int .i64 y, .int .i64 z] 157 (0, 0))) := Lib.hid ((hb3.block _ (by simp; omega)).trans ((heap_old (by simp)).trans (heap_new rfl)))
      have f0 : w3.cell? ⟨wr.heap.size, 0, none⟩ = some (.int .i64 y) := (blk_cell HK.out 0).trans rfl
      have zk := blk_lt HK.out
      have hb4 : Below w2.heap.size w2 w3 := below_trans hbk (below_trans bel hb3)
      have Hyes : Hid (dowOK t xs k = true) := Lib.hid (by rw [Hokk.out, decide_eq_true hy, decide_eq_true hz]; rfl)
      clear hb3 hr4 cy cz
      go_wp2
      go_roundw
      case rel => exact ⟨k + 1, by omega, by go_num, by rw [Hpk.out], hb4, Lib.hid (fun i hi => by
       by_cases e : i = k
       ·subst e; exact Hyes.out
       ·exact HZ.out i (by omega))⟩
      case measure => simp [intOf]; omega
     ·rw [show decide (x1 < z ∧ z < t - x1) = false from decide_eq_false hz] at hr4
      have Hf : Hid (res = false) := Lib.hid (Hn.out (by rw [Hokk.out, decide_eq_false hz]; simp))
      go_wp2_with fail
      refine ((hr4 _ _ (by simp)).out).mono ?_
      rintro e w3 ⟨rfl, hb3⟩
      have hb4 : Below w2.heap.size w2 w3 := below_trans hbk (below_trans bel hb3)
      clear hb3 hr4 cy cz
      go_wp2
      go_ret
      exact ⟨ret_bool Hf.out.symm, below_trans hw2 hb4⟩
    ·have hyd : decide (y ≤ q + 2 * x1) = true := by simp; omega
     have Hf : Hid (res = false) := Lib.hid (Hn.out (by rw [Hokk.out, decide_eq_false hy]; simp))
     clear hr3
     go_wp2
     go_ret
     exact ⟨ret_bool Hf.out.symm, below_trans hw2 (below_trans hbk bel)⟩
   ·obtain rfl : k = m := by omega
    have He : Hid (res = decide (q + x1 < w)) := Lib.hid (by rw [Hend.out Hhd.out HZ.out, Hq.out])
    clear HC hr3
    go_wp2
    go_ret
    exact ⟨ret_bool He.out.symm, below_trans hw2 hbk⟩
 ·have Hf : Hid (res = false) := Lib.hid (Hno1.out (by rw [Hhead.out, Bool.and_eq_false_iff, decide_eq_false_iff_not]; cases r1; exact Or.inl rfl; exact Or.inr (fun h => hgood ⟨rfl, h⟩)))
  clear HH
  go_enter Tryz.func135, Tryz.ntmps135
  go_wp2
  refine wqb ?_
  repeat (first | go_big_quiet_step (fail) | quiet_step (fail))
  refine wqn fun u => ?_
  go_wp2_with fail
  refine ((hr' _ _ rfl).out).mono ?_
  rintro e w1 ⟨rfl, hb1⟩
  have hw1 := below_trans (show Below W.heap.size W _ from bel) (below_trans (show Below u.val.heap.size u.val _ from bel) hb1)
  have HS : Hid (w1.heap[W.heap.size]? = some (.cells #[.int .i64 l, .int .i64 w, .int .i64 t] 22 (0, 0))) := Lib.hid (by
   have h1 := (u.below.block W.heap.size (by simp)).trans (heap_new rfl)
   have h2 := (heap_old (o := .cells (List.map (Value.int .i64) [0, x1, x2, 2 * x1]).toArray 3) (blk_lt h1)).trans h1
   exact (hb1.block _ (blk_lt h2)).trans h2)
  have d0 : w1.cell? ⟨W.heap.size, 0, none⟩ = some (.int .i64 l) := (blk_cell HS.out 0).trans rfl
  have zs := blk_lt HS.out
  cases r1
  ·clear hgood
   go_wp2
   go_ret
   exact ⟨ret_bool Hf.out.symm, hw1⟩
  ·have hg : ¬ (0 < x3 ∧ 0 < x4 ∧ 0 ≤ x5 ∧ x4 + x5 < x0 ∧ x0 + x3 + x5 < l) := fun h => hgood ⟨rfl, h⟩
   clear hgood
   go_wp2
   all_goals go_ret
   all_goals exact ⟨ret_bool Hf.out.symm, hw1⟩
theorem tdiv_bd' (s p : Int) (B : Int) (hs : -B ≤ s ∧ s ≤ B) : -B ≤ s.tdiv p ∧ s.tdiv p ≤ B := by
 have h1 : (s.tdiv p).natAbs ≤ s.natAbs := by rw [Int.natAbs_tdiv]; exact Nat.div_le_self _ _
 omega
set_option maxRecDepth 100000 in
theorem right_6 (l w t : Int) (nv : Value) (n : List Int) (W : World) (hn : Ints W nv n) (hl : n.length = 3) (hb : ∀ x ∈ n, -1000000 ≤ x ∧ x ≤ 1000000) (hT : -1000000 ≤ t ∧ t ≤ 1000000) :
  Calls Tryz.prog 97 #[vJ 6 l w t nv] W (Ret W (.bool (scarfB l t n))) := by
 unfold vJ
 obtain ⟨b, off, c, rfl, hc, zb, hi⟩ := hn.at' (by omega)
 have c0 := hi 0 (by omega)
 have c1 := hi 1 (by omega)
 have c2 := hi 2 (by omega)
 rw [Nat.add_zero] at c0
 have bx : -1000000 ≤ n.getD 0 0 ∧ n.getD 0 0 ≤ 1000000 := by rw [← getDI n 0 (by omega)]; exact hb _ (List.getElem_mem _)
 rw [hl]
 have HR : Hid (scarfB l t n = (decide (1 ≤ n.getD 1 0 ∧ n.getD 1 0 ≤ 8) && decide (-8 ≤ n.getD 2 0 ∧ n.getD 2 0 ≤ 8) && decide (n.getD 2 0 ≠ 0) && ((n.getD 2 0 * t).tmod (n.getD 1 0) == 0) && withinB 0 l [n.getD 0 0, n.getD 0 0 + (n.getD 2 0 * t).tdiv (n.getD 1 0)])) := Lib.hid rfl
 generalize scarfB l t n = res at *
 generalize n.getD 0 0 = x at *
 generalize n.getD 1 0 = p at *
 generalize n.getD 2 0 = q at *
 clear hi hn hl hb
 have h1 := fun W' g hg => Lib.hid (within1_any 1 8 W' 3 p g hg)
 have h2 := fun W' g hg => Lib.hid (within1_any (-8) 8 W' 3 q g hg)
 by_cases hp : 1 ≤ p ∧ p ≤ 8
 ·rw [show decide (1 ≤ p ∧ p ≤ 8) = true from decide_eq_true hp] at h1 HR
  by_cases hq : -8 ≤ q ∧ q ≤ 8
  ·rw [show decide (-8 ≤ q ∧ q ≤ 8) = true from decide_eq_true hq] at h2 HR
   by_cases h0 : q = 0
   ·have Hf : Hid (res = false) := Lib.hid (by rw [HR.out]; simp [h0])
    subst h0
    go_enter Tryz.func97, Tryz.ntmps97
    go_wp2
    refine wqb ?_
    repeat (first | go_big_quiet_step (fail) | quiet_step (fail))
    refine wqn fun u => ?_
    have hbu : Below W.heap.size W u.val := bel
    have zbu := Nat.lt_of_lt_of_le zb hbu.size
    have cu0 := below_cell hbu c0
    have cu1 := below_cell hbu c1
    have cu2 := below_cell hbu c2
    clear c0 c1 c2 zb
    go_wp2
    refine wqb ?_
    repeat (first | go_big_quiet_step (fail) | quiet_step (fail))
    refine wqn fun u => ?_
    have hbv : Below W.heap.size W u.val := bel
    clear cu0 cu1 cu2
    go_wp2_with fail
    refine ((h1 _ _ (by simp)).out).mono ?_
    rintro e w1 ⟨rfl, hb1⟩
    have hv1 : Below W.heap.size W w1 := below_trans hbv (below_trans bel hb1)
    clear hb1 h1
    go_wp2_with fail
    refine ((h2 _ _ (by simp)).out).mono ?_
    rintro e w2 ⟨rfl, hb2⟩
    go_wp2
    go_ret
    exact ⟨ret_bool Hf.out.symm, below_trans hv1 (below_trans bel hb2)⟩
   ·have hqn : (q == 0) = false := by simpa using h0
    have bs := mul_bd hq.1 hq.2 hT.1 hT.2
    have hws : wrap64 (q * t) = q * t := by unfold wrap64; omega
    obtain ⟨s, Hs⟩ : ∃ s, Hid (q * t = s) := ⟨_, Lib.hid rfl⟩
    rw [Hs.out] at bs HR
    have hws2 : wrap64 (q * t) = s := hws.trans Hs.out
    clear hws
    have h3 := fun W' => Lib.hid (divides_any p s W' (by omega))
    have bd := tdiv_bd' s p 8000000 (by omega)
    have HR2 : Hid (res = ((s.tmod p == 0) && withinB 0 l [x, x + s.tdiv p])) := Lib.hid (by rw [HR.out]; simp [h0])
    have hp0 : (p == 0) = false := by simp; omega
    cases hd : (s.tmod p == 0) with
    | false =>
     have Hf : Hid (res = false) := Lib.hid (by rw [HR2.out, hd]; rfl)
     rw [hd] at h3
     clear hd
     go_enter Tryz.func97, Tryz.ntmps97
     go_wp2
     refine wqb ?_
     repeat (first | go_big_quiet_step (fail) | quiet_step (fail))
     refine wqn fun u => ?_
     have hbu : Below W.heap.size W u.val := bel
     have zbu := Nat.lt_of_lt_of_le zb hbu.size
     have cu0 := below_cell hbu c0
     have cu1 := below_cell hbu c1
     have cu2 := below_cell hbu c2
     clear c0 c1 c2 zb
     go_wp2
     refine wqb ?_
     repeat (first | go_big_quiet_step (fail) | quiet_step (fail))
     refine wqn fun u => ?_
     have hbv : Below W.heap.size W u.val := bel
     clear cu0 cu1 cu2
     go_wp2_with fail
     refine ((h1 _ _ (by simp)).out).mono ?_
     rintro e w1 ⟨rfl, hb1⟩
     have hv1 : Below W.heap.size W w1 := below_trans hbv (below_trans bel hb1)
     clear hb1 h1
     go_wp2_with fail
     refine ((h2 _ _ (by simp)).out).mono ?_
     rintro e w2 ⟨rfl, hb2⟩
     go_wp2_with fail
     refine ((h3 _).out).mono ?_
     rintro e w3 ⟨rfl, rfl⟩
     go_wp2
     go_ret
     exact ⟨ret_bool Hf.out.symm, below_trans hv1 (below_trans bel hb2)⟩
    | true =>
     have Hf : Hid (res = withinB 0 l [x, x + s.tdiv p]) := Lib.hid (by rw [HR2.out, hd]; rfl)
     rw [hd] at h3
     clear hd
     have h4 := fun W' g hg => Lib.hid (within_any 0 l _ [x, x + s.tdiv p] _ (ints_newL (W := W') (T := 3) (g := g) [x, x + s.tdiv p] hg) (by simp))
     rw [← Hf.out] at h4
     go_enter Tryz.func97, Tryz.ntmps97
     go_wp2
     refine wqb ?_
     repeat (first | go_big_quiet_step (fail) | quiet_step (fail))
     refine wqn fun u => ?_
     have hbu : Below W.heap.size W u.val := bel
     have zbu := Nat.lt_of_lt_of_le zb hbu.size
     have cu0 := below_cell hbu c0
     have cu1 := below_cell hbu c1
     have cu2 := below_cell hbu c2
     clear c0 c1 c2 zb
     go_wp2
     refine wqb ?_
     repeat (first | go_big_quiet_step (fail) | quiet_step (fail))
     refine wqn fun u => ?_
     have hbv : Below W.heap.size W u.val := bel
     clear cu0 cu1 cu2
     go_wp2_with fail
     refine ((h1 _ _ (by simp)).out).mono ?_
     rintro e w1 ⟨rfl, hb1⟩
     have hv1 : Below W.heap.size W w1 := below_trans hbv (below_trans bel hb1)
     clear hb1 h1
     go_wp2_with fail
     refine ((h2 _ _ (by simp)).out).mono ?_
     rintro e w2 ⟨rfl, hb2⟩
     go_wp2_with fail
     refine ((h3 _).out).mono ?_
     rintro e w3 ⟨rfl, rfl⟩
     go_wp2_with fail
     refine ((h4 _ _ rfl).out).mono ?_
     rintro e w4 ⟨rfl, hb4⟩
     go_wp2
     go_ret
     exact ⟨ret_bool (by simp [h0]), below_trans (below_trans hv1 (below_trans bel hb2)) (below_trans bel hb4)⟩
  ·rw [show decide (-8 ≤ q ∧ q ≤ 8) = false from decide_eq_false hq] at h2 HR
   have Hf : Hid (res = false) := Lib.hid (by rw [HR.out]; simp)
   go_enter Tryz.func97, Tryz.ntmps97
   go_wp2
   refine wqb ?_
   repeat (first | go_big_quiet_step (fail) | quiet_step (fail))
   refine wqn fun u => ?_
   have hbu : Below W.heap.size W u.val := bel
   have zbu := Nat.lt_of_lt_of_le zb hbu.size
   have cu0 := below_cell hbu c0
   have cu1 := below_cell hbu c1
   have cu2 := below_cell hbu c2
   clear c0 c1 c2 zb
   go_wp2
   refine wqb ?_
   repeat (first | go_big_quiet_step (fail) | quiet_step (fail))
   refine wqn fun u => ?_
   have hbv : Below W.heap.size W u.val := bel
   clear cu0 cu1 cu2
   go_wp2_with fail
   refine ((h1 _ _ (by simp)).out).mono ?_
   rintro e w1 ⟨rfl, hb1⟩
   have hv1 : Below W.heap.size W w1 := below_trans hbv (below_trans bel hb1)
   clear hb1 h1
   go_wp2_with fail
   refine ((h2 _ _ (by simp)).out).mono ?_
   rintro e w2 ⟨rfl, hb2⟩
   go_wp2
   go_ret
   exact ⟨ret_bool Hf.out.symm, below_trans hv1 (below_trans bel hb2)⟩
 ·rw [show decide (1 ≤ p ∧ p ≤ 8) = false from decide_eq_false hp] at h1 HR
  have Hf : Hid (res = false) := Lib.hid (by rw [HR.out]; simp)
  go_enter Tryz.func97, Tryz.ntmps97
  go_wp2
  refine wqb ?_
  repeat (first | go_big_quiet_step (fail) | quiet_step (fail))
  refine wqn fun u => ?_
  have hbu : Below W.heap.size W u.val := bel
  have zbu := Nat.lt_of_lt_of_le zb hbu.size
  have cu0 := below_cell hbu c0
  have cu1 := below_cell hbu c1
  have cu2 := below_cell hbu c2
  clear c0 c1 c2 zb
  go_wp2
  refine wqb ?_
  repeat (first | go_big_quiet_step (fail) | quiet_step (fail))
  refine wqn fun u => ?_
  have hbv : Below W.heap.size W u.val := bel
  clear cu0 cu1 cu2
  go_wp2_with fail
  refine ((h1 _ _ (by simp)).out).mono ?_
  rintro e w1 ⟨rfl, hb1⟩
  have hv1 : Below W.heap.size W w1 := below_trans hbv (below_trans bel hb1)
  clear hb1 h1
  go_wp2
  go_ret
  exact ⟨ret_bool Hf.out.symm, hv1⟩
end
section
open Go.RowKit Go.Shelf
attribute [local go_sem] Ext.cell Ext.frozen
set_option maxRecDepth 100000
theorem raw_of_ints {W : World} {v : Value} {xs : List Int} (h : Ints W v xs) (hn : NilV v) : Raw W 1 v (xs.map (Value.int .i64)) := by
 obtain ⟨a, m, c, rfl, hl, hc, hx⟩ := h
 refine ⟨a, m, c, rfl, by simp [hl], fun e => by subst e; exact hn m c rfl, fun ad ha j u hu => ?_⟩
 have hj : j < xs.length := by
  have := (List.getElem?_eq_some_iff.1 hu).1
  simpa using this
 obtain ⟨b, off, e, hi⟩ := hx (by omega)
 subst ha
 cases e
 rw [addO, hi j hj]
 simpa [hj] using hu
theorem right_8 (l w t : Int) (nv : Value) (n : List Int) (W : World) (m : Nat) (hn : Ints W nv n) (hm : n.length = 6 + 2 * m) (h1 : 1 ≤ m) (hl : m ≤ 1000)
  (hb : ∀ x ∈ n, -1000000 ≤ x ∧ x ≤ 1000000) (hL : -1000000 ≤ l ∧ l ≤ 1000000) (hT : -1000000 ≤ t ∧ t ≤ 1000000) :
  Calls Tryz.prog 97 #[vJ 8 l w t nv] W (Ret W (.bool (dowelsB l w t n))) := by
 unfold vJ
 have hr := fun W' h => Lib.hid (rightDowels_any l w t nv n W' m (hn.below (w' := W') h) hm h1 hl hb hL hT)
 obtain ⟨b, off, c, rfl, hc, zb, hi⟩ := hn.at' (by omega)
 generalize dowelsB l w t n = r at *
 rw [hm] at hr ⊢
 clear hn hi hb hm hc
 go_enter Tryz.func97, Tryz.ntmps97
 go_wp2
 refine wqb ?_
 repeat (first | go_big_quiet_step (fail) | quiet_step (fail))
 refine wqn fun u => ?_
 go_wp2_with fail
 refine ((hr _ bel).out).mono ?_
 rintro e w1 ⟨rfl, hb1⟩
 go_wp2
 go_ret
 exact ⟨rfl, below_trans bel hb1⟩
theorem right_7 (l w t : Int) (nv : Value) (n : List Int) (W : World) (hn : Ints W nv n) (h1 : 1 ≤ n.length) (hl : n.length ≤ 1000) :
  Calls Tryz.prog 97 #[vJ 7 l w t nv] W (Ret W (.bool (risingB ([0] ++ n ++ [w])))) := by
 unfold vJ
 have HN := Lib.hid hn
 obtain ⟨b, off, c, rfl, hc, zb, hi⟩ := hn.at' (by omega)
 have hr := fun W' v (h : Ints W' v ([0] ++ n ++ [w])) => Lib.hid (rising_any v ([0] ++ n ++ [w]) W' h (by simp; omega))
 generalize risingB ([0] ++ n ++ [w]) = r at *
 obtain ⟨q, Hq⟩ : ∃ q, Hid (n.length = q) := ⟨_, Lib.hid rfl⟩
 have hq1 : q ≤ 1000 := by have := Hq.out; omega
 rw [Hq.out] at HN ⊢
 clear hn hi hc h1 hl
 go_enter Tryz.func97, Tryz.ntmps97
 go_wp2
 refine wqb ?_
 repeat (first | go_big_quiet_step (fail) | quiet_step (fail))
 refine wqn fun u => ?_
 go_wp2_with fail
 have hbu : Below W.heap.size W u.val := bel
 have HNu := Lib.hid (HN.out.below hbu)
 have hcat := Lib.hid (concat_int (((u.val.alloc (.cells #[.int .i64 0] 3)).alloc (.cells #[.int .i64 w] 3)).alloc (.cells #[.slice (some ⟨u.val.heap.size, 0, none⟩) 1 1, .slice (some ⟨b, off, none⟩) q c, .slice (some ⟨u.val.heap.size + 1, 0, none⟩) 1 1] 23)) (u.val.heap.size + 2) 0 3 [[Value.int .i64 0], n.map (Value.int .i64), [Value.int .i64 w]] (by
   intro i hi
   match i, hi with
   | 0, _ =>
    refine ⟨_, (cell_new (by simp) 0).trans rfl, ?_⟩
    exact raw_of_ints (xs := [0]) ((ints_newL (T := 3) [0] rfl).below bel) (fun _ _ e => by cases e)
   | 1, _ => exact ⟨_, (cell_new (by simp) 1).trans rfl, raw_of_ints (HNu.out.below bel) (fun _ _ e => by cases e)⟩
   | 2, _ =>
    refine ⟨_, (cell_new (by simp) 2).trans rfl, ?_⟩
    exact raw_of_ints (xs := [w]) ((ints_newL (W := u.val.alloc (.cells #[.int .i64 0] 3)) (T := 3) [w] (by simp)).below bel) (fun _ _ e => by cases e)) (by simp) (by simp) (by
   intro cs hcs u hu
   simp at hcs
   rcases hcs with rfl | rfl | rfl
   ·simp at hu; subst hu; rfl
   ·simp at hu; obtain ⟨_, _, rfl⟩ := hu; rfl
   ·simp at hu; subst hu; rfl) (by simp; have := Hq.out; omega))
 refine (hcat.out).mono ?_
 rintro e w1 ⟨r, m, rfl, hb1, ho⟩
 have hm : m = ([0] ++ n ++ [w]).length := by have := ho.1; simp at this ⊢; omega
 subst hm
 have hI : Ints w1 r ([0] ++ n ++ [w]) := ints_own (by simpa using ho)
 have hb2 : Below W.heap.size W w1 := below_trans (below_trans hbu bel) hb1
 have Hr := Lib.hid (hr _ _ hI).out
 clear ho hb1 hcat hI hr
 go_wp2_with fail
 refine (Hr.out).mono ?_
 rintro e w2 ⟨rfl, hb3⟩
 go_wp2
 go_ret
 exact ⟨rfl, below_trans hb2 hb3⟩
theorem cnt_of {k : Int} {n : List Int} (h : cntB k n.length = true) (hk : 0 ≤ k ∧ k ≤ 10) : (k = 0 → n.length = 1) ∧ (k = 1 → n.length = 2) ∧ (k = 2 → n.length = 4) ∧ (k = 3 → n.length = 6) ∧ (k = 4 → n.length = 4) ∧ (k = 5 → 3 ≤ n.length) ∧ (k = 6 → n.length = 3) ∧ (k = 7 → 1 ≤ n.length) ∧ (k = 8 → 8 ≤ n.length ∧ n.length % 2 = 0) ∧ (k = 9 → n.length = 5) ∧ (k = 10 → n.length = 5) := by
 generalize n.length = m at *
 rcases (by omega : k = 0 ∨ k = 1 ∨ k = 2 ∨ k = 3 ∨ k = 4 ∨ k = 5 ∨ k = 6 ∨ k = 7 ∨ k = 8 ∨ k = 9 ∨ k = 10) with rfl | rfl | rfl | rfl | rfl | rfl | rfl | rfl | rfl | rfl | rfl
 all_goals (simp [cntB] at h; first | omega | (have h2 := h.2; rw [Int.tmod_eq_emod_of_nonneg (by omega)] at h2; omega))
theorem right_any (k l w t : Int) (nv : Value) (n : List Int) (W : World) (hk : 0 ≤ k ∧ k ≤ 10) (hn : Ints W nv n) (h24 : n.length ≤ 24) (hc : cntB k n.length = true)
  (hs : withinB 1 100000 [l, w, t] = true) (hw : withinB (-100000) 100000 n = true) :
  Calls Tryz.prog 97 #[vJ k l w t nv] W (Ret W (.bool (rightB k l w t n))) := by
 rw [withinB_iff] at hs hw
 have hL := hs l (by simp)
 have hW := hs w (by simp)
 have hT := hs t (by simp)
 have hb : ∀ x ∈ n, -1000000 ≤ x ∧ x ≤ 1000000 := fun x hx => by have := hw x hx; omega
 have hB : ∀ i, i < n.length → -1000000 ≤ n.getD i 0 ∧ n.getD i 0 ≤ 1000000 := fun i h => by rw [← getDI n i h]; exact hb _ (List.getElem_mem h)
 obtain ⟨a0, a1, a2, a3, a4, a5, a6, a7, a8, a9, a10⟩ := cnt_of hc hk
 rcases (by omega : k = 0 ∨ k = 1 ∨ k = 2 ∨ k = 3 ∨ k = 4 ∨ k = 5 ∨ k = 6 ∨ k = 7 ∨ k = 8 ∨ k = 9 ∨ k = 10) with rfl | rfl | rfl | rfl | rfl | rfl | rfl | rfl | rfl | rfl | rfl
 ·exact right_0 l w t nv n W hn (a0 rfl)
 ·exact right_1 l w t nv n W hn (a1 rfl)
 ·exact right_2 l w t nv n W hn (a2 rfl)
 ·exact right_3 l w t nv n W hn (a3 rfl) ⟨hB 0 (by have := a3 rfl; omega), hB 1 (by have := a3 rfl; omega)⟩
 ·exact right_4 l w t nv n W hn (a4 rfl) ⟨hB 0 (by have := a4 rfl; omega), hB 1 (by have := a4 rfl; omega)⟩
 ·exact right_5 l w t nv n W hn (a5 rfl) (by omega) hb (by omega)
 ·exact right_6 l w t nv n W hn (a6 rfl) hb (by omega)
 ·exact right_7 l w t nv n W hn (a7 rfl) (by omega)
 ·have := a8 rfl
  exact right_8 l w t nv n W ((n.length - 6) / 2) hn (by omega) (by omega) (by omega) hb (by omega) (by omega)
 ·exact right_9 l w t nv n W hn (a9 rfl) (by omega) hb
 ·exact right_10 l w t nv n W hn (a10 rfl)
def chkE (k l w t : Int) (n : List Int) : Int := checkE k l w t n (rightB k l w t n)
theorem Check_all (k l w t : Int) (nv : Value) (n : List Int) (W : World) (hn : Ints W nv n) (hm : n.length ≤ 1000000) :
  Calls Tryz.prog 48 #[vJ k l w t nv] W (Ret W (.int .i64 (chkE k l w t n))) :=
 Check_any k l w t nv n (rightB k l w t n) W hn hm (fun hk hs h24 hc hw W' hb => right_any k l w t nv n W' hk (hn.below hb) h24 hc hs hw)
end
end Go.Proofs.YtokhkhnofkcalaaGreatDoor
