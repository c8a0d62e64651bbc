/- texts: J1 J2 J3 J4 J5 J6 J7. -/
import Derived.Test.YtokhkhnofkcalaaGreatDoorGZS13
namespace Go.Proofs.YtokhkhnofkcalaaGreatDoor
set_option maxHeartbeats 8000000
set_option linter.unusedSimpArgs false
set_option linter.unusedVariables false
section
open Go.RowKit Go.Shelf
attribute [local go_sem] Ext.cell Ext.frozen
theorem isKind_any (k : Int) (w : World) : Calls Tryz.prog 131 #[.int .i64 k] w fun e w' => e = .returned (.bool (decide (0 ≤ k ∧ k ≤ 10))) ∧ w = w' := by
 by_cases h1 : 0 ≤ k
 ·by_cases h2 : k ≤ 10
  ·go_enter Tryz.func131, Tryz.ntmps131
   go_wp2
   go_ret
   exact ⟨ret_bool (by simp [h1, h2]), rfl⟩
  ·go_enter Tryz.func131, Tryz.ntmps131
   go_wp2
   go_ret
   exact ⟨ret_bool (by simp [h2]), rfl⟩
 ·go_enter Tryz.func131, Tryz.ntmps131
  go_wp2
  go_ret
  exact ⟨ret_bool (by simp; omega), rfl⟩
def memB (k : Int) : Int := if k = 10 then 3 else 2
theorem members_any (k : Int) (w : World) : Calls Tryz.prog 69 #[.int .i64 k] w fun e w' => e = .returned (.int .i64 (memB k)) ∧ w = w' := by
 by_cases h : k = 10
 ·subst h
  go_enter Tryz.func69, Tryz.ntmps69
  go_wp2
  go_ret
  exact ⟨rfl, rfl⟩
 ·have h' : (k == 10) = false := by simpa using h
  go_enter Tryz.func69, Tryz.ntmps69
  go_wp2
  go_ret
  exact ⟨ret_int (by simp [memB, h]), rfl⟩
theorem divides_any (a b : Int) (w : World) (ha : a ≠ 0) : Calls Tryz.prog 134 #[.int .i64 a, .int .i64 b] w fun e w' => e = .returned (.bool (b.tmod a == 0)) ∧ w = w' := by
 have h' : (a == 0) = false := by simpa using ha
 go_enter Tryz.func134, Tryz.ntmps134
 go_wp2
 go_ret
 exact ⟨rfl, rfl⟩
theorem turned_any (a b c d : Int) (w : World) (ha : -1000000000 ≤ a ∧ a ≤ 1000000000) (hb : -1000000000 ≤ b ∧ b ≤ 1000000000) (hc : -1000000000 ≤ c ∧ c ≤ 1000000000) (hd : -1000000000 ≤ d ∧ d ≤ 1000000000) :
  Calls Tryz.prog 82 #[V4 a b c d] w (Ret w (V4 (-a) (-b) (-c) (-d))) := by
 go_enter Tryz.func82, Tryz.ntmps82
 go_wp2
 refine bodyPost_ret (v := V4 (-a) (-b) (-c) (-d)) (by simp [results, Tryz.results82, go_sem]) rfl ⟨rfl, ?_⟩
 exact bel
def axP (ax : Nat) (s d : Int) : Q4 := (if ax = 0 then s else 0, if ax = 1 then s else 0, if ax = 2 then s else 0, d)
set_option maxRecDepth 100000 in
theorem most_any (ax : Nat) (n : Int) (w : World) (hx : ax ≤ 2) (_hn : -1000000000 ≤ n ∧ n ≤ 1000000000) : Calls Tryz.prog 76 #[.int .i64 ax, .int .i64 n] w (Ret w (v4 (axP ax 1 (n)))) := by
 rcases (by omega : ax = 0 ∨ ax = 1 ∨ ax = 2) with rfl | rfl | rfl
 ·show Calls Tryz.prog 76 #[.int .i64 0, .int .i64 n] w (Ret w (V4 1 0 0 (n)))
  go_enter Tryz.func76, Tryz.ntmps76
  go_wp2
  refine bodyPost_ret (v := V4 1 0 0 (n)) (by simp [results, Tryz.results76, go_sem]) rfl ⟨rfl, ?_⟩
  exact bel
 ·show Calls Tryz.prog 76 #[.int .i64 1, .int .i64 n] w (Ret w (V4 0 1 0 (n)))
  go_enter Tryz.func76, Tryz.ntmps76
  go_wp2
  refine bodyPost_ret (v := V4 0 1 0 (n)) (by simp [results, Tryz.results76, go_sem]) rfl ⟨rfl, ?_⟩
  exact bel
 ·show Calls Tryz.prog 76 #[.int .i64 2, .int .i64 n] w (Ret w (V4 0 0 1 (n)))
  go_enter Tryz.func76, Tryz.ntmps76
  go_wp2
  refine bodyPost_ret (v := V4 0 0 1 (n)) (by simp [results, Tryz.results76, go_sem]) rfl ⟨rfl, ?_⟩
  exact bel
set_option maxRecDepth 100000 in
theorem least_any (ax : Nat) (n : Int) (w : World) (hx : ax ≤ 2) (hn : -1000000000 ≤ n ∧ n ≤ 1000000000) : Calls Tryz.prog 75 #[.int .i64 ax, .int .i64 n] w (Ret w (v4 (axP ax (-1) (-n)))) := by
 rcases (by omega : ax = 0 ∨ ax = 1 ∨ ax = 2) with rfl | rfl | rfl
 ·show Calls Tryz.prog 75 #[.int .i64 0, .int .i64 n] w (Ret w (V4 (-1) 0 0 (-n)))
  go_enter Tryz.func75, Tryz.ntmps75
  go_wp2
  refine bodyPost_ret (v := V4 (-1) 0 0 (-n)) (by simp [results, Tryz.results75, go_sem]) rfl ⟨rfl, ?_⟩
  exact bel
 ·show Calls Tryz.prog 75 #[.int .i64 1, .int .i64 n] w (Ret w (V4 0 (-1) 0 (-n)))
  go_enter Tryz.func75, Tryz.ntmps75
  go_wp2
  refine bodyPost_ret (v := V4 0 (-1) 0 (-n)) (by simp [results, Tryz.results75, go_sem]) rfl ⟨rfl, ?_⟩
  exact bel
 ·show Calls Tryz.prog 75 #[.int .i64 2, .int .i64 n] w (Ret w (V4 0 0 (-1) (-n)))
  go_enter Tryz.func75, Tryz.ntmps75
  go_wp2
  refine bodyPost_ret (v := V4 0 0 (-1) (-n)) (by simp [results, Tryz.results75, go_sem]) rfl ⟨rfl, ?_⟩
  exact bel
theorem within_closure (n lo hi : Int) (b c : Nat) (w : World) (h0 : w.cell? ⟨b, 0, none⟩ = some (.int .i64 lo)) (h1 : w.cell? ⟨c, 0, none⟩ = some (.int .i64 hi)) :
  Calls Tryz.prog 105 #[.int .i64 n, .pointer (some ⟨b, 0, none⟩), .pointer (some ⟨c, 0, none⟩)] w (Ret w (.bool (decide (n < lo ∨ hi < n)))) := by
 by_cases h2 : n < lo
 ·go_enter Tryz.func105, Tryz.ntmps105
  go_wp2
  go_ret
  exact ⟨ret_bool (by simp [h2]), Below.refl _ _⟩
 ·by_cases h3 : hi < n
  ·go_enter Tryz.func105, Tryz.ntmps105
   go_wp2
   go_ret
   exact ⟨ret_bool (by simp), Below.refl _ _⟩
  ·go_enter Tryz.func105, Tryz.ntmps105
   go_wp2
   go_ret
   exact ⟨ret_bool (by simp; omega), Below.refl _ _⟩
theorem eg_within1 : ∀ args w, (callFunc 105 args).run Tryz.prog w = .ok (.enter 105 args) w := enters_of Tryz.func105 (by kernel_rfl) rfl
def withinB (lo hi : Int) (xs : List Int) : Bool := !(xs.any fun n => decide (n < lo ∨ hi < n))
theorem withinB_iff (lo hi : Int) (xs : List Int) : withinB lo hi xs = true ↔ ∀ x ∈ xs, lo ≤ x ∧ x ≤ hi := by
 simp only [withinB, Bool.not_eq_true', List.any_eq_false, decide_eq_true_eq]
 exact ⟨fun h x hx => by have := h x hx; omega, fun h x hx => by have := h x hx; omega⟩
theorem within_any (lo hi : Int) (v : Value) (xs : List Int) (w : World) (hx : Ints w v xs) (hm : xs.length ≤ 1000000000) :
  Calls Tryz.prog 55 #[.int .i64 lo, .int .i64 hi, v] w (Ret w (.bool (withinB lo hi xs))) := by
 obtain ⟨W, HW⟩ : ∃ W, Hid ((w.alloc (.cells #[.int .i64 lo] 3)).alloc (.cells #[.int .i64 hi] 3) = W) := ⟨_, Lib.hid rfl⟩
 have hbW : Below w.heap.size w W := by rw [← HW.out]; exact bel
 have c0 : W.cell? ⟨w.heap.size, 0, none⟩ = some (.int .i64 lo) := by rw [← HW.out]; exact (blk_cell ((heap_old (by simp)).trans (heap_new rfl)) 0).trans rfl
 have c1 : W.cell? ⟨w.heap.size + 1, 0, none⟩ = some (.int .i64 hi) := by rw [← HW.out]; exact (blk_cell (heap_new (by simp)) 0).trans rfl
 have hcon := Lib.hid (containsFunc_int v xs (fun n => decide (n < lo ∨ hi < n)) _ #[.pointer (some ⟨w.heap.size, 0, none⟩), .pointer (some ⟨w.heap.size + 1, 0, none⟩)] W (hx.below hbW) hm eg_within1 (fun x _ w' hb => within_closure x lo hi _ _ w' (below_cell hb c0) (below_cell hb c1)))
 rw [← HW.out] at hcon
 have Hr : Hid ((xs.any fun n => decide (n < lo ∨ hi < n)) = !withinB lo hi xs) := Lib.hid (by simp [withinB])
 rw [Hr.out] at hcon
 clear hx c0 c1 HW hbW
 generalize withinB lo hi xs = r at *
 go_enter Tryz.func55, Tryz.ntmps55
 go_wp2_with fail
 refine (hcon.out).mono ?_
 rintro e w1 ⟨rfl, hb1⟩
 go_wp2
 go_ret
 exact ⟨ret_bool (by simp), below_trans bel hb1⟩
def risingB : List Int → Bool
 | x :: y :: l => decide (x < y) && risingB (y :: l)
 | _ => true
theorem risingB_iff : ∀ xs : List Int, risingB xs = true ↔ ∀ i, i + 1 < xs.length → xs.getD i 0 < xs.getD (i + 1) 0
 | [] => by simp [risingB]
 | [x] => by simp [risingB]
 | x :: y :: l => by
  simp only [risingB, Bool.and_eq_true, decide_eq_true_eq, risingB_iff (y :: l)]
  constructor
  ·rintro ⟨h1, h2⟩ i hi
   cases i with
   | zero => simpa using h1
   | succ i => have := h2 i (by simpa using hi); simpa using this
  ·intro h
   refine ⟨by simpa using h 0 (by simp), fun i hi => ?_⟩
   have := h (i + 1) (by simpa using hi)
   simpa using this
theorem getDI (xs : List Int) (i : Nat) (h : i < xs.length) : xs[i] = xs.getD i 0 := by simp [List.getD, h]
theorem rising_any (v : Value) (xs : List Int) (w : World) (hx : Ints w v xs) (hm : xs.length ≤ 1000000000) :
  Calls Tryz.prog 132 #[v] w (Ret w (.bool (risingB xs))) := by
 obtain ⟨a, n, c, rfl, hn, _, hx⟩ := hx
 have Hyes : Hid ((∀ i, i + 1 < xs.length → xs.getD i 0 < xs.getD (i + 1) 0) → risingB xs = true) := Lib.hid (risingB_iff xs).2
 have Hno : Hid (∀ i, i + 1 < xs.length → ¬ xs.getD i 0 < xs.getD (i + 1) 0 → risingB xs = false) := Lib.hid (fun i hi h => by rw [Bool.eq_false_iff]; exact fun h' => h ((risingB_iff xs).1 h' i hi))
 generalize risingB xs = res at *
 go_enter Tryz.func132, Tryz.ntmps132
 go_wp2
 go_loopw [3] (fun i wr => ∃ k : Nat, 1 ≤ k ∧ (k ≤ n ∨ k = 1) ∧ i = .int .i64 k ∧ Below w.heap.size w wr ∧ Hid (∀ i, i + 1 < k → xs.getD i 0 < xs.getD (i + 1) 0)) (fun i _ => n - (intOf i).toNat)
 case atStart => exact ⟨1, by omega, by omega, rfl, Below.refl _ _, Lib.hid (fun i h => by omega)⟩
 case round =>
  obtain ⟨k, hk1, hk2, rfl, hb, Hz⟩ := hrel
  by_cases hlt : k < n
  ·obtain ⟨b, off, rfl, hi⟩ := hx (by omega)
   have c1 := below_cell hb (hi k (by omega))
   have c0 := below_cell hb (hi (k - 1) (by omega))
   have zb := World.block_lt_of_cell? wr _ c1
   simp only at zb
   rw [getDI xs k (by omega)] at c1
   rw [getDI xs (k - 1) (by omega)] at c0
   have Hnk := Lib.hid (Hno.out (k - 1) (by omega))
   rw [show k - 1 + 1 = k by omega] at Hnk
   obtain ⟨x, Hx⟩ : ∃ x, Hid (xs.getD k 0 = x) := ⟨_, Lib.hid rfl⟩
   obtain ⟨y, Hy⟩ : ∃ y, Hid (xs.getD (k - 1) 0 = y) := ⟨_, Lib.hid rfl⟩
   rw [Hx.out] at c1 Hnk
   rw [Hy.out] at c0 Hnk
   clear hx hi
   by_cases hxy : y < x
   ·go_wp2
    refine wqb ?_
    repeat (first | go_big_quiet_step (fail) | quiet_step (fail))
    refine wqn fun u => ?_
    go_wp2
    go_roundw
    case rel => exact ⟨k + 1, by omega, by omega, by go_num, below_trans hb u.below, Lib.hid (fun i hi => by
     by_cases e : i = k - 1
     ·subst e; rw [show k - 1 + 1 = k by omega, Hx.out, Hy.out]; exact hxy
     ·exact Hz.out i (by omega))⟩
    case measure => simp [intOf]; omega
   ·go_wp2
    refine wqb ?_
    repeat (first | go_big_quiet_step (fail) | quiet_step (fail))
    refine wqn fun u => ?_
    go_wp2
    go_ret
    exact ⟨ret_bool (Hnk.out hxy).symm, below_trans hb u.below⟩
  ·have Hy := Lib.hid (Hyes.out (fun i hi => Hz.out i (by omega)))
   clear hx
   go_wp2
   go_ret
   exact ⟨ret_bool Hy.out.symm, hb⟩
def cntB (kind n : Int) : Bool :=
 if kind = 5 then decide (3 ≤ n) else if kind = 7 then decide (1 ≤ n) else if kind = 8 then decide (8 ≤ n) && n.tmod 2 == 0 else
 n == [1, 2, 4, 6, 4, 0, 3, 0, 0, 5, 5].getD kind.toNat 0
theorem idxC_0 (w : World) : (Instr.index 171 (.agg #[.int .i64 1, .int .i64 2, .int .i64 4, .int .i64 6, .int .i64 4, .int .i64 0, .int .i64 3, .int .i64 0, .int .i64 0, .int .i64 5, .int .i64 5]) (.int .i64 0)).run Tryz.prog w = .ok (.int .i64 1) w := by kernel_rfl
set_option maxRecDepth 100000 in
theorem counted_0 (n : Int) (w : World) : Calls Tryz.prog 96 #[.int .i64 0, .int .i64 n] w fun e w' => e = .returned (.bool (n == 1)) ∧ w = w' := by
 have hi := idxC_0
 go_enter Tryz.func96, Tryz.ntmps96
 go_wp2
 go_ret
 exact ⟨rfl, rfl⟩
theorem idxC_1 (w : World) : (Instr.index 171 (.agg #[.int .i64 1, .int .i64 2, .int .i64 4, .int .i64 6, .int .i64 4, .int .i64 0, .int .i64 3, .int .i64 0, .int .i64 0, .int .i64 5, .int .i64 5]) (.int .i64 1)).run Tryz.prog w = .ok (.int .i64 2) w := by kernel_rfl
set_option maxRecDepth 100000 in
theorem counted_1 (n : Int) (w : World) : Calls Tryz.prog 96 #[.int .i64 1, .int .i64 n] w fun e w' => e = .returned (.bool (n == 2)) ∧ w = w' := by
 have hi := idxC_1
 go_enter Tryz.func96, Tryz.ntmps96
 go_wp2
 go_ret
 exact ⟨rfl, rfl⟩
theorem idxC_2 (w : World) : (Instr.index 171 (.agg #[.int .i64 1, .int .i64 2, .int .i64 4, .int .i64 6, .int .i64 4, .int .i64 0, .int .i64 3, .int .i64 0, .int .i64 0, .int .i64 5, .int .i64 5]) (.int .i64 2)).run Tryz.prog w = .ok (.int .i64 4) w := by kernel_rfl
set_option maxRecDepth 100000 in
theorem counted_2 (n : Int) (w : World) : Calls Tryz.prog 96 #[.int .i64 2, .int .i64 n] w fun e w' => e = .returned (.bool (n == 4)) ∧ w = w' := by
 have hi := idxC_2
 go_enter Tryz.func96, Tryz.ntmps96
 go_wp2
 go_ret
 exact ⟨rfl, rfl⟩
theorem idxC_3 (w : World) : (Instr.index 171 (.agg #[.int .i64 1, .int .i64 2, .int .i64 4, .int .i64 6, .int .i64 4, .int .i64 0, .int .i64 3, .int .i64 0, .int .i64 0, .int .i64 5, .int .i64 5]) (.int .i64 3)).run Tryz.prog w = .ok (.int .i64 6) w := by kernel_rfl
set_option maxRecDepth 100000 in
theorem counted_3 (n : Int) (w : World) : Calls Tryz.prog 96 #[.int .i64 3, .int .i64 n] w fun e w' => e = .returned (.bool (n == 6)) ∧ w = w' := by
 have hi := idxC_3
 go_enter Tryz.func96, Tryz.ntmps96
 go_wp2
 go_ret
 exact ⟨rfl, rfl⟩
theorem idxC_4 (w : World) : (Instr.index 171 (.agg #[.int .i64 1, .int .i64 2, .int .i64 4, .int .i64 6, .int .i64 4, .int .i64 0, .int .i64 3, .int .i64 0, .int .i64 0, .int .i64 5, .int .i64 5]) (.int .i64 4)).run Tryz.prog w = .ok (.int .i64 4) w := by kernel_rfl
set_option maxRecDepth 100000 in
theorem counted_4 (n : Int) (w : World) : Calls Tryz.prog 96 #[.int .i64 4, .int .i64 n] w fun e w' => e = .returned (.bool (n == 4)) ∧ w = w' := by
 have hi := idxC_4
 go_enter Tryz.func96, Tryz.ntmps96
 go_wp2
 go_ret
 exact ⟨rfl, rfl⟩
theorem idxC_6 (w : World) : (Instr.index 171 (.agg #[.int .i64 1, .int .i64 2, .int .i64 4, .int .i64 6, .int .i64 4, .int .i64 0, .int .i64 3, .int .i64 0, .int .i64 0, .int .i64 5, .int .i64 5]) (.int .i64 6)).run Tryz.prog w = .ok (.int .i64 3) w := by kernel_rfl
set_option maxRecDepth 100000 in
theorem counted_6 (n : Int) (w : World) : Calls Tryz.prog 96 #[.int .i64 6, .int .i64 n] w fun e w' => e = .returned (.bool (n == 3)) ∧ w = w' := by
 have hi := idxC_6
 go_enter Tryz.func96, Tryz.ntmps96
 go_wp2
 go_ret
 exact ⟨rfl, rfl⟩
theorem idxC_9 (w : World) : (Instr.index 171 (.agg #[.int .i64 1, .int .i64 2, .int .i64 4, .int .i64 6, .int .i64 4, .int .i64 0, .int .i64 3, .int .i64 0, .int .i64 0, .int .i64 5, .int .i64 5]) (.int .i64 9)).run Tryz.prog w = .ok (.int .i64 5) w := by kernel_rfl
set_option maxRecDepth 100000 in
theorem counted_9 (n : Int) (w : World) : Calls Tryz.prog 96 #[.int .i64 9, .int .i64 n] w fun e w' => e = .returned (.bool (n == 5)) ∧ w = w' := by
 have hi := idxC_9
 go_enter Tryz.func96, Tryz.ntmps96
 go_wp2
 go_ret
 exact ⟨rfl, rfl⟩
theorem idxC_10 (w : World) : (Instr.index 171 (.agg #[.int .i64 1, .int .i64 2, .int .i64 4, .int .i64 6, .int .i64 4, .int .i64 0, .int .i64 3, .int .i64 0, .int .i64 0, .int .i64 5, .int .i64 5]) (.int .i64 10)).run Tryz.prog w = .ok (.int .i64 5) w := by kernel_rfl
set_option maxRecDepth 100000 in
theorem counted_10 (n : Int) (w : World) : Calls Tryz.prog 96 #[.int .i64 10, .int .i64 n] w fun e w' => e = .returned (.bool (n == 5)) ∧ w = w' := by
 have hi := idxC_10
 go_enter Tryz.func96, Tryz.ntmps96
 go_wp2
 go_ret
 exact ⟨rfl, rfl⟩
set_option maxRecDepth 100000 in
theorem counted_5 (n : Int) (w : World) : Calls Tryz.prog 96 #[.int .i64 5, .int .i64 n] w fun e w' => e = .returned (.bool (decide (3 ≤ n))) ∧ w = w' := by
 go_enter Tryz.func96, Tryz.ntmps96
 go_wp2
 go_ret
 exact ⟨rfl, rfl⟩
set_option maxRecDepth 100000 in
theorem counted_7 (n : Int) (w : World) : Calls Tryz.prog 96 #[.int .i64 7, .int .i64 n] w fun e w' => e = .returned (.bool (decide (1 ≤ n))) ∧ w = w' := by
 go_enter Tryz.func96, Tryz.ntmps96
 go_wp2
 go_ret
 exact ⟨rfl, rfl⟩
set_option maxRecDepth 100000 in
theorem counted_8 (n : Int) (w : World) : Calls Tryz.prog 96 #[.int .i64 8, .int .i64 n] w fun e w' => e = .returned (.bool (decide (8 ≤ n) && n.tmod 2 == 0)) ∧ w = w' := by
 by_cases h : 8 ≤ n
 ·go_enter Tryz.func96, Tryz.ntmps96
  go_wp2
  go_ret
  exact ⟨ret_bool (by rw [Int.tmod_eq_emod_of_nonneg (by omega)]; simp [h]), rfl⟩
 ·go_enter Tryz.func96, Tryz.ntmps96
  go_wp2
  go_ret
  exact ⟨ret_bool (by simp; omega), rfl⟩
theorem counted_any (kind n : Int) (w : World) (hk : 0 ≤ kind ∧ kind ≤ 10) : Calls Tryz.prog 96 #[.int .i64 kind, .int .i64 n] w fun e w' => e = .returned (.bool (cntB kind n)) ∧ w = w' := by
 rcases (by omega : kind = 0 ∨ kind = 1 ∨ kind = 2 ∨ kind = 3 ∨ kind = 4 ∨ kind = 5 ∨ kind = 6 ∨ kind = 7 ∨ kind = 8 ∨ kind = 9 ∨ kind = 10) with rfl | rfl | rfl | rfl | rfl | rfl | rfl | rfl | rfl | rfl | rfl
 ·exact counted_0 n w
 ·exact counted_1 n w
 ·exact counted_2 n w
 ·exact counted_3 n w
 ·exact counted_4 n w
 ·exact counted_5 n w
 ·exact counted_6 n w
 ·exact counted_7 n w
 ·exact counted_8 n w
 ·exact counted_9 n w
 ·exact counted_10 n w
end
section
open Go.RowKit Go.Shelf
attribute [local go_sem] Ext.cell Ext.frozen
set_option maxRecDepth 100000
def enc2 (p : Int × Int) : List Value := [.int .i64 p.1, .int .i64 p.2]
theorem enc2_one (x : Int × Int) : ∀ v ∈ enc2 x, v.oneCell' = true := fun v hv => by simp [enc2] at hv; rcases hv with rfl | rfl <;> rfl
def holesTo (xs : List Int) (j : Nat) : List (Int × Int) := (List.range j).map fun t => (xs.getD (6 + 2 * t) 0, xs.getD (7 + 2 * t) 0)
theorem holesTo_succ (xs : List Int) (j : Nat) : holesTo xs (j + 1) = holesTo xs j ++ [(xs.getD (6 + 2 * j) 0, xs.getD (7 + 2 * j) 0)] := by simp [holesTo, List.range_succ]
theorem holesTo_len (xs : List Int) (j : Nat) : (holesTo xs j).length = j := by simp [holesTo]
theorem info_hole : (Tryz.prog.info? 157).map (fun i => (i.zero, i.size, i.bytes)) = some (some (.agg #[.int .i64 0, .int .i64 0]), 2, 16) := by kernel_rfl
theorem und_holes : Tryz.prog.underlying 102 = some (.slice 157) := by kernel_rfl
theorem holes_any (v : Value) (xs : List Int) (w : World) (m : Nat) (hx : Ints w v xs) (hm : xs.length = 6 + 2 * m) (hl : m ≤ 1000000) :
  Calls Tryz.prog 68 #[v] w fun e w' => ∃ r, e = .returned r ∧ Below w.heap.size w w' ∧ w'.ownsRow w.heap.size 157 2 r m ((holesTo xs m).flatMap enc2) := by
 obtain ⟨a, n, c, rfl, hn, _, hx⟩ := hx
 obtain ⟨i0, hi0, hz0, hz1, hz2⟩ := info_parts info_hole
 have Hi0 := Lib.hid (And.intro hi0 (And.intro hz0 (And.intro hz1 hz2)))
 clear hi0 hz0 hz1 hz2
 go_enter Tryz.func68, Tryz.ntmps68
 go_wp2
 go_loopw [3, 4] (fun s3 i wr => ∃ k : Nat, k ≤ m ∧ i = .int .i64 (6 + 2 * k) ∧ Below w.heap.size w wr ∧ Hid (wr.ownsRow w.heap.size 157 2 s3 k ((holesTo xs k).flatMap enc2))) (fun _ i _ => n - (intOf i).toNat)
 case atStart => exact ⟨0, by omega, rfl, Below.refl _ _, Lib.hid (World.ownsRow_nil _ _ _ _)⟩
 case round =>
  obtain ⟨k, hk, rfl, hb, HO⟩ := hrel
  by_cases hlt : k < m
  ·obtain ⟨b, off, rfl, hi⟩ := hx (by omega)
   have c0 := below_cell hb (hi (6 + 2 * k) (by omega))
   have c1 := below_cell hb (hi (6 + 2 * k + 1) (by omega))
   rw [getDI xs _ (by omega)] at c0 c1
   have zb := World.block_lt_of_cell? wr _ c0
   simp only at zb
   have Hsn := Lib.hid (holesTo_succ xs k)
   rw [show 7 + 2 * k = 6 + 2 * k + 1 by omega] at Hsn
   obtain ⟨x, Hx⟩ : ∃ x, Hid (xs.getD (6 + 2 * k) 0 = x) := ⟨_, Lib.hid rfl⟩
   obtain ⟨y, Hy⟩ : ∃ y, Hid (xs.getD (6 + 2 * k + 1) 0 = y) := ⟨_, Lib.hid rfl⟩
   rw [Hx.out] at c0 Hsn
   rw [Hy.out] at c1 Hsn
   have t1 : ((6 + 2 * (k : Int)).toNat) = 6 + 2 * k := by omega
   have t2 : ((6 + 2 * (k : Int) + 1).toNat) = 6 + 2 * k + 1 := by omega
   have q1 : (0 : Int) ≤ 6 + 2 * (k : Int) := by omega
   have q2 : (0 : Int) ≤ 6 + 2 * (k : Int) + 1 := by omega
   have q3 : 6 + 2 * (k : Int) < (n : Int) := by omega
   have q4 : 6 + 2 * (k : Int) + 1 < (n : Int) := by omega
   have zo := HO.out
   clear hx hi zo
   go_wp2
   have q5 : IntKind.i64.wrap (6 + 2 * (k : Int) + 1) = 6 + 2 * (k : Int) + 1 := IntWalk.i64_in _ (by omega)
   refine wp_region_perm (C := fun w' => ∃ u : Ext _, w' = u.val) [0] [1, 2, 3, 4, 5, 6, 7, 8, 9, 10] 11 [12, 13] (by kernel_rfl) (by kernel_rfl) ⟨Ext.drew, rfl⟩ ?_
   simp only [oas]
   repeat (refine wpW_step (fun K' hK' => ?_); go_simp; refine hK' _ ?_; clear hK' K')
   refine wpW_nil ?_
   repeat (first | go_big_quiet_step (fail) | quiet_step (fail))
   refine wpQuiet_nil ?_
   rintro _ ⟨u, rfl⟩
   clear q1 q2 q3 q4 q5 t1 t2
   iterate 1 (refine wpList_step (fun K hK => ?_); go_simp; refine hK _ _ ?_; clear hK K)
   have HO2 := Lib.hid (own_below HO.out u.below)
   have hbu : Below w.heap.size w u.val := below_trans hb u.below
   refine wpList_append_own _ rfl _ _ 102 rfl w.heap.size 157 i0 (.agg #[.int .i64 0, .int .i64 0]) 2 16 und_holes Hi0.out.1 Hi0.out.2.1 Hi0.out.2.2.1 Hi0.out.2.2.2 rfl (by decide) u3 k _ rfl (HO2.out.alloc _) ⟨u.val.heap.size, 0, none⟩ 1 1 (enc2 (x, y)) rfl rfl ?c1 ?c2 ?c3 ?c4 ?c5 ?_
   case c1 =>
    intro jj uu hu
    rw [add0, cell_new rfl jj]
    simpa [enc2] using hu
   case c2 => exact enc2_one _
   case c3 => unfold maxLen; omega
   case c4 => omega
   case c5 => simp; have := hbu.size; omega
   intro v' w2 hown2 hg2 _
   have hbw2 : Below w.heap.size w w2 := (hbu.alloc hbu.size _).grown hg2 (by simp; have := hbu.size; omega) (fun q hq => by obtain ⟨h, _⟩ := HO2.out.lt q hq; omega)
   have HO3 := Lib.hid hown2
   clear hown2 hg2 HO2 c0 c1
   go_frame
   iterate 1 (refine wpList_step (fun K hK => ?_); go_simp; refine hK _ _ ?_; clear hK K)
   refine NoPanic.normal ?_
   go_wp2
   go_roundw
   case rel => exact ⟨k + 1, by omega, by go_num, hbw2, Lib.hid (by rw [Hsn.out]; simpa using HO3.out)⟩
   case measure => simp [intOf]; omega
  ·obtain rfl : k = m := by omega
   clear hx
   go_wp2
   go_ret
   exact ⟨_, rfl, hb, HO.out⟩
end
section
open Go.RowKit Go.Shelf
attribute [local go_sem] Ext.cell Ext.frozen
def tailsB (L W : Int) (xs : List Int) : Bool :=
 decide (1 ≤ xs.getD 0 0 ∧ xs.getD 0 0 ≤ 8) && (L.tmod (xs.getD 0 0) == 0) && decide (0 < xs.getD 1 0) &&
 decide (L / xs.getD 0 0 ≤ xs.getD 2 0) && (List.range (xs.length - 3)).all (fun i => decide (xs.getD (2 + i) 0 + xs.getD 1 0 + 2 * (L / xs.getD 0 0) ≤ xs.getD (3 + i) 0)) &&
 decide (xs.getD (xs.length - 1) 0 + xs.getD 1 0 + L / xs.getD 0 0 ≤ W)
theorem ints_new {W : World} {T : TypeId} {x : Int} {g : Nat} (hg : g = W.heap.size) : Ints (W.alloc (.cells #[.int .i64 x] T)) (.slice (some ⟨g, 0, none⟩) 1 1) [x] :=
 ⟨_, _, _, rfl, rfl, Nat.le_refl _, fun _ => ⟨g, 0, rfl, fun i hi => by
  have : i = 0 := by simpa using hi
  subst this
  exact (cell_new hg 0).trans rfl⟩⟩
theorem within1_any (lo hi : Int) (W : World) (T : TypeId) (x : Int) (g : Nat) (hg : g = W.heap.size) :
  Calls Tryz.prog 55 #[.int .i64 lo, .int .i64 hi, .slice (some ⟨g, 0, none⟩) 1 1] (W.alloc (.cells #[.int .i64 x] T)) (Ret (W.alloc (.cells #[.int .i64 x] T)) (.bool (decide (lo ≤ x ∧ x ≤ hi)))) := by
 have := within_any lo hi _ [x] _ (ints_new (T := T) (x := x) hg) (by simp)
 have e : withinB lo hi [x] = decide (lo ≤ x ∧ x ≤ hi) := by
  rw [Bool.eq_iff_iff, withinB_iff]; simp
 rwa [e] at this
set_option maxRecDepth 100000 in
theorem rightTails_any (L W : Int) (v : Value) (xs : List Int) (w : World) (hx : Ints w v xs) (hl : 3 ≤ xs.length) (hm : xs.length ≤ 1000000) (hb : ∀ x ∈ xs, -1000000 ≤ x ∧ x ≤ 1000000) (hL : 1 ≤ L ∧ L ≤ 1000000) :
  Calls Tryz.prog 133 #[.int .i64 L, .int .i64 W, v] w (Ret w (.bool (tailsB L W xs))) := by
 obtain ⟨a, n, c, rfl, hn, hc, hx⟩ := hx
 obtain ⟨q, rfl⟩ : ∃ q, n = q + 2 := ⟨n - 2, by omega⟩
 obtain ⟨b, off, rfl, hi⟩ := hx (by omega)
 have c0 := hi 0 (by omega)
 have c1 := hi 1 (by omega)
 have zb := World.block_lt_of_cell? w _ c0
 simp only at zb
 rw [getDI xs _ (by omega)] at c0 c1
 rw [Nat.add_zero] at c0
 have n0 : (0 : Int) < ((q + 2 : Nat) : Int) := by omega
 have n1 : (1 : Int) < ((q + 2 : Nat) : Int) := by omega
 have n2 : (2 : Int) ≤ ((q + 2 : Nat) : Int) := by omega
 have n3 : 2 < c := by omega
 have n4 : 1 < q + 2 := by omega
 have n5 : 2 ≤ q + 2 := by omega
 have HI := Lib.hid hi
 have HB : Hid (∀ i, i < xs.length → -1000000 ≤ xs.getD i 0 ∧ xs.getD i 0 ≤ 1000000) := Lib.hid (fun i h => by rw [← getDI xs i h]; exact hb _ (List.getElem_mem h))
 have hbs := HB.out 0 (by omega)
 have hbw := HB.out 1 (by omega)
 have Hfalse1 : Hid (¬ (1 ≤ xs.getD 0 0 ∧ xs.getD 0 0 ≤ 8) → tailsB L W xs = false) := Lib.hid (fun h => by unfold tailsB; rw [decide_eq_false h]; rfl)
 have Hfalse2 : Hid ((L.tmod (xs.getD 0 0) == 0) = false → tailsB L W xs = false) := Lib.hid (fun h => by unfold tailsB; rw [h]; simp)
 have Hfalse3 : Hid (¬ 0 < xs.getD 1 0 → tailsB L W xs = false) := Lib.hid (fun h => by unfold tailsB; rw [decide_eq_false h]; simp)
 have Hfalse4 : Hid (¬ L / xs.getD 0 0 ≤ xs.getD 2 0 → tailsB L W xs = false) := Lib.hid (fun h => by unfold tailsB; rw [decide_eq_false h]; simp)
 have Hfalse5 : Hid (∀ i, i < xs.length - 3 → ¬ xs.getD (2 + i) 0 + xs.getD 1 0 + 2 * (L / xs.getD 0 0) ≤ xs.getD (3 + i) 0 → tailsB L W xs = false) := Lib.hid (fun i hi h => by
  have : (List.range (xs.length - 3)).all (fun i => decide (xs.getD (2 + i) 0 + xs.getD 1 0 + 2 * (L / xs.getD 0 0) ≤ xs.getD (3 + i) 0)) = false := by
   rw [List.all_eq_false]; exact ⟨i, by simpa using hi, by simpa using h⟩
  unfold tailsB; rw [this]; simp)
 have Htrue : Hid ((1 ≤ xs.getD 0 0 ∧ xs.getD 0 0 ≤ 8) → (L.tmod (xs.getD 0 0) == 0) = true → 0 < xs.getD 1 0 → L / xs.getD 0 0 ≤ xs.getD 2 0 → (∀ i, i < xs.length - 3 → xs.getD (2 + i) 0 + xs.getD 1 0 + 2 * (L / xs.getD 0 0) ≤ xs.getD (3 + i) 0) → tailsB L W xs = decide (xs.getD (xs.length - 1) 0 + xs.getD 1 0 + L / xs.getD 0 0 ≤ W)) := Lib.hid (fun h1 h2 h3 h4 h5 => by
  have : (List.range (xs.length - 3)).all (fun i => decide (xs.getD (2 + i) 0 + xs.getD 1 0 + 2 * (L / xs.getD 0 0) ≤ xs.getD (3 + i) 0)) = true := by
   rw [List.all_eq_true]; intro i hi; exact decide_eq_true (h5 i (by simpa using hi))
  unfold tailsB; rw [decide_eq_true h1, h2, decide_eq_true h3, decide_eq_true h4, this]; rfl)
 generalize tailsB L W xs = res at *
 generalize xs.getD 0 0 = s at *
 generalize xs.getD 1 0 = ww at *
 clear hx hi hb
 by_cases hs : 1 ≤ s ∧ s ≤ 8
 ·have hsd : (decide (1 ≤ s ∧ s ≤ 8)) = true := decide_eq_true hs
  have hw1 := fun W' g hg => Lib.hid (within1_any 1 8 W' 3 s g hg)
  rw [hsd] at hw1
  clear hsd
  cases hdv : (L.tmod s == 0) with
  | false =>
   have He := Lib.hid (Hfalse2.out hdv)
   have hdi := fun W' => Lib.hid (divides_any s L W' (by omega))
   rw [hdv] at hdi
   clear hdv
   go_enter Tryz.func133, Tryz.ntmps133
   go_wp2
   refine wqb ?_
   repeat (first | go_big_quiet_step (fail) | quiet_step (fail))
   refine wqn fun u => ?_
   go_wp2_with fail
   refine ((hw1 _ _ (by simp)).out).mono ?_
   rintro e w1 ⟨rfl, hb1⟩
   go_wp2_with fail
   refine ((hdi _).out).mono ?_
   rintro e w2 ⟨rfl, rfl⟩
   go_wp2
   go_ret
   exact ⟨ret_bool He.out.symm, below_trans u.below (below_trans bel hb1)⟩
  | true =>
   have Hdv := Lib.hid hdv
   have hdi := fun W' => Lib.hid (divides_any s L W' (by omega))
   rw [hdv] at hdi
   clear hdv
   by_cases hww : 0 < ww
   ·obtain ⟨k, Hk⟩ : ∃ k, Hid (L / s = k) := ⟨_, Lib.hid rfl⟩
    have hk0 : 0 ≤ k ∧ k ≤ 1000000 := by
     rw [← Hk.out]
     exact ⟨Int.ediv_nonneg (by omega) (by omega), Int.le_trans (Int.ediv_le_self _ (by omega)) (by omega)⟩
    rw [Hk.out] at Hfalse4 Hfalse5 Htrue
    go_enter Tryz.func133, Tryz.ntmps133
    go_wp2
    refine wqb ?_
    repeat (first | go_big_quiet_step (fail) | quiet_step (fail))
    refine wqn fun u => ?_
    go_wp2_with fail
    refine ((hw1 _ _ (by simp)).out).mono ?_
    rintro e w1 ⟨rfl, hb1⟩
    go_wp2_with fail
    refine ((hdi _).out).mono ?_
    rintro e w2 ⟨rfl, rfl⟩
    have hbw1 : Below w.heap.size w w1 := below_trans u.below (below_trans bel hb1)
    have hkk := Hk.out
    clear hw1 hdi c0 c1 hb1
    go_wp2
    rw [hkk]
    clear hkk
    go_loopw [39] (fun i wr => ∃ j : Nat, j ≤ q ∧ i = .int .i64 j ∧ Below w.heap.size w wr ∧ Hid (1 ≤ j → k ≤ xs.getD 2 0) ∧ Hid (∀ i, i + 1 < j → xs.getD (2 + i) 0 + ww + 2 * k ≤ xs.getD (3 + i) 0)) (fun i _ => q - (intOf i).toNat)
    case atStart => exact ⟨0, by omega, rfl, hbw1, Lib.hid (fun h => by omega), Lib.hid (fun i h => by omega)⟩
    case round =>
     clear hbw1
     obtain ⟨j, hj, rfl, hbj, H1, H2⟩ := hrel
     by_cases hlt : j < q
     ·by_cases hj0 : j = 0
      ·subst hj0
       have c2 := below_cell hbj (HI.out 2 (by omega))
       have bp := HB.out 2 (by omega)
       rw [getDI xs _ (by omega)] at c2
       have zr := World.block_lt_of_cell? wr _ c2
       simp only at zr
       have Hf := Lib.hid Hfalse4.out
       generalize xs.getD 2 0 = p0 at *
       by_cases hp : k ≤ p0
       ·have hpd : decide (p0 < k) = false := by simpa using hp
        go_wp2
        refine wqb ?_
        repeat (first | go_big_quiet_step (fail) | quiet_step (fail))
        refine wqn fun u => ?_
        go_wp2
        go_roundw
        case rel => exact ⟨1, by omega, by go_num, below_trans hbj u.below, Lib.hid (fun _ => hp), Lib.hid (fun i hi => by omega)⟩
        case measure => simp [intOf]; omega
       ·have hpd : decide (p0 < k) = true := by simpa using hp
        go_wp2
        refine wqb ?_
        repeat (first | go_big_quiet_step (fail) | quiet_step (fail))
        refine wqn fun u => ?_
        go_wp2
        go_ret
        exact ⟨ret_bool (Hf.out hp).symm, below_trans hbj u.below⟩
      ·have c2 := below_cell hbj (HI.out (2 + j) (by omega))
       have c1 := below_cell hbj (HI.out (2 + (j - 1)) (by omega))
       have zr := World.block_lt_of_cell? wr _ c2
       simp only at zr
       have b2 := HB.out (2 + j) (by omega)
       have b1 := HB.out (2 + (j - 1)) (by omega)
       have Hf := Lib.hid (Hfalse5.out (j - 1) (by omega))
       rw [show 3 + (j - 1) = 2 + j by omega] at Hf
       rw [getDI xs _ (by omega)] at c2 c1
       rw [← Nat.add_assoc] at c2 c1
       obtain ⟨x, Hx⟩ : ∃ x, Hid (xs.getD (2 + j) 0 = x) := ⟨_, Lib.hid rfl⟩
       obtain ⟨y, Hy⟩ : ∃ y, Hid (xs.getD (2 + (j - 1)) 0 = y) := ⟨_, Lib.hid rfl⟩
       rw [Hx.out] at c2 Hf b2
       rw [Hy.out] at c1 Hf b1
       have w1 : IntKind.i64.wrap (y + ww) = y + ww := IntWalk.i64_in _ (by omega)
       have w2 : IntKind.i64.wrap (2 * k) = 2 * k := IntWalk.i64_in _ (by omega)
       have w3 : IntKind.i64.wrap (y + ww + 2 * k) = y + ww + 2 * k := IntWalk.i64_in _ (by omega)
       have w4 : IntKind.i64.wrap ((j : Int) - 1) = ((j - 1 : Nat) : Int) := (IntWalk.i64_in _ (by omega)).trans (by omega)
       have g1 : ((j : Int) == 0) = false := by simpa using hj0
       have g2 : 0 < j := by omega
       have m1 : (0 : Int) ≤ (j : Int) := by omega
       have m2 : (j : Int) < (q : Int) := by omega
       have m3 : (0 : Int) ≤ ((j - 1 : Nat) : Int) := by omega
       have m4 : ((j - 1 : Nat) : Int) < (q : Int) := by omega
       by_cases hp : y + ww + 2 * k ≤ x
       ·have hpd : decide (x < y + ww + 2 * k) = false := by simpa using hp
        go_wp2
        refine wqb ?_
        repeat (first | go_big_quiet_step (fail) | quiet_step (fail))
        refine wqn fun u => ?_
        go_wp2
        go_roundw
        case rel => exact ⟨j + 1, by omega, by go_num, below_trans hbj u.below, Lib.hid (fun _ => H1.out (by omega)), Lib.hid (fun i hi => by
         by_cases e : i = j - 1
         ·subst e; rw [show 3 + (j - 1) = 2 + j by omega, Hx.out, Hy.out]; exact hp
         ·exact H2.out i (by omega))⟩
        case measure => simp [intOf]; omega
       ·have hpd : decide (x < y + ww + 2 * k) = true := by simpa using hp
        go_wp2
        refine wqb ?_
        repeat (first | go_big_quiet_step (fail) | quiet_step (fail))
        refine wqn fun u => ?_
        go_wp2
        go_ret
        exact ⟨ret_bool (Hf.out hp).symm, below_trans hbj u.below⟩
     ·have c2 := below_cell hbj (HI.out (2 + (q - 1)) (by omega))
      have zr := World.block_lt_of_cell? wr _ c2
      simp only at zr
      have b2 := HB.out (2 + (q - 1)) (by omega)
      rw [getDI xs _ (by omega)] at c2
      rw [← Nat.add_assoc] at c2
      have He := Lib.hid (Htrue.out hs Hdv.out hww (H1.out (by omega)) (fun i hi => H2.out i (by omega)))
      rw [show xs.length - 1 = 2 + (q - 1) by omega] at He
      generalize xs.getD (2 + (q - 1)) 0 = x at *
      have w1 : IntKind.i64.wrap (x + ww) = x + ww := IntWalk.i64_in _ (by omega)
      have w3 : IntKind.i64.wrap (x + ww + k) = x + ww + k := IntWalk.i64_in _ (by omega)
      have w4 : IntKind.i64.wrap ((q : Int) - 1) = ((q - 1 : Nat) : Int) := (IntWalk.i64_in _ (by omega)).trans (by omega)
      have m3 : (0 : Int) ≤ ((q - 1 : Nat) : Int) := by omega
      have m4 : ((q - 1 : Nat) : Int) < (q : Int) := by omega
      go_wp2
      go_ret
      exact ⟨ret_bool He.out.symm, hbj⟩
   ·have He := Lib.hid (Hfalse3.out hww)
    go_enter Tryz.func133, Tryz.ntmps133
    go_wp2
    refine wqb ?_
    repeat (first | go_big_quiet_step (fail) | quiet_step (fail))
    refine wqn fun u => ?_
    go_wp2_with fail
    refine ((hw1 _ _ (by simp)).out).mono ?_
    rintro e w1 ⟨rfl, hb1⟩
    go_wp2_with fail
    refine ((hdi _).out).mono ?_
    rintro e w2 ⟨rfl, rfl⟩
    go_wp2
    go_ret
    exact ⟨ret_bool He.out.symm, below_trans u.below (below_trans bel hb1)⟩
 ·have hsd : (decide (1 ≤ s ∧ s ≤ 8)) = false := decide_eq_false hs
  have hw1 := fun W' g hg => Lib.hid (within1_any 1 8 W' 3 s g hg)
  rw [hsd] at hw1
  have He := Lib.hid (Hfalse1.out hs)
  clear hsd hs
  go_enter Tryz.func133, Tryz.ntmps133
  go_wp2
  refine wqb ?_
  repeat (first | go_big_quiet_step (fail) | quiet_step (fail))
  refine wqn fun u => ?_
  go_wp2_with fail
  refine ((hw1 _ _ (by simp)).out).mono ?_
  rintro e w1 ⟨rfl, hb1⟩
  go_wp2
  go_ret
  exact ⟨ret_bool He.out.symm, below_trans u.below (below_trans bel hb1)⟩
def vJ (k l w t : Int) (n : Value) : Value := .agg #[.int .i64 k, .int .i64 l, .int .i64 w, .int .i64 t, n]
theorem ints_newL {W : World} {T : TypeId} (xs : List Int) {g : Nat} (hg : g = W.heap.size) : Ints (W.alloc (.cells (xs.map (Value.int .i64)).toArray T)) (.slice (some ⟨g, 0, none⟩) xs.length xs.length) xs :=
 ⟨_, _, _, rfl, rfl, Nat.le_refl _, fun _ => ⟨g, 0, rfl, fun i hi => by
  refine (cell_new hg _).trans ?_
  simp [hi]⟩⟩
set_option maxRecDepth 100000 in
theorem right_0 (l w t : Int) (nv : Value) (n : List Int) (W : World) (hn : Ints W nv n) (hl : n.length = 1) :
  Calls Tryz.prog 97 #[vJ 0 l w t nv] W (Ret W (.bool (risingB [0, n.getD 0 0, t]))) := by
 unfold vJ
 obtain ⟨a, m, c, rfl, hm, hc, hx⟩ := hn
 obtain ⟨b, off, rfl, hi⟩ := hx (by omega)
 have c0 := hi 0 (by omega)
 have zb := World.block_lt_of_cell? W _ c0
 simp only at zb
 rw [getDI n _ (by omega)] at c0
 rw [Nat.add_zero] at c0
 generalize n.getD 0 0 = x at *
 obtain rfl : m = 1 := by omega
 have hr := fun W' g hg => Lib.hid (rising_any _ [0, x, t] _ (ints_newL (W := W') (T := 3) (g := g) [0, x, t] hg) (by simp))
 clear hi hx hm
 go_enter Tryz.func97, Tryz.ntmps97
 go_wp2
 refine wqb ?_
 repeat (first | go_big_quiet_step (fail) | quiet_step (fail))
 refine wqn fun u => ?_
 go_wp2_with fail
 refine ((hr _ _ rfl).out).mono ?_
 rintro e w1 ⟨rfl, hb1⟩
 go_wp2
 go_ret
 exact ⟨rfl, below_trans (show Below W.heap.size W u.val from bel) (below_trans bel hb1)⟩
set_option maxRecDepth 100000 in
theorem right_5 (l w t : Int) (nv : Value) (n : List Int) (W : World) (hn : Ints W nv n) (hl : 3 ≤ n.length) (hm : n.length ≤ 1000000) (hb : ∀ x ∈ n, -1000000 ≤ x ∧ x ≤ 1000000) (hL : 1 ≤ l ∧ l ≤ 1000000) :
  Calls Tryz.prog 97 #[vJ 5 l w t nv] W (Ret W (.bool (tailsB l w n))) := by
 unfold vJ
 have hr := fun W' h => Lib.hid (rightTails_any l w nv n W' (hn.below (w' := W') h) hl hm hb hL)
 clear hn
 go_enter Tryz.func97, Tryz.ntmps97
 go_wp2
 refine wqb ?_
 repeat (first | go_big_quiet_step (fail) | quiet_step (fail))
 refine wqn fun u => ?_
 go_wp2_with fail
 refine ((hr _ bel).out).mono ?_
 rintro e w1 ⟨rfl, hb1⟩
 go_wp2
 go_ret
 exact ⟨rfl, below_trans bel hb1⟩
def boxE (k l w t : Int) : Int := if (0 ≤ k ∧ k ≤ 10) ∧ withinB 1 100000 [l, w, t] = true then 0 else 2
set_option maxRecDepth 100000 in
theorem checkBox_any (k l w t : Int) (W : World) :
  Calls Tryz.prog 95 #[.int .i64 k, .agg #[.int .i64 l, .int .i64 w, .int .i64 t]] W (Ret W (.int .i64 (boxE k l w t))) := by
 by_cases hk : 0 ≤ k ∧ k ≤ 10
 ·have hi := fun W' => Lib.hid (isKind_any k W')
  rw [show decide (0 ≤ k ∧ k ≤ 10) = true from decide_eq_true hk] at hi
  cases hw : withinB 1 100000 [l, w, t] with
  | true =>
   have hr := fun W' T g hg => Lib.hid (within_any 1 100000 _ [l, w, t] _ (ints_newL (W := W') (T := T) (g := g) [l, w, t] hg) (by simp))
   rw [hw] at hr
   have He := Lib.hid (show boxE k l w t = 0 by unfold boxE; rw [if_pos ⟨hk, hw⟩])
   clear hw
   go_enter Tryz.func95, Tryz.ntmps95
   go_wp2_with fail
   refine ((hi _).out).mono ?_
   rintro e w1 ⟨rfl, rfl⟩
   go_wp2_with fail
   refine ((hr _ _ _ rfl).out).mono ?_
   rintro e w1 ⟨rfl, hb1⟩
   go_wp2
   go_ret
   exact ⟨ret_int He.out.symm, below_trans bel hb1⟩
  | false =>
   have hr := fun W' T g hg => Lib.hid (within_any 1 100000 _ [l, w, t] _ (ints_newL (W := W') (T := T) (g := g) [l, w, t] hg) (by simp))
   rw [hw] at hr
   have He := Lib.hid (show boxE k l w t = 2 by unfold boxE; rw [if_neg (fun h => by rw [hw] at h; exact Bool.false_ne_true h.2)])
   clear hw
   go_enter Tryz.func95, Tryz.ntmps95
   go_wp2_with fail
   refine ((hi _).out).mono ?_
   rintro e w1 ⟨rfl, rfl⟩
   go_wp2_with fail
   refine ((hr _ _ _ rfl).out).mono ?_
   rintro e w1 ⟨rfl, hb1⟩
   go_wp2
   go_ret
   exact ⟨ret_int He.out.symm, below_trans bel hb1⟩
 ·have hi := fun W' => Lib.hid (isKind_any k W')
  rw [show decide (0 ≤ k ∧ k ≤ 10) = false from decide_eq_false hk] at hi
  have He := Lib.hid (show boxE k l w t = 2 by unfold boxE; rw [if_neg (fun h => hk h.1)])
  go_enter Tryz.func95, Tryz.ntmps95
  go_wp2_with fail
  refine ((hi _).out).mono ?_
  rintro e w1 ⟨rfl, rfl⟩
  go_wp2
  go_ret
  exact ⟨ret_int He.out.symm, bel⟩
def checkE (k l w t : Int) (n : List Int) (rb : Bool) : Int :=
 if boxE k l w t ≠ 0 then 2 else if 24 < n.length then 8 else if cntB k n.length = false then 10 else
 if withinB (-100000) 100000 n = false then 2 else if rb = false then 3 else 0
set_option maxRecDepth 100000 in
theorem Check_any (k l w t : Int) (nv : Value) (n : List Int) (rb : Bool) (W : World) (hn : Ints W nv n) (hm : n.length ≤ 1000000)
  (hr : (0 ≤ k ∧ k ≤ 10) → withinB 1 100000 [l, w, t] = true → n.length ≤ 24 → cntB k n.length = true → withinB (-100000) 100000 n = true → ∀ W', Below W.heap.size W W' → Calls Tryz.prog 97 #[vJ k l w t nv] W' (Ret W' (.bool rb))) :
  Calls Tryz.prog 48 #[vJ k l w t nv] W (Ret W (.int .i64 (checkE k l w t n rb))) := by
 unfold vJ at *
 have h1 := fun W' => Lib.hid (checkBox_any k l w t W')
 by_cases hbx : boxE k l w t = 0
 ·rw [hbx] at h1
  by_cases h24 : 24 < n.length
  ·have He := Lib.hid (show checkE k l w t n rb = 8 by unfold checkE; rw [if_neg (by simp [hbx]), if_pos h24])
   clear hr
   obtain ⟨a, m, c, rfl, hm', hc, hx⟩ := hn
   have m24 : (24 : Int) < (m : Int) := by omega
   have m24' : 24 < m := by omega
   clear hx
   go_enter Tryz.func48, Tryz.ntmps48
   go_wp2_with fail
   refine ((h1 _).out).mono ?_
   rintro e w1 ⟨rfl, hb1⟩
   have hw1 := below_trans (show Below W.heap.size W (W.alloc (.cells #[.int .i64 k, .int .i64 l, .int .i64 w, .int .i64 t, .slice a m c] 25)) from bel) hb1
   have c0 := below_cell hb1 ((cell_new rfl 0).trans rfl : _ = some (.int .i64 k))
   have c4 := below_cell hb1 ((cell_new rfl 4).trans rfl : _ = some (.slice a m c))
   have c1 := below_cell hb1 ((cell_new rfl 1).trans rfl : _ = some (.int .i64 l))
   have c2 := below_cell hb1 ((cell_new rfl 2).trans rfl : _ = some (.int .i64 w))
   have c3 := below_cell hb1 ((cell_new rfl 3).trans rfl : _ = some (.int .i64 t))
   go_wp2
   go_ret
   exact ⟨ret_int He.out.symm, hw1⟩
  ·obtain ⟨hk, hwi⟩ : (0 ≤ k ∧ k ≤ 10) ∧ withinB 1 100000 [l, w, t] = true := by
    unfold boxE at hbx
    split at hbx
    ·assumption
    ·simp at hbx
   have h2 := fun W' => Lib.hid (counted_any k n.length W' hk)
   cases hc : cntB k n.length with
   | false =>
    have He := Lib.hid (show checkE k l w t n rb = 10 by unfold checkE; rw [if_neg (by simp [hbx]), if_neg h24, if_pos hc])
    rw [hc] at h2
    clear hr hc
    obtain ⟨a, m, c, rfl, hm', hc, hx⟩ := hn
    rw [hm'] at h2
    have m24 : ¬ 24 < m := by omega
    clear hx
    go_enter Tryz.func48, Tryz.ntmps48
    go_wp2_with fail
    refine ((h1 _).out).mono ?_
    rintro e w1 ⟨rfl, hb1⟩
    have hw1 := below_trans (show Below W.heap.size W (W.alloc (.cells #[.int .i64 k, .int .i64 l, .int .i64 w, .int .i64 t, .slice a m c] 25)) from bel) hb1
    have c0 := below_cell hb1 ((cell_new rfl 0).trans rfl : _ = some (.int .i64 k))
    have c4 := below_cell hb1 ((cell_new rfl 4).trans rfl : _ = some (.slice a m c))
    have c1 := below_cell hb1 ((cell_new rfl 1).trans rfl : _ = some (.int .i64 l))
    have c2 := below_cell hb1 ((cell_new rfl 2).trans rfl : _ = some (.int .i64 w))
    have c3 := below_cell hb1 ((cell_new rfl 3).trans rfl : _ = some (.int .i64 t))
    go_wp2_with fail
    refine ((h2 _).out).mono ?_
    rintro e w2 ⟨rfl, rfl⟩
    go_wp2
    go_ret
    exact ⟨ret_int He.out.symm, hw1⟩
   | true =>
    rw [hc] at h2
    have h3 := fun W' h => Lib.hid (within_any (-100000) 100000 nv n W' (hn.below (w' := W') h) (by omega))
    cases hcw : withinB (-100000) 100000 n with
    | false =>
     have He := Lib.hid (show checkE k l w t n rb = 2 by unfold checkE; rw [if_neg (by simp [hbx]), if_neg h24, if_neg (by simp [hc]), if_pos hcw])
     rw [hcw] at h3
     clear hr hc hcw
     obtain ⟨a, m, c, rfl, hm', hc, hx⟩ := hn
     rw [hm'] at h2
     have m24 : ¬ 24 < m := by omega
     clear hx
     go_enter Tryz.func48, Tryz.ntmps48
     go_wp2_with fail
     refine ((h1 _).out).mono ?_
     rintro e w1 ⟨rfl, hb1⟩
     have hw1 := below_trans (show Below W.heap.size W (W.alloc (.cells #[.int .i64 k, .int .i64 l, .int .i64 w, .int .i64 t, .slice a m c] 25)) from bel) hb1
     have c0 := below_cell hb1 ((cell_new rfl 0).trans rfl : _ = some (.int .i64 k))
     have c4 := below_cell hb1 ((cell_new rfl 4).trans rfl : _ = some (.slice a m c))
     have c1 := below_cell hb1 ((cell_new rfl 1).trans rfl : _ = some (.int .i64 l))
     have c2 := below_cell hb1 ((cell_new rfl 2).trans rfl : _ = some (.int .i64 w))
     have c3 := below_cell hb1 ((cell_new rfl 3).trans rfl : _ = some (.int .i64 t))
     go_wp2_with fail
     refine ((h2 _).out).mono ?_
     rintro e w2 ⟨rfl, rfl⟩
     go_wp2_with fail
     refine ((h3 _ hw1).out).mono ?_
     rintro e w3 ⟨rfl, hb3⟩
     go_wp2
     go_ret
     exact ⟨ret_int He.out.symm, below_trans hw1 hb3⟩
    | true =>
     have He := Lib.hid (show checkE k l w t n rb = if rb = false then 3 else 0 by unfold checkE; rw [if_neg (by simp [hbx]), if_neg h24, if_neg (by simp [hc]), if_neg (by simp [hcw])])
     have h4 := fun W' h => Lib.hid (hr hk hwi (by omega) hc hcw W' h)
     rw [hcw] at h3
     clear hr hc hcw
     obtain ⟨a, m, c, rfl, hm', hc, hx⟩ := hn
     rw [hm'] at h2
     have m24 : ¬ 24 < m := by omega
     clear hx
     cases rb
     ·go_enter Tryz.func48, Tryz.ntmps48
      go_wp2_with fail
      refine ((h1 _).out).mono ?_
      rintro e w1 ⟨rfl, hb1⟩
      have hw1 := below_trans (show Below W.heap.size W (W.alloc (.cells #[.int .i64 k, .int .i64 l, .int .i64 w, .int .i64 t, .slice a m c] 25)) from bel) hb1
      have c0 := below_cell hb1 ((cell_new rfl 0).trans rfl : _ = some (.int .i64 k))
      have c4 := below_cell hb1 ((cell_new rfl 4).trans rfl : _ = some (.slice a m c))
      have c1 := below_cell hb1 ((cell_new rfl 1).trans rfl : _ = some (.int .i64 l))
      have c2 := below_cell hb1 ((cell_new rfl 2).trans rfl : _ = some (.int .i64 w))
      have c3 := below_cell hb1 ((cell_new rfl 3).trans rfl : _ = some (.int .i64 t))
      go_wp2_with fail
      refine ((h2 _).out).mono ?_
      rintro e w2 ⟨rfl, rfl⟩
      go_wp2_with fail
      refine ((h3 _ hw1).out).mono ?_
      rintro e w3 ⟨rfl, hb3⟩
      have c0 := below_cell hb3 c0
      have c1 := below_cell hb3 c1
      have c2 := below_cell hb3 c2
      have c3 := below_cell hb3 c3
      have c4 := below_cell hb3 c4
      go_wp2_with fail
      refine ((h4 _ (below_trans hw1 hb3)).out).mono ?_
      rintro e w4 ⟨rfl, hb4⟩
      go_wp2
      go_ret
      exact ⟨ret_int He.out.symm, below_trans (below_trans hw1 hb3) hb4⟩
     ·go_enter Tryz.func48, Tryz.ntmps48
      go_wp2_with fail
      refine ((h1 _).out).mono ?_
      rintro e w1 ⟨rfl, hb1⟩
      have hw1 := below_trans (show Below W.heap.size W (W.alloc (.cells #[.int .i64 k, .int .i64 l, .int .i64 w, .int .i64 t, .slice a m c] 25)) from bel) hb1
      have c0 := below_cell hb1 ((cell_new rfl 0).trans rfl : _ = some (.int .i64 k))
      have c4 := below_cell hb1 ((cell_new rfl 4).trans rfl : _ = some (.slice a m c))
      have c1 := below_cell hb1 ((cell_new rfl 1).trans rfl : _ = some (.int .i64 l))
      have c2 := below_cell hb1 ((cell_new rfl 2).trans rfl : _ = some (.int .i64 w))
      have c3 := below_cell hb1 ((cell_new rfl 3).trans rfl : _ = some (.int .i64 t))
      go_wp2_with fail
      refine ((h2 _).out).mono ?_
      rintro e w2 ⟨rfl, rfl⟩
      go_wp2_with fail
      refine ((h3 _ hw1).out).mono ?_
      rintro e w3 ⟨rfl, hb3⟩
      have c0 := below_cell hb3 c0
      have c1 := below_cell hb3 c1
      have c2 := below_cell hb3 c2
      have c3 := below_cell hb3 c3
      have c4 := below_cell hb3 c4
      go_wp2_with fail
      refine ((h4 _ (below_trans hw1 hb3)).out).mono ?_
      rintro e w4 ⟨rfl, hb4⟩
      go_wp2
      go_ret
      exact ⟨ret_int He.out.symm, below_trans (below_trans hw1 hb3) hb4⟩
 ·have He := Lib.hid (show checkE k l w t n rb = 2 by unfold checkE; rw [if_pos hbx])
  have : boxE k l w t = 2 := by unfold boxE at hbx ⊢; split at hbx <;> simp_all
  rw [this] at h1
  clear this hbx hr hn
  go_enter Tryz.func48, Tryz.ntmps48
  go_wp2_with fail
  refine ((h1 _).out).mono ?_
  rintro e w1 ⟨rfl, hb1⟩
  have hw1 := below_trans (show Below W.heap.size W (W.alloc (.cells #[.int .i64 k, .int .i64 l, .int .i64 w, .int .i64 t, nv] 25)) from bel) hb1
  have c0 := below_cell hb1 ((cell_new rfl 0).trans rfl : _ = some (.int .i64 k))
  have c4 := below_cell hb1 ((cell_new rfl 4).trans rfl : _ = some nv)
  have c1 := below_cell hb1 ((cell_new rfl 1).trans rfl : _ = some (.int .i64 l))
  have c2 := below_cell hb1 ((cell_new rfl 2).trans rfl : _ = some (.int .i64 w))
  have c3 := below_cell hb1 ((cell_new rfl 3).trans rfl : _ = some (.int .i64 t))
  go_wp2
  go_ret
  exact ⟨ret_int He.out.symm, hw1⟩
end
end Go.Proofs.YtokhkhnofkcalaaGreatDoor
