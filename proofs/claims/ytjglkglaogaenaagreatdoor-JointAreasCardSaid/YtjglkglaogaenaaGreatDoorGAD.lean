/- texts of mine, merged: Q0, P6, Q1, Q2. -/
import Derived.Test.YtjglkglaogaenaaGreatDoorGAC
import Derived.Test.YtjglkglaogaenaaGreatDoorGS
import Derived.Test.YtjglkglaogaenaaGreatDoorGAQ
import Derived.Test.YtjglkglaogaenaaGreatDoorGL
/- Plain: the areas of contact and the rules of a joint. -/
namespace Go.Proofs.YtjglkglaogaenaaGreatDoor
section
open Go.RowKit
def octo (n : List Int) : Int := 4 * n.getD 1 0 * n.getD 1 0 - 2 * (2 * n.getD 1 0 - n.getD 2 0) * (2 * n.getD 1 0 - n.getD 2 0)
def dowN (n : List Int) : Nat := (n.length - 6) / 2
def runN (t : Int) (n : List Int) : Int := (((n.getD 2 0 * t).tdiv (n.getD 1 0)).natAbs : Int)
/-- The areas of contact. -/
def areaL (k l w t : Int) (n : List Int) : Int × Int × Int :=
  if k = 0 then (0, 0, l * w)
  else if k = 1 then (0, 0, 2 * l * w)
  else if k = 2 then (0, 2 * l * (n.getD 3 0 - n.getD 2 0), 2 * l * (n.getD 1 0 - n.getD 0 0))
  else if k = 3 then (tightV ((n.getD 3 0 - n.getD 2 0) * (n.getD 5 0 - n.getD 4 0)) (n.getD 1 0), 2 * n.getD 0 0 * (n.getD 5 0 - n.getD 4 0), 2 * n.getD 0 0 * (n.getD 3 0 - n.getD 2 0))
  else if k = 4 then (tightV (w * (n.getD 3 0 - n.getD 2 0)) (n.getD 1 0), 0, 2 * n.getD 0 0 * w)
  else if k = 5 then (2 * ((n.length - 2 : Nat) : Int) * (l / n.getD 0 0) * t, 2 * ((n.length - 2 : Nat) : Int) * l * t, 0)
  else if k = 6 then (t * w, 0, runN t n * w)
  else if k = 7 then (0, (n.length : Int) * l * t, 0)
  else if k = 8 then (w * t - (dowN n : Int) * octo n + tightV (2 * (dowN n : Int) * octo n) (n.getD 5 0), 4 * (dowN n : Int) * n.getD 1 0 * (n.getD 3 0 + n.getD 4 0), 4 * (dowN n : Int) * n.getD 1 0 * (n.getD 3 0 + n.getD 4 0))
  else if k = 9 then (l * t + n.getD 1 0 * (n.getD 4 0 - n.getD 3 0) + 2 * n.getD 2 0 * (n.getD 4 0 - n.getD 3 0), l * t + n.getD 1 0 * (n.getD 4 0 - n.getD 3 0) + 2 * n.getD 2 0 * (n.getD 4 0 - n.getD 3 0), 4 * n.getD 1 0 * n.getD 2 0)
  else (2 * (n.getD 4 0 - n.getD 3 0) * t, 2 * (n.getD 2 0 - n.getD 1 0) * t, l * w - (n.getD 2 0 - n.getD 1 0) * (n.getD 4 0 - n.getD 3 0))
def thinB (t x : Int) : Bool := decide (4 * x < t)
/-- Where the pin ahead of tail i begins, at x = 0. -/
def fromP (l : Int) (n : List Int) (i : Nat) : Int := if i = 0 then 0 else n.getD (1 + i) 0 + n.getD 1 0 + l / n.getD 0 0
def pinAt (l : Int) (n : List Int) (i : Nat) : Int := n.getD (2 + i) 0 - l / n.getD 0 0 - fromP l n i
def pinsTo (l : Int) (n : List Int) (j : Nat) : List Int := (List.range j).map (pinAt l n)
def pinsL (l w : Int) (n : List Int) : List Int := pinsTo l n (n.length - 2) ++ [w - fromP l n (n.length - 2)]
theorem pinsTo_succ (l : Int) (n : List Int) (j : Nat) : pinsTo l n (j + 1) = pinsTo l n j ++ [pinAt l n j] := by simp [pinsTo, List.range_succ]
theorem pinsTo_len (l : Int) (n : List Int) (j : Nat) : (pinsTo l n j).length = j := by simp [pinsTo]
def narB (t x : Int) : Bool := decide (8 * x < t)
def narrowB (l w t : Int) (n : List Int) : Bool := (pinsL l w n).any (narB t)
/-- A pin between two tails. -/
def midB (l t : Int) (n : List Int) (i : Nat) : Bool := decide (8 * (n.getD (3 + i) 0 - n.getD (2 + i) 0 - n.getD 1 0 - 2 * (l / n.getD 0 0)) < t)
def midTo (l t : Int) (n : List Int) (j : Nat) : Bool := (List.range j).any (midB l t n)
theorem midTo_succ (l t : Int) (n : List Int) (j : Nat) : midTo l t n (j + 1) = (midTo l t n j || midB l t n j) := by simp [midTo, List.range_succ]
theorem narrow_eq (l w t : Int) (n : List Int) (h : 3 ≤ n.length) :
    narrowB l w t n = (decide (8 * (n.getD 2 0 - l / n.getD 0 0) < t) || decide (8 * (w - n.getD (n.length - 1) 0 - n.getD 1 0 - l / n.getD 0 0) < t) || midTo l t n (n.length - 3)) := by
  obtain ⟨m, hm⟩ : ∃ m, n.length = m + 3 := ⟨n.length - 3, by omega⟩
  have key : ∀ j, (pinsTo l n (j + 1)).any (narB t) = (decide (8 * (n.getD 2 0 - l / n.getD 0 0) < t) || midTo l t n j) := by
    intro j
    induction j with
    | zero => simp [pinsTo, pinAt, fromP, narB, midTo, List.range_succ]
    | succ j ih =>
      rw [pinsTo_succ, List.any_append, ih, midTo_succ, Bool.or_assoc]
      congr 2
      simp only [List.any_cons, List.any_nil, Bool.or_false, narB, pinAt, fromP, midB]
      rw [if_neg (by omega), show 2 + (j + 1) = 3 + j by omega, show 1 + (j + 1) = 2 + j by omega]
      congr 1
      exact propext ⟨fun h => by omega, fun h => by omega⟩
  unfold narrowB pinsL
  rw [hm, show m + 3 - 2 = m + 1 by omega, show m + 3 - 3 = m by omega, show m + 3 - 1 = m + 2 by omega, List.any_append, key]
  have e : ([w - fromP l n (m + 1)].any (narB t)) = decide (8 * (w - n.getD (m + 2) 0 - n.getD 1 0 - l / n.getD 0 0) < t) := by
    simp only [List.any_cons, List.any_nil, Bool.or_false, narB, fromP]
    rw [if_neg (by omega), show 1 + (m + 1) = m + 2 by omega]
    congr 1
    exact propext ⟨fun h => by omega, fun h => by omega⟩
  rw [e, Bool.or_assoc, Bool.or_assoc, Bool.or_comm (midTo l t n m)]
/-- Neighbouring dowels are too near. -/
def nearAt (n : List Int) (i : Nat) : Bool := decide (n.getD (8 + 2 * i) 0 - n.getD (6 + 2 * i) 0 < 6 * n.getD 1 0)
def nearTo (n : List Int) (j : Nat) : Bool := (List.range j).any (nearAt n)
theorem nearTo_succ (n : List Int) (j : Nat) : nearTo n (j + 1) = (nearTo n j || nearAt n j) := by simp [nearTo, List.range_succ]
def nearB (n : List Int) : Bool := nearTo n (dowN n - 1)
/-- Which rules a joint breaks. -/
def brkB (k l w t : Int) (n : List Int) (r : Nat) : Bool :=
  if r = 0 then (if k = 0 ∨ k = 10 then thinB t (n.getD 0 0) || thinB t (t - n.getD 0 0) else if k = 1 then thinB t (n.getD 0 0) || (thinB t (n.getD 1 0 - n.getD 0 0) || thinB t (t - n.getD 1 0)) else false)
  else if r = 1 then (if k = 2 ∨ k = 4 then thinB t (n.getD 3 0 - n.getD 2 0) || decide (t < 2 * (n.getD 3 0 - n.getD 2 0)) else if k = 3 then thinB t (n.getD 5 0 - n.getD 4 0) || decide (t < 2 * (n.getD 5 0 - n.getD 4 0)) else false)
  else if r = 2 then (if k = 3 ∨ k = 4 then decide (2 * n.getD 0 0 < l) else if k = 8 then decide (n.getD 3 0 < 3 * n.getD 1 0) || decide (n.getD 4 0 < 3 * n.getD 1 0) else false)
  else if r = 3 then (if k = 9 then thinB t (n.getD 3 0) || thinB t (t - n.getD 4 0) else if k = 2 then decide (8 * n.getD 0 0 < w) || decide (8 * (w - n.getD 1 0) < w) else if k = 3 then decide (8 * n.getD 2 0 < w) || decide (8 * (w - n.getD 3 0) < w) else false)
  else if r = 4 then (if k = 5 then decide (n.getD 0 0 < 6) else false)
  else if r = 5 then (if k = 5 then narrowB l w t n else false)
  else if r = 6 then (if k = 6 then decide (runN t n < 6 * t) else false)
  else (if k = 8 then decide (t < 4 * n.getD 1 0) || nearB n else false)
def brkTo (k l w t : Int) (n : List Int) (j : Nat) : List Int := ((List.range j).filter (brkB k l w t n)).map (fun i : Nat => (i : Int))
theorem brkTo_succ (k l w t : Int) (n : List Int) (j : Nat) : brkTo k l w t n (j + 1) = brkTo k l w t n j ++ if brkB k l w t n j then [(j : Int)] else [] := by
  simp only [brkTo, List.range_succ, List.filter_append, List.map_append]
  congr 1
  cases h : brkB k l w t n j <;> simp [h]
theorem brkTo_len (k l w t : Int) (n : List Int) (j : Nat) : (brkTo k l w t n j).length ≤ j := by
  simp only [brkTo, List.length_map]
  exact Nat.le_trans (List.length_filter_le _ _) (by simp)
end
/- joint: Area of every joint. -/
section
open Go.RowKit Go.Shelf
attribute [local go_sem] Ext.cell Ext.frozen
theorem Good.bd {k l w t : Int} {n : List Int} (g : Good k l w t n) : ∀ i, i < n.length → -100000 ≤ n.getD i 0 ∧ n.getD i 0 ≤ 100000 := fun i h => by
  rw [← getDI n i h]
  exact (withinB_iff _ _ _).1 g.rng _ (List.getElem_mem h)
theorem Good.dims {k l w t : Int} {n : List Int} (g : Good k l w t n) : (1 ≤ l ∧ l ≤ 100000) ∧ (1 ≤ w ∧ w ≤ 100000) ∧ (1 ≤ t ∧ t ≤ 100000) := by
  have h := (withinB_iff _ _ _).1 g.size
  exact ⟨h l (by simp), h w (by simp), h t (by simp)⟩
theorem Good.tails {l w t : Int} {n : List Int} (g : Good 5 l w t n) : 1 ≤ n.getD 0 0 ∧ n.getD 0 0 ≤ 8 := by
  have h : tailsB l w n = true := g.right
  unfold tailsB at h
  simp only [Bool.and_eq_true, decide_eq_true_eq] at h
  omega
theorem Good.scarf {l w t : Int} {n : List Int} (g : Good 6 l w t n) : (1 ≤ n.getD 1 0 ∧ n.getD 1 0 ≤ 8) ∧ (-8 ≤ n.getD 2 0 ∧ n.getD 2 0 ≤ 8) := by
  have h : scarfB l t n = true := g.right
  unfold scarfB at h
  simp only [Bool.and_eq_true, decide_eq_true_eq] at h
  omega
def zeroA (k l w t : Int) (n : List Int) : Int × Int × Int := if chkE k l w t n = 0 then areaL k l w t n else (0, 0, 0)
def areaV (a : Int × Int × Int) : Value := .agg #[.int .i64 a.1, .int .i64 a.2.1, .int .i64 a.2.2]
theorem Area_ok (k l w t : Int) (nv : Value) (n : List Int) (W : World) (hn : Ints W nv n) (h0 : chkE k l w t n = 0) :
    Calls Tryz.prog 35 #[vJ k l w t nv] W (Ret W (.tuple #[areaV (areaL k l w t n), .int .i64 0])) := by
  have g := good_of h0
  have hc : ∀ W', Below W.heap.size W W' → Calls Tryz.prog 23 #[vJ k l w t nv] W' (Ret W' (.int .i64 0)) := fun W' h => by
    have := Check_all k l w t nv n W' (hn.below (w' := W') h) (by have := g.len; omega)
    rwa [h0] at this
  obtain ⟨hl, hw, ht⟩ := g.dims
  have hb := g.bd
  have h24 := g.len
  obtain ⟨a0, a1, a2, a3, a4, a5, a6, a7, a8, a9, a10⟩ := cnt_of g.cnt g.kind
  have hk := g.kind
  rcases (by omega : k = 0 ∨ k = 1 ∨ k = 2 ∨ k = 3 ∨ k = 4 ∨ k = 5 ∨ k = 6 ∨ k = 7 ∨ k = 8 ∨ k = 9 ∨ k = 10) with rfl | rfl | rfl | rfl | rfl | rfl | rfl | rfl | rfl | rfl | rfl
  · exact (Area_0 l w t nv n W hn (a0 rfl) hl hw ht hb hc).mono fun e w' h => h
  · exact (Area_1 l w t nv n W hn (a1 rfl) hl hw ht hb hc).mono fun e w' h => h
  · exact (Area_2 l w t nv n W hn (a2 rfl) hl hb hc).mono fun e w' h => h
  · exact (Area_3 l w t nv n W hn (a3 rfl) hl hw ht hb hc).mono fun e w' h => h
  · exact (Area_4 l w t nv n W hn (a4 rfl) hl hw ht hb hc).mono fun e w' h => h
  · exact (Area_5 l w t nv n W hn (a5 rfl) (by omega) (by omega) (by omega) g.tails hc).mono fun e w' h => h
  · exact (Area_6 l w t nv n W hn (a6 rfl) hw ht g.scarf.1 g.scarf.2 hc).mono fun e w' h => h
  · exact (Area_7 l w t nv n W hn (a7 rfl) h24 hl ht hc).mono fun e w' h => h
  · have := a8 rfl
    exact (Area_8 l w t nv n W (dowN n) hn (by unfold dowN; omega) (by unfold dowN; omega) (by unfold dowN; omega) hw ht hb hc).mono fun e w' h => h
  · exact (Area_9 l w t nv n W hn (a9 rfl) hl hw ht hb hc).mono fun e w' h => h
  · exact (Area_10 l w t nv n W hn (a10 rfl) hl hw ht hb hc).mono fun e w' h => h
set_option maxRecDepth 100000 in
set_option maxHeartbeats 1000000 in
theorem Area_bad (k l w t : Int) (nv : Value) (n : List Int) (W : World) (hn : Ints W nv n) (hm : n.length ≤ 1000000) (h0 : chkE k l w t n ≠ 0) :
    Calls Tryz.prog 35 #[vJ k l w t nv] W (Ret W (.tuple #[areaV (0, 0, 0), .int .i64 (chkE k l w t n)])) := by
  have Hc := fun W' h => Lib.hid (Check_all k l w t nv n W' (hn.below (w' := W') h) hm)
  generalize chkE k l w t n = ce at *
  have hne : (ce != 0) = true := by simpa using h0
  unfold vJ at *
  obtain ⟨a, m, c, rfl, hlen, hc, hx⟩ := hn
  clear hlen hc hx hm
  go_enter Tryz.func35, Tryz.ntmps35
  go_wp2_with fail
  refine ((Hc _ (by (repeat (first | exact brf | assumption | refine ble ?_ | refine blx ?_ | refine bla ?_ | refine bls ?_ | refine bld ?_)))).out).mono ?_
  rintro e w1 ⟨rfl, hb1⟩
  have hw1 := below_trans (show Below W.heap.size W ((W.alloc (.cells #[.int .i64 k, .int .i64 l, .int .i64 w, .int .i64 t, .slice a m c] 25)).alloc (.cells #[.int .i64 0, .int .i64 0, .int .i64 0] 22)) by (repeat (first | exact brf | assumption | refine ble ?_ | refine blx ?_ | refine bla ?_ | refine bls ?_ | refine bld ?_))) hb1
  have HR := Lib.hid ((hb1.block (W.heap.size + 1) (by simp)).trans (heap_new (by simp)))
  have e0 := (blk_cell HR.out 0).trans rfl
  have e1 := (blk_cell HR.out 1).trans rfl
  have e2 := (blk_cell HR.out 2).trans rfl
  have f0 := blk_free HR.out 0
  have f1 := blk_free HR.out 1
  have f2 := blk_free HR.out 2
  have zu := blk_lt HR.out
  simp only [List.getElem?_toArray, List.getElem?_cons_zero, List.getElem?_cons_succ] at e0 e1 e2
  go_wp2
  refine bodyPost_ret (v := .tuple #[.agg #[.int .i64 0, .int .i64 0, .int .i64 0], .int .i64 ce]) (by simp [results, Tryz.results35, go_sem, e0, e1, e2]) rfl ⟨rfl, ?_⟩
  first | exact hw1 | (refine Below.setCell (Below.setCell (Below.setCell hw1 ?_ _) ?_ _) ?_ _ <;> simp)
end
/- joint: thin, near, pins; the reference: less, run, Gap. -/
section
open Go.RowKit Go.Shelf
attribute [local go_sem] Ext.cell Ext.frozen
def IsBx (B : Nat) (T : TypeId) (cs : Array Value) : Value → World → Prop := fun v w => ∃ g, v = .pointer (some ⟨g, 0, none⟩) ∧ B ≤ g ∧ w.heap[g]? = some (.cells cs T (0, 0))
theorem stab_bx (B : Nat) (T : TypeId) (cs : Array Value) : Stab (IsBx B T cs) := fun _ _ _ hb ⟨g, h1, h2, h3⟩ => ⟨g, h1, h2, (hb.block g (blk_lt h3)).trans h3⟩
theorem thin_closure (x t : Int) (b : Nat) (W : World) (h0 : W.cell? ⟨b, 0, none⟩ = some (.int .i64 t)) (hx : -1000000 ≤ x ∧ x ≤ 1000000) :
    Calls Tryz.prog 187 #[.int .i64 x, .pointer (some ⟨b, 0, none⟩)] W (Ret W (.bool (thinB t x))) := by
  go_enter Tryz.func187, Tryz.ntmps187
  go_wp2
  go_ret
  exact ⟨ret_bool (by simp [thinB]), Below.refl _ _⟩
theorem eg_thin1 : ∀ args w, (callFunc 187 args).run Tryz.prog w = .ok (.enter 187 args) w := enters_of Tryz.func187 (by kernel_rfl) rfl
set_option maxHeartbeats 1000000 in
theorem thin_any (t : Int) (v : Value) (xs : List Int) (w : World) (hx : Ints w v xs) (hm : xs.length ≤ 1000000000) (hb : ∀ x ∈ xs, -1000000 ≤ x ∧ x ≤ 1000000) :
    Calls Tryz.prog 144 #[.int .i64 t, v] w (Ret w (.bool (xs.any (thinB t)))) := by
  obtain ⟨W, HW⟩ : ∃ W, Hid (w.alloc (.cells #[.int .i64 t] 3) = W) := ⟨_, Lib.hid rfl⟩
  have hbW : Below w.heap.size w W := by rw [← HW.out]; (repeat (first | exact brf | assumption | refine ble ?_ | refine blx ?_ | refine bla ?_ | refine bls ?_ | refine bld ?_))
  have c0 : W.cell? ⟨w.heap.size, 0, none⟩ = some (.int .i64 t) := by rw [← HW.out]; exact (cell_new rfl 0).trans rfl
  have hcon := Lib.hid (containsFunc_int v xs (thinB t) _ #[.pointer (some ⟨w.heap.size, 0, none⟩)] W (hx.below hbW) hm eg_thin1 (fun x hx w' hb' => thin_closure x t _ w' (below_cell hb' c0) (hb x hx)))
  rw [← HW.out] at hcon
  clear hx c0 HW hbW hb
  generalize xs.any (thinB t) = r at *
  go_enter Tryz.func144, Tryz.ntmps144
  go_wp2_with fail
  refine (hcon.out).mono ?_
  rintro e w1 ⟨rfl, hb1⟩
  go_wp2
  go_ret
  exact ⟨rfl, below_trans (by (repeat (first | exact brf | assumption | refine ble ?_ | refine blx ?_ | refine bla ?_ | refine bls ?_ | refine bld ?_))) hb1⟩
theorem nar_closure (x t : Int) (b : Nat) (W : World) (h0 : W.cell? ⟨b, 0, none⟩ = some (.int .i64 t)) (hx : -10000000 ≤ x ∧ x ≤ 10000000) :
    Calls Tryz.prog 146 #[.int .i64 x, .pointer (some ⟨b, 0, none⟩)] W (Ret W (.bool (narB t x))) := by
  go_enter Tryz.func146, Tryz.ntmps146
  go_wp2
  go_ret
  exact ⟨ret_bool (by simp [narB]), Below.refl _ _⟩
theorem eg_nar1 : ∀ args w, (callFunc 146 args).run Tryz.prog w = .ok (.enter 146 args) w := enters_of Tryz.func146 (by kernel_rfl) rfl
theorem less_any (t x : Int) (W : World) (hx : -1000000 ≤ x ∧ x ≤ 1000000) : Calls Tryz.prog 149 #[.agg #[.int .i64 t], .int .i64 x] W (Ret W (.bool (thinB t x))) := by
  go_enter Tryz.func149, Tryz.ntmps149
  go_wp2
  go_ret
  exact ⟨ret_bool (by simp [thinB]), by (repeat (first | exact brf | assumption | refine ble ?_ | refine blx ?_ | refine bla ?_ | refine bls ?_ | refine bld ?_))⟩
theorem abs_any (n : Int) (w : World) (hn : -1000000000000000 ≤ n ∧ n ≤ 1000000000000000) : Calls Tryz.prog 148 #[.int .i64 n] w fun e w' => e = .returned (.int .i64 (n.natAbs : Int)) ∧ w = w' := by
  by_cases h : 0 ≤ n
  · go_enter Tryz.func148, Tryz.ntmps148
    go_wp2
    all_goals go_ret
    all_goals exact ⟨ret_int (by omega), rfl⟩
  · go_enter Tryz.func148, Tryz.ntmps148
    go_wp2
    all_goals go_ret
    all_goals exact ⟨ret_int (by omega), rfl⟩
/-- The place of the gap. -/
def gapAt (k : Int) : Int := if k = 3 ∨ k = 4 then 1 else if k = 8 then 5 else -1
theorem gap_any (k : Int) (w : World) : Calls Tryz.prog 77 #[.int .i64 k] w fun e w' => e = .returned (.int .i64 (gapAt k)) ∧ w = w' := by
  by_cases h3 : k = 3
  · subst h3
    go_enter Tryz.func77, Tryz.ntmps77
    go_wp2
    go_ret
    exact ⟨rfl, rfl⟩
  · have h3' : (k == 3) = false := by simpa using h3
    by_cases h4 : k = 4
    · subst h4
      go_enter Tryz.func77, Tryz.ntmps77
      go_wp2
      go_ret
      exact ⟨rfl, rfl⟩
    · have h4' : (k == 4) = false := by simpa using h4
      by_cases h8 : k = 8
      · subst h8
        go_enter Tryz.func77, Tryz.ntmps77
        go_wp2
        go_ret
        exact ⟨rfl, rfl⟩
      · have h8' : (k == 8) = false := by simpa using h8
        go_enter Tryz.func77, Tryz.ntmps77
        go_wp2
        go_ret
        exact ⟨ret_int (by simp [gapAt, h3, h4, h8]), rfl⟩
set_option maxRecDepth 100000 in
set_option maxHeartbeats 2000000 in
theorem near_any (v : Value) (xs : List Int) (W : World) (m : Nat) (hx : Ints W v xs) (hm : xs.length = 6 + 2 * m) (h1 : 1 ≤ m) (hl : m ≤ 1000) (hb : ∀ i, i < xs.length → -100000 ≤ xs.getD i 0 ∧ xs.getD i 0 ≤ 100000) :
    Calls Tryz.prog 147 #[v] W (Ret W (.bool (nearTo xs (m - 1)))) := by
  have HH := Lib.hid (holes_any v xs W m hx hm (by omega))
  obtain ⟨b, off, c, rfl, hc, zb, hi⟩ := hx.at' (by omega)
  have c1 := hi 1 (by omega)
  have b1 := hb 1 (by omega)
  have HB := Lib.hid hb
  have Hok : Hid (∀ i, nearAt xs i = decide (xs.getD (8 + 2 * i) 0 - xs.getD (6 + 2 * i) 0 < 6 * xs.getD 1 0)) := Lib.hid (fun i => rfl)
  have Hyes : Hid (∀ i, i < m - 1 → nearAt xs i = true → nearTo xs (m - 1) = true) := Lib.hid (fun i hi h => by simp only [nearTo, List.any_eq_true]; exact ⟨i, by simpa using hi, h⟩)
  have Hno : Hid ((∀ i, i < m - 1 → nearAt xs i = false) → nearTo xs (m - 1) = false) := Lib.hid (fun h => by simp only [nearTo, List.any_eq_false]; exact fun i hi => by have := h i (by simpa using hi); simp [this])
  generalize nearTo xs (m - 1) = res at *
  rw [hm] at HH ⊢
  have n1 : (1 : Int) < ((6 + 2 * m : Nat) : Int) := by omega
  generalize xs.getD 1 0 = x1 at *
  clear hi hx hb
  go_enter Tryz.func147, Tryz.ntmps147
  go_wp2_with fail
  refine (HH.out).mono ?_
  rintro e w2 ⟨r, rfl, hb2, ho⟩
  obtain ⟨g, cap, rfl, hg1, hg2⟩ := own_form ho (by omega)
  have HC : Hid (∀ i, i < m → w2.cell? ⟨g, i * 2, none⟩ = some (.int .i64 (xs.getD (6 + 2 * i) 0))) := Lib.hid (fun i hi => by
    have := holes_cell ho i (by rw [holesTo_len]; exact hi)
    simpa [holesTo] using this.1)
  have c1 := below_cell hb2 c1
  clear ho HH
  go_wp2
  go_loopw [4] (fun i wr => ∃ k : Nat, k + 1 ≤ m ∧ i = .int .i64 ((k + 1 : Nat) : Int) ∧ Below w2.heap.size w2 wr ∧ Hid (∀ i, i < k → nearAt xs i = false)) (fun i _ => m - (intOf i).toNat)
  case atStart => exact ⟨0, by omega, rfl, Below.refl _ _, Lib.hid (fun i h => by omega)⟩
  case round =>
    obtain ⟨k, hk, rfl, hbk, HZ⟩ := hrel
    by_cases hlt : k + 1 < m
    · have cy := below_cell hbk (HC.out (k + 1) hlt)
      have cz := below_cell hbk (HC.out k (by omega))
      have c1 := below_cell hbk c1
      have zg := World.block_lt_of_cell? wr _ cy
      have zb := World.block_lt_of_cell? wr _ c1
      simp only at zg zb
      have by_ := HB.out (6 + 2 * (k + 1)) (by omega)
      have bz := HB.out (6 + 2 * k) (by omega)
      have Hokk := Lib.hid (Hok.out k)
      have Hn := Lib.hid (Hyes.out k (by omega))
      rw [show 8 + 2 * k = 6 + 2 * (k + 1) by omega] at Hokk
      generalize xs.getD (6 + 2 * (k + 1)) 0 = y at *
      generalize xs.getD (6 + 2 * k) 0 = z at *
      have kt : ((((k + 1 : Nat) : Int)) * 2).toNat = (k + 1) * 2 := by omega
      have kt2 : ((k : Int) * 2).toNat = k * 2 := by omega
      have q1 : ((k + 1 : Nat) : Int) - 1 = (k : Int) := by omega
      have q2 : ((k + 1 : Nat) : Int) < (m : Int) := by omega
      have q3 : (k : Int) < (m : Int) := by omega
      have q4 : (0 : Int) ≤ ((k + 1 : Nat) : Int) := by omega
      have q5 : (0 : Int) ≤ (k : Int) := by omega
      have q6 : IntKind.i64.wrap (((k + 1 : Nat) : Int) - 1) = (k : Int) := (IntWalk.i64_in _ (by omega)).trans (by omega)
      have q7 : IntKind.i64.wrap (y - z) = y - z := IntWalk.i64_in _ (by omega)
      have q8 : IntKind.i64.wrap (6 * x1) = 6 * x1 := IntWalk.i64_in _ (by omega)
      clear HC
      by_cases hy : y - z < 6 * x1
      · have Hf := Lib.hid (Hn.out (by rw [Hokk.out]; simpa using hy))
        go_wp2
        refine wp_region_quietB (by kernel_rfl) (by kernel_rfl) ?_
        repeat (first | go_big_quiet_step (fail) | quiet_step (fail))
        refine wpQuiet_nil ?_
        rintro _ ⟨u, rfl⟩
        go_wp2
        go_ret
        exact ⟨ret_bool Hf.out.symm, below_trans (below_trans hb2 hbk) u.below⟩
      · have Hf : Hid (nearAt xs k = false) := Lib.hid (by rw [Hokk.out]; simpa using hy)
        go_wp2
        refine wp_region_quietB (by kernel_rfl) (by kernel_rfl) ?_
        repeat (first | go_big_quiet_step (fail) | quiet_step (fail))
        refine wpQuiet_nil ?_
        rintro _ ⟨u, rfl⟩
        go_wp2
        go_roundw
        case rel => exact ⟨k + 1, by omega, by go_num, below_trans hbk u.below, Lib.hid (fun i hi => by
          by_cases e : i = k
          · subst e; exact Hf.out
          · exact HZ.out i (by omega))⟩
        case measure => simp [intOf]; omega
    · have Hf := Lib.hid (Hno.out (fun i hi => HZ.out i (by omega)))
      go_wp2
      go_ret
      exact ⟨ret_bool Hf.out.symm, below_trans hb2 hbk⟩
end
/- joint: pins; the reference: narrow, run. -/
section
open Go.RowKit Go.Shelf
attribute [local go_sem] Ext.cell Ext.frozen
theorem fromP_bd {l : Int} {n : List Int} (hl : 1 ≤ l ∧ l ≤ 100000) (h0 : 1 ≤ n.getD 0 0) (hb : ∀ i, i < n.length → -100000 ≤ n.getD i 0 ∧ n.getD i 0 ≤ 100000) {i : Nat} (hi : i + 1 < n.length) : -300000 ≤ fromP l n i ∧ fromP l n i ≤ 300000 := by
  have h1 : 0 ≤ l / n.getD 0 0 := Int.ediv_nonneg (by omega) (by omega)
  have h2 : l / n.getD 0 0 ≤ l := Int.ediv_le_self _ (by omega)
  unfold fromP
  split
  · omega
  · have := hb (1 + i) (by omega)
    have := hb 1 (by omega)
    omega
theorem pinAt_eq (l : Int) (n : List Int) (i : Nat) : pinAt l n i = n.getD (2 + i) 0 - l / n.getD 0 0 - fromP l n i := rfl
theorem fromP_succ (l : Int) (n : List Int) (i : Nat) : fromP l n (i + 1) = n.getD (2 + i) 0 + n.getD 1 0 + l / n.getD 0 0 := by
  unfold fromP
  rw [if_neg (by omega), show 1 + (i + 1) = 2 + i by omega]
theorem pins_bd {l w : Int} {n : List Int} (h3 : 3 ≤ n.length) (hl : 1 ≤ l ∧ l ≤ 100000) (hw : 1 ≤ w ∧ w ≤ 100000) (h0 : 1 ≤ n.getD 0 0 ∧ n.getD 0 0 ≤ 8)
    (hb : ∀ i, i < n.length → -100000 ≤ n.getD i 0 ∧ n.getD i 0 ≤ 100000) : ∀ x ∈ pinsL l w n, -10000000 ≤ x ∧ x ≤ 10000000 := fun x hx => by
  have h1 : 0 ≤ l / n.getD 0 0 := Int.ediv_nonneg (by omega) (by omega)
  have h2 : l / n.getD 0 0 ≤ l := Int.ediv_le_self _ (by omega)
  unfold pinsL at hx
  rcases List.mem_append.1 hx with h | h
  · simp only [pinsTo, List.mem_map, List.mem_range] at h
    obtain ⟨i, hi, rfl⟩ := h
    have := fromP_bd hl h0.1 hb (i := i) (by omega)
    have := hb (2 + i) (by omega)
    rw [pinAt_eq]
    omega
  · simp only [List.mem_singleton] at h
    subst h
    have := fromP_bd hl h0.1 hb (i := n.length - 2) (by omega)
    omega
set_option maxRecDepth 100000 in
set_option maxHeartbeats 4000000 in
theorem pins_any (l w t : Int) (nv : Value) (n : List Int) (W : World) (hn : Ints W nv n) (h3 : 3 ≤ n.length) (h24 : n.length ≤ 24) (hl : 1 ≤ l ∧ l ≤ 100000) (hw : 1 ≤ w ∧ w ≤ 100000) (h0 : 1 ≤ n.getD 0 0 ∧ n.getD 0 0 ≤ 8)
    (hb : ∀ i, i < n.length → -100000 ≤ n.getD i 0 ∧ n.getD i 0 ≤ 100000) :
    Calls Tryz.prog 145 #[vJ 5 l w t nv] W (RetL W (pinsL l w n)) := by
  obtain ⟨i0, hi0, hz0, hz1, hz2⟩ := info_parts info_intz
  have Hi0 := Lib.hid (And.intro hi0 (And.intro hz0 (And.intro hz1 hz2)))
  clear hi0 hz0 hz1 hz2
  unfold vJ
  obtain ⟨b, off, c, rfl, hc, zb, hi⟩ := hn.at' (by omega)
  obtain ⟨q, Hq⟩ : ∃ q, Hid (n.length = q + 2) := ⟨n.length - 2, Lib.hid (by omega)⟩
  have c0 := hi 0 (by omega)
  have c1 := hi 1 (by omega)
  rw [Nat.add_zero] at c0
  have q1 : 1 ≤ q := by have := Hq.out; omega
  have q6 : q ≤ 22 := by have := Hq.out; omega
  have qc : q + 2 ≤ c := by have := Hq.out; omega
  have n0 : (0 : Int) < ((q + 2 : Nat) : Int) := by omega
  have n1 : (1 : Int) < ((q + 2 : Nat) : Int) := by omega
  have n2 : (2 : Int) ≤ ((q + 2 : Nat) : Int) := by omega
  have n3 : 2 < c := by omega
  have n4 : 1 < q + 2 := by omega
  have n5 : 2 ≤ q + 2 := by omega
  have HI := Lib.hid hi
  have HB := Lib.hid hb
  have hb1 := hb 1 (by omega)
  have HF : Hid (∀ i, i ≤ q → -300000 ≤ fromP l n i ∧ fromP l n i ≤ 300000) := Lib.hid (fun i h => fromP_bd hl h0.1 hb (by have := Hq.out; omega))
  have HL : Hid (pinsL l w n = pinsTo l n q ++ [w - fromP l n q]) := Lib.hid (by unfold pinsL; rw [Hq.out]; rfl)
  have HA : Hid (∀ i, pinsTo l n (i + 1) = pinsTo l n i ++ [n.getD (2 + i) 0 - l / n.getD 0 0 - fromP l n i]) := Lib.hid (fun i => pinsTo_succ l n i)
  have HS : Hid (∀ i, fromP l n (i + 1) = n.getD (2 + i) 0 + n.getD 1 0 + l / n.getD 0 0) := Lib.hid (fun i => fromP_succ l n i)
  rw [Hq.out]
  have hs0 : (n.getD 0 0 == 0) = false := beq_eq_false_iff_ne.2 (by omega)
  obtain ⟨k, Hk⟩ : ∃ k, Hid (l / n.getD 0 0 = k) := ⟨_, Lib.hid rfl⟩
  have hk0 : 0 ≤ k ∧ k ≤ 100000 := by
    rw [← Hk.out]
    exact ⟨Int.ediv_nonneg (by omega) (by omega), Int.le_trans (Int.ediv_le_self _ (by omega)) (by omega)⟩
  rw [Hk.out] at HA HS
  have hkk := Hk.out
  generalize pinsL l w n = res at *
  generalize n.getD 0 0 = s at *
  generalize n.getD 1 0 = ww at *
  clear hn hi hb hc
  obtain ⟨V, HV⟩ : ∃ V, Hid (W.alloc (.cells #[.int .i64 5, .int .i64 l, .int .i64 w, .int .i64 t, .slice (some ⟨b, off, none⟩) (q + 2) c] 25) = V) := ⟨_, Lib.hid rfl⟩
  have hV : Below W.heap.size W V := by rw [← HV.out]; (repeat (first | exact brf | assumption | refine ble ?_ | refine blx ?_ | refine bla ?_ | refine bls ?_ | refine bld ?_))
  have v1 : V.cell? ⟨W.heap.size, 1, none⟩ = some (.int .i64 l) := by rw [← HV.out]; exact (cell_new rfl 1).trans rfl
  have v2 : V.cell? ⟨W.heap.size, 2, none⟩ = some (.int .i64 w) := by rw [← HV.out]; exact (cell_new rfl 2).trans rfl
  have v4 : V.cell? ⟨W.heap.size, 4, none⟩ = some (.slice (some ⟨b, off, none⟩) (q + 2) c) := by rw [← HV.out]; exact (cell_new rfl 4).trans rfl
  have zV := World.block_lt_of_cell? V _ v1
  simp only at zV
  have cV0 := below_cell hV c0
  have cV1 := below_cell hV c1
  have zbV := Nat.lt_of_lt_of_le zb hV.size
  go_enter Tryz.func145, Tryz.ntmps145
  go_wp2
  rw [HV.out]
  refine wp_region_quietB (by kernel_rfl) (by kernel_rfl) ?_
  repeat (first | go_big_quiet_step (fail) | quiet_step (fail))
  refine wpQuiet_nil ?_
  rintro _ ⟨u, rfl⟩
  have hbu : Below W.heap.size W u.val := below_trans hV u.below
  have d1 := below_cell u.below v1
  have d2 := below_cell u.below v2
  have zu := Nat.lt_of_lt_of_le zV u.below.size
  have HIu : Hid (∀ i, i < n.length → u.val.cell? ⟨b, off + i, none⟩ = some (.int .i64 (n.getD i 0))) := Lib.hid (fun i h => below_cell hbu (HI.out i h))
  clear cV0 cV1 c0 c1
  generalize u.val = w9 at *
  clear u
  go_wp2
  try rw [hkk]
  clear hkk
  go_loopw [7, 8, 29] (fun s f i wr => ∃ j : Nat, j ≤ q ∧ i = .int .i64 j ∧ f = .int .i64 (fromP l n j) ∧ Below w9.heap.size w9 wr ∧ Hid (wr.ownsRow w9.heap.size 3 1 s j ((pinsTo l n j).map (Value.int .i64)))) (fun _ _ i _ => q - (intOf i).toNat)
  case atStart => exact ⟨0, by omega, rfl, by simp [fromP], Below.refl _ _, Lib.hid (World.ownsRow_nil _ _ _ _)⟩
  case round =>
    obtain ⟨j, hj, rfl, rfl, hb9, HO⟩ := hrel
    have bf := HF.out j hj
    obtain ⟨sa, sc, rfl⟩ := own_sliceI HO.out
    by_cases hlt : j < q
    · have c2 := below_cell hb9 (HIu.out (2 + j) (by have := Hq.out; omega))
      have b2 := HB.out (2 + j) (by have := Hq.out; omega)
      have Hsn := Lib.hid (HA.out j)
      have Hfs := Lib.hid (HS.out j)
      rw [← Nat.add_assoc] at c2
      generalize n.getD (2 + j) 0 = x at *
      have z2 := World.block_lt_of_cell? wr _ c2
      simp only at z2
      obtain ⟨f, Hf⟩ : ∃ f, Hid (fromP l n j = f) := ⟨_, Lib.hid rfl⟩
      rw [Hf.out] at bf Hsn ⊢
      go_wp2_with (at_builtin; refine wpList_append_own _ rfl _ _ 23 rfl w9.heap.size 3 i0 (.int .i64 0) 1 8 und_ints Hi0.out.1 Hi0.out.2.1 Hi0.out.2.2.1 Hi0.out.2.2.2 rfl (by decide) _ j _ rfl (HO.out.alloc _) ⟨(wr).heap.size, 0, none⟩ 1 1 [.int .i64 (x - k - f)] rfl rfl ?c1 ?c2 ?c3 ?c4 ?c5 ?_)
      try (case c1 =>
        intro jj uu hu
        rw [add0, cell_new rfl jj]
        simpa using hu)
      case c2 => first | (intro v hv; simp at hv; subst hv; rfl) | rfl
      case c3 => unfold maxLen; omega
      case c4 => omega
      case c5 => (try simp); have := hb9.size; omega
      intro v' w2 hown2 hg2 _
      have hb2 : Below w9.heap.size w9 w2 := (hb9.alloc hb9.size _).grown hg2 (by simp; have := hb9.size; omega) (fun z hz => by have := (HO.out.lt z hz).1; omega)
      have HO2 := Lib.hid hown2
      obtain ⟨va, vc, rfl⟩ := own_sliceI hown2
      clear hown2 hg2
      go_wp2
      go_roundw
      case rel => exact ⟨j + 1, by omega, by go_num, by rw [Hfs.out], hb2, Lib.hid (by rw [Hsn.out]; simpa using HO2.out)⟩
      case measure => simp [intOf]; omega
    · obtain rfl : j = q := by omega
      have d2 := below_cell hb9 d2
      have zr := Nat.lt_of_lt_of_le zu hb9.size
      obtain ⟨f, Hf⟩ : ∃ f, Hid (fromP l n j = f) := ⟨_, Lib.hid rfl⟩
      rw [Hf.out] at bf HL ⊢
      go_wp2_with (at_builtin; refine wpList_append_own _ rfl _ _ 23 rfl w9.heap.size 3 i0 (.int .i64 0) 1 8 und_ints Hi0.out.1 Hi0.out.2.1 Hi0.out.2.2.1 Hi0.out.2.2.2 rfl (by decide) _ j _ rfl (HO.out.alloc _) ⟨(wr).heap.size, 0, none⟩ 1 1 [.int .i64 (w - f)] rfl rfl ?c1 ?c2 ?c3 ?c4 ?c5 ?_)
      try (case c1 =>
        intro jj uu hu
        rw [add0, cell_new rfl jj]
        simpa using hu)
      case c2 => first | (intro v hv; simp at hv; subst hv; rfl) | rfl
      case c3 => unfold maxLen; omega
      case c4 => omega
      case c5 => (try simp); have := hb9.size; omega
      intro v' w2 hown2 hg2 _
      have hb2 : Below w9.heap.size w9 w2 := (hb9.alloc hb9.size _).grown hg2 (by simp; have := hb9.size; omega) (fun z hz => by have := (HO.out.lt z hz).1; omega)
      have HO2 := Lib.hid hown2
      obtain ⟨va, vc, rfl⟩ := own_sliceI hown2
      clear hown2 hg2
      go_wp2
      go_ret
      refine ⟨_, rfl, below_trans hbu hb2, ?_, ok_own HO2.out⟩
      rw [HL.out]
      refine ints_own (base := w9.heap.size) (T := 3) ?_
      have := HO2.out
      simpa [pinsTo_len] using this
set_option maxRecDepth 100000 in
set_option maxHeartbeats 4000000 in
theorem run_any (l w t : Int) (nv : Value) (n : List Int) (W : World) (hn : Ints W nv n) (hlen : n.length = 3) (ht : 1 ≤ t ∧ t ≤ 100000) (h1 : 1 ≤ n.getD 1 0 ∧ n.getD 1 0 ≤ 8) (h2 : -8 ≤ n.getD 2 0 ∧ n.getD 2 0 ≤ 8) :
    Calls Tryz.prog 88 #[vJ 6 l w t nv] W (Ret W (.int .i64 (runN t n))) := by
  unfold vJ runN
  obtain ⟨b, off, c, rfl, hcc, zb, hi⟩ := hn.at' (by omega)
  have n1 := hi 1 (by omega)
  have n2 := hi 2 (by omega)
  rw [hlen]
  generalize n.getD 1 0 = x1 at *
  generalize n.getD 2 0 = x2 at *
  clear hi hn hlen hcc
  have p1 := mul_bd (a := x2) (x := t) (A := 8) (X := 100000) (by omega) (by omega) (by omega) (by omega)
  obtain ⟨m1, Hm1⟩ : ∃ m1, Hid (x2 * t = m1) := ⟨_, Lib.hid rfl⟩
  rw [Hm1.out] at p1
  have w1 : wrap64 (x2 * t) = m1 := by rw [Hm1.out]; unfold wrap64; omega
  have v1 : IntKind.i64.wrap (x2 * t) = m1 := (IntWalk.i64_in _ (by rw [Hm1.out]; omega)).trans Hm1.out
  -- b is m1
  rw [Hm1.out]
  have bd := tdiv_bd' m1 x1 800000 (by omega)
  have hx0 : ¬ x1 = 0 := by omega
  have hx0' : (x1 == 0) = false := by simp; omega
  have vq : IntKind.i64.wrap (m1.tdiv x1) = m1.tdiv x1 := IntWalk.i64_in _ (by omega)
  have hS := fun W' => Lib.hid (abs_any (m1.tdiv x1) W' (by omega))
  generalize ((m1.tdiv x1).natAbs : Int) = z at *
  go_enter Tryz.func88, Tryz.ntmps88
  go_wp2
  refine wp_region_quietB (by kernel_rfl) (by kernel_rfl) ?_
  repeat (first | go_big_quiet_step (((go_at_call 148; refine ((hS _).out).mono ?_; rintro e w9 ⟨rfl, rfl⟩; exact ⟨rfl, _, rfl⟩))) | quiet_step (((go_at_call 148; refine ((hS _).out).mono ?_; rintro e w9 ⟨rfl, rfl⟩; exact ⟨rfl, _, rfl⟩))))
  refine wpQuiet_nil ?_
  rintro _ ⟨u, rfl⟩
  go_wp2
  go_ret
  exact ⟨rfl, by (repeat (first | exact brf | assumption | refine ble ?_ | refine blx ?_ | refine bla ?_ | refine bls ?_ | refine bld ?_))⟩
set_option maxRecDepth 100000 in
set_option maxHeartbeats 4000000 in
theorem narrow_any (l w t : Int) (nv : Value) (n : List Int) (W : World) (hn : Ints W nv n) (h3 : 3 ≤ n.length) (h24 : n.length ≤ 24) (hl : 1 ≤ l ∧ l ≤ 100000) (hw : 1 ≤ w ∧ w ≤ 100000) (ht : 1 ≤ t ∧ t ≤ 100000) (h0 : 1 ≤ n.getD 0 0 ∧ n.getD 0 0 ≤ 8)
    (hb : ∀ i, i < n.length → -100000 ≤ n.getD i 0 ∧ n.getD i 0 ≤ 100000) :
    Calls Tryz.prog 150 #[vJ 5 l w t nv] W (Ret W (.bool (narrowB l w t n))) := by
  rw [narrow_eq l w t n h3]
  unfold vJ
  obtain ⟨b, off, c, rfl, hc, zb, hi⟩ := hn.at' (by omega)
  obtain ⟨q, Hq⟩ : ∃ q, Hid (n.length = q + 2) := ⟨n.length - 2, Lib.hid (by omega)⟩
  have c0 := hi 0 (by omega)
  have c1 := hi 1 (by omega)
  have cp := hi 2 (by omega)
  have cL := hi (n.length - 1) (by omega)
  rw [Nat.add_zero] at c0
  have q1 : 1 ≤ q := by have := Hq.out; omega
  have q6 : q ≤ 22 := by have := Hq.out; omega
  have qc : q + 2 ≤ c := by have := Hq.out; omega
  have n0 : (0 : Int) < ((q + 2 : Nat) : Int) := by omega
  have n1 : (1 : Int) < ((q + 2 : Nat) : Int) := by omega
  have n2 : (2 : Int) ≤ ((q + 2 : Nat) : Int) := by omega
  have n3 : 2 < c := by omega
  have n4 : 1 < q + 2 := by omega
  have n5 : 2 ≤ q + 2 := by omega
  have n6 : (0 : Int) < (q : Int) := by omega
  have HI := Lib.hid hi
  have HB := Lib.hid hb
  have hb1 := hb 1 (by omega)
  have hb2 := hb 2 (by omega)
  have hbL := hb (n.length - 1) (by omega)
  have HM : Hid (∀ i, midTo l t n (i + 1) = (midTo l t n i || decide (8 * (n.getD (3 + i) 0 - n.getD (2 + i) 0 - n.getD 1 0 - 2 * (l / n.getD 0 0)) < t))) := Lib.hid (fun i => midTo_succ l t n i)
  rw [show n.length - 1 = 2 + (q - 1) by have := Hq.out; omega] at cL hbL ⊢
  rw [show n.length - 3 = q - 1 by have := Hq.out; omega]
  rw [← Nat.add_assoc] at cL
  rw [Hq.out]
  have hs0 : (n.getD 0 0 == 0) = false := beq_eq_false_iff_ne.2 (by omega)
  have hs1 : ¬ (n.getD 0 0 = 0) := by omega
  obtain ⟨k, Hk⟩ : ∃ k, Hid (l / n.getD 0 0 = k) := ⟨_, Lib.hid rfl⟩
  have hk0 : 0 ≤ k ∧ k ≤ 100000 := by
    rw [← Hk.out]
    exact ⟨Int.ediv_nonneg (by omega) (by omega), Int.le_trans (Int.ediv_le_self _ (by omega)) (by omega)⟩
  rw [Hk.out] at HM ⊢
  have hkk := Hk.out
  have hkt : l.tdiv (n.getD 0 0) = k := by rw [Int.tdiv_eq_ediv_of_nonneg (by omega)]; exact hkk
  have kw : IntKind.i64.wrap k = k := IntWalk.i64_in _ (by omega)
  generalize n.getD 0 0 = s at *
  generalize n.getD 1 0 = ww at *
  clear hn hi hb hc
  obtain ⟨V, HV⟩ : ∃ V, Hid (W.alloc (.cells #[.int .i64 5, .int .i64 l, .int .i64 w, .int .i64 t, .slice (some ⟨b, off, none⟩) (q + 2) c] 25) = V) := ⟨_, Lib.hid rfl⟩
  have hV : Below W.heap.size W V := by rw [← HV.out]; (repeat (first | exact brf | assumption | refine ble ?_ | refine blx ?_ | refine bla ?_ | refine bls ?_ | refine bld ?_))
  have v1 : V.cell? ⟨W.heap.size, 1, none⟩ = some (.int .i64 l) := by rw [← HV.out]; exact (cell_new rfl 1).trans rfl
  have v2 : V.cell? ⟨W.heap.size, 2, none⟩ = some (.int .i64 w) := by rw [← HV.out]; exact (cell_new rfl 2).trans rfl
  have v3 : V.cell? ⟨W.heap.size, 3, none⟩ = some (.int .i64 t) := by rw [← HV.out]; exact (cell_new rfl 3).trans rfl
  have v4 : V.cell? ⟨W.heap.size, 4, none⟩ = some (.slice (some ⟨b, off, none⟩) (q + 2) c) := by rw [← HV.out]; exact (cell_new rfl 4).trans rfl
  have zV := World.block_lt_of_cell? V _ v1
  simp only at zV
  have cV0 := below_cell hV c0
  have cV1 := below_cell hV c1
  have p0 := below_cell hV cp
  have pL := below_cell hV cL
  have zbV := Nat.lt_of_lt_of_le zb hV.size
  have HIV : Hid (∀ i, i < n.length → V.cell? ⟨b, off + i, none⟩ = some (.int .i64 (n.getD i 0))) := Lib.hid (fun i h => below_cell hV (HI.out i h))
  generalize n.getD 2 0 = x at *
  generalize n.getD (2 + (q - 1)) 0 = y at *
  obtain ⟨g, Hg⟩ : ∃ g, Hid ((decide (8 * (x - k) < t) || decide (8 * (w - y - ww - k) < t)) = g) := ⟨_, Lib.hid rfl⟩
  rw [Hg.out]
  clear c0 c1 cp cL HI zb
  have w1 : IntKind.i64.wrap (x - k) = x - k := IntWalk.i64_in _ (by omega)
  have w2 : IntKind.i64.wrap (8 * (x - k)) = 8 * (x - k) := IntWalk.i64_in _ (by omega)
  have w3 : IntKind.i64.wrap (w - y) = w - y := IntWalk.i64_in _ (by omega)
  have w4 : IntKind.i64.wrap (w - y - ww) = w - y - ww := IntWalk.i64_in _ (by omega)
  have w5 : IntKind.i64.wrap (w - y - ww - k) = w - y - ww - k := IntWalk.i64_in _ (by omega)
  have w6 : IntKind.i64.wrap (8 * (w - y - ww - k)) = 8 * (w - y - ww - k) := IntWalk.i64_in _ (by omega)
  have w7 : IntKind.i64.wrap ((q : Int) - 1) = ((q - 1 : Nat) : Int) := (IntWalk.i64_in _ (by omega)).trans (by omega)
  have w8' : (0 : Int) ≤ ((q - 1 : Nat) : Int) := by omega
  have w9' : ((q - 1 : Nat) : Int) < (q : Int) := by omega
  by_cases hA : 8 * (x - k) < t
  · have hAd : decide (8 * (x - k) < t) = true := decide_eq_true hA
    have Hg1 : Hid (g = true) := Lib.hid (by rw [← Hg.out, hAd]; rfl)
    go_enter Tryz.func150, Tryz.ntmps150
    go_wp2
    rw [HV.out]
    refine wp_region_quietB (by kernel_rfl) (by kernel_rfl) ?_
    repeat (first | go_big_quiet_step (fail) | quiet_step (fail))
    refine wpQuiet_nil ?_
    rintro _ ⟨u, rfl⟩
    have d1 := below_cell u.below v1
    have d2 := below_cell u.below v2
    have d3 := below_cell u.below v3
    have zu := Nat.lt_of_lt_of_le zV u.below.size
    have e0 := below_cell u.below p0
    have eL := below_cell u.below pL
    have zbu := Nat.lt_of_lt_of_le zbV u.below.size
    have hbu : Below V.heap.size V u.val := u.below
    clear cV0 cV1
    generalize u.val = w9 at *
    clear u
    go_wp2
    try rw [hkk]
    refine wp_region_quietB (by kernel_rfl) (by kernel_rfl) ?_
    repeat (first | go_big_quiet_step (fail) | quiet_step (fail))
    refine wpQuiet_nil ?_
    rintro _ ⟨u, rfl⟩
    have hbv : Below V.heap.size V u.val := below_trans hbu u.below
    have HIu : Hid (∀ i, i < n.length → u.val.cell? ⟨b, off + i, none⟩ = some (.int .i64 (n.getD i 0))) := Lib.hid (fun i h => below_cell hbv (HIV.out i h))
    have d3 := below_cell hbv v3
    have zv := Nat.lt_of_lt_of_le zV hbv.size
    clear d1 d2 e0 eL
    generalize u.val = w8 at *
    clear u
    go_wp2
    clear w1 w2 w3 w4 w5 w6 w7 w8' w9'
    go_loopw [6, 7] (fun s i wr => ∃ j : Nat, j + 1 ≤ q ∧ i = .int .i64 ((j + 1 : Nat) : Int) ∧ (∃ o, s = .bool o ∧ Hid (o = (g || midTo l t n j))) ∧ Below V.heap.size V wr ∧ Below w8.heap.size w8 wr) (fun _ i _ => q - (intOf i).toNat)
    case atStart => exact ⟨0, by omega, rfl, ⟨_, rfl, Lib.hid (by rw [Hg1.out]; simp [midTo])⟩, hbv, Below.refl _ _⟩
    case round =>
      obtain ⟨j, hj, rfl, ⟨o, rfl, HO⟩, hbj, hb8⟩ := hrel
      by_cases hlt : j + 1 < q
      · have c2 := below_cell hb8 (HIu.out (3 + j) (by have := Hq.out; omega))
        have c1 := below_cell hb8 (HIu.out (2 + j) (by have := Hq.out; omega))
        have b2 := HB.out (3 + j) (by have := Hq.out; omega)
        have b1 := HB.out (2 + j) (by have := Hq.out; omega)
        have Hm := Lib.hid (HM.out j)
        have d3 := below_cell hb8 d3
        have zr := World.block_lt_of_cell? wr _ d3
        have zb2 := World.block_lt_of_cell? wr _ c2
        simp only at zr zb2
        rw [show off + (3 + j) = off + 2 + (j + 1) by omega] at c2
        rw [← Nat.add_assoc] at c1
        generalize n.getD (3 + j) 0 = x2 at *
        generalize n.getD (2 + j) 0 = x1 at *
        have u1 : IntKind.i64.wrap (x2 - x1) = x2 - x1 := IntWalk.i64_in _ (by omega)
        have u2 : IntKind.i64.wrap (x2 - x1 - ww) = x2 - x1 - ww := IntWalk.i64_in _ (by omega)
        have u3 : IntKind.i64.wrap (2 * k) = 2 * k := IntWalk.i64_in _ (by omega)
        have u4 : IntKind.i64.wrap (x2 - x1 - ww - 2 * k) = x2 - x1 - ww - 2 * k := IntWalk.i64_in _ (by omega)
        have u5 : IntKind.i64.wrap (8 * (x2 - x1 - ww - 2 * k)) = 8 * (x2 - x1 - ww - 2 * k) := IntWalk.i64_in _ (by omega)
        have u6 : IntKind.i64.wrap (((j + 1 : Nat) : Int) - 1) = (j : Int) := (IntWalk.i64_in _ (by omega)).trans (by omega)
        have m1 : (0 : Int) ≤ ((j + 1 : Nat) : Int) := by omega
        have m2 : ((j + 1 : Nat) : Int) < (q : Int) := by omega
        have m3 : (0 : Int) ≤ (j : Int) := by omega
        have m4 : (j : Int) < (q : Int) := by omega
        cases o
        · go_wp2
          refine wp_region_quietB (by kernel_rfl) (by kernel_rfl) ?_
          repeat (first | go_big_quiet_step (fail) | quiet_step (fail))
          refine wpQuiet_nil ?_
          rintro _ ⟨u, rfl⟩
          go_wp2
          go_roundw
          case rel => exact ⟨j + 1, by omega, by go_num, ⟨_, rfl, Lib.hid (by rw [Hm.out, ← Bool.or_assoc, ← HO.out]; simp)⟩, below_trans hbj u.below, below_trans hb8 u.below⟩
          case measure => simp [intOf]; omega
        · go_wp2
          refine wp_region_quietB (by kernel_rfl) (by kernel_rfl) ?_
          repeat (first | go_big_quiet_step (fail) | quiet_step (fail))
          refine wpQuiet_nil ?_
          rintro _ ⟨u, rfl⟩
          go_wp2
          go_roundw
          case rel => exact ⟨j + 1, by omega, by go_num, ⟨_, rfl, Lib.hid (by rw [Hm.out, ← Bool.or_assoc, ← HO.out]; simp)⟩, below_trans hbj u.below, below_trans hb8 u.below⟩
          case measure => simp [intOf]; omega
      · obtain rfl : q = j + 1 := by omega
        go_wp2
        go_ret
        exact ⟨ret_bool HO.out, below_trans hV hbj⟩
  · have hAd : decide (8 * (x - k) < t) = false := decide_eq_false hA
    have Hg1 : Hid (g = decide (8 * (w - y - ww - k) < t)) := Lib.hid (by rw [← Hg.out, hAd]; rfl)
    go_enter Tryz.func150, Tryz.ntmps150
    go_wp2
    rw [HV.out]
    refine wp_region_quietB (by kernel_rfl) (by kernel_rfl) ?_
    repeat (first | go_big_quiet_step (fail) | quiet_step (fail))
    refine wpQuiet_nil ?_
    rintro _ ⟨u, rfl⟩
    have d1 := below_cell u.below v1
    have d2 := below_cell u.below v2
    have d3 := below_cell u.below v3
    have zu := Nat.lt_of_lt_of_le zV u.below.size
    have e0 := below_cell u.below p0
    have eL := below_cell u.below pL
    have zbu := Nat.lt_of_lt_of_le zbV u.below.size
    have hbu : Below V.heap.size V u.val := u.below
    clear cV0 cV1
    generalize u.val = w9 at *
    clear u
    go_wp2
    try rw [hkk]
    refine wp_region_quietB (by kernel_rfl) (by kernel_rfl) ?_
    repeat (first | go_big_quiet_step (fail) | quiet_step (fail))
    refine wpQuiet_nil ?_
    rintro _ ⟨u, rfl⟩
    have hbv : Below V.heap.size V u.val := below_trans hbu u.below
    have HIu : Hid (∀ i, i < n.length → u.val.cell? ⟨b, off + i, none⟩ = some (.int .i64 (n.getD i 0))) := Lib.hid (fun i h => below_cell hbv (HIV.out i h))
    have d3 := below_cell hbv v3
    have zv := Nat.lt_of_lt_of_le zV hbv.size
    clear d1 d2 e0 eL
    generalize u.val = w8 at *
    clear u
    go_wp2
    clear w1 w2 w3 w4 w5 w6 w7 w8' w9'
    go_loopw [6, 7] (fun s i wr => ∃ j : Nat, j + 1 ≤ q ∧ i = .int .i64 ((j + 1 : Nat) : Int) ∧ (∃ o, s = .bool o ∧ Hid (o = (g || midTo l t n j))) ∧ Below V.heap.size V wr ∧ Below w8.heap.size w8 wr) (fun _ i _ => q - (intOf i).toNat)
    case atStart => exact ⟨0, by omega, rfl, ⟨_, rfl, Lib.hid (by rw [Hg1.out]; simp [midTo])⟩, hbv, Below.refl _ _⟩
    case round =>
      obtain ⟨j, hj, rfl, ⟨o, rfl, HO⟩, hbj, hb8⟩ := hrel
      by_cases hlt : j + 1 < q
      · have c2 := below_cell hb8 (HIu.out (3 + j) (by have := Hq.out; omega))
        have c1 := below_cell hb8 (HIu.out (2 + j) (by have := Hq.out; omega))
        have b2 := HB.out (3 + j) (by have := Hq.out; omega)
        have b1 := HB.out (2 + j) (by have := Hq.out; omega)
        have Hm := Lib.hid (HM.out j)
        have d3 := below_cell hb8 d3
        have zr := World.block_lt_of_cell? wr _ d3
        have zb2 := World.block_lt_of_cell? wr _ c2
        simp only at zr zb2
        rw [show off + (3 + j) = off + 2 + (j + 1) by omega] at c2
        rw [← Nat.add_assoc] at c1
        generalize n.getD (3 + j) 0 = x2 at *
        generalize n.getD (2 + j) 0 = x1 at *
        have u1 : IntKind.i64.wrap (x2 - x1) = x2 - x1 := IntWalk.i64_in _ (by omega)
        have u2 : IntKind.i64.wrap (x2 - x1 - ww) = x2 - x1 - ww := IntWalk.i64_in _ (by omega)
        have u3 : IntKind.i64.wrap (2 * k) = 2 * k := IntWalk.i64_in _ (by omega)
        have u4 : IntKind.i64.wrap (x2 - x1 - ww - 2 * k) = x2 - x1 - ww - 2 * k := IntWalk.i64_in _ (by omega)
        have u5 : IntKind.i64.wrap (8 * (x2 - x1 - ww - 2 * k)) = 8 * (x2 - x1 - ww - 2 * k) := IntWalk.i64_in _ (by omega)
        have u6 : IntKind.i64.wrap (((j + 1 : Nat) : Int) - 1) = (j : Int) := (IntWalk.i64_in _ (by omega)).trans (by omega)
        have m1 : (0 : Int) ≤ ((j + 1 : Nat) : Int) := by omega
        have m2 : ((j + 1 : Nat) : Int) < (q : Int) := by omega
        have m3 : (0 : Int) ≤ (j : Int) := by omega
        have m4 : (j : Int) < (q : Int) := by omega
        cases o
        · go_wp2
          refine wp_region_quietB (by kernel_rfl) (by kernel_rfl) ?_
          repeat (first | go_big_quiet_step (fail) | quiet_step (fail))
          refine wpQuiet_nil ?_
          rintro _ ⟨u, rfl⟩
          go_wp2
          go_roundw
          case rel => exact ⟨j + 1, by omega, by go_num, ⟨_, rfl, Lib.hid (by rw [Hm.out, ← Bool.or_assoc, ← HO.out]; simp)⟩, below_trans hbj u.below, below_trans hb8 u.below⟩
          case measure => simp [intOf]; omega
        · go_wp2
          refine wp_region_quietB (by kernel_rfl) (by kernel_rfl) ?_
          repeat (first | go_big_quiet_step (fail) | quiet_step (fail))
          refine wpQuiet_nil ?_
          rintro _ ⟨u, rfl⟩
          go_wp2
          go_roundw
          case rel => exact ⟨j + 1, by omega, by go_num, ⟨_, rfl, Lib.hid (by rw [Hm.out, ← Bool.or_assoc, ← HO.out]; simp)⟩, below_trans hbj u.below, below_trans hb8 u.below⟩
          case measure => simp [intOf]; omega
      · obtain rfl : q = j + 1 := by omega
        go_wp2
        go_ret
        exact ⟨ret_bool HO.out, below_trans hV hbj⟩
end
end Go.Proofs.YtjglkglaogaenaaGreatDoor
