/- texts of mine, merged: H0, H1, H2. -/
import Derived.Test.YtjglkglaogaenaaGreatDoorGAR
import Derived.Test.YtjglkglaogaenaaGreatDoorGB
/- Plain: turns and mirror images. -/
namespace Go.Proofs.YtjglkglaogaenaaGreatDoor
section
open Go.RowKit
/-- A turn: which number goes where, and its sign. -/
abbrev T6 := Q3 × Q3
def idx3 (v : Q3) (i : Int) : Int := if i = 0 then v.1 else if i = 1 then v.2.1 else v.2.2
def ofT (t : T6) (v : Q3) : Q3 := (t.2.1 * idx3 v t.1.1, t.2.2.1 * idx3 v t.1.2.1, t.2.2.2 * idx3 v t.1.2.2)
def mirB (t : T6) : Bool := crossP (ofT t (1, 0, 0)) (ofT t (0, 1, 0)) != ofT t (0, 0, 1)
def fromT (p : Nat) : Q3 := (((p / 3 : Nat) : Int), ((p % 3 : Nat) : Int), 3 - ((p / 3 : Nat) : Int) - ((p % 3 : Nat) : Int))
def signT (s : Nat) : Q3 := (1 - ((s / 4 : Nat) : Int) * 2, 1 - ((s / 2 % 2 : Nat) : Int) * 2, 1 - ((s % 2 : Nat) : Int) * 2)
/-- The turns of p's below m, as they come. -/
def tpre (m : Nat) : List T6 := ((List.range m).filter (fun j => decide (j / 8 / 3 ≠ j / 8 % 3))).map (fun j => (fromT (j / 8), signT (j % 8)))
def turnsL : List T6 := tpre 72
def all48 : List T6 := turnsL.filter (fun t => !mirB t) ++ turnsL.filter mirB
theorem turns_len : turnsL.length = 48 := by decide
theorem all_len : all48.length = 48 := by decide
theorem tpre_succ (m : Nat) : tpre (m + 1) = tpre m ++ if m / 8 / 3 ≠ m / 8 % 3 then [(fromT (m / 8), signT (m % 8))] else [] := by
  simp only [tpre, List.range_succ, List.filter_append, List.map_append]
  congr 1
  by_cases h : m / 8 / 3 = m / 8 % 3 <;> simp [h]
theorem tpre_at {p s : Nat} (hs : s < 8) (h : p / 3 ≠ p % 3) : tpre (8 * p + s + 1) = tpre (8 * p + s) ++ [(fromT p, signT s)] := by
  rw [tpre_succ, show (8 * p + s) / 8 = p by omega, show (8 * p + s) % 8 = s by omega, if_pos h]
theorem tpre_skip {p : Nat} (h : p / 3 = p % 3) : tpre (8 * (p + 1)) = tpre (8 * p) := by
  have key : ∀ s, s ≤ 8 → tpre (8 * p + s) = tpre (8 * p) := fun s => by
    induction s with
    | zero => intro _; rfl
    | succ s ih =>
      intro hs
      rw [show 8 * p + (s + 1) = 8 * p + s + 1 by omega, tpre_succ, show (8 * p + s) / 8 = p by omega, if_neg (by simpa using h), List.append_nil]
      exact ih (by omega)
  exact key 8 (Nat.le_refl _)
theorem turn_mem {p s : Nat} (hp : p < 9) (hs : s < 8) (h : p / 3 ≠ p % 3) : (fromT p, signT s) ∈ turnsL := by
  have key : ∀ m, m < 72 → m / 8 / 3 = m / 8 % 3 ∨ (fromT (m / 8), signT (m % 8)) ∈ turnsL := by decide +kernel
  have := key (8 * p + s) (by omega)
  rw [show (8 * p + s) / 8 = p by omega, show (8 * p + s) % 8 = s by omega] at this
  exact this.resolve_left h
theorem tpre_lt {p s : Nat} (hp : p < 9) (h : p / 3 ≠ p % 3) (hs : s < 8) : (tpre (8 * p + s)).length < 48 := by
  have key : ∀ m, m < 72 → m / 8 / 3 = m / 8 % 3 ∨ (tpre m).length < 48 := by decide +kernel
  have := key (8 * p + s) (by omega)
  rw [show (8 * p + s) / 8 = p by omega] at this
  exact this.resolve_left h
/-- What a turn is made of. -/
def okT (t : T6) : Prop := ((t.1.1 = 0 ∨ t.1.1 = 1 ∨ t.1.1 = 2) ∧ (t.1.2.1 = 0 ∨ t.1.2.1 = 1 ∨ t.1.2.1 = 2) ∧ (t.1.2.2 = 0 ∨ t.1.2.2 = 1 ∨ t.1.2.2 = 2)) ∧ ((t.2.1 = 1 ∨ t.2.1 = -1) ∧ (t.2.2.1 = 1 ∨ t.2.2.1 = -1) ∧ (t.2.2.2 = 1 ∨ t.2.2.2 = -1))
instance (t : T6) : Decidable (okT t) := by unfold okT; infer_instance
theorem turns_ok : ∀ t ∈ turnsL, okT t := by decide
theorem all_ok : ∀ t ∈ all48, okT t := by decide
/-- The turn with a number. -/
def turnN (n : Int) : T6 := all48.getD n.toNat ((0, 1, 2), (1, 1, 1))
theorem turnN_ok (n : Int) : okT (turnN n) := by
  unfold turnN
  by_cases h : n.toNat < all48.length
  · rw [List.getD_eq_getElem?_getD, List.getElem?_eq_getElem h]
    exact all_ok _ (List.getElem_mem h)
  · rw [List.getD_eq_getElem?_getD, List.getElem?_eq_none (by omega)]
    decide
/-- A turn moves the ways among themselves. -/
theorem turn_ways : ∀ t ∈ all48, ∀ v ∈ ways26, ofT t v ∈ ways26 := by decide +kernel
theorem turn_inj : ∀ t ∈ all48, ∀ v ∈ ways26, ∀ u ∈ ways26, ofT t v = ofT t u → v = u := by decide +kernel
end
/- solid: what a turn makes of a vector; mirrors. -/
section
open Go.RowKit Go.Shelf
attribute [local go_sem] Ext.cell Ext.frozen
/-- The four blocks. -/
structure S4 (N : Nat) (p q v : Array Value) (w : World) : Prop where
  p : w.heap[N]? = some (.cells p 171 (0, 0))
  q : w.heap[N + 1]? = some (.cells q 169 (0, 0))
  r : w.heap[N + 1 + 1]? = some (.cells #[.int .i64 0, .int .i64 0, .int .i64 0] 169 (0, 0))
  v : w.heap[N + 1 + 1 + 1]? = some (.cells v 169 (0, 0))
theorem S4.keep {N : Nat} {p q v : Array Value} {w w' : World} (h : S4 N p q v w) (hb : Below w.heap.size w w') : S4 N p q v w' :=
  ⟨(hb.block _ (blk_lt h.p)).trans h.p, (hb.block _ (blk_lt h.q)).trans h.q, (hb.block _ (blk_lt h.r)).trans h.r, (hb.block _ (blk_lt h.v)).trans h.v⟩
theorem S4.set {N : Nat} {p q v : Array Value} {w : World} (h : S4 N p q v w) (i : Nat) (u : Value) : S4 N p q (v.setIfInBounds i u) (w.setCell ⟨N + 1 + 1 + 1, i, none⟩ u) :=
  ⟨(Below.heap_setCell _ _ _ _ (by show N ≠ N + 1 + 1 + 1; omega)).trans h.p, (Below.heap_setCell _ _ _ _ (by show N + 1 ≠ N + 1 + 1 + 1; omega)).trans h.q, (Below.heap_setCell _ _ _ _ (by show N + 1 + 1 ≠ N + 1 + 1 + 1; omega)).trans h.r, blk_set h.v i u⟩
theorem s4_init (w : World) (p q : Array Value) : S4 w.heap.size p q #[.int .i64 0, .int .i64 0, .int .i64 0] ((((w.alloc (.cells p 171)).alloc (.cells q 169)).alloc (.cells #[.int .i64 0, .int .i64 0, .int .i64 0] 169)).alloc (.cells #[.int .i64 0, .int .i64 0, .int .i64 0] 169)) := by
  refine ⟨?_, ?_, ?_, ?_⟩
  · exact (heap_old (by simp <;> omega)).trans ((heap_old (by simp <;> omega)).trans ((heap_old (by simp)).trans (heap_new rfl)))
  · exact (heap_old (by simp <;> omega)).trans ((heap_old (by simp)).trans (heap_new (by simp)))
  · exact (heap_old (by simp)).trans (heap_new (by simp))
  · exact heap_new (by simp)
theorem idx3_cell {w : World} {g : Nat} {x y z : Int} {T : TypeId} (h : w.heap[g]? = some (.cells #[.int .i64 x, .int .i64 y, .int .i64 z] T (0, 0))) {n : Nat} (hn : n < 3) : w.cell? ⟨g, n, none⟩ = some (.int .i64 (idx3 (x, y, z) n)) := by
  rcases (by omega : n = 0 ∨ n = 1 ∨ n = 2) with rfl | rfl | rfl
  · exact (blk_cell h 0).trans rfl
  · exact (blk_cell h 1).trans rfl
  · exact (blk_cell h 2).trans rfl
theorem idx3_bd {x y z B : Int} (hx : -B ≤ x ∧ x ≤ B) (hy : -B ≤ y ∧ y ≤ B) (hz : -B ≤ z ∧ z ≤ B) (i : Int) : -B ≤ idx3 (x, y, z) i ∧ idx3 (x, y, z) i ≤ B := by
  unfold idx3
  split
  · exact hx
  · split
    · exact hy
    · exact hz
set_option maxRecDepth 100000 in
set_option maxHeartbeats 2000000 in
theorem of_any (n0 n1 n2 : Nat) (s0 s1 s2 x y z : Int) (w : World) (h0 : n0 < 3) (h1 : n1 < 3) (h2 : n2 < 3) (t0 : s0 = 1 ∨ s0 = -1) (t1 : s1 = 1 ∨ s1 = -1) (t2 : s2 = 1 ∨ s2 = -1)
    (hx : -1000000 ≤ x ∧ x ≤ 1000000) (hy : -1000000 ≤ y ∧ y ≤ 1000000) (hz : -1000000 ≤ z ∧ z ≤ 1000000) :
    Calls Tryz.prog 154 #[.agg #[.int .i64 n0, .int .i64 n1, .int .i64 n2, .int .i64 s0, .int .i64 s1, .int .i64 s2], .agg #[.int .i64 x, .int .i64 y, .int .i64 z]] w
      (Ret w (.agg #[.int .i64 (s0 * idx3 (x, y, z) n0), .int .i64 (s1 * idx3 (x, y, z) n1), .int .i64 (s2 * idx3 (x, y, z) n2)])) := by
  have b0 := idx3_bd hx hy hz n0
  have b1 := idx3_bd hx hy hz n1
  have b2 := idx3_bd hx hy hz n2
  obtain ⟨N, HN⟩ : ∃ N, Hid (N = w.heap.size) := ⟨_, Lib.hid rfl⟩
  have G0 : Hid (∀ w' : World, w'.heap[N + 1]? = some (.cells #[.int .i64 x, .int .i64 y, .int .i64 z] 169 (0, 0)) → w'.cell? ⟨N + 1, n0, none⟩ = some (.int .i64 (idx3 (x, y, z) n0))) := Lib.hid fun w' h => idx3_cell h h0
  have G1 : Hid (∀ w' : World, w'.heap[N + 1]? = some (.cells #[.int .i64 x, .int .i64 y, .int .i64 z] 169 (0, 0)) → w'.cell? ⟨N + 1, n1, none⟩ = some (.int .i64 (idx3 (x, y, z) n1))) := Lib.hid fun w' h => idx3_cell h h1
  have G2 : Hid (∀ w' : World, w'.heap[N + 1]? = some (.cells #[.int .i64 x, .int .i64 y, .int .i64 z] 169 (0, 0)) → w'.cell? ⟨N + 1, n2, none⟩ = some (.int .i64 (idx3 (x, y, z) n2))) := Lib.hid fun w' h => idx3_cell h h2
  generalize idx3 (x, y, z) n0 = u0 at *
  generalize idx3 (x, y, z) n1 = u1 at *
  generalize idx3 (x, y, z) n2 = u2 at *
  have D0 := mul_bd (a := s0) (x := u0) (A := 1) (X := 1000000) (by omega) (by omega) (by omega) (by omega)
  have D1 := mul_bd (a := s1) (x := u1) (A := 1) (X := 1000000) (by omega) (by omega) (by omega) (by omega)
  have D2 := mul_bd (a := s2) (x := u2) (A := 1) (X := 1000000) (by omega) (by omega) (by omega) (by omega)
  simp only [Int.reduceMul] at D0 D1 D2
  have m0 : (n0 : Int) < 3 := by omega
  have m1 : (n1 : Int) < 3 := by omega
  have m2 : (n2 : Int) < 3 := by omega
  clear b0 b1 b2 t0 t1 t2 hx hy hz h0 h1 h2
  obtain ⟨V, HV⟩ : ∃ V, Hid ((((w.alloc (.cells #[.int .i64 n0, .int .i64 n1, .int .i64 n2, .int .i64 s0, .int .i64 s1, .int .i64 s2] 171)).alloc (.cells #[.int .i64 x, .int .i64 y, .int .i64 z] 169)).alloc (.cells #[.int .i64 0, .int .i64 0, .int .i64 0] 169)).alloc (.cells #[.int .i64 0, .int .i64 0, .int .i64 0] 169) = V) := ⟨_, Lib.hid rfl⟩
  have hV : Below w.heap.size w V := by rw [← HV.out]; (repeat (first | exact brf | assumption | refine ble ?_ | refine blx ?_ | refine bla ?_ | refine bls ?_ | refine bld ?_))
  have H4 : Hid (S4 N #[.int .i64 n0, .int .i64 n1, .int .i64 n2, .int .i64 s0, .int .i64 s1, .int .i64 s2] #[.int .i64 x, .int .i64 y, .int .i64 z] #[.int .i64 0, .int .i64 0, .int .i64 0] V) := Lib.hid (by rw [← HV.out, HN.out]; exact s4_init _ _ _)
  have hbV : Below N w V := by rw [HN.out]; exact hV
  go_enter Tryz.func154, Tryz.ntmps154
  go_wp2
  rw [HV.out, ← HN.out]
  clear HV hV
  go_loopw [7] (fun i wr => ∃ k : Int, 0 ≤ k ∧ k ≤ 3 ∧ i = .int .i64 k ∧ Below N w wr ∧ Hid (S4 N #[.int .i64 n0, .int .i64 n1, .int .i64 n2, .int .i64 s0, .int .i64 s1, .int .i64 s2] #[.int .i64 x, .int .i64 y, .int .i64 z] #[.int .i64 (if k ≤ 0 then 0 else s0 * u0), .int .i64 (if k ≤ 1 then 0 else s1 * u1), .int .i64 (if k ≤ 2 then 0 else s2 * u2)] wr)) (fun i _ => (3 - intOf i).toNat)
  case atStart => exact ⟨0, by omega, by omega, rfl, hbV, H4⟩
  case round =>
    clear H4 hbV
    obtain ⟨k, hk0, hk, rfl, hb, H4⟩ := hrel
    have nN : N ≤ w.heap.size := Nat.le_of_eq HN.out
    have z0 := blk_lt H4.out.p
    have z1 := blk_lt H4.out.q
    have z2 := blk_lt H4.out.r
    have z3 := blk_lt H4.out.v
    rcases (by omega : k = 0 ∨ k = 1 ∨ k = 2 ∨ k = 3) with rfl | rfl | rfl | rfl
    · have v0 : wr.cell? ⟨N + 1 + 1 + 1, 0, none⟩ = some (.int .i64 0) := (blk_cell H4.out.v 0).trans rfl
      have y0 : wr.cell? ⟨N, 0, none⟩ = some (.int .i64 (n0 : Nat)) := (blk_cell H4.out.p 0).trans rfl
      have y1 : wr.cell? ⟨N, 3 + 0, none⟩ = some (.int .i64 s0) := (blk_cell H4.out.p (3 + 0)).trans rfl
      have y2 : wr.cell? ⟨N + 1, n0, none⟩ = some (.int .i64 u0) := G0.out _ H4.out.q
      have fz := blk_free H4.out.v 0
      go_wp2
      refine wp_region_tailB 13 (by kernel_rfl) (by kernel_rfl) ?_
      simp only [List.take_succ_cons, List.take_zero, List.drop_succ_cons, List.drop_zero]
      repeat (first | go_big_quiet_step (fail) | quiet_step (fail))
      refine wpQuiet_nil ?_
      rintro _ ⟨u, rfl⟩
      go_wp2
      go_roundw
      case rel => exact ⟨1, by omega, by omega, rfl, by (repeat (first | exact brf | assumption | refine ble ?_ | refine blx ?_ | refine bla ?_ | refine bls ?_ | refine bld ?_)), Lib.hid ((H4.out.keep u.below).set 0 _)⟩
      case measure => first | decide | (simp [intOf]; done)
    · have v0 : wr.cell? ⟨N + 1 + 1 + 1, 1, none⟩ = some (.int .i64 0) := (blk_cell H4.out.v 1).trans rfl
      have y0 : wr.cell? ⟨N, 1, none⟩ = some (.int .i64 (n1 : Nat)) := (blk_cell H4.out.p 1).trans rfl
      have y1 : wr.cell? ⟨N, 3 + 1, none⟩ = some (.int .i64 s1) := (blk_cell H4.out.p (3 + 1)).trans rfl
      have y2 : wr.cell? ⟨N + 1, n1, none⟩ = some (.int .i64 u1) := G1.out _ H4.out.q
      have fz := blk_free H4.out.v 1
      go_wp2
      refine wp_region_tailB 13 (by kernel_rfl) (by kernel_rfl) ?_
      simp only [List.take_succ_cons, List.take_zero, List.drop_succ_cons, List.drop_zero]
      repeat (first | go_big_quiet_step (fail) | quiet_step (fail))
      refine wpQuiet_nil ?_
      rintro _ ⟨u, rfl⟩
      go_wp2
      go_roundw
      case rel => exact ⟨2, by omega, by omega, rfl, by (repeat (first | exact brf | assumption | refine ble ?_ | refine blx ?_ | refine bla ?_ | refine bls ?_ | refine bld ?_)), Lib.hid ((H4.out.keep u.below).set 1 _)⟩
      case measure => first | decide | (simp [intOf]; done)
    · have v0 : wr.cell? ⟨N + 1 + 1 + 1, 2, none⟩ = some (.int .i64 0) := (blk_cell H4.out.v 2).trans rfl
      have y0 : wr.cell? ⟨N, 2, none⟩ = some (.int .i64 (n2 : Nat)) := (blk_cell H4.out.p 2).trans rfl
      have y1 : wr.cell? ⟨N, 3 + 2, none⟩ = some (.int .i64 s2) := (blk_cell H4.out.p (3 + 2)).trans rfl
      have y2 : wr.cell? ⟨N + 1, n2, none⟩ = some (.int .i64 u2) := G2.out _ H4.out.q
      have fz := blk_free H4.out.v 2
      go_wp2
      refine wp_region_tailB 13 (by kernel_rfl) (by kernel_rfl) ?_
      simp only [List.take_succ_cons, List.take_zero, List.drop_succ_cons, List.drop_zero]
      repeat (first | go_big_quiet_step (fail) | quiet_step (fail))
      refine wpQuiet_nil ?_
      rintro _ ⟨u, rfl⟩
      go_wp2
      go_roundw
      case rel => exact ⟨3, by omega, by omega, rfl, by (repeat (first | exact brf | assumption | refine ble ?_ | refine blx ?_ | refine bla ?_ | refine bls ?_ | refine bld ?_)), Lib.hid ((H4.out.keep u.below).set 2 _)⟩
      case measure => first | decide | (simp [intOf]; done)
    · obtain ⟨c0, c1, c2, fv, _⟩ := blk3 H4.out.v
      obtain ⟨r0, r1, r2, fr, _⟩ := blk3 H4.out.r
      go_wp2
      refine bodyPost_ret (v := .agg #[.int .i64 (s0 * u0), .int .i64 (s1 * u1), .int .i64 (s2 * u2)]) (by simp [results, Tryz.results154, go_sem, r0, r1, r2]) rfl ⟨rfl, ?_⟩
      rw [← HN.out]
      (repeat (first | exact brf | assumption | refine ble ?_ | refine blx ?_ | refine bla ?_ | refine bls ?_ | refine bld ?_))
end
/- solid: mirrors. -/
section
open Go.RowKit Go.Shelf
attribute [local go_sem] Ext.cell Ext.frozen
def vT (t : T6) : Value := .agg #[.int .i64 t.1.1, .int .i64 t.1.2.1, .int .i64 t.1.2.2, .int .i64 t.2.1, .int .i64 t.2.2.1, .int .i64 t.2.2.2]
def enc6 (t : T6) : List Value := [.int .i64 t.1.1, .int .i64 t.1.2.1, .int .i64 t.1.2.2, .int .i64 t.2.1, .int .i64 t.2.2.1, .int .i64 t.2.2.2]
theorem enc6_len (t : T6) : (enc6 t).length = 6 := rfl
theorem nat3 {p : Int} (h : p = 0 ∨ p = 1 ∨ p = 2) : ∃ n : Nat, n < 3 ∧ p = n := ⟨p.toNat, by omega, by omega⟩
def bdV (B : Int) (v : Q3) : Prop := (-B ≤ v.1 ∧ v.1 ≤ B) ∧ (-B ≤ v.2.1 ∧ v.2.1 ≤ B) ∧ (-B ≤ v.2.2 ∧ v.2.2 ≤ B)
theorem sign_bd {s u B : Int} (h : s = 1 ∨ s = -1) (hu : -B ≤ u ∧ u ≤ B) : -B ≤ s * u ∧ s * u ≤ B := by rcases h with rfl | rfl <;> omega
theorem ofT_bd {t : T6} (h : okT t) {v : Q3} {B : Int} (hv : bdV B v) : bdV B (ofT t v) :=
  ⟨sign_bd h.2.1 (idx3_bd hv.1 hv.2.1 hv.2.2 _), sign_bd h.2.2.1 (idx3_bd hv.1 hv.2.1 hv.2.2 _), sign_bd h.2.2.2 (idx3_bd hv.1 hv.2.1 hv.2.2 _)⟩
theorem of_t (t : T6) (h : okT t) (v : Q3) (w : World) (hv : bdV 1000000 v) : Calls Tryz.prog 154 #[vT t, .agg #[.int .i64 v.1, .int .i64 v.2.1, .int .i64 v.2.2]] w (Ret w (.agg #[.int .i64 (ofT t v).1, .int .i64 (ofT t v).2.1, .int .i64 (ofT t v).2.2])) := by
  obtain ⟨⟨p0, p1, p2⟩, ⟨s0, s1, s2⟩⟩ := t
  obtain ⟨⟨a0, a1, a2⟩, b0, b1, b2⟩ := h
  simp only at a0 a1 a2 b0 b1 b2
  obtain ⟨n0, h0, rfl⟩ := nat3 a0
  obtain ⟨n1, h1, rfl⟩ := nat3 a1
  obtain ⟨n2, h2, rfl⟩ := nat3 a2
  obtain ⟨x, y, z⟩ := v
  exact of_any n0 n1 n2 s0 s1 s2 x y z w h0 h1 h2 b0 b1 b2 hv.1 hv.2.1 hv.2.2
set_option maxRecDepth 100000 in
set_option maxHeartbeats 2000000 in
theorem mirrors_any (t : T6) (h : okT t) (w : World) : Calls Tryz.prog 190 #[vT t] w (Ret w (.bool (mirB t))) := by
  have B1 := ofT_bd h (v := (1, 0, 0)) (B := 1) ⟨by decide, by decide, by decide⟩
  have B2 := ofT_bd h (v := (0, 1, 0)) (B := 1) ⟨by decide, by decide, by decide⟩
  have He : Hid (mirB t = !((ofT t (1, 0, 0)).2.1 * (ofT t (0, 1, 0)).2.2 - (ofT t (1, 0, 0)).2.2 * (ofT t (0, 1, 0)).2.1 == (ofT t (0, 0, 1)).1 && (((ofT t (1, 0, 0)).2.2 * (ofT t (0, 1, 0)).1 - (ofT t (1, 0, 0)).1 * (ofT t (0, 1, 0)).2.2 == (ofT t (0, 0, 1)).2.1) && ((ofT t (1, 0, 0)).1 * (ofT t (0, 1, 0)).2.1 - (ofT t (1, 0, 0)).2.1 * (ofT t (0, 1, 0)).1 == (ofT t (0, 0, 1)).2.2)))) := Lib.hid rfl
  obtain ⟨⟨p0, p1, p2⟩, ⟨s0, s1, s2⟩⟩ := t
  obtain ⟨⟨a0, a1, a2⟩, b0, b1, b2⟩ := h
  simp only at a0 a1 a2 b0 b1 b2
  obtain ⟨n0, h0, rfl⟩ := nat3 a0
  obtain ⟨n1, h1, rfl⟩ := nat3 a1
  obtain ⟨n2, h2, rfl⟩ := nat3 a2
  simp only [ofT, bdV] at B1 B2 He
  rw [He.out]
  have hE := fun a b c x y z W' => equalIn_vec a b c x y z W'
  unfold vT
  go_enter Tryz.func190, Tryz.ntmps190
  go_wp2
  refine wp_region_quietB (by kernel_rfl) (by kernel_rfl) ?_
  repeat (first | go_big_quiet_step ((first | (go_at_call 154; exact quietB_ret (of_any _ _ _ _ _ _ _ _ _ _ h0 h1 h2 b0 b1 b2 (by omega) (by omega) (by omega))) | (go_at_call 230; exact quietB_ret (cross_any _ _ _ _ _ _ _ (by omega) (by omega) (by omega) (by omega) (by omega) (by omega))))) | quiet_step ((first | (go_at_call 154; exact quietB_ret (of_any _ _ _ _ _ _ _ _ _ _ h0 h1 h2 b0 b1 b2 (by omega) (by omega) (by omega))) | (go_at_call 230; exact quietB_ret (cross_any _ _ _ _ _ _ _ (by omega) (by omega) (by omega) (by omega) (by omega) (by omega))))))
  refine wpQuiet_nil ?_
  rintro _ ⟨u, rfl⟩
  go_wp2
  go_ret
  exact ⟨ret_bool (by simp [Bool.or_assoc]), by (repeat (first | exact brf | assumption | refine ble ?_ | refine blx ?_ | refine bla ?_ | refine bls ?_ | refine bld ?_))⟩
end
end Go.Proofs.YtjglkglaogaenaaGreatDoor
