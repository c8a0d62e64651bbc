/- NamesLaw: texts of mine, merged: L6, L7, L8, Perm. -/
import Derived.Test.YtfdgifcllelhiaaGreatDoorNamesLawM1
import Derived.Shelf.SlSortCmp.NoneTotal
import Derived.Deep.RegionHeld3
/- Leaves of solid: checks of planes and rooms. -/
namespace Go.Proofs.YtfdgifcllelhiaaGreatDoor
open Go.RowKit
attribute [local go_sem] Ext.cell Ext.frozen

theorem idx3_0 (x y z : Value) (w : World) : (Instr.index 22 (.agg #[x, y, z]) (.int .i64 0)).run Tryz.prog w = .ok x w := by kernel_rfl
theorem idx3_1 (x y z : Value) (w : World) : (Instr.index 22 (.agg #[x, y, z]) (.int .i64 1)).run Tryz.prog w = .ok y w := by kernel_rfl
theorem idx3_2 (x y z : Value) (w : World) : (Instr.index 22 (.agg #[x, y, z]) (.int .i64 2)).run Tryz.prog w = .ok z w := by kernel_rfl

theorem planeErr_range {a b c d : Int} (h : (a < -8 ∨ 8 < a) ∨ (b < -8 ∨ 8 < b) ∨ (c < -8 ∨ 8 < c) ∨ (d < -10000000 ∨ 10000000 < d)) : planeErr (a, b, c, d) = 2 := by
  unfold planeErr; exact if_pos (by simp only; omega)
theorem planeErr_in {a b c d : Int} (ha : -8 ≤ a ∧ a ≤ 8) (hb : -8 ≤ b ∧ b ≤ 8) (hc : -8 ≤ c ∧ c ≤ 8) (hd : -10000000 ≤ d ∧ d ≤ 10000000) : planeErr (a, b, c, d) = if a = 0 ∧ b = 0 ∧ c = 0 then 11 else 0 := by
  unfold planeErr; exact if_neg (by simp only; omega)

set_option maxRecDepth 100000 in
set_option maxHeartbeats 1000000 in
theorem CheckPlane_any (a b c d : Int) (w : World) : Calls Tryz.prog 195 #[V4 a b c d] w (Ret w (.int .i64 (planeErr (a, b, c, d)))) := by
  go_enter Tryz.func195, Tryz.ntmps195
  go_wp2
  go_loop [12] (fun i => ∃ k : Int, 0 ≤ k ∧ k ≤ 3 ∧ i = .int .i64 k ∧ (1 ≤ k → -8 ≤ a ∧ a ≤ 8) ∧ (2 ≤ k → -8 ≤ b ∧ b ≤ 8) ∧ (3 ≤ k → -8 ≤ c ∧ c ≤ 8)) (fun i => 3 - (intOf i).toNat)
  case atStart => exact ⟨0, by omega, by omega, rfl, by omega, by omega, by omega⟩
  case round =>
    obtain ⟨k, hk0, hk, rfl, h1, h2, h3⟩ := hrel
    have i0 := idx3_0 (.int .i64 a) (.int .i64 b) (.int .i64 c)
    have i1 := idx3_1 (.int .i64 a) (.int .i64 b) (.int .i64 c)
    have i2 := idx3_2 (.int .i64 a) (.int .i64 b) (.int .i64 c)
    rcases (by omega : k = 0 ∨ k = 1 ∨ k = 2 ∨ k = 3) with rfl | rfl | rfl | rfl
    · clear h1 h2 h3
      have hx : (a < -8 ∨ 8 < a) ∨ (-8 ≤ a ∧ a ≤ 8) := by omega
      rcases hx with (hx | hx) | hx
      · go_wp2
        go_ret
        exact ⟨ret_int (planeErr_range (by omega)).symm, by (repeat (first | exact Below.refl _ _ | assumption | (refine below_trans ?_ (Ext.below _)) | (refine Below.trans ?_ ((Ext.below _).mono (by first | omega | (simp; omega)))) | (refine Below.alloc ?_ (by first | omega | (simp; done) | (simp; omega)) _) | (refine Below.setCell ?_ (by first | omega | (simp; done) | (simp; omega)) _) | (refine Below.drew ?_)))⟩
      · go_wp2
        go_ret
        exact ⟨ret_int (planeErr_range (by omega)).symm, by (repeat (first | exact Below.refl _ _ | assumption | (refine below_trans ?_ (Ext.below _)) | (refine Below.trans ?_ ((Ext.below _).mono (by first | omega | (simp; omega)))) | (refine Below.alloc ?_ (by first | omega | (simp; done) | (simp; omega)) _) | (refine Below.setCell ?_ (by first | omega | (simp; done) | (simp; omega)) _) | (refine Below.drew ?_)))⟩
      · go_wp2
        go_round
        case rel => exact ⟨1, by omega, by omega, rfl, by omega, by omega, by omega⟩
        case measure => first | decide | (simp [intOf]; done)
    · have h1' := h1 (by omega)
      clear h1 h2 h3
      have hx : (b < -8 ∨ 8 < b) ∨ (-8 ≤ b ∧ b ≤ 8) := by omega
      rcases hx with (hx | hx) | hx
      · go_wp2
        go_ret
        exact ⟨ret_int (planeErr_range (by omega)).symm, by (repeat (first | exact Below.refl _ _ | assumption | (refine below_trans ?_ (Ext.below _)) | (refine Below.trans ?_ ((Ext.below _).mono (by first | omega | (simp; omega)))) | (refine Below.alloc ?_ (by first | omega | (simp; done) | (simp; omega)) _) | (refine Below.setCell ?_ (by first | omega | (simp; done) | (simp; omega)) _) | (refine Below.drew ?_)))⟩
      · go_wp2
        go_ret
        exact ⟨ret_int (planeErr_range (by omega)).symm, by (repeat (first | exact Below.refl _ _ | assumption | (refine below_trans ?_ (Ext.below _)) | (refine Below.trans ?_ ((Ext.below _).mono (by first | omega | (simp; omega)))) | (refine Below.alloc ?_ (by first | omega | (simp; done) | (simp; omega)) _) | (refine Below.setCell ?_ (by first | omega | (simp; done) | (simp; omega)) _) | (refine Below.drew ?_)))⟩
      · go_wp2
        go_round
        case rel => exact ⟨2, by omega, by omega, rfl, by omega, by omega, by omega⟩
        case measure => first | decide | (simp [intOf]; done)
    · have h1' := h1 (by omega)
      have h2' := h2 (by omega)
      clear h1 h2 h3
      have hx : (c < -8 ∨ 8 < c) ∨ (-8 ≤ c ∧ c ≤ 8) := by omega
      rcases hx with (hx | hx) | hx
      · go_wp2
        go_ret
        exact ⟨ret_int (planeErr_range (by omega)).symm, by (repeat (first | exact Below.refl _ _ | assumption | (refine below_trans ?_ (Ext.below _)) | (refine Below.trans ?_ ((Ext.below _).mono (by first | omega | (simp; omega)))) | (refine Below.alloc ?_ (by first | omega | (simp; done) | (simp; omega)) _) | (refine Below.setCell ?_ (by first | omega | (simp; done) | (simp; omega)) _) | (refine Below.drew ?_)))⟩
      · go_wp2
        go_ret
        exact ⟨ret_int (planeErr_range (by omega)).symm, by (repeat (first | exact Below.refl _ _ | assumption | (refine below_trans ?_ (Ext.below _)) | (refine Below.trans ?_ ((Ext.below _).mono (by first | omega | (simp; omega)))) | (refine Below.alloc ?_ (by first | omega | (simp; done) | (simp; omega)) _) | (refine Below.setCell ?_ (by first | omega | (simp; done) | (simp; omega)) _) | (refine Below.drew ?_)))⟩
      · go_wp2
        go_round
        case rel => exact ⟨3, by omega, by omega, rfl, by omega, by omega, by omega⟩
        case measure => first | decide | (simp [intOf]; done)
    · have h1' := h1 (by omega)
      have h2' := h2 (by omega)
      have h3' := h3 (by omega)
      clear h1 h2 h3 i0 i1 i2
      have hx : (d < -10000000 ∨ 10000000 < d) ∨ (-10000000 ≤ d ∧ d ≤ 10000000) := by omega
      rcases hx with (hx | hx) | hx
      · go_wp2
        go_ret
        exact ⟨ret_int (planeErr_range (by omega)).symm, by (repeat (first | exact Below.refl _ _ | assumption | (refine below_trans ?_ (Ext.below _)) | (refine Below.trans ?_ ((Ext.below _).mono (by first | omega | (simp; omega)))) | (refine Below.alloc ?_ (by first | omega | (simp; done) | (simp; omega)) _) | (refine Below.setCell ?_ (by first | omega | (simp; done) | (simp; omega)) _) | (refine Below.drew ?_)))⟩
      · go_wp2
        go_ret
        exact ⟨ret_int (planeErr_range (by omega)).symm, by (repeat (first | exact Below.refl _ _ | assumption | (refine below_trans ?_ (Ext.below _)) | (refine Below.trans ?_ ((Ext.below _).mono (by first | omega | (simp; omega)))) | (refine Below.alloc ?_ (by first | omega | (simp; done) | (simp; omega)) _) | (refine Below.setCell ?_ (by first | omega | (simp; done) | (simp; omega)) _) | (refine Below.drew ?_)))⟩
      · have Hp := Lib.hid (planeErr_in h1' h2' h3' hx)
        have hv := eql_vec a b c 0 0 0
        by_cases h0 : a = 0 ∧ b = 0 ∧ c = 0
        · have hz : (a == 0 && b == 0 && c == 0) = true := by simp [h0]
          rw [hz] at hv
          have H0 := Lib.hid h0
          clear h0 hz
          go_wp2_with (go_at_call 223; refine (normal_any _ _ _ _ _).mono ?_; rintro e w1 ⟨rfl, hb1⟩)
          go_ret
          exact ⟨ret_int (by rw [Hp.out, if_pos H0.out]), below_trans (by (repeat (first | exact Below.refl _ _ | assumption | (refine below_trans ?_ (Ext.below _)) | (refine Below.trans ?_ ((Ext.below _).mono (by first | omega | (simp; omega)))) | (refine Below.alloc ?_ (by first | omega | (simp; done) | (simp; omega)) _) | (refine Below.setCell ?_ (by first | omega | (simp; done) | (simp; omega)) _) | (refine Below.drew ?_)))) hb1⟩
        · have hz : (a == 0 && b == 0 && c == 0) = false := by rw [Bool.eq_false_iff]; simp; omega
          rw [hz] at hv
          go_wp2_with (go_at_call 223; refine (normal_any _ _ _ _ _).mono ?_; rintro e w1 ⟨rfl, hb1⟩)
          go_ret
          exact ⟨ret_int (by rw [Hp.out, if_neg h0]), below_trans (by (repeat (first | exact Below.refl _ _ | assumption | (refine below_trans ?_ (Ext.below _)) | (refine Below.trans ?_ ((Ext.below _).mono (by first | omega | (simp; omega)))) | (refine Below.alloc ?_ (by first | omega | (simp; done) | (simp; omega)) _) | (refine Below.setCell ?_ (by first | omega | (simp; done) | (simp; omega)) _) | (refine Below.drew ?_)))) hb1⟩

/-- A point lies in the room. -/
def inRm (p : Int × Int × Int × Int) : Bool := decide (-300000 * p.2.2.2 ≤ p.1 ∧ p.1 ≤ 300000 * p.2.2.2) && decide (-300000 * p.2.2.2 ≤ p.2.1 ∧ p.2.1 ≤ 300000 * p.2.2.2) && decide (-300000 * p.2.2.2 ≤ p.2.2.1 ∧ p.2.2.1 ≤ 300000 * p.2.2.2)
theorem inRm_yes {x y z q : Int} (hx : -300000 * q ≤ x ∧ x ≤ 300000 * q) (hy : -300000 * q ≤ y ∧ y ≤ 300000 * q) (hz : -300000 * q ≤ z ∧ z ≤ 300000 * q) : inRm (x, y, z, q) = true := by simp [inRm, hx, hy, hz]
theorem inRm_no {x y z q : Int} (h : (x < -300000 * q ∨ 300000 * q < x) ∨ (y < -300000 * q ∨ 300000 * q < y) ∨ (z < -300000 * q ∨ 300000 * q < z)) : inRm (x, y, z, q) = false := by
  rw [Bool.eq_false_iff]; simp [inRm]; omega

set_option maxRecDepth 100000 in
set_option maxHeartbeats 1000000 in
theorem inRoom_any (x y z q : Int) (w : World) (hq : 0 ≤ q ∧ q ≤ 1000000) : Calls Tryz.prog 201 #[V4 x y z q] w (Ret w (.bool (inRm (x, y, z, q)))) := by
  go_enter Tryz.func201, Tryz.ntmps201
  go_wp2
  go_loop [12] (fun i => ∃ k : Int, 0 ≤ k ∧ k ≤ 3 ∧ i = .int .i64 k ∧ (1 ≤ k → -300000 * q ≤ x ∧ x ≤ 300000 * q) ∧ (2 ≤ k → -300000 * q ≤ y ∧ y ≤ 300000 * q) ∧ (3 ≤ k → -300000 * q ≤ z ∧ z ≤ 300000 * q)) (fun i => 3 - (intOf i).toNat)
  case atStart => exact ⟨0, by omega, by omega, rfl, by omega, by omega, by omega⟩
  case round =>
    obtain ⟨k, hk0, hk, rfl, h1, h2, h3⟩ := hrel
    have i0 := idx3_0 (.int .i64 x) (.int .i64 y) (.int .i64 z)
    have i1 := idx3_1 (.int .i64 x) (.int .i64 y) (.int .i64 z)
    have i2 := idx3_2 (.int .i64 x) (.int .i64 y) (.int .i64 z)
    rcases (by omega : k = 0 ∨ k = 1 ∨ k = 2 ∨ k = 3) with rfl | rfl | rfl | rfl
    · clear h1 h2 h3
      have hx' : (x < -300000 * q ∨ 300000 * q < x) ∨ (-300000 * q ≤ x ∧ x ≤ 300000 * q) := by omega
      rcases hx' with (hx' | hx') | hx'
      · go_wp2
        go_ret
        exact ⟨ret_bool (inRm_no (by omega)).symm, by (repeat (first | exact Below.refl _ _ | assumption | (refine below_trans ?_ (Ext.below _)) | (refine Below.trans ?_ ((Ext.below _).mono (by first | omega | (simp; omega)))) | (refine Below.alloc ?_ (by first | omega | (simp; done) | (simp; omega)) _) | (refine Below.setCell ?_ (by first | omega | (simp; done) | (simp; omega)) _) | (refine Below.drew ?_)))⟩
      · go_wp2
        go_ret
        exact ⟨ret_bool (inRm_no (by omega)).symm, by (repeat (first | exact Below.refl _ _ | assumption | (refine below_trans ?_ (Ext.below _)) | (refine Below.trans ?_ ((Ext.below _).mono (by first | omega | (simp; omega)))) | (refine Below.alloc ?_ (by first | omega | (simp; done) | (simp; omega)) _) | (refine Below.setCell ?_ (by first | omega | (simp; done) | (simp; omega)) _) | (refine Below.drew ?_)))⟩
      · go_wp2
        go_round
        case rel => exact ⟨1, by omega, by omega, rfl, by omega, by omega, by omega⟩
        case measure => first | decide | (simp [intOf]; done)
    · have h1' := h1 (by omega)
      clear h1 h2 h3
      have hx' : (y < -300000 * q ∨ 300000 * q < y) ∨ (-300000 * q ≤ y ∧ y ≤ 300000 * q) := by omega
      rcases hx' with (hx' | hx') | hx'
      · go_wp2
        go_ret
        exact ⟨ret_bool (inRm_no (by omega)).symm, by (repeat (first | exact Below.refl _ _ | assumption | (refine below_trans ?_ (Ext.below _)) | (refine Below.trans ?_ ((Ext.below _).mono (by first | omega | (simp; omega)))) | (refine Below.alloc ?_ (by first | omega | (simp; done) | (simp; omega)) _) | (refine Below.setCell ?_ (by first | omega | (simp; done) | (simp; omega)) _) | (refine Below.drew ?_)))⟩
      · go_wp2
        go_ret
        exact ⟨ret_bool (inRm_no (by omega)).symm, by (repeat (first | exact Below.refl _ _ | assumption | (refine below_trans ?_ (Ext.below _)) | (refine Below.trans ?_ ((Ext.below _).mono (by first | omega | (simp; omega)))) | (refine Below.alloc ?_ (by first | omega | (simp; done) | (simp; omega)) _) | (refine Below.setCell ?_ (by first | omega | (simp; done) | (simp; omega)) _) | (refine Below.drew ?_)))⟩
      · go_wp2
        go_round
        case rel => exact ⟨2, by omega, by omega, rfl, by omega, by omega, by omega⟩
        case measure => first | decide | (simp [intOf]; done)
    · have h1' := h1 (by omega)
      have h2' := h2 (by omega)
      clear h1 h2 h3
      have hx' : (z < -300000 * q ∨ 300000 * q < z) ∨ (-300000 * q ≤ z ∧ z ≤ 300000 * q) := by omega
      rcases hx' with (hx' | hx') | hx'
      · go_wp2
        go_ret
        exact ⟨ret_bool (inRm_no (by omega)).symm, by (repeat (first | exact Below.refl _ _ | assumption | (refine below_trans ?_ (Ext.below _)) | (refine Below.trans ?_ ((Ext.below _).mono (by first | omega | (simp; omega)))) | (refine Below.alloc ?_ (by first | omega | (simp; done) | (simp; omega)) _) | (refine Below.setCell ?_ (by first | omega | (simp; done) | (simp; omega)) _) | (refine Below.drew ?_)))⟩
      · go_wp2
        go_ret
        exact ⟨ret_bool (inRm_no (by omega)).symm, by (repeat (first | exact Below.refl _ _ | assumption | (refine below_trans ?_ (Ext.below _)) | (refine Below.trans ?_ ((Ext.below _).mono (by first | omega | (simp; omega)))) | (refine Below.alloc ?_ (by first | omega | (simp; done) | (simp; omega)) _) | (refine Below.setCell ?_ (by first | omega | (simp; done) | (simp; omega)) _) | (refine Below.drew ?_)))⟩
      · go_wp2
        go_round
        case rel => exact ⟨3, by omega, by omega, rfl, by omega, by omega, by omega⟩
        case measure => first | decide | (simp [intOf]; done)
    · have h1' := h1 (by omega)
      have h2' := h2 (by omega)
      have h3' := h3 (by omega)
      clear h1 h2 h3 i0 i1 i2
      go_wp2
      go_ret
      exact ⟨ret_bool (inRm_yes h1' h2' h3').symm, by (repeat (first | exact Below.refl _ _ | assumption | (refine below_trans ?_ (Ext.below _)) | (refine Below.trans ?_ ((Ext.below _).mono (by first | omega | (simp; omega)))) | (refine Below.alloc ?_ (by first | omega | (simp; done) | (simp; omega)) _) | (refine Below.setCell ?_ (by first | omega | (simp; done) | (simp; omega)) _) | (refine Below.drew ?_)))⟩
end Go.Proofs.YtfdgifcllelhiaaGreatDoor
/- IndexFunc, ContainsFunc at ints; joint.within. -/
namespace Go.Proofs.YtfdgifcllelhiaaGreatDoor
open Go.RowKit
attribute [local go_sem] Ext.cell Ext.frozen

/-- A slice that reads as a list of ints. -/
def Ints (w : World) (v : Value) (xs : List Int) : Prop :=
  ∃ a n c, v = .slice a n c ∧ xs.length = n ∧ n ≤ c ∧ (0 < n → ∃ b off, a = some ⟨b, off, none⟩ ∧ IntsAt w b off xs)
theorem Ints.below {w w' : World} {v : Value} {xs : List Int} (h : Ints w v xs) (hb : Below w.heap.size w w') : Ints w' v xs := by
  obtain ⟨a, n, c, hv, hn, hc, hx⟩ := h
  exact ⟨a, n, c, hv, hn, hc, fun h0 => by obtain ⟨b, off, ha, hi⟩ := hx h0; exact ⟨b, off, ha, hi.below hb⟩⟩

/-- In every extension of w the closure answers b at the argument. -/
def PredIn (P : Program) (g : Nat) (cb : Array Value) (w : World) (arg : Value) (b : Bool) : Prop := ∀ w', Below w.heap.size w w' → Calls P g (#[arg] ++ cb) w' (Ret w' (.bool b))

def idxL {α : Type} (p : α → Bool) (xs : List α) : Int := match xs.findIdx? p with | some i => (i : Int) | none => -1
theorem idxL_hit {α : Type} {p : α → Bool} {xs : List α} {k : Nat} (hk : k < xs.length) (hp : p xs[k] = true) (h : ∀ i (h : i < xs.length), i < k → p xs[i] = false) : idxL p xs = k := by
  have : xs.findIdx? p = some k := by
    rw [List.findIdx?_eq_some_iff_getElem]
    exact ⟨hk, hp, fun j hj => by simpa using h j (by omega) hj⟩
  simp [idxL, this]
theorem idxL_none {α : Type} {p : α → Bool} {xs : List α} (h : ∀ i (h : i < xs.length), p xs[i] = false) : idxL p xs = -1 := by
  have : xs.findIdx? p = none := by
    rw [List.findIdx?_eq_none_iff]
    intro x hx
    obtain ⟨i, hi, rfl⟩ := List.getElem_of_mem hx
    exact h i hi
  simp [idxL, this]
theorem idxL_nonneg {α : Type} (p : α → Bool) (xs : List α) : decide (0 ≤ idxL p xs) = xs.any p := by
  unfold idxL
  cases h : xs.findIdx? p with
  | none =>
    rw [List.findIdx?_eq_none_iff] at h
    have : xs.any p = false := by rw [Bool.eq_false_iff]; simp; intro x hx; simpa using h x hx
    simp [this]
  | some i =>
    rw [List.findIdx?_eq_some_iff_getElem] at h
    obtain ⟨hi, hp, _⟩ := h
    have : xs.any p = true := by simp; exact ⟨_, List.getElem_mem hi, hp⟩
    simp [this]

set_option maxHeartbeats 1000000 in
theorem indexFunc_int (v : Value) (xs : List Int) (p : Int → Bool) (g : Nat) (cb : Array Value) (w : World) (hx : Ints w v xs) (hm : xs.length ≤ 1000000000)
    (eg : ∀ args w, (callFunc g args).run Tryz.prog w = .ok (.enter g args) w) (hp : ∀ x ∈ xs, PredIn Tryz.prog g cb w (.int .i64 x) (p x)) :
    Calls Tryz.prog 176 #[v, .func (.func g) #[] cb] w (Ret w (.int .i64 (idxL p xs))) := by
  obtain ⟨a, n, c, rfl, hn, _, hx⟩ := hx
  have HP := Lib.hid hp
  clear hp
  go_enter Tryz.func176, Tryz.ntmps176
  go_wp2
  go_loopw [8] (fun i wr => ∃ k : Nat, k ≤ n ∧ i = .int .i64 k ∧ Below w.heap.size w wr ∧ Hid (∀ i (h : i < xs.length), i < k → p xs[i] = false)) (fun i _ => n - (intOf i).toNat)
  case atStart => exact ⟨0, by omega, rfl, Below.refl _ _, Lib.hid (fun i _ h => by omega)⟩
  case round =>
    obtain ⟨k, hk, rfl, hb, Hz⟩ := hrel
    by_cases hlt : k < n
    · obtain ⟨b, off, rfl, hi⟩ := hx (by omega)
      have hcell := below_cell hb (hi k (by omega))
      have hc := HP.out (xs[k]) (by simp) wr hb
      have Hh := Lib.hid (idxL_hit (p := p) (xs := xs) (k := k) (by omega))
      obtain ⟨x, Hx⟩ : ∃ x, Hid (xs[k] = x) := ⟨_, Lib.hid rfl⟩
      rw [Hx.out] at hcell hc
      clear hx hi
      have Hc := Lib.hid hc
      clear hc
      cases hpx : p x with
      | true =>
        rw [hpx] at Hc
        go_wp2_with fail
        refine (Hc.out).mono ?_
        rintro e w1 ⟨rfl, hb1⟩
        go_wp2
        go_ret
        exact ⟨ret_int (by rw [Hh.out (by rw [Hx.out]; exact hpx) Hz.out]), below_trans hb hb1⟩
      | false =>
        rw [hpx] at Hc
        have Hpx := Lib.hid hpx
        clear hpx
        go_wp2_with fail
        refine (Hc.out).mono ?_
        rintro e w1 ⟨rfl, hb1⟩
        go_wp2
        go_roundw
        case rel => exact ⟨k + 1, by omega, by go_num, below_trans hb hb1, Lib.hid (fun i hi hik => by
          by_cases e : i = k
          · subst e; rw [Hx.out]; exact Hpx.out
          · exact Hz.out i hi (by omega))⟩
        case measure => simp [intOf]; omega
    · have Hn := Lib.hid (idxL_none (fun i hi => Hz.out i hi (by omega)))
      clear hx
      go_wp2
      go_ret
      exact ⟨ret_int (by rw [Hn.out]), hb⟩
end Go.Proofs.YtfdgifcllelhiaaGreatDoor
/- IndexFunc, ContainsFunc at ints, planes, corners; joint.within. -/
namespace Go.Proofs.YtfdgifcllelhiaaGreatDoor
open Go.RowKit Go.Shelf
attribute [local go_sem] Ext.cell Ext.frozen

abbrev Q4 := Int × Int × Int × Int
abbrev v4 (p : Q4) : Value := .agg #[.int .i64 p.1, .int .i64 p.2.1, .int .i64 p.2.2.1, .int .i64 p.2.2.2]
def Q4At (w : World) (b off : Nat) (xs : List Q4) : Prop := ∀ i (h : i < xs.length),
  w.cell? ⟨b, off + i * 4, none⟩ = some (.int .i64 xs[i].1) ∧ w.cell? ⟨b, off + i * 4 + 1, none⟩ = some (.int .i64 xs[i].2.1) ∧ w.cell? ⟨b, off + i * 4 + 2, none⟩ = some (.int .i64 xs[i].2.2.1) ∧ w.cell? ⟨b, off + i * 4 + 3, none⟩ = some (.int .i64 xs[i].2.2.2)
theorem Q4At.below {w w' : World} {b off : Nat} {xs : List Q4} (h : Q4At w b off xs) (hb : Below w.heap.size w w') : Q4At w' b off xs := fun i hi => ⟨below_cell hb (h i hi).1, below_cell hb (h i hi).2.1, below_cell hb (h i hi).2.2.1, below_cell hb (h i hi).2.2.2⟩
/-- A slice of structs of four ints that reads as a list. -/
def Q4s (w : World) (v : Value) (xs : List Q4) : Prop :=
  ∃ a n c, v = .slice a n c ∧ xs.length = n ∧ n ≤ c ∧ (0 < n → ∃ b off, a = some ⟨b, off, none⟩ ∧ Q4At w b off xs)
theorem Q4s.below {w w' : World} {v : Value} {xs : List Q4} (h : Q4s w v xs) (hb : Below w.heap.size w w') : Q4s w' v xs := by
  obtain ⟨a, n, c, hv, hn, hc, hx⟩ := h
  exact ⟨a, n, c, hv, hn, hc, fun h0 => by obtain ⟨b, off, ha, hi⟩ := hx h0; exact ⟨b, off, ha, hi.below hb⟩⟩

set_option maxHeartbeats 1000000 in
theorem containsFunc_int (v : Value) (xs : List Int) (p : Int → Bool) (g : Nat) (cb : Array Value) (w : World) (hx : Ints w v xs) (hm : xs.length ≤ 1000000000)
    (eg : ∀ args w, (callFunc g args).run Tryz.prog w = .ok (.enter g args) w) (hp : ∀ x ∈ xs, PredIn Tryz.prog g cb w (.int .i64 x) (p x)) :
    Calls Tryz.prog 126 #[v, .func (.func g) #[] cb] w (Ret w (.bool (xs.any p))) := by
  have Hc := Lib.hid (indexFunc_int v xs p g cb w hx hm eg hp)
  have HN := Lib.hid (idxL_nonneg p xs)
  clear hx hp eg
  go_enter Tryz.func126, Tryz.ntmps126
  go_wp2_with fail
  refine (Hc.out).mono ?_
  rintro e w1 ⟨rfl, hb1⟩
  go_wp2
  go_ret
  exact ⟨ret_bool HN.out, hb1⟩

set_option maxHeartbeats 1000000 in
theorem indexFunc_plane (v : Value) (xs : List Q4) (p : Q4 → Bool) (g : Nat) (cb : Array Value) (w : World) (hx : Q4s w v xs) (hm : xs.length ≤ 1000000000)
    (eg : ∀ args w, (callFunc g args).run Tryz.prog w = .ok (.enter g args) w) (hp : ∀ x ∈ xs, PredIn Tryz.prog g cb w (v4 x) (p x)) :
    Calls Tryz.prog 256 #[v, .func (.func g) #[] cb] w (Ret w (.int .i64 (idxL p xs))) := by
  obtain ⟨a, n, c, rfl, hn, _, hx⟩ := hx
  have HP := Lib.hid hp
  clear hp
  go_enter Tryz.func256, Tryz.ntmps256
  go_wp2
  go_loopw [8] (fun i wr => ∃ k : Nat, k ≤ n ∧ i = .int .i64 k ∧ Below w.heap.size w wr ∧ Hid (∀ i (h : i < xs.length), i < k → p xs[i] = false)) (fun i _ => n - (intOf i).toNat)
  case atStart => exact ⟨0, by omega, rfl, Below.refl _ _, Lib.hid (fun i _ h => by omega)⟩
  case round =>
    obtain ⟨k, hk, rfl, hb, Hz⟩ := hrel
    by_cases hlt : k < n
    · obtain ⟨b, off, rfl, hi⟩ := hx (by omega)
      obtain ⟨c0, c1, c2, c3⟩ := (hi.below hb) k (by omega)
      have hc := HP.out (xs[k]) (by simp) wr hb
      have Hh := Lib.hid (idxL_hit (p := p) (xs := xs) (k := k) (by omega))
      obtain ⟨x, Hx⟩ : ∃ x, Hid (xs[k] = x) := ⟨_, Lib.hid rfl⟩
      rw [Hx.out] at c0 c1 c2 c3 hc
      clear hx hi
      have Hc := Lib.hid hc
      clear hc
      cases hpx : p x with
      | true =>
        rw [hpx] at Hc
        go_wp2_with fail
        refine (Hc.out).mono ?_
        rintro e w1 ⟨rfl, hb1⟩
        go_wp2
        go_ret
        exact ⟨ret_int (by rw [Hh.out (by rw [Hx.out]; exact hpx) Hz.out]), below_trans hb hb1⟩
      | false =>
        rw [hpx] at Hc
        have Hpx := Lib.hid hpx
        clear hpx
        go_wp2_with fail
        refine (Hc.out).mono ?_
        rintro e w1 ⟨rfl, hb1⟩
        go_wp2
        go_roundw
        case rel => exact ⟨k + 1, by omega, by go_num, below_trans hb hb1, Lib.hid (fun i hi hik => by
          by_cases e : i = k
          · subst e; rw [Hx.out]; exact Hpx.out
          · exact Hz.out i hi (by omega))⟩
        case measure => simp [intOf]; omega
    · have Hn := Lib.hid (idxL_none (fun i hi => Hz.out i hi (by omega)))
      clear hx
      go_wp2
      go_ret
      exact ⟨ret_int (by rw [Hn.out]), hb⟩
set_option maxHeartbeats 1000000 in
theorem indexFunc_corner (v : Value) (xs : List Q4) (p : Q4 → Bool) (g : Nat) (cb : Array Value) (w : World) (hx : Q4s w v xs) (hm : xs.length ≤ 1000000000)
    (eg : ∀ args w, (callFunc g args).run Tryz.prog w = .ok (.enter g args) w) (hp : ∀ x ∈ xs, PredIn Tryz.prog g cb w (v4 x) (p x)) :
    Calls Tryz.prog 231 #[v, .func (.func g) #[] cb] w (Ret w (.int .i64 (idxL p xs))) := by
  obtain ⟨a, n, c, rfl, hn, _, hx⟩ := hx
  have HP := Lib.hid hp
  clear hp
  go_enter Tryz.func231, Tryz.ntmps231
  go_wp2
  go_loopw [8] (fun i wr => ∃ k : Nat, k ≤ n ∧ i = .int .i64 k ∧ Below w.heap.size w wr ∧ Hid (∀ i (h : i < xs.length), i < k → p xs[i] = false)) (fun i _ => n - (intOf i).toNat)
  case atStart => exact ⟨0, by omega, rfl, Below.refl _ _, Lib.hid (fun i _ h => by omega)⟩
  case round =>
    obtain ⟨k, hk, rfl, hb, Hz⟩ := hrel
    by_cases hlt : k < n
    · obtain ⟨b, off, rfl, hi⟩ := hx (by omega)
      obtain ⟨c0, c1, c2, c3⟩ := (hi.below hb) k (by omega)
      have hc := HP.out (xs[k]) (by simp) wr hb
      have Hh := Lib.hid (idxL_hit (p := p) (xs := xs) (k := k) (by omega))
      obtain ⟨x, Hx⟩ : ∃ x, Hid (xs[k] = x) := ⟨_, Lib.hid rfl⟩
      rw [Hx.out] at c0 c1 c2 c3 hc
      clear hx hi
      have Hc := Lib.hid hc
      clear hc
      cases hpx : p x with
      | true =>
        rw [hpx] at Hc
        go_wp2_with fail
        refine (Hc.out).mono ?_
        rintro e w1 ⟨rfl, hb1⟩
        go_wp2
        go_ret
        exact ⟨ret_int (by rw [Hh.out (by rw [Hx.out]; exact hpx) Hz.out]), below_trans hb hb1⟩
      | false =>
        rw [hpx] at Hc
        have Hpx := Lib.hid hpx
        clear hpx
        go_wp2_with fail
        refine (Hc.out).mono ?_
        rintro e w1 ⟨rfl, hb1⟩
        go_wp2
        go_roundw
        case rel => exact ⟨k + 1, by omega, by go_num, below_trans hb hb1, Lib.hid (fun i hi hik => by
          by_cases e : i = k
          · subst e; rw [Hx.out]; exact Hpx.out
          · exact Hz.out i hi (by omega))⟩
        case measure => simp [intOf]; omega
    · have Hn := Lib.hid (idxL_none (fun i hi => Hz.out i hi (by omega)))
      clear hx
      go_wp2
      go_ret
      exact ⟨ret_int (by rw [Hn.out]), hb⟩
set_option maxHeartbeats 1000000 in
theorem containsFunc_plane (v : Value) (xs : List Q4) (p : Q4 → Bool) (g : Nat) (cb : Array Value) (w : World) (hx : Q4s w v xs) (hm : xs.length ≤ 1000000000)
    (eg : ∀ args w, (callFunc g args).run Tryz.prog w = .ok (.enter g args) w) (hp : ∀ x ∈ xs, PredIn Tryz.prog g cb w (v4 x) (p x)) :
    Calls Tryz.prog 242 #[v, .func (.func g) #[] cb] w (Ret w (.bool (xs.any p))) := by
  have Hc := Lib.hid (indexFunc_plane v xs p g cb w hx hm eg hp)
  have HN := Lib.hid (idxL_nonneg p xs)
  clear hx hp eg
  go_enter Tryz.func242, Tryz.ntmps242
  go_wp2_with fail
  refine (Hc.out).mono ?_
  rintro e w1 ⟨rfl, hb1⟩
  go_wp2
  go_ret
  exact ⟨ret_bool HN.out, hb1⟩
set_option maxHeartbeats 1000000 in
theorem containsFunc_corner (v : Value) (xs : List Q4) (p : Q4 → Bool) (g : Nat) (cb : Array Value) (w : World) (hx : Q4s w v xs) (hm : xs.length ≤ 1000000000)
    (eg : ∀ args w, (callFunc g args).run Tryz.prog w = .ok (.enter g args) w) (hp : ∀ x ∈ xs, PredIn Tryz.prog g cb w (v4 x) (p x)) :
    Calls Tryz.prog 199 #[v, .func (.func g) #[] cb] w (Ret w (.bool (xs.any p))) := by
  have Hc := Lib.hid (indexFunc_corner v xs p g cb w hx hm eg hp)
  have HN := Lib.hid (idxL_nonneg p xs)
  clear hx hp eg
  go_enter Tryz.func199, Tryz.ntmps199
  go_wp2_with fail
  refine (Hc.out).mono ?_
  rintro e w1 ⟨rfl, hb1⟩
  go_wp2
  go_ret
  exact ⟨ret_bool HN.out, hb1⟩
end Go.Proofs.YtfdgifcllelhiaaGreatDoor
/- A region that draws its order, taken in an order of ours: first operations that yield one value in every world, then operations that are quiet in a class of worlds, then a tail in one forced order. No program is named here. -/
namespace Go.Proofs.YtfdgifcllelhiaaGreatDoor
open Go.RowKit
section
variable {P : Program} {ops : Array Oper} {md : Region.Mode} {C : World → Prop} {Q : Exit → Act → World → Prop}

/-- Operations that yield in every world. -/
def wpW (P : Program) (ops : Array Oper) (K : Act → Prop) : List Oper → Act → Prop
  | [], a => K a
  | o :: l, a => ∃ v, Yields P ops o v a ∧ wpW P ops K l (a.put o.dst v)

theorem wpW_step {K : Act → Prop} {o : Oper} {l : List Oper} {a : Act} (h : ∀ K' : Act → Prop, (∀ a, wpW P ops K l a → K' a) → Region.wanted o (yielded ops a.tmps) = true ∧ ∃ v, (∀ w, (execOp a.eval o).run P w = .ok (.value v) w) ∧ K' (a.put o.dst v)) : wpW P ops K (o :: l) a := by
  obtain ⟨hw, v, hv, hk⟩ := h (wpW P ops K l) (fun _ h => h)
  exact ⟨v, .inl ⟨hw, hv⟩, hk⟩
theorem wpW_nil {K : Act → Prop} {a : Act} (h : K a) : wpW P ops K [] a := h

def opsAt (ops : Array Oper) (l : List Nat) : List Oper := l.filterMap (ops[·]?)

/-- The operations wi, one behind the other, are ready and free. -/
def freeB (md : Region.Mode) (ops : Array Oper) (G : Array Bool → Bool) : List Nat → Array Bool → Bool
  | [], listed => G listed
  | i :: l, listed => (Region.ready md ops listed).contains i && Region.free md ops listed i && freeB md ops G l (listed.setIfInBounds i true)

/-- The tail ti is forced. -/
def forcedB (md : Region.Mode) (ops : Array Oper) : List Nat → Array Bool → Bool
  | [], listed => (Region.ready md ops listed).isEmpty
  | i :: l, listed => decide (Region.ready md ops listed = [i]) && forcedB md ops l (listed.setIfInBounds i true)

/-- Each of ci is waited for by a later one, or by the tail's first; each of the tail but the first waits for the one before. -/
def sinkL (md : Region.Mode) (ops : Array Oper) (t0 : Nat) : List Nat → Bool
  | [] => true
  | i :: l => (l ++ [t0]).any (fun j => Region.waitsFor md ops j i) && sinkL md ops t0 l
def chainL (md : Region.Mode) (ops : Array Oper) : List Nat → Bool
  | [] => true
  | [_] => true
  | i :: j :: l => Region.waitsFor md ops j i && chainL md ops (j :: l)

def permB (md : Region.Mode) (ops : Array Oper) (wi ci : List Nat) (t0 : Nat) (ts : List Nat) : Bool :=
  Region.noSelect ops && decide (wi.length + ci.length + (ts.length + 1) = ops.size) && sinkL md ops t0 ci && chainL md ops (t0 :: ts) &&
  ((wi ++ ci).all fun i => !(t0 :: ts).contains i) &&
  freeB md ops (freeB md ops (forcedB md ops (t0 :: ts)) ci) wi (Array.replicate ops.size false)

structure Inv (md : Region.Mode) (ops : Array Oper) (tl : List Nat) (listed : Array Bool) : Prop where
  closed : ∀ j oj, ops[j]? = some oj → listed.getD j false = true → ∀ e ∈ oj.after, Region.binds md e = true → listed.getD e.on false = true
  tail : ∀ t ∈ tl, t < ops.size → listed.getD t true = false
  size : listed.size = ops.size

theorem Inv.set {tl : List Nat} {i : Nat} {listed : Array Bool} (inv : Inv md ops tl listed) (hi : i ∈ Region.ready md ops listed) (hin : i ∉ tl) : Inv md ops tl (listed.setIfInBounds i true) := by
  obtain ⟨_, oi, hoi, hall⟩ := mem_ready.1 hi
  refine ⟨fun j oj hj hl e he hb => ?_, fun t ht ht' => by rw [getD_set_ne true (by rintro rfl; exact hin ht)]; exact inv.tail t ht ht', by simp [inv.size]⟩
  by_cases hij : i = j
  · subst hij
    have : oj = oi := Option.some.inj (hj.symm.trans hoi)
    subst this
    exact getD_set_true (hall e he hb)
  · rw [getD_set_ne false hij] at hl
    exact getD_set_true (inv.closed j oj hj hl e he hb)

theorem first_waits {t0 : Nat} {tl : List Nat} {listed : Array Bool} (inv : Inv md ops tl listed) :
    ∀ (l : List Nat), sinkL md ops t0 l = true → (∃ i ∈ l, listed.getD i true = false) → t0 ∉ Region.ready md ops listed
  | [], _, h => by obtain ⟨i, hi, _⟩ := h; cases hi
  | i :: l, hs, h => by
    simp only [sinkL, Bool.and_eq_true] at hs
    by_cases hl : ∃ j ∈ l, listed.getD j true = false
    · exact first_waits inv l hs.2 hl
    · obtain ⟨i', hi', hun⟩ := h
      have hii : i' = i := by
        rcases List.mem_cons.1 hi' with h | h
        · exact h
        · exact absurd ⟨i', h, hun⟩ hl
      subst hii
      intro hr
      obtain ⟨j, hj, hw⟩ := List.any_eq_true.1 hs.1
      obtain ⟨oj, hoj, e, he, hb, hon⟩ := Region.waitsFor_spec hw
      rcases List.mem_append.1 hj with hj | hj
      · have hjl : listed.getD j false = true := by
          have hlt : j < listed.size := by rw [inv.size]; exact (Array.getElem?_eq_some_iff.1 hoj).1
          cases hc : listed.getD j false with
          | true => rfl
          | false => exact absurd ⟨j, hj, getD_in hlt hc⟩ hl
        have := inv.closed j oj hoj hjl e he hb
        rw [hon, getD_both hun] at this
        cases this
      · have hjt : j = t0 := by simpa using hj
        subst hjt
        obtain ⟨_, o', ho', hall⟩ := mem_ready.1 hr
        have : oj = o' := Option.some.inj (hoj.symm.trans ho')
        subst this
        have := hall e he hb
        rw [hon, getD_both hun] at this
        cases this

theorem chain_waits {tl : List Nat} {listed : Array Bool} (hlt : ∀ t ∈ tl, listed.getD t true = false) :
    ∀ (t0 : Nat) (ts : List Nat), (∀ t ∈ t0 :: ts, t ∈ tl) → chainL md ops (t0 :: ts) = true → ∀ t ∈ ts, t ∉ Region.ready md ops listed
  | _, [], _, _ => fun t ht => by cases ht
  | t0, t1 :: ts, hin, hc => fun t ht hr => by
    simp only [chainL, Bool.and_eq_true] at hc
    rcases List.mem_cons.1 ht with rfl | ht
    · obtain ⟨oj, hoj, e, he, hb, hon⟩ := Region.waitsFor_spec hc.1
      obtain ⟨_, o', ho', hall⟩ := mem_ready.1 hr
      have : oj = o' := Option.some.inj (hoj.symm.trans ho')
      subst this
      have := hall e he hb
      rw [hon, getD_both (hlt t0 (hin t0 (by simp)))] at this
      cases this
    · exact chain_waits hlt t1 ts (fun x hx => hin x (by simp [hx])) hc.2 t ht hr

theorem forced_ready {tl : List Nat} {listed : Array Bool} (h : forcedB md ops tl listed = true) : ∀ j ∈ Region.ready md ops listed, j ∈ tl := by
  cases tl with
  | nil => intro j hj; simp only [forcedB, List.isEmpty_iff] at h; rw [h] at hj; cases hj
  | cons i l =>
    intro j hj
    simp only [forcedB, Bool.and_eq_true, decide_eq_true_eq] at h
    rw [h.1] at hj
    have : j = i := by simpa using hj
    simp [this]

theorem any_of_forced : ∀ (l : List Nat) (listed : Array Bool) (a : Act) (w : World), forcedB md ops l listed = true → wpList P ops Q (opsAt ops l) a w → wpAny P md ops Q l.length listed a w
  | [], _, _, _, hB, h => ⟨by simpa [forcedB] using hB, h⟩
  | i :: l, listed, a, w, hB, h => by
    simp only [forcedB, Bool.and_eq_true, decide_eq_true_eq] at hB
    have hi : i ∈ Region.ready md ops listed := by rw [hB.1]; simp
    obtain ⟨_, oi, hoi, _⟩ := mem_ready.1 hi
    refine ⟨fun h1 => (by rw [hB.1] at h1; cases h1), fun j hj => ?_⟩
    rw [hB.1] at hj
    have hji : j = i := by simpa using hj
    subst hji
    have hl : opsAt ops (j :: l) = oi :: opsAt ops l := by simp [opsAt, hoi]
    rw [hl] at h
    have hw : wpOp P ops Q j (wpList P ops Q (opsAt ops l)) a w := by unfold wpOp; simp only [hoi]; exact h
    exact wpOp_mono (fun a' w' h' => any_of_forced l _ a' w' hB.2 h') hw

/-- The quiet middle. -/
def anyN (P : Program) (md : Region.Mode) (ops : Array Oper) (C : World → Prop) (tl : List Nat) (L : Array Bool → Act → Prop) : Nat → Array Bool → Act → Prop
  | 0, listed, a => L listed a
  | f + 1, listed, a => Region.ready md ops listed ≠ [] ∧ ∀ i ∈ Region.ready md ops listed, i ∉ tl ∧ qOp P ops C i (anyN P md ops C tl L f (listed.setIfInBounds i true)) a

theorem any_of_anyN {tl : List Nat} {g : Nat} {L : Array Bool → Act → Prop} {Q' : Exit → Act → World → Prop} (hL : ∀ listed a w, C w → L listed a → wpAny P md ops Q' g listed a w) :
    ∀ (f : Nat) (listed : Array Bool) (a : Act) (w : World), C w → anyN P md ops C tl L f listed a → wpAny P md ops Q' (f + g) listed a w
  | 0, listed, a, w, hw, h => by rw [Nat.zero_add]; exact hL _ _ _ hw h
  | f + 1, listed, a, w, hw, h => by
    rw [show f + 1 + g = (f + g) + 1 by omega]
    exact ⟨fun h0 => absurd h0 h.1, fun i hi => wpOp_of_qOp hw (fun a' w' hw' h' => any_of_anyN hL f _ a' w' hw' h') (h.2 i hi).2⟩

theorem anyN_first {t0 : Nat} {ts : List Nat} {i : Nat} {oi : Oper} {v : Value} {L : Array Bool → Act → Prop} (hi : ops[i]? = some oi) (hsel : ∀ (j : Nat) (o : Oper) cs b, ops[j]? = some o → o.op ≠ .select cs b)
    (ci : List Nat) (hs : sinkL md ops t0 ci = true) (hc : chainL md ops (t0 :: ts) = true) (hin : i ∈ ci) (hit : i ∉ t0 :: ts)
    (hdone : ∀ listed a, L listed a → ∀ j ∈ Region.ready md ops listed, j ∈ t0 :: ts) :
    ∀ (f : Nat) (listed : Array Bool) (a : Act), Inv md ops (t0 :: ts) listed →
      (∀ j oj, ops[j]? = some oj → j ≠ i → listed.getD j true = false → (∀ e ∈ oj.after, Region.binds md e = true → e.on ≠ i) → oi.apart ops oj = true) →
      i ∈ Region.ready md ops listed → YieldsIn P ops C oi v a →
      anyN P md ops C (t0 :: ts) L f (listed.setIfInBounds i true) (a.put oi.dst v) → anyN P md ops C (t0 :: ts) L (f + 1) listed a := by
  have hno : ∀ (listed : Array Bool), Inv md ops (t0 :: ts) listed → listed.getD i true = false → ∀ j ∈ Region.ready md ops listed, j ∉ t0 :: ts := by
    intro listed inv hun j hj hjt
    rcases List.mem_cons.1 hjt with rfl | hjt
    · exact first_waits inv ci hs ⟨i, hin, hun⟩ hj
    · have hlt : ∀ t ∈ t0 :: ts, t < ops.size → listed.getD t true = false := inv.tail
      have hall : ∀ t ∈ (t0 :: ts).filter (· < ops.size), listed.getD t true = false := fun t ht => by
        rw [List.mem_filter] at ht
        exact hlt t ht.1 (by simpa using ht.2)
      -- the chain, whose members lie in the region
      have key : ∀ (t0 : Nat) (ts : List Nat), (∀ t ∈ t0 :: ts, t < ops.size → listed.getD t true = false) → chainL md ops (t0 :: ts) = true → ∀ t ∈ ts, t ∉ Region.ready md ops listed := by
        intro t0 ts
        induction ts generalizing t0 with
        | nil => intro _ _ t ht; cases ht
        | cons t1 ts ih =>
          intro hun hc t ht hr
          simp only [chainL, Bool.and_eq_true] at hc
          rcases List.mem_cons.1 ht with rfl | ht
          · obtain ⟨oj, hoj, e, he, hb, hon⟩ := Region.waitsFor_spec hc.1
            obtain ⟨_, o', ho', hall⟩ := mem_ready.1 hr
            have : oj = o' := Option.some.inj (hoj.symm.trans ho')
            subst this
            have h1 := hall e he hb
            rw [hon] at h1
            rcases Nat.lt_or_ge t0 ops.size with h | h
            · rw [getD_both (hun t0 (by simp) h)] at h1; cases h1
            · have : t0 ≥ listed.size := by rw [inv.size]; exact h
              simp [Array.getElem?_eq_none this] at h1
          · exact ih t1 (fun x hx => hun x (by simp [hx])) hc.2 t ht hr
      exact key t0 ts hlt hc j hjt hj
  intro f
  induction f with
  | zero =>
    intro listed a inv _ hr hy H
    have hun := (mem_ready.1 hr).1
    refine ⟨fun h => (by rw [h] at hr; cases hr), fun j hj => ⟨hno listed inv hun j hj, ?_⟩⟩
    by_cases hji : j = i
    · subst hji; exact hy.qOp hi H
    · exact absurd (hdone _ _ H j (ready_mono hj hji)) (hno listed inv hun j hj)
  | succ f ih =>
    intro listed a inv hfree hr hy H
    have hun := (mem_ready.1 hr).1
    refine ⟨fun h => (by rw [h] at hr; cases hr), fun j hj => ⟨hno listed inv hun j hj, ?_⟩⟩
    by_cases hji : j = i
    · subst hji; exact hy.qOp hi H
    · have h1 := (H.2 j (ready_mono hj hji)).2
      obtain ⟨hjun, oj, hoj, hall⟩ := mem_ready.1 hj
      have hnot : ∀ e ∈ oj.after, Region.binds md e = true → e.on ≠ i := fun e he hb heq => by
        have h1 := hall e he hb
        rw [heq, getD_both hun] at h1
        cases h1
      have h2 := qOp_put hoj (hfree j oj hoj hji hjun hnot) (fun cs b => hsel i oi cs b hi) (fun cs b => hsel j oj cs b hoj) hy h1
      have hfree' : ∀ k ok, ops[k]? = some ok → k ≠ i → (listed.setIfInBounds j true).getD k true = false →
          (∀ e ∈ ok.after, Region.binds md e = true → e.on ≠ i) → oi.apart ops ok = true := fun k ok hk hki hun hno => by
        refine hfree k ok hk hki ?_ hno
        by_cases hjk : j = k
        · subst hjk; exact hjun
        · rw [getD_set_ne true hjk] at hun; exact hun
      refine qOp_mono (fun a' h3 => ih (listed.setIfInBounds j true) a' (inv.set hj (hno listed inv hun j hj)) hfree' (ready_mono hr (Ne.symm hji)) h3.1 ?_) h2
      rw [Array.setIfInBounds_comm _ _ hji]
      exact h3.2

theorem anyN_lex {t0 : Nat} {ts : List Nat} {Lq : Act → Prop} (hsel : Region.noSelect ops = true) (ci : List Nat) (hs : sinkL md ops t0 ci = true) (hc : chainL md ops (t0 :: ts) = true) (hit : ∀ i ∈ ci, i ∉ t0 :: ts) :
    ∀ (l : List Nat) (listed : Array Bool) (a : Act), (∀ i ∈ l, i ∈ ci) → Inv md ops (t0 :: ts) listed → freeB md ops (forcedB md ops (t0 :: ts)) l listed = true → wpQuiet P ops C Lq (opsAt ops l) a →
    anyN P md ops C (t0 :: ts) (fun listed' a' => forcedB md ops (t0 :: ts) listed' = true ∧ Lq a') l.length listed a
  | [], listed, a, _, _, hB, h => ⟨hB, h⟩
  | i :: l, listed, a, hl, inv, hB, h => by
    simp only [freeB, Bool.and_eq_true] at hB
    obtain ⟨⟨hr, hf⟩, hB'⟩ := hB
    have hr' : i ∈ Region.ready md ops listed := by simpa using hr
    obtain ⟨_, oi, hoi, _⟩ := mem_ready.1 hr'
    have ho : opsAt ops (i :: l) = oi :: opsAt ops l := by simp [opsAt, hoi]
    rw [ho] at h
    have hst : qOp P ops C i (wpQuiet P ops C Lq (opsAt ops l)) a := by unfold qOp; simp only [hoi]; exact h
    obtain ⟨v, hy, hK⟩ := yieldsIn_of_qOp hoi hst
    exact anyN_first hoi (Region.noSelect_spec hsel) ci hs hc (hl i (by simp)) (hit i (hl i (by simp))) (fun listed' a' hL => forced_ready hL.1) l.length listed a inv (Region.free_spec hoi hf) hr' hy
      (anyN_lex hsel ci hs hc hit l _ _ (fun j hj => hl j (by simp [hj])) (inv.set hr' (hit i (hl i (by simp)))) hB' hK)

/-- The world-free beginning. -/
theorem any_of_W {G : Array Bool → Bool} {g : Nat} (hsel : Region.noSelect ops = true) (hQ : ∀ c a w, ¬ Q (.panic c) a w) {w : World} {K : Act → Prop} (tl : List Nat)
    (hK : ∀ listed a, G listed = true → Inv md ops tl listed → K a → wpAny P md ops Q g listed a w) :
    ∀ (l : List Nat) (listed : Array Bool) (a : Act), (∀ i ∈ l, i ∉ tl) → Inv md ops tl listed → freeB md ops G l listed = true → wpW P ops K (opsAt ops l) a → wpAny P md ops Q (l.length + g) listed a w
  | [], listed, a, _, inv, hB, h => by simpa using hK _ _ hB inv h
  | i :: l, listed, a, hl, inv, hB, h => by
    simp only [freeB, Bool.and_eq_true] at hB
    obtain ⟨⟨hr, hf⟩, hB'⟩ := hB
    have hr' : i ∈ Region.ready md ops listed := by simpa using hr
    obtain ⟨_, oi, hoi, _⟩ := mem_ready.1 hr'
    have ho : opsAt ops (i :: l) = oi :: opsAt ops l := by simp [opsAt, hoi]
    rw [ho] at h
    obtain ⟨v, hy, h'⟩ := h
    have := any_of_W hsel hQ tl hK l _ _ (fun j hj => hl j (by simp [hj])) (inv.set hr' (hl i (by simp))) hB' h'
    rw [show (i :: l).length + g = (l.length + g) + 1 by simp; omega]
    exact wpAny_first hoi (Region.noSelect_spec hsel) (fun c a w h => absurd h (hQ c _ w)) _ listed a w (Region.free_spec hoi hf) hr' hy this

theorem wp_region_perm {id : Nat} {a : Act} {w : World} {l : List Oper} (wi ci : List Nat) (t0 : Nat) (ts : List Nat) (hm : P.follows .mixedOrders = true) (hB : permB .any l.toArray wi ci t0 ts = true)
    (hC : C { w with drawn := w.drawn + 1 })
    (h : wpW P l.toArray (wpQuiet P l.toArray C (fun a' => ∀ w', C w' → wpList P l.toArray (NoPanic Q) (opsAt l.toArray (t0 :: ts)) a' w') (opsAt l.toArray ci)) (opsAt l.toArray wi) a) :
    (Code.region id l.toArray true).wp P Q a w := by
  refine wp_region_noPanic (wp_region_any hm ?_)
  simp only [permB, Bool.and_eq_true, decide_eq_true_eq] at hB
  obtain ⟨⟨⟨⟨⟨hsel, hsz⟩, hs⟩, hc⟩, hd⟩, hf⟩ := hB
  have hit : ∀ i ∈ wi ++ ci, i ∉ t0 :: ts := fun i hi => by
    have := List.all_eq_true.1 hd i hi
    simpa using this
  have inv0 : Inv .any l.toArray (t0 :: ts) (Array.replicate l.toArray.size false) :=
    ⟨fun j oj _ hl => (by rw [getD_replicate_false] at hl; cases hl), fun t _ ht => getD_in (by simpa using ht) (getD_replicate_false _ _), by simp⟩
  have := any_of_W (P := P) (md := .any) (Q := NoPanic Q) (g := ci.length + (ts.length + 1)) (w := { w with drawn := w.drawn + 1 }) hsel (fun c a w h => h) (t0 :: ts)
    (fun listed a' hG inv hq => any_of_anyN (tl := t0 :: ts) (g := ts.length + 1) (fun listed2 a2 w2 hw2 hL => any_of_forced (t0 :: ts) listed2 a2 w2 hL.1 (hL.2 w2 hw2)) ci.length listed a' _ hC
      (anyN_lex hsel ci hs hc (fun i hi => hit i (by simp [hi])) ci listed a' (fun _ h => h) inv hG hq))
    wi _ a (fun i hi => hit i (by simp [hi])) inv0 hf h
  rw [show wi.length + (ci.length + (ts.length + 1)) = l.toArray.size by omega] at this
  exact this
end
end Go.Proofs.YtfdgifcllelhiaaGreatDoor
