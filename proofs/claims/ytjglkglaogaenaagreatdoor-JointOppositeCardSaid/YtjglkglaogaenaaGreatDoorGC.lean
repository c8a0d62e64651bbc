/- texts of mine, merged: L7, L8, L9. -/
import Derived.Test.YtjglkglaogaenaaGreatDoorGB
import Derived.Shelf.SlSortCmp.NoneTotal
import Derived.Test.YtjglkglaogaenaaGreatDoorGA
/- IndexFunc, ContainsFunc at ints; joint.within. -/
namespace Go.Proofs.YtjglkglaogaenaaGreatDoor
section
open Go.RowKit
attribute [local go_sem] Ext.cell Ext.frozen
/-- A slice that reads as a list of ints. -/
def Ints (w : World) (v : Value) (xs : List Int) : Prop :=
  ∃ a n c, v = .slice a n c ∧ xs.length = n ∧ n ≤ c ∧ (0 < n → ∃ b off, a = some ⟨b, off, none⟩ ∧ IntsAt w b off xs)
theorem Ints.below {w w' : World} {v : Value} {xs : List Int} (h : Ints w v xs) (hb : Below w.heap.size w w') : Ints w' v xs := by
  obtain ⟨a, n, c, hv, hn, hc, hx⟩ := h
  exact ⟨a, n, c, hv, hn, hc, fun h0 => by obtain ⟨b, off, ha, hi⟩ := hx h0; exact ⟨b, off, ha, hi.below hb⟩⟩
/-- In every extension of w the closure answers b at the argument. -/
def PredIn (P : Program) (g : Nat) (cb : Array Value) (w : World) (arg : Value) (b : Bool) : Prop := ∀ w', Below w.heap.size w w' → Calls P g (#[arg] ++ cb) w' (Ret w' (.bool b))
def idxL {α : Type} (p : α → Bool) (xs : List α) : Int := match xs.findIdx? p with | some i => (i : Int) | none => -1
theorem idxL_hit {α : Type} {p : α → Bool} {xs : List α} {k : Nat} (hk : k < xs.length) (hp : p xs[k] = true) (h : ∀ i (h : i < xs.length), i < k → p xs[i] = false) : idxL p xs = k := by
  have : xs.findIdx? p = some k := by
    rw [List.findIdx?_eq_some_iff_getElem]
    exact ⟨hk, hp, fun j hj => by simpa using h j (by omega) hj⟩
  simp [idxL, this]
theorem idxL_none {α : Type} {p : α → Bool} {xs : List α} (h : ∀ i (h : i < xs.length), p xs[i] = false) : idxL p xs = -1 := by
  have : xs.findIdx? p = none := by
    rw [List.findIdx?_eq_none_iff]
    intro x hx
    obtain ⟨i, hi, rfl⟩ := List.getElem_of_mem hx
    exact h i hi
  simp [idxL, this]
theorem idxL_nonneg {α : Type} (p : α → Bool) (xs : List α) : decide (0 ≤ idxL p xs) = xs.any p := by
  unfold idxL
  cases h : xs.findIdx? p with
  | none =>
    rw [List.findIdx?_eq_none_iff] at h
    have : xs.any p = false := by rw [Bool.eq_false_iff]; simp; intro x hx; simpa using h x hx
    simp [this]
  | some i =>
    rw [List.findIdx?_eq_some_iff_getElem] at h
    obtain ⟨hi, hp, _⟩ := h
    have : xs.any p = true := by simp; exact ⟨_, List.getElem_mem hi, hp⟩
    simp [this]
set_option maxHeartbeats 1000000 in
theorem indexFunc_int (v : Value) (xs : List Int) (p : Int → Bool) (g : Nat) (cb : Array Value) (w : World) (hx : Ints w v xs) (hm : xs.length ≤ 1000000000)
    (eg : ∀ args w, (callFunc g args).run Tryz.prog w = .ok (.enter g args) w) (hp : ∀ x ∈ xs, PredIn Tryz.prog g cb w (.int .i64 x) (p x)) :
    Calls Tryz.prog 186 #[v, .func (.func g) #[] cb] w (Ret w (.int .i64 (idxL p xs))) := by
  obtain ⟨a, n, c, rfl, hn, _, hx⟩ := hx
  have HP := Lib.hid hp
  clear hp
  go_enter Tryz.func186, Tryz.ntmps186
  go_wp2
  go_loopw [8] (fun i wr => ∃ k : Nat, k ≤ n ∧ i = .int .i64 k ∧ Below w.heap.size w wr ∧ Hid (∀ i (h : i < xs.length), i < k → p xs[i] = false)) (fun i _ => n - (intOf i).toNat)
  case atStart => exact ⟨0, by omega, rfl, Below.refl _ _, Lib.hid (fun i _ h => by omega)⟩
  case round =>
    obtain ⟨k, hk, rfl, hb, Hz⟩ := hrel
    by_cases hlt : k < n
    · obtain ⟨b, off, rfl, hi⟩ := hx (by omega)
      have hcell := below_cell hb (hi k (by omega))
      have hc := HP.out (xs[k]) (by simp) wr hb
      have Hh := Lib.hid (idxL_hit (p := p) (xs := xs) (k := k) (by omega))
      obtain ⟨x, Hx⟩ : ∃ x, Hid (xs[k] = x) := ⟨_, Lib.hid rfl⟩
      rw [Hx.out] at hcell hc
      clear hx hi
      have Hc := Lib.hid hc
      clear hc
      cases hpx : p x with
      | true =>
        rw [hpx] at Hc
        go_wp2_with fail
        refine (Hc.out).mono ?_
        rintro e w1 ⟨rfl, hb1⟩
        go_wp2
        go_ret
        exact ⟨ret_int (by rw [Hh.out (by rw [Hx.out]; exact hpx) Hz.out]), below_trans hb hb1⟩
      | false =>
        rw [hpx] at Hc
        have Hpx := Lib.hid hpx
        clear hpx
        go_wp2_with fail
        refine (Hc.out).mono ?_
        rintro e w1 ⟨rfl, hb1⟩
        go_wp2
        go_roundw
        case rel => exact ⟨k + 1, by omega, by go_num, below_trans hb hb1, Lib.hid (fun i hi hik => by
          by_cases e : i = k
          · subst e; rw [Hx.out]; exact Hpx.out
          · exact Hz.out i hi (by omega))⟩
        case measure => simp [intOf]; omega
    · have Hn := Lib.hid (idxL_none (fun i hi => Hz.out i hi (by omega)))
      clear hx
      go_wp2
      go_ret
      exact ⟨ret_int (by rw [Hn.out]), hb⟩
end
/- IndexFunc, ContainsFunc at ints, planes, corners; joint.within. -/
section
open Go.RowKit Go.Shelf
attribute [local go_sem] Ext.cell Ext.frozen
abbrev Q4 := Int × Int × Int × Int
abbrev v4 (p : Q4) : Value := .agg #[.int .i64 p.1, .int .i64 p.2.1, .int .i64 p.2.2.1, .int .i64 p.2.2.2]
def Q4At (w : World) (b off : Nat) (xs : List Q4) : Prop := ∀ i (h : i < xs.length),
  w.cell? ⟨b, off + i * 4, none⟩ = some (.int .i64 xs[i].1) ∧ w.cell? ⟨b, off + i * 4 + 1, none⟩ = some (.int .i64 xs[i].2.1) ∧ w.cell? ⟨b, off + i * 4 + 2, none⟩ = some (.int .i64 xs[i].2.2.1) ∧ w.cell? ⟨b, off + i * 4 + 3, none⟩ = some (.int .i64 xs[i].2.2.2)
theorem Q4At.below {w w' : World} {b off : Nat} {xs : List Q4} (h : Q4At w b off xs) (hb : Below w.heap.size w w') : Q4At w' b off xs := fun i hi => ⟨below_cell hb (h i hi).1, below_cell hb (h i hi).2.1, below_cell hb (h i hi).2.2.1, below_cell hb (h i hi).2.2.2⟩
/-- A slice of structs of four ints that reads as a list. -/
def Q4s (w : World) (v : Value) (xs : List Q4) : Prop :=
  ∃ a n c, v = .slice a n c ∧ xs.length = n ∧ n ≤ c ∧ (0 < n → ∃ b off, a = some ⟨b, off, none⟩ ∧ Q4At w b off xs)
theorem Q4s.below {w w' : World} {v : Value} {xs : List Q4} (h : Q4s w v xs) (hb : Below w.heap.size w w') : Q4s w' v xs := by
  obtain ⟨a, n, c, hv, hn, hc, hx⟩ := h
  exact ⟨a, n, c, hv, hn, hc, fun h0 => by obtain ⟨b, off, ha, hi⟩ := hx h0; exact ⟨b, off, ha, hi.below hb⟩⟩
set_option maxHeartbeats 1000000 in
theorem containsFunc_int (v : Value) (xs : List Int) (p : Int → Bool) (g : Nat) (cb : Array Value) (w : World) (hx : Ints w v xs) (hm : xs.length ≤ 1000000000)
    (eg : ∀ args w, (callFunc g args).run Tryz.prog w = .ok (.enter g args) w) (hp : ∀ x ∈ xs, PredIn Tryz.prog g cb w (.int .i64 x) (p x)) :
    Calls Tryz.prog 129 #[v, .func (.func g) #[] cb] w (Ret w (.bool (xs.any p))) := by
  have Hc := Lib.hid (indexFunc_int v xs p g cb w hx hm eg hp)
  have HN := Lib.hid (idxL_nonneg p xs)
  clear hx hp eg
  go_enter Tryz.func129, Tryz.ntmps129
  go_wp2_with fail
  refine (Hc.out).mono ?_
  rintro e w1 ⟨rfl, hb1⟩
  go_wp2
  go_ret
  exact ⟨ret_bool HN.out, hb1⟩
set_option maxHeartbeats 1000000 in
theorem indexFunc_plane (v : Value) (xs : List Q4) (p : Q4 → Bool) (g : Nat) (cb : Array Value) (w : World) (hx : Q4s w v xs) (hm : xs.length ≤ 1000000000)
    (eg : ∀ args w, (callFunc g args).run Tryz.prog w = .ok (.enter g args) w) (hp : ∀ x ∈ xs, PredIn Tryz.prog g cb w (v4 x) (p x)) :
    Calls Tryz.prog 273 #[v, .func (.func g) #[] cb] w (Ret w (.int .i64 (idxL p xs))) := by
  obtain ⟨a, n, c, rfl, hn, _, hx⟩ := hx
  have HP := Lib.hid hp
  clear hp
  go_enter Tryz.func273, Tryz.ntmps273
  go_wp2
  go_loopw [8] (fun i wr => ∃ k : Nat, k ≤ n ∧ i = .int .i64 k ∧ Below w.heap.size w wr ∧ Hid (∀ i (h : i < xs.length), i < k → p xs[i] = false)) (fun i _ => n - (intOf i).toNat)
  case atStart => exact ⟨0, by omega, rfl, Below.refl _ _, Lib.hid (fun i _ h => by omega)⟩
  case round =>
    obtain ⟨k, hk, rfl, hb, Hz⟩ := hrel
    by_cases hlt : k < n
    · obtain ⟨b, off, rfl, hi⟩ := hx (by omega)
      obtain ⟨c0, c1, c2, c3⟩ := (hi.below hb) k (by omega)
      have hc := HP.out (xs[k]) (by simp) wr hb
      have Hh := Lib.hid (idxL_hit (p := p) (xs := xs) (k := k) (by omega))
      obtain ⟨x, Hx⟩ : ∃ x, Hid (xs[k] = x) := ⟨_, Lib.hid rfl⟩
      rw [Hx.out] at c0 c1 c2 c3 hc
      clear hx hi
      have Hc := Lib.hid hc
      clear hc
      cases hpx : p x with
      | true =>
        rw [hpx] at Hc
        go_wp2_with fail
        refine (Hc.out).mono ?_
        rintro e w1 ⟨rfl, hb1⟩
        go_wp2
        go_ret
        exact ⟨ret_int (by rw [Hh.out (by rw [Hx.out]; exact hpx) Hz.out]), below_trans hb hb1⟩
      | false =>
        rw [hpx] at Hc
        have Hpx := Lib.hid hpx
        clear hpx
        go_wp2_with fail
        refine (Hc.out).mono ?_
        rintro e w1 ⟨rfl, hb1⟩
        go_wp2
        go_roundw
        case rel => exact ⟨k + 1, by omega, by go_num, below_trans hb hb1, Lib.hid (fun i hi hik => by
          by_cases e : i = k
          · subst e; rw [Hx.out]; exact Hpx.out
          · exact Hz.out i hi (by omega))⟩
        case measure => simp [intOf]; omega
    · have Hn := Lib.hid (idxL_none (fun i hi => Hz.out i hi (by omega)))
      clear hx
      go_wp2
      go_ret
      exact ⟨ret_int (by rw [Hn.out]), hb⟩
set_option maxHeartbeats 1000000 in
theorem indexFunc_corner (v : Value) (xs : List Q4) (p : Q4 → Bool) (g : Nat) (cb : Array Value) (w : World) (hx : Q4s w v xs) (hm : xs.length ≤ 1000000000)
    (eg : ∀ args w, (callFunc g args).run Tryz.prog w = .ok (.enter g args) w) (hp : ∀ x ∈ xs, PredIn Tryz.prog g cb w (v4 x) (p x)) :
    Calls Tryz.prog 251 #[v, .func (.func g) #[] cb] w (Ret w (.int .i64 (idxL p xs))) := by
  obtain ⟨a, n, c, rfl, hn, _, hx⟩ := hx
  have HP := Lib.hid hp
  clear hp
  go_enter Tryz.func251, Tryz.ntmps251
  go_wp2
  go_loopw [8] (fun i wr => ∃ k : Nat, k ≤ n ∧ i = .int .i64 k ∧ Below w.heap.size w wr ∧ Hid (∀ i (h : i < xs.length), i < k → p xs[i] = false)) (fun i _ => n - (intOf i).toNat)
  case atStart => exact ⟨0, by omega, rfl, Below.refl _ _, Lib.hid (fun i _ h => by omega)⟩
  case round =>
    obtain ⟨k, hk, rfl, hb, Hz⟩ := hrel
    by_cases hlt : k < n
    · obtain ⟨b, off, rfl, hi⟩ := hx (by omega)
      obtain ⟨c0, c1, c2, c3⟩ := (hi.below hb) k (by omega)
      have hc := HP.out (xs[k]) (by simp) wr hb
      have Hh := Lib.hid (idxL_hit (p := p) (xs := xs) (k := k) (by omega))
      obtain ⟨x, Hx⟩ : ∃ x, Hid (xs[k] = x) := ⟨_, Lib.hid rfl⟩
      rw [Hx.out] at c0 c1 c2 c3 hc
      clear hx hi
      have Hc := Lib.hid hc
      clear hc
      cases hpx : p x with
      | true =>
        rw [hpx] at Hc
        go_wp2_with fail
        refine (Hc.out).mono ?_
        rintro e w1 ⟨rfl, hb1⟩
        go_wp2
        go_ret
        exact ⟨ret_int (by rw [Hh.out (by rw [Hx.out]; exact hpx) Hz.out]), below_trans hb hb1⟩
      | false =>
        rw [hpx] at Hc
        have Hpx := Lib.hid hpx
        clear hpx
        go_wp2_with fail
        refine (Hc.out).mono ?_
        rintro e w1 ⟨rfl, hb1⟩
        go_wp2
        go_roundw
        case rel => exact ⟨k + 1, by omega, by go_num, below_trans hb hb1, Lib.hid (fun i hi hik => by
          by_cases e : i = k
          · subst e; rw [Hx.out]; exact Hpx.out
          · exact Hz.out i hi (by omega))⟩
        case measure => simp [intOf]; omega
    · have Hn := Lib.hid (idxL_none (fun i hi => Hz.out i hi (by omega)))
      clear hx
      go_wp2
      go_ret
      exact ⟨ret_int (by rw [Hn.out]), hb⟩
set_option maxHeartbeats 1000000 in
theorem containsFunc_plane (v : Value) (xs : List Q4) (p : Q4 → Bool) (g : Nat) (cb : Array Value) (w : World) (hx : Q4s w v xs) (hm : xs.length ≤ 1000000000)
    (eg : ∀ args w, (callFunc g args).run Tryz.prog w = .ok (.enter g args) w) (hp : ∀ x ∈ xs, PredIn Tryz.prog g cb w (v4 x) (p x)) :
    Calls Tryz.prog 259 #[v, .func (.func g) #[] cb] w (Ret w (.bool (xs.any p))) := by
  have Hc := Lib.hid (indexFunc_plane v xs p g cb w hx hm eg hp)
  have HN := Lib.hid (idxL_nonneg p xs)
  clear hx hp eg
  go_enter Tryz.func259, Tryz.ntmps259
  go_wp2_with fail
  refine (Hc.out).mono ?_
  rintro e w1 ⟨rfl, hb1⟩
  go_wp2
  go_ret
  exact ⟨ret_bool HN.out, hb1⟩
set_option maxHeartbeats 1000000 in
theorem containsFunc_corner (v : Value) (xs : List Q4) (p : Q4 → Bool) (g : Nat) (cb : Array Value) (w : World) (hx : Q4s w v xs) (hm : xs.length ≤ 1000000000)
    (eg : ∀ args w, (callFunc g args).run Tryz.prog w = .ok (.enter g args) w) (hp : ∀ x ∈ xs, PredIn Tryz.prog g cb w (v4 x) (p x)) :
    Calls Tryz.prog 222 #[v, .func (.func g) #[] cb] w (Ret w (.bool (xs.any p))) := by
  have Hc := Lib.hid (indexFunc_corner v xs p g cb w hx hm eg hp)
  have HN := Lib.hid (idxL_nonneg p xs)
  clear hx hp eg
  go_enter Tryz.func222, Tryz.ntmps222
  go_wp2_with fail
  refine (Hc.out).mono ?_
  rintro e w1 ⟨rfl, hb1⟩
  go_wp2
  go_ret
  exact ⟨ret_bool HN.out, hb1⟩
end
/- solid.body: add. -/
section
open Go.RowKit Go.Shelf
attribute [local go_sem] Ext.cell Ext.frozen
/-- Where a point lies at a plane. -/
def sd (p c : Q4) : Int := sideP p.1 p.2.1 p.2.2.1 p.2.2.2 c.1 c.2.1 c.2.2.1 c.2.2.2
theorem side_q (p c : Q4) (w : World) (hp : okPl p) (hc : okCo c) : Calls Tryz.prog 224 #[v4 p, v4 c] w (Ret w (.int .i64 (sd p c))) :=
  side_any _ _ _ _ _ _ _ _ w hp.1 hp.2.1 hp.2.2.1 hp.2.2.2 hc.1 hc.2.1 hc.2.2.1 (by have := hc.2.2.2; omega)
set_option maxHeartbeats 1000000 in
theorem add_closure (p c : Q4) (b : Nat) (w : World) (hp : okPl p) (hc : okCo c) (h0 : w.cell? ⟨b, 0, none⟩ = some (.int .i64 c.1)) (h1 : w.cell? ⟨b, 1, none⟩ = some (.int .i64 c.2.1)) (h2 : w.cell? ⟨b, 2, none⟩ = some (.int .i64 c.2.2.1)) (h3 : w.cell? ⟨b, 3, none⟩ = some (.int .i64 c.2.2.2)) :
    Calls Tryz.prog 260 #[v4 p, .pointer (some ⟨b, 0, none⟩)] w (Ret w (.bool (decide (0 < sd p c)))) := by
  have hs := fun W => Lib.hid (side_q p c W hp hc)
  have hlt := World.block_lt_of_cell? w _ h0
  go_enter Tryz.func260, Tryz.ntmps260
  go_wp2_with fail
  refine ((hs _).out).mono ?_
  rintro e w1 ⟨rfl, hb1⟩
  go_wp2
  go_ret
  exact ⟨rfl, below_trans (by (repeat (first | exact brf | assumption | refine ble ?_ | refine blx ?_ | refine bla ?_ | refine bls ?_ | refine bld ?_))) hb1⟩
theorem eg_add1 : ∀ args w, (callFunc 260 args).run Tryz.prog w = .ok (.enter 260 args) w := enters_of Tryz.func260 (by kernel_rfl) rfl
theorem add_pred (p c : Q4) (b : Nat) (w : World) (hp : okPl p) (hc : okCo c) (h0 : w.cell? ⟨b, 0, none⟩ = some (.int .i64 c.1)) (h1 : w.cell? ⟨b, 1, none⟩ = some (.int .i64 c.2.1)) (h2 : w.cell? ⟨b, 2, none⟩ = some (.int .i64 c.2.2.1)) (h3 : w.cell? ⟨b, 3, none⟩ = some (.int .i64 c.2.2.2)) :
    PredIn Tryz.prog 260 #[.pointer (some ⟨b, 0, none⟩)] w (v4 p) (decide (0 < sd p c)) :=
  fun _ hb => add_closure p c b _ hp hc (below_cell hb h0) (below_cell hb h1) (below_cell hb h2) (below_cell hb h3)
theorem own_below {w w1 : World} {base : Nat} {e : TypeId} {size n : Nat} {v : Value} {xs : List Value} (h : w.ownsRow base e size v n xs) (hb : Below w.heap.size w w1) : w1.ownsRow base e size v n xs := by
  refine ⟨h.1, ?_⟩
  rcases h.2 with h | ⟨g, cap, cur, hv, hg, hh, r⟩
  · exact .inl h
  · exact .inr ⟨g, cap, cur, hv, hg, (hb.block g (Array.getElem?_eq_some_iff.1 hh).1).trans hh, r⟩
theorem info_corner : (Tryz.prog.info? 193).map (fun i => (i.zero, i.size, i.bytes)) = some (some (v4 (0, 0, 0, 0)), 4, 32) := by kernel_rfl
theorem und_corners : Tryz.prog.underlying 189 = some (.slice 193) := by kernel_rfl
theorem own_form {w : World} {base : Nat} {e : TypeId} {size n : Nat} {v : Value} {xs : List Value} (h : w.ownsRow base e size v n xs) (hn : 0 < n) : ∃ g cap, v = .slice (some ⟨g, 0, none⟩) n cap ∧ base ≤ g ∧ g < w.heap.size := by
  rcases h.2 with ⟨rfl, h0⟩ | ⟨g, cap, cur, rfl, hb, hh, _⟩
  · omega
  · exact ⟨g, cap, rfl, hb, (Array.getElem?_eq_some_iff.1 hh).1⟩
theorem add0 (b j : Nat) : (⟨b, 0, none⟩ : Addr).add j = ⟨b, j, none⟩ := by
  unfold Addr.add
  by_cases h : j = 0 <;> simp [h]
theorem own_setCell_far {w : World} {base : Nat} {e : TypeId} {size n : Nat} {v : Value} {xs : List Value} (h : w.ownsRow base e size v n xs) (p : Addr) (u : Value) (hp : some p.block ≠ v.ownBlock) : (w.setCell p u).ownsRow base e size v n xs := by
  refine ⟨h.1, ?_⟩
  rcases h.2 with h | ⟨g, cap, cur, rfl, hb, hh, r⟩
  · exact .inl h
  · exact .inr ⟨g, cap, cur, rfl, hb, (Below.heap_setCell w p u g (by rintro rfl; exact hp rfl)).trans hh, r⟩
theorem own_blk_ne {w : World} {g : Nat} {t : TypeId} {cs : Array Value} {base : Nat} {e : TypeId} {size n : Nat} {v : Value} {xs : List Value} (h : w.ownsRow base e size v n xs) (hg : w.heap[g]? = some (.cells cs t (0, 0))) (hne : e ≠ t) : v.ownBlock ≠ some g := by
  rcases h.2 with ⟨rfl, _⟩ | ⟨g', cap, cur, rfl, _, hh, _⟩
  · simp [Value.ownBlock]
  · intro he
    have : g' = g := by simpa [Value.ownBlock] using he
    subst this
    rw [hg] at hh
    injection hh with hh
    injection hh with _ ht
    exact hne ht.symm
/-- No plane has the point beyond. -/
def allowedB (ps : List Q4) (c : Q4) : Bool := !(ps.any fun p => decide (0 < sd p c))
/-- All but block bb and one row is as it was. -/
structure Kept2 (w w' : World) (bb : Nat) (row : Option Nat) : Prop where
  os : w'.os = w.os
  tape : w'.tape = w.tape
  output : w'.output = w.output
  size : w.heap.size ≤ w'.heap.size
  block : ∀ k, k < w.heap.size → k ≠ bb → some k ≠ row → w'.heap[k]? = w.heap[k]?
theorem Kept2.of_below {w w' : World} {bb : Nat} {row : Option Nat} (h : Below w.heap.size w w') : Kept2 w w' bb row := ⟨h.os, h.tape, h.output, h.size, fun k hk _ _ => h.block k hk⟩
theorem Kept2.set {w w' : World} {bb : Nat} {row : Option Nat} (h : Kept2 w w' bb row) (i : Nat) (u : Value) : Kept2 w (w'.setCell ⟨bb, i, none⟩ u) bb row :=
  ⟨h.os, h.tape, h.output, by simpa [World.setCell] using h.size, fun k hk h1 h2 => (Below.heap_setCell _ _ _ _ h1).trans (h.block k hk h1 h2)⟩
theorem Kept2.below {w w' : World} {bb : Nat} {row : Option Nat} {B : Nat} (h : Kept2 w w' bb row) (hB : B ≤ w.heap.size) (h1 : B ≤ bb) (h2 : ∀ k, row = some k → B ≤ k) : Below B w w' :=
  ⟨h.os, h.tape, h.output, h.size, fun k hk => h.block k (by omega) (by omega) (fun e => by have := h2 k e.symm; omega)⟩
set_option maxHeartbeats 1000000 in
theorem add_yes (ps : List Q4) (c : Q4) (pv cv : Value) (bb n base : Nat) (cells : List Value) (w : World) (hps : ∀ p ∈ ps, okPl p) (hc : okCo c) (hl : ps.length ≤ 1000000) (hn : n ≤ 1000000)
    (hB : w.heap[bb]? = some (.cells #[pv, cv] 208 (0, 0))) (hpv : Q4s w pv ps) (hown : w.ownsRow base 193 4 cv n cells) (hbs : base ≤ w.heap.size) (ha : allowedB ps c = true) :
    Calls Tryz.prog 245 #[.pointer (some ⟨bb, 0, none⟩), v4 c] w fun e w' => e = .returned (.tuple #[]) ∧ Kept2 w w' bb cv.ownBlock ∧
      ∃ cv', w'.heap[bb]? = some (.cells #[pv, cv'] 208 (0, 0)) ∧ w'.ownsRow base 193 4 cv' (n + 1) (cells ++ [.int .i64 c.1, .int .i64 c.2.1, .int .i64 c.2.2.1, .int .i64 c.2.2.2]) := by
  have hany : (ps.any fun p => decide (0 < sd p c)) = false := by simpa [allowedB] using ha
  have hlt : bb < w.heap.size := (Array.getElem?_eq_some_iff.1 hB).1
  have k0 : w.cell? ⟨bb, 0, none⟩ = some pv := cell_of_row w bb 0 _ _ _ hB
  have k1 : w.cell? ⟨bb, 1, none⟩ = some cv := cell_of_row w bb 1 _ _ _ hB
  obtain ⟨W, HW⟩ : ∃ W, Hid (W = w.alloc (.cells #[.int .i64 c.1, .int .i64 c.2.1, .int .i64 c.2.2.1, .int .i64 c.2.2.2] 193)) := ⟨_, Lib.hid rfl⟩
  have hbW : Below w.heap.size w W := by rw [HW.out]; (repeat (first | exact brf | assumption | refine ble ?_ | refine blx ?_ | refine bla ?_ | refine bls ?_ | refine bld ?_))
  have m0 : W.cell? ⟨w.heap.size, 0, none⟩ = some (.int .i64 c.1) := by rw [HW.out]; exact cell_new rfl 0
  have m1 : W.cell? ⟨w.heap.size, 1, none⟩ = some (.int .i64 c.2.1) := by rw [HW.out]; exact cell_new rfl 1
  have m2 : W.cell? ⟨w.heap.size, 2, none⟩ = some (.int .i64 c.2.2.1) := by rw [HW.out]; exact cell_new rfl 2
  have m3 : W.cell? ⟨w.heap.size, 3, none⟩ = some (.int .i64 c.2.2.2) := by rw [HW.out]; exact cell_new rfl 3
  have hcon := containsFunc_plane pv ps (fun p => decide (0 < sd p c)) _ _ W (hpv.below hbW) (by omega) eg_add1 (fun p hp => add_pred p c w.heap.size W (hps p hp) hc m0 m1 m2 m3)
  rw [hany, HW.out] at hcon
  have Hcon := Lib.hid hcon
  clear hcon
  go_enter Tryz.func245, Tryz.ntmps245
  go_wp2_with fail
  refine (Hcon.out).mono ?_
  rintro e w1 ⟨rfl, hb1⟩
  go_wp2
  have hw1 : Below w.heap.size w w1 := below_trans (by (repeat (first | exact brf | assumption | refine ble ?_ | refine blx ?_ | refine bla ?_ | refine bls ?_ | refine bld ?_))) hb1
  have q1 : w1.cell? ⟨bb, 1, none⟩ = some cv := below_cell hw1 k1
  have m0' : w1.cell? ⟨w.heap.size, 0, none⟩ = some (.int .i64 c.1) := below_cell hb1 (cell_new rfl 0)
  have m1' : w1.cell? ⟨w.heap.size, 1, none⟩ = some (.int .i64 c.2.1) := below_cell hb1 (cell_new rfl 1)
  have m2' : w1.cell? ⟨w.heap.size, 2, none⟩ = some (.int .i64 c.2.2.1) := below_cell hb1 (cell_new rfl 2)
  have m3' : w1.cell? ⟨w.heap.size, 3, none⟩ = some (.int .i64 c.2.2.2) := below_cell hb1 (cell_new rfl 3)
  have z0 : w.heap.size < w1.heap.size := by have := hb1.size; simp at this; omega
  have z1 : bb < w1.heap.size := by omega
  have hB' : w1.heap[bb]? = some (.cells #[pv, cv] 208 (0, 0)) := (hw1.block bb hlt).trans hB
  have hown1 : w1.ownsRow base 193 4 cv n cells := own_below hown hw1
  clear hb1 m0 m1 m2 m3 hbW HW Hcon k0 k1 hB hpv hown
  refine wp_region_app [0, 1, 2, 3] [4, 5] 6 7 [8, 9, 10] (by kernel_rfl) (by kernel_rfl) (fun w' => ∃ u : Ext _, w' = u.val) ⟨Ext.drew, rfl⟩ ?_
  simp only [opsAt, List.filterMap_cons, List.filterMap_nil, List.getElem?_toArray, List.getElem?_cons_zero, List.getElem?_cons_succ]
  repeat (refine wpW_step (fun K' hK' => ?_); go_simp; refine hK' _ ?_; clear hK' K')
  refine wpW_nil ?_
  repeat (refine wpS_step (fun K' hK' => ?_); go_simp; refine hK' _ ?_; clear hK' K')
  refine wpS_nil ?_
  refine wpList_step (fun K hK => ?_)
  go_simp
  refine hK _ _ ?_
  clear hK K
  refine ⟨⟨⟨_, by (repeat (first | exact brf | assumption | refine ble ?_ | refine blx ?_ | refine bla ?_ | refine bls ?_ | refine bld ?_))⟩, rfl⟩, ?_⟩
  obtain ⟨i0, hi, hz0, hz1, hz2⟩ := info_parts info_corner
  refine wpList_append_own _ rfl _ _ 189 rfl base 193 i0 (v4 (0, 0, 0, 0)) 4 32 und_corners hi hz0 hz1 hz2 rfl (by decide) cv n cells rfl ((hown1.alloc _).drew) ⟨w1.heap.size, 0, none⟩ 1 1 [.int .i64 c.1, .int .i64 c.2.1, .int .i64 c.2.2.1, .int .i64 c.2.2.2] rfl rfl ?c1 ?c2 ?c3 ?c4 ?c5 ?_
  case c1 =>
    intro j u hu
    have : (w1.alloc (.cells #[.int .i64 c.1, .int .i64 c.2.1, .int .i64 c.2.2.1, .int .i64 c.2.2.2] 193)).cell? ⟨w1.heap.size, j, none⟩ = some u := by rw [cell_new rfl j]; simpa using hu
    rw [add0]; exact this
  case c2 => intro u hu; simp at hu; rcases hu with rfl | rfl | rfl | rfl <;> rfl
  case c3 => unfold maxLen; omega
  case c4 => omega
  case c5 => simp; omega
  intro v' w2 hown2 hg2 _
  have hne : some bb ≠ cv.ownBlock := fun e => own_blk_ne hown1 hB' (by decide) e.symm
  have hBk : w2.heap[bb]? = some (.cells #[pv, cv] 208 (0, 0)) := (hg2.block bb (by simp; omega) hne).trans ((Below.heap_alloc w1 _ bb z1).trans hB')
  have k1 : w2.cell? ⟨bb, 1, none⟩ = some cv := cell_of_row w2 bb 1 _ _ _ hBk
  have kf : w2.frozen? ⟨bb, 1, none⟩ = false := by simp [World.frozen?, hBk]
  have hbw2 : Kept2 w w2 bb cv.ownBlock := by
    refine ⟨hg2.os.trans hw1.os, hg2.tape.trans hw1.tape, hg2.output.trans hw1.output, ?_, fun k hk h1 h2 => ?_⟩
    · have := hg2.size; simp at this; omega
    · exact (hg2.block k (by simp; omega) h2).trans ((Below.heap_alloc w1 _ k (by omega)).trans (hw1.block k hk))
  clear hg2 hown1 q1 m0' m1' m2' m3' hB' hi hz0 hz1 hz2
  obtain ⟨g, cap, rfl, hg, hglt⟩ := own_form hown2 (by omega)
  have hbg : g ≠ bb := fun e => own_blk_ne hown2 hBk (by decide) (by rw [e]; rfl)
  have Hown2 := Lib.hid hown2
  clear hown2
  go_frame
  iterate 3 (refine wpList_step (fun K hK => ?_); go_simp; refine hK _ _ ?_; clear hK K)
  refine NoPanic.normal ?_
  go_wp2
  go_end0
  refine ⟨rfl, hbw2.set _ _, _, ?_, own_setCell_far Hown2.out _ _ (fun e => hbg (by simpa [Value.ownBlock] using e.symm))⟩
  simp [World.setCell, Array.getElem?_modify, hBk]
set_option maxHeartbeats 1000000 in
theorem add_no (ps : List Q4) (c : Q4) (pv cv : Value) (bb : Nat) (w : World) (hps : ∀ p ∈ ps, okPl p) (hc : okCo c) (hl : ps.length ≤ 1000000)
    (hB : w.heap[bb]? = some (.cells #[pv, cv] 208 (0, 0))) (hpv : Q4s w pv ps) (ha : allowedB ps c = false) :
    Calls Tryz.prog 245 #[.pointer (some ⟨bb, 0, none⟩), v4 c] w fun e w' => e = .returned (.tuple #[]) ∧ Below w.heap.size w w' := by
  have hany : (ps.any fun p => decide (0 < sd p c)) = true := by simpa [allowedB] using ha
  have hlt : bb < w.heap.size := (Array.getElem?_eq_some_iff.1 hB).1
  have k0 : w.cell? ⟨bb, 0, none⟩ = some pv := cell_of_row w bb 0 _ _ _ hB
  obtain ⟨W, HW⟩ : ∃ W, Hid (W = w.alloc (.cells #[.int .i64 c.1, .int .i64 c.2.1, .int .i64 c.2.2.1, .int .i64 c.2.2.2] 193)) := ⟨_, Lib.hid rfl⟩
  have hbW : Below w.heap.size w W := by rw [HW.out]; (repeat (first | exact brf | assumption | refine ble ?_ | refine blx ?_ | refine bla ?_ | refine bls ?_ | refine bld ?_))
  have m0 : W.cell? ⟨w.heap.size, 0, none⟩ = some (.int .i64 c.1) := by rw [HW.out]; exact cell_new rfl 0
  have m1 : W.cell? ⟨w.heap.size, 1, none⟩ = some (.int .i64 c.2.1) := by rw [HW.out]; exact cell_new rfl 1
  have m2 : W.cell? ⟨w.heap.size, 2, none⟩ = some (.int .i64 c.2.2.1) := by rw [HW.out]; exact cell_new rfl 2
  have m3 : W.cell? ⟨w.heap.size, 3, none⟩ = some (.int .i64 c.2.2.2) := by rw [HW.out]; exact cell_new rfl 3
  have hcon := containsFunc_plane pv ps (fun p => decide (0 < sd p c)) _ _ W (hpv.below hbW) (by omega) eg_add1 (fun p hp => add_pred p c w.heap.size W (hps p hp) hc m0 m1 m2 m3)
  rw [hany, HW.out] at hcon
  have Hcon := Lib.hid hcon
  clear hcon
  go_enter Tryz.func245, Tryz.ntmps245
  go_wp2_with fail
  refine (Hcon.out).mono ?_
  rintro e w1 ⟨rfl, hb1⟩
  go_wp2
  go_end0
  exact ⟨rfl, below_trans (by (repeat (first | exact brf | assumption | refine ble ?_ | refine blx ?_ | refine bla ?_ | refine bls ?_ | refine bld ?_))) hb1⟩
end
end Go.Proofs.YtjglkglaogaenaaGreatDoor
