/- texts of mine, merged: S5, S6, S7, S8. -/
import Derived.Test.YtjglkglaogaenaaGreatDoorGX
import Derived.Test.YtjglkglaogaenaaGreatDoorGO
import Derived.Test.YtjglkglaogaenaaGreatDoorGS
import Derived.Test.YtjglkglaogaenaaGreatDoorGW
import Derived.Test.YtjglkglaogaenaaGreatDoorGN
/- joint.Standard and the reference's; base.Ints, SameJoint. -/
namespace Go.Proofs.YtjglkglaogaenaaGreatDoor
open Go.RowKit Go.Shelf
attribute [local go_sem] Ext.cell Ext.frozen

/-- A joint and an error are returned. -/
def RetJ (W : World) (k l w t : Int) (n : List Int) (err : Int) (e : Ending) (w' : World) : Prop := ∃ r, e = .returned (.tuple #[vJ k l w t r, .int .i64 err]) ∧ Below W.heap.size W w' ∧ Ints w' r n ∧ NilV r
/-- The error of a standard joint. -/
def stdE (k l w t : Int) : Int := if boxE k l w t ≠ 0 then 2 else if chkE k l w t (stdN k l w t) ≠ 0 then 12 else 0

def StdPost (W : World) (k l w t : Int) (n : List Int) (se : Int) (e : Ending) (w' : World) : Prop := (se = 0 ∧ RetJ W k l w t n 0 e w') ∨ (se ≠ 0 ∧ RetJ W 0 0 0 0 [] se e w')
theorem ints_nil (W : World) : Ints W (.slice none 0 0) [] := ⟨none, 0, 0, rfl, rfl, Nat.le_refl _, fun h => by omega⟩
theorem nil_nil : NilV (.slice none 0 0) := fun _ _ e => by cases e; exact ⟨rfl, rfl⟩
theorem box_of {k l w t : Int} (h : boxE k l w t = 0) : (0 ≤ k ∧ k ≤ 10) ∧ (1 ≤ l ∧ l ≤ 100000) ∧ (1 ≤ w ∧ w ≤ 100000) ∧ (1 ≤ t ∧ t ≤ 100000) := by
  unfold boxE at h
  split at h
  · rename_i h1
    have := h1.2
    rw [withinB_iff] at this
    exact ⟨h1.1, this l (by simp), this w (by simp), this t (by simp)⟩
  · simp at h
theorem box_two {k l w t : Int} (h : boxE k l w t ≠ 0) : boxE k l w t = 2 := by unfold boxE at h ⊢; split at h <;> simp_all

/-- Five cells are stored. -/
theorem far_ints {w : World} {r : Value} {n : List Int} {g i : Nat} {x : Value} {cs : Array Value} (h : Ints w r n) (ho : OkV w r) (hg : w.heap[g]? = some (.cells cs 25 (0, 0))) :
    Ints (w.setCell ⟨g, i, none⟩ x) r n ∧ OkV (w.setCell ⟨g, i, none⟩ x) r := by
  obtain ⟨a, m, c, rfl, hl, hc, hx⟩ := h
  have hne : ∀ b off, a = some ⟨b, off, none⟩ → g ≠ b := fun b off e hgb => by
    subst e hgb
    obtain ⟨cs', hh⟩ := ho.2 _ _ _ _ rfl
    rw [hg] at hh
    injection hh with hh
    injection hh with _ hT
    exact absurd hT (by decide)
  refine ⟨⟨a, m, c, rfl, hl, hc, fun h0 => ?_⟩, ho.1, fun b off m' c' e => ?_⟩
  · obtain ⟨b, off, rfl, hi⟩ := hx h0
    exact ⟨b, off, rfl, fun j hj => (World.cell?_setCell_other w ⟨g, i, none⟩ _ x (fun e => hne b off rfl (congrArg Addr.block e))).trans (hi j hj)⟩
  · obtain ⟨cs', hh⟩ := ho.2 b off m' c' e
    cases e
    exact ⟨cs', (Below.heap_setCell _ _ _ _ (fun e => hne b off rfl e.symm)).trans hh⟩
structure Set5 (w w5 : World) (g : Nat) (a b c d e : Value) : Prop where
  blk : w5.heap[g]? = some (.cells #[a, b, c, d, e] 25 (0, 0))
  far : ∀ g', g' ≠ g → w5.heap[g']? = w.heap[g']?
  below : ∀ B (W : World), Below B W w → B ≤ g → Below B W w5
  size : w5.heap.size = w.heap.size
def put5 (w : World) (g : Nat) (a b c d e : Value) : World := ((((w.setCell ⟨g, 0, none⟩ a).setCell ⟨g, 1, none⟩ b).setCell ⟨g, 2, none⟩ c).setCell ⟨g, 3, none⟩ d).setCell ⟨g, 4, none⟩ e
theorem set5 {w : World} {g : Nat} {x0 x1 x2 x3 x4 : Value} (h : w.heap[g]? = some (.cells #[x0, x1, x2, x3, x4] 25 (0, 0))) (a b c d e : Value) : Set5 w (put5 w g a b c d e) g a b c d e := by
  refine ⟨?_, fun g' hne => ?_, fun B W hb hB => ?_, ?_⟩
  · exact blk_set (blk_set (blk_set (blk_set (blk_set h 0 a) 1 b) 2 c) 3 d) 4 e
  · unfold put5
    rw [Below.heap_setCell _ _ _ _ hne, Below.heap_setCell _ _ _ _ hne, Below.heap_setCell _ _ _ _ hne, Below.heap_setCell _ _ _ _ hne, Below.heap_setCell _ _ _ _ hne]
  · exact ((((hb.setCell hB _).setCell hB _).setCell hB _).setCell hB _).setCell hB _
  · simp [put5]
theorem far5 {w : World} {r : Value} {n : List Int} {g : Nat} {x0 x1 x2 x3 x4 : Value} (h : w.heap[g]? = some (.cells #[x0, x1, x2, x3, x4] 25 (0, 0))) (a b c d e : Value) (hi : Ints w r n) (ho : OkV w r) : Ints (put5 w g a b c d e) r n ∧ OkV (put5 w g a b c d e) r := by
  obtain ⟨i1, o1⟩ := far_ints (i := 0) (x := a) hi ho h
  obtain ⟨i2, o2⟩ := far_ints (i := 1) (x := b) i1 o1 (blk_set h 0 a)
  obtain ⟨i3, o3⟩ := far_ints (i := 2) (x := c) i2 o2 (blk_set (blk_set h 0 a) 1 b)
  obtain ⟨i4, o4⟩ := far_ints (i := 3) (x := d) i3 o3 (blk_set (blk_set (blk_set h 0 a) 1 b) 2 c)
  exact far_ints (i := 4) (x := e) i4 o4 (blk_set (blk_set (blk_set (blk_set h 0 a) 1 b) 2 c) 3 d)
def IsN (n : List Int) : Value → World → Prop := fun v w => Ints w v n ∧ OkV w v
theorem stab_n (n : List Int) : Stab (IsN n) := fun _ _ _ hb h => ⟨h.1.below hb, h.2.below hb⟩
def IsJ (k l w t : Int) (n : List Int) : Value → World → Prop := fun v W => ∃ a m c, v = .agg #[.int .i64 k, .int .i64 l, .int .i64 w, .int .i64 t, .slice a m c] ∧ Ints W (.slice a m c) n ∧ OkV W (.slice a m c)
theorem stab_j (k l w t : Int) (n : List Int) : Stab (IsJ k l w t n) := fun _ _ _ hb ⟨a, m, c, h, h1, h2⟩ => ⟨a, m, c, h, h1.below hb, h2.below hb⟩
def IsB (B : Nat) : Value → World → Prop := fun v W => ∃ g, v = .pointer (some ⟨g, 0, none⟩) ∧ B ≤ g ∧ W.heap[g]? = some (.cells #[.int .i64 0, .int .i64 0, .int .i64 0, .int .i64 0, .slice none 0 0] 25 (0, 0))
theorem stab_b (B : Nat) : Stab (IsB B) := fun _ _ _ hb ⟨g, h, h1, h2⟩ => ⟨g, h, h1, (hb.block _ (blk_lt h2)).trans h2⟩
set_option maxRecDepth 100000 in
set_option maxHeartbeats 4000000 in
theorem Standard_any (k l w t : Int) (W : World) :
    Calls Tryz.prog 30 #[.int .i64 k, .agg #[.int .i64 l, .int .i64 w, .int .i64 t]] W
      (StdPost W k l w t (stdN k l w t) (stdE k l w t)) := by
  have h1 := fun W' => Lib.hid (checkBox_any k l w t W')
  by_cases hbx : boxE k l w t = 0
  · obtain ⟨hk, hl, hw, ht⟩ := box_of hbx
    have h2 := fun W' => Lib.hid (standard_any k l w t W' hk hl hw ht)
    have h3 := fun r W' (h : Ints W' r (stdN k l w t)) => Lib.hid (Check_all k l w t r (stdN k l w t) W' h (by have := stdN_len k l w t ht.1; omega))
    have HE : Hid (stdE k l w t = if chkE k l w t (stdN k l w t) ≠ 0 then 12 else 0) := Lib.hid (by unfold stdE; rw [if_neg (by simp [hbx])])
    rw [hbx] at h1
    generalize stdN k l w t = n at *
    generalize chkE k l w t n = ce at *
    generalize stdE k l w t = se at *
    clear hbx
    go_enter Tryz.func30, Tryz.ntmps30
    go_wp2_with fail
    refine ((h1 _).out).mono ?_
    rintro e w1 ⟨rfl, hb1⟩
    have HR := Lib.hid ((hb1.block (W.heap.size + 1) (by simp)).trans (heap_new (by simp)))
    have HB := Lib.hid ((hb1.block W.heap.size (by simp; omega)).trans ((heap_old (by simp)).trans (heap_new rfl)))
    have hw1 : Below W.heap.size W w1 := below_trans (below_trans (show Below W.heap.size W (W.alloc (.cells #[.int .i64 l, .int .i64 w, .int .i64 t] 22)) by (repeat (first | exact Below.refl _ _ | assumption | (refine below_trans ?_ (Ext.below _)) | (refine Below.trans ?_ ((Ext.below _).mono (by first | omega | (simp; omega)))) | (refine Below.alloc ?_ (by first | omega | (simp; done) | (simp; omega)) _) | (refine Below.setCell ?_ (by first | omega | (simp; done) | (simp; omega)) _) | (refine Below.drew ?_)))) (by (repeat (first | exact Below.refl _ _ | assumption | (refine below_trans ?_ (Ext.below _)) | (refine Below.trans ?_ ((Ext.below _).mono (by first | omega | (simp; omega)))) | (refine Below.alloc ?_ (by first | omega | (simp; done) | (simp; omega)) _) | (refine Below.setCell ?_ (by first | omega | (simp; done) | (simp; omega)) _) | (refine Below.drew ?_))))) hb1
    have b0 := (blk_cell HB.out 0).trans rfl
    have b1 := (blk_cell HB.out 1).trans rfl
    have b2 := (blk_cell HB.out 2).trans rfl
    simp only [List.getElem?_toArray, List.getElem?_cons_zero, List.getElem?_cons_succ] at b0 b1 b2
    have zr1 := blk_lt HR.out
    clear h1 hb1
    go_wp2
    refine wp_region_grow [0, 1, 2, 3, 4, 5, 6, 7, 8, 9, 10, 11] 12 [] (pick [IsV (.int .i64 k), IsV (.agg #[.int .i64 l, .int .i64 w, .int .i64 t]), IsV (.int .i64 k), IsV (.pointer (some ⟨W.heap.size, 0, none⟩)), IsV (.int .i64 l), IsV (.pointer (some ⟨W.heap.size, 1, none⟩)), IsV (.int .i64 w), IsV (.pointer (some ⟨W.heap.size, 2, none⟩)), IsV (.int .i64 t), IsN n, IsJ k l w t n, IsB w1.heap.size]) (by kernel_rfl) (by kernel_rfl) (Stabs.pick (by repeat (first | exact Stabs.nil | refine Stabs.cons (by first | exact stab_v _ | exact stab_n _ | exact stab_j _ _ _ _ _ | exact stab_b _) ?_))) ?_
    try go_frame
    refine wpG_step _ _ rfl rfl (by simp) (fun w' hb' hR K hK => ?_) (fun o0 => ?_)
    · clear hR
      go_simp
      exact hK _ _ (Below.refl _ _) rfl
    try go_frame
    refine wpG_step _ _ rfl rfl (by simp) (fun w' hb' hR K hK => ?_) (fun o1 => ?_)
    · clear hR
      have cc1 := below_cell hb' b1
      have cc2 := below_cell hb' b2
      have cc := below_cell hb' b0
      have zz := World.block_lt_of_cell? w' _ cc
      simp only at zz
      go_simp
      exact hK _ _ (Below.refl _ _) rfl
    try go_frame
    refine wpG_step _ _ rfl rfl (by simp) (fun w' hb' hR K hK => ?_) (fun o2 => ?_)
    · clear hR
      go_simp
      exact hK _ _ (Below.refl _ _) rfl
    try go_frame
    refine wpG_step _ _ rfl rfl (by simp) (fun w' hb' hR K hK => ?_) (fun o3 => ?_)
    · clear hR
      go_simp
      exact hK _ _ (Below.refl _ _) rfl
    try go_frame
    refine wpG_step _ _ rfl rfl (by simp) (fun w' hb' hR K hK => ?_) (fun o4 => ?_)
    · obtain rfl : o3 = .pointer (some ⟨W.heap.size, 0, none⟩) := hR 3 (by kernel_rfl)
      clear hR
      have cc := below_cell hb' b0
      have zz := World.block_lt_of_cell? w' _ cc
      simp only at zz
      go_simp
      exact hK _ _ (Below.refl _ _) rfl
    try go_frame
    refine wpG_step _ _ rfl rfl (by simp) (fun w' hb' hR K hK => ?_) (fun o5 => ?_)
    · clear hR
      go_simp
      exact hK _ _ (Below.refl _ _) rfl
    try go_frame
    refine wpG_step _ _ rfl rfl (by simp) (fun w' hb' hR K hK => ?_) (fun o6 => ?_)
    · obtain rfl : o5 = .pointer (some ⟨W.heap.size, 1, none⟩) := hR 5 (by kernel_rfl)
      clear hR
      have cc := below_cell hb' b1
      have zz := World.block_lt_of_cell? w' _ cc
      simp only at zz
      go_simp
      exact hK _ _ (Below.refl _ _) rfl
    try go_frame
    refine wpG_step _ _ rfl rfl (by simp) (fun w' hb' hR K hK => ?_) (fun o7 => ?_)
    · clear hR
      go_simp
      exact hK _ _ (Below.refl _ _) rfl
    try go_frame
    refine wpG_step _ _ rfl rfl (by simp) (fun w' hb' hR K hK => ?_) (fun o8 => ?_)
    · obtain rfl : o7 = .pointer (some ⟨W.heap.size, 2, none⟩) := hR 7 (by kernel_rfl)
      clear hR
      have cc := below_cell hb' b2
      have zz := World.block_lt_of_cell? w' _ cc
      simp only at zz
      go_simp
      exact hK _ _ (Below.refl _ _) rfl
    try go_frame
    refine wpG_step _ _ rfl rfl (by simp) (fun w' hb' hR K hK => ?_) (fun o9 => ?_)
    · obtain rfl : o2 = .int .i64 k := hR 2 (by kernel_rfl)
      obtain rfl : o4 = .int .i64 l := hR 4 (by kernel_rfl)
      obtain rfl : o6 = .int .i64 w := hR 6 (by kernel_rfl)
      obtain rfl : o8 = .int .i64 t := hR 8 (by kernel_rfl)
      clear hR
      go_simp
      refine ((h2 _).out).mono ?_
      rintro e w9 ⟨r, rfl, hb9, hI, hN⟩
      exact hK _ _ hb9 ⟨hI, hN⟩
    try go_frame
    refine wpG_step _ _ rfl rfl (by simp) (fun w' hb' hR K hK => ?_) (fun o10 => ?_)
    · obtain rfl : o0 = .int .i64 k := hR 0 (by kernel_rfl)
      obtain rfl : o1 = .agg #[.int .i64 l, .int .i64 w, .int .i64 t] := hR 1 (by kernel_rfl)
      have h9 : (IsN n) o9 w' := hR 9 (by kernel_rfl)
      clear hR
      obtain ⟨hr1, hr2⟩ := h9
      have HR1 := Lib.hid hr1
      have HR2 := Lib.hid hr2
      obtain ⟨ra, rm, rc, rfl, _⟩ := hr1
      clear hr2
      go_simp
      exact hK _ _ (Below.refl _ _) ⟨_, _, _, rfl, HR1.out, HR2.out⟩
    try go_frame
    refine wpG_step _ _ rfl rfl (by simp) (fun w' hb' hR K hK => ?_) (fun o11 => ?_)
    · clear hR
      go_simp
      exact hK _ _ (by (repeat (first | exact Below.refl _ _ | assumption | (refine below_trans ?_ (Ext.below _)) | (refine Below.trans ?_ ((Ext.below _).mono (by first | omega | (simp; omega)))) | (refine Below.alloc ?_ (by first | omega | (simp; done) | (simp; omega)) _) | (refine Below.setCell ?_ (by first | omega | (simp; done) | (simp; omega)) _) | (refine Below.drew ?_)))) ⟨_, rfl, hb'.size, heap_new rfl⟩
    try go_frame
    refine wpG_nil (fun w' hb' hR => ?_)
    obtain ⟨ra, rm, rc, rfl, hI, hO⟩ : IsJ k l w t n o10 w' := hR 10 (by simp)
    obtain ⟨g, rfl, hgW, hg⟩ : IsB w1.heap.size o11 w' := hR 11 (by simp)
    have HG := Lib.hid hg
    have HI := Lib.hid hI
    have HO := Lib.hid hO
    have r0 := (blk_cell HG.out 0).trans rfl
    have r1 := (blk_cell HG.out 1).trans rfl
    have r2 := (blk_cell HG.out 2).trans rfl
    have r3 := (blk_cell HG.out 3).trans rfl
    have r4 := (blk_cell HG.out 4).trans rfl
    have rf0 := blk_free HG.out 0
    have rf1 := blk_free HG.out 1
    have rf2 := blk_free HG.out 2
    have rf3 := blk_free HG.out 3
    have rf4 := blk_free HG.out 4
    have zr := blk_lt HG.out
    simp only [List.getElem?_toArray, List.getElem?_cons_zero, List.getElem?_cons_succ] at r0 r1 r2 r3 r4
    clear hR hg hI hO
    simp only [opsAt, List.filterMap_cons, List.filterMap_nil, List.getElem?_toArray, List.getElem?_cons_zero, List.getElem?_cons_succ]
    go_wp2
    refine NoPanic.normal ?_
    have S5 := set5 HG.out (.int .i64 k) (.int .i64 l) (.int .i64 w) (.int .i64 t) (.slice ra rm rc)
    have F5 := far5 HG.out (.int .i64 k) (.int .i64 l) (.int .i64 w) (.int .i64 t) (.slice ra rm rc) HI.out HO.out
    obtain ⟨w5, Hw5⟩ : ∃ w5, Hid (put5 w' g (.int .i64 k) (.int .i64 l) (.int .i64 w) (.int .i64 t) (.slice ra rm rc) = w5) := ⟨_, Lib.hid rfl⟩
    rw [Hw5.out] at S5 F5
    have e5 : ((((w'.setCell ⟨g, 0, none⟩ (.int .i64 k)).setCell ⟨g, 1, none⟩ (.int .i64 l)).setCell ⟨g, 2, none⟩ (.int .i64 w)).setCell ⟨g, 3, none⟩ (.int .i64 t)).setCell ⟨g, 4, none⟩ (.slice ra rm rc) = w5 := Hw5.out
    rw [e5]
    have hb5 : Below w1.heap.size w1 w5 := S5.below _ _ hb' hgW
    have HB5 := Lib.hid S5.blk
    have HR5 : Hid (w5.heap[W.heap.size + 1]? = _) := Lib.hid ((hb5.block _ zr1).trans HR.out)
    have HF5 := Lib.hid F5
    clear e5 Hw5 S5 F5 r0 r1 r2 r3 r4 rf0 rf1 rf2 rf3 rf4 HG HI HO b0 b1 b2 h2
    have q0 := (blk_cell HB5.out 0).trans rfl
    have q1 := (blk_cell HB5.out 1).trans rfl
    have q2 := (blk_cell HB5.out 2).trans rfl
    have q3 := (blk_cell HB5.out 3).trans rfl
    have q4 := (blk_cell HB5.out 4).trans rfl
    have qf0 := blk_free HB5.out 0
    have qf1 := blk_free HB5.out 1
    have qf2 := blk_free HB5.out 2
    have qf3 := blk_free HB5.out 3
    have qf4 := blk_free HB5.out 4
    have zq := blk_lt HB5.out
    simp only [List.getElem?_toArray, List.getElem?_cons_zero, List.getElem?_cons_succ] at q0 q1 q2 q3 q4
    have H3 := Lib.hid ((h3 _ _ HF5.out.1).out)
    unfold vJ at H3
    clear h3
    go_wp2_with fail
    refine (H3.out).mono ?_
    rintro e w6 ⟨rfl, hb6⟩
    have HR6 : Hid (w6.heap[W.heap.size + 1]? = _) := Lib.hid ((hb6.block _ (blk_lt HR5.out)).trans HR5.out)
    have HB6 : Hid (w6.heap[g]? = _) := Lib.hid ((hb6.block _ (blk_lt HB5.out)).trans HB5.out)
    have HF6 := Lib.hid (And.intro (HF5.out.1.below hb6) (HF5.out.2.below hb6))
    have hw6 : Below W.heap.size W w6 := below_trans (below_trans hw1 hb5) hb6
    clear q0 q1 q2 q3 q4 qf0 qf1 qf2 qf3 qf4 zq
    have q0 := (blk_cell HB6.out 0).trans rfl
    have q1 := (blk_cell HB6.out 1).trans rfl
    have q2 := (blk_cell HB6.out 2).trans rfl
    have q3 := (blk_cell HB6.out 3).trans rfl
    have q4 := (blk_cell HB6.out 4).trans rfl
    have qf0 := blk_free HB6.out 0
    have qf1 := blk_free HB6.out 1
    have qf2 := blk_free HB6.out 2
    have qf3 := blk_free HB6.out 3
    have qf4 := blk_free HB6.out 4
    have zq := blk_lt HB6.out
    simp only [List.getElem?_toArray, List.getElem?_cons_zero, List.getElem?_cons_succ] at q0 q1 q2 q3 q4
    have r0 := (blk_cell HR6.out 0).trans rfl
    have r1 := (blk_cell HR6.out 1).trans rfl
    have r2 := (blk_cell HR6.out 2).trans rfl
    have r3 := (blk_cell HR6.out 3).trans rfl
    have r4 := (blk_cell HR6.out 4).trans rfl
    have rf0 := blk_free HR6.out 0
    have rf1 := blk_free HR6.out 1
    have rf2 := blk_free HR6.out 2
    have rf3 := blk_free HR6.out 3
    have rf4 := blk_free HR6.out 4
    have zr := blk_lt HR6.out
    simp only [List.getElem?_toArray, List.getElem?_cons_zero, List.getElem?_cons_succ] at r0 r1 r2 r3 r4
    by_cases hce : ce = 0
    · have he : se = 0 := by rw [HE.out, if_neg (by simp [hce])]
      subst hce
      clear HE
      go_wp2
      refine bodyPost_ret (v := .tuple #[.agg #[.int .i64 k, .int .i64 l, .int .i64 w, .int .i64 t, .slice ra rm rc], .int .i64 0]) (by simp [results, Tryz.results30, go_sem, r0, r1, r2, r3, r4]) rfl (.inl ⟨he, _, rfl, ?_, ?_⟩)
      · exact (set5 HR6.out _ _ _ _ _).below _ _ hw6 (by omega)
      · have := far5 HR6.out (.int .i64 k) (.int .i64 l) (.int .i64 w) (.int .i64 t) (.slice ra rm rc) HF6.out.1 HF6.out.2
        exact ⟨this.1, this.2.1⟩
    · have he : se = 12 := by rw [HE.out, if_pos hce]
      have hne : (ce != 0) = true := by simpa using hce
      clear HE hce
      subst he
      go_wp2
      refine bodyPost_ret (v := .tuple #[.agg #[.int .i64 0, .int .i64 0, .int .i64 0, .int .i64 0, .slice none 0 0], .int .i64 12]) (by simp [results, Tryz.results30, go_sem, r0, r1, r2, r3, r4]) rfl (.inr ⟨by decide, _, rfl, ?_, ints_nil _, nil_nil⟩)
      exact (set5 HR6.out _ _ _ _ _).below _ _ hw6 (by omega)
  · have he : stdE k l w t = 2 := by unfold stdE; rw [if_pos hbx]
    rw [he]
    rw [box_two hbx] at h1
    clear he hbx
    go_enter Tryz.func30, Tryz.ntmps30
    go_wp2_with fail
    refine ((h1 _).out).mono ?_
    rintro e w1 ⟨rfl, hb1⟩
    have HR := Lib.hid ((hb1.block (W.heap.size + 1) (by simp)).trans (heap_new (by simp)))
    have HB := Lib.hid ((hb1.block W.heap.size (by simp; omega)).trans ((heap_old (by simp)).trans (heap_new rfl)))
    have hw1 : Below W.heap.size W w1 := below_trans (below_trans (show Below W.heap.size W (W.alloc (.cells #[.int .i64 l, .int .i64 w, .int .i64 t] 22)) by (repeat (first | exact Below.refl _ _ | assumption | (refine below_trans ?_ (Ext.below _)) | (refine Below.trans ?_ ((Ext.below _).mono (by first | omega | (simp; omega)))) | (refine Below.alloc ?_ (by first | omega | (simp; done) | (simp; omega)) _) | (refine Below.setCell ?_ (by first | omega | (simp; done) | (simp; omega)) _) | (refine Below.drew ?_)))) (by (repeat (first | exact Below.refl _ _ | assumption | (refine below_trans ?_ (Ext.below _)) | (refine Below.trans ?_ ((Ext.below _).mono (by first | omega | (simp; omega)))) | (refine Below.alloc ?_ (by first | omega | (simp; done) | (simp; omega)) _) | (refine Below.setCell ?_ (by first | omega | (simp; done) | (simp; omega)) _) | (refine Below.drew ?_))))) hb1
    have r0 := (blk_cell HR.out 0).trans rfl
    have r1 := (blk_cell HR.out 1).trans rfl
    have r2 := (blk_cell HR.out 2).trans rfl
    have r3 := (blk_cell HR.out 3).trans rfl
    have r4 := (blk_cell HR.out 4).trans rfl
    have rf0 := blk_free HR.out 0
    have rf1 := blk_free HR.out 1
    have rf2 := blk_free HR.out 2
    have rf3 := blk_free HR.out 3
    have rf4 := blk_free HR.out 4
    have zr := blk_lt HR.out
    simp only [List.getElem?_toArray, List.getElem?_cons_zero, List.getElem?_cons_succ] at r0 r1 r2 r3 r4
    go_wp2
    refine bodyPost_ret (v := .tuple #[.agg #[.int .i64 0, .int .i64 0, .int .i64 0, .int .i64 0, .slice none 0 0], .int .i64 2]) (by simp [results, Tryz.results30, go_sem, r0, r1, r2, r3, r4]) rfl (.inr ⟨by decide, _, rfl, ?_, ints_nil _, nil_nil⟩)
    exact (set5 HR.out _ _ _ _ _).below _ _ hw1 (by omega)
end Go.Proofs.YtjglkglaogaenaaGreatDoor
/- The reference's Standard. -/
namespace Go.Proofs.YtjglkglaogaenaaGreatDoor
open Go.RowKit Go.Shelf
attribute [local go_sem] Ext.cell Ext.frozen
set_option maxRecDepth 100000 in
set_option maxHeartbeats 4000000 in
theorem rStandard_any (k l w t : Int) (W : World) :
    Calls Tryz.prog 31 #[.int .i64 k, .agg #[.int .i64 l, .int .i64 w, .int .i64 t]] W
      (StdPost W k l w t (stdN k l w t) (stdE k l w t)) := by
  have h1 := fun W' => Lib.hid (rCheckSize_any k l w t W')
  by_cases hbx : boxE k l w t = 0
  · obtain ⟨hk, hl, hw, ht⟩ := box_of hbx
    have h2 := fun W' => Lib.hid (rstandard_any k l w t W' hk hl hw ht)
    have h3 := fun r W' (h : Ints W' r (stdN k l w t)) => Lib.hid (rCheck_all k l w t r (stdN k l w t) W' h (by have := stdN_len k l w t ht.1; omega))
    have HE : Hid (stdE k l w t = if chkE k l w t (stdN k l w t) ≠ 0 then 12 else 0) := Lib.hid (by unfold stdE; rw [if_neg (by simp [hbx])])
    rw [hbx] at h1
    generalize stdN k l w t = n at *
    generalize chkE k l w t n = ce at *
    generalize stdE k l w t = se at *
    clear hbx
    go_enter Tryz.func31, Tryz.ntmps31
    go_wp2_with fail
    refine ((h1 _).out).mono ?_
    rintro e w1 ⟨rfl, hb1⟩
    have HR := Lib.hid ((hb1.block (W.heap.size + 1) (by simp)).trans (heap_new (by simp)))
    have HB := Lib.hid ((hb1.block W.heap.size (by simp; omega)).trans ((heap_old (by simp)).trans (heap_new rfl)))
    have hw1 : Below W.heap.size W w1 := below_trans (below_trans (show Below W.heap.size W (W.alloc (.cells #[.int .i64 l, .int .i64 w, .int .i64 t] 22)) by (repeat (first | exact Below.refl _ _ | assumption | (refine below_trans ?_ (Ext.below _)) | (refine Below.trans ?_ ((Ext.below _).mono (by first | omega | (simp; omega)))) | (refine Below.alloc ?_ (by first | omega | (simp; done) | (simp; omega)) _) | (refine Below.setCell ?_ (by first | omega | (simp; done) | (simp; omega)) _) | (refine Below.drew ?_)))) (by (repeat (first | exact Below.refl _ _ | assumption | (refine below_trans ?_ (Ext.below _)) | (refine Below.trans ?_ ((Ext.below _).mono (by first | omega | (simp; omega)))) | (refine Below.alloc ?_ (by first | omega | (simp; done) | (simp; omega)) _) | (refine Below.setCell ?_ (by first | omega | (simp; done) | (simp; omega)) _) | (refine Below.drew ?_))))) hb1
    have b0 := (blk_cell HB.out 0).trans rfl
    have b1 := (blk_cell HB.out 1).trans rfl
    have b2 := (blk_cell HB.out 2).trans rfl
    simp only [List.getElem?_toArray, List.getElem?_cons_zero, List.getElem?_cons_succ] at b0 b1 b2
    have zr1 := blk_lt HR.out
    clear h1 hb1
    go_wp2
    refine wp_region_grow [0, 1, 2, 3, 4, 5, 6] 7 [] (pick [IsV (.int .i64 k), IsV (.agg #[.int .i64 l, .int .i64 w, .int .i64 t]), IsV (.int .i64 k), IsV (.agg #[.int .i64 l, .int .i64 w, .int .i64 t]), IsN n, IsJ k l w t n, IsB w1.heap.size]) (by kernel_rfl) (by kernel_rfl) (Stabs.pick (by repeat (first | exact Stabs.nil | refine Stabs.cons (by first | exact stab_v _ | exact stab_n _ | exact stab_j _ _ _ _ _ | exact stab_b _) ?_))) ?_
    try go_frame
    refine wpG_step _ _ rfl rfl (by simp) (fun w' hb' hR K hK => ?_) (fun o0 => ?_)
    · clear hR
      go_simp
      exact hK _ _ (Below.refl _ _) rfl
    try go_frame
    refine wpG_step _ _ rfl rfl (by simp) (fun w' hb' hR K hK => ?_) (fun o1 => ?_)
    · clear hR
      have cc1 := below_cell hb' b1
      have cc2 := below_cell hb' b2
      have cc := below_cell hb' b0
      have zz := World.block_lt_of_cell? w' _ cc
      simp only at zz
      go_simp
      exact hK _ _ (Below.refl _ _) rfl
    try go_frame
    refine wpG_step _ _ rfl rfl (by simp) (fun w' hb' hR K hK => ?_) (fun o2 => ?_)
    · clear hR
      go_simp
      exact hK _ _ (Below.refl _ _) rfl
    try go_frame
    refine wpG_step _ _ rfl rfl (by simp) (fun w' hb' hR K hK => ?_) (fun o3 => ?_)
    · clear hR
      have cc1 := below_cell hb' b1
      have cc2 := below_cell hb' b2
      have cc := below_cell hb' b0
      have zz := World.block_lt_of_cell? w' _ cc
      simp only at zz
      go_simp
      exact hK _ _ (Below.refl _ _) rfl
    try go_frame
    refine wpG_step _ _ rfl rfl (by simp) (fun w' hb' hR K hK => ?_) (fun o4 => ?_)
    · obtain rfl : o2 = .int .i64 k := hR 2 (by kernel_rfl)
      obtain rfl : o3 = .agg #[.int .i64 l, .int .i64 w, .int .i64 t] := hR 3 (by kernel_rfl)
      clear hR
      go_simp
      refine ((h2 _).out).mono ?_
      rintro e w9 ⟨r, rfl, hb9, hI, hN⟩
      exact hK _ _ hb9 ⟨hI, hN⟩
    try go_frame
    refine wpG_step _ _ rfl rfl (by simp) (fun w' hb' hR K hK => ?_) (fun o5 => ?_)
    · obtain rfl : o0 = .int .i64 k := hR 0 (by kernel_rfl)
      obtain rfl : o1 = .agg #[.int .i64 l, .int .i64 w, .int .i64 t] := hR 1 (by kernel_rfl)
      have h4 : (IsN n) o4 w' := hR 4 (by kernel_rfl)
      clear hR
      obtain ⟨hr1, hr2⟩ := h4
      have HR1 := Lib.hid hr1
      have HR2 := Lib.hid hr2
      obtain ⟨ra, rm, rc, rfl, _⟩ := hr1
      clear hr2
      go_simp
      exact hK _ _ (Below.refl _ _) ⟨_, _, _, rfl, HR1.out, HR2.out⟩
    try go_frame
    refine wpG_step _ _ rfl rfl (by simp) (fun w' hb' hR K hK => ?_) (fun o6 => ?_)
    · clear hR
      go_simp
      exact hK _ _ (by (repeat (first | exact Below.refl _ _ | assumption | (refine below_trans ?_ (Ext.below _)) | (refine Below.trans ?_ ((Ext.below _).mono (by first | omega | (simp; omega)))) | (refine Below.alloc ?_ (by first | omega | (simp; done) | (simp; omega)) _) | (refine Below.setCell ?_ (by first | omega | (simp; done) | (simp; omega)) _) | (refine Below.drew ?_)))) ⟨_, rfl, hb'.size, heap_new rfl⟩
    try go_frame
    refine wpG_nil (fun w' hb' hR => ?_)
    obtain ⟨ra, rm, rc, rfl, hI, hO⟩ : IsJ k l w t n o5 w' := hR 5 (by simp)
    obtain ⟨g, rfl, hgW, hg⟩ : IsB w1.heap.size o6 w' := hR 6 (by simp)
    have HG := Lib.hid hg
    have HI := Lib.hid hI
    have HO := Lib.hid hO
    have r0 := (blk_cell HG.out 0).trans rfl
    have r1 := (blk_cell HG.out 1).trans rfl
    have r2 := (blk_cell HG.out 2).trans rfl
    have r3 := (blk_cell HG.out 3).trans rfl
    have r4 := (blk_cell HG.out 4).trans rfl
    have rf0 := blk_free HG.out 0
    have rf1 := blk_free HG.out 1
    have rf2 := blk_free HG.out 2
    have rf3 := blk_free HG.out 3
    have rf4 := blk_free HG.out 4
    have zr := blk_lt HG.out
    simp only [List.getElem?_toArray, List.getElem?_cons_zero, List.getElem?_cons_succ] at r0 r1 r2 r3 r4
    clear hR hg hI hO
    simp only [opsAt, List.filterMap_cons, List.filterMap_nil, List.getElem?_toArray, List.getElem?_cons_zero, List.getElem?_cons_succ]
    go_wp2
    refine NoPanic.normal ?_
    have S5 := set5 HG.out (.int .i64 k) (.int .i64 l) (.int .i64 w) (.int .i64 t) (.slice ra rm rc)
    have F5 := far5 HG.out (.int .i64 k) (.int .i64 l) (.int .i64 w) (.int .i64 t) (.slice ra rm rc) HI.out HO.out
    obtain ⟨w5, Hw5⟩ : ∃ w5, Hid (put5 w' g (.int .i64 k) (.int .i64 l) (.int .i64 w) (.int .i64 t) (.slice ra rm rc) = w5) := ⟨_, Lib.hid rfl⟩
    rw [Hw5.out] at S5 F5
    have e5 : ((((w'.setCell ⟨g, 0, none⟩ (.int .i64 k)).setCell ⟨g, 1, none⟩ (.int .i64 l)).setCell ⟨g, 2, none⟩ (.int .i64 w)).setCell ⟨g, 3, none⟩ (.int .i64 t)).setCell ⟨g, 4, none⟩ (.slice ra rm rc) = w5 := Hw5.out
    rw [e5]
    have hb5 : Below w1.heap.size w1 w5 := S5.below _ _ hb' hgW
    have HB5 := Lib.hid S5.blk
    have HR5 : Hid (w5.heap[W.heap.size + 1]? = _) := Lib.hid ((hb5.block _ zr1).trans HR.out)
    have HF5 := Lib.hid F5
    clear e5 Hw5 S5 F5 r0 r1 r2 r3 r4 rf0 rf1 rf2 rf3 rf4 HG HI HO b0 b1 b2 h2
    have q0 := (blk_cell HB5.out 0).trans rfl
    have q1 := (blk_cell HB5.out 1).trans rfl
    have q2 := (blk_cell HB5.out 2).trans rfl
    have q3 := (blk_cell HB5.out 3).trans rfl
    have q4 := (blk_cell HB5.out 4).trans rfl
    have qf0 := blk_free HB5.out 0
    have qf1 := blk_free HB5.out 1
    have qf2 := blk_free HB5.out 2
    have qf3 := blk_free HB5.out 3
    have qf4 := blk_free HB5.out 4
    have zq := blk_lt HB5.out
    simp only [List.getElem?_toArray, List.getElem?_cons_zero, List.getElem?_cons_succ] at q0 q1 q2 q3 q4
    have H3 := Lib.hid ((h3 _ _ HF5.out.1).out)
    unfold vJ at H3
    clear h3
    go_wp2_with fail
    refine (H3.out).mono ?_
    rintro e w6 ⟨rfl, hb6⟩
    have HR6 : Hid (w6.heap[W.heap.size + 1]? = _) := Lib.hid ((hb6.block _ (blk_lt HR5.out)).trans HR5.out)
    have HB6 : Hid (w6.heap[g]? = _) := Lib.hid ((hb6.block _ (blk_lt HB5.out)).trans HB5.out)
    have HF6 := Lib.hid (And.intro (HF5.out.1.below hb6) (HF5.out.2.below hb6))
    have hw6 : Below W.heap.size W w6 := below_trans (below_trans hw1 hb5) hb6
    clear q0 q1 q2 q3 q4 qf0 qf1 qf2 qf3 qf4 zq
    have q0 := (blk_cell HB6.out 0).trans rfl
    have q1 := (blk_cell HB6.out 1).trans rfl
    have q2 := (blk_cell HB6.out 2).trans rfl
    have q3 := (blk_cell HB6.out 3).trans rfl
    have q4 := (blk_cell HB6.out 4).trans rfl
    have qf0 := blk_free HB6.out 0
    have qf1 := blk_free HB6.out 1
    have qf2 := blk_free HB6.out 2
    have qf3 := blk_free HB6.out 3
    have qf4 := blk_free HB6.out 4
    have zq := blk_lt HB6.out
    simp only [List.getElem?_toArray, List.getElem?_cons_zero, List.getElem?_cons_succ] at q0 q1 q2 q3 q4
    have r0 := (blk_cell HR6.out 0).trans rfl
    have r1 := (blk_cell HR6.out 1).trans rfl
    have r2 := (blk_cell HR6.out 2).trans rfl
    have r3 := (blk_cell HR6.out 3).trans rfl
    have r4 := (blk_cell HR6.out 4).trans rfl
    have rf0 := blk_free HR6.out 0
    have rf1 := blk_free HR6.out 1
    have rf2 := blk_free HR6.out 2
    have rf3 := blk_free HR6.out 3
    have rf4 := blk_free HR6.out 4
    have zr := blk_lt HR6.out
    simp only [List.getElem?_toArray, List.getElem?_cons_zero, List.getElem?_cons_succ] at r0 r1 r2 r3 r4
    by_cases hce : ce = 0
    · have he : se = 0 := by rw [HE.out, if_neg (by simp [hce])]
      subst hce
      clear HE
      go_wp2
      refine bodyPost_ret (v := .tuple #[.agg #[.int .i64 k, .int .i64 l, .int .i64 w, .int .i64 t, .slice ra rm rc], .int .i64 0]) (by simp [results, Tryz.results31, go_sem, r0, r1, r2, r3, r4]) rfl (.inl ⟨he, _, rfl, ?_, ?_⟩)
      · exact (set5 HR6.out _ _ _ _ _).below _ _ hw6 (by omega)
      · have := far5 HR6.out (.int .i64 k) (.int .i64 l) (.int .i64 w) (.int .i64 t) (.slice ra rm rc) HF6.out.1 HF6.out.2
        exact ⟨this.1, this.2.1⟩
    · have he : se = 12 := by rw [HE.out, if_pos hce]
      have hne : (ce != 0) = true := by simpa using hce
      clear HE hce
      subst he
      go_wp2
      refine bodyPost_ret (v := .tuple #[.agg #[.int .i64 0, .int .i64 0, .int .i64 0, .int .i64 0, .slice none 0 0], .int .i64 12]) (by simp [results, Tryz.results31, go_sem, r0, r1, r2, r3, r4]) rfl (.inr ⟨by decide, _, rfl, ?_, ints_nil _, nil_nil⟩)
      exact (set5 HR6.out _ _ _ _ _).below _ _ hw6 (by omega)
  · have he : stdE k l w t = 2 := by unfold stdE; rw [if_pos hbx]
    rw [he]
    rw [box_two hbx] at h1
    clear he hbx
    go_enter Tryz.func31, Tryz.ntmps31
    go_wp2_with fail
    refine ((h1 _).out).mono ?_
    rintro e w1 ⟨rfl, hb1⟩
    have HR := Lib.hid ((hb1.block (W.heap.size + 1) (by simp)).trans (heap_new (by simp)))
    have HB := Lib.hid ((hb1.block W.heap.size (by simp; omega)).trans ((heap_old (by simp)).trans (heap_new rfl)))
    have hw1 : Below W.heap.size W w1 := below_trans (below_trans (show Below W.heap.size W (W.alloc (.cells #[.int .i64 l, .int .i64 w, .int .i64 t] 22)) by (repeat (first | exact Below.refl _ _ | assumption | (refine below_trans ?_ (Ext.below _)) | (refine Below.trans ?_ ((Ext.below _).mono (by first | omega | (simp; omega)))) | (refine Below.alloc ?_ (by first | omega | (simp; done) | (simp; omega)) _) | (refine Below.setCell ?_ (by first | omega | (simp; done) | (simp; omega)) _) | (refine Below.drew ?_)))) (by (repeat (first | exact Below.refl _ _ | assumption | (refine below_trans ?_ (Ext.below _)) | (refine Below.trans ?_ ((Ext.below _).mono (by first | omega | (simp; omega)))) | (refine Below.alloc ?_ (by first | omega | (simp; done) | (simp; omega)) _) | (refine Below.setCell ?_ (by first | omega | (simp; done) | (simp; omega)) _) | (refine Below.drew ?_))))) hb1
    have r0 := (blk_cell HR.out 0).trans rfl
    have r1 := (blk_cell HR.out 1).trans rfl
    have r2 := (blk_cell HR.out 2).trans rfl
    have r3 := (blk_cell HR.out 3).trans rfl
    have r4 := (blk_cell HR.out 4).trans rfl
    have rf0 := blk_free HR.out 0
    have rf1 := blk_free HR.out 1
    have rf2 := blk_free HR.out 2
    have rf3 := blk_free HR.out 3
    have rf4 := blk_free HR.out 4
    have zr := blk_lt HR.out
    simp only [List.getElem?_toArray, List.getElem?_cons_zero, List.getElem?_cons_succ] at r0 r1 r2 r3 r4
    go_wp2
    refine bodyPost_ret (v := .tuple #[.agg #[.int .i64 0, .int .i64 0, .int .i64 0, .int .i64 0, .slice none 0 0], .int .i64 2]) (by simp [results, Tryz.results31, go_sem, r0, r1, r2, r3, r4]) rfl (.inr ⟨by decide, _, rfl, ?_, ints_nil _, nil_nil⟩)
    exact (set5 HR.out _ _ _ _ _).below _ _ hw1 (by omega)
end Go.Proofs.YtjglkglaogaenaaGreatDoor
/- base.Ints, SameJoint. -/
namespace Go.Proofs.YtjglkglaogaenaaGreatDoor
open Go.RowKit Go.Shelf
attribute [local go_sem] Ext.cell Ext.frozen

set_option maxHeartbeats 2000000 in
theorem bInts_same (v v2 : Value) (xs : List Int) (W : World) (hx : Ints W v xs) (hy : Ints W v2 xs) (hm : xs.length ≤ 1000000) : Calls Tryz.prog 38 #[v, v2] W (Ret W (.bool true)) := by
  obtain ⟨a, n, c, rfl, hn, _, hx⟩ := hx
  obtain ⟨a2, n2, c2, rfl, hn2, _, hy⟩ := hy
  obtain rfl : n = n2 := by omega
  go_enter Tryz.func38, Tryz.ntmps38
  go_wp2
  go_loopw [5] (fun i wr => ∃ k : Nat, k ≤ n ∧ i = .int .i64 k ∧ Below W.heap.size W wr) (fun i _ => n - (intOf i).toNat)
  case atStart => exact ⟨0, by omega, rfl, Below.refl _ _⟩
  case round =>
    obtain ⟨k, hk, rfl, hb⟩ := hrel
    by_cases hlt : k < n
    · obtain ⟨b, off, rfl, hi⟩ := hx (by omega)
      obtain ⟨b2, off2, rfl, hi2⟩ := hy (by omega)
      have c0 := below_cell hb (hi k (by omega))
      have c1 := below_cell hb (hi2 k (by omega))
      have z0 := World.block_lt_of_cell? wr _ c0
      have z1 := World.block_lt_of_cell? wr _ c1
      simp only at z0 z1
      rw [getDI xs k (by omega)] at c0 c1
      generalize xs.getD k 0 = x at *
      have q1 : (k : Int) < (n : Int) := by omega
      have q2 : (0 : Int) ≤ (k : Int) := by omega
      clear hx hy hi hi2
      go_wp2
      refine wp_region_quietB (by kernel_rfl) (by kernel_rfl) ?_
      repeat (first | go_big_quiet_step (fail) | quiet_step (fail))
      refine wpQuiet_nil ?_
      rintro _ ⟨u, rfl⟩
      go_wp2
      go_roundw
      case rel => exact ⟨k + 1, by omega, by go_num, below_trans hb u.below⟩
      case measure => simp [intOf]; omega
    · clear hx hy
      go_wp2
      go_ret
      exact ⟨rfl, hb⟩

set_option maxRecDepth 100000 in
set_option maxHeartbeats 2000000 in
theorem SameJoint_same (k l w t : Int) (v v2 : Value) (xs : List Int) (W : World) (hx : Ints W v xs) (hy : Ints W v2 xs) (hm : xs.length ≤ 1000000) : Calls Tryz.prog 29 #[vJ k l w t v, vJ k l w t v2] W (Ret W (.bool true)) := by
  have h := fun W' h => Lib.hid (bInts_same v v2 xs W' (hx.below (w' := W') h) (hy.below h) hm)
  have hE := fun W' => equalIn_arr3 l w t l w t W'
  simp only [beq_self_eq_true, Bool.and_self] at hE
  unfold vJ
  obtain ⟨a, n, c, rfl, _⟩ := hx
  obtain ⟨a2, n2, c2, rfl, _⟩ := hy
  clear hm
  go_enter Tryz.func29, Tryz.ntmps29
  go_wp2_with fail
  refine ((h _ (by (repeat (first | exact Below.refl _ _ | assumption | (refine below_trans ?_ (Ext.below _)) | (refine Below.trans ?_ ((Ext.below _).mono (by first | omega | (simp; omega)))) | (refine Below.alloc ?_ (by first | omega | (simp; done) | (simp; omega)) _) | (refine Below.setCell ?_ (by first | omega | (simp; done) | (simp; omega)) _) | (refine Below.drew ?_))))).out).mono ?_
  rintro e w1 ⟨rfl, hb1⟩
  go_wp2
  go_ret
  exact ⟨ret_bool (by simp), below_trans (by (repeat (first | exact Below.refl _ _ | assumption | (refine below_trans ?_ (Ext.below _)) | (refine Below.trans ?_ ((Ext.below _).mono (by first | omega | (simp; omega)))) | (refine Below.alloc ?_ (by first | omega | (simp; done) | (simp; omega)) _) | (refine Below.setCell ?_ (by first | omega | (simp; done) | (simp; omega)) _) | (refine Below.drew ?_)))) hb1⟩
end Go.Proofs.YtjglkglaogaenaaGreatDoor
/- The law JointStandards, walked. -/
namespace Go.Proofs.YtjglkglaogaenaaGreatDoor
open Go.RowKit Go.Shelf
attribute [local go_sem] Ext.cell Ext.frozen

set_option maxRecDepth 100000 in
set_option maxHeartbeats 4000000 in
theorem JointStandards_any (k l w t : Int) (W : World) (htab : Lib.TabIs Tryz.prog W "internal/strconv.uint64pow10" .u64 Lib.pow10Tab) :
    Calls Tryz.prog 6 #[.int .i64 k, .agg #[.int .i64 l, .int .i64 w, .int .i64 t]] W (Ret W (.bool true)) := by
  obtain ⟨V, HV⟩ : ∃ V, Hid (W.alloc (.cells #[.int .i64 l, .int .i64 w, .int .i64 t] 22) = V) := ⟨_, Lib.hid rfl⟩
  have hV : Below W.heap.size W V := by rw [← HV.out]; (repeat (first | exact Below.refl _ _ | assumption | (refine below_trans ?_ (Ext.below _)) | (refine Below.trans ?_ ((Ext.below _).mono (by first | omega | (simp; omega)))) | (refine Below.alloc ?_ (by first | omega | (simp; done) | (simp; omega)) _) | (refine Below.setCell ?_ (by first | omega | (simp; done) | (simp; omega)) _) | (refine Below.drew ?_)))
  have hA := Lib.hid (awake_any V (tab_below htab hV))
  have v0 : V.cell? ⟨W.heap.size, 0, none⟩ = some (.int .i64 l) := by rw [← HV.out]; exact (cell_new rfl 0).trans rfl
  have v1 : V.cell? ⟨W.heap.size, 1, none⟩ = some (.int .i64 w) := by rw [← HV.out]; exact (cell_new rfl 1).trans rfl
  have v2 : V.cell? ⟨W.heap.size, 2, none⟩ = some (.int .i64 t) := by rw [← HV.out]; exact (cell_new rfl 2).trans rfl
  have zV := World.block_lt_of_cell? V _ v0
  simp only at zV
  have h1 := fun W' => Lib.hid (Standard_any k l w t W')
  have h2 := fun W' => Lib.hid (rStandard_any k l w t W')
  clear htab
  by_cases hse : stdE k l w t = 0
  · have hbx : boxE k l w t = 0 := by
      unfold stdE at hse
      split at hse
      · simp at hse
      · rename_i h; simpa using h
    obtain ⟨_, _, _, ht⟩ := box_of hbx
    have hnn : (stdN k l w t).length ≤ 1000000 := by have := stdN_len k l w t ht.1; omega
    have hce : chkE k l w t (stdN k l w t) = 0 := by
      unfold stdE at hse
      rw [if_neg (by simp [hbx])] at hse
      split at hse
      · simp at hse
      · rename_i h; simpa using h
    have h3 := fun r W' (h : Ints W' r (stdN k l w t)) => Lib.hid (Check_all k l w t r (stdN k l w t) W' h hnn)
    rw [hce] at h3
    rw [hse] at h1 h2
    have Hj : Hid (∀ (X : World) (e : Ending) (w1 : World), StdPost X k l w t (stdN k l w t) 0 e w1 → ∃ r, e = .returned (.tuple #[.agg #[.int .i64 k, .int .i64 l, .int .i64 w, .int .i64 t, r], .int .i64 0]) ∧ Below X.heap.size X w1 ∧ Ints w1 r (stdN k l w t)) := Lib.hid (fun X e w1 h => by
      rcases h with ⟨_, r, rfl, hb, hi, _⟩ | ⟨h0, _⟩
      · exact ⟨r, rfl, hb, hi⟩
      · exact absurd rfl h0)
    generalize stdN k l w t = nn at *
    obtain ⟨kk, rfl⟩ : ∃ kk, kk = k := ⟨_, rfl⟩
    obtain ⟨ll, rfl⟩ : ∃ ll, ll = l := ⟨_, rfl⟩
    obtain ⟨ww, rfl⟩ : ∃ ww, ww = w := ⟨_, rfl⟩
    obtain ⟨tt, rfl⟩ : ∃ tt, tt = t := ⟨_, rfl⟩
    clear hbx hce hse ht
    unfold vJ at *
    go_enter Tryz.func6, Tryz.ntmps6
    go_wp2_with fail
    rw [HV.out]
    refine (hA.out).mono ?_
    rintro e w1 ⟨rfl, hb1⟩
    have d0 := below_cell hb1 v0
    have d1 := below_cell hb1 v1
    have d2 := below_cell hb1 v2
    have zd := Nat.lt_of_lt_of_le zV hb1.size
    go_wp2_with fail
    refine ((h1 _).out).mono ?_
    rintro e w2 hp
    obtain ⟨r, rfl, hb2, hI2⟩ := Hj.out _ _ _ hp
    clear hp d0 d1 d2 zd
    have HI2 := Lib.hid hI2
    obtain ⟨ra, rm, rc, rfl, _⟩ := hI2
    have hb12 := below_trans hb1 hb2
    have d0 := below_cell hb12 v0
    have d1 := below_cell hb12 v1
    have d2 := below_cell hb12 v2
    have zd := Nat.lt_of_lt_of_le zV hb12.size
    obtain ⟨X, HX⟩ : ∃ X, Hid (w2.alloc (.cells #[.int .i64 kk, .int .i64 ll, .int .i64 ww, .int .i64 tt, .slice ra rm rc] 25) = X) := ⟨_, Lib.hid rfl⟩
    have hbX : Below w2.heap.size w2 X := by rw [← HX.out]; (repeat (first | exact Below.refl _ _ | assumption | (refine below_trans ?_ (Ext.below _)) | (refine Below.trans ?_ ((Ext.below _).mono (by first | omega | (simp; omega)))) | (refine Below.alloc ?_ (by first | omega | (simp; done) | (simp; omega)) _) | (refine Below.setCell ?_ (by first | omega | (simp; done) | (simp; omega)) _) | (refine Below.drew ?_)))
    have HXb : Hid (X.heap[w2.heap.size]? = some (.cells #[.int .i64 kk, .int .i64 ll, .int .i64 ww, .int .i64 tt, .slice ra rm rc] 25 (0, 0))) := Lib.hid (by rw [← HX.out]; exact heap_new rfl)
    go_wp2_with fail
    rw [HX.out]
    refine ((h2 _).out).mono ?_
    rintro e w3 hp
    obtain ⟨r2, rfl, hb3, hI3⟩ := Hj.out _ _ _ hp
    clear hp d0 d1 d2 zd
    have HI3 := Lib.hid hI3
    obtain ⟨sa, sm, sc, rfl, _⟩ := hI3
    have HX3 : Hid (w3.heap[w2.heap.size]? = _) := Lib.hid ((hb3.block _ (blk_lt HXb.out)).trans HXb.out)
    have HI23 := Lib.hid ((HI2.out.below hbX).below hb3)
    have q0 := (blk_cell HX3.out 0).trans rfl
    have q1 := (blk_cell HX3.out 1).trans rfl
    have q2 := (blk_cell HX3.out 2).trans rfl
    have q3 := (blk_cell HX3.out 3).trans rfl
    have q4 := (blk_cell HX3.out 4).trans rfl
    simp only [List.getElem?_toArray, List.getElem?_cons_zero, List.getElem?_cons_succ] at q0 q1 q2 q3 q4
    have zq := blk_lt HX3.out
    have hb13 : Below V.heap.size V w3 := below_trans hb12 (below_trans hbX hb3)
    go_wp2_with fail
    refine (SameJoint_same kk ll ww tt _ _ nn _ (HI23.out.below (by (repeat (first | exact Below.refl _ _ | assumption | (refine below_trans ?_ (Ext.below _)) | (refine Below.trans ?_ ((Ext.below _).mono (by first | omega | (simp; omega)))) | (refine Below.alloc ?_ (by first | omega | (simp; done) | (simp; omega)) _) | (refine Below.setCell ?_ (by first | omega | (simp; done) | (simp; omega)) _) | (refine Below.drew ?_))))) (HI3.out.below (by (repeat (first | exact Below.refl _ _ | assumption | (refine below_trans ?_ (Ext.below _)) | (refine Below.trans ?_ ((Ext.below _).mono (by first | omega | (simp; omega)))) | (refine Below.alloc ?_ (by first | omega | (simp; done) | (simp; omega)) _) | (refine Below.setCell ?_ (by first | omega | (simp; done) | (simp; omega)) _) | (refine Below.drew ?_))))) hnn).mono ?_
    rintro e w4 ⟨rfl, hb4⟩
    have hb34 : Below w3.heap.size w3 w4 := below_trans (by (repeat (first | exact Below.refl _ _ | assumption | (refine below_trans ?_ (Ext.below _)) | (refine Below.trans ?_ ((Ext.below _).mono (by first | omega | (simp; omega)))) | (refine Below.alloc ?_ (by first | omega | (simp; done) | (simp; omega)) _) | (refine Below.setCell ?_ (by first | omega | (simp; done) | (simp; omega)) _) | (refine Below.drew ?_)))) hb4
    have HX4 : Hid (w4.heap[w2.heap.size]? = _) := Lib.hid ((hb34.block _ (blk_lt HX3.out)).trans HX3.out)
    have HC := Lib.hid ((h3 _ _ (HI23.out.below hb34)).out)
    clear q0 q1 q2 q3 q4 zq h3
    have q0 := (blk_cell HX4.out 0).trans rfl
    have q1 := (blk_cell HX4.out 1).trans rfl
    have q2 := (blk_cell HX4.out 2).trans rfl
    have q3 := (blk_cell HX4.out 3).trans rfl
    have q4 := (blk_cell HX4.out 4).trans rfl
    simp only [List.getElem?_toArray, List.getElem?_cons_zero, List.getElem?_cons_succ] at q0 q1 q2 q3 q4
    have zq := blk_lt HX4.out
    go_wp2_with fail
    refine (HC.out).mono ?_
    rintro e w5 ⟨rfl, hb5⟩
    go_wp2
    go_ret
    exact ⟨ret_bool (by simp), below_trans hV (below_trans hb13 (below_trans hb34 hb5))⟩
  · have Hj : Hid (∀ (X : World) (e : Ending) (w1 : World), StdPost X k l w t (stdN k l w t) (stdE k l w t) e w1 → ∃ r, e = .returned (.tuple #[.agg #[.int .i64 0, .int .i64 0, .int .i64 0, .int .i64 0, r], .int .i64 (stdE k l w t)]) ∧ Below X.heap.size X w1 ∧ Ints w1 r []) := Lib.hid (fun X e w1 h => by
      rcases h with ⟨h0, _⟩ | ⟨_, r, rfl, hb, hi, _⟩
      · exact absurd h0 hse
      · exact ⟨r, rfl, hb, hi⟩)
    generalize stdN k l w t = n0 at *
    generalize stdE k l w t = se at *
    have hne : (se != 0) = true := by simpa using hse
    have hnn : ([] : List Int).length ≤ 1000000 := by simp
    clear hse
    go_enter Tryz.func6, Tryz.ntmps6
    go_wp2_with fail
    rw [HV.out]
    refine (hA.out).mono ?_
    rintro e w1 ⟨rfl, hb1⟩
    have d0 := below_cell hb1 v0
    have d1 := below_cell hb1 v1
    have d2 := below_cell hb1 v2
    have zd := Nat.lt_of_lt_of_le zV hb1.size
    go_wp2_with fail
    refine ((h1 _).out).mono ?_
    rintro e w2 hp
    obtain ⟨r, rfl, hb2, hI2⟩ := Hj.out _ _ _ hp
    clear hp d0 d1 d2 zd
    have HI2 := Lib.hid hI2
    obtain ⟨ra, rm, rc, rfl, _⟩ := hI2
    have hb12 := below_trans hb1 hb2
    have d0 := below_cell hb12 v0
    have d1 := below_cell hb12 v1
    have d2 := below_cell hb12 v2
    have zd := Nat.lt_of_lt_of_le zV hb12.size
    obtain ⟨X, HX⟩ : ∃ X, Hid (w2.alloc (.cells #[.int .i64 0, .int .i64 0, .int .i64 0, .int .i64 0, .slice ra rm rc] 25) = X) := ⟨_, Lib.hid rfl⟩
    have hbX : Below w2.heap.size w2 X := by rw [← HX.out]; (repeat (first | exact Below.refl _ _ | assumption | (refine below_trans ?_ (Ext.below _)) | (refine Below.trans ?_ ((Ext.below _).mono (by first | omega | (simp; omega)))) | (refine Below.alloc ?_ (by first | omega | (simp; done) | (simp; omega)) _) | (refine Below.setCell ?_ (by first | omega | (simp; done) | (simp; omega)) _) | (refine Below.drew ?_)))
    have HXb : Hid (X.heap[w2.heap.size]? = some (.cells #[.int .i64 0, .int .i64 0, .int .i64 0, .int .i64 0, .slice ra rm rc] 25 (0, 0))) := Lib.hid (by rw [← HX.out]; exact heap_new rfl)
    go_wp2_with fail
    rw [HX.out]
    refine ((h2 _).out).mono ?_
    rintro e w3 hp
    obtain ⟨r2, rfl, hb3, hI3⟩ := Hj.out _ _ _ hp
    clear hp d0 d1 d2 zd
    have HI3 := Lib.hid hI3
    obtain ⟨sa, sm, sc, rfl, _⟩ := hI3
    have HX3 : Hid (w3.heap[w2.heap.size]? = _) := Lib.hid ((hb3.block _ (blk_lt HXb.out)).trans HXb.out)
    have HI23 := Lib.hid ((HI2.out.below hbX).below hb3)
    have q0 := (blk_cell HX3.out 0).trans rfl
    have q1 := (blk_cell HX3.out 1).trans rfl
    have q2 := (blk_cell HX3.out 2).trans rfl
    have q3 := (blk_cell HX3.out 3).trans rfl
    have q4 := (blk_cell HX3.out 4).trans rfl
    simp only [List.getElem?_toArray, List.getElem?_cons_zero, List.getElem?_cons_succ] at q0 q1 q2 q3 q4
    have zq := blk_lt HX3.out
    have hb13 : Below V.heap.size V w3 := below_trans hb12 (below_trans hbX hb3)
    go_wp2_with fail
    refine (SameJoint_same 0 0 0 0 _ _ [] _ (HI23.out.below (by (repeat (first | exact Below.refl _ _ | assumption | (refine below_trans ?_ (Ext.below _)) | (refine Below.trans ?_ ((Ext.below _).mono (by first | omega | (simp; omega)))) | (refine Below.alloc ?_ (by first | omega | (simp; done) | (simp; omega)) _) | (refine Below.setCell ?_ (by first | omega | (simp; done) | (simp; omega)) _) | (refine Below.drew ?_))))) (HI3.out.below (by (repeat (first | exact Below.refl _ _ | assumption | (refine below_trans ?_ (Ext.below _)) | (refine Below.trans ?_ ((Ext.below _).mono (by first | omega | (simp; omega)))) | (refine Below.alloc ?_ (by first | omega | (simp; done) | (simp; omega)) _) | (refine Below.setCell ?_ (by first | omega | (simp; done) | (simp; omega)) _) | (refine Below.drew ?_))))) hnn).mono ?_
    rintro e w4 ⟨rfl, hb4⟩
    go_wp2
    go_ret
    exact ⟨ret_bool (by simp), below_trans hV (below_trans hb13 (below_trans (by (repeat (first | exact Below.refl _ _ | assumption | (refine below_trans ?_ (Ext.below _)) | (refine Below.trans ?_ ((Ext.below _).mono (by first | omega | (simp; omega)))) | (refine Below.alloc ?_ (by first | omega | (simp; done) | (simp; omega)) _) | (refine Below.setCell ?_ (by first | omega | (simp; done) | (simp; omega)) _) | (refine Below.drew ?_)))) hb4))⟩
end Go.Proofs.YtjglkglaogaenaaGreatDoor
