/- texts of mine, merged: H6, H7. -/
import Derived.Test.YtjglkglaogaenaaGreatDoorGAY
import Derived.Test.YtjglkglaogaenaaGreatDoorGO
/- solid: isTurn, inReach, Turned. -/
namespace Go.Proofs.YtjglkglaogaenaaGreatDoor
section
open Go.RowKit Go.Shelf
attribute [local go_sem] Ext.cell Ext.frozen
set_option maxHeartbeats 400000 in
theorem isTurn_any (n : Int) (w : World) : Calls Tryz.prog 151 #[.int .i64 n] w fun e w' => e = .returned (.bool (decide (0 ≤ n ∧ n < 48))) ∧ w = w' := by
  by_cases h0 : 0 ≤ n
  · by_cases h1 : n < 48
    · go_enter Tryz.func151, Tryz.ntmps151
      go_wp2
      go_ret
      exact ⟨ret_bool (by simp; omega), rfl⟩
    · go_enter Tryz.func151, Tryz.ntmps151
      go_wp2
      go_ret
      exact ⟨ret_bool (by simp; omega), rfl⟩
  · go_enter Tryz.func151, Tryz.ntmps151
    go_wp2
    go_ret
    exact ⟨ret_bool (by simp; omega), rfl⟩
theorem reach_closure (x : Int) (w : World) : Calls Tryz.prog 188 #[.int .i64 x] w (Ret w (.bool (decide (x < -600000 ∨ 600000 < x)))) := by
  by_cases h0 : x < -600000
  · go_enter Tryz.func188, Tryz.ntmps188
    go_wp2
    go_ret
    exact ⟨ret_bool (by simp; omega), Below.refl _ _⟩
  · go_enter Tryz.func188, Tryz.ntmps188
    go_wp2
    go_ret
    exact ⟨ret_bool (by simp; omega), Below.refl _ _⟩
theorem eg_reach1 : ∀ args w, (callFunc 188 args).run Tryz.prog w = .ok (.enter 188 args) w := enters_of Tryz.func188 (by kernel_rfl) rfl
set_option maxHeartbeats 1000000 in
theorem inReach_any (x y z : Int) (w : World) : Calls Tryz.prog 152 #[.agg #[.int .i64 x, .int .i64 y, .int .i64 z]] w (Ret w (.bool (withinB (-600000) 600000 [x, y, z]))) := by
  have hcon := fun W' T g hg => Lib.hid (containsFunc_int _ [x, y, z] (fun n => decide (n < -600000 ∨ 600000 < n)) 188 #[] _ (ints_newL (W := W') (T := T) (g := g) [x, y, z] hg) (by simp) eg_reach1 (fun x _ w' _ => reach_closure x w'))
  have Hr : Hid (([x, y, z].any fun n => decide (n < -600000 ∨ 600000 < n)) = !withinB (-600000) 600000 [x, y, z]) := Lib.hid (by simp [withinB])
  rw [Hr.out] at hcon
  generalize withinB (-600000) 600000 [x, y, z] = r at *
  go_enter Tryz.func152, Tryz.ntmps152
  go_wp2_with fail
  refine ((hcon _ _ _ rfl).out).mono ?_
  rintro e w1 ⟨rfl, hb1⟩
  go_wp2
  go_ret
  exact ⟨ret_bool (by simp), below_trans (by (repeat (first | exact brf | assumption | refine ble ?_ | refine blx ?_ | refine bla ?_ | refine bls ?_ | refine bld ?_))) hb1⟩
def T6At (w : World) (g off : Nat) (t : T6) : Prop := w.cell? ⟨g, off, none⟩ = some (.int .i64 t.1.1) ∧ w.cell? ⟨g, off + 1, none⟩ = some (.int .i64 t.1.2.1) ∧ w.cell? ⟨g, off + 2, none⟩ = some (.int .i64 t.1.2.2) ∧ w.cell? ⟨g, off + 3, none⟩ = some (.int .i64 t.2.1) ∧ w.cell? ⟨g, off + 4, none⟩ = some (.int .i64 t.2.2.1) ∧ w.cell? ⟨g, off + 5, none⟩ = some (.int .i64 t.2.2.2)
theorem T6At.below {w w' : World} {g off : Nat} {t : T6} (h : T6At w g off t) (hb : Below w.heap.size w w') : T6At w' g off t := ⟨below_cell hb h.1, below_cell hb h.2.1, below_cell hb h.2.2.1, below_cell hb h.2.2.2.1, below_cell hb h.2.2.2.2.1, below_cell hb h.2.2.2.2.2⟩
theorem t6_at {w : World} {base : Nat} {T : TypeId} {v : Value} {cs : List T6} (h : w.ownsRow base T 6 v cs.length (cs.flatMap enc6)) (i : Nat) (hi : i < cs.length) : ∃ g cap, v = .slice (some ⟨g, 0, none⟩) cs.length cap ∧ cs.length ≤ cap ∧ T6At w g (i * 6) cs[i] := by
  rcases h.2 with ⟨rfl, h0⟩ | ⟨g, cap, cur, rfl, hb, hh, hc, hm, hcs, ht⟩
  · omega
  · refine ⟨g, cap, rfl, hc, ?_⟩
    have key : ∀ j, j < 6 → w.cell? ⟨g, i * 6 + j, none⟩ = (enc6 cs[i])[j]? := fun j hj => by
      rw [blk_cell hh, ← flat_get enc6 6 enc6_len cs i hi j hj, ← ht, List.getElem?_take_of_lt (by omega), Array.getElem?_toList]
    exact ⟨key 0 (by omega), key 1 (by omega), key 2 (by omega), key 3 (by omega), key 4 (by omega), key 5 (by omega)⟩
/-- The turns lie there. -/
def IsTs (B : Nat) (T : TypeId) : Value → World → Prop := fun v w => w.ownsRow B T 6 v all48.length (all48.flatMap enc6)
theorem stab_ts (B : Nat) (T : TypeId) : Stab (IsTs B T) := fun _ _ _ hb h => own_below h hb
def IsTp (off : Nat) (t : T6) : Value → World → Prop := fun v w => ∃ g, v = .pointer (some ⟨g, off, none⟩) ∧ T6At w g off t
theorem stab_tp (off : Nat) (t : T6) : Stab (IsTp off t) := fun _ _ _ hb ⟨g, h, k⟩ => ⟨g, h, k.below hb⟩
def turnE (n x y z : Int) : Int := if (0 ≤ n ∧ n < 48) ∧ withinB (-600000) 600000 [x, y, z] = true then 0 else 2
def turnV (n x y z : Int) : Q3 := if (0 ≤ n ∧ n < 48) ∧ withinB (-600000) 600000 [x, y, z] = true then ofT (turnN n) (x, y, z) else (0, 0, 0)
set_option maxRecDepth 100000 in
set_option maxHeartbeats 2000000 in
theorem sTurned_ok (n x y z : Int) (W : World) (hn : 0 ≤ n ∧ n < 48) (hr : withinB (-600000) 600000 [x, y, z] = true) :
    Calls Tryz.prog 90 #[.agg #[.int .i64 x, .int .i64 y, .int .i64 z], .int .i64 n] W (Ret W (.tuple #[vW (ofT (turnN n) (x, y, z)), .int .i64 0])) := by
  obtain ⟨m, rfl⟩ : ∃ m : Nat, n = m := ⟨n.toNat, by omega⟩
  have hm : m < 48 := by omega
  have hm' : m < all48.length := by rw [all_len]; exact hm
  have HT : Hid (turnN m = all48[m]) := Lib.hid (by unfold turnN; rw [Int.toNat_natCast, List.getD_eq_getElem?_getD, List.getElem?_eq_getElem hm']; rfl)
  have hv := (withinB_iff _ _ _).1 hr
  have hB : bdV 1000000 (x, y, z) := by
    have h1 := hv x (by simp)
    have h2 := hv y (by simp)
    have h3 := hv z (by simp)
    exact ⟨by dsimp only; omega, by dsimp only; omega, by dsimp only; omega⟩
  have hok := turnN_ok m
  have HC := fun W' => Lib.hid (of_t (turnN m) hok (x, y, z) W' hB)
  have HA := fun W' => Lib.hid (all_any W')
  have hit := fun W' => Lib.hid (isTurn_any m W')
  have hir := fun W' => Lib.hid (inReach_any x y z W')
  rw [decide_eq_true hn] at hit
  rw [hr] at hir
  have Hlen : Hid (all48.length = 48) := Lib.hid all_len
  have Hat : Hid (∀ (w : World) (v : Value), IsTs W.heap.size 171 v w → ∃ g cap, v = .slice (some ⟨g, 0, none⟩) 48 cap ∧ 48 ≤ cap ∧ T6At w g (m * 6) (turnN m)) := Lib.hid (fun w v h => by
    obtain ⟨g, cap, h1, h2, h3⟩ := t6_at h m hm'
    rw [Hlen.out] at h1 h2
    rw [HT.out]
    exact ⟨g, cap, h1, h2, h3⟩)
  simp only [vW, vT] at HC ⊢
  clear HT hok
  generalize turnN (m : Int) = tt at *
  obtain ⟨⟨p0, p1, p2⟩, s0, s1, s2⟩ := tt
  generalize ofT ((p0, p1, p2), s0, s1, s2) (x, y, z) = res at *
  obtain ⟨r0, r1, r2⟩ := res
  simp only at HC ⊢
  clear hv hB hn hr hm'
  have q1 : (m : Int) < 48 := by omega
  go_enter Tryz.func90, Tryz.ntmps90
  go_wp2_with fail
  refine ((hit _).out).mono ?_
  rintro e w1 ⟨rfl, rfl⟩
  go_wp2_with fail
  refine ((hir _).out).mono ?_
  rintro e w1 ⟨rfl, hb1⟩
  have hw1 := below_trans (below_trans (show Below W.heap.size W (W.alloc (.cells #[.int .i64 x, .int .i64 y, .int .i64 z] 22)) by (repeat (first | exact brf | assumption | refine ble ?_ | refine blx ?_ | refine bla ?_ | refine bls ?_ | refine bld ?_))) (show Below (W.alloc (.cells #[.int .i64 x, .int .i64 y, .int .i64 z] 22)).heap.size _ _ by (repeat (first | exact brf | assumption | refine ble ?_ | refine blx ?_ | refine bla ?_ | refine bls ?_ | refine bld ?_)))) hb1
  have HB := Lib.hid ((hb1.block W.heap.size (by simp; omega)).trans ((heap_old (by simp)).trans (heap_new rfl)))
  have HR := Lib.hid ((hb1.block (W.heap.size + 1) (by simp)).trans (heap_new (by simp)))
  obtain ⟨b0, b1, b2, fb, zb⟩ := blk3 HB.out
  have zr := blk_lt HR.out
  clear hb1 hit hir
  go_wp2
  refine wp_region_grow [0, 1, 2, 3, 4, 5] 6 [7] (pick [IsTs W.heap.size 171, IsV (.int .i64 (m : Int)), IsTp (m * 6) ((p0, p1, p2), s0, s1, s2), IsV (.agg #[.int .i64 p0, .int .i64 p1, .int .i64 p2, .int .i64 s0, .int .i64 s1, .int .i64 s2]), IsV (.agg #[.int .i64 x, .int .i64 y, .int .i64 z]), IsV (.agg #[.int .i64 r0, .int .i64 r1, .int .i64 r2])]) (by kernel_rfl) (by kernel_rfl) (Stabs.pick (by repeat (first | exact Stabs.nil | refine Stabs.cons (by first | exact stab_v _ | exact stab_ts _ _ | exact stab_tp _ _) ?_))) ?_
  try go_frame
  refine wgs rfl rfl (by simp) (fun w' hb' hR K hK => ?_) (fun o0 => ?_)
  · clear hR
    go_simp
    refine ((HA _).out).mono ?_
    rintro e w9 ⟨r, rfl, hb9, ho⟩
    exact hK _ _ hb9 (own_mono ho (Nat.le_trans hw1.size hb'.size))
  try go_frame
  refine wgs rfl rfl (by simp) (fun w' hb' hR K hK => ?_) (fun o1 => ?_)
  · clear hR
    go_simp
    exact hK _ _ (Below.refl _ _) rfl
  try go_frame
  refine wgs rfl rfl (by simp) (fun w' hb' hR K hK => ?_) (fun o2 => ?_)
  · have h0 : (IsTs W.heap.size 171) o0 w' := hR 0 (by kernel_rfl)
    obtain rfl : o1 = .int .i64 (m : Int) := hR 1 (by kernel_rfl)
    clear hR
    obtain ⟨g, cap, rfl, hcap, hat⟩ := Hat.out _ _ h0
    have hzz := World.block_lt_of_cell? _ _ hat.1
    have Hat2 := Lib.hid hat
    clear hat
    go_simp
    exact hK _ _ (Below.refl _ _) ⟨g, rfl, Hat2.out⟩
  try go_frame
  refine wgs rfl rfl (by simp) (fun w' hb' hR K hK => ?_) (fun o3 => ?_)
  · have h2 : (IsTp (m * 6) ((p0, p1, p2), s0, s1, s2)) o2 w' := hR 2 (by kernel_rfl)
    clear hR
    obtain ⟨g, rfl, a0, a1, a2, a3, a4, a5⟩ := h2
    have hzz := World.block_lt_of_cell? _ _ a0
    simp only at a0 a1 a2 a3 a4 a5
    go_simp
    exact hK _ _ (Below.refl _ _) rfl
  try go_frame
  refine wgs rfl rfl (by simp) (fun w' hb' hR K hK => ?_) (fun o4 => ?_)
  · clear hR
    have cc0 := below_cell hb' b0
    have cc1 := below_cell hb' b1
    have cc2 := below_cell hb' b2
    have hzz := Nat.lt_of_lt_of_le zb hb'.size
    go_simp
    exact hK _ _ (Below.refl _ _) rfl
  try go_frame
  refine wgs rfl rfl (by simp) (fun w' hb' hR K hK => ?_) (fun o5 => ?_)
  · obtain rfl : o3 = .agg #[.int .i64 p0, .int .i64 p1, .int .i64 p2, .int .i64 s0, .int .i64 s1, .int .i64 s2] := hR 3 (by kernel_rfl)
    obtain rfl : o4 = .agg #[.int .i64 x, .int .i64 y, .int .i64 z] := hR 4 (by kernel_rfl)
    clear hR
    go_simp
    refine ((HC _).out).mono ?_
    rintro e w1 ⟨rfl, hb1⟩
    exact hK _ _ hb1 rfl
  try go_frame
  refine wpG_nil (fun w' hb' hR => ?_)
  obtain rfl : o5 = _ := hR 5 (by simp)
  clear hR
  clear HA HC Hat Hlen
  have HR2 := Lib.hid ((hb'.block _ zr).trans HR.out)
  obtain ⟨e0, e1, e2, fe, ze⟩ := blk3 HR2.out
  simp only [opsAt, List.filterMap_cons, List.filterMap_nil, List.getElem?_toArray, List.getElem?_cons_zero, List.getElem?_cons_succ]
  go_wp2
  refine NoPanic.normal ?_
  go_wp2
  refine bodyPost_ret (v := .tuple #[.agg #[.int .i64 r0, .int .i64 r1, .int .i64 r2], .int .i64 0]) (by simp [results, Tryz.results90, go_sem, e0, e1, e2]) rfl ⟨rfl, ?_⟩
  have hw9 := below_trans hw1 hb'
  exact Below.setCell (Below.setCell (Below.setCell hw9 (by simp) _) (by simp) _) (by simp) _
set_option maxRecDepth 100000 in
set_option maxHeartbeats 2000000 in
theorem sTurned_bad (n x y z : Int) (W : World) (h : ¬ ((0 ≤ n ∧ n < 48) ∧ withinB (-600000) 600000 [x, y, z] = true)) :
    Calls Tryz.prog 90 #[.agg #[.int .i64 x, .int .i64 y, .int .i64 z], .int .i64 n] W (Ret W (.tuple #[.agg #[.int .i64 0, .int .i64 0, .int .i64 0], .int .i64 2])) := by
  have hit := fun W' => Lib.hid (isTurn_any n W')
  have hir := fun W' => Lib.hid (inReach_any x y z W')
  by_cases hn : 0 ≤ n ∧ n < 48
  · have hr : withinB (-600000) 600000 [x, y, z] = false := by cases hw : withinB (-600000) 600000 [x, y, z]; rfl; exact absurd ⟨hn, hw⟩ h
    rw [decide_eq_true hn] at hit
    rw [hr] at hir
    clear h hn hr
    go_enter Tryz.func90, Tryz.ntmps90
    go_wp2_with fail
    refine ((hit _).out).mono ?_
    rintro e w1 ⟨rfl, rfl⟩
    go_wp2_with fail
    refine ((hir _).out).mono ?_
    rintro e w1 ⟨rfl, hb1⟩
    have hw1 := below_trans (below_trans (show Below W.heap.size W (W.alloc (.cells #[.int .i64 x, .int .i64 y, .int .i64 z] 22)) by (repeat (first | exact brf | assumption | refine ble ?_ | refine blx ?_ | refine bla ?_ | refine bls ?_ | refine bld ?_))) (show Below (W.alloc (.cells #[.int .i64 x, .int .i64 y, .int .i64 z] 22)).heap.size _ _ by (repeat (first | exact brf | assumption | refine ble ?_ | refine blx ?_ | refine bla ?_ | refine bls ?_ | refine bld ?_)))) hb1
    have HR := Lib.hid ((hb1.block (W.heap.size + 1) (by simp)).trans (heap_new (by simp)))
    obtain ⟨e0, e1, e2, fe, ze⟩ := blk3 HR.out
    clear hb1
    go_wp2
    refine bodyPost_ret (v := .tuple #[.agg #[.int .i64 0, .int .i64 0, .int .i64 0], .int .i64 2]) (by simp [results, Tryz.results90, go_sem, e0, e1, e2]) rfl ⟨rfl, ?_⟩
    exact Below.setCell (Below.setCell (Below.setCell hw1 (by simp) _) (by simp) _) (by simp) _
  · rw [decide_eq_false hn] at hit
    clear hir h hn
    go_enter Tryz.func90, Tryz.ntmps90
    go_wp2_with fail
    refine ((hit _).out).mono ?_
    rintro e w1 ⟨rfl, rfl⟩
    go_wp2
    refine bodyPost_ret (v := .tuple #[.agg #[.int .i64 0, .int .i64 0, .int .i64 0], .int .i64 2]) (by simp [results, Tryz.results90, go_sem]) rfl ⟨rfl, ?_⟩
    (repeat (first | exact brf | assumption | refine ble ?_ | refine blx ?_ | refine bla ?_ | refine bls ?_ | refine bld ?_))
end
/- joint: Turned. -/
section
open Go.RowKit Go.Shelf
set_option linter.unusedSimpArgs false
attribute [local go_sem] Ext.cell Ext.frozen
/-- The error of a way at a turn. -/
def jTurnE (n x y z : Int) : Int := if withinB (-1) 1 [x, y, z] = true ∧ (0 ≤ n ∧ n < 48) then (if x = 0 ∧ y = 0 ∧ z = 0 then 11 else 0) else 2
def jTurnV (n x y z : Int) : Q3 := if jTurnE n x y z = 0 then ofT (turnN n) (x, y, z) else (0, 0, 0)
theorem way_reach {x y z : Int} (h : withinB (-1) 1 [x, y, z] = true) : withinB (-600000) 600000 [x, y, z] = true := by
  rw [withinB_iff] at *
  intro a ha
  have := h a ha
  omega
set_option maxRecDepth 100000 in
set_option maxHeartbeats 2000000 in
theorem jTurned_any (x y z n : Int) (W : World) : Calls Tryz.prog 40 #[.agg #[.int .i64 x, .int .i64 y, .int .i64 z], .int .i64 n] W (Ret W (.tuple #[vW (jTurnV n x y z), .int .i64 (jTurnE n x y z)])) := by
  unfold jTurnV jTurnE
  have hin := fun W' T g hg => Lib.hid (within_any (-1) 1 _ [x, y, z] _ (ints_newL (W := W') (T := T) (g := g) [x, y, z] hg) (by simp))
  cases hwi : withinB (-1) 1 [x, y, z] with
  | false =>
    rw [hwi] at hin
    simp only [Bool.false_eq_true, false_and, if_false, vW]
    clear hwi
    go_enter Tryz.func40, Tryz.ntmps40
    go_wp2_with fail
    refine ((hin _ _ _ (by simp)).out).mono ?_
    rintro e w1 ⟨rfl, hb1⟩
    have hw1 := below_trans (below_trans (show Below W.heap.size W (W.alloc (.cells #[.int .i64 x, .int .i64 y, .int .i64 z] 69)) by (repeat (first | exact brf | assumption | refine ble ?_ | refine blx ?_ | refine bla ?_ | refine bls ?_ | refine bld ?_))) (show Below (W.alloc (.cells #[.int .i64 x, .int .i64 y, .int .i64 z] 69)).heap.size _ _ by (repeat (first | exact brf | assumption | refine ble ?_ | refine blx ?_ | refine bla ?_ | refine bls ?_ | refine bld ?_)))) hb1
    have HB := Lib.hid ((hb1.block W.heap.size (by simp; omega)).trans ((heap_old (by simp; omega)).trans ((heap_old (by simp)).trans (heap_new rfl))))
    have HR := Lib.hid ((hb1.block (W.heap.size + 1) (by simp)).trans ((heap_old (by simp)).trans (heap_new (by simp))))
    obtain ⟨b0, b1, b2, fb, zb⟩ := blk3 HB.out
    obtain ⟨e0, e1, e2, fe, ze⟩ := blk3 HR.out
    clear hb1 hin
    go_wp2
    refine bodyPost_ret (v := .tuple #[.agg #[.int .i64 0, .int .i64 0, .int .i64 0], .int .i64 2]) (by simp [results, Tryz.results40, go_sem, e0, e1, e2, ze]) rfl ⟨rfl, ?_⟩
    exact Below.setCell (Below.setCell (Below.setCell hw1 (by simp) _) (by simp) _) (by simp) _
  | true =>
    rw [hwi] at hin
    simp only [true_and]
    by_cases hn : 0 ≤ n ∧ n < 48
    · simp only [if_pos hn]
      have HT := fun W' => Lib.hid (sTurned_ok n x y z W' hn (way_reach hwi))
      simp only [vW] at HT ⊢
      by_cases h0 : x = 0 ∧ y = 0 ∧ z = 0
      · simp only [if_pos h0]
        obtain ⟨rfl, rfl, rfl⟩ := h0
        generalize ofT (turnN n) (0, 0, 0) = res at *
        obtain ⟨r0, r1, r2⟩ := res
        simp only at HT
        clear hwi hn
        simp only [show ¬ ((11 : Int) = 0) by decide, if_false]
        go_enter Tryz.func40, Tryz.ntmps40
        go_wp2_with fail
        refine ((hin _ _ _ (by simp)).out).mono ?_
        rintro e w1 ⟨rfl, hb1⟩
        have hw1 := below_trans (below_trans (show Below W.heap.size W (W.alloc (.cells #[.int .i64 0, .int .i64 0, .int .i64 0] 69)) by (repeat (first | exact brf | assumption | refine ble ?_ | refine blx ?_ | refine bla ?_ | refine bls ?_ | refine bld ?_))) (show Below (W.alloc (.cells #[.int .i64 0, .int .i64 0, .int .i64 0] 69)).heap.size _ _ by (repeat (first | exact brf | assumption | refine ble ?_ | refine blx ?_ | refine bla ?_ | refine bls ?_ | refine bld ?_)))) hb1
        have HB := Lib.hid ((hb1.block W.heap.size (by simp; omega)).trans ((heap_old (by simp; omega)).trans ((heap_old (by simp)).trans (heap_new rfl))))
        have HR := Lib.hid ((hb1.block (W.heap.size + 1) (by simp)).trans ((heap_old (by simp)).trans (heap_new (by simp))))
        obtain ⟨b0, b1, b2, fb, zb⟩ := blk3 HB.out
        obtain ⟨e0, e1, e2, fe, ze⟩ := blk3 HR.out
        clear hb1 hin
        go_wp2_with fail
        refine ((HT _).out).mono ?_
        rintro e w2 ⟨rfl, hb2⟩
        have HB2 := Lib.hid ((hb2.block _ zb).trans HB.out)
        have HR2 := Lib.hid ((hb2.block _ ze).trans HR.out)
        have hw2 := below_trans hw1 hb2
        clear b0 b1 b2 fb zb e0 e1 e2 fe ze HB HR
        obtain ⟨b0, b1, b2, fb, zb⟩ := blk3 HB2.out
        obtain ⟨e0, e1, e2, fe, ze⟩ := blk3 HR2.out
        go_wp2
        refine bodyPost_ret (v := .tuple #[.agg #[.int .i64 0, .int .i64 0, .int .i64 0], .int .i64 11]) (by simp [results, Tryz.results40, go_sem, e0, e1, e2, ze]) rfl ⟨rfl, ?_⟩
        (repeat (first | exact brf | assumption | refine ble ?_ | refine blx ?_ | refine bla ?_ | refine bls ?_ | refine bld ?_))
      · simp only [if_neg h0, if_true]
        generalize ofT (turnN n) (x, y, z) = res at *
        obtain ⟨r0, r1, r2⟩ := res
        simp only at HT ⊢
        clear hwi hn
        go_enter Tryz.func40, Tryz.ntmps40
        go_wp2_with fail
        refine ((hin _ _ _ (by simp)).out).mono ?_
        rintro e w1 ⟨rfl, hb1⟩
        have hw1 := below_trans (below_trans (show Below W.heap.size W (W.alloc (.cells #[.int .i64 x, .int .i64 y, .int .i64 z] 69)) by (repeat (first | exact brf | assumption | refine ble ?_ | refine blx ?_ | refine bla ?_ | refine bls ?_ | refine bld ?_))) (show Below (W.alloc (.cells #[.int .i64 x, .int .i64 y, .int .i64 z] 69)).heap.size _ _ by (repeat (first | exact brf | assumption | refine ble ?_ | refine blx ?_ | refine bla ?_ | refine bls ?_ | refine bld ?_)))) hb1
        have HB := Lib.hid ((hb1.block W.heap.size (by simp; omega)).trans ((heap_old (by simp; omega)).trans ((heap_old (by simp)).trans (heap_new rfl))))
        have HR := Lib.hid ((hb1.block (W.heap.size + 1) (by simp)).trans ((heap_old (by simp)).trans (heap_new (by simp))))
        obtain ⟨b0, b1, b2, fb, zb⟩ := blk3 HB.out
        obtain ⟨e0, e1, e2, fe, ze⟩ := blk3 HR.out
        clear hb1 hin
        go_wp2_with fail
        refine ((HT _).out).mono ?_
        rintro e w2 ⟨rfl, hb2⟩
        have HB2 := Lib.hid ((hb2.block _ zb).trans HB.out)
        have HR2 := Lib.hid ((hb2.block _ ze).trans HR.out)
        have hw2 := below_trans hw1 hb2
        clear b0 b1 b2 fb zb e0 e1 e2 fe ze HB HR
        obtain ⟨b0, b1, b2, fb, zb⟩ := blk3 HB2.out
        obtain ⟨e0, e1, e2, fe, ze⟩ := blk3 HR2.out
        go_wp2
        all_goals
          refine bodyPost_ret (v := .tuple #[.agg #[.int .i64 r0, .int .i64 r1, .int .i64 r2], .int .i64 0]) (by simp [results, Tryz.results40, go_sem, e0, e1, e2, ze]) rfl ⟨rfl, ?_⟩
          (repeat (first | exact brf | assumption | refine ble ?_ | refine blx ?_ | refine bla ?_ | refine bls ?_ | refine bld ?_))
    · simp only [if_neg hn, vW]
      have HT := fun W' => Lib.hid (sTurned_bad n x y z W' (fun h => hn h.1))
      clear hwi hn
      go_enter Tryz.func40, Tryz.ntmps40
      go_wp2_with fail
      refine ((hin _ _ _ (by simp)).out).mono ?_
      rintro e w1 ⟨rfl, hb1⟩
      have hw1 := below_trans (below_trans (show Below W.heap.size W (W.alloc (.cells #[.int .i64 x, .int .i64 y, .int .i64 z] 69)) by (repeat (first | exact brf | assumption | refine ble ?_ | refine blx ?_ | refine bla ?_ | refine bls ?_ | refine bld ?_))) (show Below (W.alloc (.cells #[.int .i64 x, .int .i64 y, .int .i64 z] 69)).heap.size _ _ by (repeat (first | exact brf | assumption | refine ble ?_ | refine blx ?_ | refine bla ?_ | refine bls ?_ | refine bld ?_)))) hb1
      have HB := Lib.hid ((hb1.block W.heap.size (by simp; omega)).trans ((heap_old (by simp; omega)).trans ((heap_old (by simp)).trans (heap_new rfl))))
      have HR := Lib.hid ((hb1.block (W.heap.size + 1) (by simp)).trans ((heap_old (by simp)).trans (heap_new (by simp))))
      obtain ⟨b0, b1, b2, fb, zb⟩ := blk3 HB.out
      obtain ⟨e0, e1, e2, fe, ze⟩ := blk3 HR.out
      clear hb1 hin
      go_wp2_with fail
      refine ((HT _).out).mono ?_
      rintro e w2 ⟨rfl, hb2⟩
      have HB2 := Lib.hid ((hb2.block _ zb).trans HB.out)
      have HR2 := Lib.hid ((hb2.block _ ze).trans HR.out)
      have hw2 := below_trans hw1 hb2
      clear b0 b1 b2 fb zb e0 e1 e2 fe ze HB HR
      obtain ⟨b0, b1, b2, fb, zb⟩ := blk3 HB2.out
      obtain ⟨e0, e1, e2, fe, ze⟩ := blk3 HR2.out
      go_wp2
      refine bodyPost_ret (v := .tuple #[.agg #[.int .i64 0, .int .i64 0, .int .i64 0], .int .i64 2]) (by simp [results, Tryz.results40, go_sem, e0, e1, e2, ze]) rfl ⟨rfl, ?_⟩
      (repeat (first | exact brf | assumption | refine ble ?_ | refine blx ?_ | refine bla ?_ | refine bls ?_ | refine bld ?_))
end
end Go.Proofs.YtjglkglaogaenaaGreatDoor
