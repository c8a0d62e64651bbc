/- texts of mine, merged: HK. -/
import Derived.Test.YtjglkglaogaenaaGreatDoorGBC
import Derived.Test.YtjglkglaogaenaaGreatDoorGBB
import Derived.Test.YtjglkglaogaenaaGreatDoorGN
import Derived.Deep.DeepCutAuto
/- The law JointFreeAt, walked. -/
namespace Go.Proofs.YtjglkglaogaenaaGreatDoor
open Go.RowKit Go.Shelf
set_option linter.unusedSimpArgs false
attribute [local go_sem] Ext.cell Ext.frozen

def IsVJ (k l w t : Int) (n : List Int) : Value → World → Prop := fun v W => ∃ a m c, v = .agg #[.int .i64 k, .int .i64 l, .int .i64 w, .int .i64 t, .slice a m c] ∧ Ints W (.slice a m c) n
theorem stab_vj (k l w t : Int) (n : List Int) : Stab (IsVJ k l w t n) := fun _ _ _ hb ⟨a, m, c, h, h1⟩ => ⟨a, m, c, h, h1.below hb⟩
def IsQ (fl : List Q3) : Value → World → Prop := fun v w => Q3s w v fl
theorem stab_q (fl : List Q3) : Stab (IsQ fl) := fun _ _ _ hb h => h.below hb
def IsRt (fl : List Q3) (fe : Int) : Value → World → Prop := fun v w => ∃ r, v = .tuple #[r, .int .i64 fe] ∧ Q3s w r fl
theorem stab_rt (fl : List Q3) (fe : Int) : Stab (IsRt fl fe) := fun _ _ _ hb ⟨r, h, h1⟩ => ⟨r, h, h1.below hb⟩
/-- The error of FreeAt, and the ways. -/
def fatE (ce k m n : Int) (ns : List Int) : Int := if memE ce k m ns ≠ 0 then memE ce k m ns else if 0 ≤ n ∧ n < 48 then 0 else 2
def fatL (ce k w m n : Int) (ns : List Int) : List Q3 := if fatE ce k m n ns = 0 then atL (turnN n) (freeMB k w ns m) else []
theorem memE_bad {ce k m : Int} {n : List Int} (h : ce ≠ 0) : memE ce k m n = ce := by unfold memE; rw [if_pos h]
theorem FreeAt_any (k l w t m a b c n : Int) (nv : Value) (ns : List Int) (W : World) (hn : Ints W nv ns) (hl : ns.length ≤ 1000000) :
    Calls Tryz.prog 44 #[vJ k l w t nv, .int .i64 m, vS a b c n] W (RetWE W (fatL (chkE k l w t ns) k w m n ns) (fatE (chkE k l w t ns) k m n ns)) := by
  by_cases h : memE (chkE k l w t ns) k m ns = 0
  · have h0 : chkE k l w t ns = 0 := by
      by_cases h0 : chkE k l w t ns = 0
      · exact h0
      · rw [memE_bad h0] at h; exact h
    have hm : memE 0 k m ns = 0 := by rwa [h0] at h
    rw [h0]
    by_cases ht : 0 ≤ n ∧ n < 48
    · have e : fatE 0 k m n ns = 0 := by unfold fatE; rw [if_neg (by simpa using hm), if_pos ht]
      unfold fatL
      rw [e, if_pos rfl]
      refine (FreeAt_good k l w t m a b c n nv ns W hn h0 hm ht).mono ?_
      rintro _ w' ⟨r, rfl, hb, ho⟩
      exact ⟨r, rfl, hb, q3s_own ho⟩
    · have e : fatE 0 k m n ns = 2 := by unfold fatE; rw [if_neg (by simpa using hm), if_neg ht]
      unfold fatL
      rw [e, if_neg (by decide)]
      refine (FreeAt_turn k l w t m a b c n nv ns W hn h0 hm ht).mono ?_
      rintro _ w' ⟨rfl, hb⟩
      exact ⟨_, rfl, hb, q3s_nil _⟩
  · have e : fatE (chkE k l w t ns) k m n ns = memE (chkE k l w t ns) k m ns := by unfold fatE; rw [if_pos h]
    unfold fatL
    rw [e, if_neg h]
    refine (FreeAt_bad k l w t m _ a b c n nv ns W hn hl rfl h).mono ?_
    rintro _ w' ⟨rfl, hb⟩
    exact ⟨_, rfl, hb, q3s_nil _⟩
theorem isFree_good (k l w t m : Int) (nv : Value) (n : List Int) (v : Q3) (W : World) (hn : Ints W nv n) (g : Good k l w t n) (hm : 0 ≤ m) (hv : v ∈ ways26) :
    Calls Tryz.prog 83 #[vJ k l w t nv, .int .i64 m, vW v] W (Ret W (.bool (freeMB k w n m v))) := by
  rw [← isFree_eq g.kind hm hv]
  exact isFree_any k l w t m nv n v W hn hv fun v2 W2 hv2 h2 => first_good k l w t nv n v2 W2 (hn.below h2) g hv2
/-- A way's error, with the turn's. -/
theorem turn_way {n x y z : Int} (h : ¬ (wayE x y z != 2 && !decide (0 ≤ n ∧ n ≤ 47)) = true) : jTurnE n x y z = wayE x y z := by
  unfold jTurnE wayE at *
  by_cases hw : withinB (-1) 1 [x, y, z] = true
  · rw [if_pos hw] at h ⊢
    have ht : 0 ≤ n ∧ n < 48 := by
      by_cases h0 : x = 0 ∧ y = 0 ∧ z = 0
      · rw [if_pos h0] at h; simp at h; omega
      · rw [if_neg h0] at h; simp at h; omega
    rw [if_pos ⟨hw, ht⟩]
  · rw [if_neg hw, if_neg (fun h => hw h.1)]
theorem turn_no {n x y z : Int} (h : (wayE x y z != 2 && !decide (0 ≤ n ∧ n ≤ 47)) = true) : jTurnE n x y z = 2 := by
  unfold jTurnE
  rw [if_neg (fun h2 => by
    have : ¬ (0 ≤ n ∧ n ≤ 47) := by simp at h; omega
    omega)]
theorem turn_in {n x y z : Int} (h : jTurnE n x y z = 0) : (0 ≤ n ∧ n < 48) ∧ bdV 1000000 (x, y, z) := by
  unfold jTurnE at h
  split at h
  · rename_i h1
    have := (withinB_iff _ _ _).1 h1.1
    have hx := this x (by simp)
    have hy := this y (by simp)
    have hz := this z (by simp)
    refine ⟨h1.2, ?_⟩
    unfold bdV
    dsimp only
    omega
  · simp at h

set_option maxRecDepth 100000 in
set_option maxHeartbeats 8000000 in
theorem JointFreeAt_any (k l w t : Int) (nv : Value) (n : List Int) (a b c tn x y z : Int) (W : World) (hn : Ints W nv n) (hnil : NilV nv) (htab : Lib.TabIs Tryz.prog W "internal/strconv.uint64pow10" .u64 Lib.pow10Tab) :
    Calls Tryz.prog 9 #[vJ k l w t nv, .agg #[.int .i64 a, .int .i64 b, .int .i64 c, .int .i64 tn], .agg #[.int .i64 x, .int .i64 y, .int .i64 z]] W (Ret W (.bool true)) := by
  obtain ⟨ad, q, cc, rfl, hlen, hc, hx⟩ := id hn
  obtain ⟨V, HV⟩ : ∃ V, Hid (((W.alloc (.cells #[.int .i64 k, .int .i64 l, .int .i64 w, .int .i64 t, .slice ad q cc] 25)).alloc (.cells #[.int .i64 a, .int .i64 b, .int .i64 c, .int .i64 tn] 67)).alloc (.cells #[.int .i64 x, .int .i64 y, .int .i64 z] 69) = V) := ⟨_, Lib.hid rfl⟩
  have hV : Below W.heap.size W V := by rw [← HV.out]; (repeat (first | exact brf | assumption | refine ble ?_ | refine blx ?_ | refine bla ?_ | refine bls ?_ | refine bld ?_))
  have HJ0 : V.heap[W.heap.size]? = some (.cells #[.int .i64 k, .int .i64 l, .int .i64 w, .int .i64 t, .slice ad q cc] 25 (0, 0)) := by rw [← HV.out]; exact (heap_old (by simp; omega)).trans ((heap_old (by simp)).trans (heap_new rfl))
  have HS0 : V.heap[W.heap.size + 1]? = some (.cells #[.int .i64 a, .int .i64 b, .int .i64 c, .int .i64 tn] 67 (0, 0)) := by rw [← HV.out]; exact (heap_old (by simp)).trans (heap_new (by simp))
  have HY0 : V.heap[W.heap.size + 1 + 1]? = some (.cells #[.int .i64 x, .int .i64 y, .int .i64 z] 69 (0, 0)) := by rw [← HV.out]; exact heap_new (by simp)
  have hA := Lib.hid (awake_any V (tab_below htab hV))
  have hF := fun W' => Lib.hid (Few_any k l w t ad q cc W')
  have HT := fun W' => Lib.hid (jTurned_any x y z tn W')
  have HW := fun W' => Lib.hid (rCheckWay_any x y z W')
  have HI := fun W' => Lib.hid (rIsTurn_any tn W')
  obtain ⟨v0, v1, v2, v3, v4, _, _⟩ := blk5 HJ0
  obtain ⟨r0, r1, r2, _, zV⟩ := blk3 HY0
  obtain ⟨p0, p1, p2, p3⟩ : V.cell? ⟨W.heap.size + 1, 0, none⟩ = some (.int .i64 a) ∧ V.cell? ⟨W.heap.size + 1, 1, none⟩ = some (.int .i64 b) ∧ V.cell? ⟨W.heap.size + 1, 2, none⟩ = some (.int .i64 c) ∧ V.cell? ⟨W.heap.size + 1, 3, none⟩ = some (.int .i64 tn) := ⟨(blk_cell HS0 0).trans rfl, (blk_cell HS0 1).trans rfl, (blk_cell HS0 2).trans rfl, (blk_cell HS0 3).trans rfl⟩
  clear htab hx HJ0 HS0 HY0
  by_cases h30 : q ≤ 30
  · rw [show decide (q ≤ 30) = true from decide_eq_true h30] at hF
    have HC := fun W' h => Lib.hid (rCheck_all k l w t _ n W' (hn.below (w' := W') h) (by omega))
    have HK := fun W' h => Lib.hid (copied_any k l w t _ n W' (hn.below (w' := W') h) hnil (by omega))
    have HM := fun W' => Lib.hid (rMembers_any k W')
    have HL := fun W' h (h0 : chkE k l w t n = 0) => Lib.hid (rLoose_any k l w t _ n W' (hn.below (w' := W') h) (by omega) (good_of h0).h8)
    have HA := fun r W' (h : Ints W' r n) i => Lib.hid (FreeAt_any k l w t i a b c tn r n W' h (by omega))
    have HR := fun W' h (h0 : chkE k l w t n = 0) (ht : 0 ≤ tn ∧ tn < 48) i (hi : 0 ≤ i) => Lib.hid (rFreeAt_any k l w t i tn _ n (freeMB k w n i) W' (hn.below (w' := W') h) ht (fun v W2 hv h2 => isFree_good k l w t i _ n v W2 ((hn.below h).below h2) (good_of h0) hi hv))
    have HE : Hid (∀ i, fatE (chkE k l w t n) k i tn n = if chkE k l w t n ≠ 0 then chkE k l w t n else if i < 0 ∨ memB k + looseN k n ≤ i then 6 else if 0 ≤ tn ∧ tn < 48 then 0 else 2) := Lib.hid (fun i => by
      unfold fatE memE
      by_cases h0 : chkE k l w t n = 0
      · rw [h0]
        by_cases h : i < 0 ∨ memB k + looseN k n ≤ i
        · simp [h]
        · simp [h]
      · simp [h0])
    have HLs : Hid (∀ i, fatE (chkE k l w t n) k i tn n = 0 → fatL (chkE k l w t n) k w i tn n = atL (turnN tn) (freeMB k w n i)) := Lib.hid (fun i h => by unfold fatL; rw [if_pos h])
    have HL0 : Hid (∀ i, fatE (chkE k l w t n) k i tn n ≠ 0 → fatL (chkE k l w t n) k w i tn n = []) := Lib.hid (fun i h => by unfold fatL; rw [if_neg h])
    have HLn : Hid (∀ i, (atL (turnN tn) (freeMB k w n i)).length ≤ 1000000) := Lib.hid (fun i => by
      have : (atL (turnN tn) (freeMB k w n i)).length ≤ ways26.length := List.length_filter_le _ _
      have h26 : ways26.length = 26 := rfl
      omega)
    have Hw1 : Hid (¬ (wayE x y z != 2 && !decide (0 ≤ tn ∧ tn ≤ 47)) = true → jTurnE tn x y z = wayE x y z) := Lib.hid turn_way
    have Hw2 : Hid ((wayE x y z != 2 && !decide (0 ≤ tn ∧ tn ≤ 47)) = true → jTurnE tn x y z = 2) := Lib.hid turn_no
    have HRt : Hid (jTurnE tn x y z = 0 → ∀ W', Calls Tryz.prog 43 #[.agg #[.int .i64 x, .int .i64 y, .int .i64 z], .int .i64 tn] W' (Ret W' (vW (jTurnV tn x y z)))) := Lib.hid (fun h W' => by
      have := turn_in h
      have h2 := rTurned_way tn (x, y, z) W' this.1 this.2
      unfold jTurnV
      rw [if_pos h]
      exact h2)
    have Hv0 : Hid (jTurnE tn x y z ≠ 0 → jTurnV tn x y z = (0, 0, 0)) := Lib.hid (fun h => by unfold jTurnV; rw [if_neg h])
    have hlb := looseN_bd k n
    have hmb := memB_bd k
    generalize fatE (chkE k l w t n) k = fE at *
    generalize fatL (chkE k l w t n) k w = fL at *
    generalize chkE k l w t n = ce at *
    generalize wayE x y z = cw at *
    generalize jTurnE tn x y z = dt at *
    generalize jTurnV tn x y z = vT at *
    generalize looseN k n = ln at *
    generalize memB k = mb at *
    obtain ⟨t0, t1, t2⟩ := vT
    clear hnil
    unfold vJ vS at *
    simp only [vW] at HT HRt
    go_enter Tryz.func9, Tryz.ntmps9
    go_wp2_with fail
    rw [HV.out]
    refine (hA.out).mono ?_
    rintro en w1 ⟨rfl, hb1⟩
    have d0 := below_cell hb1 v0
    have d1 := below_cell hb1 v1
    have d2 := below_cell hb1 v2
    have d3 := below_cell hb1 v3
    have d4 := below_cell hb1 v4
    have s0 := below_cell hb1 p0
    have s1 := below_cell hb1 p1
    have s2 := below_cell hb1 p2
    have s3 := below_cell hb1 p3
    have y0 := below_cell hb1 r0
    have y1 := below_cell hb1 r1
    have y2 := below_cell hb1 r2
    have zd := Nat.lt_of_lt_of_le zV (hb1).size
    have zd1 : W.heap.size + 1 < (w1).heap.size := by omega
    have zd0 : W.heap.size < (w1).heap.size := by omega
    go_wp2_with fail
    refine ((hF _).out).mono ?_
    rintro en w2 ⟨rfl, hb2⟩
    have hb12 := below_trans hb1 hb2
    clear d0 d1 d2 d3 d4 s0 s1 s2 s3 y0 y1 y2 zd zd1 zd0
    have d0 := below_cell hb12 v0
    have d1 := below_cell hb12 v1
    have d2 := below_cell hb12 v2
    have d3 := below_cell hb12 v3
    have d4 := below_cell hb12 v4
    have s0 := below_cell hb12 p0
    have s1 := below_cell hb12 p1
    have s2 := below_cell hb12 p2
    have s3 := below_cell hb12 p3
    have y0 := below_cell hb12 r0
    have y1 := below_cell hb12 r1
    have y2 := below_cell hb12 r2
    have zd := Nat.lt_of_lt_of_le zV (hb12).size
    have zd1 : W.heap.size + 1 < (w2).heap.size := by omega
    have zd0 : W.heap.size < (w2).heap.size := by omega
    go_wp2_with fail
    refine ((HT _).out).mono ?_
    rintro en w3 ⟨rfl, hb3⟩
    have hb13 := below_trans hb12 hb3
    clear d0 d1 d2 d3 d4 s0 s1 s2 s3 y0 y1 y2 zd zd1 zd0
    have d0 := below_cell hb13 v0
    have d1 := below_cell hb13 v1
    have d2 := below_cell hb13 v2
    have d3 := below_cell hb13 v3
    have d4 := below_cell hb13 v4
    have s0 := below_cell hb13 p0
    have s1 := below_cell hb13 p1
    have s2 := below_cell hb13 p2
    have s3 := below_cell hb13 p3
    have y0 := below_cell hb13 r0
    have y1 := below_cell hb13 r1
    have y2 := below_cell hb13 r2
    have zd := Nat.lt_of_lt_of_le zV (hb13).size
    have zd1 : W.heap.size + 1 < (w3).heap.size := by omega
    have zd0 : W.heap.size < (w3).heap.size := by omega
    obtain ⟨X, HX⟩ : ∃ X, Hid (w3.alloc (.cells #[.int .i64 t0, .int .i64 t1, .int .i64 t2] 69) = X) := ⟨_, Lib.hid rfl⟩
    have hbX : Below w3.heap.size w3 X := by rw [← HX.out]; (repeat (first | exact brf | assumption | refine ble ?_ | refine blx ?_ | refine bla ?_ | refine bls ?_ | refine bld ?_))
    have HXb : Hid (X.heap[w3.heap.size]? = some (.cells #[.int .i64 t0, .int .i64 t1, .int .i64 t2] 69 (0, 0))) := Lib.hid (by rw [← HX.out]; exact heap_new rfl)
    go_wp2_with fail
    rw [HX.out]
    refine ((HW _).out).mono ?_
    rintro en w4 ⟨rfl, hb4⟩
    have HX4 := Lib.hid ((hb4.block _ (blk_lt HXb.out)).trans HXb.out)
    have hb14 := below_trans hb13 (below_trans hbX hb4)
    obtain ⟨g0, Hg0⟩ : ∃ g0, Hid (w3.heap.size = g0) := ⟨_, Lib.hid rfl⟩
    rw [Hg0.out] at HX4 ⊢
    clear d0 d1 d2 d3 d4 s0 s1 s2 s3 y0 y1 y2 zd zd1 zd0
    clear hA hF HT HW HX HXb hbX hb1 hb2 hb12 hb3 hb13 hb4
    have d0 := below_cell hb14 v0
    have d1 := below_cell hb14 v1
    have d2 := below_cell hb14 v2
    have d3 := below_cell hb14 v3
    have d4 := below_cell hb14 v4
    have s0 := below_cell hb14 p0
    have s1 := below_cell hb14 p1
    have s2 := below_cell hb14 p2
    have s3 := below_cell hb14 p3
    have y0 := below_cell hb14 r0
    have y1 := below_cell hb14 r1
    have y2 := below_cell hb14 r2
    have zd := Nat.lt_of_lt_of_le zV (hb14).size
    have zd1 : W.heap.size + 1 < (w4).heap.size := by omega
    have zd0 : W.heap.size < (w4).heap.size := by omega
    obtain ⟨bb, Hbb⟩ : ∃ bb, Hid ((cw != 2 && !decide (0 ≤ tn ∧ tn ≤ 47)) = bb) := ⟨_, Lib.hid rfl⟩
    rw [Hbb.out] at Hw1 Hw2
    go_upto_region 7 with fail
    go_cut [35] (fun s35 wx => s35 = .bool bb ∧ Below w4.heap.size w4 wx)
    case first =>
      by_cases h2 : cw = 2
      · have h2' : (cw != 2) = false := by simp [h2]
        have hbb : bb = false := by rw [← Hbb.out, h2']; rfl
        subst hbb
        go_wp2_with fail
        go_meet
        exact ⟨rfl, by (repeat (first | exact brf | assumption | refine ble ?_ | refine blx ?_ | refine bla ?_ | refine bls ?_ | refine bld ?_))⟩
      · have h2' : (cw != 2) = true := by simp [h2]
        have hbb : bb = !decide (0 ≤ tn ∧ tn ≤ 47) := by rw [← Hbb.out, h2']; rfl
        subst hbb
        go_wp2_with fail
        refine ((HI _).out).mono ?_
        rintro en w5 ⟨rfl, rfl⟩
        go_wp2_with fail
        go_meet
        exact ⟨congrArg Value.bool (by simp [Bool.decide_and]), by (repeat (first | exact brf | assumption | refine ble ?_ | refine blx ?_ | refine bla ?_ | refine bls ?_ | refine bld ?_))⟩
    case rest =>
      rename World => w5
      obtain ⟨rfl, hb5⟩ := hcut
      have hb15 := below_trans hb14 hb5
      have HX5 := Lib.hid ((hb5.block _ (blk_lt HX4.out)).trans HX4.out)
      clear hb5 hb14 HX4
      clear d0 d1 d2 d3 d4 s0 s1 s2 s3 y0 y1 y2 zd zd1 zd0
      have d0 := below_cell hb15 v0
      have d1 := below_cell hb15 v1
      have d2 := below_cell hb15 v2
      have d3 := below_cell hb15 v3
      have d4 := below_cell hb15 v4
      have s0 := below_cell hb15 p0
      have s1 := below_cell hb15 p1
      have s2 := below_cell hb15 p2
      have s3 := below_cell hb15 p3
      have y0 := below_cell hb15 r0
      have y1 := below_cell hb15 r1
      have y2 := below_cell hb15 r2
      have zd := Nat.lt_of_lt_of_le zV (hb15).size
      have zd1 : W.heap.size + 1 < (w5).heap.size := by omega
      have zd0 : W.heap.size < (w5).heap.size := by omega
      go_upto_if 35 with fail
      go_cut [9] (fun s9 wx => s9 = .int .i64 dt ∧ Below w5.heap.size w5 wx)
      case first =>
        cases hbb : bb
        · rw [hbb] at Hw1
          have e := Hw1.out (by simp)
          subst e
          go_wp2_with fail
          go_meet
          exact ⟨rfl, by (repeat (first | exact brf | assumption | refine ble ?_ | refine blx ?_ | refine bla ?_ | refine bls ?_ | refine bld ?_))⟩
        · rw [hbb] at Hw2
          have e := Hw2.out rfl
          subst e
          go_wp2_with fail
          go_meet
          exact ⟨rfl, by (repeat (first | exact brf | assumption | refine ble ?_ | refine blx ?_ | refine bla ?_ | refine bls ?_ | refine bld ?_))⟩
      case rest =>
        rename World => w6
        obtain ⟨rfl, hb6⟩ := hcut
        have hb16 := below_trans hb15 hb6
        have HX6 := Lib.hid ((hb6.block _ (blk_lt HX5.out)).trans HX5.out)
        clear hb6 hb15 HX5
        clear d0 d1 d2 d3 d4 s0 s1 s2 s3 y0 y1 y2 zd zd1 zd0
        have d0 := below_cell hb16 v0
        have d1 := below_cell hb16 v1
        have d2 := below_cell hb16 v2
        have d3 := below_cell hb16 v3
        have d4 := below_cell hb16 v4
        have s0 := below_cell hb16 p0
        have s1 := below_cell hb16 p1
        have s2 := below_cell hb16 p2
        have s3 := below_cell hb16 p3
        have y0 := below_cell hb16 r0
        have y1 := below_cell hb16 r1
        have y2 := below_cell hb16 r2
        have zd := Nat.lt_of_lt_of_le zV (hb16).size
        have zd1 : W.heap.size + 1 < (w6).heap.size := by omega
        have zd0 : W.heap.size < (w6).heap.size := by omega
        obtain ⟨q0, q1, q2, _, zq⟩ := blk3 HX6.out
        go_upto_region 9 with fail
        go_cut [63] (fun s63 wx => s63 = .bool false ∧ Below w6.heap.size w6 wx)
        case first =>
          by_cases hd : dt = 0
          · have HRx := fun W' => Lib.hid (HRt.out hd W')
            subst hd
            refine wp_region_quietB (by kernel_rfl) (by kernel_rfl) ?_
            repeat (first | go_big_quiet_step ((go_at_call 43; exact quietB_ret ((HRx _).out))) | quiet_step ((go_at_call 43; exact quietB_ret ((HRx _).out))))
            refine wpQuiet_nil ?_
            rintro _ ⟨u, rfl⟩
            go_wp2_with fail
            go_meet
            exact ⟨rfl, u.below⟩
          · have hne : (dt != 0) = true := by simpa using hd
            have hne0 : (dt == 0) = false := by simpa using hd
            have e := Hv0.out hd
            simp only [Prod.mk.injEq] at e
            obtain ⟨rfl, rfl, rfl⟩ := e
            refine wp_region_quietB (by kernel_rfl) (by kernel_rfl) ?_
            repeat (first | go_big_quiet_step (fail) | quiet_step (fail))
            refine wpQuiet_nil ?_
            rintro _ ⟨u, rfl⟩
            go_wp2_with fail
            go_meet
            exact ⟨rfl, u.below⟩
        case rest =>
          rename World => w7
          obtain ⟨rfl, hb7⟩ := hcut
          have hb17 := below_trans hb16 hb7
          clear hb7 hb16 HX6 q0 q1 q2 zq HRt Hv0 Hw1 Hw2
          clear d0 d1 d2 d3 d4 s0 s1 s2 s3 y0 y1 y2 zd zd1 zd0
          go_wp2
          go_loopw [10] (fun xx wr => ∃ i : Nat, i ≤ 3 ∧ xx = .int .i64 i ∧ Below V.heap.size V wr) (fun xx _ => 3 - (intOf xx).toNat)
          case atStart => exact ⟨0, by omega, rfl, hb17⟩
          case round =>
            clear hb17
            obtain ⟨i, hi, rfl, hb⟩ := hrel
            by_cases hlt : i < 3
            · have g1 : (i : Int) < 3 := by omega
              have hww := below_trans hV hb
              have d0 := below_cell hb v0
              have d1 := below_cell hb v1
              have d2 := below_cell hb v2
              have d3 := below_cell hb v3
              have d4 := below_cell hb v4
              have s0 := below_cell hb p0
              have s1 := below_cell hb p1
              have s2 := below_cell hb p2
              have s3 := below_cell hb p3
              have y0 := below_cell hb r0
              have y1 := below_cell hb r1
              have y2 := below_cell hb r2
              have zd := Nat.lt_of_lt_of_le zV (hb).size
              have zd1 : W.heap.size + 1 < (wr).heap.size := by omega
              have zd0 : W.heap.size < (wr).heap.size := by omega
              have HA' := fun r W' h => Lib.hid ((HA r W' h i).out)
              have HE' := Lib.hid (HE.out i)
              have HLs' := Lib.hid (HLs.out i)
              have HL0' := Lib.hid (HL0.out i)
              have HLn' := Lib.hid (HLn.out i)
              have HR' := fun W' h h0 ht => Lib.hid ((HR W' h h0 ht i (by omega)).out)
              generalize fE i tn n = fe at *
              generalize fL i tn n = fl at *
              generalize atL (turnN tn) (freeMB k w n i) = fx at *
              clear HA HE HLs HL0 HLn HR
              go_wp2
              refine wp_region_grow [0, 1, 2, 3, 4, 5, 6, 7, 8] 9 [] (pick [IsV (.agg #[.int .i64 k, .int .i64 l, .int .i64 w, .int .i64 t, .slice ad q cc]), IsVJ k l w t n, IsV (.int .i64 (i : Int)), IsV (.agg #[.int .i64 a, .int .i64 b, .int .i64 c, .int .i64 tn]), IsRt fl fe, IsRt fl fe, IsQ fl, IsV (.int .i64 fe), IsQ fl]) (by kernel_rfl) (by kernel_rfl) (Stabs.pick (by repeat (first | exact Stabs.nil | refine Stabs.cons (by first | exact stab_v _ | exact stab_vj _ _ _ _ _ | exact stab_q _ | exact stab_rt _ _) ?_))) ?_
              try go_frame
              refine wgs rfl rfl (by simp) (fun w' hb' hR K hK => ?_) (fun o0 => ?_)
              · clear hR
                have e0 := below_cell hb' d0
                have e1 := below_cell hb' d1
                have e2 := below_cell hb' d2
                have e3 := below_cell hb' d3
                have e4 := below_cell hb' d4
                have ze := Nat.lt_of_lt_of_le zd hb'.size
                have ze1 := Nat.lt_of_lt_of_le zd1 hb'.size
                have ze0 := Nat.lt_of_lt_of_le zd0 hb'.size
                go_simp
                exact hK _ _ (Below.refl _ _) rfl
              try go_frame
              refine wgs rfl rfl (by simp) (fun w' hb' hR K hK => ?_) (fun o1 => ?_)
              · obtain rfl : o0 = .agg #[.int .i64 k, .int .i64 l, .int .i64 w, .int .i64 t, .slice ad q cc] := hR 0 (by kernel_rfl)
                clear hR
                go_simp
                refine ((HK _ (below_trans hww hb')).out).mono ?_
                rintro en w9 ⟨r, rfl, hb9, ho⟩
                obtain ⟨_, _, _, hr, _⟩ := ints_own ho
                subst hr
                exact hK _ _ hb9 ⟨_, _, _, rfl, ints_own ho⟩
              try go_frame
              refine wgs rfl rfl (by simp) (fun w' hb' hR K hK => ?_) (fun o2 => ?_)
              · clear hR
                go_simp
                exact hK _ _ (Below.refl _ _) rfl
              try go_frame
              refine wgs rfl rfl (by simp) (fun w' hb' hR K hK => ?_) (fun o3 => ?_)
              · clear hR
                have e0 := below_cell hb' s0
                have e1 := below_cell hb' s1
                have e2 := below_cell hb' s2
                have e3 := below_cell hb' s3
                have ze := Nat.lt_of_lt_of_le zd hb'.size
                have ze1 := Nat.lt_of_lt_of_le zd1 hb'.size
                have ze0 := Nat.lt_of_lt_of_le zd0 hb'.size
                go_simp
                exact hK _ _ (Below.refl _ _) rfl
              try go_frame
              refine wgs rfl rfl (by simp) (fun w' hb' hR K hK => ?_) (fun o4 => ?_)
              · have h1 : (IsVJ k l w t n) o1 w' := hR 1 (by kernel_rfl)
                obtain rfl : o2 = .int .i64 (i : Int) := hR 2 (by kernel_rfl)
                obtain rfl : o3 = .agg #[.int .i64 a, .int .i64 b, .int .i64 c, .int .i64 tn] := hR 3 (by kernel_rfl)
                clear hR
                obtain ⟨ja, jm, jc, rfl, hji⟩ := h1
                have HAx := Lib.hid ((HA' _ _ hji).out)
                clear hji
                go_simp
                refine (HAx.out).mono ?_
                rintro en w8 ⟨r, rfl, hb8, hq8⟩
                exact hK _ _ hb8 ⟨_, rfl, hq8⟩
              try go_frame
              refine wgs rfl rfl (by simp) (fun w' hb' hR K hK => ?_) (fun o5 => ?_)
              · have h4 : (IsRt fl fe) o4 w' := hR 4 (by kernel_rfl)
                clear hR
                go_simp
                exact hK _ _ (Below.refl _ _) h4
              try go_frame
              refine wgs rfl rfl (by simp) (fun w' hb' hR K hK => ?_) (fun o6 => ?_)
              · have h5 : (IsRt fl fe) o5 w' := hR 5 (by kernel_rfl)
                clear hR
                obtain ⟨r, rfl, hq⟩ := h5
                have HQ := Lib.hid hq
                clear hq
                go_simp
                exact hK _ _ (Below.refl _ _) HQ.out
              try go_frame
              refine wgs rfl rfl (by simp) (fun w' hb' hR K hK => ?_) (fun o7 => ?_)
              · have h5 : (IsRt fl fe) o5 w' := hR 5 (by kernel_rfl)
                clear hR
                obtain ⟨r, rfl, hq⟩ := h5
                clear hq
                go_simp
                exact hK _ _ (Below.refl _ _) rfl
              try go_frame
              refine wgs rfl rfl (by simp) (fun w' hb' hR K hK => ?_) (fun o8 => ?_)
              · have h6 : (IsQ fl) o6 w' := hR 6 (by kernel_rfl)
                clear hR
                go_simp
                exact hK _ _ (Below.refl _ _) h6
              try go_frame
              refine wpG_nil (fun w' hb' hR => ?_)
              have hq8 : Q3s w' o8 fl := hR 8 (by simp)
              obtain rfl : o7 = .int .i64 fe := hR 7 (by simp)
              have hb18 := below_trans hb hb'
              have HQ8 := Lib.hid hq8
              obtain ⟨qa, qm, qc, rfl, hqm, _⟩ := hq8
              clear d0 d1 d2 d3 d4 s0 s1 s2 s3 y0 y1 y2 zd zd1 zd0
              clear hR HA'
              have d0 := below_cell hb18 v0
              have d1 := below_cell hb18 v1
              have d2 := below_cell hb18 v2
              have d3 := below_cell hb18 v3
              have d4 := below_cell hb18 v4
              have s0 := below_cell hb18 p0
              have s1 := below_cell hb18 p1
              have s2 := below_cell hb18 p2
              have s3 := below_cell hb18 p3
              have y0 := below_cell hb18 r0
              have y1 := below_cell hb18 r1
              have y2 := below_cell hb18 r2
              have zd := Nat.lt_of_lt_of_le zV (hb18).size
              have zd1 : W.heap.size + 1 < (w').heap.size := by omega
              have zd0 : W.heap.size < (w').heap.size := by omega
              have hw8 := below_trans hV hb18
              simp only [opsAt, List.filterMap_cons, List.filterMap_nil, List.getElem?_toArray, List.getElem?_cons_zero, List.getElem?_cons_succ]
              go_wp2
              refine NoPanic.normal ?_
              go_wp2_with fail
              refine ((HC _ hw8).out).mono ?_
              rintro en w9 ⟨rfl, hb9⟩
              have hb19 := below_trans hb18 hb9
              have HQ9 := Lib.hid (HQ8.out.below hb9)
              have hw9 := below_trans hV hb19
              clear hb18 hb9 HQ8 hw8
              clear d0 d1 d2 d3 d4 s0 s1 s2 s3 y0 y1 y2 zd zd1 zd0
              have d0 := below_cell hb19 v0
              have d1 := below_cell hb19 v1
              have d2 := below_cell hb19 v2
              have d3 := below_cell hb19 v3
              have d4 := below_cell hb19 v4
              have s0 := below_cell hb19 p0
              have s1 := below_cell hb19 p1
              have s2 := below_cell hb19 p2
              have s3 := below_cell hb19 p3
              have y0 := below_cell hb19 r0
              have y1 := below_cell hb19 r1
              have y2 := below_cell hb19 r2
              have zd := Nat.lt_of_lt_of_le zV (hb19).size
              have zd1 : W.heap.size + 1 < (w9).heap.size := by omega
              have zd0 : W.heap.size < (w9).heap.size := by omega
              by_cases h0 : ce = 0
              · have HLx := fun W' h => Lib.hid ((HL W' h h0).out)
                rw [if_neg (by simpa using h0)] at HE'
                subst h0
                by_cases hm : mb + ln ≤ (i : Int)
                · rw [if_pos (Or.inr hm)] at HE'
                  have hfe : fe = 6 := HE'.out
                  subst hfe
                  have hfl := HL0'.out (by decide)
                  subst hfl
                  obtain rfl : qm = 0 := by simpa using hqm.symm
                  go_wp2
                  refine wp_region_quietB (by kernel_rfl) (by kernel_rfl) ?_
                  repeat (first | go_big_quiet_step ((first | (go_at_call 18; refine ((HM _).out).mono ?_; rintro e w9 ⟨rfl, rfl⟩; exact ⟨rfl, _, rfl⟩) | (go_at_call 19; exact quietB_ret ((HLx _ (below_trans hw9 (Ext.below _))).out)))) | quiet_step ((first | (go_at_call 18; refine ((HM _).out).mono ?_; rintro e w9 ⟨rfl, rfl⟩; exact ⟨rfl, _, rfl⟩) | (go_at_call 19; exact quietB_ret ((HLx _ (below_trans hw9 (Ext.below _))).out)))))
                  refine wpQuiet_nil ?_
                  rintro _ ⟨u, rfl⟩
                  go_wp2
                  go_roundw
                  case rel => exact ⟨i + 1, by omega, by go_num, below_trans hb19 u.below⟩
                  case measure => first | (simp [intOf]; done) | (simp [intOf]; omega)
                · rw [if_neg (by omega)] at HE'
                  by_cases ht : 0 ≤ tn ∧ tn < 48
                  · rw [if_pos ht] at HE'
                    have hfe : fe = 0 := HE'.out
                    subst hfe
                    have hfl := HLs'.out rfl
                    subst hfl
                    rw [decide_eq_true (by omega : 0 ≤ tn ∧ tn ≤ 47)] at HI
                    have HRx := fun W' h => Lib.hid ((HR' W' h rfl ht).out)
                    go_wp2
                    refine wp_region_quietB (by kernel_rfl) (by kernel_rfl) ?_
                    repeat (first | go_big_quiet_step ((first | (go_at_call 18; refine ((HM _).out).mono ?_; rintro e w9 ⟨rfl, rfl⟩; exact ⟨rfl, _, rfl⟩) | (go_at_call 19; exact quietB_ret ((HLx _ (below_trans hw9 (Ext.below _))).out)))) | quiet_step ((first | (go_at_call 18; refine ((HM _).out).mono ?_; rintro e w9 ⟨rfl, rfl⟩; exact ⟨rfl, _, rfl⟩) | (go_at_call 19; exact quietB_ret ((HLx _ (below_trans hw9 (Ext.below _))).out)))))
                    refine wpQuiet_nil ?_
                    rintro _ ⟨u, rfl⟩
                    have hb10 : Below V.heap.size V u.val := below_trans hb19 u.below
                    have HQ10 := Lib.hid (HQ9.out.below u.below)
                    clear d0 d1 d2 d3 d4 s0 s1 s2 s3 y0 y1 y2 zd zd1 zd0
                    clear HQ9
                    generalize u.val = wu at *
                    clear u
                    have d0 := below_cell hb10 v0
                    have d1 := below_cell hb10 v1
                    have d2 := below_cell hb10 v2
                    have d3 := below_cell hb10 v3
                    have d4 := below_cell hb10 v4
                    have s0 := below_cell hb10 p0
                    have s1 := below_cell hb10 p1
                    have s2 := below_cell hb10 p2
                    have s3 := below_cell hb10 p3
                    have y0 := below_cell hb10 r0
                    have y1 := below_cell hb10 r1
                    have y2 := below_cell hb10 r2
                    have zd := Nat.lt_of_lt_of_le zV (hb10).size
                    have zd1 : W.heap.size + 1 < (wu).heap.size := by omega
                    have zd0 : W.heap.size < (wu).heap.size := by omega
                    go_wp2_with fail
                    refine ((HI _).out).mono ?_
                    rintro en w10 ⟨rfl, rfl⟩
                    go_wp2_with fail
                    refine ((HRx _ (below_trans hV hb10)).out).mono ?_
                    rintro en w11 ⟨r2, rfl, hb11, ho11⟩
                    have HS := Lib.hid (SameWays_same _ _ fl _ (HQ10.out.below hb11) (q3s_own ho11) HLn'.out)
                    go_wp2_with fail
                    refine (HS.out).mono ?_
                    rintro en w12 ⟨rfl, hb12⟩
                    go_wp2
                    go_roundw
                    case rel => exact ⟨i + 1, by omega, by go_num, below_trans hb10 (below_trans hb11 hb12)⟩
                    case measure => first | (simp [intOf]; done) | (simp [intOf]; omega)
                  · rw [if_neg ht] at HE'
                    have hfe : fe = 2 := HE'.out
                    subst hfe
                    have hfl := HL0'.out (by decide)
                    subst hfl
                    obtain rfl : qm = 0 := by simpa using hqm.symm
                    rw [decide_eq_false (by omega : ¬ (0 ≤ tn ∧ tn ≤ 47))] at HI
                    go_wp2
                    refine wp_region_quietB (by kernel_rfl) (by kernel_rfl) ?_
                    repeat (first | go_big_quiet_step ((first | (go_at_call 18; refine ((HM _).out).mono ?_; rintro e w9 ⟨rfl, rfl⟩; exact ⟨rfl, _, rfl⟩) | (go_at_call 19; exact quietB_ret ((HLx _ (below_trans hw9 (Ext.below _))).out)))) | quiet_step ((first | (go_at_call 18; refine ((HM _).out).mono ?_; rintro e w9 ⟨rfl, rfl⟩; exact ⟨rfl, _, rfl⟩) | (go_at_call 19; exact quietB_ret ((HLx _ (below_trans hw9 (Ext.below _))).out)))))
                    refine wpQuiet_nil ?_
                    rintro _ ⟨u, rfl⟩
                    have hb10 : Below V.heap.size V u.val := below_trans hb19 u.below
                    clear d0 d1 d2 d3 d4 s0 s1 s2 s3 y0 y1 y2 zd zd1 zd0
                    generalize u.val = wu at *
                    clear u
                    have d0 := below_cell hb10 v0
                    have d1 := below_cell hb10 v1
                    have d2 := below_cell hb10 v2
                    have d3 := below_cell hb10 v3
                    have d4 := below_cell hb10 v4
                    have s0 := below_cell hb10 p0
                    have s1 := below_cell hb10 p1
                    have s2 := below_cell hb10 p2
                    have s3 := below_cell hb10 p3
                    have y0 := below_cell hb10 r0
                    have y1 := below_cell hb10 r1
                    have y2 := below_cell hb10 r2
                    have zd := Nat.lt_of_lt_of_le zV (hb10).size
                    have zd1 : W.heap.size + 1 < (wu).heap.size := by omega
                    have zd0 : W.heap.size < (wu).heap.size := by omega
                    go_wp2_with fail
                    refine ((HI _).out).mono ?_
                    rintro en w10 ⟨rfl, rfl⟩
                    go_wp2
                    go_roundw
                    case rel => exact ⟨i + 1, by omega, by go_num, by (repeat (first | exact brf | assumption | refine ble ?_ | refine blx ?_ | refine bla ?_ | refine bls ?_ | refine bld ?_))⟩
                    case measure => first | (simp [intOf]; done) | (simp [intOf]; omega)
              · rw [if_pos h0] at HE'
                have hfe : fe = ce := HE'.out
                subst hfe
                have hne : (fe != 0) = true := by simpa using h0
                have hne0 : (fe == 0) = false := by simpa using h0
                have hfl := HL0'.out h0
                subst hfl
                obtain rfl : qm = 0 := by simpa using hqm.symm
                go_wp2
                refine wp_region_quietB (by kernel_rfl) (by kernel_rfl) ?_
                repeat (first | go_big_quiet_step (fail) | quiet_step (fail))
                refine wpQuiet_nil ?_
                rintro _ ⟨u, rfl⟩
                go_wp2
                go_roundw
                case rel => exact ⟨i + 1, by omega, by go_num, below_trans hb19 u.below⟩
                case measure => first | (simp [intOf]; done) | (simp [intOf]; omega)
            · obtain rfl : i = 3 := by omega
              have g1 : ¬ ((3 : Nat) : Int) < 3 := by omega
              go_wp2
              go_ret
              exact ⟨ret_bool (by simp), below_trans hV hb⟩
  · rw [show decide (q ≤ 30) = false from decide_eq_false h30] at hF
    clear hn hnil
    unfold vJ at *
    go_enter Tryz.func9, Tryz.ntmps9
    go_wp2_with fail
    rw [HV.out]
    refine (hA.out).mono ?_
    rintro en w1 ⟨rfl, hb1⟩
    have d0 := below_cell hb1 v0
    have d1 := below_cell hb1 v1
    have d2 := below_cell hb1 v2
    have d3 := below_cell hb1 v3
    have d4 := below_cell hb1 v4
    have s0 := below_cell hb1 p0
    have s1 := below_cell hb1 p1
    have s2 := below_cell hb1 p2
    have s3 := below_cell hb1 p3
    have y0 := below_cell hb1 r0
    have y1 := below_cell hb1 r1
    have y2 := below_cell hb1 r2
    have zd := Nat.lt_of_lt_of_le zV (hb1).size
    have zd1 : W.heap.size + 1 < (w1).heap.size := by omega
    have zd0 : W.heap.size < (w1).heap.size := by omega
    go_wp2_with fail
    refine ((hF _).out).mono ?_
    rintro en w2 ⟨rfl, hb2⟩
    go_wp2
    go_ret
    exact ⟨rfl, below_trans hV (below_trans hb1 hb2)⟩
end Go.Proofs.YtjglkglaogaenaaGreatDoor
