/- texts of mine, merged: F8. -/
import Derived.Test.YtjglkglaogaenaaGreatDoorGAU
import Derived.Test.YtjglkglaogaenaaGreatDoorGN
/- The law JointFree, walked. -/
namespace Go.Proofs.YtjglkglaogaenaaGreatDoor
open Go.RowKit Go.Shelf
attribute [local go_sem] Ext.cell Ext.frozen

set_option maxRecDepth 100000 in
set_option maxHeartbeats 4000000 in
theorem JointFree_any (k l w t : Int) (nv : Value) (n : List Int) (m : Int) (W : World) (hn : Ints W nv n) (hnil : NilV nv) (_hi : (Lit.int .i64 m).wf = true) (htab : Lib.TabIs Tryz.prog W "internal/strconv.uint64pow10" .u64 Lib.pow10Tab) :
    Calls Tryz.prog 7 #[vJ k l w t nv, .int .i64 m] W (Ret W (.bool true)) := by
  obtain ⟨a, q, c, rfl, hlen, hc, hx⟩ := id hn
  obtain ⟨V, HV⟩ : ∃ V, Hid (W.alloc (.cells #[.int .i64 k, .int .i64 l, .int .i64 w, .int .i64 t, .slice a q c] 25) = V) := ⟨_, Lib.hid rfl⟩
  have hV : Below W.heap.size W V := by rw [← HV.out]; (repeat (first | exact brf | assumption | refine ble ?_ | refine blx ?_ | refine bla ?_ | refine bls ?_ | refine bld ?_))
  have hA := Lib.hid (awake_any V (tab_below htab hV))
  have hF := fun W' => Lib.hid (Few_any k l w t a q c W')
  have v0 : V.cell? ⟨W.heap.size, 0, none⟩ = some (.int .i64 k) := by rw [← HV.out]; exact (cell_new rfl 0).trans rfl
  have v1 : V.cell? ⟨W.heap.size, 1, none⟩ = some (.int .i64 l) := by rw [← HV.out]; exact (cell_new rfl 1).trans rfl
  have v2 : V.cell? ⟨W.heap.size, 2, none⟩ = some (.int .i64 w) := by rw [← HV.out]; exact (cell_new rfl 2).trans rfl
  have v3 : V.cell? ⟨W.heap.size, 3, none⟩ = some (.int .i64 t) := by rw [← HV.out]; exact (cell_new rfl 3).trans rfl
  have v4 : V.cell? ⟨W.heap.size, 4, none⟩ = some (.slice a q c) := by rw [← HV.out]; exact (cell_new rfl 4).trans rfl
  have zV := World.block_lt_of_cell? V _ v0
  simp only at zV
  clear htab hx
  by_cases h30 : q ≤ 30
  · rw [show decide (q ≤ 30) = true from decide_eq_true h30] at hF
    have HC := fun W' h => Lib.hid (rCheck_all k l w t _ n W' (hn.below (w' := W') h) (by omega))
    have HK := fun W' h => Lib.hid (copied_any k l w t _ n W' (hn.below (w' := W') h) hnil (by omega))
    have HM := fun W' => Lib.hid (rMembers_any k W')
    have hmb := memB_bd k
    have hlb := looseN_bd k n
    have HB := fun W' => Lib.hid (bwithin_any m 0 (memB k + looseN k n - 1) W')
    by_cases h0 : chkE k l w t n = 0
    · have g := good_of h0
      have HL := fun W' h => Lib.hid (rLoose_any k l w t _ n W' (hn.below (w' := W') h) (by omega) g.h8)
      by_cases hme : memE 0 k m n = 0
      · have hmr : 0 ≤ m ∧ m ≤ memB k + looseN k n - 1 := by
          unfold memE at hme
          rw [if_neg (by simp)] at hme
          by_cases h : m < 0 ∨ memB k + looseN k n ≤ m
          · rw [if_pos h] at hme; simp at hme
          · omega
        have HFr := fun r W' (h : Ints W' r n) => Lib.hid (Free_ok k l w t m r n W' h h0 hme)
        have HR := fun W' h => Lib.hid (rFree_good k l w t m _ n W' (hn.below (w' := W') h) g hmr.1)
        have Hfl : Hid ((freeL k w n m).length ≤ 1000000) := Lib.hid (by
          have : (freeL k w n m).length ≤ ways26.length := List.length_filter_le _ _
          have h26 : ways26.length = 26 := rfl
          omega)
        have HS := fun v v2 W' (h : Q3s W' v (freeL k w n m)) (h2 : Q3s W' v2 (freeL k w n m)) => Lib.hid (SameWays_same v v2 _ W' h h2 Hfl.out)
        rw [h0] at HC
        rw [decide_eq_true hmr] at HB
        generalize freeL k w n m = fl at *
        generalize memB k = mb at *
        generalize looseN k n = ln at *
        clear hn hnil h0 g hme
        unfold vJ at *
        go_enter Tryz.func7, Tryz.ntmps7
        go_wp2_with fail
        rw [HV.out]
        refine (hA.out).mono ?_
        rintro e w1 ⟨rfl, hb1⟩
        have d0 := below_cell hb1 v0
        have d1 := below_cell hb1 v1
        have d2 := below_cell hb1 v2
        have d3 := below_cell hb1 v3
        have d4 := below_cell hb1 v4
        have zd := Nat.lt_of_lt_of_le zV (hb1).size
        go_wp2_with fail
        refine ((hF _).out).mono ?_
        rintro e w2 ⟨rfl, hb2⟩
        have hb12 := below_trans hb1 hb2
        clear d0 d1 d2 d3 d4 zd
        have d0 := below_cell hb12 v0
        have d1 := below_cell hb12 v1
        have d2 := below_cell hb12 v2
        have d3 := below_cell hb12 v3
        have d4 := below_cell hb12 v4
        have zd := Nat.lt_of_lt_of_le zV (hb12).size
        go_wp2_with fail
        refine ((HK _ (below_trans hV hb12)).out).mono ?_
        rintro e w3 ⟨r, rfl, hb3, ho⟩
        have hI := ints_own ho
        have hb13 := below_trans hb12 hb3
        clear d0 d1 d2 d3 d4 zd ho
        go_wp2_with fail
        refine ((HFr _ _ hI).out).mono ?_
        rintro e w4 ⟨r4, rfl, hb4, ho4⟩
        have hb14 := below_trans hb13 hb4
        have HQ := Lib.hid (q3s_own ho4)
        obtain ⟨ra, rn, rc, rfl, _⟩ := q3s_own ho4
        clear ho4
        have d0 := below_cell hb14 v0
        have d1 := below_cell hb14 v1
        have d2 := below_cell hb14 v2
        have d3 := below_cell hb14 v3
        have d4 := below_cell hb14 v4
        have zd := Nat.lt_of_lt_of_le zV (hb14).size
        go_wp2_with fail
        refine ((HC _ (below_trans hV hb14)).out).mono ?_
        rintro e w5 ⟨rfl, hb5⟩
        have hb15 := below_trans hb14 hb5
        clear d0 d1 d2 d3 d4 zd
        have d0 := below_cell hb15 v0
        have d1 := below_cell hb15 v1
        have d2 := below_cell hb15 v2
        have d3 := below_cell hb15 v3
        have d4 := below_cell hb15 v4
        have zd := Nat.lt_of_lt_of_le zV (hb15).size
        have hw15 := below_trans hV hb15
        go_wp2
        refine wp_region_quietB (by kernel_rfl) (by kernel_rfl) ?_
        repeat (first | go_big_quiet_step ((first | (go_at_call 18; refine ((HM _).out).mono ?_; rintro e w9 ⟨rfl, rfl⟩; exact ⟨rfl, _, rfl⟩) | (go_at_call 19; exact quietB_ret ((HL _ (below_trans hw15 (Ext.below _))).out)) | (go_at_call 17; refine ((HB _).out).mono ?_; rintro e w9 ⟨rfl, rfl⟩; exact ⟨rfl, _, rfl⟩))) | quiet_step ((first | (go_at_call 18; refine ((HM _).out).mono ?_; rintro e w9 ⟨rfl, rfl⟩; exact ⟨rfl, _, rfl⟩) | (go_at_call 19; exact quietB_ret ((HL _ (below_trans hw15 (Ext.below _))).out)) | (go_at_call 17; refine ((HB _).out).mono ?_; rintro e w9 ⟨rfl, rfl⟩; exact ⟨rfl, _, rfl⟩))))
        refine wpQuiet_nil ?_
        rintro _ ⟨u, rfl⟩
        have hb16 : Below V.heap.size V u.val := below_trans hb15 u.below
        have hw16 := below_trans hV hb16
        have HQu := Lib.hid ((HQ.out.below hb5).below u.below)
        clear hw15 hb15 d0 d1 d2 d3 d4 zd HQ HB HL HM HC
        generalize u.val = w6 at *
        clear u
        have d0 := below_cell hb16 v0
        have d1 := below_cell hb16 v1
        have d2 := below_cell hb16 v2
        have d3 := below_cell hb16 v3
        have d4 := below_cell hb16 v4
        have zd := Nat.lt_of_lt_of_le zV (hb16).size
        go_wp2_with fail
        refine ((HR _ hw16).out).mono ?_
        rintro e w7 ⟨r7, rfl, hb7, ho7⟩
        have hQ7 := q3s_own ho7
        go_wp2_with fail
        refine ((HS _ _ _ (HQu.out.below hb7) hQ7).out).mono ?_
        rintro e w8 ⟨rfl, hb8⟩
        go_wp2
        go_ret
        exact ⟨ret_bool (by simp), below_trans hw16 (below_trans hb7 hb8)⟩
      · have hmr : ¬ (0 ≤ m ∧ m ≤ memB k + looseN k n - 1) ∧ memE 0 k m n = 6 := by
          unfold memE at hme ⊢
          rw [if_neg (by simp)] at hme ⊢
          by_cases h : m < 0 ∨ memB k + looseN k n ≤ m
          · rw [if_pos h]; exact ⟨by omega, rfl⟩
          · rw [if_neg h] at hme; simp at hme
        have HFr := fun r W' (h : Ints W' r n) => Lib.hid (Free_bad k l w t m 6 r n W' h (by omega) (by rw [h0]; exact hmr.2) (by simp))
        rw [h0] at HC
        rw [decide_eq_false hmr.1] at HB
        generalize memB k = mb at *
        generalize looseN k n = ln at *
        clear hn hnil h0 g hme hmr
        unfold vJ at *
        go_enter Tryz.func7, Tryz.ntmps7
        go_wp2_with fail
        rw [HV.out]
        refine (hA.out).mono ?_
        rintro e w1 ⟨rfl, hb1⟩
        have d0 := below_cell hb1 v0
        have d1 := below_cell hb1 v1
        have d2 := below_cell hb1 v2
        have d3 := below_cell hb1 v3
        have d4 := below_cell hb1 v4
        have zd := Nat.lt_of_lt_of_le zV (hb1).size
        go_wp2_with fail
        refine ((hF _).out).mono ?_
        rintro e w2 ⟨rfl, hb2⟩
        have hb12 := below_trans hb1 hb2
        clear d0 d1 d2 d3 d4 zd
        have d0 := below_cell hb12 v0
        have d1 := below_cell hb12 v1
        have d2 := below_cell hb12 v2
        have d3 := below_cell hb12 v3
        have d4 := below_cell hb12 v4
        have zd := Nat.lt_of_lt_of_le zV (hb12).size
        go_wp2_with fail
        refine ((HK _ (below_trans hV hb12)).out).mono ?_
        rintro e w3 ⟨r, rfl, hb3, ho⟩
        have hI := ints_own ho
        have hb13 := below_trans hb12 hb3
        clear d0 d1 d2 d3 d4 zd ho
        go_wp2_with fail
        refine ((HFr _ _ hI).out).mono ?_
        rintro e w4 ⟨rfl, hb4⟩
        have hb14 := below_trans hb13 hb4
        have d0 := below_cell hb14 v0
        have d1 := below_cell hb14 v1
        have d2 := below_cell hb14 v2
        have d3 := below_cell hb14 v3
        have d4 := below_cell hb14 v4
        have zd := Nat.lt_of_lt_of_le zV (hb14).size
        go_wp2_with fail
        refine ((HC _ (below_trans hV hb14)).out).mono ?_
        rintro e w5 ⟨rfl, hb5⟩
        have hb15 := below_trans hb14 hb5
        clear d0 d1 d2 d3 d4 zd
        have d0 := below_cell hb15 v0
        have d1 := below_cell hb15 v1
        have d2 := below_cell hb15 v2
        have d3 := below_cell hb15 v3
        have d4 := below_cell hb15 v4
        have zd := Nat.lt_of_lt_of_le zV (hb15).size
        have hw15 := below_trans hV hb15
        go_wp2
        refine wp_region_quietB (by kernel_rfl) (by kernel_rfl) ?_
        repeat (first | go_big_quiet_step ((first | (go_at_call 18; refine ((HM _).out).mono ?_; rintro e w9 ⟨rfl, rfl⟩; exact ⟨rfl, _, rfl⟩) | (go_at_call 19; exact quietB_ret ((HL _ (below_trans hw15 (Ext.below _))).out)) | (go_at_call 17; refine ((HB _).out).mono ?_; rintro e w9 ⟨rfl, rfl⟩; exact ⟨rfl, _, rfl⟩))) | quiet_step ((first | (go_at_call 18; refine ((HM _).out).mono ?_; rintro e w9 ⟨rfl, rfl⟩; exact ⟨rfl, _, rfl⟩) | (go_at_call 19; exact quietB_ret ((HL _ (below_trans hw15 (Ext.below _))).out)) | (go_at_call 17; refine ((HB _).out).mono ?_; rintro e w9 ⟨rfl, rfl⟩; exact ⟨rfl, _, rfl⟩))))
        refine wpQuiet_nil ?_
        rintro _ ⟨u, rfl⟩
        go_wp2
        go_ret
        exact ⟨ret_bool (by simp), below_trans hw15 u.below⟩
    · have HFr := fun r W' (h : Ints W' r n) => Lib.hid (Free_bad k l w t m (chkE k l w t n) r n W' h (by omega) (by unfold memE; rw [if_pos h0]) h0)
      generalize chkE k l w t n = ce at *
      have hne : (ce != 0) = true := by simpa using h0
      have hne0 : (ce == 0) = false := by simpa using h0
      clear hn hnil HB HM hmb hlb
      unfold vJ at *
      go_enter Tryz.func7, Tryz.ntmps7
      go_wp2_with fail
      rw [HV.out]
      refine (hA.out).mono ?_
      rintro e w1 ⟨rfl, hb1⟩
      have d0 := below_cell hb1 v0
      have d1 := below_cell hb1 v1
      have d2 := below_cell hb1 v2
      have d3 := below_cell hb1 v3
      have d4 := below_cell hb1 v4
      have zd := Nat.lt_of_lt_of_le zV (hb1).size
      go_wp2_with fail
      refine ((hF _).out).mono ?_
      rintro e w2 ⟨rfl, hb2⟩
      have hb12 := below_trans hb1 hb2
      clear d0 d1 d2 d3 d4 zd
      have d0 := below_cell hb12 v0
      have d1 := below_cell hb12 v1
      have d2 := below_cell hb12 v2
      have d3 := below_cell hb12 v3
      have d4 := below_cell hb12 v4
      have zd := Nat.lt_of_lt_of_le zV (hb12).size
      go_wp2_with fail
      refine ((HK _ (below_trans hV hb12)).out).mono ?_
      rintro e w3 ⟨r, rfl, hb3, ho⟩
      have hI := ints_own ho
      have hb13 := below_trans hb12 hb3
      clear d0 d1 d2 d3 d4 zd ho
      go_wp2_with fail
      refine ((HFr _ _ hI).out).mono ?_
      rintro e w4 ⟨rfl, hb4⟩
      have hb14 := below_trans hb13 hb4
      have d0 := below_cell hb14 v0
      have d1 := below_cell hb14 v1
      have d2 := below_cell hb14 v2
      have d3 := below_cell hb14 v3
      have d4 := below_cell hb14 v4
      have zd := Nat.lt_of_lt_of_le zV (hb14).size
      go_wp2_with fail
      refine ((HC _ (below_trans hV hb14)).out).mono ?_
      rintro e w5 ⟨rfl, hb5⟩
      have hb15 := below_trans hb14 hb5
      clear d0 d1 d2 d3 d4 zd
      have d0 := below_cell hb15 v0
      have d1 := below_cell hb15 v1
      have d2 := below_cell hb15 v2
      have d3 := below_cell hb15 v3
      have d4 := below_cell hb15 v4
      have zd := Nat.lt_of_lt_of_le zV (hb15).size
      have hw15 := below_trans hV hb15
      go_wp2
      refine wp_region_quietB (by kernel_rfl) (by kernel_rfl) ?_
      repeat (first | go_big_quiet_step (fail) | quiet_step (fail))
      refine wpQuiet_nil ?_
      rintro _ ⟨u, rfl⟩
      go_wp2
      go_ret
      exact ⟨ret_bool (by simp), below_trans hw15 u.below⟩
  · rw [show decide (q ≤ 30) = false from decide_eq_false h30] at hF
    clear hn hnil
    unfold vJ at *
    go_enter Tryz.func7, Tryz.ntmps7
    go_wp2_with fail
    rw [HV.out]
    refine (hA.out).mono ?_
    rintro e w1 ⟨rfl, hb1⟩
    have d0 := below_cell hb1 v0
    have d1 := below_cell hb1 v1
    have d2 := below_cell hb1 v2
    have d3 := below_cell hb1 v3
    have d4 := below_cell hb1 v4
    have zd := Nat.lt_of_lt_of_le zV (hb1).size
    go_wp2_with fail
    refine ((hF _).out).mono ?_
    rintro e w2 ⟨rfl, hb2⟩
    go_wp2
    go_ret
    exact ⟨rfl, below_trans hV (below_trans hb1 hb2)⟩
end Go.Proofs.YtjglkglaogaenaaGreatDoor
