/- texts of mine, merged: K1. -/
import Derived.Test.YtjglkglaogaenaaGreatDoorGS
import Derived.Test.YtjglkglaogaenaaGreatDoorGN
/- The law JointChecks, walked. -/
namespace Go.Proofs.YtjglkglaogaenaaGreatDoor
open Go.RowKit Go.Shelf
attribute [local go_sem] Ext.cell Ext.frozen

set_option maxRecDepth 100000 in
set_option maxHeartbeats 4000000 in
theorem JointChecks_any (k l w t : Int) (nv : Value) (n : List Int) (W : World) (hn : Ints W nv n) (hnil : NilV nv) (htab : Lib.TabIs Tryz.prog W "internal/strconv.uint64pow10" .u64 Lib.pow10Tab) :
    Calls Tryz.prog 4 #[vJ k l w t nv] W (Ret W (.bool true)) := by
  obtain ⟨a, m, c, rfl, hlen, hc, hx⟩ := id hn
  obtain ⟨V, HV⟩ : ∃ V, Hid (W.alloc (.cells #[.int .i64 k, .int .i64 l, .int .i64 w, .int .i64 t, .slice a m c] 25) = V) := ⟨_, Lib.hid rfl⟩
  have hV : Below W.heap.size W V := by rw [← HV.out]; (repeat (first | exact Below.refl _ _ | assumption | (refine below_trans ?_ (Ext.below _)) | (refine Below.trans ?_ ((Ext.below _).mono (by first | omega | (simp; omega)))) | (refine Below.alloc ?_ (by first | omega | (simp; done) | (simp; omega)) _) | (refine Below.setCell ?_ (by first | omega | (simp; done) | (simp; omega)) _) | (refine Below.drew ?_)))
  have hA := Lib.hid (awake_any V (tab_below htab hV))
  have hF := fun W' => Lib.hid (Few_any k l w t a m c W')
  have v0 : V.cell? ⟨W.heap.size, 0, none⟩ = some (.int .i64 k) := by rw [← HV.out]; exact (cell_new rfl 0).trans rfl
  have v1 : V.cell? ⟨W.heap.size, 1, none⟩ = some (.int .i64 l) := by rw [← HV.out]; exact (cell_new rfl 1).trans rfl
  have v2 : V.cell? ⟨W.heap.size, 2, none⟩ = some (.int .i64 w) := by rw [← HV.out]; exact (cell_new rfl 2).trans rfl
  have v3 : V.cell? ⟨W.heap.size, 3, none⟩ = some (.int .i64 t) := by rw [← HV.out]; exact (cell_new rfl 3).trans rfl
  have v4 : V.cell? ⟨W.heap.size, 4, none⟩ = some (.slice a m c) := by rw [← HV.out]; exact (cell_new rfl 4).trans rfl
  have zV := World.block_lt_of_cell? V _ v0
  simp only at zV
  clear htab hx
  by_cases h30 : m ≤ 30
  · rw [show decide (m ≤ 30) = true from decide_eq_true h30] at hF
    have HC := fun W' h => Lib.hid (rCheck_all k l w t _ n W' (hn.below (w' := W') h) (by omega))
    have HK := fun W' h => Lib.hid (copied_any k l w t _ n W' (hn.below (w' := W') h) hnil (by omega))
    have HL := fun r W' (h : Ints W' r n) => Lib.hid (Loose_all k l w t r n W' h (by omega))
    have HJ := fun r W' (h : Ints W' r n) => Lib.hid (Check_all k l w t r n W' h (by omega))
    have HO := fun W' h (h0 : chkE k l w t n = 0) => Lib.hid (rLoose_any k l w t _ n W' (hn.below (w' := W') h) (by omega) (fun e => (good_of h0).h8 e))
    generalize chkE k l w t n = ce at *
    generalize looseN k n = ln at *
    clear hn hnil
    unfold vJ at *
    by_cases h0 : ce = 0
    · have HO' := fun W' h => HO W' h h0
      clear HO
      subst h0
      simp only [if_pos] at HL
      go_enter Tryz.func4, Tryz.ntmps4
      go_wp2_with fail
      rw [HV.out]
      refine (hA.out).mono ?_
      rintro e w1 ⟨rfl, hb1⟩
      have d0 := below_cell hb1 v0
      have d1 := below_cell hb1 v1
      have d2 := below_cell hb1 v2
      have d3 := below_cell hb1 v3
      have d4 := below_cell hb1 v4
      have zd := Nat.lt_of_lt_of_le zV (hb1).size
      go_wp2_with fail
      refine ((hF _).out).mono ?_
      rintro e w2 ⟨rfl, hb2⟩
      have hb12 := below_trans hb1 hb2
      clear d0 d1 d2 d3 d4 zd
      have d0 := below_cell hb12 v0
      have d1 := below_cell hb12 v1
      have d2 := below_cell hb12 v2
      have d3 := below_cell hb12 v3
      have d4 := below_cell hb12 v4
      have zd := Nat.lt_of_lt_of_le zV (hb12).size
      go_wp2_with fail
      refine ((HC _ (below_trans hV hb12)).out).mono ?_
      rintro e w3 ⟨rfl, hb3⟩
      have hb13 := below_trans hb12 hb3
      clear d0 d1 d2 d3 d4 zd
      have d0 := below_cell hb13 v0
      have d1 := below_cell hb13 v1
      have d2 := below_cell hb13 v2
      have d3 := below_cell hb13 v3
      have d4 := below_cell hb13 v4
      have zd := Nat.lt_of_lt_of_le zV (hb13).size
      go_wp2_with fail
      refine ((HK _ (below_trans hV hb13)).out).mono ?_
      rintro e w4 ⟨r, rfl, hb4, ho⟩
      have hI := ints_own ho
      have hb14 := below_trans hb13 hb4
      clear d0 d1 d2 d3 d4 zd
      go_wp2_with fail
      refine ((HL _ _ hI).out).mono ?_
      rintro e w5 ⟨rfl, hb5⟩
      have hb15 := below_trans hb14 hb5
      clear hI ho
      have d0 := below_cell hb15 v0
      have d1 := below_cell hb15 v1
      have d2 := below_cell hb15 v2
      have d3 := below_cell hb15 v3
      have d4 := below_cell hb15 v4
      have zd := Nat.lt_of_lt_of_le zV (hb15).size
      go_wp2_with fail
      refine ((HK _ (below_trans hV hb15)).out).mono ?_
      rintro e w6 ⟨r2, rfl, hb6, ho6⟩
      have hI6 := ints_own ho6
      have hb16 := below_trans hb15 hb6
      clear d0 d1 d2 d3 d4 zd
      go_wp2_with fail
      refine ((HJ _ _ hI6).out).mono ?_
      rintro e w7 ⟨rfl, hb7⟩
      have hb17 := below_trans hb16 hb7
      clear ho6 hI6 HL HJ HK HC
      have d0 := below_cell hb17 v0
      have d1 := below_cell hb17 v1
      have d2 := below_cell hb17 v2
      have d3 := below_cell hb17 v3
      have d4 := below_cell hb17 v4
      have zd := Nat.lt_of_lt_of_le zV (hb17).size
      go_wp2_with fail
      refine ((HO' _ (below_trans hV hb17)).out).mono ?_
      rintro e w8 ⟨rfl, hb8⟩
      go_wp2
      go_ret
      exact ⟨ret_bool (by simp), below_trans hV (below_trans hb17 hb8)⟩
    · have hne : (ce != 0) = true := by simpa using h0
      clear HO
      simp only [if_neg h0] at HL
      go_enter Tryz.func4, Tryz.ntmps4
      go_wp2_with fail
      rw [HV.out]
      refine (hA.out).mono ?_
      rintro e w1 ⟨rfl, hb1⟩
      have d0 := below_cell hb1 v0
      have d1 := below_cell hb1 v1
      have d2 := below_cell hb1 v2
      have d3 := below_cell hb1 v3
      have d4 := below_cell hb1 v4
      have zd := Nat.lt_of_lt_of_le zV (hb1).size
      go_wp2_with fail
      refine ((hF _).out).mono ?_
      rintro e w2 ⟨rfl, hb2⟩
      have hb12 := below_trans hb1 hb2
      clear d0 d1 d2 d3 d4 zd
      have d0 := below_cell hb12 v0
      have d1 := below_cell hb12 v1
      have d2 := below_cell hb12 v2
      have d3 := below_cell hb12 v3
      have d4 := below_cell hb12 v4
      have zd := Nat.lt_of_lt_of_le zV (hb12).size
      go_wp2_with fail
      refine ((HC _ (below_trans hV hb12)).out).mono ?_
      rintro e w3 ⟨rfl, hb3⟩
      have hb13 := below_trans hb12 hb3
      clear d0 d1 d2 d3 d4 zd
      have d0 := below_cell hb13 v0
      have d1 := below_cell hb13 v1
      have d2 := below_cell hb13 v2
      have d3 := below_cell hb13 v3
      have d4 := below_cell hb13 v4
      have zd := Nat.lt_of_lt_of_le zV (hb13).size
      go_wp2_with fail
      refine ((HK _ (below_trans hV hb13)).out).mono ?_
      rintro e w4 ⟨r, rfl, hb4, ho⟩
      have hI := ints_own ho
      have hb14 := below_trans hb13 hb4
      clear d0 d1 d2 d3 d4 zd
      go_wp2_with fail
      refine ((HL _ _ hI).out).mono ?_
      rintro e w5 ⟨rfl, hb5⟩
      have hb15 := below_trans hb14 hb5
      clear hI ho
      have d0 := below_cell hb15 v0
      have d1 := below_cell hb15 v1
      have d2 := below_cell hb15 v2
      have d3 := below_cell hb15 v3
      have d4 := below_cell hb15 v4
      have zd := Nat.lt_of_lt_of_le zV (hb15).size
      go_wp2_with fail
      refine ((HK _ (below_trans hV hb15)).out).mono ?_
      rintro e w6 ⟨r2, rfl, hb6, ho6⟩
      have hI6 := ints_own ho6
      have hb16 := below_trans hb15 hb6
      clear d0 d1 d2 d3 d4 zd
      go_wp2_with fail
      refine ((HJ _ _ hI6).out).mono ?_
      rintro e w7 ⟨rfl, hb7⟩
      have hb17 := below_trans hb16 hb7
      clear ho6 hI6 HL HJ HK HC
      go_wp2
      go_ret
      exact ⟨ret_bool (by simp), below_trans hV hb17⟩
  · rw [show decide (m ≤ 30) = false from decide_eq_false h30] at hF
    clear hn hnil
    unfold vJ at *
    go_enter Tryz.func4, Tryz.ntmps4
    go_wp2_with fail
    rw [HV.out]
    refine (hA.out).mono ?_
    rintro e w1 ⟨rfl, hb1⟩
    have d0 := below_cell hb1 v0
    have d1 := below_cell hb1 v1
    have d2 := below_cell hb1 v2
    have d3 := below_cell hb1 v3
    have d4 := below_cell hb1 v4
    have zd := Nat.lt_of_lt_of_le zV (hb1).size
    go_wp2_with fail
    refine ((hF _).out).mono ?_
    rintro e w2 ⟨rfl, hb2⟩
    go_wp2
    go_ret
    exact ⟨rfl, below_trans hV (below_trans hb1 hb2)⟩
end Go.Proofs.YtjglkglaogaenaaGreatDoor
