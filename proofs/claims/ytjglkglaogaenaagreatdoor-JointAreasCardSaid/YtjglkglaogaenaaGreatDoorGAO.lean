/- texts of mine, merged: QD. -/
import Derived.Test.YtjglkglaogaenaaGreatDoorGAN
import Derived.Test.YtjglkglaogaenaaGreatDoorGAQ
import Derived.Test.YtjglkglaogaenaaGreatDoorGN
/- The law JointAreas, walked. -/
namespace Go.Proofs.YtjglkglaogaenaaGreatDoor
open Go.RowKit Go.Shelf
attribute [local go_sem] Ext.cell Ext.frozen
set_option maxRecDepth 100000 in
set_option maxHeartbeats 4000000 in
theorem JointAreas_any (k l w t : Int) (nv : Value) (n : List Int) (W : World) (hn : Ints W nv n) (hnil : NilV nv) (htab : Lib.TabIs Tryz.prog W "internal/strconv.uint64pow10" .u64 Lib.pow10Tab) :
    Calls Tryz.prog 8 #[vJ k l w t nv] W (Ret W (.bool true)) := by
  obtain ⟨a, m, c, rfl, hlen, hc, hx⟩ := id hn
  obtain ⟨V, HV⟩ : ∃ V, Hid (W.alloc (.cells #[.int .i64 k, .int .i64 l, .int .i64 w, .int .i64 t, .slice a m c] 25) = V) := ⟨_, Lib.hid rfl⟩
  have hV : Below W.heap.size W V := by rw [← HV.out]; (repeat (first | exact brf | assumption | refine ble ?_ | refine blx ?_ | refine bla ?_ | refine bls ?_ | refine bld ?_))
  have hA := Lib.hid (awake_any V (tab_below htab hV))
  have hF := fun W' => Lib.hid (Few_any k l w t a m c W')
  have v0 : V.cell? ⟨W.heap.size, 0, none⟩ = some (.int .i64 k) := by rw [← HV.out]; exact (cell_new rfl 0).trans rfl
  have v1 : V.cell? ⟨W.heap.size, 1, none⟩ = some (.int .i64 l) := by rw [← HV.out]; exact (cell_new rfl 1).trans rfl
  have v2 : V.cell? ⟨W.heap.size, 2, none⟩ = some (.int .i64 w) := by rw [← HV.out]; exact (cell_new rfl 2).trans rfl
  have v3 : V.cell? ⟨W.heap.size, 3, none⟩ = some (.int .i64 t) := by rw [← HV.out]; exact (cell_new rfl 3).trans rfl
  have v4 : V.cell? ⟨W.heap.size, 4, none⟩ = some (.slice a m c) := by rw [← HV.out]; exact (cell_new rfl 4).trans rfl
  have zV := World.block_lt_of_cell? V _ v0
  simp only at zV
  clear htab hx
  by_cases h30 : m ≤ 30
  · rw [show decide (m ≤ 30) = true from decide_eq_true h30] at hF
    have HC := fun W' h => Lib.hid (rCheck_all k l w t _ n W' (hn.below (w' := W') h) (by omega))
    have HK := fun W' h => Lib.hid (copied_any k l w t _ n W' (hn.below (w' := W') h) hnil (by omega))
    by_cases h0 : chkE k l w t n = 0
    · have g := good_of h0
      have HA := fun r W' (h : Ints W' r n) => Lib.hid (Area_ok k l w t r n W' h h0)
      have HP := fun r W' (h : Ints W' r n) => Lib.hid (Proportions_good k l w t r n W' h h0)
      have HRA := fun W' h => Lib.hid (rArea_any k l w t _ n W' (hn.below (w' := W') h) g)
      have HRP := fun W' h => Lib.hid (rProportions_any k l w t _ n W' (hn.below (w' := W') h) g)
      have Hbl : Hid ((brkTo k l w t n 8).length ≤ 1000000) := Lib.hid (by have := brkTo_len k l w t n 8; omega)
      have HBI := fun v v2 W' (h : Ints W' v (brkTo k l w t n 8)) (h2 : Ints W' v2 (brkTo k l w t n 8)) => Lib.hid (bInts_same v v2 _ W' h h2 Hbl.out)
      rw [h0] at HC
      generalize brkTo k l w t n 8 = bs at *
      unfold areaV at HA HRA
      generalize (areaL k l w t n).1 = a0 at *
      generalize (areaL k l w t n).2.1 = a1 at *
      generalize (areaL k l w t n).2.2 = a2 at *
      have hE := fun W' => equalIn_arr3 a0 a1 a2 a0 a1 a2 W'
      simp only [beq_self_eq_true, Bool.and_self] at hE
      clear hn hnil h0 g
      unfold vJ at *
      go_enter Tryz.func8, Tryz.ntmps8
      go_wp2_with fail
      rw [HV.out]
      refine (hA.out).mono ?_
      rintro e w1 ⟨rfl, hb1⟩
      have d0 := below_cell hb1 v0
      have d1 := below_cell hb1 v1
      have d2 := below_cell hb1 v2
      have d3 := below_cell hb1 v3
      have d4 := below_cell hb1 v4
      have zd := Nat.lt_of_lt_of_le zV (hb1).size
      go_wp2_with fail
      refine ((hF _).out).mono ?_
      rintro e w2 ⟨rfl, hb2⟩
      have hb12 := below_trans hb1 hb2
      clear d0 d1 d2 d3 d4 zd
      have d0 := below_cell hb12 v0
      have d1 := below_cell hb12 v1
      have d2 := below_cell hb12 v2
      have d3 := below_cell hb12 v3
      have d4 := below_cell hb12 v4
      have zd := Nat.lt_of_lt_of_le zV (hb12).size
      go_wp2_with fail
      refine ((HK _ (below_trans hV hb12)).out).mono ?_
      rintro e w3 ⟨r, rfl, hb3, ho⟩
      have hI := ints_own ho
      have hb13 := below_trans hb12 hb3
      clear d0 d1 d2 d3 d4 zd
      go_wp2_with fail
      refine ((HA _ _ hI).out).mono ?_
      rintro e w4 ⟨rfl, hb4⟩
      have hb14 := below_trans hb13 hb4
      clear hI ho
      have d0 := below_cell hb14 v0
      have d1 := below_cell hb14 v1
      have d2 := below_cell hb14 v2
      have d3 := below_cell hb14 v3
      have d4 := below_cell hb14 v4
      have zd := Nat.lt_of_lt_of_le zV (hb14).size
      obtain ⟨X, HX⟩ : ∃ X, Hid (w4.alloc (.cells #[.int .i64 a0, .int .i64 a1, .int .i64 a2] 22) = X) := ⟨_, Lib.hid rfl⟩
      have hbX : Below w4.heap.size w4 X := by rw [← HX.out]; (repeat (first | exact brf | assumption | refine ble ?_ | refine blx ?_ | refine bla ?_ | refine bls ?_ | refine bld ?_))
      have HG : Hid (X.heap[w4.heap.size]? = some (.cells #[.int .i64 a0, .int .i64 a1, .int .i64 a2] 22 (0, 0))) := Lib.hid (by rw [← HX.out]; exact heap_new rfl)
      have hb1X := below_trans hb14 hbX
      go_wp2_with fail
      rw [HX.out]
      clear d0 d1 d2 d3 d4 zd
      refine ((HK _ (below_trans hV hb1X)).out).mono ?_
      rintro e w5 ⟨r2, rfl, hb5, ho5⟩
      have hI5 := ints_own ho5
      have hb15 := below_trans hb1X hb5
      go_wp2_with fail
      refine ((HP _ _ hI5).out).mono ?_
      rintro e w6 ⟨rv, rfl, hb6, hIv⟩
      have hb16 := below_trans hb15 hb6
      have HIV := Lib.hid hIv
      obtain ⟨va, vm, vc, rfl, hvm, _, _⟩ := hIv
      clear ho5 hI5
      have d0 := below_cell hb16 v0
      have d1 := below_cell hb16 v1
      have d2 := below_cell hb16 v2
      have d3 := below_cell hb16 v3
      have d4 := below_cell hb16 v4
      have zd := Nat.lt_of_lt_of_le zV (hb16).size
      go_wp2_with fail
      refine ((HC _ (below_trans hV hb16)).out).mono ?_
      rintro e w7 ⟨rfl, hb7⟩
      have hb17 := below_trans hb16 hb7
      have HIV7 := Lib.hid (HIV.out.below hb7)
      have HG7 : Hid (w7.heap[w4.heap.size]? = _) := Lib.hid (((below_trans hb5 (below_trans hb6 hb7)).block _ (blk_lt HG.out)).trans HG.out)
      have s0 := (blk_cell HG7.out 0).trans rfl
      have s1 := (blk_cell HG7.out 1).trans rfl
      have s2 := (blk_cell HG7.out 2).trans rfl
      simp only [List.getElem?_toArray, List.getElem?_cons_zero, List.getElem?_cons_succ] at s0 s1 s2
      have zs := blk_lt HG7.out
      clear d0 d1 d2 d3 d4 zd HK HA HP HC hA hF HIV HG
      have d0 := below_cell hb17 v0
      have d1 := below_cell hb17 v1
      have d2 := below_cell hb17 v2
      have d3 := below_cell hb17 v3
      have d4 := below_cell hb17 v4
      have zd := Nat.lt_of_lt_of_le zV (hb17).size
      clear hvm
      go_wp2
      refine wp_region_grow [0, 1, 2, 3, 4, 5, 6, 7, 8, 9, 10, 11, 12, 13, 14, 15, 16, 17] 18 [] (pick [IsV (.int .i64 0), IsV (.bool true), IsV (.bool true), Gd true (IsV (.int .i64 0)), Gd true (IsV (.bool true)), IsV (.bool true), IsV (.bool true), Gd true (IsV (.agg #[.int .i64 a0, .int .i64 a1, .int .i64 a2])), Gd true (IsV (.agg #[.int .i64 k, .int .i64 l, .int .i64 w, .int .i64 t, .slice a m c])), Gd true (IsV (.agg #[.int .i64 a0, .int .i64 a1, .int .i64 a2])), Gd true (IsV (.bool true)), IsV (.bool true), IsV (.bool true), Gd true (IsV (.slice va vm vc)), Gd true (IsV (.agg #[.int .i64 k, .int .i64 l, .int .i64 w, .int .i64 t, .slice a m c])), Gd true (IsL bs), Gd true (IsV (.bool true)), IsV (.bool true)]) (by kernel_rfl) (by kernel_rfl) (Stabs.pick (by repeat (first | exact Stabs.nil | refine Stabs.cons (by first | exact stab_v _ | exact stab_l _ | exact stab_bx _ _ _ | exact stab_gd (by first | exact stab_v _ | exact stab_l _)) ?_))) ?_
      try go_frame
      refine wgs rfl rfl (by simp) (fun w' hb' hR K hK => ?_) (fun o0 => ?_)
      · clear hR
        go_simp
        exact hK _ _ (Below.refl _ _) rfl
      try go_frame
      refine wgs rfl rfl (by simp) (fun w' hb' hR K hK => ?_) (fun o1 => ?_)
      · obtain rfl : o0 = .int .i64 0 := hR 0 (by kernel_rfl)
        clear hR
        go_simp
        exact hK _ _ (Below.refl _ _) rfl
      try go_frame
      refine wgs rfl rfl (by simp) (fun w' hb' hR K hK => ?_) (fun o2 => ?_)
      · obtain rfl : o1 = .bool true := hR 1 (by kernel_rfl)
        clear hR
        go_simp
        exact hK _ _ (Below.refl _ _) rfl
      try go_frame
      refine wgg rfl rfl (by simp) (fun w' hb' hR K hK => ?_) (fun o3 => ?_)
      · obtain rfl : o2 = .bool true := hR 2 (by kernel_rfl)
        clear hR
        refine ifp ?_
        go_simp
        exact hK _ _ (Below.refl _ _) rfl
      try go_frame
      refine wgg rfl rfl (by simp) (fun w' hb' hR K hK => ?_) (fun o4 => ?_)
      · obtain rfl : o2 = .bool true := hR 2 (by kernel_rfl)
        have h3 : (Gd true (IsV (.int .i64 0))) o3 w' := hR 3 (by kernel_rfl)
        clear hR
        refine ifp ?_
        obtain rfl : o3 = .int .i64 0 := h3
        go_simp
        exact hK _ _ (Below.refl _ _) rfl
      try go_frame
      refine wgs rfl rfl (by simp) (fun w' hb' hR K hK => ?_) (fun o5 => ?_)
      · obtain rfl : o2 = .bool true := hR 2 (by kernel_rfl)
        have h4 : (Gd true (IsV (.bool true))) o4 w' := hR 4 (by kernel_rfl)
        clear hR
        obtain rfl : o4 = .bool true := h4
        go_simp
        exact hK _ _ (Below.refl _ _) rfl
      try go_frame
      refine wgs rfl rfl (by simp) (fun w' hb' hR K hK => ?_) (fun o6 => ?_)
      · obtain rfl : o5 = .bool true := hR 5 (by kernel_rfl)
        clear hR
        go_simp
        exact hK _ _ (Below.refl _ _) rfl
      try go_frame
      refine wgg rfl rfl (by simp) (fun w' hb' hR K hK => ?_) (fun o7 => ?_)
      · obtain rfl : o6 = .bool true := hR 6 (by kernel_rfl)
        clear hR
        refine ifp ?_
        have q0 := below_cell hb' s0
        have q1 := below_cell hb' s1
        have q2 := below_cell hb' s2
        have qz := Nat.lt_of_lt_of_le zs hb'.size
        go_simp
        exact hK _ _ (Below.refl _ _) rfl
      try go_frame
      refine wgg rfl rfl (by simp) (fun w' hb' hR K hK => ?_) (fun o8 => ?_)
      · obtain rfl : o6 = .bool true := hR 6 (by kernel_rfl)
        clear hR
        refine ifp ?_
        have q0 := below_cell hb' d0
        have q1 := below_cell hb' d1
        have q2 := below_cell hb' d2
        have q3 := below_cell hb' d3
        have q4 := below_cell hb' d4
        have qz := Nat.lt_of_lt_of_le zd hb'.size
        go_simp
        exact hK _ _ (Below.refl _ _) rfl
      try go_frame
      refine wgg rfl rfl (by simp) (fun w' hb' hR K hK => ?_) (fun o9 => ?_)
      · obtain rfl : o6 = .bool true := hR 6 (by kernel_rfl)
        have h8 : (Gd true (IsV (.agg #[.int .i64 k, .int .i64 l, .int .i64 w, .int .i64 t, .slice a m c]))) o8 w' := hR 8 (by kernel_rfl)
        clear hR
        refine ifp ?_
        obtain rfl : o8 = .agg #[.int .i64 k, .int .i64 l, .int .i64 w, .int .i64 t, .slice a m c] := h8
        go_simp
        refine ((HRA _ (below_trans hV (below_trans hb17 hb'))).out).mono ?_
        rintro e w1 ⟨rfl, hb1⟩
        exact hK _ _ hb1 rfl
      try go_frame
      refine wgg rfl rfl (by simp) (fun w' hb' hR K hK => ?_) (fun o10 => ?_)
      · obtain rfl : o6 = .bool true := hR 6 (by kernel_rfl)
        have h7 : (Gd true (IsV (.agg #[.int .i64 a0, .int .i64 a1, .int .i64 a2]))) o7 w' := hR 7 (by kernel_rfl)
        have h9 : (Gd true (IsV (.agg #[.int .i64 a0, .int .i64 a1, .int .i64 a2]))) o9 w' := hR 9 (by kernel_rfl)
        clear hR
        refine ifp ?_
        obtain rfl : o7 = .agg #[.int .i64 a0, .int .i64 a1, .int .i64 a2] := h7
        obtain rfl : o9 = .agg #[.int .i64 a0, .int .i64 a1, .int .i64 a2] := h9
        go_simp
        exact hK _ _ (Below.refl _ _) rfl
      try go_frame
      refine wgs rfl rfl (by simp) (fun w' hb' hR K hK => ?_) (fun o11 => ?_)
      · obtain rfl : o6 = .bool true := hR 6 (by kernel_rfl)
        have h10 : (Gd true (IsV (.bool true))) o10 w' := hR 10 (by kernel_rfl)
        clear hR
        obtain rfl : o10 = .bool true := h10
        go_simp
        exact hK _ _ (Below.refl _ _) rfl
      try go_frame
      refine wgs rfl rfl (by simp) (fun w' hb' hR K hK => ?_) (fun o12 => ?_)
      · obtain rfl : o11 = .bool true := hR 11 (by kernel_rfl)
        clear hR
        go_simp
        exact hK _ _ (Below.refl _ _) rfl
      try go_frame
      refine wgg rfl rfl (by simp) (fun w' hb' hR K hK => ?_) (fun o13 => ?_)
      · obtain rfl : o12 = .bool true := hR 12 (by kernel_rfl)
        clear hR
        refine ifp ?_
        go_simp
        exact hK _ _ (Below.refl _ _) rfl
      try go_frame
      refine wgg rfl rfl (by simp) (fun w' hb' hR K hK => ?_) (fun o14 => ?_)
      · obtain rfl : o12 = .bool true := hR 12 (by kernel_rfl)
        clear hR
        refine ifp ?_
        have q0 := below_cell hb' d0
        have q1 := below_cell hb' d1
        have q2 := below_cell hb' d2
        have q3 := below_cell hb' d3
        have q4 := below_cell hb' d4
        have qz := Nat.lt_of_lt_of_le zd hb'.size
        go_simp
        exact hK _ _ (Below.refl _ _) rfl
      try go_frame
      refine wgg rfl rfl (by simp) (fun w' hb' hR K hK => ?_) (fun o15 => ?_)
      · obtain rfl : o12 = .bool true := hR 12 (by kernel_rfl)
        have h14 : (Gd true (IsV (.agg #[.int .i64 k, .int .i64 l, .int .i64 w, .int .i64 t, .slice a m c]))) o14 w' := hR 14 (by kernel_rfl)
        clear hR
        refine ifp ?_
        obtain rfl : o14 = .agg #[.int .i64 k, .int .i64 l, .int .i64 w, .int .i64 t, .slice a m c] := h14
        go_simp
        refine ((HRP _ (below_trans hV (below_trans hb17 hb'))).out).mono ?_
        rintro e w8 ⟨r8, rfl, hb8, hI8, _⟩
        exact hK _ _ hb8 hI8
      try go_frame
      refine wgg rfl rfl (by simp) (fun w' hb' hR K hK => ?_) (fun o16 => ?_)
      · obtain rfl : o12 = .bool true := hR 12 (by kernel_rfl)
        have h13 : (Gd true (IsV (.slice va vm vc))) o13 w' := hR 13 (by kernel_rfl)
        have h15 : (Gd true (IsL bs)) o15 w' := hR 15 (by kernel_rfl)
        clear hR
        refine ifp ?_
        obtain rfl : o13 = .slice va vm vc := h13
        replace h15 : (IsL bs) o15 w' := h15
        go_simp
        refine ((HBI _ _ _ (HIV7.out.below hb') h15).out).mono ?_
        rintro e w1 ⟨rfl, hb1⟩
        exact hK _ _ hb1 rfl
      try go_frame
      refine wgs rfl rfl (by simp) (fun w' hb' hR K hK => ?_) (fun o17 => ?_)
      · obtain rfl : o12 = .bool true := hR 12 (by kernel_rfl)
        have h16 : (Gd true (IsV (.bool true))) o16 w' := hR 16 (by kernel_rfl)
        clear hR
        obtain rfl : o16 = .bool true := h16
        go_simp
        exact hK _ _ (Below.refl _ _) rfl
      try go_frame
      refine wpG_nil (fun w' hb' hR => ?_)
      obtain rfl : o17 = _ := hR 17 (by simp)
      clear hR
      simp only [opsAt, List.filterMap_cons, List.filterMap_nil, List.getElem?_toArray, List.getElem?_cons_zero, List.getElem?_cons_succ]
      go_wp2
      refine NoPanic.normal ?_
      go_wp2
      go_ret
      exact ⟨rfl, below_trans hV (below_trans hb17 hb')⟩
    · have HA := fun r W' (h : Ints W' r n) => Lib.hid (Area_bad k l w t r n W' h (by omega) h0)
      have HP := fun r W' (h : Ints W' r n) => Lib.hid (Proportions_bad k l w t r n W' h (by omega) h0)
      unfold areaV at HA
      generalize chkE k l w t n = ce at *
      have hne : (ce != 0) = true := by simpa using h0
      have hE := fun W' => equalIn_arr3 0 0 0 0 0 0 W'
      simp only [beq_self_eq_true, Bool.and_self] at hE
      clear hn hnil
      unfold vJ at *
      go_enter Tryz.func8, Tryz.ntmps8
      go_wp2_with fail
      rw [HV.out]
      refine (hA.out).mono ?_
      rintro e w1 ⟨rfl, hb1⟩
      have d0 := below_cell hb1 v0
      have d1 := below_cell hb1 v1
      have d2 := below_cell hb1 v2
      have d3 := below_cell hb1 v3
      have d4 := below_cell hb1 v4
      have zd := Nat.lt_of_lt_of_le zV (hb1).size
      go_wp2_with fail
      refine ((hF _).out).mono ?_
      rintro e w2 ⟨rfl, hb2⟩
      have hb12 := below_trans hb1 hb2
      clear d0 d1 d2 d3 d4 zd
      have d0 := below_cell hb12 v0
      have d1 := below_cell hb12 v1
      have d2 := below_cell hb12 v2
      have d3 := below_cell hb12 v3
      have d4 := below_cell hb12 v4
      have zd := Nat.lt_of_lt_of_le zV (hb12).size
      go_wp2_with fail
      refine ((HK _ (below_trans hV hb12)).out).mono ?_
      rintro e w3 ⟨r, rfl, hb3, ho⟩
      have hI := ints_own ho
      have hb13 := below_trans hb12 hb3
      clear d0 d1 d2 d3 d4 zd
      go_wp2_with fail
      refine ((HA _ _ hI).out).mono ?_
      rintro e w4 ⟨rfl, hb4⟩
      have hb14 := below_trans hb13 hb4
      clear hI ho
      have d0 := below_cell hb14 v0
      have d1 := below_cell hb14 v1
      have d2 := below_cell hb14 v2
      have d3 := below_cell hb14 v3
      have d4 := below_cell hb14 v4
      have zd := Nat.lt_of_lt_of_le zV (hb14).size
      obtain ⟨X, HX⟩ : ∃ X, Hid (w4.alloc (.cells #[.int .i64 0, .int .i64 0, .int .i64 0] 22) = X) := ⟨_, Lib.hid rfl⟩
      have hbX : Below w4.heap.size w4 X := by rw [← HX.out]; (repeat (first | exact brf | assumption | refine ble ?_ | refine blx ?_ | refine bla ?_ | refine bls ?_ | refine bld ?_))
      have HG : Hid (X.heap[w4.heap.size]? = some (.cells #[.int .i64 0, .int .i64 0, .int .i64 0] 22 (0, 0))) := Lib.hid (by rw [← HX.out]; exact heap_new rfl)
      have hb1X := below_trans hb14 hbX
      go_wp2_with fail
      rw [HX.out]
      clear d0 d1 d2 d3 d4 zd
      refine ((HK _ (below_trans hV hb1X)).out).mono ?_
      rintro e w5 ⟨r2, rfl, hb5, ho5⟩
      have hI5 := ints_own ho5
      have hb15 := below_trans hb1X hb5
      go_wp2_with fail
      refine ((HP _ _ hI5).out).mono ?_
      rintro e w6 ⟨rv, rfl, hb6, hIv⟩
      have hb16 := below_trans hb15 hb6
      have HIV := Lib.hid hIv
      obtain ⟨va, vm, vc, rfl, hvm, _, _⟩ := hIv
      clear ho5 hI5
      have d0 := below_cell hb16 v0
      have d1 := below_cell hb16 v1
      have d2 := below_cell hb16 v2
      have d3 := below_cell hb16 v3
      have d4 := below_cell hb16 v4
      have zd := Nat.lt_of_lt_of_le zV (hb16).size
      go_wp2_with fail
      refine ((HC _ (below_trans hV hb16)).out).mono ?_
      rintro e w7 ⟨rfl, hb7⟩
      have hb17 := below_trans hb16 hb7
      have HIV7 := Lib.hid (HIV.out.below hb7)
      have HG7 : Hid (w7.heap[w4.heap.size]? = _) := Lib.hid (((below_trans hb5 (below_trans hb6 hb7)).block _ (blk_lt HG.out)).trans HG.out)
      have s0 := (blk_cell HG7.out 0).trans rfl
      have s1 := (blk_cell HG7.out 1).trans rfl
      have s2 := (blk_cell HG7.out 2).trans rfl
      simp only [List.getElem?_toArray, List.getElem?_cons_zero, List.getElem?_cons_succ] at s0 s1 s2
      have zs := blk_lt HG7.out
      clear d0 d1 d2 d3 d4 zd HK HA HP HC hA hF HIV HG
      have d0 := below_cell hb17 v0
      have d1 := below_cell hb17 v1
      have d2 := below_cell hb17 v2
      have d3 := below_cell hb17 v3
      have d4 := below_cell hb17 v4
      have zd := Nat.lt_of_lt_of_le zV (hb17).size
      obtain rfl : vm = 0 := by simpa using hvm.symm
      clear hvm
      go_wp2
      go_ret
      exact ⟨ret_bool (by simp), below_trans hV hb17⟩
  · rw [show decide (m ≤ 30) = false from decide_eq_false h30] at hF
    clear hn hnil
    unfold vJ at *
    go_enter Tryz.func8, Tryz.ntmps8
    go_wp2_with fail
    rw [HV.out]
    refine (hA.out).mono ?_
    rintro e w1 ⟨rfl, hb1⟩
    have d0 := below_cell hb1 v0
    have d1 := below_cell hb1 v1
    have d2 := below_cell hb1 v2
    have d3 := below_cell hb1 v3
    have d4 := below_cell hb1 v4
    have zd := Nat.lt_of_lt_of_le zV (hb1).size
    go_wp2_with fail
    refine ((hF _).out).mono ?_
    rintro e w2 ⟨rfl, hb2⟩
    go_wp2
    go_ret
    exact ⟨rfl, below_trans hV (below_trans hb1 hb2)⟩
end Go.Proofs.YtjglkglaogaenaaGreatDoor
