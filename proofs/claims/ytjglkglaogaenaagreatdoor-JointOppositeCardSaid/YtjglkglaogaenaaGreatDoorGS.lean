/- texts of mine, merged: D7, D5, D6. -/
import Derived.Test.YtjglkglaogaenaaGreatDoorGQ
import Derived.Test.YtjglkglaogaenaaGreatDoorGP
import Derived.Test.YtjglkglaogaenaaGreatDoorGO
import Derived.Test.YtjglkglaogaenaaGreatDoorGR
/- The reference of joints: Right at scarf. -/
namespace Go.Proofs.YtjglkglaogaenaaGreatDoor
section
open Go.RowKit Go.Shelf
attribute [local go_sem] Ext.cell Ext.frozen
set_option maxRecDepth 100000 in
set_option maxHeartbeats 4000000 in
theorem rRight_6 (l w t : Int) (nv : Value) (n : List Int) (W : World) (hn : Ints W nv n) (hl : n.length = 3) (hb : ∀ x ∈ n, -1000000 ≤ x ∧ x ≤ 1000000) (hT : -1000000 ≤ t ∧ t ≤ 1000000) :
    Calls Tryz.prog 58 #[vJ 6 l w t nv] W (Ret W (.bool (scarfB l t n))) := by
  unfold vJ
  obtain ⟨b, off, c, rfl, hc, zb, hi⟩ := hn.at' (by omega)
  have c0 := hi 0 (by omega)
  have c1 := hi 1 (by omega)
  have c2 := hi 2 (by omega)
  rw [Nat.add_zero] at c0
  have bx : -1000000 ≤ n.getD 0 0 ∧ n.getD 0 0 ≤ 1000000 := by rw [← getDI n 0 (by omega)]; exact hb _ (List.getElem_mem _)
  rw [hl]
  have HR : Hid (scarfB l t n = (decide (1 ≤ n.getD 1 0 ∧ n.getD 1 0 ≤ 8) && decide (-8 ≤ n.getD 2 0 ∧ n.getD 2 0 ≤ 8) && decide (n.getD 2 0 ≠ 0) && ((n.getD 2 0 * t).tmod (n.getD 1 0) == 0) && withinB 0 l [n.getD 0 0, n.getD 0 0 + (n.getD 2 0 * t).tdiv (n.getD 1 0)])) := Lib.hid rfl
  generalize scarfB l t n = res at *
  generalize n.getD 0 0 = x at *
  generalize n.getD 1 0 = p at *
  generalize n.getD 2 0 = q at *
  clear hi hn hl hb
  have h1 := fun W' => Lib.hid (bwithin_any p 1 8 W')
  have h2 := fun W' => Lib.hid (bwithin_any q (-8) 8 W')
  by_cases hp : 1 ≤ p ∧ p ≤ 8
  · rw [show decide (1 ≤ p ∧ p ≤ 8) = true from decide_eq_true hp] at h1 HR
    by_cases hq : -8 ≤ q ∧ q ≤ 8
    · rw [show decide (-8 ≤ q ∧ q ≤ 8) = true from decide_eq_true hq] at h2 HR
      by_cases h0 : q = 0
      · have Hf : Hid (res = false) := Lib.hid (by rw [HR.out]; simp [h0])
        subst h0
        go_enter Tryz.func58, Tryz.ntmps58
        go_wp2
        refine wp_region_quietB (by kernel_rfl) (by kernel_rfl) ?_
        repeat (first | go_big_quiet_step (fail) | quiet_step (fail))
        refine wpQuiet_nil ?_
        rintro _ ⟨u, rfl⟩
        have hbu : Below W.heap.size W u.val := by (repeat (first | exact brf | assumption | refine ble ?_ | refine blx ?_ | refine bla ?_ | refine bls ?_ | refine bld ?_))
        have zbu := Nat.lt_of_lt_of_le zb hbu.size
        have cu0 := below_cell hbu c0
        have cu1 := below_cell hbu c1
        have cu2 := below_cell hbu c2
        clear c0 c1 c2 zb
        go_wp2
        refine wp_region_quietB (by kernel_rfl) (by kernel_rfl) ?_
        repeat (first | go_big_quiet_step (fail) | quiet_step (fail))
        refine wpQuiet_nil ?_
        rintro _ ⟨u, rfl⟩
        have hbv : Below W.heap.size W u.val := by (repeat (first | exact brf | assumption | refine ble ?_ | refine blx ?_ | refine bla ?_ | refine bls ?_ | refine bld ?_))
        have zbv := Nat.lt_of_lt_of_le zbu u.below.size
        have cv0 := below_cell u.below cu0
        clear cu0 cu1 cu2
        go_wp2_with fail
        refine ((h1 _).out).mono ?_
        rintro e w1 ⟨rfl, rfl⟩
        clear h1
        go_wp2_with fail
        refine ((h2 _).out).mono ?_
        rintro e w2 ⟨rfl, rfl⟩
        go_wp2
        go_ret
        exact ⟨ret_bool Hf.out.symm, hbv⟩
      · have hqn : (q == 0) = false := by simpa using h0
        have bs := mul_bd hq.1 hq.2 hT.1 hT.2
        have hws : wrap64 (q * t) = q * t := by unfold wrap64; omega
        have hwi : IntKind.i64.wrap (q * t) = q * t := IntWalk.i64_in _ (by omega)
        obtain ⟨s, Hs⟩ : ∃ s, Hid (q * t = s) := ⟨_, Lib.hid rfl⟩
        rw [Hs.out] at bs HR
        have hws2 : wrap64 (q * t) = s := hws.trans Hs.out
        have hwi2 : IntKind.i64.wrap (q * t) = s := hwi.trans Hs.out
        clear hws hwi
        have h3 := fun W' => Lib.hid (Mod_any s p W' (by omega))
        have bd := tdiv_bd' s p 8000000 (by omega)
        have HR2 : Hid (res = ((s.tmod p == 0) && withinB 0 l [x, x + s.tdiv p])) := Lib.hid (by rw [HR.out]; simp [h0])
        have hp0 : (p == 0) = false := by simp; omega
        have hpn : ¬ p = 0 := by omega
        have hdd : s % p = 0 ↔ s.tmod p = 0 := ⟨fun h => by rw [Int.tmod_eq_zero_of_dvd (Int.dvd_of_emod_eq_zero h)], fun h => Int.emod_eq_zero_of_dvd (Int.dvd_of_tmod_eq_zero h)⟩
        by_cases hd : s % p = 0
        · have Hf : Hid (res = (decide (0 ≤ x ∧ x ≤ l) && decide (0 ≤ x + s.tdiv p ∧ x + s.tdiv p ≤ l))) := Lib.hid (by
            rw [HR2.out, hdd.1 hd]
            have : withinB 0 l [x, x + s.tdiv p] = (decide (0 ≤ x ∧ x ≤ l) && decide (0 ≤ x + s.tdiv p ∧ x + s.tdiv p ≤ l)) := by
              rw [Bool.eq_iff_iff, withinB_iff]; simp
            rw [this]; rfl)
          rw [hd] at h3
          clear hd hdd
          have h4 := fun W' => Lib.hid (bwithin_any x 0 l W')
          have h5 := fun W' => Lib.hid (bwithin_any (x + s.tdiv p) 0 l W')
          have hwt : IntKind.i64.wrap (s.tdiv p) = s.tdiv p := IntWalk.i64_in _ (by omega)
          have hwu : IntKind.i64.wrap (x + s.tdiv p) = x + s.tdiv p := IntWalk.i64_in _ (by omega)
          generalize decide (0 ≤ x + s.tdiv p ∧ x + s.tdiv p ≤ l) = r2 at *
          generalize decide (0 ≤ x ∧ x ≤ l) = r1 at *
          go_enter Tryz.func58, Tryz.ntmps58
          go_wp2
          refine wp_region_quietB (by kernel_rfl) (by kernel_rfl) ?_
          repeat (first | go_big_quiet_step (fail) | quiet_step (fail))
          refine wpQuiet_nil ?_
          rintro _ ⟨u, rfl⟩
          have hbu : Below W.heap.size W u.val := by (repeat (first | exact brf | assumption | refine ble ?_ | refine blx ?_ | refine bla ?_ | refine bls ?_ | refine bld ?_))
          have zbu := Nat.lt_of_lt_of_le zb hbu.size
          have cu0 := below_cell hbu c0
          have cu1 := below_cell hbu c1
          have cu2 := below_cell hbu c2
          clear c0 c1 c2 zb
          go_wp2
          refine wp_region_quietB (by kernel_rfl) (by kernel_rfl) ?_
          repeat (first | go_big_quiet_step (fail) | quiet_step (fail))
          refine wpQuiet_nil ?_
          rintro _ ⟨u, rfl⟩
          have hbv : Below W.heap.size W u.val := by (repeat (first | exact brf | assumption | refine ble ?_ | refine blx ?_ | refine bla ?_ | refine bls ?_ | refine bld ?_))
          have zbv := Nat.lt_of_lt_of_le zbu u.below.size
          have cv0 := below_cell u.below cu0
          clear cu0 cu1 cu2
          go_wp2_with fail
          refine ((h1 _).out).mono ?_
          rintro e w1 ⟨rfl, rfl⟩
          clear h1
          go_wp2_with fail
          refine ((h2 _).out).mono ?_
          rintro e w2 ⟨rfl, rfl⟩
          go_wp2_with fail
          refine ((h3 _).out).mono ?_
          rintro e w3 ⟨rfl, rfl⟩
          go_wp2
          obtain ⟨r3, Hr3⟩ : ∃ r3, Hid ((r1 && r2) = r3) := ⟨_, Lib.hid rfl⟩
          refine wp_region_grow [0, 1, 2, 3, 4, 5, 6, 7, 8, 9, 10, 11, 12, 13, 14, 15, 16, 17] 18 [] (pick [IsV (.slice (some ⟨b, off, none⟩) 3 c), IsV (.pointer (some ⟨b, off, none⟩)), IsV (.int .i64 x), IsV (.int .i64 l), IsV (.bool r1), IsV (.bool r1), Gd r1 (IsV (.slice (some ⟨b, off, none⟩) 3 c)), Gd r1 (IsV (.pointer (some ⟨b, off, none⟩))), Gd r1 (IsV (.int .i64 x)), Gd r1 (IsV (.int .i64 q)), Gd r1 (IsV (.int .i64 t)), Gd r1 (IsV (.int .i64 s)), Gd r1 (IsV (.int .i64 p)), Gd r1 (IsV (.int .i64 (s.tdiv p))), Gd r1 (IsV (.int .i64 (x + s.tdiv p))), Gd r1 (IsV (.int .i64 l)), Gd r1 (IsV (.bool r2)), IsV (.bool r3)]) (by kernel_rfl) (by kernel_rfl) (Stabs.pick (by repeat (first | exact Stabs.nil | refine Stabs.cons (by first | exact stab_v _ | exact stab_l _ | exact stab_gd (by first | exact stab_v _ | exact stab_l _)) ?_))) ?_
          try go_frame
          refine wgs rfl rfl (by simp) (fun w' hb' hR K hK => ?_) (fun o0 => ?_)
          · clear hR
            go_simp
            exact hK _ _ (Below.refl _ _) rfl
          try go_frame
          refine wgs rfl rfl (by simp) (fun w' hb' hR K hK => ?_) (fun o1 => ?_)
          · obtain rfl : o0 = .slice (some ⟨b, off, none⟩) 3 c := hR 0 (by kernel_rfl)
            clear hR
            go_simp
            exact hK _ _ (Below.refl _ _) rfl
          try go_frame
          refine wgs rfl rfl (by simp) (fun w' hb' hR K hK => ?_) (fun o2 => ?_)
          · obtain rfl : o1 = .pointer (some ⟨b, off, none⟩) := hR 1 (by kernel_rfl)
            clear hR
            have cc := below_cell hb' cv0
            have zz := World.block_lt_of_cell? w' _ cc
            simp only at zz
            go_simp
            exact hK _ _ (Below.refl _ _) rfl
          try go_frame
          refine wgs rfl rfl (by simp) (fun w' hb' hR K hK => ?_) (fun o3 => ?_)
          · clear hR
            go_simp
            exact hK _ _ (Below.refl _ _) rfl
          try go_frame
          refine wgs rfl rfl (by simp) (fun w' hb' hR K hK => ?_) (fun o4 => ?_)
          · obtain rfl : o2 = .int .i64 x := hR 2 (by kernel_rfl)
            obtain rfl : o3 = .int .i64 l := hR 3 (by kernel_rfl)
            clear hR
            go_simp
            refine ((h4 _).out).mono ?_
            rintro e w9 ⟨rfl, rfl⟩
            exact hK _ _ (Below.refl _ _) rfl
          try go_frame
          refine wgs rfl rfl (by simp) (fun w' hb' hR K hK => ?_) (fun o5 => ?_)
          · obtain rfl : o4 = .bool r1 := hR 4 (by kernel_rfl)
            clear hR
            go_simp
            exact hK _ _ (Below.refl _ _) rfl
          try go_frame
          refine wgg rfl rfl (by simp) (fun w' hb' hR K hK => ?_) (fun o6 => ?_)
          · obtain rfl : o5 = .bool r1 := hR 5 (by kernel_rfl)
            clear hR
            cases r1
            · exact ifn rfl
            · refine ifp ?_
              go_simp
              exact hK _ _ (Below.refl _ _) rfl
          try go_frame
          refine wgg rfl rfl (by simp) (fun w' hb' hR K hK => ?_) (fun o7 => ?_)
          · obtain rfl : o5 = .bool r1 := hR 5 (by kernel_rfl)
            have h6 : (Gd r1 (IsV (.slice (some ⟨b, off, none⟩) 3 c))) o6 w' := hR 6 (by kernel_rfl)
            clear hR
            cases r1
            · exact ifn rfl
            · refine ifp ?_
              obtain rfl : o6 = .slice (some ⟨b, off, none⟩) 3 c := h6
              go_simp
              exact hK _ _ (Below.refl _ _) rfl
          try go_frame
          refine wgg rfl rfl (by simp) (fun w' hb' hR K hK => ?_) (fun o8 => ?_)
          · obtain rfl : o5 = .bool r1 := hR 5 (by kernel_rfl)
            have h7 : (Gd r1 (IsV (.pointer (some ⟨b, off, none⟩)))) o7 w' := hR 7 (by kernel_rfl)
            clear hR
            cases r1
            · exact ifn rfl
            · refine ifp ?_
              obtain rfl : o7 = .pointer (some ⟨b, off, none⟩) := h7
              have cc := below_cell hb' cv0
              have zz := World.block_lt_of_cell? w' _ cc
              simp only at zz
              go_simp
              exact hK _ _ (Below.refl _ _) rfl
          try go_frame
          refine wgg rfl rfl (by simp) (fun w' hb' hR K hK => ?_) (fun o9 => ?_)
          · obtain rfl : o5 = .bool r1 := hR 5 (by kernel_rfl)
            clear hR
            cases r1
            · exact ifn rfl
            · refine ifp ?_
              go_simp
              exact hK _ _ (Below.refl _ _) rfl
          try go_frame
          refine wgg rfl rfl (by simp) (fun w' hb' hR K hK => ?_) (fun o10 => ?_)
          · obtain rfl : o5 = .bool r1 := hR 5 (by kernel_rfl)
            clear hR
            cases r1
            · exact ifn rfl
            · refine ifp ?_
              go_simp
              exact hK _ _ (Below.refl _ _) rfl
          try go_frame
          refine wgg rfl rfl (by simp) (fun w' hb' hR K hK => ?_) (fun o11 => ?_)
          · obtain rfl : o5 = .bool r1 := hR 5 (by kernel_rfl)
            have h9 : (Gd r1 (IsV (.int .i64 q))) o9 w' := hR 9 (by kernel_rfl)
            have h10 : (Gd r1 (IsV (.int .i64 t))) o10 w' := hR 10 (by kernel_rfl)
            clear hR
            cases r1
            · exact ifn rfl
            · refine ifp ?_
              obtain rfl : o9 = .int .i64 q := h9
              obtain rfl : o10 = .int .i64 t := h10
              go_simp
              exact hK _ _ (Below.refl _ _) rfl
          try go_frame
          refine wgg rfl rfl (by simp) (fun w' hb' hR K hK => ?_) (fun o12 => ?_)
          · obtain rfl : o5 = .bool r1 := hR 5 (by kernel_rfl)
            clear hR
            cases r1
            · exact ifn rfl
            · refine ifp ?_
              go_simp
              exact hK _ _ (Below.refl _ _) rfl
          try go_frame
          refine wgg rfl rfl (by simp) (fun w' hb' hR K hK => ?_) (fun o13 => ?_)
          · obtain rfl : o5 = .bool r1 := hR 5 (by kernel_rfl)
            have h11 : (Gd r1 (IsV (.int .i64 s))) o11 w' := hR 11 (by kernel_rfl)
            have h12 : (Gd r1 (IsV (.int .i64 p))) o12 w' := hR 12 (by kernel_rfl)
            clear hR
            cases r1
            · exact ifn rfl
            · refine ifp ?_
              obtain rfl : o11 = .int .i64 s := h11
              obtain rfl : o12 = .int .i64 p := h12
              go_simp
              exact hK _ _ (Below.refl _ _) rfl
          try go_frame
          refine wgg rfl rfl (by simp) (fun w' hb' hR K hK => ?_) (fun o14 => ?_)
          · obtain rfl : o5 = .bool r1 := hR 5 (by kernel_rfl)
            have h8 : (Gd r1 (IsV (.int .i64 x))) o8 w' := hR 8 (by kernel_rfl)
            have h13 : (Gd r1 (IsV (.int .i64 (s.tdiv p)))) o13 w' := hR 13 (by kernel_rfl)
            clear hR
            cases r1
            · exact ifn rfl
            · refine ifp ?_
              obtain rfl : o8 = .int .i64 x := h8
              obtain rfl : o13 = .int .i64 (s.tdiv p) := h13
              go_simp
              exact hK _ _ (Below.refl _ _) rfl
          try go_frame
          refine wgg rfl rfl (by simp) (fun w' hb' hR K hK => ?_) (fun o15 => ?_)
          · obtain rfl : o5 = .bool r1 := hR 5 (by kernel_rfl)
            clear hR
            cases r1
            · exact ifn rfl
            · refine ifp ?_
              go_simp
              exact hK _ _ (Below.refl _ _) rfl
          try go_frame
          refine wgg rfl rfl (by simp) (fun w' hb' hR K hK => ?_) (fun o16 => ?_)
          · obtain rfl : o5 = .bool r1 := hR 5 (by kernel_rfl)
            have h14 : (Gd r1 (IsV (.int .i64 (x + s.tdiv p)))) o14 w' := hR 14 (by kernel_rfl)
            have h15 : (Gd r1 (IsV (.int .i64 l))) o15 w' := hR 15 (by kernel_rfl)
            clear hR
            cases r1
            · exact ifn rfl
            · refine ifp ?_
              obtain rfl : o14 = .int .i64 (x + s.tdiv p) := h14
              obtain rfl : o15 = .int .i64 l := h15
              go_simp
              refine ((h5 _).out).mono ?_
              rintro e w9 ⟨rfl, rfl⟩
              exact hK _ _ (Below.refl _ _) rfl
          try go_frame
          refine wgs rfl rfl (by simp) (fun w' hb' hR K hK => ?_) (fun o17 => ?_)
          · obtain rfl : o5 = .bool r1 := hR 5 (by kernel_rfl)
            have h16 : (Gd r1 (IsV (.bool r2))) o16 w' := hR 16 (by kernel_rfl)
            clear hR
            cases r1
            · obtain rfl : o16 = undef := h16
              go_simp
              exact hK _ _ (Below.refl _ _) (by show _ = _; rw [← Hr3.out]; simp)
            · obtain rfl : o16 = .bool r2 := h16
              go_simp
              exact hK _ _ (Below.refl _ _) (by show _ = _; rw [← Hr3.out]; simp)
          try go_frame
          refine wpG_nil (fun w' hb' hR => ?_)
          obtain rfl : o17 = .bool r3 := hR 17 (by simp)
          clear hR
          simp only [opsAt, List.filterMap_cons, List.filterMap_nil, List.getElem?_toArray, List.getElem?_cons_zero, List.getElem?_cons_succ]
          go_wp2
          refine NoPanic.normal ?_
          go_wp2
          go_ret
          exact ⟨ret_bool (by rw [Hf.out, Hr3.out]), below_trans hbv hb'⟩
        · have Hf : Hid (res = false) := Lib.hid (by rw [HR2.out, show (s.tmod p == 0) = false by simpa using fun h => hd (hdd.2 h)]; rfl)
          generalize s % p = r at *
          have hrn : (r != 0) = true := by simpa using hd
          clear hd hdd
          go_enter Tryz.func58, Tryz.ntmps58
          go_wp2
          refine wp_region_quietB (by kernel_rfl) (by kernel_rfl) ?_
          repeat (first | go_big_quiet_step (fail) | quiet_step (fail))
          refine wpQuiet_nil ?_
          rintro _ ⟨u, rfl⟩
          have hbu : Below W.heap.size W u.val := by (repeat (first | exact brf | assumption | refine ble ?_ | refine blx ?_ | refine bla ?_ | refine bls ?_ | refine bld ?_))
          have zbu := Nat.lt_of_lt_of_le zb hbu.size
          have cu0 := below_cell hbu c0
          have cu1 := below_cell hbu c1
          have cu2 := below_cell hbu c2
          clear c0 c1 c2 zb
          go_wp2
          refine wp_region_quietB (by kernel_rfl) (by kernel_rfl) ?_
          repeat (first | go_big_quiet_step (fail) | quiet_step (fail))
          refine wpQuiet_nil ?_
          rintro _ ⟨u, rfl⟩
          have hbv : Below W.heap.size W u.val := by (repeat (first | exact brf | assumption | refine ble ?_ | refine blx ?_ | refine bla ?_ | refine bls ?_ | refine bld ?_))
          have zbv := Nat.lt_of_lt_of_le zbu u.below.size
          have cv0 := below_cell u.below cu0
          clear cu0 cu1 cu2
          go_wp2_with fail
          refine ((h1 _).out).mono ?_
          rintro e w1 ⟨rfl, rfl⟩
          clear h1
          go_wp2_with fail
          refine ((h2 _).out).mono ?_
          rintro e w2 ⟨rfl, rfl⟩
          go_wp2_with fail
          refine ((h3 _).out).mono ?_
          rintro e w3 ⟨rfl, rfl⟩
          go_wp2
          go_ret
          exact ⟨ret_bool Hf.out.symm, hbv⟩
    · rw [show decide (-8 ≤ q ∧ q ≤ 8) = false from decide_eq_false hq] at h2 HR
      have Hf : Hid (res = false) := Lib.hid (by rw [HR.out]; simp)
      go_enter Tryz.func58, Tryz.ntmps58
      go_wp2
      refine wp_region_quietB (by kernel_rfl) (by kernel_rfl) ?_
      repeat (first | go_big_quiet_step (fail) | quiet_step (fail))
      refine wpQuiet_nil ?_
      rintro _ ⟨u, rfl⟩
      have hbu : Below W.heap.size W u.val := by (repeat (first | exact brf | assumption | refine ble ?_ | refine blx ?_ | refine bla ?_ | refine bls ?_ | refine bld ?_))
      have zbu := Nat.lt_of_lt_of_le zb hbu.size
      have cu0 := below_cell hbu c0
      have cu1 := below_cell hbu c1
      have cu2 := below_cell hbu c2
      clear c0 c1 c2 zb
      go_wp2
      refine wp_region_quietB (by kernel_rfl) (by kernel_rfl) ?_
      repeat (first | go_big_quiet_step (fail) | quiet_step (fail))
      refine wpQuiet_nil ?_
      rintro _ ⟨u, rfl⟩
      have hbv : Below W.heap.size W u.val := by (repeat (first | exact brf | assumption | refine ble ?_ | refine blx ?_ | refine bla ?_ | refine bls ?_ | refine bld ?_))
      have zbv := Nat.lt_of_lt_of_le zbu u.below.size
      have cv0 := below_cell u.below cu0
      clear cu0 cu1 cu2
      go_wp2_with fail
      refine ((h1 _).out).mono ?_
      rintro e w1 ⟨rfl, rfl⟩
      clear h1
      go_wp2_with fail
      refine ((h2 _).out).mono ?_
      rintro e w2 ⟨rfl, rfl⟩
      go_wp2
      go_ret
      exact ⟨ret_bool Hf.out.symm, hbv⟩
  · rw [show decide (1 ≤ p ∧ p ≤ 8) = false from decide_eq_false hp] at h1 HR
    have Hf : Hid (res = false) := Lib.hid (by rw [HR.out]; simp)
    go_enter Tryz.func58, Tryz.ntmps58
    go_wp2
    refine wp_region_quietB (by kernel_rfl) (by kernel_rfl) ?_
    repeat (first | go_big_quiet_step (fail) | quiet_step (fail))
    refine wpQuiet_nil ?_
    rintro _ ⟨u, rfl⟩
    have hbu : Below W.heap.size W u.val := by (repeat (first | exact brf | assumption | refine ble ?_ | refine blx ?_ | refine bla ?_ | refine bls ?_ | refine bld ?_))
    have zbu := Nat.lt_of_lt_of_le zb hbu.size
    have cu0 := below_cell hbu c0
    have cu1 := below_cell hbu c1
    have cu2 := below_cell hbu c2
    clear c0 c1 c2 zb
    go_wp2
    refine wp_region_quietB (by kernel_rfl) (by kernel_rfl) ?_
    repeat (first | go_big_quiet_step (fail) | quiet_step (fail))
    refine wpQuiet_nil ?_
    rintro _ ⟨u, rfl⟩
    have hbv : Below W.heap.size W u.val := by (repeat (first | exact brf | assumption | refine ble ?_ | refine blx ?_ | refine bla ?_ | refine bls ?_ | refine bld ?_))
    have zbv := Nat.lt_of_lt_of_le zbu u.below.size
    have cv0 := below_cell u.below cu0
    clear cu0 cu1 cu2
    go_wp2_with fail
    refine ((h1 _).out).mono ?_
    rintro e w1 ⟨rfl, rfl⟩
    clear h1
    go_wp2
    go_ret
    exact ⟨ret_bool Hf.out.symm, hbv⟩
end
/- The reference of joints: Right at every kind, Check, Loose. -/
section
open Go.RowKit Go.Shelf
attribute [local go_sem] Ext.cell Ext.frozen
set_option maxRecDepth 100000 in
set_option maxHeartbeats 2000000 in
theorem rRight_5 (l w t : Int) (nv : Value) (n : List Int) (W : World) (hn : Ints W nv n) (hl : 3 ≤ n.length) (hm : n.length ≤ 1000000) (hb : ∀ x ∈ n, -1000000 ≤ x ∧ x ≤ 1000000) (hL : 1 ≤ l ∧ l ≤ 1000000) :
    Calls Tryz.prog 58 #[vJ 5 l w t nv] W (Ret W (.bool (tailsB l w n))) := by
  have hr := fun W' h => Lib.hid (rrightTails_any l w t nv n W' (hn.below (w' := W') h) hl hm hb hL)
  generalize tailsB l w n = r at *
  unfold vJ at *
  obtain ⟨b, off, c, rfl, hc, zb, hi⟩ := hn.at' (by omega)
  generalize n.length = q at *
  clear hn hi hb hm
  go_enter Tryz.func58, Tryz.ntmps58
  go_wp2
  refine wp_region_quietB (by kernel_rfl) (by kernel_rfl) ?_
  repeat (first | go_big_quiet_step (fail) | quiet_step (fail))
  refine wpQuiet_nil ?_
  rintro _ ⟨u, rfl⟩
  go_wp2_with fail
  refine ((hr _ (by (repeat (first | exact brf | assumption | refine ble ?_ | refine blx ?_ | refine bla ?_ | refine bls ?_ | refine bld ?_)))).out).mono ?_
  rintro e w1 ⟨rfl, hb1⟩
  go_wp2
  go_ret
  exact ⟨rfl, below_trans (by (repeat (first | exact brf | assumption | refine ble ?_ | refine blx ?_ | refine bla ?_ | refine bls ?_ | refine bld ?_))) hb1⟩
set_option maxRecDepth 100000 in
set_option maxHeartbeats 2000000 in
theorem rRight_8 (l w t : Int) (nv : Value) (n : List Int) (W : World) (m : Nat) (hn : Ints W nv n) (hm : n.length = 6 + 2 * m) (h1 : 1 ≤ m) (hl : m ≤ 1000) (hb : ∀ x ∈ n, -1000000 ≤ x ∧ x ≤ 1000000) (hL : -1000000 ≤ l ∧ l ≤ 1000000) (hT : -1000000 ≤ t ∧ t ≤ 1000000) :
    Calls Tryz.prog 58 #[vJ 8 l w t nv] W (Ret W (.bool (dowelsB l w t n))) := by
  have hr := fun W' h => Lib.hid (rrightDowels_any l w t nv n W' m (hn.below (w' := W') h) hm h1 hl hb hL hT)
  generalize dowelsB l w t n = r at *
  unfold vJ at *
  obtain ⟨b, off, c, rfl, hc, zb, hi⟩ := hn.at' (by omega)
  generalize n.length = q at *
  clear hn hi hb hm
  go_enter Tryz.func58, Tryz.ntmps58
  go_wp2
  refine wp_region_quietB (by kernel_rfl) (by kernel_rfl) ?_
  repeat (first | go_big_quiet_step (fail) | quiet_step (fail))
  refine wpQuiet_nil ?_
  rintro _ ⟨u, rfl⟩
  go_wp2_with fail
  refine ((hr _ (by (repeat (first | exact brf | assumption | refine ble ?_ | refine blx ?_ | refine bla ?_ | refine bls ?_ | refine bld ?_)))).out).mono ?_
  rintro e w1 ⟨rfl, hb1⟩
  go_wp2
  go_ret
  exact ⟨rfl, below_trans (by (repeat (first | exact brf | assumption | refine ble ?_ | refine blx ?_ | refine bla ?_ | refine bls ?_ | refine bld ?_))) hb1⟩
theorem rise_ends (n : List Int) (w : Int) (h : 1 ≤ n.length) : risingB ([0] ++ n ++ [w]) = (decide (0 < n.getD 0 0) && risingB n && decide (n.getD (n.length - 1) 0 < w)) := by
  have key : ∀ (n : List Int), 1 ≤ n.length → risingB (n ++ [w]) = (risingB n && decide (n.getD (n.length - 1) 0 < w)) := by
    intro n
    induction n with
    | nil => intro h; simp at h
    | cons x n ih =>
      intro _
      cases n with
      | nil => simp [risingB]
      | cons y n =>
        have := ih (by simp)
        simp only [List.cons_append, risingB] at this ⊢
        rw [this, Bool.and_assoc]
        congr 2
  cases n with
  | nil => simp at h
  | cons x n =>
    have := key (x :: n) (by simp)
    simp only [List.cons_append, List.nil_append, risingB] at this ⊢
    rw [this, Bool.and_assoc]
    rfl
set_option maxRecDepth 100000 in
set_option maxHeartbeats 4000000 in
theorem rRight_7 (l w t : Int) (nv : Value) (n : List Int) (W : World) (hn : Ints W nv n) (h1 : 1 ≤ n.length) (hl : n.length ≤ 1000) :
    Calls Tryz.prog 58 #[vJ 7 l w t nv] W (Ret W (.bool (risingB ([0] ++ n ++ [w])))) := by
  rw [rise_ends n w h1]
  have hr := fun W' h => Lib.hid (rrising_any nv n W' (hn.below (w' := W') h) (by omega))
  generalize risingB n = r at *
  unfold vJ
  obtain ⟨b, off, c, rfl, hc, zb, hi⟩ := hn.at' (by omega)
  have c0 := hi 0 (by omega)
  have cl := hi (n.length - 1) (by omega)
  rw [Nat.add_zero] at c0
  obtain ⟨q, Hq⟩ : ∃ q, Hid (n.length = q + 1) := ⟨n.length - 1, Lib.hid (by omega)⟩
  rw [show n.length - 1 = q by have := Hq.out; omega] at cl ⊢
  rw [Hq.out] at hr ⊢
  have hq9 : q ≤ 1000 := by have := Hq.out; omega
  generalize n.getD 0 0 = x at *
  generalize n.getD q 0 = y at *
  clear hn hi hc h1 hl
  have n0 : (0 : Int) < ((q + 1 : Nat) : Int) := by omega
  by_cases hx : 0 < x
  · have hxd : decide (0 < x) = true := decide_eq_true hx
    cases r
    · go_enter Tryz.func58, Tryz.ntmps58
      go_wp2
      refine wp_region_quietB (by kernel_rfl) (by kernel_rfl) ?_
      repeat (first | go_big_quiet_step (fail) | quiet_step (fail))
      refine wpQuiet_nil ?_
      rintro _ ⟨u, rfl⟩
      have hbu : Below W.heap.size W u.val := by (repeat (first | exact brf | assumption | refine ble ?_ | refine blx ?_ | refine bla ?_ | refine bls ?_ | refine bld ?_))
      have c0 := below_cell hbu c0
      have cl := below_cell hbu cl
      have zbu := Nat.lt_of_lt_of_le zb hbu.size
      go_wp2_with fail
      refine ((hr _ hbu).out).mono ?_
      rintro e w1 ⟨rfl, hb1⟩
      go_wp2
      go_ret
      exact ⟨ret_bool (by simp), below_trans hbu hb1⟩
    · go_enter Tryz.func58, Tryz.ntmps58
      go_wp2
      refine wp_region_quietB (by kernel_rfl) (by kernel_rfl) ?_
      repeat (first | go_big_quiet_step (fail) | quiet_step (fail))
      refine wpQuiet_nil ?_
      rintro _ ⟨u, rfl⟩
      have hbu : Below W.heap.size W u.val := by (repeat (first | exact brf | assumption | refine ble ?_ | refine blx ?_ | refine bla ?_ | refine bls ?_ | refine bld ?_))
      have c0 := below_cell hbu c0
      have cl := below_cell hbu cl
      have zbu := Nat.lt_of_lt_of_le zb hbu.size
      go_wp2_with fail
      refine ((hr _ hbu).out).mono ?_
      rintro e w1 ⟨rfl, hb1⟩
      have cl := below_cell hb1 cl
      have zb1 := Nat.lt_of_lt_of_le zbu hb1.size
      go_wp2
      go_ret
      exact ⟨ret_bool (by simp [hx]), below_trans hbu hb1⟩
  · have hxd : decide (0 < x) = false := decide_eq_false hx
    clear hr
    go_enter Tryz.func58, Tryz.ntmps58
    go_wp2
    refine wp_region_quietB (by kernel_rfl) (by kernel_rfl) ?_
    repeat (first | go_big_quiet_step (fail) | quiet_step (fail))
    refine wpQuiet_nil ?_
    rintro _ ⟨u, rfl⟩
    have hbu : Below W.heap.size W u.val := by (repeat (first | exact brf | assumption | refine ble ?_ | refine blx ?_ | refine bla ?_ | refine bls ?_ | refine bld ?_))
    have c0 := below_cell hbu c0
    have zbu := Nat.lt_of_lt_of_le zb hbu.size
    go_wp2
    go_ret
    exact ⟨ret_bool (by rw [decide_eq_false (by omega)]; simp), hbu⟩
theorem rRight_any (k l w t : Int) (nv : Value) (n : List Int) (W : World) (hk : 0 ≤ k ∧ k ≤ 10) (hn : Ints W nv n) (h24 : n.length ≤ 24) (hc : cntB k n.length = true)
    (hs : withinB 1 100000 [l, w, t] = true) (hw : withinB (-100000) 100000 n = true) :
    Calls Tryz.prog 58 #[vJ k l w t nv] W (Ret W (.bool (rightB k l w t n))) := by
  rw [withinB_iff] at hs hw
  have hL := hs l (by simp)
  have hW := hs w (by simp)
  have hT := hs t (by simp)
  have hb : ∀ x ∈ n, -1000000 ≤ x ∧ x ≤ 1000000 := fun x hx => by have := hw x hx; omega
  have hB : ∀ i, i < n.length → -1000000 ≤ n.getD i 0 ∧ n.getD i 0 ≤ 1000000 := fun i h => by rw [← getDI n i h]; exact hb _ (List.getElem_mem h)
  obtain ⟨a0, a1, a2, a3, a4, a5, a6, a7, a8, a9, a10⟩ := cnt_of hc hk
  rcases (by omega : k = 0 ∨ k = 1 ∨ k = 2 ∨ k = 3 ∨ k = 4 ∨ k = 5 ∨ k = 6 ∨ k = 7 ∨ k = 8 ∨ k = 9 ∨ k = 10) with rfl | rfl | rfl | rfl | rfl | rfl | rfl | rfl | rfl | rfl | rfl
  · exact rRight_0 l w t nv n W hn (a0 rfl)
  · exact rRight_1 l w t nv n W hn (a1 rfl)
  · exact rRight_2 l w t nv n W hn (a2 rfl)
  · exact rRight_3 l w t nv n W hn (a3 rfl) ⟨hB 0 (by have := a3 rfl; omega), hB 1 (by have := a3 rfl; omega)⟩
  · exact rRight_4 l w t nv n W hn (a4 rfl) ⟨hB 0 (by have := a4 rfl; omega), hB 1 (by have := a4 rfl; omega)⟩
  · exact rRight_5 l w t nv n W hn (a5 rfl) (by omega) hb (by omega)
  · exact rRight_6 l w t nv n W hn (a6 rfl) hb (by omega)
  · exact rRight_7 l w t nv n W hn (a7 rfl) (by omega)
  · have := a8 rfl
    exact rRight_8 l w t nv n W ((n.length - 6) / 2) hn (by omega) (by omega) (by omega) hb (by omega) (by omega)
  · exact rRight_9 l w t nv n W hn (a9 rfl) (by omega) hb
  · exact rRight_10 l w t nv n W hn (a10 rfl)
end
/- The reference of joints: Check, Loose; joint.Loose. -/
section
open Go.RowKit Go.Shelf
attribute [local go_sem] Ext.cell Ext.frozen
set_option maxRecDepth 100000 in
set_option maxHeartbeats 4000000 in
theorem rCheck_all (k l w t : Int) (nv : Value) (n : List Int) (W : World) (hn : Ints W nv n) (hm : n.length ≤ 1000000) :
    Calls Tryz.prog 16 #[vJ k l w t nv] W (Ret W (.int .i64 (chkE k l w t n))) := by
  have h1 := fun W' => Lib.hid (rCheckSize_any k l w t W')
  have HN := Lib.hid hn
  have HR : Hid (boxE k l w t = 0 → n.length ≤ 24 → cntB k n.length = true → withinB (-100000) 100000 n = true → ∀ W', Below W.heap.size W W' → Calls Tryz.prog 58 #[vJ k l w t nv] W' (Ret W' (.bool (rightB k l w t n)))) := Lib.hid (fun hbx h24 hc hw W' hb => by
    obtain ⟨hk, hwi⟩ : (0 ≤ k ∧ k ≤ 10) ∧ withinB 1 100000 [l, w, t] = true := by
      unfold boxE at hbx
      split at hbx
      · assumption
      · simp at hbx
    exact rRight_any k l w t nv n W' hk (hn.below hb) h24 hc hwi hw)
  have HE : Hid (chkE k l w t n = if boxE k l w t ≠ 0 then 2 else if 24 < n.length then 8 else if cntB k n.length = false then 10 else if withinB (-100000) 100000 n = false then 2 else if rightB k l w t n = false then 3 else 0) := Lib.hid rfl
  generalize rightB k l w t n = rb at *
  generalize chkE k l w t n = res at *
  unfold vJ at *
  obtain ⟨a, m, c, rfl, hlen, hc, hx⟩ := hn
  obtain ⟨V, HV⟩ : ∃ V, Hid (W.alloc (.cells #[.int .i64 k, .int .i64 l, .int .i64 w, .int .i64 t, .slice a m c] 25) = V) := ⟨_, Lib.hid rfl⟩
  have hV : Below W.heap.size W V := by rw [← HV.out]; (repeat (first | exact brf | assumption | refine ble ?_ | refine blx ?_ | refine bla ?_ | refine bls ?_ | refine bld ?_))
  have v0 : V.cell? ⟨W.heap.size, 0, none⟩ = some (.int .i64 k) := by rw [← HV.out]; exact (cell_new rfl 0).trans rfl
  have v1 : V.cell? ⟨W.heap.size, 1, none⟩ = some (.int .i64 l) := by rw [← HV.out]; exact (cell_new rfl 1).trans rfl
  have v2 : V.cell? ⟨W.heap.size, 2, none⟩ = some (.int .i64 w) := by rw [← HV.out]; exact (cell_new rfl 2).trans rfl
  have v3 : V.cell? ⟨W.heap.size, 3, none⟩ = some (.int .i64 t) := by rw [← HV.out]; exact (cell_new rfl 3).trans rfl
  have v4 : V.cell? ⟨W.heap.size, 4, none⟩ = some (.slice a m c) := by rw [← HV.out]; exact (cell_new rfl 4).trans rfl
  have zV := World.block_lt_of_cell? V _ v0
  simp only at zV
  have Hlen := Lib.hid hlen
  rw [hlen] at hm HE
  clear hlen hc
  by_cases hbx : boxE k l w t = 0
  · have HR1 := Lib.hid (HR.out hbx)
    rw [hbx] at h1 HE
    by_cases h24 : 24 < m
    · have He : Hid (res = 8) := Lib.hid (by rw [HE.out]; simp [h24])
      have m24 : (24 : Int) < (m : Int) := by omega
      clear hx HR HR1 HN
      go_enter Tryz.func16, Tryz.ntmps16
      go_wp2_with fail
      rw [HV.out]
      refine ((h1 _).out).mono ?_
      rintro e w1 ⟨rfl, hb1⟩
      have d0 := below_cell hb1 v0
      have d1 := below_cell hb1 v1
      have d2 := below_cell hb1 v2
      have d3 := below_cell hb1 v3
      have d4 := below_cell hb1 v4
      have z1 := Nat.lt_of_lt_of_le zV hb1.size
      go_wp2
      go_ret
      exact ⟨ret_int He.out.symm, below_trans hV hb1⟩
    · have hk : 0 ≤ k ∧ k ≤ 10 := by
        unfold boxE at hbx
        split at hbx
        · rename_i h; exact h.1
        · simp at hbx
      have h2 := fun W' => Lib.hid (rfits_any k m W' hk)
      have HR2 := Lib.hid (HR1.out (by have := Hlen.out; omega))
      rw [Hlen.out] at HR2
      clear HR HR1 hbx
      cases hcn : cntB k m with
      | false =>
        have He : Hid (res = 10) := Lib.hid (by rw [HE.out]; simp [h24, hcn])
        rw [hcn] at h2
        clear hcn HR2 hx HN
        go_enter Tryz.func16, Tryz.ntmps16
        go_wp2_with fail
        rw [HV.out]
        refine ((h1 _).out).mono ?_
        rintro e w1 ⟨rfl, hb1⟩
        have d0 := below_cell hb1 v0
        have d1 := below_cell hb1 v1
        have d2 := below_cell hb1 v2
        have d3 := below_cell hb1 v3
        have d4 := below_cell hb1 v4
        have z1 := Nat.lt_of_lt_of_le zV hb1.size
        go_wp2_with fail
        refine ((h2 _).out).mono ?_
        rintro e w2 ⟨rfl, hb2⟩
        go_wp2
        go_ret
        exact ⟨ret_int He.out.symm, below_trans hV (below_trans hb1 hb2)⟩
      | true =>
        have HR3 := Lib.hid (HR2.out hcn)
        rw [hcn] at h2 HE
        clear hcn HR2
        have Hbad : Hid (∀ i, i < n.length → ¬ (-100000 ≤ n.getD i 0 ∧ n.getD i 0 ≤ 100000) → res = 2) := Lib.hid (fun i hi hbad => by
          have : withinB (-100000) 100000 n = false := by
            rw [Bool.eq_false_iff]
            intro h
            rw [withinB_iff] at h
            refine hbad ?_
            rw [← getDI n i hi]
            exact h _ (List.getElem_mem hi)
          rw [HE.out]; simp [h24, this])
        have Hgood : Hid ((∀ i, i < n.length → -100000 ≤ n.getD i 0 ∧ n.getD i 0 ≤ 100000) → withinB (-100000) 100000 n = true) := Lib.hid (fun h => by
          rw [withinB_iff]
          intro x hx
          obtain ⟨i, hi, rfl⟩ := List.getElem_of_mem hx
          rw [getDI n i hi]
          exact h i hi)
        have hw := fun x W' => Lib.hid (bwithin_any x (-100000) 100000 W')
        go_enter Tryz.func16, Tryz.ntmps16
        go_wp2_with fail
        rw [HV.out]
        refine ((h1 _).out).mono ?_
        rintro e w1 ⟨rfl, hb1⟩
        have d0 := below_cell hb1 v0
        have d1 := below_cell hb1 v1
        have d2 := below_cell hb1 v2
        have d3 := below_cell hb1 v3
        have d4 := below_cell hb1 v4
        have z1 := Nat.lt_of_lt_of_le zV hb1.size
        go_wp2_with fail
        refine ((h2 _).out).mono ?_
        rintro e w2 ⟨rfl, hb2⟩
        have hb12 := below_trans hb1 hb2
        clear d0 d1 d2 d3 d4 z1 h1 h2 hb1 hb2
        go_wp2
        go_loopw [4] (fun i wr => ∃ j : Nat, j ≤ m ∧ i = .int .i64 j ∧ Below V.heap.size V wr ∧ Hid (∀ i, i < j → -100000 ≤ n.getD i 0 ∧ n.getD i 0 ≤ 100000)) (fun i _ => m - (intOf i).toNat)
        case atStart => exact ⟨0, by omega, rfl, hb12, Lib.hid (fun i h => by omega)⟩
        case round =>
          clear hb12
          obtain ⟨j, hj, rfl, hbj, HZ⟩ := hrel
          have d4 := below_cell hbj v4
          have zj := Nat.lt_of_lt_of_le zV hbj.size
          by_cases hlt : j < m
          · obtain ⟨b, off, rfl, hi⟩ := hx (by omega)
            have cj := below_cell hbj (below_cell hV (hi j (by have := Hlen.out; omega)))
            rw [getDI n j (by have := Hlen.out; omega)] at cj
            have zb := World.block_lt_of_cell? wr _ cj
            simp only at zb
            have hw' := hw (n.getD j 0)
            have HB := Lib.hid (Hbad.out j (by have := Hlen.out; omega))
            obtain ⟨x, Hx⟩ : ∃ x, Hid (n.getD j 0 = x) := ⟨_, Lib.hid rfl⟩
            rw [Hx.out] at cj hw' HB
            clear hi hx hw
            by_cases hxx : -100000 ≤ x ∧ x ≤ 100000
            · rw [show decide (-100000 ≤ x ∧ x ≤ 100000) = true from decide_eq_true hxx] at hw'
              go_wp2_with fail
              refine ((hw' _).out).mono ?_
              rintro e w3 ⟨rfl, rfl⟩
              go_wp2
              go_roundw
              case rel => exact ⟨j + 1, by omega, by go_num, hbj, Lib.hid (fun i hi => by
                by_cases e : i = j
                · subst e; rw [Hx.out]; exact hxx
                · exact HZ.out i (by omega))⟩
              case measure => simp [intOf]; omega
            · rw [show decide (-100000 ≤ x ∧ x ≤ 100000) = false from decide_eq_false hxx] at hw'
              have Hf := Lib.hid (HB.out hxx)
              go_wp2_with fail
              refine ((hw' _).out).mono ?_
              rintro e w3 ⟨rfl, rfl⟩
              go_wp2
              go_ret
              exact ⟨ret_int Hf.out.symm, below_trans hV hbj⟩
          · have hwt := Hgood.out (fun i hi => HZ.out i (by have := Hlen.out; omega))
            have HR4 := Lib.hid (HR3.out hwt wr (below_trans hV hbj))
            have He : Hid (res = if rb = false then 3 else 0) := Lib.hid (by rw [HE.out]; simp [h24, hwt])
            have d0 := below_cell hbj v0
            have d1 := below_cell hbj v1
            have d2 := below_cell hbj v2
            have d3 := below_cell hbj v3
            clear hwt hx hw HR3 HZ Hgood Hbad
            cases rb
            · go_wp2_with fail
              refine (HR4.out).mono ?_
              rintro e w3 ⟨rfl, hb3⟩
              go_wp2
              go_ret
              exact ⟨ret_int He.out.symm, below_trans hV (below_trans hbj hb3)⟩
            · go_wp2_with fail
              refine (HR4.out).mono ?_
              rintro e w3 ⟨rfl, hb3⟩
              go_wp2
              go_ret
              exact ⟨ret_int He.out.symm, below_trans hV (below_trans hbj hb3)⟩
  · have He : Hid (res = 2) := Lib.hid (by rw [HE.out]; simp [hbx])
    have : boxE k l w t = 2 := by unfold boxE at hbx ⊢; split at hbx <;> simp_all
    rw [this] at h1
    clear this hbx HR hx HN HE
    go_enter Tryz.func16, Tryz.ntmps16
    go_wp2_with fail
    rw [HV.out]
    refine ((h1 _).out).mono ?_
    rintro e w1 ⟨rfl, hb1⟩
    have d0 := below_cell hb1 v0
    have d1 := below_cell hb1 v1
    have d2 := below_cell hb1 v2
    have d3 := below_cell hb1 v3
    have d4 := below_cell hb1 v4
    have z1 := Nat.lt_of_lt_of_le zV hb1.size
    go_wp2
    go_ret
    exact ⟨ret_int He.out.symm, below_trans hV hb1⟩
set_option maxRecDepth 100000 in
set_option maxHeartbeats 1000000 in
theorem rLoose_any (k l w t : Int) (nv : Value) (n : List Int) (W : World) (hn : Ints W nv n) (hm : n.length ≤ 1000000) (h8 : k = 8 → 8 ≤ n.length ∧ n.length % 2 = 0) :
    Calls Tryz.prog 19 #[vJ k l w t nv] W (Ret W (.int .i64 (looseN k n))) := by
  unfold vJ
  obtain ⟨a, m, c, rfl, hlen, hc, hx⟩ := hn
  by_cases hk : k = 8
  · subst hk
    obtain ⟨h6, h2⟩ := h8 rfl
    rw [show looseN 8 n = (n.length - 6) / 2 from rfl, hlen]
    obtain ⟨q, rfl⟩ : ∃ q, m = 6 + 2 * q := ⟨(m - 6) / 2, by omega⟩
    rw [show (6 + 2 * q - 6) / 2 = q by omega]
    have hq9 : q ≤ 1000000 := by omega
    clear h8 hx hlen h6 h2 hc
    have e1 : (6 + 2 * (q : Int) - 6) = 2 * (q : Int) := by omega
    go_enter Tryz.func19, Tryz.ntmps19
    go_wp2
    go_ret
    exact ⟨ret_int (by omega), by (repeat (first | exact brf | assumption | refine ble ?_ | refine blx ?_ | refine bla ?_ | refine bls ?_ | refine bld ?_))⟩
  · have hk' : (k == 8) = false := by simpa using hk
    clear h8 hx
    by_cases h9 : k = 9
    · subst h9
      go_enter Tryz.func19, Tryz.ntmps19
      go_wp2
      go_ret
      exact ⟨rfl, by (repeat (first | exact brf | assumption | refine ble ?_ | refine blx ?_ | refine bla ?_ | refine bls ?_ | refine bld ?_))⟩
    · have h9' : (k == 9) = false := by simpa using h9
      go_enter Tryz.func19, Tryz.ntmps19
      go_wp2
      go_ret
      exact ⟨ret_int (by simp [looseN, hk, h9]), by (repeat (first | exact brf | assumption | refine ble ?_ | refine blx ?_ | refine bla ?_ | refine bls ?_ | refine bld ?_))⟩
/-- What a right joint is. -/
structure Good (k l w t : Int) (n : List Int) : Prop where
  kind : 0 ≤ k ∧ k ≤ 10
  size : withinB 1 100000 [l, w, t] = true
  len : n.length ≤ 24
  cnt : cntB k n.length = true
  rng : withinB (-100000) 100000 n = true
  right : rightB k l w t n = true
theorem good_of {k l w t : Int} {n : List Int} (h : chkE k l w t n = 0) : Good k l w t n := by
  unfold chkE checkE at h
  split at h
  · simp at h
  · rename_i h1
    split at h
    · simp at h
    · rename_i h2
      split at h
      · simp at h
      · rename_i h3
        split at h
        · simp at h
        · rename_i h4
          split at h
          · simp at h
          · rename_i h5
            have hb : boxE k l w t = 0 := by simpa using h1
            unfold boxE at hb
            split at hb
            · rename_i h6
              exact ⟨h6.1, h6.2, by omega, by simpa using h3, by simpa using h4, by simpa using h5⟩
            · simp at hb
theorem Good.h8 {k l w t : Int} {n : List Int} (h : Good k l w t n) (h8 : k = 8) : 8 ≤ n.length ∧ n.length % 2 = 0 := (cnt_of h.cnt h.kind).2.2.2.2.2.2.2.2.1 h8
set_option maxRecDepth 100000 in
set_option maxHeartbeats 1000000 in
theorem Loose_all (k l w t : Int) (nv : Value) (n : List Int) (W : World) (hn : Ints W nv n) (hm : n.length ≤ 1000000) :
    Calls Tryz.prog 22 #[vJ k l w t nv] W (Ret W (.tuple #[.int .i64 (if chkE k l w t n = 0 then (looseN k n : Int) else 0), .int .i64 (chkE k l w t n)])) := by
  have h1 := fun W' h => Lib.hid (Check_all k l w t nv n W' (hn.below (w' := W') h) hm)
  have h2 := fun W' h (h0 : chkE k l w t n = 0) => Lib.hid (loose_any k l w t nv n W' (hn.below (w' := W') h) hm (fun e => (good_of h0).h8 e))
  generalize chkE k l w t n = ce at *
  generalize looseN k n = ln at *
  unfold vJ at *
  obtain ⟨a, m, c, rfl, hlen, hc, hx⟩ := hn
  clear hlen hc hx hm
  by_cases h0 : ce = 0
  · have h2' := fun W' h => h2 W' h h0
    clear h2
    subst h0
    rw [if_pos rfl]
    go_enter Tryz.func22, Tryz.ntmps22
    go_wp2_with fail
    refine ((h1 _ (by (repeat (first | exact brf | assumption | refine ble ?_ | refine blx ?_ | refine bla ?_ | refine bls ?_ | refine bld ?_)))).out).mono ?_
    rintro e w1 ⟨rfl, hb1⟩
    have hw1 := below_trans (show Below W.heap.size W (W.alloc (.cells #[.int .i64 k, .int .i64 l, .int .i64 w, .int .i64 t, .slice a m c] 25)) by (repeat (first | exact brf | assumption | refine ble ?_ | refine blx ?_ | refine bla ?_ | refine bls ?_ | refine bld ?_))) hb1
    have c0 := below_cell hb1 ((cell_new rfl 0).trans rfl : _ = some (.int .i64 k))
    have c4 := below_cell hb1 ((cell_new rfl 4).trans rfl : _ = some (.slice a m c))
    have c1 := below_cell hb1 ((cell_new rfl 1).trans rfl : _ = some (.int .i64 l))
    have c2 := below_cell hb1 ((cell_new rfl 2).trans rfl : _ = some (.int .i64 w))
    have c3 := below_cell hb1 ((cell_new rfl 3).trans rfl : _ = some (.int .i64 t))
    go_wp2_with fail
    refine ((h2' _ hw1).out).mono ?_
    rintro e w2 ⟨rfl, hb2⟩
    go_wp2
    refine bodyPost_ret (v := .tuple #[.int .i64 (ln : Int), .int .i64 0]) (by simp [results, Tryz.results22, go_sem]) rfl ⟨rfl, ?_⟩
    exact below_trans hw1 hb2
  · rw [if_neg h0]
    have hne : (ce != 0) = true := by simpa using h0
    clear h2
    go_enter Tryz.func22, Tryz.ntmps22
    go_wp2_with fail
    refine ((h1 _ (by (repeat (first | exact brf | assumption | refine ble ?_ | refine blx ?_ | refine bla ?_ | refine bls ?_ | refine bld ?_)))).out).mono ?_
    rintro e w1 ⟨rfl, hb1⟩
    go_wp2
    refine bodyPost_ret (v := .tuple #[.int .i64 0, .int .i64 ce]) (by simp [results, Tryz.results22, go_sem]) rfl ⟨rfl, ?_⟩
    exact below_trans (by (repeat (first | exact brf | assumption | refine ble ?_ | refine blx ?_ | refine bla ?_ | refine bls ?_ | refine bld ?_))) hb1
end
end Go.Proofs.YtjglkglaogaenaaGreatDoor
