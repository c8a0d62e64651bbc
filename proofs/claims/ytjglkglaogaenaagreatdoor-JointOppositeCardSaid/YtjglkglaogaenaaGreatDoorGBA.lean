/- texts of mine, merged: H8, H9. -/
import Derived.Test.YtjglkglaogaenaaGreatDoorGAZ
import Derived.Test.YtjglkglaogaenaaGreatDoorGJ
/- The reference: IsTurn, CheckWay, a turn's image. -/
namespace Go.Proofs.YtjglkglaogaenaaGreatDoor
section
open Go.RowKit Go.Shelf
set_option linter.unusedSimpArgs false
attribute [local go_sem] Ext.cell Ext.frozen
theorem rIsTurn_any (n : Int) (w : World) : Calls Tryz.prog 42 #[.int .i64 n] w fun e w' => e = .returned (.bool (decide (0 ≤ n ∧ n ≤ 47))) ∧ w = w' := by
  have h := fun W' => Lib.hid (bwithin_any n 0 47 W')
  generalize decide (0 ≤ n ∧ n ≤ 47) = b at *
  go_enter Tryz.func42, Tryz.ntmps42
  go_wp2_with fail
  refine ((h _).out).mono ?_
  rintro e w1 ⟨rfl, rfl⟩
  go_wp2
  go_ret
  exact ⟨rfl, rfl⟩
def wayE (x y z : Int) : Int := if withinB (-1) 1 [x, y, z] = true then (if x = 0 ∧ y = 0 ∧ z = 0 then 11 else 0) else 2
set_option maxRecDepth 100000 in
set_option maxHeartbeats 1000000 in
theorem rCheckWay_any (x y z : Int) (W : World) : Calls Tryz.prog 41 #[.agg #[.int .i64 x, .int .i64 y, .int .i64 z]] W (Ret W (.int .i64 (wayE x y z))) := by
  have h0 := fun W' => Lib.hid (bwithin_any x (-1) 1 W')
  have h1 := fun W' => Lib.hid (bwithin_any y (-1) 1 W')
  have h2 := fun W' => Lib.hid (bwithin_any z (-1) 1 W')
  have He : Hid (wayE x y z = if (-1 ≤ x ∧ x ≤ 1) ∧ (-1 ≤ y ∧ y ≤ 1) ∧ (-1 ≤ z ∧ z ≤ 1) then (if x = 0 ∧ y = 0 ∧ z = 0 then 11 else 0) else 2) := Lib.hid (by
    unfold wayE
    congr 1
    rw [withinB_iff]
    simp only [List.forall_mem_cons, List.not_mem_nil, false_implies, implies_true, and_true])
  rw [He.out]
  clear He
  by_cases e0 : -1 ≤ x ∧ x ≤ 1
  · rw [decide_eq_true e0] at h0
    by_cases e1 : -1 ≤ y ∧ y ≤ 1
    · rw [decide_eq_true e1] at h1
      by_cases e2 : -1 ≤ z ∧ z ≤ 1
      · rw [decide_eq_true e2] at h2
        rw [if_pos ⟨e0, e1, e2⟩]
        by_cases hz : x = 0 ∧ y = 0 ∧ z = 0
        · rw [if_pos hz]
          obtain ⟨rfl, rfl, rfl⟩ := hz
          go_enter Tryz.func41, Tryz.ntmps41
          go_wp2_with fail
          refine ((h0 _).out).mono ?_
          rintro e w1 ⟨rfl, rfl⟩
          go_wp2_with fail
          refine ((h1 _).out).mono ?_
          rintro e w2 ⟨rfl, rfl⟩
          go_wp2_with fail
          refine ((h2 _).out).mono ?_
          rintro e w3 ⟨rfl, rfl⟩
          go_wp2
          go_ret
          exact ⟨rfl, by (repeat (first | exact brf | assumption | refine ble ?_ | refine blx ?_ | refine bla ?_ | refine bls ?_ | refine bld ?_))⟩
        · rw [if_neg hz]
          go_enter Tryz.func41, Tryz.ntmps41
          go_wp2_with fail
          refine ((h0 _).out).mono ?_
          rintro e w1 ⟨rfl, rfl⟩
          go_wp2_with fail
          refine ((h1 _).out).mono ?_
          rintro e w2 ⟨rfl, rfl⟩
          go_wp2_with fail
          refine ((h2 _).out).mono ?_
          rintro e w3 ⟨rfl, rfl⟩
          clear h0 h1 h2 e0 e1 e2
          go_wp2
          all_goals go_ret
          all_goals exact ⟨ret_int (by first | rfl | omega | (exfalso; simp_all)), by (repeat (first | exact brf | assumption | refine ble ?_ | refine blx ?_ | refine bla ?_ | refine bls ?_ | refine bld ?_))⟩
      · rw [decide_eq_false e2] at h2
        rw [if_neg (fun h => e2 h.2.2)]
        go_enter Tryz.func41, Tryz.ntmps41
        go_wp2_with fail
        refine ((h0 _).out).mono ?_
        rintro e w1 ⟨rfl, rfl⟩
        go_wp2_with fail
        refine ((h1 _).out).mono ?_
        rintro e w2 ⟨rfl, rfl⟩
        go_wp2_with fail
        refine ((h2 _).out).mono ?_
        rintro e w3 ⟨rfl, rfl⟩
        go_wp2
        go_ret
        exact ⟨rfl, by (repeat (first | exact brf | assumption | refine ble ?_ | refine blx ?_ | refine bla ?_ | refine bls ?_ | refine bld ?_))⟩
    · rw [decide_eq_false e1] at h1
      rw [if_neg (fun h => e1 h.2.1)]
      go_enter Tryz.func41, Tryz.ntmps41
      go_wp2_with fail
      refine ((h0 _).out).mono ?_
      rintro e w1 ⟨rfl, rfl⟩
      go_wp2_with fail
      refine ((h1 _).out).mono ?_
      rintro e w2 ⟨rfl, rfl⟩
      go_wp2
      go_ret
      exact ⟨rfl, by (repeat (first | exact brf | assumption | refine ble ?_ | refine blx ?_ | refine bla ?_ | refine bls ?_ | refine bld ?_))⟩
  · rw [decide_eq_false e0] at h0
    rw [if_neg (fun h => e0 h.1)]
    go_enter Tryz.func41, Tryz.ntmps41
    go_wp2_with fail
    refine ((h0 _).out).mono ?_
    rintro e w1 ⟨rfl, rfl⟩
    go_wp2
    go_ret
    exact ⟨rfl, by (repeat (first | exact brf | assumption | refine ble ?_ | refine blx ?_ | refine bla ?_ | refine bls ?_ | refine bld ?_))⟩
set_option maxRecDepth 100000 in
set_option maxHeartbeats 2000000 in
theorem image_any (n0 n1 n2 : Nat) (s0 s1 s2 x y z : Int) (w : World) (h0 : n0 < 3) (h1 : n1 < 3) (h2 : n2 < 3) (t0 : s0 = 1 ∨ s0 = -1) (t1 : s1 = 1 ∨ s1 = -1) (t2 : s2 = 1 ∨ s2 = -1)
    (hx : -1000000 ≤ x ∧ x ≤ 1000000) (hy : -1000000 ≤ y ∧ y ≤ 1000000) (hz : -1000000 ≤ z ∧ z ≤ 1000000) :
    Calls Tryz.prog 156 #[.agg #[.int .i64 n0, .int .i64 n1, .int .i64 n2, .int .i64 s0, .int .i64 s1, .int .i64 s2], .agg #[.int .i64 x, .int .i64 y, .int .i64 z]] w
      (Ret w (.agg #[.int .i64 (s0 * idx3 (x, y, z) n0), .int .i64 (s1 * idx3 (x, y, z) n1), .int .i64 (s2 * idx3 (x, y, z) n2)])) := by
  have b0 := idx3_bd hx hy hz n0
  have b1 := idx3_bd hx hy hz n1
  have b2 := idx3_bd hx hy hz n2
  obtain ⟨V, HV⟩ : ∃ V, Hid (((w.alloc (.cells #[.int .i64 n0, .int .i64 n1, .int .i64 n2, .int .i64 s0, .int .i64 s1, .int .i64 s2] 176)).alloc (.cells #[.int .i64 x, .int .i64 y, .int .i64 z] 22)).alloc (.cells #[.int .i64 0, .int .i64 0, .int .i64 0] 22) = V) := ⟨_, Lib.hid rfl⟩
  have hV : Below w.heap.size w V := by rw [← HV.out]; (repeat (first | exact brf | assumption | refine ble ?_ | refine blx ?_ | refine bla ?_ | refine bls ?_ | refine bld ?_))
  have HA : Hid (V.heap[w.heap.size]? = some (.cells #[.int .i64 n0, .int .i64 n1, .int .i64 n2, .int .i64 s0, .int .i64 s1, .int .i64 s2] 176 (0, 0))) := Lib.hid (by rw [← HV.out]; exact (heap_old (by simp; omega)).trans ((heap_old (by simp)).trans (heap_new rfl)))
  have HB : Hid (V.heap[w.heap.size + 1]? = some (.cells #[.int .i64 x, .int .i64 y, .int .i64 z] 22 (0, 0))) := Lib.hid (by rw [← HV.out]; exact (heap_old (by simp)).trans (heap_new (by simp)))
  have HR : Hid (V.heap[w.heap.size + 1 + 1]? = some (.cells #[.int .i64 0, .int .i64 0, .int .i64 0] 22 (0, 0))) := Lib.hid (by rw [← HV.out]; exact heap_new (by simp))
  have y0 := idx3_cell HB.out h0
  have y1 := idx3_cell HB.out h1
  have y2 := idx3_cell HB.out h2
  generalize idx3 (x, y, z) n0 = u0 at *
  generalize idx3 (x, y, z) n1 = u1 at *
  generalize idx3 (x, y, z) n2 = u2 at *
  have D0 := mul_bd (a := s0) (x := u0) (A := 1) (X := 1000000) (by omega) (by omega) (by omega) (by omega)
  have D1 := mul_bd (a := s1) (x := u1) (A := 1) (X := 1000000) (by omega) (by omega) (by omega) (by omega)
  have D2 := mul_bd (a := s2) (x := u2) (A := 1) (X := 1000000) (by omega) (by omega) (by omega) (by omega)
  simp only [Int.reduceMul] at D0 D1 D2
  have m0 : (n0 : Int) < 3 := by omega
  have m1 : (n1 : Int) < 3 := by omega
  have m2 : (n2 : Int) < 3 := by omega
  have a0 := (blk_cell HA.out 0).trans rfl
  have a1 := (blk_cell HA.out 1).trans rfl
  have a2 := (blk_cell HA.out 2).trans rfl
  have a3 := (blk_cell HA.out 3).trans rfl
  have a4 := (blk_cell HA.out 4).trans rfl
  have a5 := (blk_cell HA.out 5).trans rfl
  simp only [List.getElem?_toArray, List.getElem?_cons_zero, List.getElem?_cons_succ] at a0 a1 a2 a3 a4 a5
  have z0 := blk_lt HA.out
  have z1 := blk_lt HB.out
  obtain ⟨r0, r1, r2, fr, zr⟩ := blk3 HR.out
  clear b0 b1 b2 t0 t1 t2 hx hy hz h0 h1 h2
  go_enter Tryz.func156, Tryz.ntmps156
  go_wp2
  rw [HV.out]
  refine wp_region_tailB 28 (by kernel_rfl) (by kernel_rfl) ?_
  simp only [List.take_succ_cons, List.take_zero, List.drop_succ_cons, List.drop_zero]
  repeat (first | go_big_quiet_step (fail) | quiet_step (fail))
  refine wpQuiet_nil ?_
  rintro _ ⟨u, rfl⟩
  have HR2 := Lib.hid ((u.below.block _ zr).trans HR.out)
  obtain ⟨e0, e1, e2, fe, ze⟩ := blk3 HR2.out
  have hw := below_trans hV u.below
  clear r0 r1 r2 fr zr
  go_wp2
  refine bodyPost_ret (v := .agg #[.int .i64 (s0 * u0), .int .i64 (s1 * u1), .int .i64 (s2 * u2)]) (by simp [results, Tryz.results156, go_sem, e0, e1, e2, ze]) rfl ⟨rfl, ?_⟩
  (repeat (first | exact brf | assumption | refine ble ?_ | refine blx ?_ | refine bla ?_ | refine bls ?_ | refine bld ?_))
end
/- The reference: turns. -/
section
open Go.RowKit Go.Shelf
set_option linter.unusedSimpArgs false
attribute [local go_sem] Ext.cell Ext.frozen
def permL : List Q3 := [(0, 1, 2), (0, 2, 1), (1, 0, 2), (1, 2, 0), (2, 0, 1), (2, 1, 0)]
def permN (i : Nat) : Q3 := permL.getD i (0, 0, 0)
def sgL : List Int := [1, -1, -1, 1, 1, -1]
def sgN (i : Nat) : Int := sgL.getD i 0
/-- The turns as the reference lists them. -/
def rpre (m : Nat) : List T6 := (List.range m).map (fun j => (permN (j / 8), signT (j % 8)))
theorem rpre_48 : rpre 48 = turnsL := by decide +kernel
theorem rpre_at {i k : Nat} (hk : k < 8) : rpre (8 * i + k + 1) = rpre (8 * i + k) ++ [(permN i, signT k)] := by
  simp only [rpre, List.range_succ, List.map_append, List.map_cons, List.map_nil]
  rw [show (8 * i + k) / 8 = i by omega, show (8 * i + k) % 8 = k by omega]
theorem sg_mir {i k : Nat} (hi : i < 6) (hk : k < 8) : decide (0 < sgN i * (signT k).1 * (signT k).2.1 * (signT k).2.2) = !mirB (permN i, signT k) := by
  have key : ∀ m, m < 48 → decide (0 < sgN (m / 8) * (signT (m % 8)).1 * (signT (m % 8)).2.1 * (signT (m % 8)).2.2) = !mirB (permN (m / 8), signT (m % 8)) := by decide +kernel
  have := key (8 * i + k) (by omega)
  rwa [show (8 * i + k) / 8 = i by omega, show (8 * i + k) % 8 = k by omega] at this
theorem sg_one {i : Nat} (hi : i < 6) : sgN i = 1 ∨ sgN i = -1 := by
  have : ∀ i, i < 6 → sgN i = 1 ∨ sgN i = -1 := by decide
  exact this i hi
theorem rpre_len (m : Nat) : (rpre m).length = m := by simp [rpre]
theorem rpre_fst {i : Nat} (hi : i < 6) : (0 ≤ (permN i).1 ∧ (permN i).1 ≤ 2) ∧ (0 ≤ (permN i).2.1 ∧ (permN i).2.1 ≤ 2) ∧ (0 ≤ (permN i).2.2 ∧ (permN i).2.2 ≤ 2) := by
  have : ∀ i, i < 6 → (0 ≤ (permN i).1 ∧ (permN i).1 ≤ 2) ∧ (0 ≤ (permN i).2.1 ∧ (permN i).2.1 ≤ 2) ∧ (0 ≤ (permN i).2.2 ∧ (permN i).2.2 ≤ 2) := by decide
  exact this i hi
def arrA : Array Value := #[.int .i64 0, .int .i64 1, .int .i64 2, .int .i64 0, .int .i64 2, .int .i64 1, .int .i64 1, .int .i64 0, .int .i64 2, .int .i64 1, .int .i64 2, .int .i64 0, .int .i64 2, .int .i64 0, .int .i64 1, .int .i64 2, .int .i64 1, .int .i64 0]
def arrS : Array Value := #[.int .i64 1, .int .i64 (-1), .int .i64 (-1), .int .i64 1, .int .i64 1, .int .i64 (-1)]
theorem arrA_at {w : World} {g : Nat} {T : TypeId} (h : w.heap[g]? = some (.cells arrA T (0, 0))) {i : Nat} (hi : i < 6) : w.cell? ⟨g, i * 3, none⟩ = some (.int .i64 (permN i).1) ∧ w.cell? ⟨g, i * 3 + 1, none⟩ = some (.int .i64 (permN i).2.1) ∧ w.cell? ⟨g, i * 3 + 2, none⟩ = some (.int .i64 (permN i).2.2) := by
  rw [blk_cell h, blk_cell h, blk_cell h]
  rcases (by omega : i = 0 ∨ i = 1 ∨ i = 2 ∨ i = 3 ∨ i = 4 ∨ i = 5) with rfl | rfl | rfl | rfl | rfl | rfl <;> exact ⟨rfl, rfl, rfl⟩
theorem arrS_at {w : World} {g : Nat} {T : TypeId} (h : w.heap[g]? = some (.cells arrS T (0, 0))) {i : Nat} (hi : i < 6) : w.cell? ⟨g, i, none⟩ = some (.int .i64 (sgN i)) := by
  rw [blk_cell h]
  rcases (by omega : i = 0 ∨ i = 1 ∨ i = 2 ∨ i = 3 ∨ i = 4 ∨ i = 5) with rfl | rfl | rfl | rfl | rfl | rfl <;> rfl
theorem info_rturn : (Tryz.prog.info? 176).map (fun i => (i.zero, i.size, i.bytes)) = some (some (vT ((0, 0, 0), (0, 0, 0))), 6, 48) := by kernel_rfl
theorem und_rturns : Tryz.prog.underlying 177 = some (.slice 176) := by kernel_rfl
/-- Two rows of different turns. -/
structure R2 (B : Nat) (T : TypeId) (v v2 : Value) (xs ys : List T6) (w : World) : Prop where
  a : w.ownsRow B T 6 v xs.length (xs.flatMap enc6)
  na : xs = [] → v = .slice none 0 0
  b : w.ownsRow B T 6 v2 ys.length (ys.flatMap enc6)
  nb : ys = [] → v2 = .slice none 0 0
theorem R2.below {B : Nat} {T : TypeId} {v v2 : Value} {xs ys : List T6} {w w' : World} (h : R2 B T v v2 xs ys w) (hb : Below w.heap.size w w') : R2 B T v v2 xs ys w' := ⟨own_below h.a hb, h.na, own_below h.b hb, h.nb⟩
theorem R2.one {B : Nat} {T : TypeId} {v v2 v' : Value} {xs ys : List T6} {t : T6} {w w3 : World} {tmp : Obj} (h : R2 B T v v2 xs ys w) (hd : ∀ t ∈ xs, ∀ u ∈ ys, t ≠ u) (hg : (w.alloc tmp).grownBy w3 v.ownBlock)
    (ho : w3.ownsRow B T 6 v' (xs.length + 1) (xs.flatMap enc6 ++ enc6 t)) : R2 B T v' v2 (xs ++ [t]) ys w3 :=
  ⟨by simpa using ho, by simp, (h.b.alloc tmp).kept hg (rows_apart h.b h.a h.nb h.na fun t ht u hu e => hd u hu t ht e.symm), h.nb⟩
theorem R2.two {B : Nat} {T : TypeId} {v v2 v' : Value} {xs ys : List T6} {t : T6} {w w3 : World} {tmp : Obj} (h : R2 B T v v2 xs ys w) (hd : ∀ t ∈ xs, ∀ u ∈ ys, t ≠ u) (hg : (w.alloc tmp).grownBy w3 v2.ownBlock)
    (ho : w3.ownsRow B T 6 v' (ys.length + 1) (ys.flatMap enc6 ++ enc6 t)) : R2 B T v v' xs (ys ++ [t]) w3 :=
  ⟨(h.a.alloc tmp).kept hg (rows_apart h.a h.b h.na h.nb hd), h.na, by simpa using ho, by simp⟩
theorem enc6s_one (ps : List T6) : ∀ u ∈ ps.flatMap enc6, u.oneCell' = true := fun u hu => by
  simp only [List.mem_flatMap] at hu
  obtain ⟨t, _, hu⟩ := hu
  simp [enc6] at hu
  rcases hu with rfl | rfl | rfl | rfl | rfl | rfl <;> rfl
theorem pm_mul {a b : Int} (ha : a = 1 ∨ a = -1) (hb : b = 1 ∨ b = -1) : a * b = 1 ∨ a * b = -1 := by
  rcases ha with rfl | rfl <;> rcases hb with rfl | rfl <;> simp
theorem filt_two {p : T6 → Bool} {l : List T6} {t : T6} : (l ++ [t]).filter p = l.filter p ++ if p t then [t] else [] := by
  rw [List.filter_append]
  congr 1
  cases h : p t <;> simp [h]
set_option maxRecDepth 100000 in
set_option maxHeartbeats 4000000 in
theorem rturns_any (W : World) : Calls Tryz.prog 155 #[] W fun e w' => ∃ r, e = .returned r ∧ Below W.heap.size W w' ∧ w'.ownsRow W.heap.size 176 6 r all48.length (all48.flatMap enc6) := by
  obtain ⟨i0, hi0, hz0, hz1, hz2⟩ := info_parts info_rturn
  have Hi0 := Lib.hid (And.intro hi0 (And.intro hz0 (And.intro hz1 hz2)))
  clear hi0 hz0 hz1 hz2
  obtain ⟨V, HV⟩ : ∃ V, Hid ((W.alloc (.cells arrA 222)).alloc (.cells arrS 223) = V) := ⟨_, Lib.hid rfl⟩
  have hV : Below W.heap.size W V := by rw [← HV.out]; (repeat (first | exact brf | assumption | refine ble ?_ | refine blx ?_ | refine bla ?_ | refine bls ?_ | refine bld ?_))
  have HA : Hid (V.heap[W.heap.size]? = some (.cells arrA 222 (0, 0))) := Lib.hid (by rw [← HV.out]; exact (heap_old (by simp)).trans (heap_new rfl))
  have HS : Hid (V.heap[W.heap.size + 1]? = some (.cells arrS 223 (0, 0))) := Lib.hid (by rw [← HV.out]; exact heap_new (by simp))
  have Hmir := Lib.hid (fun i k (hi : i < 6) (hk : k < 8) => sg_mir hi hk)
  have HL : (turnsL.filter (fun t => !mirB t)).length = 24 ∧ (turnsL.filter mirB).length = 24 := by decide +kernel
  have HALL : Hid (turnsL.filter (fun t => !mirB t) ++ turnsL.filter mirB = all48) := Lib.hid rfl
  generalize mirB = mB at *
  obtain ⟨nB, hnB, HnB⟩ : ∃ nB : T6 → Bool, (fun t => !mB t) = nB ∧ Hid (∀ t, nB t = !mB t) := ⟨_, rfl, Lib.hid fun _ => rfl⟩
  rw [hnB] at HALL HL
  clear hnB
  have hVe : (W.alloc (.cells #[.int .i64 0, .int .i64 1, .int .i64 2, .int .i64 0, .int .i64 2, .int .i64 1, .int .i64 1, .int .i64 0, .int .i64 2, .int .i64 1, .int .i64 2, .int .i64 0, .int .i64 2, .int .i64 0, .int .i64 1, .int .i64 2, .int .i64 1, .int .i64 0] 222)).alloc (.cells #[.int .i64 1, .int .i64 (-1), .int .i64 (-1), .int .i64 1, .int .i64 1, .int .i64 (-1)] 223) = V := HV.out
  go_enter Tryz.func155, Tryz.ntmps155
  go_wp2
  clear hVe HV
  go_loopw [1, 2, 5] (fun v v2 p wr => ∃ i : Nat, i ≤ 6 ∧ p = .int .i64 i ∧ Below V.heap.size V wr ∧ Hid (R2 V.heap.size 176 v v2 ((rpre (8 * i)).filter nB) ((rpre (8 * i)).filter mB) wr)) (fun _ _ p _ => (6 - intOf p).toNat)
  case atStart => exact ⟨0, by omega, rfl, Below.refl _ _, Lib.hid ⟨World.ownsRow_nil _ _ _ _, fun _ => rfl, World.ownsRow_nil _ _ _ _, fun _ => rfl⟩⟩
  case round =>
    obtain ⟨i, hi, rfl, hb, HO⟩ := hrel
    by_cases hi6 : i < 6
    · have t1 : (i : Int) < 6 := by omega
      have t1' : (0 : Int) ≤ (i : Int) := by omega
      go_wp2
      go_loopw [1, 2, 6] (fun v v2 p wr => ∃ k : Nat, k ≤ 8 ∧ p = .int .i64 k ∧ Below V.heap.size V wr ∧ Hid (R2 V.heap.size 176 v v2 ((rpre (8 * i + k)).filter nB) ((rpre (8 * i + k)).filter mB) wr)) (fun _ _ p _ => (8 - intOf p).toNat)
      case atStart => exact ⟨0, by omega, rfl, hb, HO⟩
      case round =>
        clear hb HO
        obtain ⟨k, hk, rfl, hb, HO⟩ := hrel
        by_cases hk8 : k < 8
        · have t2 : (k : Int) < 8 := by omega
          obtain ⟨c, Hc⟩ : ∃ c, Hid (k / 4 = c) := ⟨_, Lib.hid rfl⟩
          obtain ⟨d, Hd⟩ : ∃ d, Hid (k / 2 % 2 = d) := ⟨_, Lib.hid rfl⟩
          obtain ⟨e, He⟩ : ∃ e, Hid (k % 2 = e) := ⟨_, Lib.hid rfl⟩
          have hc := Hc.out
          have hd := Hd.out
          have he := He.out
          have cb : c ≤ 1 ∧ d ≤ 1 ∧ e ≤ 1 := by omega
          have e3 : (k : Int) / 4 = c := by omega
          have e4 : (k : Int) / 2 % 2 = d := by omega
          have e5 : (k : Int) % 2 = e := by omega
          clear hc hd he
          have Hq : Hid (signT k = (1 - 2 * (c : Int), 1 - 2 * (d : Int), 1 - 2 * (e : Int))) := Lib.hid (by
            unfold signT
            rw [Hc.out, Hd.out, He.out]
            simp only [Prod.mk.injEq]
            omega)
          have Hm := Lib.hid (Hmir.out i k hi6 hk8)
          have Hs := Lib.hid (rpre_at (i := i) hk8)
          have Hl := Lib.hid (rpre_len (8 * i + k))
          rw [Hq.out] at Hm Hs
          have hA := (hb.block _ (blk_lt HA.out)).trans HA.out
          have hS := (hb.block _ (blk_lt HS.out)).trans HS.out
          obtain ⟨a0, a1, a2⟩ := arrA_at hA hi6
          have s0 := arrS_at hS hi6
          have zA := blk_lt hA
          have zS := blk_lt hS
          have hsg := sg_one hi6
          have D0 : (1 - 2 * (c : Int) = 1 ∨ 1 - 2 * (c : Int) = -1) := by omega
          have D1 : (1 - 2 * (d : Int) = 1 ∨ 1 - 2 * (d : Int) = -1) := by omega
          have D2 : (1 - 2 * (e : Int) = 1 ∨ 1 - 2 * (e : Int) = -1) := by omega
          have P0 := pm_mul hsg D0
          have P1 := pm_mul P0 D1
          have P2 := pm_mul P1 D2
          clear hsg D0 D1 D2 hA hS
          generalize permN i = pp at *
          obtain ⟨p0, p1, p2⟩ := pp
          generalize sgN i = sg at *
          simp only at a0 a1 a2 Hm
          generalize rpre (8 * i + k) = L at *
          have hl1 : (L.filter nB).length ≤ 48 := Nat.le_trans (List.length_filter_le _ _) (by have := Hl.out; omega)
          have hl2 : (L.filter mB).length ≤ 48 := Nat.le_trans (List.length_filter_le _ _) (by have := Hl.out; omega)
          have Hdis : Hid (∀ t ∈ L.filter nB, ∀ u ∈ L.filter mB, t ≠ u) := Lib.hid (fun t ht u hu eq => by
            have h1 := (List.mem_filter.1 ht).2
            have h2 := (List.mem_filter.1 hu).2
            rw [eq, HnB.out, h2] at h1
            cases h1)
          cases hg : decide (0 < sg * (1 - 2 * (c : Int)) * (1 - 2 * (d : Int)) * (1 - 2 * (e : Int))) with
          | true =>
            have hmb : mB ((p0, p1, p2), 1 - 2 * (c : Int), 1 - 2 * (d : Int), 1 - 2 * (e : Int)) = false := by have := Hm.out; rw [hg] at this; simpa using this.symm
            have Hs1 : Hid ((rpre (8 * i + (k + 1))).filter nB = L.filter nB ++ [((p0, p1, p2), 1 - 2 * (c : Int), 1 - 2 * (d : Int), 1 - 2 * (e : Int))] ∧ (rpre (8 * i + (k + 1))).filter mB = L.filter mB) := Lib.hid (by
              rw [show 8 * i + (k + 1) = 8 * i + k + 1 by omega, Hs.out, filt_two, filt_two, HnB.out, hmb]; simp)
            have hg' : (0 : Int) < sg * (1 - 2 * (c : Int)) * (1 - 2 * (d : Int)) * (1 - 2 * (e : Int)) := by simpa using hg
            clear Hm Hs hmb hg
            generalize L.filter nB = X at *
            generalize L.filter mB = Y at *
            go_wp2
            refine wp_region_quietB (by kernel_rfl) (by kernel_rfl) ?_
            repeat (first | go_big_quiet_step (fail) | quiet_step (fail))
            refine wpQuiet_nil ?_
            rintro _ ⟨u, rfl⟩
            have HTb := Lib.hid ((u.below.block wr.heap.size (by simp)).trans (heap_new rfl))
            have HOu := Lib.hid ((HO.out.below (show Below wr.heap.size wr _ by (repeat (first | exact brf | assumption | refine ble ?_ | refine blx ?_ | refine bla ?_ | refine bls ?_ | refine bld ?_)))).below u.below)
            have hbu : Below V.heap.size V u.val := (hb.alloc hb.size _).trans (u.below.mono (by have := hb.size; simp; omega))
            clear HO hb a0 a1 a2 s0 zA zS P0 P1 P2
            generalize u.val = wu at *
            clear u
            have x0 := (blk_cell HTb.out 0).trans rfl
            have x1 := (blk_cell HTb.out 1).trans rfl
            have x2 := (blk_cell HTb.out 2).trans rfl
            have x3 := (blk_cell HTb.out 3).trans rfl
            have x4 := (blk_cell HTb.out 4).trans rfl
            have x5 := (blk_cell HTb.out 5).trans rfl
            simp only [List.getElem?_toArray, List.getElem?_cons_zero, List.getElem?_cons_succ] at x0 x1 x2 x3 x4 x5
            have xz := blk_lt HTb.out
            go_wp2_with (at_builtin; refine wpList_append_own _ rfl _ _ 177 rfl V.heap.size 176 i0 (vT ((0, 0, 0), (0, 0, 0))) 6 48 und_rturns Hi0.out.1 Hi0.out.2.1 Hi0.out.2.2.1 Hi0.out.2.2.2 rfl (by decide) _ (X.length) _ rfl (HOu.out.a.alloc _) ⟨wu.heap.size, 0, none⟩ 1 1 (enc6 ((p0, p1, p2), (1 - 2 * (c : Int), 1 - 2 * (d : Int), 1 - 2 * (e : Int)))) rfl rfl ?c1 ?c2 ?c3 ?c4 ?c5 ?_)
            case c1 =>
              intro jj uu hu
              rw [add0, cell_new rfl jj]
              simpa [enc6] using hu
            case c2 => intro v hv; simp [enc6] at hv; rcases hv with rfl | rfl | rfl | rfl | rfl | rfl <;> rfl
            case c3 => unfold maxLen; omega
            case c4 => omega
            case c5 => simp; have := hbu.size; omega
            intro v' w3 hown3 hg3 _
            have hb3 : Below V.heap.size V w3 := (hbu.alloc hbu.size _).grown hg3 (by simp; have := hbu.size; omega) (fun z hz => by have := (HOu.out.a.lt z hz).1; omega)
            have H2 := Lib.hid (HOu.out.one Hdis.out hg3 hown3)
            clear hown3 hg3 x0 x1 x2 x3 x4 x5 xz
            go_wp2
            go_roundw
            case rel => exact ⟨k + 1, by omega, by go_num, hb3, Lib.hid (by rw [Hs1.out.1, Hs1.out.2]; exact H2.out)⟩
            case measure => first | (simp [intOf]; done) | (simp [intOf]; omega)
          | false =>
            have hmb : mB ((p0, p1, p2), 1 - 2 * (c : Int), 1 - 2 * (d : Int), 1 - 2 * (e : Int)) = true := by have := Hm.out; rw [hg] at this; simpa using this.symm
            have Hs1 : Hid ((rpre (8 * i + (k + 1))).filter nB = L.filter nB ∧ (rpre (8 * i + (k + 1))).filter mB = L.filter mB ++ [((p0, p1, p2), 1 - 2 * (c : Int), 1 - 2 * (d : Int), 1 - 2 * (e : Int))]) := Lib.hid (by
              rw [show 8 * i + (k + 1) = 8 * i + k + 1 by omega, Hs.out, filt_two, filt_two, HnB.out, hmb]; simp)
            have hg1 : ¬ (0 : Int) < sg * (1 - 2 * (c : Int)) * (1 - 2 * (d : Int)) * (1 - 2 * (e : Int)) := by simpa using hg
            have hg' := Int.not_lt.1 hg1
            clear Hm Hs hmb hg
            generalize L.filter nB = X at *
            generalize L.filter mB = Y at *
            go_wp2
            refine wp_region_quietB (by kernel_rfl) (by kernel_rfl) ?_
            repeat (first | go_big_quiet_step (fail) | quiet_step (fail))
            refine wpQuiet_nil ?_
            rintro _ ⟨u, rfl⟩
            have HTb := Lib.hid ((u.below.block wr.heap.size (by simp)).trans (heap_new rfl))
            have HOu := Lib.hid ((HO.out.below (show Below wr.heap.size wr _ by (repeat (first | exact brf | assumption | refine ble ?_ | refine blx ?_ | refine bla ?_ | refine bls ?_ | refine bld ?_)))).below u.below)
            have hbu : Below V.heap.size V u.val := (hb.alloc hb.size _).trans (u.below.mono (by have := hb.size; simp; omega))
            clear HO hb a0 a1 a2 s0 zA zS P0 P1 P2
            generalize u.val = wu at *
            clear u
            have x0 := (blk_cell HTb.out 0).trans rfl
            have x1 := (blk_cell HTb.out 1).trans rfl
            have x2 := (blk_cell HTb.out 2).trans rfl
            have x3 := (blk_cell HTb.out 3).trans rfl
            have x4 := (blk_cell HTb.out 4).trans rfl
            have x5 := (blk_cell HTb.out 5).trans rfl
            simp only [List.getElem?_toArray, List.getElem?_cons_zero, List.getElem?_cons_succ] at x0 x1 x2 x3 x4 x5
            have xz := blk_lt HTb.out
            go_wp2_with (at_builtin; refine wpList_append_own _ rfl _ _ 177 rfl V.heap.size 176 i0 (vT ((0, 0, 0), (0, 0, 0))) 6 48 und_rturns Hi0.out.1 Hi0.out.2.1 Hi0.out.2.2.1 Hi0.out.2.2.2 rfl (by decide) _ (Y.length) _ rfl (HOu.out.b.alloc _) ⟨wu.heap.size, 0, none⟩ 1 1 (enc6 ((p0, p1, p2), (1 - 2 * (c : Int), 1 - 2 * (d : Int), 1 - 2 * (e : Int)))) rfl rfl ?c1 ?c2 ?c3 ?c4 ?c5 ?_)
            case c1 =>
              intro jj uu hu
              rw [add0, cell_new rfl jj]
              simpa [enc6] using hu
            case c2 => intro v hv; simp [enc6] at hv; rcases hv with rfl | rfl | rfl | rfl | rfl | rfl <;> rfl
            case c3 => unfold maxLen; omega
            case c4 => omega
            case c5 => simp; have := hbu.size; omega
            intro v' w3 hown3 hg3 _
            have hb3 : Below V.heap.size V w3 := (hbu.alloc hbu.size _).grown hg3 (by simp; have := hbu.size; omega) (fun z hz => by have := (HOu.out.b.lt z hz).1; omega)
            have H2 := Lib.hid (HOu.out.two Hdis.out hg3 hown3)
            clear hown3 hg3 x0 x1 x2 x3 x4 x5 xz
            go_wp2
            go_roundw
            case rel => exact ⟨k + 1, by omega, by go_num, hb3, Lib.hid (by rw [Hs1.out.1, Hs1.out.2]; exact H2.out)⟩
            case measure => first | (simp [intOf]; done) | (simp [intOf]; omega)
        · obtain rfl : k = 8 := by omega
          have t2 : ¬ ((8 : Nat) : Int) < 8 := by omega
          go_wp2
          go_roundw
          case rel => exact ⟨i + 1, by omega, by go_num, hb, Lib.hid (by rw [show 8 * (i + 1) = 8 * i + 8 by omega]; exact HO.out)⟩
          case measure => first | (simp [intOf]; done) | (simp [intOf]; omega)
    · obtain rfl : i = 6 := by omega
      have t1 : ¬ ((6 : Nat) : Int) < 6 := by omega
      have H48 : rpre (8 * 6) = turnsL := rpre_48
      rw [H48] at HO
      have HE : Hid ((turnsL.filter nB).flatMap enc6 ++ (turnsL.filter mB).flatMap enc6 = all48.flatMap enc6 ∧ (turnsL.filter nB).length + (turnsL.filter mB).length = all48.length) := Lib.hid ⟨by rw [← HALL.out, List.flatMap_append], by rw [← HALL.out, List.length_append]⟩
      obtain ⟨g2, cap2, rfl, _, _⟩ := own_form HO.out.b (by omega)
      generalize turnsL.filter nB = X at *
      generalize turnsL.filter mB = Y at *
      clear H48 HALL Hmir HnB
      go_wp2_with (at_builtin; refine wpList_append_own _ rfl _ _ 177 rfl V.heap.size 176 i0 (vT ((0, 0, 0), (0, 0, 0))) 6 48 und_rturns Hi0.out.1 Hi0.out.2.1 Hi0.out.2.2.1 Hi0.out.2.2.2 rfl (by decide) _ _ _ rfl HO.out.a ⟨g2, 0, none⟩ Y.length cap2 _ rfl HO.out.b.1 (own_news HO.out.b) (enc6s_one Y) (by unfold maxLen; omega) (by omega) hb.size ?_)
      intro v' w3 hown3 hg3 _
      have hb3 : Below V.heap.size V w3 := hb.grown hg3 hb.size (fun z hz => (HO.out.a.lt z hz).1)
      have hx : X.length + Y.length = 48 := by omega
      have ho : w3.ownsRow V.heap.size 176 6 v' all48.length (all48.flatMap enc6) := by
        rw [← HE.out.1, ← HE.out.2, hx]
        first | exact hown3 | (rw [hx] at hown3; exact hown3)
      clear hown3 hg3 hx
      go_wp2
      go_ret
      exact ⟨v', rfl, below_trans hV hb3, own_mono ho hV.size⟩
end
end Go.Proofs.YtjglkglaogaenaaGreatDoor
