/- texts of mine, merged: Q6a, Q6b, Q6c. -/
import Derived.Test.YtjglkglaogaenaaGreatDoorGAD
import Derived.Test.YtjglkglaogaenaaGreatDoorGAE
/- The reference of joints: Area (written by gen_rarea.py). -/
namespace Go.Proofs.YtjglkglaogaenaaGreatDoor
section
open Go.RowKit Go.Shelf
attribute [local go_sem] Ext.cell Ext.frozen
theorem retA3XQ6a_eq {x y z x' y' z' : Int} (h1 : x = x') (h2 : y = y') (h3 : z = z') : Ending.returned (.agg #[.int .i64 x, .int .i64 y, .int .i64 z]) = .returned (areaV (x', y', z')) := by rw [h1, h2, h3]; rfl
set_option linter.unusedVariables false in
set_option maxRecDepth 100000 in
set_option maxHeartbeats 4000000 in
theorem rArea_3 (l w t : Int) (nv : Value) (n : List Int) (W : World) (hn : Ints W nv n) (hlen : n.length = 6) (hl : 1 ≤ l ∧ l ≤ 100000) (hw : 1 ≤ w ∧ w ≤ 100000) (ht : 1 ≤ t ∧ t ≤ 100000) (hb : ∀ i, i < n.length → -100000 ≤ n.getD i 0 ∧ n.getD i 0 ≤ 100000) :
    Calls Tryz.prog 37 #[vJ 3 l w t nv] W (Ret W (areaV (tightV ((n.getD 3 0 - n.getD 2 0) * (n.getD 5 0 - n.getD 4 0)) (n.getD 1 0), 2 * n.getD 0 0 * (n.getD 5 0 - n.getD 4 0), 2 * n.getD 0 0 * (n.getD 3 0 - n.getD 2 0)))) := by
  have hG := fun W' => Lib.hid (gap_any 3 W')
  rw [show gapAt 3 = 1 from rfl] at hG
  have HN := Lib.hid hn
  unfold vJ at *
  obtain ⟨b, off, c, rfl, hcc, zb, hi⟩ := hn.at' (by omega)
  have n0 := hi 0 (by omega)
  have n1 := hi 1 (by omega)
  have n2 := hi 2 (by omega)
  have n3 := hi 3 (by omega)
  have n4 := hi 4 (by omega)
  have n5 := hi 5 (by omega)
  rw [Nat.add_zero] at n0
  have b0 := hb 0 (by omega)
  have b1 := hb 1 (by omega)
  have b2 := hb 2 (by omega)
  have b3 := hb 3 (by omega)
  have b4 := hb 4 (by omega)
  have b5 := hb 5 (by omega)
  rw [hlen]
  generalize n.getD 0 0 = x0 at *
  generalize n.getD 1 0 = x1 at *
  generalize n.getD 2 0 = x2 at *
  generalize n.getD 3 0 = x3 at *
  generalize n.getD 4 0 = x4 at *
  generalize n.getD 5 0 = x5 at *
  clear hi hn hb hcc
  have w1 : wrap64 (x3 - x2) = x3 - x2 := by unfold wrap64; omega
  have v1 : IntKind.i64.wrap (x3 - x2) = x3 - x2 := IntWalk.i64_in _ (by omega)
  have w2 : wrap64 (x5 - x4) = x5 - x4 := by unfold wrap64; omega
  have v2 : IntKind.i64.wrap (x5 - x4) = x5 - x4 := IntWalk.i64_in _ (by omega)
  have p3 := mul_bd (a := x3 - x2) (x := x5 - x4) (A := 200000) (X := 200000) (by omega) (by omega) (by omega) (by omega)
  obtain ⟨m3, Hm3⟩ : ∃ m3, Hid ((x3 - x2) * (x5 - x4) = m3) := ⟨_, Lib.hid rfl⟩
  rw [Hm3.out] at p3
  have w3 : wrap64 ((x3 - x2) * (x5 - x4)) = m3 := by rw [Hm3.out]; unfold wrap64; omega
  have v3 : IntKind.i64.wrap ((x3 - x2) * (x5 - x4)) = m3 := (IntWalk.i64_in _ (by rw [Hm3.out]; omega)).trans Hm3.out
  -- a is m3
  have w4 : wrap64 (2 * x0) = 2 * x0 := by unfold wrap64; omega
  have v4 : IntKind.i64.wrap (2 * x0) = 2 * x0 := IntWalk.i64_in _ (by omega)
  have p5 := mul_bd (a := 2 * x0) (x := x5 - x4) (A := 200000) (X := 200000) (by omega) (by omega) (by omega) (by omega)
  obtain ⟨m5, Hm5⟩ : ∃ m5, Hid ((2 * x0) * (x5 - x4) = m5) := ⟨_, Lib.hid rfl⟩
  rw [Hm5.out] at p5
  have w5 : wrap64 ((2 * x0) * (x5 - x4)) = m5 := by rw [Hm5.out]; unfold wrap64; omega
  have v5 : IntKind.i64.wrap ((2 * x0) * (x5 - x4)) = m5 := (IntWalk.i64_in _ (by rw [Hm5.out]; omega)).trans Hm5.out
  -- b is m5
  have p6 := mul_bd (a := 2 * x0) (x := x3 - x2) (A := 200000) (X := 200000) (by omega) (by omega) (by omega) (by omega)
  obtain ⟨m6, Hm6⟩ : ∃ m6, Hid ((2 * x0) * (x3 - x2) = m6) := ⟨_, Lib.hid rfl⟩
  rw [Hm6.out] at p6
  have w6 : wrap64 ((2 * x0) * (x3 - x2)) = m6 := by rw [Hm6.out]; unfold wrap64; omega
  have v6 : IntKind.i64.wrap ((2 * x0) * (x3 - x2)) = m6 := (IntWalk.i64_in _ (by rw [Hm6.out]; omega)).trans Hm6.out
  -- c is m6
  obtain ⟨V, HV⟩ : ∃ V, Hid ((W.alloc (.cells #[.int .i64 3, .int .i64 l, .int .i64 w, .int .i64 t, .slice (some ⟨b, off, none⟩) 6 c] 25)).alloc (.cells #[.int .i64 0, .int .i64 0, .int .i64 0] 22) = V) := ⟨_, Lib.hid rfl⟩
  have hV : Below W.heap.size W V := by rw [← HV.out]; (repeat (first | exact brf | assumption | refine ble ?_ | refine blx ?_ | refine bla ?_ | refine bls ?_ | refine bld ?_))
  have HJ : Hid (V.heap[W.heap.size]? = some (.cells #[.int .i64 3, .int .i64 l, .int .i64 w, .int .i64 t, .slice (some ⟨b, off, none⟩) 6 c] 25 (0, 0))) := Lib.hid (by rw [← HV.out]; exact (heap_old (by simp)).trans (heap_new rfl))
  have HR : Hid (V.heap[W.heap.size + 1]? = some (.cells #[.int .i64 0, .int .i64 0, .int .i64 0] 22 (0, 0))) := Lib.hid (by rw [← HV.out]; exact heap_new (by simp))
  have zV := blk_lt HJ.out
  have zR := blk_lt HR.out
  obtain ⟨c0, c1, c2, c3, c4, _, _⟩ := blk5 HJ.out
  go_enter Tryz.func37, Tryz.ntmps37
  go_wp2
  rw [HV.out]
  refine wp_region_quietB (by kernel_rfl) (by kernel_rfl) ?_
  repeat (first | go_big_quiet_step (fail) | quiet_step (fail))
  refine wpQuiet_nil ?_
  rintro _ ⟨u, rfl⟩
  have HJu := Lib.hid ((u.below.block _ zV).trans HJ.out)
  have HRu := Lib.hid ((u.below.block _ zR).trans HR.out)
  have hwu : Below W.heap.size W u.val := below_trans hV u.below
  clear c0 c1 c2 c3 c4
  generalize u.val = w9 at *
  clear u
  obtain ⟨c0, c1, c2, c3, c4, _, zju⟩ := blk5 HJu.out
  obtain ⟨e0, e1, e2, f0, zu⟩ := blk3 HRu.out
  have f1 := f0 1
  have f2 := f0 2
  have zb9 := Nat.lt_of_lt_of_le zb hwu.size
  have n0 := below_cell hwu n0
  have n1 := below_cell hwu n1
  have n2 := below_cell hwu n2
  have n3 := below_cell hwu n3
  have n4 := below_cell hwu n4
  have n5 := below_cell hwu n5
  go_wp2_with fail
  refine ((hG _).out).mono ?_
  rintro e wG ⟨rfl, rfl⟩
  go_wp2_with fail
  refine ((hG _).out).mono ?_
  rintro e wG ⟨rfl, rfl⟩
  go_wp2
  refine wp_region_quietB (by kernel_rfl) (by kernel_rfl) ?_
  repeat (first | go_big_quiet_step (fail) | quiet_step (fail))
  refine wpQuiet_nil ?_
  rintro _ ⟨u, rfl⟩
  have HRv := Lib.hid ((u.below.block _ zu).trans HRu.out)
  have HJv := Lib.hid ((u.below.block _ zju).trans HJu.out)
  have hwv : Below W.heap.size W u.val := below_trans hwu u.below
  have hub := u.below
  clear e0 e1 e2 f0 f1 f2 c0 c4 zu zju zb9 HRu HJu hwu
  generalize u.val = w8 at *
  clear u
  have HRu := HRv
  have HJu := HJv
  have hwu := hwv
  clear HRv HJv hwv
  have c0 := (blk_cell HJu.out 0).trans rfl
  have c4 := (blk_cell HJu.out 4).trans rfl
  have e0 := (blk_cell HRu.out 0).trans rfl
  have e1 := (blk_cell HRu.out 1).trans rfl
  have e2 := (blk_cell HRu.out 2).trans rfl
  have f0 := blk_free HRu.out 0
  have f1 := blk_free HRu.out 1
  have f2 := blk_free HRu.out 2
  have zu := blk_lt HRu.out
  have zju := blk_lt HJu.out
  have zb9 := Nat.lt_of_lt_of_le zb hwu.size
  simp only [List.getElem?_toArray, List.getElem?_cons_zero, List.getElem?_cons_succ] at c0 c4 e0 e1 e2
  have n0 := below_cell hub n0
  have n1 := below_cell hub n1
  have n2 := below_cell hub n2
  have n3 := below_cell hub n3
  have n4 := below_cell hub n4
  have n5 := below_cell hub n5
  clear hub
  go_wp2
  refine wp_region_grow [0, 1, 2, 3, 4, 5, 6, 7, 8, 9, 10, 11, 12, 13] 14 [] (pick [IsV (.slice (some ⟨b, off, none⟩) 6 c), IsV (.pointer (some ⟨b, off, none⟩)), IsV (.int .i64 x0), IsV (.int .i64 (2 * x0)), IsV (.int .i64 (x5 - x4)), IsV (.int .i64 m5), IsV (.slice (some ⟨b, off, none⟩) 6 c), IsV (.pointer (some ⟨b, off, none⟩)), IsV (.int .i64 x0), IsV (.int .i64 (2 * x0)), IsV (.int .i64 (x3 - x2)), IsV (.int .i64 m6), IsV (.agg #[.int .i64 0, .int .i64 m5, .int .i64 m6]), IsBx w8.heap.size 22 #[.int .i64 0, .int .i64 0, .int .i64 0]]) (by kernel_rfl) (by kernel_rfl) (Stabs.pick (by repeat (first | exact Stabs.nil | refine Stabs.cons (by first | exact stab_v _ | exact stab_l _ | exact stab_bx _ _ _ | exact stab_gd (by first | exact stab_v _ | exact stab_l _)) ?_))) ?_
  try go_frame
  refine wgs rfl rfl (by simp) (fun w' hb' hR K hK => ?_) (fun o0 => ?_)
  · clear hR
    go_simp
    exact hK _ _ (Below.refl _ _) rfl
  try go_frame
  refine wgs rfl rfl (by simp) (fun w' hb' hR K hK => ?_) (fun o1 => ?_)
  · obtain rfl : o0 = .slice (some ⟨b, off, none⟩) 6 c := hR 0 (by kernel_rfl)
    clear hR
    go_simp
    exact hK _ _ (Below.refl _ _) rfl
  try go_frame
  refine wgs rfl rfl (by simp) (fun w' hb' hR K hK => ?_) (fun o2 => ?_)
  · obtain rfl : o1 = .pointer (some ⟨b, off, none⟩) := hR 1 (by kernel_rfl)
    clear hR
    have cc := below_cell hb' n0
    have zz := World.block_lt_of_cell? w' _ cc
    simp only at zz
    go_simp
    exact hK _ _ (Below.refl _ _) rfl
  try go_frame
  refine wgs rfl rfl (by simp) (fun w' hb' hR K hK => ?_) (fun o3 => ?_)
  · obtain rfl : o2 = .int .i64 x0 := hR 2 (by kernel_rfl)
    clear hR
    go_simp
    exact hK _ _ (Below.refl _ _) rfl
  try go_frame
  refine wgs rfl rfl (by simp) (fun w' hb' hR K hK => ?_) (fun o4 => ?_)
  · clear hR
    go_simp
    exact hK _ _ (Below.refl _ _) rfl
  try go_frame
  refine wgs rfl rfl (by simp) (fun w' hb' hR K hK => ?_) (fun o5 => ?_)
  · obtain rfl : o3 = .int .i64 (2 * x0) := hR 3 (by kernel_rfl)
    obtain rfl : o4 = .int .i64 (x5 - x4) := hR 4 (by kernel_rfl)
    clear hR
    go_simp
    exact hK _ _ (Below.refl _ _) rfl
  try go_frame
  refine wgs rfl rfl (by simp) (fun w' hb' hR K hK => ?_) (fun o6 => ?_)
  · clear hR
    go_simp
    exact hK _ _ (Below.refl _ _) rfl
  try go_frame
  refine wgs rfl rfl (by simp) (fun w' hb' hR K hK => ?_) (fun o7 => ?_)
  · obtain rfl : o6 = .slice (some ⟨b, off, none⟩) 6 c := hR 6 (by kernel_rfl)
    clear hR
    go_simp
    exact hK _ _ (Below.refl _ _) rfl
  try go_frame
  refine wgs rfl rfl (by simp) (fun w' hb' hR K hK => ?_) (fun o8 => ?_)
  · obtain rfl : o7 = .pointer (some ⟨b, off, none⟩) := hR 7 (by kernel_rfl)
    clear hR
    have cc := below_cell hb' n0
    have zz := World.block_lt_of_cell? w' _ cc
    simp only at zz
    go_simp
    exact hK _ _ (Below.refl _ _) rfl
  try go_frame
  refine wgs rfl rfl (by simp) (fun w' hb' hR K hK => ?_) (fun o9 => ?_)
  · obtain rfl : o8 = .int .i64 x0 := hR 8 (by kernel_rfl)
    clear hR
    go_simp
    exact hK _ _ (Below.refl _ _) rfl
  try go_frame
  refine wgs rfl rfl (by simp) (fun w' hb' hR K hK => ?_) (fun o10 => ?_)
  · clear hR
    go_simp
    exact hK _ _ (Below.refl _ _) rfl
  try go_frame
  refine wgs rfl rfl (by simp) (fun w' hb' hR K hK => ?_) (fun o11 => ?_)
  · obtain rfl : o9 = .int .i64 (2 * x0) := hR 9 (by kernel_rfl)
    obtain rfl : o10 = .int .i64 (x3 - x2) := hR 10 (by kernel_rfl)
    clear hR
    go_simp
    exact hK _ _ (Below.refl _ _) rfl
  try go_frame
  refine wgs rfl rfl (by simp) (fun w' hb' hR K hK => ?_) (fun o12 => ?_)
  · obtain rfl : o5 = .int .i64 m5 := hR 5 (by kernel_rfl)
    obtain rfl : o11 = .int .i64 m6 := hR 11 (by kernel_rfl)
    clear hR
    go_simp
    exact hK _ _ (Below.refl _ _) rfl
  try go_frame
  refine wgs rfl rfl (by simp) (fun w' hb' hR K hK => ?_) (fun o13 => ?_)
  · clear hR
    have zz := hb'.size
    go_simp
    exact hK _ _ (by (repeat (first | exact brf | assumption | refine ble ?_ | refine blx ?_ | refine bla ?_ | refine bls ?_ | refine bld ?_))) ⟨_, rfl, zz, heap_new rfl⟩
  try go_frame
  refine wpG_nil (fun w' hb' hR => ?_)
  obtain rfl : o12 = _ := hR 12 (by simp)
  obtain ⟨gb, rfl, hgb, hGB⟩ : IsBx w8.heap.size 22 #[.int .i64 0, .int .i64 0, .int .i64 0] o13 w' := hR 13 (by simp)
  clear hR
  have HGB := Lib.hid hGB
  clear hGB
  have HRv := Lib.hid ((hb'.block _ zu).trans HRu.out)
  have hwv : Below W.heap.size W w' := below_trans hwu hb'
  clear e0 e1 e2 f0 f1 f2
  have e0 := (blk_cell HRv.out 0).trans rfl
  have e1 := (blk_cell HRv.out 1).trans rfl
  have e2 := (blk_cell HRv.out 2).trans rfl
  have f0 := blk_free HRv.out 0
  have f1 := blk_free HRv.out 1
  have f2 := blk_free HRv.out 2
  have zv := blk_lt HRv.out
  have s0 := (blk_cell HGB.out 0).trans rfl
  have s1 := (blk_cell HGB.out 1).trans rfl
  have s2 := (blk_cell HGB.out 2).trans rfl
  have t0 := blk_free HGB.out 0
  have t1 := blk_free HGB.out 1
  have t2 := blk_free HGB.out 2
  have zg := blk_lt HGB.out
  have hne : ¬ W.heap.size + 1 = gb := by omega
  have hne' : ¬ gb = W.heap.size + 1 := by omega
  have hWg : W.heap.size ≤ gb := by omega
  simp only [List.getElem?_toArray, List.getElem?_cons_zero, List.getElem?_cons_succ] at e0 e1 e2 s0 s1 s2
  simp only [opsAt, List.filterMap_cons, List.filterMap_nil, List.getElem?_toArray, List.getElem?_cons_zero, List.getElem?_cons_succ]
  go_wp2
  refine NoPanic.normal ?_
  by_cases hx : x1 = 0
  · have hxb : (x1 == 0) = true := by simpa using hx
    go_wp2
    refine bodyPost_ret (v := .agg #[.int .i64 m3, .int .i64 m5, .int .i64 m6]) (by simp [results, Tryz.results37, go_sem, e0, e1, e2]) rfl ⟨?_, ?_⟩
    · exact retA3_eq (by rw [← Hm3.out]; simp [tightV, hx]) Hm5.out.symm Hm6.out.symm
    · repeat (refine Below.setCell ?_ (by first | exact hWg | (simp; done)) _)
      exact hwv
  · have hxb : (x1 == 0) = false := by simpa using hx
    go_wp2
    refine bodyPost_ret (v := .agg #[.int .i64 0, .int .i64 m5, .int .i64 m6]) (by simp [results, Tryz.results37, go_sem, e0, e1, e2]) rfl ⟨?_, ?_⟩
    · exact retA3_eq (by simp [tightV, hx]) Hm5.out.symm Hm6.out.symm
    · repeat (refine Below.setCell ?_ (by first | exact hWg | (simp; done)) _)
      exact hwv
end
/- The reference of joints: Area (written by gen_rarea.py). -/
section
open Go.RowKit Go.Shelf
attribute [local go_sem] Ext.cell Ext.frozen
theorem retA3XQ6b_eq {x y z x' y' z' : Int} (h1 : x = x') (h2 : y = y') (h3 : z = z') : Ending.returned (.agg #[.int .i64 x, .int .i64 y, .int .i64 z]) = .returned (areaV (x', y', z')) := by rw [h1, h2, h3]; rfl
set_option linter.unusedVariables false in
set_option maxRecDepth 100000 in
set_option maxHeartbeats 4000000 in
theorem rArea_4 (l w t : Int) (nv : Value) (n : List Int) (W : World) (hn : Ints W nv n) (hlen : n.length = 4) (hl : 1 ≤ l ∧ l ≤ 100000) (hw : 1 ≤ w ∧ w ≤ 100000) (ht : 1 ≤ t ∧ t ≤ 100000) (hb : ∀ i, i < n.length → -100000 ≤ n.getD i 0 ∧ n.getD i 0 ≤ 100000) :
    Calls Tryz.prog 37 #[vJ 4 l w t nv] W (Ret W (areaV (tightV (w * (n.getD 3 0 - n.getD 2 0)) (n.getD 1 0), 0, 2 * n.getD 0 0 * w))) := by
  have hG := fun W' => Lib.hid (gap_any 4 W')
  rw [show gapAt 4 = 1 from rfl] at hG
  have HN := Lib.hid hn
  unfold vJ at *
  obtain ⟨b, off, c, rfl, hcc, zb, hi⟩ := hn.at' (by omega)
  have n0 := hi 0 (by omega)
  have n1 := hi 1 (by omega)
  have n2 := hi 2 (by omega)
  have n3 := hi 3 (by omega)
  rw [Nat.add_zero] at n0
  have b0 := hb 0 (by omega)
  have b1 := hb 1 (by omega)
  have b2 := hb 2 (by omega)
  have b3 := hb 3 (by omega)
  rw [hlen]
  generalize n.getD 0 0 = x0 at *
  generalize n.getD 1 0 = x1 at *
  generalize n.getD 2 0 = x2 at *
  generalize n.getD 3 0 = x3 at *
  clear hi hn hb hcc
  have w1 : wrap64 (x3 - x2) = x3 - x2 := by unfold wrap64; omega
  have v1 : IntKind.i64.wrap (x3 - x2) = x3 - x2 := IntWalk.i64_in _ (by omega)
  have p2 := mul_bd (a := w) (x := x3 - x2) (A := 100000) (X := 200000) (by omega) (by omega) (by omega) (by omega)
  obtain ⟨m2, Hm2⟩ : ∃ m2, Hid (w * (x3 - x2) = m2) := ⟨_, Lib.hid rfl⟩
  rw [Hm2.out] at p2
  have w2 : wrap64 (w * (x3 - x2)) = m2 := by rw [Hm2.out]; unfold wrap64; omega
  have v2 : IntKind.i64.wrap (w * (x3 - x2)) = m2 := (IntWalk.i64_in _ (by rw [Hm2.out]; omega)).trans Hm2.out
  -- a is m2
  have w3 : wrap64 (2 * x0) = 2 * x0 := by unfold wrap64; omega
  have v3 : IntKind.i64.wrap (2 * x0) = 2 * x0 := IntWalk.i64_in _ (by omega)
  have p4 := mul_bd (a := 2 * x0) (x := w) (A := 200000) (X := 100000) (by omega) (by omega) (by omega) (by omega)
  obtain ⟨m4, Hm4⟩ : ∃ m4, Hid ((2 * x0) * w = m4) := ⟨_, Lib.hid rfl⟩
  rw [Hm4.out] at p4
  have w4 : wrap64 ((2 * x0) * w) = m4 := by rw [Hm4.out]; unfold wrap64; omega
  have v4 : IntKind.i64.wrap ((2 * x0) * w) = m4 := (IntWalk.i64_in _ (by rw [Hm4.out]; omega)).trans Hm4.out
  -- b is m4
  obtain ⟨V, HV⟩ : ∃ V, Hid ((W.alloc (.cells #[.int .i64 4, .int .i64 l, .int .i64 w, .int .i64 t, .slice (some ⟨b, off, none⟩) 4 c] 25)).alloc (.cells #[.int .i64 0, .int .i64 0, .int .i64 0] 22) = V) := ⟨_, Lib.hid rfl⟩
  have hV : Below W.heap.size W V := by rw [← HV.out]; (repeat (first | exact brf | assumption | refine ble ?_ | refine blx ?_ | refine bla ?_ | refine bls ?_ | refine bld ?_))
  have HJ : Hid (V.heap[W.heap.size]? = some (.cells #[.int .i64 4, .int .i64 l, .int .i64 w, .int .i64 t, .slice (some ⟨b, off, none⟩) 4 c] 25 (0, 0))) := Lib.hid (by rw [← HV.out]; exact (heap_old (by simp)).trans (heap_new rfl))
  have HR : Hid (V.heap[W.heap.size + 1]? = some (.cells #[.int .i64 0, .int .i64 0, .int .i64 0] 22 (0, 0))) := Lib.hid (by rw [← HV.out]; exact heap_new (by simp))
  have zV := blk_lt HJ.out
  have zR := blk_lt HR.out
  obtain ⟨c0, c1, c2, c3, c4, _, _⟩ := blk5 HJ.out
  go_enter Tryz.func37, Tryz.ntmps37
  go_wp2
  rw [HV.out]
  refine wp_region_quietB (by kernel_rfl) (by kernel_rfl) ?_
  repeat (first | go_big_quiet_step (fail) | quiet_step (fail))
  refine wpQuiet_nil ?_
  rintro _ ⟨u, rfl⟩
  have HJu := Lib.hid ((u.below.block _ zV).trans HJ.out)
  have HRu := Lib.hid ((u.below.block _ zR).trans HR.out)
  have hwu : Below W.heap.size W u.val := below_trans hV u.below
  clear c0 c1 c2 c3 c4
  generalize u.val = w9 at *
  clear u
  obtain ⟨c0, c1, c2, c3, c4, _, zju⟩ := blk5 HJu.out
  obtain ⟨e0, e1, e2, f0, zu⟩ := blk3 HRu.out
  have f1 := f0 1
  have f2 := f0 2
  have zb9 := Nat.lt_of_lt_of_le zb hwu.size
  have n0 := below_cell hwu n0
  have n1 := below_cell hwu n1
  have n2 := below_cell hwu n2
  have n3 := below_cell hwu n3
  go_wp2_with fail
  refine ((hG _).out).mono ?_
  rintro e wG ⟨rfl, rfl⟩
  go_wp2_with fail
  refine ((hG _).out).mono ?_
  rintro e wG ⟨rfl, rfl⟩
  by_cases hx : x1 = 0
  · have hxb : (x1 == 0) = true := by simpa using hx
    go_wp2
    refine wp_region_tailB 9 (by kernel_rfl) (by kernel_rfl) ?_
    simp only [List.take_succ_cons, List.take_zero, List.drop_succ_cons, List.drop_zero]
    repeat (first | go_big_quiet_step (fail) | quiet_step (fail))
    refine wpQuiet_nil ?_
    rintro _ ⟨u, rfl⟩
    have HG := Lib.hid ((u.below.block w9.heap.size (by simp)).trans (heap_new rfl))
    have hwv : Below W.heap.size W u.val := by (repeat (first | exact brf | assumption | refine ble ?_ | refine blx ?_ | refine bla ?_ | refine bls ?_ | refine bld ?_))
    have HRv := Lib.hid (((show Below w9.heap.size w9 u.val by (repeat (first | exact brf | assumption | refine ble ?_ | refine blx ?_ | refine bla ?_ | refine bls ?_ | refine bld ?_))).block _ zu).trans HRu.out)
    clear e0 e1 e2 f0 f1 f2
    have e0 := (blk_cell HRv.out 0).trans rfl
    have e1 := (blk_cell HRv.out 1).trans rfl
    have e2 := (blk_cell HRv.out 2).trans rfl
    have f0 := blk_free HRv.out 0
    have f1 := blk_free HRv.out 1
    have f2 := blk_free HRv.out 2
    have zv := blk_lt HRv.out
    have s0 := (blk_cell HG.out 0).trans rfl
    have s1 := (blk_cell HG.out 1).trans rfl
    have s2 := (blk_cell HG.out 2).trans rfl
    have t0 := blk_free HG.out 0
    have zg := blk_lt HG.out
    simp only [List.getElem?_toArray, List.getElem?_cons_zero, List.getElem?_cons_succ] at e0 e1 e2 s0 s1 s2
    have hne : ¬ W.heap.size + 1 = w9.heap.size := by omega
    have hWg : W.heap.size ≤ w9.heap.size := hwu.size
    go_wp2
    refine bodyPost_ret (v := .agg #[.int .i64 m2, .int .i64 0, .int .i64 m4]) (by simp [results, Tryz.results37, go_sem, e0, e1, e2]) rfl ⟨?_, ?_⟩
    · exact retA3_eq (by rw [← Hm2.out]; simp [tightV, hx]) rfl Hm4.out.symm
    · (repeat (first | exact brf | assumption | refine ble ?_ | refine blx ?_ | refine bla ?_ | refine bls ?_ | refine bld ?_))
  · have hxb : (x1 == 0) = false := by simpa using hx
    go_wp2
    have HF := Lib.hid ((heap_old (o := .cells #[.int .i64 (0), .int .i64 (0), .int .i64 (m4)] 22) (by simp; omega)).trans (blk_set (blk_set (blk_set HRu.out 0 (.int .i64 (0))) 1 (.int .i64 (0))) 2 (.int .i64 (m4))))
    have r0 := (blk_cell HF.out 0).trans rfl
    have r1 := (blk_cell HF.out 1).trans rfl
    have r2 := (blk_cell HF.out 2).trans rfl
    simp at r0 r1 r2
    refine bodyPost_ret (v := .agg #[.int .i64 0, .int .i64 0, .int .i64 m4]) (by simp [results, Tryz.results37, go_sem, r0, r1, r2]) rfl ⟨?_, ?_⟩
    · exact retA3_eq (by simp [tightV, hx]) rfl Hm4.out.symm
    · (repeat (first | exact brf | assumption | refine ble ?_ | refine blx ?_ | refine bla ?_ | refine bls ?_ | refine bld ?_))
end
/- The reference of joints: Area (written by gen_rarea.py). -/
section
open Go.RowKit Go.Shelf
attribute [local go_sem] Ext.cell Ext.frozen
theorem retA3XQ6c_eq {x y z x' y' z' : Int} (h1 : x = x') (h2 : y = y') (h3 : z = z') : Ending.returned (.agg #[.int .i64 x, .int .i64 y, .int .i64 z]) = .returned (areaV (x', y', z')) := by rw [h1, h2, h3]; rfl
set_option linter.unusedVariables false in
set_option maxRecDepth 100000 in
set_option maxHeartbeats 4000000 in
theorem rArea_8 (l w t : Int) (nv : Value) (n : List Int) (W : World) (hn : Ints W nv n) (kk : Nat) (hlen : n.length = 6 + 2 * kk) (hk1 : 1 ≤ kk) (hk : kk ≤ 24) (hl : 1 ≤ l ∧ l ≤ 100000) (hw : 1 ≤ w ∧ w ≤ 100000) (ht : 1 ≤ t ∧ t ≤ 100000) (hb : ∀ i, i < n.length → -100000 ≤ n.getD i 0 ∧ n.getD i 0 ≤ 100000) :
    Calls Tryz.prog 37 #[vJ 8 l w t nv] W (Ret W (areaV (w * t - (kk : Int) * octo n + tightV (2 * (kk : Int) * octo n) (n.getD 5 0), 4 * (kk : Int) * n.getD 1 0 * (n.getD 3 0 + n.getD 4 0), 4 * (kk : Int) * n.getD 1 0 * (n.getD 3 0 + n.getD 4 0)))) := by
  have hG := fun W' => Lib.hid (gap_any 8 W')
  rw [show gapAt 8 = 5 from rfl] at hG
  have HN := Lib.hid hn
  unfold vJ at *
  obtain ⟨b, off, c, rfl, hcc, zb, hi⟩ := hn.at' (by omega)
  have n1 := hi 1 (by omega)
  have n2 := hi 2 (by omega)
  have n3 := hi 3 (by omega)
  have n4 := hi 4 (by omega)
  have n5 := hi 5 (by omega)
  have b1 := hb 1 (by omega)
  have b2 := hb 2 (by omega)
  have b3 := hb 3 (by omega)
  have b4 := hb 4 (by omega)
  have b5 := hb 5 (by omega)
  have hLo := fun W' h => Lib.hid (rLoose_any 8 l w t _ n W' (HN.out.below (w' := W') h) (by omega) (fun _ => by omega))
  rw [show (looseN 8 n : Int) = (kk : Int) by unfold looseN; rw [hlen]; simp] at hLo
  unfold vJ at hLo
  unfold octo
  rw [hlen] at hLo ⊢
  obtain ⟨q, Hq⟩ : ∃ q, Hid (6 + 2 * kk = q) := ⟨_, Lib.hid rfl⟩
  rw [Hq.out] at hLo ⊢
  have q1 : (1 : Int) < (q : Int) := by have := Hq.out; omega
  have q2 : (2 : Int) < (q : Int) := by have := Hq.out; omega
  have q3 : (3 : Int) < (q : Int) := by have := Hq.out; omega
  have q4 : (4 : Int) < (q : Int) := by have := Hq.out; omega
  have q5 : (5 : Int) < (q : Int) := by have := Hq.out; omega
  generalize n.getD 1 0 = x1 at *
  generalize n.getD 2 0 = x2 at *
  generalize n.getD 3 0 = x3 at *
  generalize n.getD 4 0 = x4 at *
  generalize n.getD 5 0 = x5 at *
  clear hi hn hb hcc
  have w1 : wrap64 (4 * x1) = 4 * x1 := by unfold wrap64; omega
  have v1 : IntKind.i64.wrap (4 * x1) = 4 * x1 := IntWalk.i64_in _ (by omega)
  have p2 := mul_bd (a := 4 * x1) (x := x1) (A := 400000) (X := 100000) (by omega) (by omega) (by omega) (by omega)
  obtain ⟨m2, Hm2⟩ : ∃ m2, Hid ((4 * x1) * x1 = m2) := ⟨_, Lib.hid rfl⟩
  rw [Hm2.out] at p2
  have w2 : wrap64 ((4 * x1) * x1) = m2 := by rw [Hm2.out]; unfold wrap64; omega
  have v2 : IntKind.i64.wrap ((4 * x1) * x1) = m2 := (IntWalk.i64_in _ (by rw [Hm2.out]; omega)).trans Hm2.out
  have w3 : wrap64 (2 * x1) = 2 * x1 := by unfold wrap64; omega
  have v3 : IntKind.i64.wrap (2 * x1) = 2 * x1 := IntWalk.i64_in _ (by omega)
  have w4 : wrap64 (2 * x1 - x2) = 2 * x1 - x2 := by unfold wrap64; omega
  have v4 : IntKind.i64.wrap (2 * x1 - x2) = 2 * x1 - x2 := IntWalk.i64_in _ (by omega)
  have w5 : wrap64 (2 * (2 * x1 - x2)) = 2 * (2 * x1 - x2) := by unfold wrap64; omega
  have v5 : IntKind.i64.wrap (2 * (2 * x1 - x2)) = 2 * (2 * x1 - x2) := IntWalk.i64_in _ (by omega)
  have p6 := mul_bd (a := 2 * (2 * x1 - x2)) (x := 2 * x1 - x2) (A := 600000) (X := 300000) (by omega) (by omega) (by omega) (by omega)
  obtain ⟨m6, Hm6⟩ : ∃ m6, Hid ((2 * (2 * x1 - x2)) * (2 * x1 - x2) = m6) := ⟨_, Lib.hid rfl⟩
  rw [Hm6.out] at p6
  have w6 : wrap64 ((2 * (2 * x1 - x2)) * (2 * x1 - x2)) = m6 := by rw [Hm6.out]; unfold wrap64; omega
  have v6 : IntKind.i64.wrap ((2 * (2 * x1 - x2)) * (2 * x1 - x2)) = m6 := (IntWalk.i64_in _ (by rw [Hm6.out]; omega)).trans Hm6.out
  have w7 : wrap64 (m2 - m6) = m2 - m6 := by unfold wrap64; omega
  have v7 : IntKind.i64.wrap (m2 - m6) = m2 - m6 := IntWalk.i64_in _ (by omega)
  -- o is m2 - m6
  have w8 : wrap64 (4 * kk) = 4 * kk := by unfold wrap64; omega
  have v8 : IntKind.i64.wrap (4 * kk) = 4 * kk := IntWalk.i64_in _ (by omega)
  have p9 := mul_bd (a := 4 * kk) (x := x1) (A := 96) (X := 100000) (by omega) (by omega) (by omega) (by omega)
  obtain ⟨m9, Hm9⟩ : ∃ m9, Hid ((4 * kk) * x1 = m9) := ⟨_, Lib.hid rfl⟩
  rw [Hm9.out] at p9
  have w9 : wrap64 ((4 * kk) * x1) = m9 := by rw [Hm9.out]; unfold wrap64; omega
  have v9 : IntKind.i64.wrap ((4 * kk) * x1) = m9 := (IntWalk.i64_in _ (by rw [Hm9.out]; omega)).trans Hm9.out
  have w10 : wrap64 (x3 + x4) = x3 + x4 := by unfold wrap64; omega
  have v10 : IntKind.i64.wrap (x3 + x4) = x3 + x4 := IntWalk.i64_in _ (by omega)
  have p11 := mul_bd (a := m9) (x := x3 + x4) (A := 9600000) (X := 200000) (by omega) (by omega) (by omega) (by omega)
  obtain ⟨m11, Hm11⟩ : ∃ m11, Hid (m9 * (x3 + x4) = m11) := ⟨_, Lib.hid rfl⟩
  rw [Hm11.out] at p11
  have w11 : wrap64 (m9 * (x3 + x4)) = m11 := by rw [Hm11.out]; unfold wrap64; omega
  have v11 : IntKind.i64.wrap (m9 * (x3 + x4)) = m11 := (IntWalk.i64_in _ (by rw [Hm11.out]; omega)).trans Hm11.out
  -- s is m11
  have p12 := mul_bd (a := w) (x := t) (A := 100000) (X := 100000) (by omega) (by omega) (by omega) (by omega)
  obtain ⟨m12, Hm12⟩ : ∃ m12, Hid (w * t = m12) := ⟨_, Lib.hid rfl⟩
  rw [Hm12.out] at p12
  have w12 : wrap64 (w * t) = m12 := by rw [Hm12.out]; unfold wrap64; omega
  have v12 : IntKind.i64.wrap (w * t) = m12 := (IntWalk.i64_in _ (by rw [Hm12.out]; omega)).trans Hm12.out
  have p13 := mul_bd (a := kk) (x := m2 - m6) (A := 24) (X := 220000000000) (by omega) (by omega) (by omega) (by omega)
  obtain ⟨m13, Hm13⟩ : ∃ m13, Hid (kk * (m2 - m6) = m13) := ⟨_, Lib.hid rfl⟩
  rw [Hm13.out] at p13
  have w13 : wrap64 (kk * (m2 - m6)) = m13 := by rw [Hm13.out]; unfold wrap64; omega
  have v13 : IntKind.i64.wrap (kk * (m2 - m6)) = m13 := (IntWalk.i64_in _ (by rw [Hm13.out]; omega)).trans Hm13.out
  have w14 : wrap64 (m12 - m13) = m12 - m13 := by unfold wrap64; omega
  have v14 : IntKind.i64.wrap (m12 - m13) = m12 - m13 := IntWalk.i64_in _ (by omega)
  have w15 : wrap64 (2 * kk) = 2 * kk := by unfold wrap64; omega
  have v15 : IntKind.i64.wrap (2 * kk) = 2 * kk := IntWalk.i64_in _ (by omega)
  have p16 := mul_bd (a := 2 * kk) (x := m2 - m6) (A := 48) (X := 220000000000) (by omega) (by omega) (by omega) (by omega)
  obtain ⟨m16, Hm16⟩ : ∃ m16, Hid ((2 * kk) * (m2 - m6) = m16) := ⟨_, Lib.hid rfl⟩
  rw [Hm16.out] at p16
  have w16 : wrap64 ((2 * kk) * (m2 - m6)) = m16 := by rw [Hm16.out]; unfold wrap64; omega
  have v16 : IntKind.i64.wrap ((2 * kk) * (m2 - m6)) = m16 := (IntWalk.i64_in _ (by rw [Hm16.out]; omega)).trans Hm16.out
  have w17 : wrap64 (m12 - m13 + m16) = m12 - m13 + m16 := by unfold wrap64; omega
  have v17 : IntKind.i64.wrap (m12 - m13 + m16) = m12 - m13 + m16 := IntWalk.i64_in _ (by omega)
  -- a is m12 - m13 + m16
  obtain ⟨V, HV⟩ : ∃ V, Hid ((W.alloc (.cells #[.int .i64 8, .int .i64 l, .int .i64 w, .int .i64 t, .slice (some ⟨b, off, none⟩) q c] 25)).alloc (.cells #[.int .i64 0, .int .i64 0, .int .i64 0] 22) = V) := ⟨_, Lib.hid rfl⟩
  have hV : Below W.heap.size W V := by rw [← HV.out]; (repeat (first | exact brf | assumption | refine ble ?_ | refine blx ?_ | refine bla ?_ | refine bls ?_ | refine bld ?_))
  have HJ : Hid (V.heap[W.heap.size]? = some (.cells #[.int .i64 8, .int .i64 l, .int .i64 w, .int .i64 t, .slice (some ⟨b, off, none⟩) q c] 25 (0, 0))) := Lib.hid (by rw [← HV.out]; exact (heap_old (by simp)).trans (heap_new rfl))
  have HR : Hid (V.heap[W.heap.size + 1]? = some (.cells #[.int .i64 0, .int .i64 0, .int .i64 0] 22 (0, 0))) := Lib.hid (by rw [← HV.out]; exact heap_new (by simp))
  have zV := blk_lt HJ.out
  have zR := blk_lt HR.out
  obtain ⟨c0, c1, c2, c3, c4, _, _⟩ := blk5 HJ.out
  go_enter Tryz.func37, Tryz.ntmps37
  go_wp2
  rw [HV.out]
  refine wp_region_quietB (by kernel_rfl) (by kernel_rfl) ?_
  repeat (first | go_big_quiet_step (fail) | quiet_step (fail))
  refine wpQuiet_nil ?_
  rintro _ ⟨u, rfl⟩
  have HJu := Lib.hid ((u.below.block _ zV).trans HJ.out)
  have HRu := Lib.hid ((u.below.block _ zR).trans HR.out)
  have hwu : Below W.heap.size W u.val := below_trans hV u.below
  clear c0 c1 c2 c3 c4
  generalize u.val = w9 at *
  clear u
  obtain ⟨c0, c1, c2, c3, c4, _, zju⟩ := blk5 HJu.out
  obtain ⟨e0, e1, e2, f0, zu⟩ := blk3 HRu.out
  have f1 := f0 1
  have f2 := f0 2
  have zb9 := Nat.lt_of_lt_of_le zb hwu.size
  have n1 := below_cell hwu n1
  have n2 := below_cell hwu n2
  have n3 := below_cell hwu n3
  have n4 := below_cell hwu n4
  have n5 := below_cell hwu n5
  go_wp2_with fail
  refine ((hG _).out).mono ?_
  rintro e wG ⟨rfl, rfl⟩
  go_wp2_with fail
  refine ((hG _).out).mono ?_
  rintro e wG ⟨rfl, rfl⟩
  go_wp2
  refine wp_region_quietB (by kernel_rfl) (by kernel_rfl) ?_
  repeat (first | go_big_quiet_step ((go_at_call 19; exact quietB_ret ((hLo _ (below_trans hwu (Ext.below _))).out))) | quiet_step ((go_at_call 19; exact quietB_ret ((hLo _ (below_trans hwu (Ext.below _))).out))))
  refine wpQuiet_nil ?_
  rintro _ ⟨u, rfl⟩
  have HRv := Lib.hid ((u.below.block _ zu).trans HRu.out)
  have HJv := Lib.hid ((u.below.block _ zju).trans HJu.out)
  have hwv : Below W.heap.size W u.val := below_trans hwu u.below
  have hub := u.below
  clear e0 e1 e2 f0 f1 f2 c0 c4 zu zju zb9 HRu HJu hwu
  generalize u.val = w8 at *
  clear u
  have HRu := HRv
  have HJu := HJv
  have hwu := hwv
  clear HRv HJv hwv
  have c0 := (blk_cell HJu.out 0).trans rfl
  have c4 := (blk_cell HJu.out 4).trans rfl
  have e0 := (blk_cell HRu.out 0).trans rfl
  have e1 := (blk_cell HRu.out 1).trans rfl
  have e2 := (blk_cell HRu.out 2).trans rfl
  have f0 := blk_free HRu.out 0
  have f1 := blk_free HRu.out 1
  have f2 := blk_free HRu.out 2
  have zu := blk_lt HRu.out
  have zju := blk_lt HJu.out
  have zb9 := Nat.lt_of_lt_of_le zb hwu.size
  simp only [List.getElem?_toArray, List.getElem?_cons_zero, List.getElem?_cons_succ] at c0 c4 e0 e1 e2
  have n1 := below_cell hub n1
  have n2 := below_cell hub n2
  have n3 := below_cell hub n3
  have n4 := below_cell hub n4
  have n5 := below_cell hub n5
  clear hub
  go_wp2
  refine wp_region_quietB (by kernel_rfl) (by kernel_rfl) ?_
  repeat (first | go_big_quiet_step (fail) | quiet_step (fail))
  refine wpQuiet_nil ?_
  rintro _ ⟨u, rfl⟩
  have HRv := Lib.hid ((u.below.block _ zu).trans HRu.out)
  have HJv := Lib.hid ((u.below.block _ zju).trans HJu.out)
  have hwv : Below W.heap.size W u.val := below_trans hwu u.below
  have hub := u.below
  clear e0 e1 e2 f0 f1 f2 c0 c4 zu zju zb9 HRu HJu hwu
  generalize u.val = w8 at *
  clear u
  have HRu := HRv
  have HJu := HJv
  have hwu := hwv
  clear HRv HJv hwv
  have c0 := (blk_cell HJu.out 0).trans rfl
  have c4 := (blk_cell HJu.out 4).trans rfl
  have e0 := (blk_cell HRu.out 0).trans rfl
  have e1 := (blk_cell HRu.out 1).trans rfl
  have e2 := (blk_cell HRu.out 2).trans rfl
  have f0 := blk_free HRu.out 0
  have f1 := blk_free HRu.out 1
  have f2 := blk_free HRu.out 2
  have zu := blk_lt HRu.out
  have zju := blk_lt HJu.out
  have zb9 := Nat.lt_of_lt_of_le zb hwu.size
  simp only [List.getElem?_toArray, List.getElem?_cons_zero, List.getElem?_cons_succ] at c0 c4 e0 e1 e2
  clear hub
  by_cases hx : x5 = 0
  · have hxb : (x5 == 0) = true := by simpa using hx
    go_wp2
    have HF := Lib.hid ((heap_old (o := .cells #[.int .i64 (m12 - m13 + m16), .int .i64 (m11), .int .i64 (m11)] 22) (by simp; omega)).trans (blk_set (blk_set (blk_set HRu.out 0 (.int .i64 (m12 - m13 + m16))) 1 (.int .i64 (m11))) 2 (.int .i64 (m11))))
    have r0 := (blk_cell HF.out 0).trans rfl
    have r1 := (blk_cell HF.out 1).trans rfl
    have r2 := (blk_cell HF.out 2).trans rfl
    simp at r0 r1 r2
    refine bodyPost_ret (v := .agg #[.int .i64 (m12 - m13 + m16), .int .i64 m11, .int .i64 m11]) (by simp [results, Tryz.results37, go_sem, r0, r1, r2]) rfl ⟨?_, ?_⟩
    · exact retA3_eq (by rw [← Hm12.out, ← Hm13.out, ← Hm2.out, ← Hm6.out]; rw [← Hm16.out, ← Hm2.out, ← Hm6.out]; simp [tightV, hx]) (by rw [← Hm11.out, ← Hm9.out]) (by rw [← Hm11.out, ← Hm9.out])
    · (repeat (first | exact brf | assumption | refine ble ?_ | refine blx ?_ | refine bla ?_ | refine bls ?_ | refine bld ?_))
  · have hxb : (x5 == 0) = false := by simpa using hx
    go_wp2
    have HF := Lib.hid ((heap_old (o := .cells #[.int .i64 (m12 - m13), .int .i64 (m11), .int .i64 (m11)] 22) (by simp; omega)).trans (blk_set (blk_set (blk_set HRu.out 0 (.int .i64 (m12 - m13))) 1 (.int .i64 (m11))) 2 (.int .i64 (m11))))
    have r0 := (blk_cell HF.out 0).trans rfl
    have r1 := (blk_cell HF.out 1).trans rfl
    have r2 := (blk_cell HF.out 2).trans rfl
    simp at r0 r1 r2
    refine bodyPost_ret (v := .agg #[.int .i64 (m12 - m13), .int .i64 m11, .int .i64 m11]) (by simp [results, Tryz.results37, go_sem, r0, r1, r2]) rfl ⟨?_, ?_⟩
    · exact retA3_eq (by rw [← Hm12.out, ← Hm13.out, ← Hm2.out, ← Hm6.out]; simp [tightV, hx]) (by rw [← Hm11.out, ← Hm9.out]) (by rw [← Hm11.out, ← Hm9.out])
    · (repeat (first | exact brf | assumption | refine ble ?_ | refine blx ?_ | refine bla ?_ | refine bls ?_ | refine bld ?_))
end
end Go.Proofs.YtjglkglaogaenaaGreatDoor
