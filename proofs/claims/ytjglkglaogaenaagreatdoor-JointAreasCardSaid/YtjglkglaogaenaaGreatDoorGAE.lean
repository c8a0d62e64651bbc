/- texts of mine, merged: Q5. -/
import Derived.Test.YtjglkglaogaenaaGreatDoorGAD
/- The reference of joints: Area (written by gen_rarea.py). -/
namespace Go.Proofs.YtjglkglaogaenaaGreatDoor
open Go.RowKit Go.Shelf
attribute [local go_sem] Ext.cell Ext.frozen
theorem retA3_eq {x y z x' y' z' : Int} (h1 : x = x') (h2 : y = y') (h3 : z = z') : Ending.returned (.agg #[.int .i64 x, .int .i64 y, .int .i64 z]) = .returned (areaV (x', y', z')) := by rw [h1, h2, h3]; rfl

set_option linter.unusedVariables false in
set_option maxRecDepth 100000 in
set_option maxHeartbeats 4000000 in
theorem rArea_0 (l w t : Int) (nv : Value) (n : List Int) (W : World) (hn : Ints W nv n) (hlen : n.length = 1) (hl : 1 ≤ l ∧ l ≤ 100000) (hw : 1 ≤ w ∧ w ≤ 100000) (ht : 1 ≤ t ∧ t ≤ 100000) (hb : ∀ i, i < n.length → -100000 ≤ n.getD i 0 ∧ n.getD i 0 ≤ 100000) :
    Calls Tryz.prog 37 #[vJ 0 l w t nv] W (Ret W (areaV (0, 0, l * w))) := by
  have hG := fun W' => Lib.hid (gap_any 0 W')
  rw [show gapAt 0 = -1 from rfl] at hG
  have HN := Lib.hid hn
  unfold vJ at *
  obtain ⟨b, off, c, rfl, hcc, zb, hi⟩ := hn.at' (by omega)
  rw [hlen]
  clear hi hn hb hcc
  have p1 := mul_bd (a := l) (x := w) (A := 100000) (X := 100000) (by omega) (by omega) (by omega) (by omega)
  obtain ⟨m1, Hm1⟩ : ∃ m1, Hid (l * w = m1) := ⟨_, Lib.hid rfl⟩
  rw [Hm1.out] at p1
  have w1 : wrap64 (l * w) = m1 := by rw [Hm1.out]; unfold wrap64; omega
  have v1 : IntKind.i64.wrap (l * w) = m1 := (IntWalk.i64_in _ (by rw [Hm1.out]; omega)).trans Hm1.out
  -- a is m1
  obtain ⟨V, HV⟩ : ∃ V, Hid ((W.alloc (.cells #[.int .i64 0, .int .i64 l, .int .i64 w, .int .i64 t, .slice (some ⟨b, off, none⟩) 1 c] 25)).alloc (.cells #[.int .i64 0, .int .i64 0, .int .i64 0] 22) = V) := ⟨_, Lib.hid rfl⟩
  have hV : Below W.heap.size W V := by rw [← HV.out]; (repeat (first | exact brf | assumption | refine ble ?_ | refine blx ?_ | refine bla ?_ | refine bls ?_ | refine bld ?_))
  have HJ : Hid (V.heap[W.heap.size]? = some (.cells #[.int .i64 0, .int .i64 l, .int .i64 w, .int .i64 t, .slice (some ⟨b, off, none⟩) 1 c] 25 (0, 0))) := Lib.hid (by rw [← HV.out]; exact (heap_old (by simp)).trans (heap_new rfl))
  have HR : Hid (V.heap[W.heap.size + 1]? = some (.cells #[.int .i64 0, .int .i64 0, .int .i64 0] 22 (0, 0))) := Lib.hid (by rw [← HV.out]; exact heap_new (by simp))
  have zV := blk_lt HJ.out
  have zR := blk_lt HR.out
  obtain ⟨c0, c1, c2, c3, c4, _, _⟩ := blk5 HJ.out
  go_enter Tryz.func37, Tryz.ntmps37
  go_wp2
  rw [HV.out]
  refine wp_region_quietB (by kernel_rfl) (by kernel_rfl) ?_
  repeat (first | go_big_quiet_step (fail) | quiet_step (fail))
  refine wpQuiet_nil ?_
  rintro _ ⟨u, rfl⟩
  have HJu := Lib.hid ((u.below.block _ zV).trans HJ.out)
  have HRu := Lib.hid ((u.below.block _ zR).trans HR.out)
  have hwu : Below W.heap.size W u.val := below_trans hV u.below
  clear c0 c1 c2 c3 c4
  generalize u.val = w9 at *
  clear u
  obtain ⟨c0, c1, c2, c3, c4, _, zju⟩ := blk5 HJu.out
  obtain ⟨e0, e1, e2, f0, zu⟩ := blk3 HRu.out
  have f1 := f0 1
  have f2 := f0 2
  have zb9 := Nat.lt_of_lt_of_le zb hwu.size
  go_wp2_with fail
  refine ((hG _).out).mono ?_
  rintro e wG ⟨rfl, rfl⟩
  go_wp2
  refine bodyPost_ret (v := .agg #[.int .i64 (0), .int .i64 (0), .int .i64 (m1)]) (by simp [results, Tryz.results37, go_sem, e0, e1, e2]) rfl ⟨?_, ?_⟩
  · exact retA3_eq rfl rfl Hm1.out.symm
  · refine Below.setCell (Below.setCell (Below.setCell hwu ?_ _) ?_ _) ?_ _ <;> simp

set_option linter.unusedVariables false in
set_option maxRecDepth 100000 in
set_option maxHeartbeats 4000000 in
theorem rArea_1 (l w t : Int) (nv : Value) (n : List Int) (W : World) (hn : Ints W nv n) (hlen : n.length = 2) (hl : 1 ≤ l ∧ l ≤ 100000) (hw : 1 ≤ w ∧ w ≤ 100000) (ht : 1 ≤ t ∧ t ≤ 100000) (hb : ∀ i, i < n.length → -100000 ≤ n.getD i 0 ∧ n.getD i 0 ≤ 100000) :
    Calls Tryz.prog 37 #[vJ 1 l w t nv] W (Ret W (areaV (0, 0, 2 * l * w))) := by
  have hG := fun W' => Lib.hid (gap_any 1 W')
  rw [show gapAt 1 = -1 from rfl] at hG
  have HN := Lib.hid hn
  unfold vJ at *
  obtain ⟨b, off, c, rfl, hcc, zb, hi⟩ := hn.at' (by omega)
  rw [hlen]
  clear hi hn hb hcc
  have w1 : wrap64 (2 * l) = 2 * l := by unfold wrap64; omega
  have v1 : IntKind.i64.wrap (2 * l) = 2 * l := IntWalk.i64_in _ (by omega)
  have p2 := mul_bd (a := 2 * l) (x := w) (A := 200000) (X := 100000) (by omega) (by omega) (by omega) (by omega)
  obtain ⟨m2, Hm2⟩ : ∃ m2, Hid ((2 * l) * w = m2) := ⟨_, Lib.hid rfl⟩
  rw [Hm2.out] at p2
  have w2 : wrap64 ((2 * l) * w) = m2 := by rw [Hm2.out]; unfold wrap64; omega
  have v2 : IntKind.i64.wrap ((2 * l) * w) = m2 := (IntWalk.i64_in _ (by rw [Hm2.out]; omega)).trans Hm2.out
  -- a is m2
  obtain ⟨V, HV⟩ : ∃ V, Hid ((W.alloc (.cells #[.int .i64 1, .int .i64 l, .int .i64 w, .int .i64 t, .slice (some ⟨b, off, none⟩) 2 c] 25)).alloc (.cells #[.int .i64 0, .int .i64 0, .int .i64 0] 22) = V) := ⟨_, Lib.hid rfl⟩
  have hV : Below W.heap.size W V := by rw [← HV.out]; (repeat (first | exact brf | assumption | refine ble ?_ | refine blx ?_ | refine bla ?_ | refine bls ?_ | refine bld ?_))
  have HJ : Hid (V.heap[W.heap.size]? = some (.cells #[.int .i64 1, .int .i64 l, .int .i64 w, .int .i64 t, .slice (some ⟨b, off, none⟩) 2 c] 25 (0, 0))) := Lib.hid (by rw [← HV.out]; exact (heap_old (by simp)).trans (heap_new rfl))
  have HR : Hid (V.heap[W.heap.size + 1]? = some (.cells #[.int .i64 0, .int .i64 0, .int .i64 0] 22 (0, 0))) := Lib.hid (by rw [← HV.out]; exact heap_new (by simp))
  have zV := blk_lt HJ.out
  have zR := blk_lt HR.out
  obtain ⟨c0, c1, c2, c3, c4, _, _⟩ := blk5 HJ.out
  go_enter Tryz.func37, Tryz.ntmps37
  go_wp2
  rw [HV.out]
  refine wp_region_quietB (by kernel_rfl) (by kernel_rfl) ?_
  repeat (first | go_big_quiet_step (fail) | quiet_step (fail))
  refine wpQuiet_nil ?_
  rintro _ ⟨u, rfl⟩
  have HJu := Lib.hid ((u.below.block _ zV).trans HJ.out)
  have HRu := Lib.hid ((u.below.block _ zR).trans HR.out)
  have hwu : Below W.heap.size W u.val := below_trans hV u.below
  clear c0 c1 c2 c3 c4
  generalize u.val = w9 at *
  clear u
  obtain ⟨c0, c1, c2, c3, c4, _, zju⟩ := blk5 HJu.out
  obtain ⟨e0, e1, e2, f0, zu⟩ := blk3 HRu.out
  have f1 := f0 1
  have f2 := f0 2
  have zb9 := Nat.lt_of_lt_of_le zb hwu.size
  go_wp2_with fail
  refine ((hG _).out).mono ?_
  rintro e wG ⟨rfl, rfl⟩
  go_wp2
  refine bodyPost_ret (v := .agg #[.int .i64 (0), .int .i64 (0), .int .i64 (m2)]) (by simp [results, Tryz.results37, go_sem, e0, e1, e2]) rfl ⟨?_, ?_⟩
  · exact retA3_eq rfl rfl Hm2.out.symm
  · refine Below.setCell (Below.setCell (Below.setCell hwu ?_ _) ?_ _) ?_ _ <;> simp

set_option linter.unusedVariables false in
set_option maxRecDepth 100000 in
set_option maxHeartbeats 4000000 in
theorem rArea_2 (l w t : Int) (nv : Value) (n : List Int) (W : World) (hn : Ints W nv n) (hlen : n.length = 4) (hl : 1 ≤ l ∧ l ≤ 100000) (hw : 1 ≤ w ∧ w ≤ 100000) (ht : 1 ≤ t ∧ t ≤ 100000) (hb : ∀ i, i < n.length → -100000 ≤ n.getD i 0 ∧ n.getD i 0 ≤ 100000) :
    Calls Tryz.prog 37 #[vJ 2 l w t nv] W (Ret W (areaV (0, 2 * l * (n.getD 3 0 - n.getD 2 0), 2 * l * (n.getD 1 0 - n.getD 0 0)))) := by
  have hG := fun W' => Lib.hid (gap_any 2 W')
  rw [show gapAt 2 = -1 from rfl] at hG
  have HN := Lib.hid hn
  unfold vJ at *
  obtain ⟨b, off, c, rfl, hcc, zb, hi⟩ := hn.at' (by omega)
  have n0 := hi 0 (by omega)
  have n1 := hi 1 (by omega)
  have n2 := hi 2 (by omega)
  have n3 := hi 3 (by omega)
  rw [Nat.add_zero] at n0
  have b0 := hb 0 (by omega)
  have b1 := hb 1 (by omega)
  have b2 := hb 2 (by omega)
  have b3 := hb 3 (by omega)
  rw [hlen]
  generalize n.getD 0 0 = x0 at *
  generalize n.getD 1 0 = x1 at *
  generalize n.getD 2 0 = x2 at *
  generalize n.getD 3 0 = x3 at *
  clear hi hn hb hcc
  have w1 : wrap64 (2 * l) = 2 * l := by unfold wrap64; omega
  have v1 : IntKind.i64.wrap (2 * l) = 2 * l := IntWalk.i64_in _ (by omega)
  have w2 : wrap64 (x3 - x2) = x3 - x2 := by unfold wrap64; omega
  have v2 : IntKind.i64.wrap (x3 - x2) = x3 - x2 := IntWalk.i64_in _ (by omega)
  have p3 := mul_bd (a := 2 * l) (x := x3 - x2) (A := 200000) (X := 200000) (by omega) (by omega) (by omega) (by omega)
  obtain ⟨m3, Hm3⟩ : ∃ m3, Hid ((2 * l) * (x3 - x2) = m3) := ⟨_, Lib.hid rfl⟩
  rw [Hm3.out] at p3
  have w3 : wrap64 ((2 * l) * (x3 - x2)) = m3 := by rw [Hm3.out]; unfold wrap64; omega
  have v3 : IntKind.i64.wrap ((2 * l) * (x3 - x2)) = m3 := (IntWalk.i64_in _ (by rw [Hm3.out]; omega)).trans Hm3.out
  -- a is m3
  have w4 : wrap64 (x1 - x0) = x1 - x0 := by unfold wrap64; omega
  have v4 : IntKind.i64.wrap (x1 - x0) = x1 - x0 := IntWalk.i64_in _ (by omega)
  have p5 := mul_bd (a := 2 * l) (x := x1 - x0) (A := 200000) (X := 200000) (by omega) (by omega) (by omega) (by omega)
  obtain ⟨m5, Hm5⟩ : ∃ m5, Hid ((2 * l) * (x1 - x0) = m5) := ⟨_, Lib.hid rfl⟩
  rw [Hm5.out] at p5
  have w5 : wrap64 ((2 * l) * (x1 - x0)) = m5 := by rw [Hm5.out]; unfold wrap64; omega
  have v5 : IntKind.i64.wrap ((2 * l) * (x1 - x0)) = m5 := (IntWalk.i64_in _ (by rw [Hm5.out]; omega)).trans Hm5.out
  -- b is m5
  obtain ⟨V, HV⟩ : ∃ V, Hid ((W.alloc (.cells #[.int .i64 2, .int .i64 l, .int .i64 w, .int .i64 t, .slice (some ⟨b, off, none⟩) 4 c] 25)).alloc (.cells #[.int .i64 0, .int .i64 0, .int .i64 0] 22) = V) := ⟨_, Lib.hid rfl⟩
  have hV : Below W.heap.size W V := by rw [← HV.out]; (repeat (first | exact brf | assumption | refine ble ?_ | refine blx ?_ | refine bla ?_ | refine bls ?_ | refine bld ?_))
  have HJ : Hid (V.heap[W.heap.size]? = some (.cells #[.int .i64 2, .int .i64 l, .int .i64 w, .int .i64 t, .slice (some ⟨b, off, none⟩) 4 c] 25 (0, 0))) := Lib.hid (by rw [← HV.out]; exact (heap_old (by simp)).trans (heap_new rfl))
  have HR : Hid (V.heap[W.heap.size + 1]? = some (.cells #[.int .i64 0, .int .i64 0, .int .i64 0] 22 (0, 0))) := Lib.hid (by rw [← HV.out]; exact heap_new (by simp))
  have zV := blk_lt HJ.out
  have zR := blk_lt HR.out
  obtain ⟨c0, c1, c2, c3, c4, _, _⟩ := blk5 HJ.out
  go_enter Tryz.func37, Tryz.ntmps37
  go_wp2
  rw [HV.out]
  refine wp_region_quietB (by kernel_rfl) (by kernel_rfl) ?_
  repeat (first | go_big_quiet_step (fail) | quiet_step (fail))
  refine wpQuiet_nil ?_
  rintro _ ⟨u, rfl⟩
  have HJu := Lib.hid ((u.below.block _ zV).trans HJ.out)
  have HRu := Lib.hid ((u.below.block _ zR).trans HR.out)
  have hwu : Below W.heap.size W u.val := below_trans hV u.below
  clear c0 c1 c2 c3 c4
  generalize u.val = w9 at *
  clear u
  obtain ⟨c0, c1, c2, c3, c4, _, zju⟩ := blk5 HJu.out
  obtain ⟨e0, e1, e2, f0, zu⟩ := blk3 HRu.out
  have f1 := f0 1
  have f2 := f0 2
  have zb9 := Nat.lt_of_lt_of_le zb hwu.size
  have n0 := below_cell hwu n0
  have n1 := below_cell hwu n1
  have n2 := below_cell hwu n2
  have n3 := below_cell hwu n3
  go_wp2_with fail
  refine ((hG _).out).mono ?_
  rintro e wG ⟨rfl, rfl⟩
  go_wp2
  refine wp_region_tailB 21 (by kernel_rfl) (by kernel_rfl) ?_
  simp only [List.take_succ_cons, List.take_zero, List.drop_succ_cons, List.drop_zero]
  repeat (first | go_big_quiet_step (fail) | quiet_step (fail))
  refine wpQuiet_nil ?_
  rintro _ ⟨u, rfl⟩
  have HRv := Lib.hid ((u.below.block _ zu).trans HRu.out)
  have HJv := Lib.hid ((u.below.block _ zju).trans HJu.out)
  have hwv : Below W.heap.size W u.val := below_trans hwu u.below
  have hub := u.below
  clear e0 e1 e2 f0 f1 f2 c0 c4 zu zju zb9 HRu HJu hwu
  generalize u.val = w8 at *
  clear u
  have HRu := HRv
  have HJu := HJv
  have hwu := hwv
  clear HRv HJv hwv
  have c0 := (blk_cell HJu.out 0).trans rfl
  have c4 := (blk_cell HJu.out 4).trans rfl
  have e0 := (blk_cell HRu.out 0).trans rfl
  have e1 := (blk_cell HRu.out 1).trans rfl
  have e2 := (blk_cell HRu.out 2).trans rfl
  have f0 := blk_free HRu.out 0
  have f1 := blk_free HRu.out 1
  have f2 := blk_free HRu.out 2
  have zu := blk_lt HRu.out
  have zju := blk_lt HJu.out
  have zb9 := Nat.lt_of_lt_of_le zb hwu.size
  simp only [List.getElem?_toArray, List.getElem?_cons_zero, List.getElem?_cons_succ] at c0 c4 e0 e1 e2
  clear hub
  go_wp2
  refine bodyPost_ret (v := .agg #[.int .i64 (0), .int .i64 (m3), .int .i64 (m5)]) (by simp [results, Tryz.results37, go_sem, e0, e1, e2]) rfl ⟨?_, ?_⟩
  · exact retA3_eq rfl Hm3.out.symm Hm5.out.symm
  · refine Below.setCell (Below.setCell (Below.setCell hwu ?_ _) ?_ _) ?_ _ <;> simp

set_option linter.unusedVariables false in
set_option maxRecDepth 100000 in
set_option maxHeartbeats 4000000 in
theorem rArea_10 (l w t : Int) (nv : Value) (n : List Int) (W : World) (hn : Ints W nv n) (hlen : n.length = 5) (hl : 1 ≤ l ∧ l ≤ 100000) (hw : 1 ≤ w ∧ w ≤ 100000) (ht : 1 ≤ t ∧ t ≤ 100000) (hb : ∀ i, i < n.length → -100000 ≤ n.getD i 0 ∧ n.getD i 0 ≤ 100000) :
    Calls Tryz.prog 37 #[vJ 10 l w t nv] W (Ret W (areaV (2 * (n.getD 4 0 - n.getD 3 0) * t, 2 * (n.getD 2 0 - n.getD 1 0) * t, l * w - (n.getD 2 0 - n.getD 1 0) * (n.getD 4 0 - n.getD 3 0)))) := by
  have hG := fun W' => Lib.hid (gap_any 10 W')
  rw [show gapAt 10 = -1 from rfl] at hG
  have HN := Lib.hid hn
  unfold vJ at *
  obtain ⟨b, off, c, rfl, hcc, zb, hi⟩ := hn.at' (by omega)
  have n1 := hi 1 (by omega)
  have n2 := hi 2 (by omega)
  have n3 := hi 3 (by omega)
  have n4 := hi 4 (by omega)
  have b1 := hb 1 (by omega)
  have b2 := hb 2 (by omega)
  have b3 := hb 3 (by omega)
  have b4 := hb 4 (by omega)
  rw [hlen]
  generalize n.getD 1 0 = x1 at *
  generalize n.getD 2 0 = x2 at *
  generalize n.getD 3 0 = x3 at *
  generalize n.getD 4 0 = x4 at *
  clear hi hn hb hcc
  have w1 : wrap64 (x4 - x3) = x4 - x3 := by unfold wrap64; omega
  have v1 : IntKind.i64.wrap (x4 - x3) = x4 - x3 := IntWalk.i64_in _ (by omega)
  have w2 : wrap64 (2 * (x4 - x3)) = 2 * (x4 - x3) := by unfold wrap64; omega
  have v2 : IntKind.i64.wrap (2 * (x4 - x3)) = 2 * (x4 - x3) := IntWalk.i64_in _ (by omega)
  have p3 := mul_bd (a := 2 * (x4 - x3)) (x := t) (A := 400000) (X := 100000) (by omega) (by omega) (by omega) (by omega)
  obtain ⟨m3, Hm3⟩ : ∃ m3, Hid ((2 * (x4 - x3)) * t = m3) := ⟨_, Lib.hid rfl⟩
  rw [Hm3.out] at p3
  have w3 : wrap64 ((2 * (x4 - x3)) * t) = m3 := by rw [Hm3.out]; unfold wrap64; omega
  have v3 : IntKind.i64.wrap ((2 * (x4 - x3)) * t) = m3 := (IntWalk.i64_in _ (by rw [Hm3.out]; omega)).trans Hm3.out
  -- a is m3
  have w4 : wrap64 (x2 - x1) = x2 - x1 := by unfold wrap64; omega
  have v4 : IntKind.i64.wrap (x2 - x1) = x2 - x1 := IntWalk.i64_in _ (by omega)
  have w5 : wrap64 (2 * (x2 - x1)) = 2 * (x2 - x1) := by unfold wrap64; omega
  have v5 : IntKind.i64.wrap (2 * (x2 - x1)) = 2 * (x2 - x1) := IntWalk.i64_in _ (by omega)
  have p6 := mul_bd (a := 2 * (x2 - x1)) (x := t) (A := 400000) (X := 100000) (by omega) (by omega) (by omega) (by omega)
  obtain ⟨m6, Hm6⟩ : ∃ m6, Hid ((2 * (x2 - x1)) * t = m6) := ⟨_, Lib.hid rfl⟩
  rw [Hm6.out] at p6
  have w6 : wrap64 ((2 * (x2 - x1)) * t) = m6 := by rw [Hm6.out]; unfold wrap64; omega
  have v6 : IntKind.i64.wrap ((2 * (x2 - x1)) * t) = m6 := (IntWalk.i64_in _ (by rw [Hm6.out]; omega)).trans Hm6.out
  -- b is m6
  have p7 := mul_bd (a := l) (x := w) (A := 100000) (X := 100000) (by omega) (by omega) (by omega) (by omega)
  obtain ⟨m7, Hm7⟩ : ∃ m7, Hid (l * w = m7) := ⟨_, Lib.hid rfl⟩
  rw [Hm7.out] at p7
  have w7 : wrap64 (l * w) = m7 := by rw [Hm7.out]; unfold wrap64; omega
  have v7 : IntKind.i64.wrap (l * w) = m7 := (IntWalk.i64_in _ (by rw [Hm7.out]; omega)).trans Hm7.out
  have p8 := mul_bd (a := x2 - x1) (x := x4 - x3) (A := 200000) (X := 200000) (by omega) (by omega) (by omega) (by omega)
  obtain ⟨m8, Hm8⟩ : ∃ m8, Hid ((x2 - x1) * (x4 - x3) = m8) := ⟨_, Lib.hid rfl⟩
  rw [Hm8.out] at p8
  have w8 : wrap64 ((x2 - x1) * (x4 - x3)) = m8 := by rw [Hm8.out]; unfold wrap64; omega
  have v8 : IntKind.i64.wrap ((x2 - x1) * (x4 - x3)) = m8 := (IntWalk.i64_in _ (by rw [Hm8.out]; omega)).trans Hm8.out
  have w9 : wrap64 (m7 - m8) = m7 - m8 := by unfold wrap64; omega
  have v9 : IntKind.i64.wrap (m7 - m8) = m7 - m8 := IntWalk.i64_in _ (by omega)
  -- c is m7 - m8
  obtain ⟨V, HV⟩ : ∃ V, Hid ((W.alloc (.cells #[.int .i64 10, .int .i64 l, .int .i64 w, .int .i64 t, .slice (some ⟨b, off, none⟩) 5 c] 25)).alloc (.cells #[.int .i64 0, .int .i64 0, .int .i64 0] 22) = V) := ⟨_, Lib.hid rfl⟩
  have hV : Below W.heap.size W V := by rw [← HV.out]; (repeat (first | exact brf | assumption | refine ble ?_ | refine blx ?_ | refine bla ?_ | refine bls ?_ | refine bld ?_))
  have HJ : Hid (V.heap[W.heap.size]? = some (.cells #[.int .i64 10, .int .i64 l, .int .i64 w, .int .i64 t, .slice (some ⟨b, off, none⟩) 5 c] 25 (0, 0))) := Lib.hid (by rw [← HV.out]; exact (heap_old (by simp)).trans (heap_new rfl))
  have HR : Hid (V.heap[W.heap.size + 1]? = some (.cells #[.int .i64 0, .int .i64 0, .int .i64 0] 22 (0, 0))) := Lib.hid (by rw [← HV.out]; exact heap_new (by simp))
  have zV := blk_lt HJ.out
  have zR := blk_lt HR.out
  obtain ⟨c0, c1, c2, c3, c4, _, _⟩ := blk5 HJ.out
  go_enter Tryz.func37, Tryz.ntmps37
  go_wp2
  rw [HV.out]
  refine wp_region_quietB (by kernel_rfl) (by kernel_rfl) ?_
  repeat (first | go_big_quiet_step (fail) | quiet_step (fail))
  refine wpQuiet_nil ?_
  rintro _ ⟨u, rfl⟩
  have HJu := Lib.hid ((u.below.block _ zV).trans HJ.out)
  have HRu := Lib.hid ((u.below.block _ zR).trans HR.out)
  have hwu : Below W.heap.size W u.val := below_trans hV u.below
  clear c0 c1 c2 c3 c4
  generalize u.val = w9 at *
  clear u
  obtain ⟨c0, c1, c2, c3, c4, _, zju⟩ := blk5 HJu.out
  obtain ⟨e0, e1, e2, f0, zu⟩ := blk3 HRu.out
  have f1 := f0 1
  have f2 := f0 2
  have zb9 := Nat.lt_of_lt_of_le zb hwu.size
  have n1 := below_cell hwu n1
  have n2 := below_cell hwu n2
  have n3 := below_cell hwu n3
  have n4 := below_cell hwu n4
  go_wp2_with fail
  refine ((hG _).out).mono ?_
  rintro e wG ⟨rfl, rfl⟩
  go_wp2
  refine wp_region_quietB (by kernel_rfl) (by kernel_rfl) ?_
  repeat (first | go_big_quiet_step (fail) | quiet_step (fail))
  refine wpQuiet_nil ?_
  rintro _ ⟨u, rfl⟩
  have HRv := Lib.hid ((u.below.block _ zu).trans HRu.out)
  have HJv := Lib.hid ((u.below.block _ zju).trans HJu.out)
  have hwv : Below W.heap.size W u.val := below_trans hwu u.below
  have hub := u.below
  clear e0 e1 e2 f0 f1 f2 c0 c4 zu zju zb9 HRu HJu hwu
  generalize u.val = w8 at *
  clear u
  have HRu := HRv
  have HJu := HJv
  have hwu := hwv
  clear HRv HJv hwv
  have c0 := (blk_cell HJu.out 0).trans rfl
  have c4 := (blk_cell HJu.out 4).trans rfl
  have e0 := (blk_cell HRu.out 0).trans rfl
  have e1 := (blk_cell HRu.out 1).trans rfl
  have e2 := (blk_cell HRu.out 2).trans rfl
  have f0 := blk_free HRu.out 0
  have f1 := blk_free HRu.out 1
  have f2 := blk_free HRu.out 2
  have zu := blk_lt HRu.out
  have zju := blk_lt HJu.out
  have zb9 := Nat.lt_of_lt_of_le zb hwu.size
  simp only [List.getElem?_toArray, List.getElem?_cons_zero, List.getElem?_cons_succ] at c0 c4 e0 e1 e2
  clear hub
  go_wp2
  refine bodyPost_ret (v := .agg #[.int .i64 (m3), .int .i64 (m6), .int .i64 (m7 - m8)]) (by simp [results, Tryz.results37, go_sem, e0, e1, e2]) rfl ⟨?_, ?_⟩
  · exact retA3_eq Hm3.out.symm Hm6.out.symm (by rw [Hm7.out, Hm8.out])
  · refine Below.setCell (Below.setCell (Below.setCell hwu ?_ _) ?_ _) ?_ _ <;> simp

set_option linter.unusedVariables false in
set_option maxRecDepth 100000 in
set_option maxHeartbeats 4000000 in
theorem rArea_9 (l w t : Int) (nv : Value) (n : List Int) (W : World) (hn : Ints W nv n) (hlen : n.length = 5) (hl : 1 ≤ l ∧ l ≤ 100000) (hw : 1 ≤ w ∧ w ≤ 100000) (ht : 1 ≤ t ∧ t ≤ 100000) (hb : ∀ i, i < n.length → -100000 ≤ n.getD i 0 ∧ n.getD i 0 ≤ 100000) :
    Calls Tryz.prog 37 #[vJ 9 l w t nv] W (Ret W (areaV (l * t + n.getD 1 0 * (n.getD 4 0 - n.getD 3 0) + 2 * n.getD 2 0 * (n.getD 4 0 - n.getD 3 0), l * t + n.getD 1 0 * (n.getD 4 0 - n.getD 3 0) + 2 * n.getD 2 0 * (n.getD 4 0 - n.getD 3 0), 4 * n.getD 1 0 * n.getD 2 0))) := by
  have hG := fun W' => Lib.hid (gap_any 9 W')
  rw [show gapAt 9 = -1 from rfl] at hG
  have HN := Lib.hid hn
  unfold vJ at *
  obtain ⟨b, off, c, rfl, hcc, zb, hi⟩ := hn.at' (by omega)
  have n1 := hi 1 (by omega)
  have n2 := hi 2 (by omega)
  have n3 := hi 3 (by omega)
  have n4 := hi 4 (by omega)
  have b1 := hb 1 (by omega)
  have b2 := hb 2 (by omega)
  have b3 := hb 3 (by omega)
  have b4 := hb 4 (by omega)
  rw [hlen]
  generalize n.getD 1 0 = x1 at *
  generalize n.getD 2 0 = x2 at *
  generalize n.getD 3 0 = x3 at *
  generalize n.getD 4 0 = x4 at *
  clear hi hn hb hcc
  have p1 := mul_bd (a := l) (x := t) (A := 100000) (X := 100000) (by omega) (by omega) (by omega) (by omega)
  obtain ⟨m1, Hm1⟩ : ∃ m1, Hid (l * t = m1) := ⟨_, Lib.hid rfl⟩
  rw [Hm1.out] at p1
  have w1 : wrap64 (l * t) = m1 := by rw [Hm1.out]; unfold wrap64; omega
  have v1 : IntKind.i64.wrap (l * t) = m1 := (IntWalk.i64_in _ (by rw [Hm1.out]; omega)).trans Hm1.out
  have w2 : wrap64 (x4 - x3) = x4 - x3 := by unfold wrap64; omega
  have v2 : IntKind.i64.wrap (x4 - x3) = x4 - x3 := IntWalk.i64_in _ (by omega)
  have p3 := mul_bd (a := x1) (x := x4 - x3) (A := 100000) (X := 200000) (by omega) (by omega) (by omega) (by omega)
  obtain ⟨m3, Hm3⟩ : ∃ m3, Hid (x1 * (x4 - x3) = m3) := ⟨_, Lib.hid rfl⟩
  rw [Hm3.out] at p3
  have w3 : wrap64 (x1 * (x4 - x3)) = m3 := by rw [Hm3.out]; unfold wrap64; omega
  have v3 : IntKind.i64.wrap (x1 * (x4 - x3)) = m3 := (IntWalk.i64_in _ (by rw [Hm3.out]; omega)).trans Hm3.out
  have w4 : wrap64 (m1 + m3) = m1 + m3 := by unfold wrap64; omega
  have v4 : IntKind.i64.wrap (m1 + m3) = m1 + m3 := IntWalk.i64_in _ (by omega)
  have w5 : wrap64 (2 * x2) = 2 * x2 := by unfold wrap64; omega
  have v5 : IntKind.i64.wrap (2 * x2) = 2 * x2 := IntWalk.i64_in _ (by omega)
  have p6 := mul_bd (a := 2 * x2) (x := x4 - x3) (A := 200000) (X := 200000) (by omega) (by omega) (by omega) (by omega)
  obtain ⟨m6, Hm6⟩ : ∃ m6, Hid ((2 * x2) * (x4 - x3) = m6) := ⟨_, Lib.hid rfl⟩
  rw [Hm6.out] at p6
  have w6 : wrap64 ((2 * x2) * (x4 - x3)) = m6 := by rw [Hm6.out]; unfold wrap64; omega
  have v6 : IntKind.i64.wrap ((2 * x2) * (x4 - x3)) = m6 := (IntWalk.i64_in _ (by rw [Hm6.out]; omega)).trans Hm6.out
  have w7 : wrap64 (m1 + m3 + m6) = m1 + m3 + m6 := by unfold wrap64; omega
  have v7 : IntKind.i64.wrap (m1 + m3 + m6) = m1 + m3 + m6 := IntWalk.i64_in _ (by omega)
  -- a is m1 + m3 + m6
  have w8 : wrap64 (4 * x1) = 4 * x1 := by unfold wrap64; omega
  have v8 : IntKind.i64.wrap (4 * x1) = 4 * x1 := IntWalk.i64_in _ (by omega)
  have p9 := mul_bd (a := 4 * x1) (x := x2) (A := 400000) (X := 100000) (by omega) (by omega) (by omega) (by omega)
  obtain ⟨m9, Hm9⟩ : ∃ m9, Hid ((4 * x1) * x2 = m9) := ⟨_, Lib.hid rfl⟩
  rw [Hm9.out] at p9
  have w9 : wrap64 ((4 * x1) * x2) = m9 := by rw [Hm9.out]; unfold wrap64; omega
  have v9 : IntKind.i64.wrap ((4 * x1) * x2) = m9 := (IntWalk.i64_in _ (by rw [Hm9.out]; omega)).trans Hm9.out
  -- b is m9
  obtain ⟨V, HV⟩ : ∃ V, Hid ((W.alloc (.cells #[.int .i64 9, .int .i64 l, .int .i64 w, .int .i64 t, .slice (some ⟨b, off, none⟩) 5 c] 25)).alloc (.cells #[.int .i64 0, .int .i64 0, .int .i64 0] 22) = V) := ⟨_, Lib.hid rfl⟩
  have hV : Below W.heap.size W V := by rw [← HV.out]; (repeat (first | exact brf | assumption | refine ble ?_ | refine blx ?_ | refine bla ?_ | refine bls ?_ | refine bld ?_))
  have HJ : Hid (V.heap[W.heap.size]? = some (.cells #[.int .i64 9, .int .i64 l, .int .i64 w, .int .i64 t, .slice (some ⟨b, off, none⟩) 5 c] 25 (0, 0))) := Lib.hid (by rw [← HV.out]; exact (heap_old (by simp)).trans (heap_new rfl))
  have HR : Hid (V.heap[W.heap.size + 1]? = some (.cells #[.int .i64 0, .int .i64 0, .int .i64 0] 22 (0, 0))) := Lib.hid (by rw [← HV.out]; exact heap_new (by simp))
  have zV := blk_lt HJ.out
  have zR := blk_lt HR.out
  obtain ⟨c0, c1, c2, c3, c4, _, _⟩ := blk5 HJ.out
  go_enter Tryz.func37, Tryz.ntmps37
  go_wp2
  rw [HV.out]
  refine wp_region_quietB (by kernel_rfl) (by kernel_rfl) ?_
  repeat (first | go_big_quiet_step (fail) | quiet_step (fail))
  refine wpQuiet_nil ?_
  rintro _ ⟨u, rfl⟩
  have HJu := Lib.hid ((u.below.block _ zV).trans HJ.out)
  have HRu := Lib.hid ((u.below.block _ zR).trans HR.out)
  have hwu : Below W.heap.size W u.val := below_trans hV u.below
  clear c0 c1 c2 c3 c4
  generalize u.val = w9 at *
  clear u
  obtain ⟨c0, c1, c2, c3, c4, _, zju⟩ := blk5 HJu.out
  obtain ⟨e0, e1, e2, f0, zu⟩ := blk3 HRu.out
  have f1 := f0 1
  have f2 := f0 2
  have zb9 := Nat.lt_of_lt_of_le zb hwu.size
  have n1 := below_cell hwu n1
  have n2 := below_cell hwu n2
  have n3 := below_cell hwu n3
  have n4 := below_cell hwu n4
  go_wp2_with fail
  refine ((hG _).out).mono ?_
  rintro e wG ⟨rfl, rfl⟩
  go_wp2
  refine wp_region_quietB (by kernel_rfl) (by kernel_rfl) ?_
  repeat (first | go_big_quiet_step (fail) | quiet_step (fail))
  refine wpQuiet_nil ?_
  rintro _ ⟨u, rfl⟩
  have HRv := Lib.hid ((u.below.block _ zu).trans HRu.out)
  have HJv := Lib.hid ((u.below.block _ zju).trans HJu.out)
  have hwv : Below W.heap.size W u.val := below_trans hwu u.below
  have hub := u.below
  clear e0 e1 e2 f0 f1 f2 c0 c4 zu zju zb9 HRu HJu hwu
  generalize u.val = w8 at *
  clear u
  have HRu := HRv
  have HJu := HJv
  have hwu := hwv
  clear HRv HJv hwv
  have c0 := (blk_cell HJu.out 0).trans rfl
  have c4 := (blk_cell HJu.out 4).trans rfl
  have e0 := (blk_cell HRu.out 0).trans rfl
  have e1 := (blk_cell HRu.out 1).trans rfl
  have e2 := (blk_cell HRu.out 2).trans rfl
  have f0 := blk_free HRu.out 0
  have f1 := blk_free HRu.out 1
  have f2 := blk_free HRu.out 2
  have zu := blk_lt HRu.out
  have zju := blk_lt HJu.out
  have zb9 := Nat.lt_of_lt_of_le zb hwu.size
  simp only [List.getElem?_toArray, List.getElem?_cons_zero, List.getElem?_cons_succ] at c0 c4 e0 e1 e2
  clear hub
  go_wp2
  refine bodyPost_ret (v := .agg #[.int .i64 (m1 + m3 + m6), .int .i64 (m1 + m3 + m6), .int .i64 (m9)]) (by simp [results, Tryz.results37, go_sem, e0, e1, e2]) rfl ⟨?_, ?_⟩
  · exact retA3_eq (by rw [Hm1.out, Hm3.out, Hm6.out]) (by rw [Hm1.out, Hm3.out, Hm6.out]) Hm9.out.symm
  · refine Below.setCell (Below.setCell (Below.setCell hwu ?_ _) ?_ _) ?_ _ <;> simp

set_option linter.unusedVariables false in
set_option maxRecDepth 100000 in
set_option maxHeartbeats 4000000 in
theorem rArea_7 (l w t : Int) (nv : Value) (n : List Int) (W : World) (hn : Ints W nv n) (h1 : 1 ≤ n.length) (h24 : n.length ≤ 24) (hl : 1 ≤ l ∧ l ≤ 100000) (hw : 1 ≤ w ∧ w ≤ 100000) (ht : 1 ≤ t ∧ t ≤ 100000) (hb : ∀ i, i < n.length → -100000 ≤ n.getD i 0 ∧ n.getD i 0 ≤ 100000) :
    Calls Tryz.prog 37 #[vJ 7 l w t nv] W (Ret W (areaV (0, (n.length : Int) * l * t, 0))) := by
  have hG := fun W' => Lib.hid (gap_any 7 W')
  rw [show gapAt 7 = -1 from rfl] at hG
  have HN := Lib.hid hn
  unfold vJ at *
  obtain ⟨b, off, c, rfl, hcc, zb, hi⟩ := hn.at' (by omega)
  generalize n.length = q at *
  clear hi hn hb hcc
  have p1 := mul_bd (a := q) (x := l) (A := 24) (X := 100000) (by omega) (by omega) (by omega) (by omega)
  obtain ⟨m1, Hm1⟩ : ∃ m1, Hid (q * l = m1) := ⟨_, Lib.hid rfl⟩
  rw [Hm1.out] at p1
  have w1 : wrap64 (q * l) = m1 := by rw [Hm1.out]; unfold wrap64; omega
  have v1 : IntKind.i64.wrap (q * l) = m1 := (IntWalk.i64_in _ (by rw [Hm1.out]; omega)).trans Hm1.out
  have p2 := mul_bd (a := m1) (x := t) (A := 2400000) (X := 100000) (by omega) (by omega) (by omega) (by omega)
  obtain ⟨m2, Hm2⟩ : ∃ m2, Hid (m1 * t = m2) := ⟨_, Lib.hid rfl⟩
  rw [Hm2.out] at p2
  have w2 : wrap64 (m1 * t) = m2 := by rw [Hm2.out]; unfold wrap64; omega
  have v2 : IntKind.i64.wrap (m1 * t) = m2 := (IntWalk.i64_in _ (by rw [Hm2.out]; omega)).trans Hm2.out
  -- a is m2
  obtain ⟨V, HV⟩ : ∃ V, Hid ((W.alloc (.cells #[.int .i64 7, .int .i64 l, .int .i64 w, .int .i64 t, .slice (some ⟨b, off, none⟩) q c] 25)).alloc (.cells #[.int .i64 0, .int .i64 0, .int .i64 0] 22) = V) := ⟨_, Lib.hid rfl⟩
  have hV : Below W.heap.size W V := by rw [← HV.out]; (repeat (first | exact brf | assumption | refine ble ?_ | refine blx ?_ | refine bla ?_ | refine bls ?_ | refine bld ?_))
  have HJ : Hid (V.heap[W.heap.size]? = some (.cells #[.int .i64 7, .int .i64 l, .int .i64 w, .int .i64 t, .slice (some ⟨b, off, none⟩) q c] 25 (0, 0))) := Lib.hid (by rw [← HV.out]; exact (heap_old (by simp)).trans (heap_new rfl))
  have HR : Hid (V.heap[W.heap.size + 1]? = some (.cells #[.int .i64 0, .int .i64 0, .int .i64 0] 22 (0, 0))) := Lib.hid (by rw [← HV.out]; exact heap_new (by simp))
  have zV := blk_lt HJ.out
  have zR := blk_lt HR.out
  obtain ⟨c0, c1, c2, c3, c4, _, _⟩ := blk5 HJ.out
  go_enter Tryz.func37, Tryz.ntmps37
  go_wp2
  rw [HV.out]
  refine wp_region_quietB (by kernel_rfl) (by kernel_rfl) ?_
  repeat (first | go_big_quiet_step (fail) | quiet_step (fail))
  refine wpQuiet_nil ?_
  rintro _ ⟨u, rfl⟩
  have HJu := Lib.hid ((u.below.block _ zV).trans HJ.out)
  have HRu := Lib.hid ((u.below.block _ zR).trans HR.out)
  have hwu : Below W.heap.size W u.val := below_trans hV u.below
  clear c0 c1 c2 c3 c4
  generalize u.val = w9 at *
  clear u
  obtain ⟨c0, c1, c2, c3, c4, _, zju⟩ := blk5 HJu.out
  obtain ⟨e0, e1, e2, f0, zu⟩ := blk3 HRu.out
  have f1 := f0 1
  have f2 := f0 2
  have zb9 := Nat.lt_of_lt_of_le zb hwu.size
  go_wp2_with fail
  refine ((hG _).out).mono ?_
  rintro e wG ⟨rfl, rfl⟩
  go_wp2
  refine bodyPost_ret (v := .agg #[.int .i64 (0), .int .i64 (m2), .int .i64 (0)]) (by simp [results, Tryz.results37, go_sem, e0, e1, e2]) rfl ⟨?_, ?_⟩
  · exact retA3_eq rfl (by rw [← Hm2.out, ← Hm1.out]) rfl
  · refine Below.setCell (Below.setCell (Below.setCell hwu ?_ _) ?_ _) ?_ _ <;> simp

set_option linter.unusedVariables false in
set_option maxRecDepth 100000 in
set_option maxHeartbeats 4000000 in
theorem rArea_5 (l w t : Int) (nv : Value) (n : List Int) (W : World) (hn : Ints W nv n) (h3 : 3 ≤ n.length) (h24 : n.length ≤ 24) (hl : 1 ≤ l ∧ l ≤ 100000) (hw : 1 ≤ w ∧ w ≤ 100000) (ht : 1 ≤ t ∧ t ≤ 100000) (hb : ∀ i, i < n.length → -100000 ≤ n.getD i 0 ∧ n.getD i 0 ≤ 100000) (hs : 1 ≤ n.getD 0 0 ∧ n.getD 0 0 ≤ 8) :
    Calls Tryz.prog 37 #[vJ 5 l w t nv] W (Ret W (areaV (2 * ((n.length - 2 : Nat) : Int) * (l / n.getD 0 0) * t, 2 * ((n.length - 2 : Nat) : Int) * l * t, 0))) := by
  have hG := fun W' => Lib.hid (gap_any 5 W')
  rw [show gapAt 5 = -1 from rfl] at hG
  have HN := Lib.hid hn
  unfold vJ at *
  obtain ⟨b, off, c, rfl, hcc, zb, hi⟩ := hn.at' (by omega)
  have n0 := hi 0 (by omega)
  rw [Nat.add_zero] at n0
  have b0 := hb 0 (by omega)
  obtain ⟨q, Hq⟩ : ∃ q, Hid (n.length = q + 2) := ⟨n.length - 2, Lib.hid (by omega)⟩
  rw [Hq.out] at h3 h24 ⊢
  rw [show q + 2 - 2 = q by omega]
  have hk0 : 0 ≤ l / n.getD 0 0 ∧ l / n.getD 0 0 ≤ 100000 := ⟨Int.ediv_nonneg (by omega) (by omega), Int.le_trans (Int.ediv_le_self _ (by omega)) (by omega)⟩
  obtain ⟨kk, Hk⟩ : ∃ kk, Hid (l / n.getD 0 0 = kk) := ⟨_, Lib.hid rfl⟩
  rw [Hk.out] at hk0 ⊢
  have hkk := Hk.out
  have hs0 : (n.getD 0 0 == 0) = false := beq_eq_false_iff_ne.2 (by omega)
  have hq2 : ((q + 2 : Nat) : Int) - 2 = (q : Int) := by omega
  generalize n.getD 0 0 = x0 at *
  clear hi hn hb hcc
  have w1 : wrap64 (2 * q) = 2 * q := by unfold wrap64; omega
  have v1 : IntKind.i64.wrap (2 * q) = 2 * q := IntWalk.i64_in _ (by omega)
  have p2 := mul_bd (a := 2 * q) (x := kk) (A := 48) (X := 100000) (by omega) (by omega) (by omega) (by omega)
  obtain ⟨m2, Hm2⟩ : ∃ m2, Hid ((2 * q) * kk = m2) := ⟨_, Lib.hid rfl⟩
  rw [Hm2.out] at p2
  have w2 : wrap64 ((2 * q) * kk) = m2 := by rw [Hm2.out]; unfold wrap64; omega
  have v2 : IntKind.i64.wrap ((2 * q) * kk) = m2 := (IntWalk.i64_in _ (by rw [Hm2.out]; omega)).trans Hm2.out
  have p3 := mul_bd (a := m2) (x := t) (A := 4800000) (X := 100000) (by omega) (by omega) (by omega) (by omega)
  obtain ⟨m3, Hm3⟩ : ∃ m3, Hid (m2 * t = m3) := ⟨_, Lib.hid rfl⟩
  rw [Hm3.out] at p3
  have w3 : wrap64 (m2 * t) = m3 := by rw [Hm3.out]; unfold wrap64; omega
  have v3 : IntKind.i64.wrap (m2 * t) = m3 := (IntWalk.i64_in _ (by rw [Hm3.out]; omega)).trans Hm3.out
  -- a is m3
  have p4 := mul_bd (a := 2 * q) (x := l) (A := 48) (X := 100000) (by omega) (by omega) (by omega) (by omega)
  obtain ⟨m4, Hm4⟩ : ∃ m4, Hid ((2 * q) * l = m4) := ⟨_, Lib.hid rfl⟩
  rw [Hm4.out] at p4
  have w4 : wrap64 ((2 * q) * l) = m4 := by rw [Hm4.out]; unfold wrap64; omega
  have v4 : IntKind.i64.wrap ((2 * q) * l) = m4 := (IntWalk.i64_in _ (by rw [Hm4.out]; omega)).trans Hm4.out
  have p5 := mul_bd (a := m4) (x := t) (A := 4800000) (X := 100000) (by omega) (by omega) (by omega) (by omega)
  obtain ⟨m5, Hm5⟩ : ∃ m5, Hid (m4 * t = m5) := ⟨_, Lib.hid rfl⟩
  rw [Hm5.out] at p5
  have w5 : wrap64 (m4 * t) = m5 := by rw [Hm5.out]; unfold wrap64; omega
  have v5 : IntKind.i64.wrap (m4 * t) = m5 := (IntWalk.i64_in _ (by rw [Hm5.out]; omega)).trans Hm5.out
  -- b is m5
  obtain ⟨V, HV⟩ : ∃ V, Hid ((W.alloc (.cells #[.int .i64 5, .int .i64 l, .int .i64 w, .int .i64 t, .slice (some ⟨b, off, none⟩) (q + 2) c] 25)).alloc (.cells #[.int .i64 0, .int .i64 0, .int .i64 0] 22) = V) := ⟨_, Lib.hid rfl⟩
  have hV : Below W.heap.size W V := by rw [← HV.out]; (repeat (first | exact brf | assumption | refine ble ?_ | refine blx ?_ | refine bla ?_ | refine bls ?_ | refine bld ?_))
  have HJ : Hid (V.heap[W.heap.size]? = some (.cells #[.int .i64 5, .int .i64 l, .int .i64 w, .int .i64 t, .slice (some ⟨b, off, none⟩) (q + 2) c] 25 (0, 0))) := Lib.hid (by rw [← HV.out]; exact (heap_old (by simp)).trans (heap_new rfl))
  have HR : Hid (V.heap[W.heap.size + 1]? = some (.cells #[.int .i64 0, .int .i64 0, .int .i64 0] 22 (0, 0))) := Lib.hid (by rw [← HV.out]; exact heap_new (by simp))
  have zV := blk_lt HJ.out
  have zR := blk_lt HR.out
  obtain ⟨c0, c1, c2, c3, c4, _, _⟩ := blk5 HJ.out
  go_enter Tryz.func37, Tryz.ntmps37
  go_wp2
  rw [HV.out]
  refine wp_region_quietB (by kernel_rfl) (by kernel_rfl) ?_
  repeat (first | go_big_quiet_step (fail) | quiet_step (fail))
  refine wpQuiet_nil ?_
  rintro _ ⟨u, rfl⟩
  have HJu := Lib.hid ((u.below.block _ zV).trans HJ.out)
  have HRu := Lib.hid ((u.below.block _ zR).trans HR.out)
  have hwu : Below W.heap.size W u.val := below_trans hV u.below
  clear c0 c1 c2 c3 c4
  generalize u.val = w9 at *
  clear u
  obtain ⟨c0, c1, c2, c3, c4, _, zju⟩ := blk5 HJu.out
  obtain ⟨e0, e1, e2, f0, zu⟩ := blk3 HRu.out
  have f1 := f0 1
  have f2 := f0 2
  have zb9 := Nat.lt_of_lt_of_le zb hwu.size
  have n0 := below_cell hwu n0
  go_wp2_with fail
  refine ((hG _).out).mono ?_
  rintro e wG ⟨rfl, rfl⟩
  go_wp2
  refine bodyPost_ret (v := .agg #[.int .i64 (m3), .int .i64 (m5), .int .i64 (0)]) (by simp [results, Tryz.results37, go_sem, e0, e1, e2]) rfl ⟨?_, ?_⟩
  · exact retA3_eq (by rw [← Hm3.out, ← Hm2.out]) (by rw [← Hm5.out, ← Hm4.out]) rfl
  · refine Below.setCell (Below.setCell (Below.setCell hwu ?_ _) ?_ _) ?_ _ <;> simp

set_option linter.unusedVariables false in
set_option maxRecDepth 100000 in
set_option maxHeartbeats 4000000 in
theorem rArea_6 (l w t : Int) (nv : Value) (n : List Int) (W : World) (hn : Ints W nv n) (hlen : n.length = 3) (hl : 1 ≤ l ∧ l ≤ 100000) (hw : 1 ≤ w ∧ w ≤ 100000) (ht : 1 ≤ t ∧ t ≤ 100000) (hb : ∀ i, i < n.length → -100000 ≤ n.getD i 0 ∧ n.getD i 0 ≤ 100000) (h1 : 1 ≤ n.getD 1 0 ∧ n.getD 1 0 ≤ 8) (h2 : -8 ≤ n.getD 2 0 ∧ n.getD 2 0 ≤ 8) :
    Calls Tryz.prog 37 #[vJ 6 l w t nv] W (Ret W (areaV (t * w, 0, runN t n * w))) := by
  have hG := fun W' => Lib.hid (gap_any 6 W')
  rw [show gapAt 6 = -1 from rfl] at hG
  have HN := Lib.hid hn
  unfold vJ at *
  obtain ⟨b, off, c, rfl, hcc, zb, hi⟩ := hn.at' (by omega)
  have hS := fun W' h => Lib.hid (run_any l w t _ n W' (HN.out.below (w' := W') h) hlen ht h1 h2)
  have bz : 0 ≤ runN t n ∧ runN t n ≤ 800000 := by
    have bs := mul_bd h2.1 h2.2 (show (-100000 : Int) ≤ t by omega) ht.2
    have bd := tdiv_bd' (n.getD 2 0 * t) (n.getD 1 0) 800000 (by omega)
    unfold runN
    omega
  unfold vJ at hS
  rw [hlen] at hS ⊢
  generalize runN t n = z at *
  clear hi hn hb hcc
  have p1 := mul_bd (a := t) (x := w) (A := 100000) (X := 100000) (by omega) (by omega) (by omega) (by omega)
  obtain ⟨m1, Hm1⟩ : ∃ m1, Hid (t * w = m1) := ⟨_, Lib.hid rfl⟩
  rw [Hm1.out] at p1
  have w1 : wrap64 (t * w) = m1 := by rw [Hm1.out]; unfold wrap64; omega
  have v1 : IntKind.i64.wrap (t * w) = m1 := (IntWalk.i64_in _ (by rw [Hm1.out]; omega)).trans Hm1.out
  -- a is m1
  have p2 := mul_bd (a := z) (x := w) (A := 800000) (X := 100000) (by omega) (by omega) (by omega) (by omega)
  obtain ⟨m2, Hm2⟩ : ∃ m2, Hid (z * w = m2) := ⟨_, Lib.hid rfl⟩
  rw [Hm2.out] at p2
  have w2 : wrap64 (z * w) = m2 := by rw [Hm2.out]; unfold wrap64; omega
  have v2 : IntKind.i64.wrap (z * w) = m2 := (IntWalk.i64_in _ (by rw [Hm2.out]; omega)).trans Hm2.out
  -- b is m2
  obtain ⟨V, HV⟩ : ∃ V, Hid ((W.alloc (.cells #[.int .i64 6, .int .i64 l, .int .i64 w, .int .i64 t, .slice (some ⟨b, off, none⟩) 3 c] 25)).alloc (.cells #[.int .i64 0, .int .i64 0, .int .i64 0] 22) = V) := ⟨_, Lib.hid rfl⟩
  have hV : Below W.heap.size W V := by rw [← HV.out]; (repeat (first | exact brf | assumption | refine ble ?_ | refine blx ?_ | refine bla ?_ | refine bls ?_ | refine bld ?_))
  have HJ : Hid (V.heap[W.heap.size]? = some (.cells #[.int .i64 6, .int .i64 l, .int .i64 w, .int .i64 t, .slice (some ⟨b, off, none⟩) 3 c] 25 (0, 0))) := Lib.hid (by rw [← HV.out]; exact (heap_old (by simp)).trans (heap_new rfl))
  have HR : Hid (V.heap[W.heap.size + 1]? = some (.cells #[.int .i64 0, .int .i64 0, .int .i64 0] 22 (0, 0))) := Lib.hid (by rw [← HV.out]; exact heap_new (by simp))
  have zV := blk_lt HJ.out
  have zR := blk_lt HR.out
  obtain ⟨c0, c1, c2, c3, c4, _, _⟩ := blk5 HJ.out
  go_enter Tryz.func37, Tryz.ntmps37
  go_wp2
  rw [HV.out]
  refine wp_region_quietB (by kernel_rfl) (by kernel_rfl) ?_
  repeat (first | go_big_quiet_step (fail) | quiet_step (fail))
  refine wpQuiet_nil ?_
  rintro _ ⟨u, rfl⟩
  have HJu := Lib.hid ((u.below.block _ zV).trans HJ.out)
  have HRu := Lib.hid ((u.below.block _ zR).trans HR.out)
  have hwu : Below W.heap.size W u.val := below_trans hV u.below
  clear c0 c1 c2 c3 c4
  generalize u.val = w9 at *
  clear u
  obtain ⟨c0, c1, c2, c3, c4, _, zju⟩ := blk5 HJu.out
  obtain ⟨e0, e1, e2, f0, zu⟩ := blk3 HRu.out
  have f1 := f0 1
  have f2 := f0 2
  have zb9 := Nat.lt_of_lt_of_le zb hwu.size
  go_wp2_with fail
  refine ((hG _).out).mono ?_
  rintro e wG ⟨rfl, rfl⟩
  go_wp2_with fail
  refine ((hS _ hwu).out).mono ?_
  rintro e w8 ⟨rfl, hb8⟩
  have HR8 := Lib.hid ((hb8.block _ zu).trans HRu.out)
  have hw8 := below_trans hwu hb8
  clear e0 e1 e2 f0 f1 f2 zu
  have e0 := (blk_cell HR8.out 0).trans rfl
  have e1 := (blk_cell HR8.out 1).trans rfl
  have e2 := (blk_cell HR8.out 2).trans rfl
  have f0 := blk_free HR8.out 0
  have f1 := blk_free HR8.out 1
  have f2 := blk_free HR8.out 2
  have zu := blk_lt HR8.out
  simp only [List.getElem?_toArray, List.getElem?_cons_zero, List.getElem?_cons_succ] at e0 e1 e2
  go_wp2
  refine bodyPost_ret (v := .agg #[.int .i64 (m1), .int .i64 (0), .int .i64 (m2)]) (by simp [results, Tryz.results37, go_sem, e0, e1, e2]) rfl ⟨?_, ?_⟩
  · exact retA3_eq Hm1.out.symm rfl Hm2.out.symm
  · refine Below.setCell (Below.setCell (Below.setCell hw8 ?_ _) ?_ _) ?_ _ <;> simp
end Go.Proofs.YtjglkglaogaenaaGreatDoor
