/- texts of mine, merged: P1, P2, P3. -/
import Derived.Test.YtjglkglaogaenaaGreatDoorGK
import Derived.Test.YtjglkglaogaenaaGreatDoorGP
/- joint: Area at the kinds, one by one. -/
namespace Go.Proofs.YtjglkglaogaenaaGreatDoor
section
open Go.RowKit Go.Shelf
attribute [local go_sem] Ext.cell Ext.frozen
def retA (x y z : Int) : Ending := .returned (.tuple #[.agg #[.int .i64 x, .int .i64 y, .int .i64 z], .int .i64 0])
theorem retA_eq {x y z x' y' z' : Int} (h1 : x = x') (h2 : y = y') (h3 : z = z') : Ending.returned (.tuple #[.agg #[.int .i64 x, .int .i64 y, .int .i64 z], .int .i64 0]) = retA x' y' z' := by rw [h1, h2, h3]; rfl
set_option maxRecDepth 100000 in
set_option maxHeartbeats 4000000 in
theorem Area_2 (l w t : Int) (nv : Value) (n : List Int) (W : World) (hn : Ints W nv n) (hlen : n.length = 4) (hl : 1 ≤ l ∧ l ≤ 100000) (hb : ∀ i, i < n.length → -100000 ≤ n.getD i 0 ∧ n.getD i 0 ≤ 100000)
    (hc : ∀ W', Below W.heap.size W W' → Calls Tryz.prog 23 #[vJ 2 l w t nv] W' (Ret W' (.int .i64 0))) :
    Calls Tryz.prog 35 #[vJ 2 l w t nv] W fun e w' => e = retA 0 (2 * l * (n.getD 3 0 - n.getD 2 0)) (2 * l * (n.getD 1 0 - n.getD 0 0)) ∧ Below W.heap.size W w' := by
  have Hc := fun W' h => Lib.hid (hc W' h)
  unfold vJ at *
  obtain ⟨b, off, c, rfl, hcc, zb, hi⟩ := hn.at' (by omega)
  have n0 := hi 0 (by omega)
  have n1 := hi 1 (by omega)
  have n2 := hi 2 (by omega)
  have n3 := hi 3 (by omega)
  rw [Nat.add_zero] at n0
  have b0 := hb 0 (by omega)
  have b1 := hb 1 (by omega)
  have b2 := hb 2 (by omega)
  have b3 := hb 3 (by omega)
  rw [hlen] at Hc ⊢
  generalize n.getD 0 0 = x0 at *
  generalize n.getD 1 0 = x1 at *
  generalize n.getD 2 0 = x2 at *
  generalize n.getD 3 0 = x3 at *
  clear hi hn hc hb hlen hcc
  have w1 : wrap64 (2 * l) = 2 * l := by unfold wrap64; omega
  have v1 : IntKind.i64.wrap (2 * l) = 2 * l := IntWalk.i64_in _ (by omega)
  have w2 : wrap64 (x3 - x2) = x3 - x2 := by unfold wrap64; omega
  have v2 : IntKind.i64.wrap (x3 - x2) = x3 - x2 := IntWalk.i64_in _ (by omega)
  have p3 := mul_bd (a := 2 * l) (x := x3 - x2) (A := 200000) (X := 200000) (by omega) (by omega) (by omega) (by omega)
  obtain ⟨m3, Hm3⟩ : ∃ m3, Hid ((2 * l) * (x3 - x2) = m3) := ⟨_, Lib.hid rfl⟩
  rw [Hm3.out] at p3
  have w3 : wrap64 ((2 * l) * (x3 - x2)) = m3 := by rw [Hm3.out]; unfold wrap64; omega
  have v3 : IntKind.i64.wrap ((2 * l) * (x3 - x2)) = m3 := (IntWalk.i64_in _ (by rw [Hm3.out]; omega)).trans Hm3.out
  -- a is m3
  have w4 : wrap64 (x1 - x0) = x1 - x0 := by unfold wrap64; omega
  have v4 : IntKind.i64.wrap (x1 - x0) = x1 - x0 := IntWalk.i64_in _ (by omega)
  have p5 := mul_bd (a := 2 * l) (x := x1 - x0) (A := 200000) (X := 200000) (by omega) (by omega) (by omega) (by omega)
  obtain ⟨m5, Hm5⟩ : ∃ m5, Hid ((2 * l) * (x1 - x0) = m5) := ⟨_, Lib.hid rfl⟩
  rw [Hm5.out] at p5
  have w5 : wrap64 ((2 * l) * (x1 - x0)) = m5 := by rw [Hm5.out]; unfold wrap64; omega
  have v5 : IntKind.i64.wrap ((2 * l) * (x1 - x0)) = m5 := (IntWalk.i64_in _ (by rw [Hm5.out]; omega)).trans Hm5.out
  -- b is m5
  go_enter Tryz.func35, Tryz.ntmps35
  go_wp2_with fail
  refine ((Hc _ (by (repeat (first | exact brf | assumption | refine ble ?_ | refine blx ?_ | refine bla ?_ | refine bls ?_ | refine bld ?_)))).out).mono ?_
  rintro e w1 ⟨rfl, hb1⟩
  have hw1 := below_trans (show Below W.heap.size W ((W.alloc (.cells #[.int .i64 2, .int .i64 l, .int .i64 w, .int .i64 t, .slice (some ⟨b, off, none⟩) 4 c] 25)).alloc (.cells #[.int .i64 0, .int .i64 0, .int .i64 0] 22)) by (repeat (first | exact brf | assumption | refine ble ?_ | refine blx ?_ | refine bla ?_ | refine bls ?_ | refine bld ?_))) hb1
  have HJ := Lib.hid ((hb1.block W.heap.size (by simp; omega)).trans ((heap_old (by simp)).trans (heap_new rfl)))
  have HR := Lib.hid ((hb1.block (W.heap.size + 1) (by simp)).trans (heap_new (by simp)))
  have c0 := (blk_cell HJ.out 0).trans rfl
  have c1 := (blk_cell HJ.out 1).trans rfl
  have c2 := (blk_cell HJ.out 2).trans rfl
  have c3 := (blk_cell HJ.out 3).trans rfl
  have c4 := (blk_cell HJ.out 4).trans rfl
  simp only [List.getElem?_toArray, List.getElem?_cons_zero, List.getElem?_cons_succ] at c0 c1 c2 c3 c4
  have zj := blk_lt HJ.out
  clear hb1 Hc
  go_wp2
  refine wp_region_quietB (by kernel_rfl) (by kernel_rfl) ?_
  repeat (first | go_big_quiet_step (fail) | quiet_step (fail))
  refine wpQuiet_nil ?_
  rintro _ ⟨u, rfl⟩
  have HJu := Lib.hid ((u.below.block _ zj).trans HJ.out)
  have HRu := Lib.hid ((u.below.block _ (blk_lt HR.out)).trans HR.out)
  have hwu : Below W.heap.size W u.val := below_trans hw1 u.below
  clear HJ HR c0 c1 c2 c3 c4 zj
  generalize u.val = w9 at *
  clear u
  have c0 := (blk_cell HJu.out 0).trans rfl
  have c4 := (blk_cell HJu.out 4).trans rfl
  have e0 := (blk_cell HRu.out 0).trans rfl
  have e1 := (blk_cell HRu.out 1).trans rfl
  have e2 := (blk_cell HRu.out 2).trans rfl
  have f0 := blk_free HRu.out 0
  have f1 := blk_free HRu.out 1
  have f2 := blk_free HRu.out 2
  have zu := blk_lt HRu.out
  have zju := blk_lt HJu.out
  have zb9 := Nat.lt_of_lt_of_le zb hwu.size
  simp only [List.getElem?_toArray, List.getElem?_cons_zero, List.getElem?_cons_succ] at c0 c4 e0 e1 e2
  have n0 := below_cell hwu n0
  have n1 := below_cell hwu n1
  have n2 := below_cell hwu n2
  have n3 := below_cell hwu n3
  go_wp2
  refine wp_region_tailB 21 (by kernel_rfl) (by kernel_rfl) ?_
  simp only [List.take_succ_cons, List.take_zero, List.drop_succ_cons, List.drop_zero]
  repeat (first | go_big_quiet_step (fail) | quiet_step (fail))
  refine wpQuiet_nil ?_
  rintro _ ⟨u, rfl⟩
  have HRv := Lib.hid ((u.below.block _ zu).trans HRu.out)
  have hwv : Below W.heap.size W u.val := below_trans hwu u.below
  clear e0 e1 e2 f0 f1 f2
  have e0 := (blk_cell HRv.out 0).trans rfl
  have e1 := (blk_cell HRv.out 1).trans rfl
  have e2 := (blk_cell HRv.out 2).trans rfl
  have f0 := blk_free HRv.out 0
  have f1 := blk_free HRv.out 1
  have f2 := blk_free HRv.out 2
  have zv := blk_lt HRv.out
  simp only [List.getElem?_toArray, List.getElem?_cons_zero, List.getElem?_cons_succ] at e0 e1 e2
  go_wp2
  refine bodyPost_ret (v := .tuple #[.agg #[.int .i64 (0), .int .i64 (m3), .int .i64 (m5)], .int .i64 0]) (by simp [results, Tryz.results35, go_sem, e0, e1, e2]) rfl ⟨?_, ?_⟩
  · exact retA_eq rfl Hm3.out.symm Hm5.out.symm
  · refine Below.setCell (Below.setCell (Below.setCell hwv ?_ _) ?_ _) ?_ _ <;> simp
end
/- joint: Area at more kinds (written by gen_area.py). -/
section
open Go.RowKit Go.Shelf
attribute [local go_sem] Ext.cell Ext.frozen
set_option linter.unusedVariables false in
set_option maxRecDepth 100000 in
set_option maxHeartbeats 4000000 in
theorem Area_0 (l w t : Int) (nv : Value) (n : List Int) (W : World) (hn : Ints W nv n) (hlen : n.length = 1) (hl : 1 ≤ l ∧ l ≤ 100000) (hw : 1 ≤ w ∧ w ≤ 100000) (ht : 1 ≤ t ∧ t ≤ 100000) (hb : ∀ i, i < n.length → -100000 ≤ n.getD i 0 ∧ n.getD i 0 ≤ 100000)
    (hc : ∀ W', Below W.heap.size W W' → Calls Tryz.prog 23 #[vJ 0 l w t nv] W' (Ret W' (.int .i64 0))) :
    Calls Tryz.prog 35 #[vJ 0 l w t nv] W fun e w' => e = retA 0 0 (l * w) ∧ Below W.heap.size W w' := by
  have Hc := fun W' h => Lib.hid (hc W' h)
  unfold vJ at *
  obtain ⟨b, off, c, rfl, hcc, zb, hi⟩ := hn.at' (by omega)
  have n0 := hi 0 (by omega)
  rw [Nat.add_zero] at n0
  have b0 := hb 0 (by omega)
  rw [hlen] at Hc ⊢
  generalize n.getD 0 0 = x0 at *
  clear hi hn hc hb hlen hcc
  have p1 := mul_bd (a := l) (x := w) (A := 100000) (X := 100000) (by omega) (by omega) (by omega) (by omega)
  obtain ⟨m1, Hm1⟩ : ∃ m1, Hid (l * w = m1) := ⟨_, Lib.hid rfl⟩
  rw [Hm1.out] at p1
  have w1 : wrap64 (l * w) = m1 := by rw [Hm1.out]; unfold wrap64; omega
  have v1 : IntKind.i64.wrap (l * w) = m1 := (IntWalk.i64_in _ (by rw [Hm1.out]; omega)).trans Hm1.out
  -- a is m1
  go_enter Tryz.func35, Tryz.ntmps35
  go_wp2_with fail
  refine ((Hc _ (by (repeat (first | exact brf | assumption | refine ble ?_ | refine blx ?_ | refine bla ?_ | refine bls ?_ | refine bld ?_)))).out).mono ?_
  rintro e w1 ⟨rfl, hb1⟩
  have hw1 := below_trans (show Below W.heap.size W ((W.alloc (.cells #[.int .i64 0, .int .i64 l, .int .i64 w, .int .i64 t, .slice (some ⟨b, off, none⟩) 1 c] 25)).alloc (.cells #[.int .i64 0, .int .i64 0, .int .i64 0] 22)) by (repeat (first | exact brf | assumption | refine ble ?_ | refine blx ?_ | refine bla ?_ | refine bls ?_ | refine bld ?_))) hb1
  have HJ := Lib.hid ((hb1.block W.heap.size (by simp; omega)).trans ((heap_old (by simp)).trans (heap_new rfl)))
  have HR := Lib.hid ((hb1.block (W.heap.size + 1) (by simp)).trans (heap_new (by simp)))
  have c0 := (blk_cell HJ.out 0).trans rfl
  have c1 := (blk_cell HJ.out 1).trans rfl
  have c2 := (blk_cell HJ.out 2).trans rfl
  have c3 := (blk_cell HJ.out 3).trans rfl
  have c4 := (blk_cell HJ.out 4).trans rfl
  simp only [List.getElem?_toArray, List.getElem?_cons_zero, List.getElem?_cons_succ] at c0 c1 c2 c3 c4
  have zj := blk_lt HJ.out
  clear hb1 Hc
  go_wp2
  refine wp_region_quietB (by kernel_rfl) (by kernel_rfl) ?_
  repeat (first | go_big_quiet_step (fail) | quiet_step (fail))
  refine wpQuiet_nil ?_
  rintro _ ⟨u, rfl⟩
  have HJu := Lib.hid ((u.below.block _ zj).trans HJ.out)
  have HRu := Lib.hid ((u.below.block _ (blk_lt HR.out)).trans HR.out)
  have hwu : Below W.heap.size W u.val := below_trans hw1 u.below
  clear HJ HR c0 c1 c2 c3 c4 zj
  generalize u.val = w9 at *
  clear u
  have c0 := (blk_cell HJu.out 0).trans rfl
  have c4 := (blk_cell HJu.out 4).trans rfl
  have e0 := (blk_cell HRu.out 0).trans rfl
  have e1 := (blk_cell HRu.out 1).trans rfl
  have e2 := (blk_cell HRu.out 2).trans rfl
  have f0 := blk_free HRu.out 0
  have f1 := blk_free HRu.out 1
  have f2 := blk_free HRu.out 2
  have zu := blk_lt HRu.out
  have zju := blk_lt HJu.out
  have zb9 := Nat.lt_of_lt_of_le zb hwu.size
  simp only [List.getElem?_toArray, List.getElem?_cons_zero, List.getElem?_cons_succ] at c0 c4 e0 e1 e2
  have n0 := below_cell hwu n0
  go_wp2
  refine bodyPost_ret (v := .tuple #[.agg #[.int .i64 (0), .int .i64 (0), .int .i64 (m1)], .int .i64 0]) (by simp [results, Tryz.results35, go_sem, e0, e1, e2]) rfl ⟨?_, ?_⟩
  · exact retA_eq rfl rfl Hm1.out.symm
  · refine Below.setCell (Below.setCell (Below.setCell hwu ?_ _) ?_ _) ?_ _ <;> simp
set_option linter.unusedVariables false in
set_option maxRecDepth 100000 in
set_option maxHeartbeats 4000000 in
theorem Area_1 (l w t : Int) (nv : Value) (n : List Int) (W : World) (hn : Ints W nv n) (hlen : n.length = 2) (hl : 1 ≤ l ∧ l ≤ 100000) (hw : 1 ≤ w ∧ w ≤ 100000) (ht : 1 ≤ t ∧ t ≤ 100000) (hb : ∀ i, i < n.length → -100000 ≤ n.getD i 0 ∧ n.getD i 0 ≤ 100000)
    (hc : ∀ W', Below W.heap.size W W' → Calls Tryz.prog 23 #[vJ 1 l w t nv] W' (Ret W' (.int .i64 0))) :
    Calls Tryz.prog 35 #[vJ 1 l w t nv] W fun e w' => e = retA 0 0 (2 * l * w) ∧ Below W.heap.size W w' := by
  have Hc := fun W' h => Lib.hid (hc W' h)
  unfold vJ at *
  obtain ⟨b, off, c, rfl, hcc, zb, hi⟩ := hn.at' (by omega)
  have n0 := hi 0 (by omega)
  have n1 := hi 1 (by omega)
  rw [Nat.add_zero] at n0
  have b0 := hb 0 (by omega)
  have b1 := hb 1 (by omega)
  rw [hlen] at Hc ⊢
  generalize n.getD 0 0 = x0 at *
  generalize n.getD 1 0 = x1 at *
  clear hi hn hc hb hlen hcc
  have w1 : wrap64 (2 * l) = 2 * l := by unfold wrap64; omega
  have v1 : IntKind.i64.wrap (2 * l) = 2 * l := IntWalk.i64_in _ (by omega)
  have p2 := mul_bd (a := 2 * l) (x := w) (A := 200000) (X := 100000) (by omega) (by omega) (by omega) (by omega)
  obtain ⟨m2, Hm2⟩ : ∃ m2, Hid ((2 * l) * w = m2) := ⟨_, Lib.hid rfl⟩
  rw [Hm2.out] at p2
  have w2 : wrap64 ((2 * l) * w) = m2 := by rw [Hm2.out]; unfold wrap64; omega
  have v2 : IntKind.i64.wrap ((2 * l) * w) = m2 := (IntWalk.i64_in _ (by rw [Hm2.out]; omega)).trans Hm2.out
  -- a is m2
  go_enter Tryz.func35, Tryz.ntmps35
  go_wp2_with fail
  refine ((Hc _ (by (repeat (first | exact brf | assumption | refine ble ?_ | refine blx ?_ | refine bla ?_ | refine bls ?_ | refine bld ?_)))).out).mono ?_
  rintro e w1 ⟨rfl, hb1⟩
  have hw1 := below_trans (show Below W.heap.size W ((W.alloc (.cells #[.int .i64 1, .int .i64 l, .int .i64 w, .int .i64 t, .slice (some ⟨b, off, none⟩) 2 c] 25)).alloc (.cells #[.int .i64 0, .int .i64 0, .int .i64 0] 22)) by (repeat (first | exact brf | assumption | refine ble ?_ | refine blx ?_ | refine bla ?_ | refine bls ?_ | refine bld ?_))) hb1
  have HJ := Lib.hid ((hb1.block W.heap.size (by simp; omega)).trans ((heap_old (by simp)).trans (heap_new rfl)))
  have HR := Lib.hid ((hb1.block (W.heap.size + 1) (by simp)).trans (heap_new (by simp)))
  have c0 := (blk_cell HJ.out 0).trans rfl
  have c1 := (blk_cell HJ.out 1).trans rfl
  have c2 := (blk_cell HJ.out 2).trans rfl
  have c3 := (blk_cell HJ.out 3).trans rfl
  have c4 := (blk_cell HJ.out 4).trans rfl
  simp only [List.getElem?_toArray, List.getElem?_cons_zero, List.getElem?_cons_succ] at c0 c1 c2 c3 c4
  have zj := blk_lt HJ.out
  clear hb1 Hc
  go_wp2
  refine wp_region_quietB (by kernel_rfl) (by kernel_rfl) ?_
  repeat (first | go_big_quiet_step (fail) | quiet_step (fail))
  refine wpQuiet_nil ?_
  rintro _ ⟨u, rfl⟩
  have HJu := Lib.hid ((u.below.block _ zj).trans HJ.out)
  have HRu := Lib.hid ((u.below.block _ (blk_lt HR.out)).trans HR.out)
  have hwu : Below W.heap.size W u.val := below_trans hw1 u.below
  clear HJ HR c0 c1 c2 c3 c4 zj
  generalize u.val = w9 at *
  clear u
  have c0 := (blk_cell HJu.out 0).trans rfl
  have c4 := (blk_cell HJu.out 4).trans rfl
  have e0 := (blk_cell HRu.out 0).trans rfl
  have e1 := (blk_cell HRu.out 1).trans rfl
  have e2 := (blk_cell HRu.out 2).trans rfl
  have f0 := blk_free HRu.out 0
  have f1 := blk_free HRu.out 1
  have f2 := blk_free HRu.out 2
  have zu := blk_lt HRu.out
  have zju := blk_lt HJu.out
  have zb9 := Nat.lt_of_lt_of_le zb hwu.size
  simp only [List.getElem?_toArray, List.getElem?_cons_zero, List.getElem?_cons_succ] at c0 c4 e0 e1 e2
  have n0 := below_cell hwu n0
  have n1 := below_cell hwu n1
  go_wp2
  refine bodyPost_ret (v := .tuple #[.agg #[.int .i64 (0), .int .i64 (0), .int .i64 (m2)], .int .i64 0]) (by simp [results, Tryz.results35, go_sem, e0, e1, e2]) rfl ⟨?_, ?_⟩
  · exact retA_eq rfl rfl Hm2.out.symm
  · refine Below.setCell (Below.setCell (Below.setCell hwu ?_ _) ?_ _) ?_ _ <;> simp
set_option linter.unusedVariables false in
set_option maxRecDepth 100000 in
set_option maxHeartbeats 4000000 in
theorem Area_10 (l w t : Int) (nv : Value) (n : List Int) (W : World) (hn : Ints W nv n) (hlen : n.length = 5) (hl : 1 ≤ l ∧ l ≤ 100000) (hw : 1 ≤ w ∧ w ≤ 100000) (ht : 1 ≤ t ∧ t ≤ 100000) (hb : ∀ i, i < n.length → -100000 ≤ n.getD i 0 ∧ n.getD i 0 ≤ 100000)
    (hc : ∀ W', Below W.heap.size W W' → Calls Tryz.prog 23 #[vJ 10 l w t nv] W' (Ret W' (.int .i64 0))) :
    Calls Tryz.prog 35 #[vJ 10 l w t nv] W fun e w' => e = retA (2 * (n.getD 4 0 - n.getD 3 0) * t) (2 * (n.getD 2 0 - n.getD 1 0) * t) (l * w - (n.getD 2 0 - n.getD 1 0) * (n.getD 4 0 - n.getD 3 0)) ∧ Below W.heap.size W w' := by
  have Hc := fun W' h => Lib.hid (hc W' h)
  unfold vJ at *
  obtain ⟨b, off, c, rfl, hcc, zb, hi⟩ := hn.at' (by omega)
  have n0 := hi 0 (by omega)
  have n1 := hi 1 (by omega)
  have n2 := hi 2 (by omega)
  have n3 := hi 3 (by omega)
  have n4 := hi 4 (by omega)
  rw [Nat.add_zero] at n0
  have b0 := hb 0 (by omega)
  have b1 := hb 1 (by omega)
  have b2 := hb 2 (by omega)
  have b3 := hb 3 (by omega)
  have b4 := hb 4 (by omega)
  rw [hlen] at Hc ⊢
  generalize n.getD 0 0 = x0 at *
  generalize n.getD 1 0 = x1 at *
  generalize n.getD 2 0 = x2 at *
  generalize n.getD 3 0 = x3 at *
  generalize n.getD 4 0 = x4 at *
  clear hi hn hc hb hlen hcc
  have w1 : wrap64 (x4 - x3) = x4 - x3 := by unfold wrap64; omega
  have v1 : IntKind.i64.wrap (x4 - x3) = x4 - x3 := IntWalk.i64_in _ (by omega)
  have w2 : wrap64 (2 * (x4 - x3)) = 2 * (x4 - x3) := by unfold wrap64; omega
  have v2 : IntKind.i64.wrap (2 * (x4 - x3)) = 2 * (x4 - x3) := IntWalk.i64_in _ (by omega)
  have p3 := mul_bd (a := 2 * (x4 - x3)) (x := t) (A := 400000) (X := 100000) (by omega) (by omega) (by omega) (by omega)
  obtain ⟨m3, Hm3⟩ : ∃ m3, Hid ((2 * (x4 - x3)) * t = m3) := ⟨_, Lib.hid rfl⟩
  rw [Hm3.out] at p3
  have w3 : wrap64 ((2 * (x4 - x3)) * t) = m3 := by rw [Hm3.out]; unfold wrap64; omega
  have v3 : IntKind.i64.wrap ((2 * (x4 - x3)) * t) = m3 := (IntWalk.i64_in _ (by rw [Hm3.out]; omega)).trans Hm3.out
  -- a is m3
  have w4 : wrap64 (x2 - x1) = x2 - x1 := by unfold wrap64; omega
  have v4 : IntKind.i64.wrap (x2 - x1) = x2 - x1 := IntWalk.i64_in _ (by omega)
  have w5 : wrap64 (2 * (x2 - x1)) = 2 * (x2 - x1) := by unfold wrap64; omega
  have v5 : IntKind.i64.wrap (2 * (x2 - x1)) = 2 * (x2 - x1) := IntWalk.i64_in _ (by omega)
  have p6 := mul_bd (a := 2 * (x2 - x1)) (x := t) (A := 400000) (X := 100000) (by omega) (by omega) (by omega) (by omega)
  obtain ⟨m6, Hm6⟩ : ∃ m6, Hid ((2 * (x2 - x1)) * t = m6) := ⟨_, Lib.hid rfl⟩
  rw [Hm6.out] at p6
  have w6 : wrap64 ((2 * (x2 - x1)) * t) = m6 := by rw [Hm6.out]; unfold wrap64; omega
  have v6 : IntKind.i64.wrap ((2 * (x2 - x1)) * t) = m6 := (IntWalk.i64_in _ (by rw [Hm6.out]; omega)).trans Hm6.out
  -- b is m6
  have p7 := mul_bd (a := l) (x := w) (A := 100000) (X := 100000) (by omega) (by omega) (by omega) (by omega)
  obtain ⟨m7, Hm7⟩ : ∃ m7, Hid (l * w = m7) := ⟨_, Lib.hid rfl⟩
  rw [Hm7.out] at p7
  have w7 : wrap64 (l * w) = m7 := by rw [Hm7.out]; unfold wrap64; omega
  have v7 : IntKind.i64.wrap (l * w) = m7 := (IntWalk.i64_in _ (by rw [Hm7.out]; omega)).trans Hm7.out
  have p8 := mul_bd (a := x2 - x1) (x := x4 - x3) (A := 200000) (X := 200000) (by omega) (by omega) (by omega) (by omega)
  obtain ⟨m8, Hm8⟩ : ∃ m8, Hid ((x2 - x1) * (x4 - x3) = m8) := ⟨_, Lib.hid rfl⟩
  rw [Hm8.out] at p8
  have w8 : wrap64 ((x2 - x1) * (x4 - x3)) = m8 := by rw [Hm8.out]; unfold wrap64; omega
  have v8 : IntKind.i64.wrap ((x2 - x1) * (x4 - x3)) = m8 := (IntWalk.i64_in _ (by rw [Hm8.out]; omega)).trans Hm8.out
  have w9 : wrap64 (m7 - m8) = m7 - m8 := by unfold wrap64; omega
  have v9 : IntKind.i64.wrap (m7 - m8) = m7 - m8 := IntWalk.i64_in _ (by omega)
  -- c is m7 - m8
  go_enter Tryz.func35, Tryz.ntmps35
  go_wp2_with fail
  refine ((Hc _ (by (repeat (first | exact brf | assumption | refine ble ?_ | refine blx ?_ | refine bla ?_ | refine bls ?_ | refine bld ?_)))).out).mono ?_
  rintro e w1 ⟨rfl, hb1⟩
  have hw1 := below_trans (show Below W.heap.size W ((W.alloc (.cells #[.int .i64 10, .int .i64 l, .int .i64 w, .int .i64 t, .slice (some ⟨b, off, none⟩) 5 c] 25)).alloc (.cells #[.int .i64 0, .int .i64 0, .int .i64 0] 22)) by (repeat (first | exact brf | assumption | refine ble ?_ | refine blx ?_ | refine bla ?_ | refine bls ?_ | refine bld ?_))) hb1
  have HJ := Lib.hid ((hb1.block W.heap.size (by simp; omega)).trans ((heap_old (by simp)).trans (heap_new rfl)))
  have HR := Lib.hid ((hb1.block (W.heap.size + 1) (by simp)).trans (heap_new (by simp)))
  have c0 := (blk_cell HJ.out 0).trans rfl
  have c1 := (blk_cell HJ.out 1).trans rfl
  have c2 := (blk_cell HJ.out 2).trans rfl
  have c3 := (blk_cell HJ.out 3).trans rfl
  have c4 := (blk_cell HJ.out 4).trans rfl
  simp only [List.getElem?_toArray, List.getElem?_cons_zero, List.getElem?_cons_succ] at c0 c1 c2 c3 c4
  have zj := blk_lt HJ.out
  clear hb1 Hc
  go_wp2
  refine wp_region_quietB (by kernel_rfl) (by kernel_rfl) ?_
  repeat (first | go_big_quiet_step (fail) | quiet_step (fail))
  refine wpQuiet_nil ?_
  rintro _ ⟨u, rfl⟩
  have HJu := Lib.hid ((u.below.block _ zj).trans HJ.out)
  have HRu := Lib.hid ((u.below.block _ (blk_lt HR.out)).trans HR.out)
  have hwu : Below W.heap.size W u.val := below_trans hw1 u.below
  clear HJ HR c0 c1 c2 c3 c4 zj
  generalize u.val = w9 at *
  clear u
  have c0 := (blk_cell HJu.out 0).trans rfl
  have c4 := (blk_cell HJu.out 4).trans rfl
  have e0 := (blk_cell HRu.out 0).trans rfl
  have e1 := (blk_cell HRu.out 1).trans rfl
  have e2 := (blk_cell HRu.out 2).trans rfl
  have f0 := blk_free HRu.out 0
  have f1 := blk_free HRu.out 1
  have f2 := blk_free HRu.out 2
  have zu := blk_lt HRu.out
  have zju := blk_lt HJu.out
  have zb9 := Nat.lt_of_lt_of_le zb hwu.size
  simp only [List.getElem?_toArray, List.getElem?_cons_zero, List.getElem?_cons_succ] at c0 c4 e0 e1 e2
  have n0 := below_cell hwu n0
  have n1 := below_cell hwu n1
  have n2 := below_cell hwu n2
  have n3 := below_cell hwu n3
  have n4 := below_cell hwu n4
  go_wp2
  refine wp_region_quietB (by kernel_rfl) (by kernel_rfl) ?_
  repeat (first | go_big_quiet_step (fail) | quiet_step (fail))
  refine wpQuiet_nil ?_
  rintro _ ⟨u, rfl⟩
  have HRv := Lib.hid ((u.below.block _ zu).trans HRu.out)
  have HJv := Lib.hid ((u.below.block _ zju).trans HJu.out)
  have hwv : Below W.heap.size W u.val := below_trans hwu u.below
  have hub := u.below
  clear e0 e1 e2 f0 f1 f2 c0 c4 zu zju zb9 HRu HJu hwu
  generalize u.val = w8 at *
  clear u
  have HRu := HRv
  have HJu := HJv
  have hwu := hwv
  clear HRv HJv hwv
  have c0 := (blk_cell HJu.out 0).trans rfl
  have c4 := (blk_cell HJu.out 4).trans rfl
  have e0 := (blk_cell HRu.out 0).trans rfl
  have e1 := (blk_cell HRu.out 1).trans rfl
  have e2 := (blk_cell HRu.out 2).trans rfl
  have f0 := blk_free HRu.out 0
  have f1 := blk_free HRu.out 1
  have f2 := blk_free HRu.out 2
  have zu := blk_lt HRu.out
  have zju := blk_lt HJu.out
  have zb9 := Nat.lt_of_lt_of_le zb hwu.size
  simp only [List.getElem?_toArray, List.getElem?_cons_zero, List.getElem?_cons_succ] at c0 c4 e0 e1 e2
  have n0 := below_cell hub n0
  have n1 := below_cell hub n1
  have n2 := below_cell hub n2
  have n3 := below_cell hub n3
  have n4 := below_cell hub n4
  clear hub
  go_wp2
  refine bodyPost_ret (v := .tuple #[.agg #[.int .i64 (m3), .int .i64 (m6), .int .i64 (m7 - m8)], .int .i64 0]) (by simp [results, Tryz.results35, go_sem, e0, e1, e2]) rfl ⟨?_, ?_⟩
  · exact retA_eq Hm3.out.symm Hm6.out.symm (by rw [Hm7.out, Hm8.out])
  · refine Below.setCell (Below.setCell (Below.setCell hwu ?_ _) ?_ _) ?_ _ <;> simp
set_option linter.unusedVariables false in
set_option maxRecDepth 100000 in
set_option maxHeartbeats 4000000 in
theorem Area_9 (l w t : Int) (nv : Value) (n : List Int) (W : World) (hn : Ints W nv n) (hlen : n.length = 5) (hl : 1 ≤ l ∧ l ≤ 100000) (hw : 1 ≤ w ∧ w ≤ 100000) (ht : 1 ≤ t ∧ t ≤ 100000) (hb : ∀ i, i < n.length → -100000 ≤ n.getD i 0 ∧ n.getD i 0 ≤ 100000)
    (hc : ∀ W', Below W.heap.size W W' → Calls Tryz.prog 23 #[vJ 9 l w t nv] W' (Ret W' (.int .i64 0))) :
    Calls Tryz.prog 35 #[vJ 9 l w t nv] W fun e w' => e = retA (l * t + n.getD 1 0 * (n.getD 4 0 - n.getD 3 0) + 2 * n.getD 2 0 * (n.getD 4 0 - n.getD 3 0)) (l * t + n.getD 1 0 * (n.getD 4 0 - n.getD 3 0) + 2 * n.getD 2 0 * (n.getD 4 0 - n.getD 3 0)) (4 * n.getD 1 0 * n.getD 2 0) ∧ Below W.heap.size W w' := by
  have Hc := fun W' h => Lib.hid (hc W' h)
  unfold vJ at *
  obtain ⟨b, off, c, rfl, hcc, zb, hi⟩ := hn.at' (by omega)
  have n0 := hi 0 (by omega)
  have n1 := hi 1 (by omega)
  have n2 := hi 2 (by omega)
  have n3 := hi 3 (by omega)
  have n4 := hi 4 (by omega)
  rw [Nat.add_zero] at n0
  have b0 := hb 0 (by omega)
  have b1 := hb 1 (by omega)
  have b2 := hb 2 (by omega)
  have b3 := hb 3 (by omega)
  have b4 := hb 4 (by omega)
  rw [hlen] at Hc ⊢
  generalize n.getD 0 0 = x0 at *
  generalize n.getD 1 0 = x1 at *
  generalize n.getD 2 0 = x2 at *
  generalize n.getD 3 0 = x3 at *
  generalize n.getD 4 0 = x4 at *
  clear hi hn hc hb hlen hcc
  have p1 := mul_bd (a := l) (x := t) (A := 100000) (X := 100000) (by omega) (by omega) (by omega) (by omega)
  obtain ⟨m1, Hm1⟩ : ∃ m1, Hid (l * t = m1) := ⟨_, Lib.hid rfl⟩
  rw [Hm1.out] at p1
  have w1 : wrap64 (l * t) = m1 := by rw [Hm1.out]; unfold wrap64; omega
  have v1 : IntKind.i64.wrap (l * t) = m1 := (IntWalk.i64_in _ (by rw [Hm1.out]; omega)).trans Hm1.out
  have w2 : wrap64 (x4 - x3) = x4 - x3 := by unfold wrap64; omega
  have v2 : IntKind.i64.wrap (x4 - x3) = x4 - x3 := IntWalk.i64_in _ (by omega)
  have p3 := mul_bd (a := x1) (x := x4 - x3) (A := 100000) (X := 200000) (by omega) (by omega) (by omega) (by omega)
  obtain ⟨m3, Hm3⟩ : ∃ m3, Hid (x1 * (x4 - x3) = m3) := ⟨_, Lib.hid rfl⟩
  rw [Hm3.out] at p3
  have w3 : wrap64 (x1 * (x4 - x3)) = m3 := by rw [Hm3.out]; unfold wrap64; omega
  have v3 : IntKind.i64.wrap (x1 * (x4 - x3)) = m3 := (IntWalk.i64_in _ (by rw [Hm3.out]; omega)).trans Hm3.out
  have w4 : wrap64 (m1 + m3) = m1 + m3 := by unfold wrap64; omega
  have v4 : IntKind.i64.wrap (m1 + m3) = m1 + m3 := IntWalk.i64_in _ (by omega)
  have w5 : wrap64 (2 * x2) = 2 * x2 := by unfold wrap64; omega
  have v5 : IntKind.i64.wrap (2 * x2) = 2 * x2 := IntWalk.i64_in _ (by omega)
  have p6 := mul_bd (a := 2 * x2) (x := x4 - x3) (A := 200000) (X := 200000) (by omega) (by omega) (by omega) (by omega)
  obtain ⟨m6, Hm6⟩ : ∃ m6, Hid ((2 * x2) * (x4 - x3) = m6) := ⟨_, Lib.hid rfl⟩
  rw [Hm6.out] at p6
  have w6 : wrap64 ((2 * x2) * (x4 - x3)) = m6 := by rw [Hm6.out]; unfold wrap64; omega
  have v6 : IntKind.i64.wrap ((2 * x2) * (x4 - x3)) = m6 := (IntWalk.i64_in _ (by rw [Hm6.out]; omega)).trans Hm6.out
  have w7 : wrap64 (m1 + m3 + m6) = m1 + m3 + m6 := by unfold wrap64; omega
  have v7 : IntKind.i64.wrap (m1 + m3 + m6) = m1 + m3 + m6 := IntWalk.i64_in _ (by omega)
  -- a is m1 + m3 + m6
  have w8 : wrap64 (4 * x1) = 4 * x1 := by unfold wrap64; omega
  have v8 : IntKind.i64.wrap (4 * x1) = 4 * x1 := IntWalk.i64_in _ (by omega)
  have p9 := mul_bd (a := 4 * x1) (x := x2) (A := 400000) (X := 100000) (by omega) (by omega) (by omega) (by omega)
  obtain ⟨m9, Hm9⟩ : ∃ m9, Hid ((4 * x1) * x2 = m9) := ⟨_, Lib.hid rfl⟩
  rw [Hm9.out] at p9
  have w9 : wrap64 ((4 * x1) * x2) = m9 := by rw [Hm9.out]; unfold wrap64; omega
  have v9 : IntKind.i64.wrap ((4 * x1) * x2) = m9 := (IntWalk.i64_in _ (by rw [Hm9.out]; omega)).trans Hm9.out
  -- b is m9
  go_enter Tryz.func35, Tryz.ntmps35
  go_wp2_with fail
  refine ((Hc _ (by (repeat (first | exact brf | assumption | refine ble ?_ | refine blx ?_ | refine bla ?_ | refine bls ?_ | refine bld ?_)))).out).mono ?_
  rintro e w1 ⟨rfl, hb1⟩
  have hw1 := below_trans (show Below W.heap.size W ((W.alloc (.cells #[.int .i64 9, .int .i64 l, .int .i64 w, .int .i64 t, .slice (some ⟨b, off, none⟩) 5 c] 25)).alloc (.cells #[.int .i64 0, .int .i64 0, .int .i64 0] 22)) by (repeat (first | exact brf | assumption | refine ble ?_ | refine blx ?_ | refine bla ?_ | refine bls ?_ | refine bld ?_))) hb1
  have HJ := Lib.hid ((hb1.block W.heap.size (by simp; omega)).trans ((heap_old (by simp)).trans (heap_new rfl)))
  have HR := Lib.hid ((hb1.block (W.heap.size + 1) (by simp)).trans (heap_new (by simp)))
  have c0 := (blk_cell HJ.out 0).trans rfl
  have c1 := (blk_cell HJ.out 1).trans rfl
  have c2 := (blk_cell HJ.out 2).trans rfl
  have c3 := (blk_cell HJ.out 3).trans rfl
  have c4 := (blk_cell HJ.out 4).trans rfl
  simp only [List.getElem?_toArray, List.getElem?_cons_zero, List.getElem?_cons_succ] at c0 c1 c2 c3 c4
  have zj := blk_lt HJ.out
  clear hb1 Hc
  go_wp2
  refine wp_region_quietB (by kernel_rfl) (by kernel_rfl) ?_
  repeat (first | go_big_quiet_step (fail) | quiet_step (fail))
  refine wpQuiet_nil ?_
  rintro _ ⟨u, rfl⟩
  have HJu := Lib.hid ((u.below.block _ zj).trans HJ.out)
  have HRu := Lib.hid ((u.below.block _ (blk_lt HR.out)).trans HR.out)
  have hwu : Below W.heap.size W u.val := below_trans hw1 u.below
  clear HJ HR c0 c1 c2 c3 c4 zj
  generalize u.val = w9 at *
  clear u
  have c0 := (blk_cell HJu.out 0).trans rfl
  have c4 := (blk_cell HJu.out 4).trans rfl
  have e0 := (blk_cell HRu.out 0).trans rfl
  have e1 := (blk_cell HRu.out 1).trans rfl
  have e2 := (blk_cell HRu.out 2).trans rfl
  have f0 := blk_free HRu.out 0
  have f1 := blk_free HRu.out 1
  have f2 := blk_free HRu.out 2
  have zu := blk_lt HRu.out
  have zju := blk_lt HJu.out
  have zb9 := Nat.lt_of_lt_of_le zb hwu.size
  simp only [List.getElem?_toArray, List.getElem?_cons_zero, List.getElem?_cons_succ] at c0 c4 e0 e1 e2
  have n0 := below_cell hwu n0
  have n1 := below_cell hwu n1
  have n2 := below_cell hwu n2
  have n3 := below_cell hwu n3
  have n4 := below_cell hwu n4
  go_wp2
  refine wp_region_quietB (by kernel_rfl) (by kernel_rfl) ?_
  repeat (first | go_big_quiet_step (fail) | quiet_step (fail))
  refine wpQuiet_nil ?_
  rintro _ ⟨u, rfl⟩
  have HRv := Lib.hid ((u.below.block _ zu).trans HRu.out)
  have HJv := Lib.hid ((u.below.block _ zju).trans HJu.out)
  have hwv : Below W.heap.size W u.val := below_trans hwu u.below
  have hub := u.below
  clear e0 e1 e2 f0 f1 f2 c0 c4 zu zju zb9 HRu HJu hwu
  generalize u.val = w8 at *
  clear u
  have HRu := HRv
  have HJu := HJv
  have hwu := hwv
  clear HRv HJv hwv
  have c0 := (blk_cell HJu.out 0).trans rfl
  have c4 := (blk_cell HJu.out 4).trans rfl
  have e0 := (blk_cell HRu.out 0).trans rfl
  have e1 := (blk_cell HRu.out 1).trans rfl
  have e2 := (blk_cell HRu.out 2).trans rfl
  have f0 := blk_free HRu.out 0
  have f1 := blk_free HRu.out 1
  have f2 := blk_free HRu.out 2
  have zu := blk_lt HRu.out
  have zju := blk_lt HJu.out
  have zb9 := Nat.lt_of_lt_of_le zb hwu.size
  simp only [List.getElem?_toArray, List.getElem?_cons_zero, List.getElem?_cons_succ] at c0 c4 e0 e1 e2
  have n0 := below_cell hub n0
  have n1 := below_cell hub n1
  have n2 := below_cell hub n2
  have n3 := below_cell hub n3
  have n4 := below_cell hub n4
  clear hub
  go_wp2
  refine wp_region_quietB (by kernel_rfl) (by kernel_rfl) ?_
  repeat (first | go_big_quiet_step (fail) | quiet_step (fail))
  refine wpQuiet_nil ?_
  rintro _ ⟨u, rfl⟩
  have HRv := Lib.hid ((u.below.block _ zu).trans HRu.out)
  have HJv := Lib.hid ((u.below.block _ zju).trans HJu.out)
  have hwv : Below W.heap.size W u.val := below_trans hwu u.below
  have hub := u.below
  clear e0 e1 e2 f0 f1 f2 c0 c4 zu zju zb9 HRu HJu hwu
  generalize u.val = w8 at *
  clear u
  have HRu := HRv
  have HJu := HJv
  have hwu := hwv
  clear HRv HJv hwv
  have c0 := (blk_cell HJu.out 0).trans rfl
  have c4 := (blk_cell HJu.out 4).trans rfl
  have e0 := (blk_cell HRu.out 0).trans rfl
  have e1 := (blk_cell HRu.out 1).trans rfl
  have e2 := (blk_cell HRu.out 2).trans rfl
  have f0 := blk_free HRu.out 0
  have f1 := blk_free HRu.out 1
  have f2 := blk_free HRu.out 2
  have zu := blk_lt HRu.out
  have zju := blk_lt HJu.out
  have zb9 := Nat.lt_of_lt_of_le zb hwu.size
  simp only [List.getElem?_toArray, List.getElem?_cons_zero, List.getElem?_cons_succ] at c0 c4 e0 e1 e2
  have n0 := below_cell hub n0
  have n1 := below_cell hub n1
  have n2 := below_cell hub n2
  have n3 := below_cell hub n3
  have n4 := below_cell hub n4
  clear hub
  go_wp2
  refine wp_region_tailB 11 (by kernel_rfl) (by kernel_rfl) ?_
  simp only [List.take_succ_cons, List.take_zero, List.drop_succ_cons, List.drop_zero]
  repeat (first | go_big_quiet_step (fail) | quiet_step (fail))
  refine wpQuiet_nil ?_
  rintro _ ⟨u, rfl⟩
  have HRv := Lib.hid ((u.below.block _ zu).trans HRu.out)
  have HJv := Lib.hid ((u.below.block _ zju).trans HJu.out)
  have hwv : Below W.heap.size W u.val := below_trans hwu u.below
  have hub := u.below
  clear e0 e1 e2 f0 f1 f2 c0 c4 zu zju zb9 HRu HJu hwu
  generalize u.val = w8 at *
  clear u
  have HRu := HRv
  have HJu := HJv
  have hwu := hwv
  clear HRv HJv hwv
  have c0 := (blk_cell HJu.out 0).trans rfl
  have c4 := (blk_cell HJu.out 4).trans rfl
  have e0 := (blk_cell HRu.out 0).trans rfl
  have e1 := (blk_cell HRu.out 1).trans rfl
  have e2 := (blk_cell HRu.out 2).trans rfl
  have f0 := blk_free HRu.out 0
  have f1 := blk_free HRu.out 1
  have f2 := blk_free HRu.out 2
  have zu := blk_lt HRu.out
  have zju := blk_lt HJu.out
  have zb9 := Nat.lt_of_lt_of_le zb hwu.size
  simp only [List.getElem?_toArray, List.getElem?_cons_zero, List.getElem?_cons_succ] at c0 c4 e0 e1 e2
  clear hub
  go_wp2
  refine bodyPost_ret (v := .tuple #[.agg #[.int .i64 (m1 + m3 + m6), .int .i64 (m1 + m3 + m6), .int .i64 (m9)], .int .i64 0]) (by simp [results, Tryz.results35, go_sem, e0, e1, e2]) rfl ⟨?_, ?_⟩
  · exact retA_eq (by rw [Hm1.out, Hm3.out, Hm6.out]) (by rw [Hm1.out, Hm3.out, Hm6.out]) Hm9.out.symm
  · refine Below.setCell (Below.setCell (Below.setCell hwu ?_ _) ?_ _) ?_ _ <;> simp
end
/- joint: Area at stopped and tongue (written by gen_area.py). -/
section
open Go.RowKit Go.Shelf
attribute [local go_sem] Ext.cell Ext.frozen
/-- What counts without a gap alone. -/
def tightV (a g : Int) : Int := if g = 0 then a else 0
theorem tight_any (a g : Int) (W : World) : Calls Tryz.prog 84 #[.int .i64 a, .int .i64 g] W fun e w' => e = .returned (.int .i64 (tightV a g)) ∧ W = w' := by
  by_cases h : g = 0
  · subst h
    go_enter Tryz.func84, Tryz.ntmps84
    go_wp2
    go_ret
    exact ⟨rfl, rfl⟩
  · have h' : (g == 0) = false := by simpa using h
    go_enter Tryz.func84, Tryz.ntmps84
    go_wp2
    go_ret
    exact ⟨ret_int (by simp [tightV, h]), rfl⟩
set_option linter.unusedVariables false in
set_option maxRecDepth 100000 in
set_option maxHeartbeats 4000000 in
theorem Area_3 (l w t : Int) (nv : Value) (n : List Int) (W : World) (hn : Ints W nv n) (hlen : n.length = 6) (hl : 1 ≤ l ∧ l ≤ 100000) (hw : 1 ≤ w ∧ w ≤ 100000) (ht : 1 ≤ t ∧ t ≤ 100000) (hb : ∀ i, i < n.length → -100000 ≤ n.getD i 0 ∧ n.getD i 0 ≤ 100000)
    (hc : ∀ W', Below W.heap.size W W' → Calls Tryz.prog 23 #[vJ 3 l w t nv] W' (Ret W' (.int .i64 0))) :
    Calls Tryz.prog 35 #[vJ 3 l w t nv] W fun e w' => e = retA (tightV ((n.getD 3 0 - n.getD 2 0) * (n.getD 5 0 - n.getD 4 0)) (n.getD 1 0)) (2 * n.getD 0 0 * (n.getD 5 0 - n.getD 4 0)) (2 * n.getD 0 0 * (n.getD 3 0 - n.getD 2 0)) ∧ Below W.heap.size W w' := by
  have Hc := fun W' h => Lib.hid (hc W' h)
  unfold vJ at *
  obtain ⟨b, off, c, rfl, hcc, zb, hi⟩ := hn.at' (by omega)
  have n0 := hi 0 (by omega)
  have n1 := hi 1 (by omega)
  have n2 := hi 2 (by omega)
  have n3 := hi 3 (by omega)
  have n4 := hi 4 (by omega)
  have n5 := hi 5 (by omega)
  rw [Nat.add_zero] at n0
  have b0 := hb 0 (by omega)
  have b1 := hb 1 (by omega)
  have b2 := hb 2 (by omega)
  have b3 := hb 3 (by omega)
  have b4 := hb 4 (by omega)
  have b5 := hb 5 (by omega)
  rw [hlen] at Hc ⊢
  generalize n.getD 0 0 = x0 at *
  generalize n.getD 1 0 = x1 at *
  generalize n.getD 2 0 = x2 at *
  generalize n.getD 3 0 = x3 at *
  generalize n.getD 4 0 = x4 at *
  generalize n.getD 5 0 = x5 at *
  clear hi hn hc hb hlen hcc
  have hT := fun a W' => Lib.hid (tight_any a x1 W')
  have w1 : wrap64 (x3 - x2) = x3 - x2 := by unfold wrap64; omega
  have v1 : IntKind.i64.wrap (x3 - x2) = x3 - x2 := IntWalk.i64_in _ (by omega)
  have w2 : wrap64 (x5 - x4) = x5 - x4 := by unfold wrap64; omega
  have v2 : IntKind.i64.wrap (x5 - x4) = x5 - x4 := IntWalk.i64_in _ (by omega)
  have p3 := mul_bd (a := x3 - x2) (x := x5 - x4) (A := 200000) (X := 200000) (by omega) (by omega) (by omega) (by omega)
  obtain ⟨m3, Hm3⟩ : ∃ m3, Hid ((x3 - x2) * (x5 - x4) = m3) := ⟨_, Lib.hid rfl⟩
  rw [Hm3.out] at p3
  have w3 : wrap64 ((x3 - x2) * (x5 - x4)) = m3 := by rw [Hm3.out]; unfold wrap64; omega
  have v3 : IntKind.i64.wrap ((x3 - x2) * (x5 - x4)) = m3 := (IntWalk.i64_in _ (by rw [Hm3.out]; omega)).trans Hm3.out
  -- a is m3
  have w4 : wrap64 (2 * x0) = 2 * x0 := by unfold wrap64; omega
  have v4 : IntKind.i64.wrap (2 * x0) = 2 * x0 := IntWalk.i64_in _ (by omega)
  have p5 := mul_bd (a := 2 * x0) (x := x5 - x4) (A := 200000) (X := 200000) (by omega) (by omega) (by omega) (by omega)
  obtain ⟨m5, Hm5⟩ : ∃ m5, Hid ((2 * x0) * (x5 - x4) = m5) := ⟨_, Lib.hid rfl⟩
  rw [Hm5.out] at p5
  have w5 : wrap64 ((2 * x0) * (x5 - x4)) = m5 := by rw [Hm5.out]; unfold wrap64; omega
  have v5 : IntKind.i64.wrap ((2 * x0) * (x5 - x4)) = m5 := (IntWalk.i64_in _ (by rw [Hm5.out]; omega)).trans Hm5.out
  -- b is m5
  have p6 := mul_bd (a := 2 * x0) (x := x3 - x2) (A := 200000) (X := 200000) (by omega) (by omega) (by omega) (by omega)
  obtain ⟨m6, Hm6⟩ : ∃ m6, Hid ((2 * x0) * (x3 - x2) = m6) := ⟨_, Lib.hid rfl⟩
  rw [Hm6.out] at p6
  have w6 : wrap64 ((2 * x0) * (x3 - x2)) = m6 := by rw [Hm6.out]; unfold wrap64; omega
  have v6 : IntKind.i64.wrap ((2 * x0) * (x3 - x2)) = m6 := (IntWalk.i64_in _ (by rw [Hm6.out]; omega)).trans Hm6.out
  -- c is m6
  go_enter Tryz.func35, Tryz.ntmps35
  go_wp2_with fail
  refine ((Hc _ (by (repeat (first | exact brf | assumption | refine ble ?_ | refine blx ?_ | refine bla ?_ | refine bls ?_ | refine bld ?_)))).out).mono ?_
  rintro e w1 ⟨rfl, hb1⟩
  have hw1 := below_trans (show Below W.heap.size W ((W.alloc (.cells #[.int .i64 3, .int .i64 l, .int .i64 w, .int .i64 t, .slice (some ⟨b, off, none⟩) 6 c] 25)).alloc (.cells #[.int .i64 0, .int .i64 0, .int .i64 0] 22)) by (repeat (first | exact brf | assumption | refine ble ?_ | refine blx ?_ | refine bla ?_ | refine bls ?_ | refine bld ?_))) hb1
  have HJ := Lib.hid ((hb1.block W.heap.size (by simp; omega)).trans ((heap_old (by simp)).trans (heap_new rfl)))
  have HR := Lib.hid ((hb1.block (W.heap.size + 1) (by simp)).trans (heap_new (by simp)))
  have c0 := (blk_cell HJ.out 0).trans rfl
  have c1 := (blk_cell HJ.out 1).trans rfl
  have c2 := (blk_cell HJ.out 2).trans rfl
  have c3 := (blk_cell HJ.out 3).trans rfl
  have c4 := (blk_cell HJ.out 4).trans rfl
  simp only [List.getElem?_toArray, List.getElem?_cons_zero, List.getElem?_cons_succ] at c0 c1 c2 c3 c4
  have zj := blk_lt HJ.out
  clear hb1 Hc
  go_wp2
  refine wp_region_quietB (by kernel_rfl) (by kernel_rfl) ?_
  repeat (first | go_big_quiet_step (fail) | quiet_step (fail))
  refine wpQuiet_nil ?_
  rintro _ ⟨u, rfl⟩
  have HJu := Lib.hid ((u.below.block _ zj).trans HJ.out)
  have HRu := Lib.hid ((u.below.block _ (blk_lt HR.out)).trans HR.out)
  have hwu : Below W.heap.size W u.val := below_trans hw1 u.below
  clear HJ HR c0 c1 c2 c3 c4 zj
  generalize u.val = w9 at *
  clear u
  have c0 := (blk_cell HJu.out 0).trans rfl
  have c4 := (blk_cell HJu.out 4).trans rfl
  have e0 := (blk_cell HRu.out 0).trans rfl
  have e1 := (blk_cell HRu.out 1).trans rfl
  have e2 := (blk_cell HRu.out 2).trans rfl
  have f0 := blk_free HRu.out 0
  have f1 := blk_free HRu.out 1
  have f2 := blk_free HRu.out 2
  have zu := blk_lt HRu.out
  have zju := blk_lt HJu.out
  have zb9 := Nat.lt_of_lt_of_le zb hwu.size
  simp only [List.getElem?_toArray, List.getElem?_cons_zero, List.getElem?_cons_succ] at c0 c4 e0 e1 e2
  have n0 := below_cell hwu n0
  have n1 := below_cell hwu n1
  have n2 := below_cell hwu n2
  have n3 := below_cell hwu n3
  have n4 := below_cell hwu n4
  have n5 := below_cell hwu n5
  go_wp2
  refine wp_region_quietB (by kernel_rfl) (by kernel_rfl) ?_
  repeat (first | go_big_quiet_step (fail) | quiet_step (fail))
  refine wpQuiet_nil ?_
  rintro _ ⟨u, rfl⟩
  have HRv := Lib.hid ((u.below.block _ zu).trans HRu.out)
  have HJv := Lib.hid ((u.below.block _ zju).trans HJu.out)
  have hwv : Below W.heap.size W u.val := below_trans hwu u.below
  have hub := u.below
  clear e0 e1 e2 f0 f1 f2 c0 c4 zu zju zb9 HRu HJu hwu
  generalize u.val = w8 at *
  clear u
  have HRu := HRv
  have HJu := HJv
  have hwu := hwv
  clear HRv HJv hwv
  have c0 := (blk_cell HJu.out 0).trans rfl
  have c4 := (blk_cell HJu.out 4).trans rfl
  have e0 := (blk_cell HRu.out 0).trans rfl
  have e1 := (blk_cell HRu.out 1).trans rfl
  have e2 := (blk_cell HRu.out 2).trans rfl
  have f0 := blk_free HRu.out 0
  have f1 := blk_free HRu.out 1
  have f2 := blk_free HRu.out 2
  have zu := blk_lt HRu.out
  have zju := blk_lt HJu.out
  have zb9 := Nat.lt_of_lt_of_le zb hwu.size
  simp only [List.getElem?_toArray, List.getElem?_cons_zero, List.getElem?_cons_succ] at c0 c4 e0 e1 e2
  have n0 := below_cell hub n0
  have n1 := below_cell hub n1
  have n2 := below_cell hub n2
  have n3 := below_cell hub n3
  have n4 := below_cell hub n4
  have n5 := below_cell hub n5
  clear hub
  go_wp2
  refine wp_region_tailB 21 (by kernel_rfl) (by kernel_rfl) ?_
  simp only [List.take_succ_cons, List.take_zero, List.drop_succ_cons, List.drop_zero]
  repeat (first | go_big_quiet_step (((go_at_call 84; refine ((hT _ _).out).mono ?_; rintro e w9 ⟨rfl, rfl⟩; exact ⟨rfl, _, rfl⟩))) | quiet_step (((go_at_call 84; refine ((hT _ _).out).mono ?_; rintro e w9 ⟨rfl, rfl⟩; exact ⟨rfl, _, rfl⟩))))
  refine wpQuiet_nil ?_
  rintro _ ⟨u, rfl⟩
  have HRv := Lib.hid ((u.below.block _ zu).trans HRu.out)
  have HJv := Lib.hid ((u.below.block _ zju).trans HJu.out)
  have hwv : Below W.heap.size W u.val := below_trans hwu u.below
  have hub := u.below
  clear e0 e1 e2 f0 f1 f2 c0 c4 zu zju zb9 HRu HJu hwu
  generalize u.val = w8 at *
  clear u
  have HRu := HRv
  have HJu := HJv
  have hwu := hwv
  clear HRv HJv hwv
  have c0 := (blk_cell HJu.out 0).trans rfl
  have c4 := (blk_cell HJu.out 4).trans rfl
  have e0 := (blk_cell HRu.out 0).trans rfl
  have e1 := (blk_cell HRu.out 1).trans rfl
  have e2 := (blk_cell HRu.out 2).trans rfl
  have f0 := blk_free HRu.out 0
  have f1 := blk_free HRu.out 1
  have f2 := blk_free HRu.out 2
  have zu := blk_lt HRu.out
  have zju := blk_lt HJu.out
  have zb9 := Nat.lt_of_lt_of_le zb hwu.size
  simp only [List.getElem?_toArray, List.getElem?_cons_zero, List.getElem?_cons_succ] at c0 c4 e0 e1 e2
  clear hub
  go_wp2
  refine bodyPost_ret (v := .tuple #[.agg #[.int .i64 (tightV m3 x1), .int .i64 (m5), .int .i64 (m6)], .int .i64 0]) (by simp [results, Tryz.results35, go_sem, e0, e1, e2]) rfl ⟨?_, ?_⟩
  · exact retA_eq (by rw [Hm3.out]) Hm5.out.symm Hm6.out.symm
  · refine Below.setCell (Below.setCell (Below.setCell hwu ?_ _) ?_ _) ?_ _ <;> simp
set_option linter.unusedVariables false in
set_option maxRecDepth 100000 in
set_option maxHeartbeats 4000000 in
theorem Area_4 (l w t : Int) (nv : Value) (n : List Int) (W : World) (hn : Ints W nv n) (hlen : n.length = 4) (hl : 1 ≤ l ∧ l ≤ 100000) (hw : 1 ≤ w ∧ w ≤ 100000) (ht : 1 ≤ t ∧ t ≤ 100000) (hb : ∀ i, i < n.length → -100000 ≤ n.getD i 0 ∧ n.getD i 0 ≤ 100000)
    (hc : ∀ W', Below W.heap.size W W' → Calls Tryz.prog 23 #[vJ 4 l w t nv] W' (Ret W' (.int .i64 0))) :
    Calls Tryz.prog 35 #[vJ 4 l w t nv] W fun e w' => e = retA (tightV (w * (n.getD 3 0 - n.getD 2 0)) (n.getD 1 0)) 0 (2 * n.getD 0 0 * w) ∧ Below W.heap.size W w' := by
  have Hc := fun W' h => Lib.hid (hc W' h)
  unfold vJ at *
  obtain ⟨b, off, c, rfl, hcc, zb, hi⟩ := hn.at' (by omega)
  have n0 := hi 0 (by omega)
  have n1 := hi 1 (by omega)
  have n2 := hi 2 (by omega)
  have n3 := hi 3 (by omega)
  rw [Nat.add_zero] at n0
  have b0 := hb 0 (by omega)
  have b1 := hb 1 (by omega)
  have b2 := hb 2 (by omega)
  have b3 := hb 3 (by omega)
  rw [hlen] at Hc ⊢
  generalize n.getD 0 0 = x0 at *
  generalize n.getD 1 0 = x1 at *
  generalize n.getD 2 0 = x2 at *
  generalize n.getD 3 0 = x3 at *
  clear hi hn hc hb hlen hcc
  have hT := fun a W' => Lib.hid (tight_any a x1 W')
  have w1 : wrap64 (x3 - x2) = x3 - x2 := by unfold wrap64; omega
  have v1 : IntKind.i64.wrap (x3 - x2) = x3 - x2 := IntWalk.i64_in _ (by omega)
  have p2 := mul_bd (a := w) (x := x3 - x2) (A := 100000) (X := 200000) (by omega) (by omega) (by omega) (by omega)
  obtain ⟨m2, Hm2⟩ : ∃ m2, Hid (w * (x3 - x2) = m2) := ⟨_, Lib.hid rfl⟩
  rw [Hm2.out] at p2
  have w2 : wrap64 (w * (x3 - x2)) = m2 := by rw [Hm2.out]; unfold wrap64; omega
  have v2 : IntKind.i64.wrap (w * (x3 - x2)) = m2 := (IntWalk.i64_in _ (by rw [Hm2.out]; omega)).trans Hm2.out
  -- a is m2
  have w3 : wrap64 (2 * x0) = 2 * x0 := by unfold wrap64; omega
  have v3 : IntKind.i64.wrap (2 * x0) = 2 * x0 := IntWalk.i64_in _ (by omega)
  have p4 := mul_bd (a := 2 * x0) (x := w) (A := 200000) (X := 100000) (by omega) (by omega) (by omega) (by omega)
  obtain ⟨m4, Hm4⟩ : ∃ m4, Hid ((2 * x0) * w = m4) := ⟨_, Lib.hid rfl⟩
  rw [Hm4.out] at p4
  have w4 : wrap64 ((2 * x0) * w) = m4 := by rw [Hm4.out]; unfold wrap64; omega
  have v4 : IntKind.i64.wrap ((2 * x0) * w) = m4 := (IntWalk.i64_in _ (by rw [Hm4.out]; omega)).trans Hm4.out
  -- b is m4
  go_enter Tryz.func35, Tryz.ntmps35
  go_wp2_with fail
  refine ((Hc _ (by (repeat (first | exact brf | assumption | refine ble ?_ | refine blx ?_ | refine bla ?_ | refine bls ?_ | refine bld ?_)))).out).mono ?_
  rintro e w1 ⟨rfl, hb1⟩
  have hw1 := below_trans (show Below W.heap.size W ((W.alloc (.cells #[.int .i64 4, .int .i64 l, .int .i64 w, .int .i64 t, .slice (some ⟨b, off, none⟩) 4 c] 25)).alloc (.cells #[.int .i64 0, .int .i64 0, .int .i64 0] 22)) by (repeat (first | exact brf | assumption | refine ble ?_ | refine blx ?_ | refine bla ?_ | refine bls ?_ | refine bld ?_))) hb1
  have HJ := Lib.hid ((hb1.block W.heap.size (by simp; omega)).trans ((heap_old (by simp)).trans (heap_new rfl)))
  have HR := Lib.hid ((hb1.block (W.heap.size + 1) (by simp)).trans (heap_new (by simp)))
  have c0 := (blk_cell HJ.out 0).trans rfl
  have c1 := (blk_cell HJ.out 1).trans rfl
  have c2 := (blk_cell HJ.out 2).trans rfl
  have c3 := (blk_cell HJ.out 3).trans rfl
  have c4 := (blk_cell HJ.out 4).trans rfl
  simp only [List.getElem?_toArray, List.getElem?_cons_zero, List.getElem?_cons_succ] at c0 c1 c2 c3 c4
  have zj := blk_lt HJ.out
  clear hb1 Hc
  go_wp2
  refine wp_region_quietB (by kernel_rfl) (by kernel_rfl) ?_
  repeat (first | go_big_quiet_step (fail) | quiet_step (fail))
  refine wpQuiet_nil ?_
  rintro _ ⟨u, rfl⟩
  have HJu := Lib.hid ((u.below.block _ zj).trans HJ.out)
  have HRu := Lib.hid ((u.below.block _ (blk_lt HR.out)).trans HR.out)
  have hwu : Below W.heap.size W u.val := below_trans hw1 u.below
  clear HJ HR c0 c1 c2 c3 c4 zj
  generalize u.val = w9 at *
  clear u
  have c0 := (blk_cell HJu.out 0).trans rfl
  have c4 := (blk_cell HJu.out 4).trans rfl
  have e0 := (blk_cell HRu.out 0).trans rfl
  have e1 := (blk_cell HRu.out 1).trans rfl
  have e2 := (blk_cell HRu.out 2).trans rfl
  have f0 := blk_free HRu.out 0
  have f1 := blk_free HRu.out 1
  have f2 := blk_free HRu.out 2
  have zu := blk_lt HRu.out
  have zju := blk_lt HJu.out
  have zb9 := Nat.lt_of_lt_of_le zb hwu.size
  simp only [List.getElem?_toArray, List.getElem?_cons_zero, List.getElem?_cons_succ] at c0 c4 e0 e1 e2
  have n0 := below_cell hwu n0
  have n1 := below_cell hwu n1
  have n2 := below_cell hwu n2
  have n3 := below_cell hwu n3
  go_wp2
  refine wp_region_tailB 21 (by kernel_rfl) (by kernel_rfl) ?_
  simp only [List.take_succ_cons, List.take_zero, List.drop_succ_cons, List.drop_zero]
  repeat (first | go_big_quiet_step (((go_at_call 84; refine ((hT _ _).out).mono ?_; rintro e w9 ⟨rfl, rfl⟩; exact ⟨rfl, _, rfl⟩))) | quiet_step (((go_at_call 84; refine ((hT _ _).out).mono ?_; rintro e w9 ⟨rfl, rfl⟩; exact ⟨rfl, _, rfl⟩))))
  refine wpQuiet_nil ?_
  rintro _ ⟨u, rfl⟩
  have HRv := Lib.hid ((u.below.block _ zu).trans HRu.out)
  have HJv := Lib.hid ((u.below.block _ zju).trans HJu.out)
  have hwv : Below W.heap.size W u.val := below_trans hwu u.below
  have hub := u.below
  clear e0 e1 e2 f0 f1 f2 c0 c4 zu zju zb9 HRu HJu hwu
  generalize u.val = w8 at *
  clear u
  have HRu := HRv
  have HJu := HJv
  have hwu := hwv
  clear HRv HJv hwv
  have c0 := (blk_cell HJu.out 0).trans rfl
  have c4 := (blk_cell HJu.out 4).trans rfl
  have e0 := (blk_cell HRu.out 0).trans rfl
  have e1 := (blk_cell HRu.out 1).trans rfl
  have e2 := (blk_cell HRu.out 2).trans rfl
  have f0 := blk_free HRu.out 0
  have f1 := blk_free HRu.out 1
  have f2 := blk_free HRu.out 2
  have zu := blk_lt HRu.out
  have zju := blk_lt HJu.out
  have zb9 := Nat.lt_of_lt_of_le zb hwu.size
  simp only [List.getElem?_toArray, List.getElem?_cons_zero, List.getElem?_cons_succ] at c0 c4 e0 e1 e2
  clear hub
  go_wp2
  refine bodyPost_ret (v := .tuple #[.agg #[.int .i64 (tightV m2 x1), .int .i64 (0), .int .i64 (m4)], .int .i64 0]) (by simp [results, Tryz.results35, go_sem, e0, e1, e2]) rfl ⟨?_, ?_⟩
  · exact retA_eq (by rw [Hm2.out]) rfl Hm4.out.symm
  · refine Below.setCell (Below.setCell (Below.setCell hwu ?_ _) ?_ _) ?_ _ <;> simp
end
end Go.Proofs.YtjglkglaogaenaaGreatDoor
