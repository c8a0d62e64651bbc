/- texts of mine, merged: T1, T5, T9. -/
import Derived.Test.YtjglkglaogaenaaGreatDoorGAJ
import Derived.Test.YtjglkglaogaenaaGreatDoorGO
/- joint: broken at the kinds (written by gen_broken.py). -/
namespace Go.Proofs.YtjglkglaogaenaaGreatDoor
section
open Go.RowKit Go.Shelf
attribute [local go_sem] Ext.cell Ext.frozen
set_option linter.unusedVariables false in
set_option maxRecDepth 100000 in
set_option maxHeartbeats 8000000 in
theorem broken_9 (l w t : Int) (nv : Value) (n : List Int) (W : World) (hn : Ints W nv n) (hlen : n.length = 5) (hl : 1 ≤ l ∧ l ≤ 100000) (hw : 1 ≤ w ∧ w ≤ 100000) (ht : 1 ≤ t ∧ t ≤ 100000) (hb : ∀ i, i < n.length → -100000 ≤ n.getD i 0 ∧ n.getD i 0 ≤ 100000) :
    Calls Tryz.prog 87 #[vJ 9 l w t nv] W (Ret W (brkV 9 l w t n)) := by
  have HS : Hid (brkV 9 l w t n = .agg #[.bool (false), .bool (false), .bool (false), .bool ([n.getD 3 0, t - n.getD 4 0].any (thinB t)), .bool (false), .bool (false), .bool (false), .bool (false)]) := Lib.hid (by simp [brkV, brkB])
  rw [HS.out]
  clear HS
  unfold vJ at *
  obtain ⟨b, off, c, rfl, hcc, zb, hi⟩ := hn.at' (by omega)
  have n3 := hi 3 (by omega)
  have n4 := hi 4 (by omega)
  have b3 := hb 3 (by omega)
  have b4 := hb 4 (by omega)
  rw [hlen]
  have hT := fun v W' (h : Ints W' v [n.getD 3 0, t - n.getD 4 0]) => Lib.hid (thin_any t v _ W' h (by simp) (fun x hx => by simp only [List.mem_cons, List.mem_nil_iff, or_false] at hx; rcases hx with rfl | rfl <;> omega))
  generalize [n.getD 3 0, t - n.getD 4 0].any (thinB t) = r1 at *
  generalize n.getD 3 0 = x3 at *
  generalize n.getD 4 0 = x4 at *
  clear hi hn hb hcc
  have w1 : wrap64 (t - x4) = t - x4 := by unfold wrap64; omega
  have v1 : IntKind.i64.wrap (t - x4) = t - x4 := IntWalk.i64_in _ (by omega)
  -- a is t - x4
  obtain ⟨V, HV⟩ : ∃ V, Hid ((W.alloc (.cells #[.int .i64 9, .int .i64 l, .int .i64 w, .int .i64 t, .slice (some ⟨b, off, none⟩) 5 c] 25)).alloc (.cells #[.bool false, .bool false, .bool false, .bool false, .bool false, .bool false, .bool false, .bool false] 120) = V) := ⟨_, Lib.hid rfl⟩
  have hV : Below W.heap.size W V := by rw [← HV.out]; (repeat (first | exact brf | assumption | refine ble ?_ | refine blx ?_ | refine bla ?_ | refine bls ?_ | refine bld ?_))
  have HJ : Hid (V.heap[W.heap.size]? = some (.cells #[.int .i64 9, .int .i64 l, .int .i64 w, .int .i64 t, .slice (some ⟨b, off, none⟩) 5 c] 25 (0, 0))) := Lib.hid (by rw [← HV.out]; exact (heap_old (by simp)).trans (heap_new rfl))
  have HR : Hid (V.heap[W.heap.size + 1]? = some (.cells #[.bool false, .bool false, .bool false, .bool false, .bool false, .bool false, .bool false, .bool false] 120 (0, 0))) := Lib.hid (by rw [← HV.out]; exact heap_new (by simp))
  obtain ⟨v0, v1, v2, v3, v4, _, zV⟩ := blk5 HJ.out
  have zR := blk_lt HR.out
  go_enter Tryz.func87, Tryz.ntmps87
  go_wp2
  rw [HV.out]
  refine wp_region_grow [0, 1, 2, 3, 4, 5, 6, 7, 8, 9, 10, 11] 12 [] (pick [IsV (.pointer (some ⟨W.heap.size, 1, none⟩)), IsV (.pointer (some ⟨W.heap.size, 1, none⟩)), IsV (.int .i64 l), IsV (.pointer (some ⟨W.heap.size, 1, none⟩)), IsV (.pointer (some ⟨W.heap.size, 2, none⟩)), IsV (.int .i64 w), IsV (.pointer (some ⟨W.heap.size, 1, none⟩)), IsV (.pointer (some ⟨W.heap.size, 3, none⟩)), IsV (.int .i64 t), IsBx V.heap.size 3 #[.int .i64 0], IsV (.int .i64 l), IsV (.int .i64 w)]) (by kernel_rfl) (by kernel_rfl) (Stabs.pick (by repeat (first | exact Stabs.nil | refine Stabs.cons (by first | exact stab_v _ | exact stab_l _ | exact stab_bx _ _ _ | exact stab_gd (by first | exact stab_v _ | exact stab_l _)) ?_))) ?_
  try go_frame
  refine wgs rfl rfl (by simp) (fun w' hb' hR K hK => ?_) (fun o0 => ?_)
  · clear hR
    have zz := Nat.lt_of_lt_of_le zV hb'.size
    go_simp
    exact hK _ _ (Below.refl _ _) rfl
  try go_frame
  refine wgs rfl rfl (by simp) (fun w' hb' hR K hK => ?_) (fun o1 => ?_)
  · obtain rfl : o0 = .pointer (some ⟨W.heap.size, 1, none⟩) := hR 0 (by kernel_rfl)
    clear hR
    have zz := Nat.lt_of_lt_of_le zV hb'.size
    go_simp
    exact hK _ _ (Below.refl _ _) rfl
  try go_frame
  refine wgs rfl rfl (by simp) (fun w' hb' hR K hK => ?_) (fun o2 => ?_)
  · obtain rfl : o1 = .pointer (some ⟨W.heap.size, 1, none⟩) := hR 1 (by kernel_rfl)
    clear hR
    have cc := below_cell hb' v1
    have zz := World.block_lt_of_cell? w' _ cc
    simp only at zz
    go_simp
    exact hK _ _ (Below.refl _ _) rfl
  try go_frame
  refine wgs rfl rfl (by simp) (fun w' hb' hR K hK => ?_) (fun o3 => ?_)
  · clear hR
    have zz := Nat.lt_of_lt_of_le zV hb'.size
    go_simp
    exact hK _ _ (Below.refl _ _) rfl
  try go_frame
  refine wgs rfl rfl (by simp) (fun w' hb' hR K hK => ?_) (fun o4 => ?_)
  · obtain rfl : o3 = .pointer (some ⟨W.heap.size, 1, none⟩) := hR 3 (by kernel_rfl)
    clear hR
    have zz := Nat.lt_of_lt_of_le zV hb'.size
    go_simp
    exact hK _ _ (Below.refl _ _) rfl
  try go_frame
  refine wgs rfl rfl (by simp) (fun w' hb' hR K hK => ?_) (fun o5 => ?_)
  · obtain rfl : o4 = .pointer (some ⟨W.heap.size, 2, none⟩) := hR 4 (by kernel_rfl)
    clear hR
    have cc := below_cell hb' v2
    have zz := World.block_lt_of_cell? w' _ cc
    simp only at zz
    go_simp
    exact hK _ _ (Below.refl _ _) rfl
  try go_frame
  refine wgs rfl rfl (by simp) (fun w' hb' hR K hK => ?_) (fun o6 => ?_)
  · clear hR
    have zz := Nat.lt_of_lt_of_le zV hb'.size
    go_simp
    exact hK _ _ (Below.refl _ _) rfl
  try go_frame
  refine wgs rfl rfl (by simp) (fun w' hb' hR K hK => ?_) (fun o7 => ?_)
  · obtain rfl : o6 = .pointer (some ⟨W.heap.size, 1, none⟩) := hR 6 (by kernel_rfl)
    clear hR
    have zz := Nat.lt_of_lt_of_le zV hb'.size
    go_simp
    exact hK _ _ (Below.refl _ _) rfl
  try go_frame
  refine wgs rfl rfl (by simp) (fun w' hb' hR K hK => ?_) (fun o8 => ?_)
  · obtain rfl : o7 = .pointer (some ⟨W.heap.size, 3, none⟩) := hR 7 (by kernel_rfl)
    clear hR
    have cc := below_cell hb' v3
    have zz := World.block_lt_of_cell? w' _ cc
    simp only at zz
    go_simp
    exact hK _ _ (Below.refl _ _) rfl
  try go_frame
  refine wgs rfl rfl (by simp) (fun w' hb' hR K hK => ?_) (fun o9 => ?_)
  · clear hR
    have zz := hb'.size
    go_simp
    exact hK _ _ (by (repeat (first | exact brf | assumption | refine ble ?_ | refine blx ?_ | refine bla ?_ | refine bls ?_ | refine bld ?_))) ⟨_, rfl, zz, heap_new rfl⟩
  try go_frame
  refine wgs rfl rfl (by simp) (fun w' hb' hR K hK => ?_) (fun o10 => ?_)
  · obtain rfl : o2 = .int .i64 l := hR 2 (by kernel_rfl)
    clear hR
    go_simp
    exact hK _ _ (Below.refl _ _) rfl
  try go_frame
  refine wgs rfl rfl (by simp) (fun w' hb' hR K hK => ?_) (fun o11 => ?_)
  · obtain rfl : o5 = .int .i64 w := hR 5 (by kernel_rfl)
    clear hR
    go_simp
    exact hK _ _ (Below.refl _ _) rfl
  try go_frame
  refine wpG_nil (fun w' hb' hR => ?_)
  obtain rfl : o8 = _ := hR 8 (by simp)
  obtain rfl : o10 = _ := hR 10 (by simp)
  obtain rfl : o11 = _ := hR 11 (by simp)
  obtain ⟨gb, rfl, hgb, hGB⟩ : IsBx V.heap.size 3 #[.int .i64 0] o9 w' := hR 9 (by simp)
  clear hR
  have HGB := Lib.hid hGB
  clear hGB
  have e0 := (blk_cell HGB.out 0).trans rfl
  have f0 := blk_free HGB.out 0
  have zg := blk_lt HGB.out
  simp only [List.getElem?_toArray, List.getElem?_cons_zero] at e0
  simp only [opsAt, List.filterMap_cons, List.filterMap_nil, List.getElem?_toArray, List.getElem?_cons_zero, List.getElem?_cons_succ]
  go_wp2
  refine NoPanic.normal ?_
  obtain ⟨w2, Hw2⟩ : ∃ w2, Hid (w'.setCell ⟨gb, 0, none⟩ (.int .i64 t) = w2) := ⟨_, Lib.hid rfl⟩
  have hb2 : Below V.heap.size V w2 := by rw [← Hw2.out]; exact hb'.setCell hgb _
  have HT2 : Hid (w2.heap[gb]? = some (.cells #[.int .i64 t] 3 (0, 0))) := Lib.hid (by rw [← Hw2.out]; exact blk_set HGB.out 0 _)
  rw [Hw2.out]
  clear e0 f0 zg HGB Hw2 hb'
  have HJ2 := Lib.hid ((hb2.block _ zV).trans HJ.out)
  obtain ⟨j0, j1, j2, j3, j4, _, zj2⟩ := blk5 HJ2.out
  obtain ⟨X, HXX⟩ : ∃ X, Hid (w2.alloc (.cells #[.bool false, .bool false, .bool false, .bool false, .bool false, .bool false, .bool false, .bool false] 120) = X) := ⟨_, Lib.hid rfl⟩
  obtain ⟨gx, Hgx⟩ : ∃ gx, Hid (w2.heap.size = gx) := ⟨_, Lib.hid rfl⟩
  have hbX : Below V.heap.size V X := by rw [← HXX.out]; exact hb2.alloc hb2.size _
  have HT : Hid (X.heap[gb]? = some (.cells #[.int .i64 t] 3 (0, 0))) := Lib.hid (by rw [← HXX.out]; exact (heap_old (blk_lt HT2.out)).trans HT2.out)
  have HX0 : Hid (X.heap[gx]? = some (.cells #[.bool false, .bool false, .bool false, .bool false, .bool false, .bool false, .bool false, .bool false] 120 (0, 0))) := Lib.hid (by rw [← HXX.out, ← Hgx.out]; exact heap_new rfl)
  have hgx : V.heap.size ≤ gx ∧ gx ≠ gb := ⟨by rw [← Hgx.out]; exact hb2.size, by have := blk_lt HT2.out; have := Hgx.out; omega⟩
  go_wp2
  rw [HXX.out, Hgx.out]
  have zxx : w2.heap.size < X.heap.size := by rw [← HXX.out]; simp
  clear HJ2 j0 j1 j2 j3 j4 zj2 HT2 Hgx HXX v0 v1 v2 v3 v4
  have hbW : Below W.heap.size W X := below_trans hV hbX
  have n3' := n3
  have n4' := n4
  have n3 := below_cell hbW n3
  have n4 := below_cell hbW n4
  have et := (blk_cell HT.out 0).trans rfl
  simp only [List.getElem?_toArray, List.getElem?_cons_zero] at et
  have zt := blk_lt HT.out
  have zx := blk_lt HX0.out
  have zbX := Nat.lt_of_lt_of_le zb hbW.size
  refine wp_region_grow [0, 1, 2, 3, 4, 5, 6, 7, 8, 9, 10] 11 [12] (pick [IsV (.int .i64 t), IsV (.slice (some ⟨b, off, none⟩) 5 c), IsV (.pointer (some ⟨b, off + 3, none⟩)), IsV (.int .i64 x3), IsV (.int .i64 t), IsV (.slice (some ⟨b, off, none⟩) 5 c), IsV (.pointer (some ⟨b, off + 4, none⟩)), IsV (.int .i64 x4), IsV (.int .i64 (t - x4)), IsL [x3, (t - x4)], IsV (.bool r1)]) (by kernel_rfl) (by kernel_rfl) (Stabs.pick (by repeat (first | exact Stabs.nil | refine Stabs.cons (by first | exact stab_v _ | exact stab_l _ | exact stab_bx _ _ _ | exact stab_gd (by first | exact stab_v _ | exact stab_l _)) ?_))) ?_
  try go_frame
  refine wgs rfl rfl (by simp) (fun w' hb' hR K hK => ?_) (fun o0 => ?_)
  · clear hR
    have cc := below_cell hb' et
    have zz := World.block_lt_of_cell? w' _ cc
    simp only at zz
    go_simp
    exact hK _ _ (Below.refl _ _) rfl
  try go_frame
  refine wgs rfl rfl (by simp) (fun w' hb' hR K hK => ?_) (fun o1 => ?_)
  · clear hR
    go_simp
    exact hK _ _ (Below.refl _ _) rfl
  try go_frame
  refine wgs rfl rfl (by simp) (fun w' hb' hR K hK => ?_) (fun o2 => ?_)
  · obtain rfl : o1 = .slice (some ⟨b, off, none⟩) 5 c := hR 1 (by kernel_rfl)
    clear hR
    go_simp
    exact hK _ _ (Below.refl _ _) rfl
  try go_frame
  refine wgs rfl rfl (by simp) (fun w' hb' hR K hK => ?_) (fun o3 => ?_)
  · obtain rfl : o2 = .pointer (some ⟨b, off + 3, none⟩) := hR 2 (by kernel_rfl)
    clear hR
    have cc := below_cell hb' n3
    have zz := World.block_lt_of_cell? w' _ cc
    simp only at zz
    go_simp
    exact hK _ _ (Below.refl _ _) rfl
  try go_frame
  refine wgs rfl rfl (by simp) (fun w' hb' hR K hK => ?_) (fun o4 => ?_)
  · clear hR
    have cc := below_cell hb' et
    have zz := World.block_lt_of_cell? w' _ cc
    simp only at zz
    go_simp
    exact hK _ _ (Below.refl _ _) rfl
  try go_frame
  refine wgs rfl rfl (by simp) (fun w' hb' hR K hK => ?_) (fun o5 => ?_)
  · clear hR
    go_simp
    exact hK _ _ (Below.refl _ _) rfl
  try go_frame
  refine wgs rfl rfl (by simp) (fun w' hb' hR K hK => ?_) (fun o6 => ?_)
  · obtain rfl : o5 = .slice (some ⟨b, off, none⟩) 5 c := hR 5 (by kernel_rfl)
    clear hR
    go_simp
    exact hK _ _ (Below.refl _ _) rfl
  try go_frame
  refine wgs rfl rfl (by simp) (fun w' hb' hR K hK => ?_) (fun o7 => ?_)
  · obtain rfl : o6 = .pointer (some ⟨b, off + 4, none⟩) := hR 6 (by kernel_rfl)
    clear hR
    have cc := below_cell hb' n4
    have zz := World.block_lt_of_cell? w' _ cc
    simp only at zz
    go_simp
    exact hK _ _ (Below.refl _ _) rfl
  try go_frame
  refine wgs rfl rfl (by simp) (fun w' hb' hR K hK => ?_) (fun o8 => ?_)
  · obtain rfl : o4 = .int .i64 t := hR 4 (by kernel_rfl)
    obtain rfl : o7 = .int .i64 x4 := hR 7 (by kernel_rfl)
    clear hR
    go_simp
    exact hK _ _ (Below.refl _ _) rfl
  try go_frame
  refine wgs rfl rfl (by simp) (fun w' hb' hR K hK => ?_) (fun o9 => ?_)
  · obtain rfl : o3 = .int .i64 x3 := hR 3 (by kernel_rfl)
    obtain rfl : o8 = .int .i64 (t - x4) := hR 8 (by kernel_rfl)
    clear hR
    go_simp
    exact hK _ _ (by (repeat (first | exact brf | assumption | refine ble ?_ | refine blx ?_ | refine bla ?_ | refine bls ?_ | refine bld ?_))) (ints_newL [x3, (t - x4)] rfl)
  try go_frame
  refine wgs rfl rfl (by simp) (fun w' hb' hR K hK => ?_) (fun o10 => ?_)
  · obtain rfl : o0 = .int .i64 t := hR 0 (by kernel_rfl)
    have h9 : (IsL [x3, (t - x4)]) o9 w' := hR 9 (by kernel_rfl)
    clear hR
    go_simp
    refine ((hT _ _ h9).out).mono ?_
    rintro e w1 ⟨rfl, hb1⟩
    exact hK _ _ hb1 rfl
  try go_frame
  refine wpG_nil (fun w' hb' hR => ?_)
  obtain rfl : o10 = _ := hR 10 (by simp)
  clear hR
  have HXn := Lib.hid ((hb'.block _ zx).trans HX0.out)
  have HTn := Lib.hid ((hb'.block _ zt).trans HT.out)
  have hbXn : Below V.heap.size V w' := below_trans hbX hb'
  have ex := (blk_cell HXn.out 3).trans rfl
  simp only [List.getElem?_toArray, List.getElem?_cons_zero, List.getElem?_cons_succ] at ex
  have fx := blk_free HXn.out 3
  have zxn := blk_lt HXn.out
  simp only [opsAt, List.filterMap_cons, List.filterMap_nil, List.getElem?_toArray, List.getElem?_cons_zero, List.getElem?_cons_succ]
  go_wp2
  refine NoPanic.normal ?_
  clear n3 n4
  obtain ⟨X1, HY⟩ : ∃ Y, Hid (w'.setCell ⟨gx, 3, none⟩ (.bool r1) = Y) := ⟨_, Lib.hid rfl⟩
  have hbY : Below V.heap.size V X1 := by rw [← HY.out]; exact hbXn.setCell hgx.1 _
  have HTY : Hid (X1.heap[gb]? = some (.cells #[.int .i64 t] 3 (0, 0))) := Lib.hid (by rw [← HY.out]; exact (Below.heap_setCell _ _ _ _ (fun e => hgx.2 e.symm)).trans HTn.out)
  have HXY : Hid (X1.heap[gx]? = some (.cells #[.bool false, .bool false, .bool false, .bool r1, .bool false, .bool false, .bool false, .bool false] 120 (0, 0))) := Lib.hid (by rw [← HY.out]; exact blk_set HXn.out 3 _)
  rw [HY.out]
  clear HX0 HT hbX hbW zx zt zbX et ex fx zxn HTn HXn hbXn HY
  have hbX := hbY
  have HT := HTY
  have HX0 := HXY
  clear hbY HTY HXY
  have hbW : Below W.heap.size W X1 := below_trans hV hbX
  have et := (blk_cell HT.out 0).trans rfl
  simp only [List.getElem?_toArray, List.getElem?_cons_zero] at et
  have zt := blk_lt HT.out
  have zx := blk_lt HX0.out
  have zbX := Nat.lt_of_lt_of_le zb hbW.size
  have n3 := below_cell hbW n3'
  have n4 := below_cell hbW n4'
  have HRX := Lib.hid ((hbX.block _ zR).trans HR.out)
  obtain ⟨rr0, rr1, rr2, rr3, rr4, rr5, rr6, rr7, frr, zr⟩ := blk8 HRX.out
  obtain ⟨g0, g1, g2, g3, g4, g5, g6, g7, fgx, _⟩ := blk8 HX0.out
  have zgx : W.heap.size ≤ gx := Nat.le_trans hV.size hgx.1
  go_wp2
  refine bodyPost_ret (v := .agg #[.bool false, .bool false, .bool false, .bool r1, .bool false, .bool false, .bool false, .bool false]) (by simp [results, Tryz.results87, go_sem, rr0, rr1, rr2, rr3, rr4, rr5, rr6, rr7]) rfl ⟨rfl, ?_⟩
  exact Below.setCell (Below.setCell (Below.setCell (Below.setCell (Below.setCell (Below.setCell (Below.setCell (Below.setCell hbW (by simp) _) (by simp) _) (by simp) _) (by simp) _) (by simp) _) (by simp) _) (by simp) _) (by simp) _
end
/- joint: broken at the kinds (written by gen_broken.py). -/
section
open Go.RowKit Go.Shelf
attribute [local go_sem] Ext.cell Ext.frozen
set_option linter.unusedVariables false in
set_option maxRecDepth 100000 in
set_option maxHeartbeats 8000000 in
theorem broken_1 (l w t : Int) (nv : Value) (n : List Int) (W : World) (hn : Ints W nv n) (hlen : n.length = 2) (hl : 1 ≤ l ∧ l ≤ 100000) (hw : 1 ≤ w ∧ w ≤ 100000) (ht : 1 ≤ t ∧ t ≤ 100000) (hb : ∀ i, i < n.length → -100000 ≤ n.getD i 0 ∧ n.getD i 0 ≤ 100000) :
    Calls Tryz.prog 87 #[vJ 1 l w t nv] W (Ret W (brkV 1 l w t n)) := by
  have HS : Hid (brkV 1 l w t n = .agg #[.bool ([n.getD 0 0, n.getD 1 0 - n.getD 0 0, t - n.getD 1 0].any (thinB t)), .bool (false), .bool (false), .bool (false), .bool (false), .bool (false), .bool (false), .bool (false)]) := Lib.hid (by simp [brkV, brkB])
  rw [HS.out]
  clear HS
  unfold vJ at *
  obtain ⟨b, off, c, rfl, hcc, zb, hi⟩ := hn.at' (by omega)
  have n0 := hi 0 (by omega)
  have n1 := hi 1 (by omega)
  rw [Nat.add_zero] at n0
  have b0 := hb 0 (by omega)
  have b1 := hb 1 (by omega)
  rw [hlen]
  have hT := fun v W' (h : Ints W' v [n.getD 0 0, n.getD 1 0 - n.getD 0 0, t - n.getD 1 0]) => Lib.hid (thin_any t v _ W' h (by simp) (fun x hx => by simp only [List.mem_cons, List.mem_nil_iff, or_false] at hx; rcases hx with rfl | rfl | rfl <;> omega))
  generalize [n.getD 0 0, n.getD 1 0 - n.getD 0 0, t - n.getD 1 0].any (thinB t) = r1 at *
  generalize n.getD 0 0 = x0 at *
  generalize n.getD 1 0 = x1 at *
  clear hi hn hb hcc
  have w1 : wrap64 (x1 - x0) = x1 - x0 := by unfold wrap64; omega
  have v1 : IntKind.i64.wrap (x1 - x0) = x1 - x0 := IntWalk.i64_in _ (by omega)
  -- a is x1 - x0
  have w2 : wrap64 (t - x1) = t - x1 := by unfold wrap64; omega
  have v2 : IntKind.i64.wrap (t - x1) = t - x1 := IntWalk.i64_in _ (by omega)
  -- b is t - x1
  obtain ⟨V, HV⟩ : ∃ V, Hid ((W.alloc (.cells #[.int .i64 1, .int .i64 l, .int .i64 w, .int .i64 t, .slice (some ⟨b, off, none⟩) 2 c] 25)).alloc (.cells #[.bool false, .bool false, .bool false, .bool false, .bool false, .bool false, .bool false, .bool false] 120) = V) := ⟨_, Lib.hid rfl⟩
  have hV : Below W.heap.size W V := by rw [← HV.out]; (repeat (first | exact brf | assumption | refine ble ?_ | refine blx ?_ | refine bla ?_ | refine bls ?_ | refine bld ?_))
  have HJ : Hid (V.heap[W.heap.size]? = some (.cells #[.int .i64 1, .int .i64 l, .int .i64 w, .int .i64 t, .slice (some ⟨b, off, none⟩) 2 c] 25 (0, 0))) := Lib.hid (by rw [← HV.out]; exact (heap_old (by simp)).trans (heap_new rfl))
  have HR : Hid (V.heap[W.heap.size + 1]? = some (.cells #[.bool false, .bool false, .bool false, .bool false, .bool false, .bool false, .bool false, .bool false] 120 (0, 0))) := Lib.hid (by rw [← HV.out]; exact heap_new (by simp))
  obtain ⟨v0, v1, v2, v3, v4, _, zV⟩ := blk5 HJ.out
  have zR := blk_lt HR.out
  go_enter Tryz.func87, Tryz.ntmps87
  go_wp2
  rw [HV.out]
  refine wp_region_grow [0, 1, 2, 3, 4, 5, 6, 7, 8, 9, 10, 11] 12 [] (pick [IsV (.pointer (some ⟨W.heap.size, 1, none⟩)), IsV (.pointer (some ⟨W.heap.size, 1, none⟩)), IsV (.int .i64 l), IsV (.pointer (some ⟨W.heap.size, 1, none⟩)), IsV (.pointer (some ⟨W.heap.size, 2, none⟩)), IsV (.int .i64 w), IsV (.pointer (some ⟨W.heap.size, 1, none⟩)), IsV (.pointer (some ⟨W.heap.size, 3, none⟩)), IsV (.int .i64 t), IsBx V.heap.size 3 #[.int .i64 0], IsV (.int .i64 l), IsV (.int .i64 w)]) (by kernel_rfl) (by kernel_rfl) (Stabs.pick (by repeat (first | exact Stabs.nil | refine Stabs.cons (by first | exact stab_v _ | exact stab_l _ | exact stab_bx _ _ _ | exact stab_gd (by first | exact stab_v _ | exact stab_l _)) ?_))) ?_
  try go_frame
  refine wgs rfl rfl (by simp) (fun w' hb' hR K hK => ?_) (fun o0 => ?_)
  · clear hR
    have zz := Nat.lt_of_lt_of_le zV hb'.size
    go_simp
    exact hK _ _ (Below.refl _ _) rfl
  try go_frame
  refine wgs rfl rfl (by simp) (fun w' hb' hR K hK => ?_) (fun o1 => ?_)
  · obtain rfl : o0 = .pointer (some ⟨W.heap.size, 1, none⟩) := hR 0 (by kernel_rfl)
    clear hR
    have zz := Nat.lt_of_lt_of_le zV hb'.size
    go_simp
    exact hK _ _ (Below.refl _ _) rfl
  try go_frame
  refine wgs rfl rfl (by simp) (fun w' hb' hR K hK => ?_) (fun o2 => ?_)
  · obtain rfl : o1 = .pointer (some ⟨W.heap.size, 1, none⟩) := hR 1 (by kernel_rfl)
    clear hR
    have cc := below_cell hb' v1
    have zz := World.block_lt_of_cell? w' _ cc
    simp only at zz
    go_simp
    exact hK _ _ (Below.refl _ _) rfl
  try go_frame
  refine wgs rfl rfl (by simp) (fun w' hb' hR K hK => ?_) (fun o3 => ?_)
  · clear hR
    have zz := Nat.lt_of_lt_of_le zV hb'.size
    go_simp
    exact hK _ _ (Below.refl _ _) rfl
  try go_frame
  refine wgs rfl rfl (by simp) (fun w' hb' hR K hK => ?_) (fun o4 => ?_)
  · obtain rfl : o3 = .pointer (some ⟨W.heap.size, 1, none⟩) := hR 3 (by kernel_rfl)
    clear hR
    have zz := Nat.lt_of_lt_of_le zV hb'.size
    go_simp
    exact hK _ _ (Below.refl _ _) rfl
  try go_frame
  refine wgs rfl rfl (by simp) (fun w' hb' hR K hK => ?_) (fun o5 => ?_)
  · obtain rfl : o4 = .pointer (some ⟨W.heap.size, 2, none⟩) := hR 4 (by kernel_rfl)
    clear hR
    have cc := below_cell hb' v2
    have zz := World.block_lt_of_cell? w' _ cc
    simp only at zz
    go_simp
    exact hK _ _ (Below.refl _ _) rfl
  try go_frame
  refine wgs rfl rfl (by simp) (fun w' hb' hR K hK => ?_) (fun o6 => ?_)
  · clear hR
    have zz := Nat.lt_of_lt_of_le zV hb'.size
    go_simp
    exact hK _ _ (Below.refl _ _) rfl
  try go_frame
  refine wgs rfl rfl (by simp) (fun w' hb' hR K hK => ?_) (fun o7 => ?_)
  · obtain rfl : o6 = .pointer (some ⟨W.heap.size, 1, none⟩) := hR 6 (by kernel_rfl)
    clear hR
    have zz := Nat.lt_of_lt_of_le zV hb'.size
    go_simp
    exact hK _ _ (Below.refl _ _) rfl
  try go_frame
  refine wgs rfl rfl (by simp) (fun w' hb' hR K hK => ?_) (fun o8 => ?_)
  · obtain rfl : o7 = .pointer (some ⟨W.heap.size, 3, none⟩) := hR 7 (by kernel_rfl)
    clear hR
    have cc := below_cell hb' v3
    have zz := World.block_lt_of_cell? w' _ cc
    simp only at zz
    go_simp
    exact hK _ _ (Below.refl _ _) rfl
  try go_frame
  refine wgs rfl rfl (by simp) (fun w' hb' hR K hK => ?_) (fun o9 => ?_)
  · clear hR
    have zz := hb'.size
    go_simp
    exact hK _ _ (by (repeat (first | exact brf | assumption | refine ble ?_ | refine blx ?_ | refine bla ?_ | refine bls ?_ | refine bld ?_))) ⟨_, rfl, zz, heap_new rfl⟩
  try go_frame
  refine wgs rfl rfl (by simp) (fun w' hb' hR K hK => ?_) (fun o10 => ?_)
  · obtain rfl : o2 = .int .i64 l := hR 2 (by kernel_rfl)
    clear hR
    go_simp
    exact hK _ _ (Below.refl _ _) rfl
  try go_frame
  refine wgs rfl rfl (by simp) (fun w' hb' hR K hK => ?_) (fun o11 => ?_)
  · obtain rfl : o5 = .int .i64 w := hR 5 (by kernel_rfl)
    clear hR
    go_simp
    exact hK _ _ (Below.refl _ _) rfl
  try go_frame
  refine wpG_nil (fun w' hb' hR => ?_)
  obtain rfl : o8 = _ := hR 8 (by simp)
  obtain rfl : o10 = _ := hR 10 (by simp)
  obtain rfl : o11 = _ := hR 11 (by simp)
  obtain ⟨gb, rfl, hgb, hGB⟩ : IsBx V.heap.size 3 #[.int .i64 0] o9 w' := hR 9 (by simp)
  clear hR
  have HGB := Lib.hid hGB
  clear hGB
  have e0 := (blk_cell HGB.out 0).trans rfl
  have f0 := blk_free HGB.out 0
  have zg := blk_lt HGB.out
  simp only [List.getElem?_toArray, List.getElem?_cons_zero] at e0
  simp only [opsAt, List.filterMap_cons, List.filterMap_nil, List.getElem?_toArray, List.getElem?_cons_zero, List.getElem?_cons_succ]
  go_wp2
  refine NoPanic.normal ?_
  obtain ⟨w2, Hw2⟩ : ∃ w2, Hid (w'.setCell ⟨gb, 0, none⟩ (.int .i64 t) = w2) := ⟨_, Lib.hid rfl⟩
  have hb2 : Below V.heap.size V w2 := by rw [← Hw2.out]; exact hb'.setCell hgb _
  have HT2 : Hid (w2.heap[gb]? = some (.cells #[.int .i64 t] 3 (0, 0))) := Lib.hid (by rw [← Hw2.out]; exact blk_set HGB.out 0 _)
  rw [Hw2.out]
  clear e0 f0 zg HGB Hw2 hb'
  have HJ2 := Lib.hid ((hb2.block _ zV).trans HJ.out)
  obtain ⟨j0, j1, j2, j3, j4, _, zj2⟩ := blk5 HJ2.out
  obtain ⟨X, HXX⟩ : ∃ X, Hid (w2.alloc (.cells #[.bool false, .bool false, .bool false, .bool false, .bool false, .bool false, .bool false, .bool false] 120) = X) := ⟨_, Lib.hid rfl⟩
  obtain ⟨gx, Hgx⟩ : ∃ gx, Hid (w2.heap.size = gx) := ⟨_, Lib.hid rfl⟩
  have hbX : Below V.heap.size V X := by rw [← HXX.out]; exact hb2.alloc hb2.size _
  have HT : Hid (X.heap[gb]? = some (.cells #[.int .i64 t] 3 (0, 0))) := Lib.hid (by rw [← HXX.out]; exact (heap_old (blk_lt HT2.out)).trans HT2.out)
  have HX0 : Hid (X.heap[gx]? = some (.cells #[.bool false, .bool false, .bool false, .bool false, .bool false, .bool false, .bool false, .bool false] 120 (0, 0))) := Lib.hid (by rw [← HXX.out, ← Hgx.out]; exact heap_new rfl)
  have hgx : V.heap.size ≤ gx ∧ gx ≠ gb := ⟨by rw [← Hgx.out]; exact hb2.size, by have := blk_lt HT2.out; have := Hgx.out; omega⟩
  go_wp2
  rw [HXX.out, Hgx.out]
  have zxx : w2.heap.size < X.heap.size := by rw [← HXX.out]; simp
  clear HJ2 j0 j1 j2 j3 j4 zj2 HT2 Hgx HXX v0 v1 v2 v3 v4
  have hbW : Below W.heap.size W X := below_trans hV hbX
  have n0' := n0
  have n1' := n1
  have n0 := below_cell hbW n0
  have n1 := below_cell hbW n1
  have et := (blk_cell HT.out 0).trans rfl
  simp only [List.getElem?_toArray, List.getElem?_cons_zero] at et
  have zt := blk_lt HT.out
  have zx := blk_lt HX0.out
  have zbX := Nat.lt_of_lt_of_le zb hbW.size
  refine wp_region_grow [0, 1, 2, 3, 4, 5, 6, 7, 8, 9, 10, 11, 12, 13, 14, 15, 16, 17] 18 [19] (pick [IsV (.int .i64 t), IsV (.slice (some ⟨b, off, none⟩) 2 c), IsV (.pointer (some ⟨b, off, none⟩)), IsV (.int .i64 x0), IsV (.slice (some ⟨b, off, none⟩) 2 c), IsV (.pointer (some ⟨b, off + 1, none⟩)), IsV (.int .i64 x1), IsV (.slice (some ⟨b, off, none⟩) 2 c), IsV (.pointer (some ⟨b, off, none⟩)), IsV (.int .i64 x0), IsV (.int .i64 (x1 - x0)), IsV (.int .i64 t), IsV (.slice (some ⟨b, off, none⟩) 2 c), IsV (.pointer (some ⟨b, off + 1, none⟩)), IsV (.int .i64 x1), IsV (.int .i64 (t - x1)), IsL [x0, (x1 - x0), (t - x1)], IsV (.bool r1)]) (by kernel_rfl) (by kernel_rfl) (Stabs.pick (by repeat (first | exact Stabs.nil | refine Stabs.cons (by first | exact stab_v _ | exact stab_l _ | exact stab_bx _ _ _ | exact stab_gd (by first | exact stab_v _ | exact stab_l _)) ?_))) ?_
  try go_frame
  refine wgs rfl rfl (by simp) (fun w' hb' hR K hK => ?_) (fun o0 => ?_)
  · clear hR
    have cc := below_cell hb' et
    have zz := World.block_lt_of_cell? w' _ cc
    simp only at zz
    go_simp
    exact hK _ _ (Below.refl _ _) rfl
  try go_frame
  refine wgs rfl rfl (by simp) (fun w' hb' hR K hK => ?_) (fun o1 => ?_)
  · clear hR
    go_simp
    exact hK _ _ (Below.refl _ _) rfl
  try go_frame
  refine wgs rfl rfl (by simp) (fun w' hb' hR K hK => ?_) (fun o2 => ?_)
  · obtain rfl : o1 = .slice (some ⟨b, off, none⟩) 2 c := hR 1 (by kernel_rfl)
    clear hR
    go_simp
    exact hK _ _ (Below.refl _ _) rfl
  try go_frame
  refine wgs rfl rfl (by simp) (fun w' hb' hR K hK => ?_) (fun o3 => ?_)
  · obtain rfl : o2 = .pointer (some ⟨b, off, none⟩) := hR 2 (by kernel_rfl)
    clear hR
    have cc := below_cell hb' n0
    have zz := World.block_lt_of_cell? w' _ cc
    simp only at zz
    go_simp
    exact hK _ _ (Below.refl _ _) rfl
  try go_frame
  refine wgs rfl rfl (by simp) (fun w' hb' hR K hK => ?_) (fun o4 => ?_)
  · clear hR
    go_simp
    exact hK _ _ (Below.refl _ _) rfl
  try go_frame
  refine wgs rfl rfl (by simp) (fun w' hb' hR K hK => ?_) (fun o5 => ?_)
  · obtain rfl : o4 = .slice (some ⟨b, off, none⟩) 2 c := hR 4 (by kernel_rfl)
    clear hR
    go_simp
    exact hK _ _ (Below.refl _ _) rfl
  try go_frame
  refine wgs rfl rfl (by simp) (fun w' hb' hR K hK => ?_) (fun o6 => ?_)
  · obtain rfl : o5 = .pointer (some ⟨b, off + 1, none⟩) := hR 5 (by kernel_rfl)
    clear hR
    have cc := below_cell hb' n1
    have zz := World.block_lt_of_cell? w' _ cc
    simp only at zz
    go_simp
    exact hK _ _ (Below.refl _ _) rfl
  try go_frame
  refine wgs rfl rfl (by simp) (fun w' hb' hR K hK => ?_) (fun o7 => ?_)
  · clear hR
    go_simp
    exact hK _ _ (Below.refl _ _) rfl
  try go_frame
  refine wgs rfl rfl (by simp) (fun w' hb' hR K hK => ?_) (fun o8 => ?_)
  · obtain rfl : o7 = .slice (some ⟨b, off, none⟩) 2 c := hR 7 (by kernel_rfl)
    clear hR
    go_simp
    exact hK _ _ (Below.refl _ _) rfl
  try go_frame
  refine wgs rfl rfl (by simp) (fun w' hb' hR K hK => ?_) (fun o9 => ?_)
  · obtain rfl : o8 = .pointer (some ⟨b, off, none⟩) := hR 8 (by kernel_rfl)
    clear hR
    have cc := below_cell hb' n0
    have zz := World.block_lt_of_cell? w' _ cc
    simp only at zz
    go_simp
    exact hK _ _ (Below.refl _ _) rfl
  try go_frame
  refine wgs rfl rfl (by simp) (fun w' hb' hR K hK => ?_) (fun o10 => ?_)
  · obtain rfl : o6 = .int .i64 x1 := hR 6 (by kernel_rfl)
    obtain rfl : o9 = .int .i64 x0 := hR 9 (by kernel_rfl)
    clear hR
    go_simp
    exact hK _ _ (Below.refl _ _) rfl
  try go_frame
  refine wgs rfl rfl (by simp) (fun w' hb' hR K hK => ?_) (fun o11 => ?_)
  · clear hR
    have cc := below_cell hb' et
    have zz := World.block_lt_of_cell? w' _ cc
    simp only at zz
    go_simp
    exact hK _ _ (Below.refl _ _) rfl
  try go_frame
  refine wgs rfl rfl (by simp) (fun w' hb' hR K hK => ?_) (fun o12 => ?_)
  · clear hR
    go_simp
    exact hK _ _ (Below.refl _ _) rfl
  try go_frame
  refine wgs rfl rfl (by simp) (fun w' hb' hR K hK => ?_) (fun o13 => ?_)
  · obtain rfl : o12 = .slice (some ⟨b, off, none⟩) 2 c := hR 12 (by kernel_rfl)
    clear hR
    go_simp
    exact hK _ _ (Below.refl _ _) rfl
  try go_frame
  refine wgs rfl rfl (by simp) (fun w' hb' hR K hK => ?_) (fun o14 => ?_)
  · obtain rfl : o13 = .pointer (some ⟨b, off + 1, none⟩) := hR 13 (by kernel_rfl)
    clear hR
    have cc := below_cell hb' n1
    have zz := World.block_lt_of_cell? w' _ cc
    simp only at zz
    go_simp
    exact hK _ _ (Below.refl _ _) rfl
  try go_frame
  refine wgs rfl rfl (by simp) (fun w' hb' hR K hK => ?_) (fun o15 => ?_)
  · obtain rfl : o11 = .int .i64 t := hR 11 (by kernel_rfl)
    obtain rfl : o14 = .int .i64 x1 := hR 14 (by kernel_rfl)
    clear hR
    go_simp
    exact hK _ _ (Below.refl _ _) rfl
  try go_frame
  refine wgs rfl rfl (by simp) (fun w' hb' hR K hK => ?_) (fun o16 => ?_)
  · obtain rfl : o3 = .int .i64 x0 := hR 3 (by kernel_rfl)
    obtain rfl : o10 = .int .i64 (x1 - x0) := hR 10 (by kernel_rfl)
    obtain rfl : o15 = .int .i64 (t - x1) := hR 15 (by kernel_rfl)
    clear hR
    go_simp
    exact hK _ _ (by (repeat (first | exact brf | assumption | refine ble ?_ | refine blx ?_ | refine bla ?_ | refine bls ?_ | refine bld ?_))) (ints_newL [x0, (x1 - x0), (t - x1)] rfl)
  try go_frame
  refine wgs rfl rfl (by simp) (fun w' hb' hR K hK => ?_) (fun o17 => ?_)
  · obtain rfl : o0 = .int .i64 t := hR 0 (by kernel_rfl)
    have h16 : (IsL [x0, (x1 - x0), (t - x1)]) o16 w' := hR 16 (by kernel_rfl)
    clear hR
    go_simp
    refine ((hT _ _ h16).out).mono ?_
    rintro e w1 ⟨rfl, hb1⟩
    exact hK _ _ hb1 rfl
  try go_frame
  refine wpG_nil (fun w' hb' hR => ?_)
  obtain rfl : o17 = _ := hR 17 (by simp)
  clear hR
  have HXn := Lib.hid ((hb'.block _ zx).trans HX0.out)
  have HTn := Lib.hid ((hb'.block _ zt).trans HT.out)
  have hbXn : Below V.heap.size V w' := below_trans hbX hb'
  have ex := (blk_cell HXn.out 0).trans rfl
  simp only [List.getElem?_toArray, List.getElem?_cons_zero] at ex
  have fx := blk_free HXn.out 0
  have zxn := blk_lt HXn.out
  simp only [opsAt, List.filterMap_cons, List.filterMap_nil, List.getElem?_toArray, List.getElem?_cons_zero, List.getElem?_cons_succ]
  go_wp2
  refine NoPanic.normal ?_
  clear n0 n1
  obtain ⟨X1, HY⟩ : ∃ Y, Hid (w'.setCell ⟨gx, 0, none⟩ (.bool r1) = Y) := ⟨_, Lib.hid rfl⟩
  have hbY : Below V.heap.size V X1 := by rw [← HY.out]; exact hbXn.setCell hgx.1 _
  have HTY : Hid (X1.heap[gb]? = some (.cells #[.int .i64 t] 3 (0, 0))) := Lib.hid (by rw [← HY.out]; exact (Below.heap_setCell _ _ _ _ (fun e => hgx.2 e.symm)).trans HTn.out)
  have HXY : Hid (X1.heap[gx]? = some (.cells #[.bool r1, .bool false, .bool false, .bool false, .bool false, .bool false, .bool false, .bool false] 120 (0, 0))) := Lib.hid (by rw [← HY.out]; exact blk_set HXn.out 0 _)
  rw [HY.out]
  clear HX0 HT hbX hbW zx zt zbX et ex fx zxn HTn HXn hbXn HY
  have hbX := hbY
  have HT := HTY
  have HX0 := HXY
  clear hbY HTY HXY
  have hbW : Below W.heap.size W X1 := below_trans hV hbX
  have et := (blk_cell HT.out 0).trans rfl
  simp only [List.getElem?_toArray, List.getElem?_cons_zero] at et
  have zt := blk_lt HT.out
  have zx := blk_lt HX0.out
  have zbX := Nat.lt_of_lt_of_le zb hbW.size
  have n0 := below_cell hbW n0'
  have n1 := below_cell hbW n1'
  have HRX := Lib.hid ((hbX.block _ zR).trans HR.out)
  obtain ⟨rr0, rr1, rr2, rr3, rr4, rr5, rr6, rr7, frr, zr⟩ := blk8 HRX.out
  obtain ⟨g0, g1, g2, g3, g4, g5, g6, g7, fgx, _⟩ := blk8 HX0.out
  have zgx : W.heap.size ≤ gx := Nat.le_trans hV.size hgx.1
  go_wp2
  refine bodyPost_ret (v := .agg #[.bool r1, .bool false, .bool false, .bool false, .bool false, .bool false, .bool false, .bool false]) (by simp [results, Tryz.results87, go_sem, rr0, rr1, rr2, rr3, rr4, rr5, rr6, rr7]) rfl ⟨rfl, ?_⟩
  exact Below.setCell (Below.setCell (Below.setCell (Below.setCell (Below.setCell (Below.setCell (Below.setCell (Below.setCell hbW (by simp) _) (by simp) _) (by simp) _) (by simp) _) (by simp) _) (by simp) _) (by simp) _) (by simp) _
end
/- joint: broken at the kinds (written by gen_broken.py). -/
section
open Go.RowKit Go.Shelf
attribute [local go_sem] Ext.cell Ext.frozen
set_option linter.unusedVariables false in
set_option maxRecDepth 100000 in
set_option maxHeartbeats 8000000 in
theorem broken_0 (l w t : Int) (nv : Value) (n : List Int) (W : World) (hn : Ints W nv n) (hlen : n.length = 1) (hl : 1 ≤ l ∧ l ≤ 100000) (hw : 1 ≤ w ∧ w ≤ 100000) (ht : 1 ≤ t ∧ t ≤ 100000) (hb : ∀ i, i < n.length → -100000 ≤ n.getD i 0 ∧ n.getD i 0 ≤ 100000) :
    Calls Tryz.prog 87 #[vJ 0 l w t nv] W (Ret W (brkV 0 l w t n)) := by
  have HS : Hid (brkV 0 l w t n = .agg #[.bool ([n.getD 0 0, t - n.getD 0 0].any (thinB t)), .bool (false), .bool (false), .bool (false), .bool (false), .bool (false), .bool (false), .bool (false)]) := Lib.hid (by simp [brkV, brkB])
  rw [HS.out]
  clear HS
  unfold vJ at *
  obtain ⟨b, off, c, rfl, hcc, zb, hi⟩ := hn.at' (by omega)
  have n0 := hi 0 (by omega)
  rw [Nat.add_zero] at n0
  have b0 := hb 0 (by omega)
  rw [hlen]
  have hT := fun v W' (h : Ints W' v [n.getD 0 0, t - n.getD 0 0]) => Lib.hid (thin_any t v _ W' h (by simp) (fun x hx => by simp only [List.mem_cons, List.mem_nil_iff, or_false] at hx; rcases hx with rfl | rfl <;> omega))
  generalize [n.getD 0 0, t - n.getD 0 0].any (thinB t) = r1 at *
  generalize n.getD 0 0 = x0 at *
  clear hi hn hb hcc
  have w1 : wrap64 (t - x0) = t - x0 := by unfold wrap64; omega
  have v1 : IntKind.i64.wrap (t - x0) = t - x0 := IntWalk.i64_in _ (by omega)
  -- a is t - x0
  obtain ⟨V, HV⟩ : ∃ V, Hid ((W.alloc (.cells #[.int .i64 0, .int .i64 l, .int .i64 w, .int .i64 t, .slice (some ⟨b, off, none⟩) 1 c] 25)).alloc (.cells #[.bool false, .bool false, .bool false, .bool false, .bool false, .bool false, .bool false, .bool false] 120) = V) := ⟨_, Lib.hid rfl⟩
  have hV : Below W.heap.size W V := by rw [← HV.out]; (repeat (first | exact brf | assumption | refine ble ?_ | refine blx ?_ | refine bla ?_ | refine bls ?_ | refine bld ?_))
  have HJ : Hid (V.heap[W.heap.size]? = some (.cells #[.int .i64 0, .int .i64 l, .int .i64 w, .int .i64 t, .slice (some ⟨b, off, none⟩) 1 c] 25 (0, 0))) := Lib.hid (by rw [← HV.out]; exact (heap_old (by simp)).trans (heap_new rfl))
  have HR : Hid (V.heap[W.heap.size + 1]? = some (.cells #[.bool false, .bool false, .bool false, .bool false, .bool false, .bool false, .bool false, .bool false] 120 (0, 0))) := Lib.hid (by rw [← HV.out]; exact heap_new (by simp))
  obtain ⟨v0, v1, v2, v3, v4, _, zV⟩ := blk5 HJ.out
  have zR := blk_lt HR.out
  go_enter Tryz.func87, Tryz.ntmps87
  go_wp2
  rw [HV.out]
  refine wp_region_grow [0, 1, 2, 3, 4, 5, 6, 7, 8, 9, 10, 11] 12 [] (pick [IsV (.pointer (some ⟨W.heap.size, 1, none⟩)), IsV (.pointer (some ⟨W.heap.size, 1, none⟩)), IsV (.int .i64 l), IsV (.pointer (some ⟨W.heap.size, 1, none⟩)), IsV (.pointer (some ⟨W.heap.size, 2, none⟩)), IsV (.int .i64 w), IsV (.pointer (some ⟨W.heap.size, 1, none⟩)), IsV (.pointer (some ⟨W.heap.size, 3, none⟩)), IsV (.int .i64 t), IsBx V.heap.size 3 #[.int .i64 0], IsV (.int .i64 l), IsV (.int .i64 w)]) (by kernel_rfl) (by kernel_rfl) (Stabs.pick (by repeat (first | exact Stabs.nil | refine Stabs.cons (by first | exact stab_v _ | exact stab_l _ | exact stab_bx _ _ _ | exact stab_gd (by first | exact stab_v _ | exact stab_l _)) ?_))) ?_
  try go_frame
  refine wgs rfl rfl (by simp) (fun w' hb' hR K hK => ?_) (fun o0 => ?_)
  · clear hR
    have zz := Nat.lt_of_lt_of_le zV hb'.size
    go_simp
    exact hK _ _ (Below.refl _ _) rfl
  try go_frame
  refine wgs rfl rfl (by simp) (fun w' hb' hR K hK => ?_) (fun o1 => ?_)
  · obtain rfl : o0 = .pointer (some ⟨W.heap.size, 1, none⟩) := hR 0 (by kernel_rfl)
    clear hR
    have zz := Nat.lt_of_lt_of_le zV hb'.size
    go_simp
    exact hK _ _ (Below.refl _ _) rfl
  try go_frame
  refine wgs rfl rfl (by simp) (fun w' hb' hR K hK => ?_) (fun o2 => ?_)
  · obtain rfl : o1 = .pointer (some ⟨W.heap.size, 1, none⟩) := hR 1 (by kernel_rfl)
    clear hR
    have cc := below_cell hb' v1
    have zz := World.block_lt_of_cell? w' _ cc
    simp only at zz
    go_simp
    exact hK _ _ (Below.refl _ _) rfl
  try go_frame
  refine wgs rfl rfl (by simp) (fun w' hb' hR K hK => ?_) (fun o3 => ?_)
  · clear hR
    have zz := Nat.lt_of_lt_of_le zV hb'.size
    go_simp
    exact hK _ _ (Below.refl _ _) rfl
  try go_frame
  refine wgs rfl rfl (by simp) (fun w' hb' hR K hK => ?_) (fun o4 => ?_)
  · obtain rfl : o3 = .pointer (some ⟨W.heap.size, 1, none⟩) := hR 3 (by kernel_rfl)
    clear hR
    have zz := Nat.lt_of_lt_of_le zV hb'.size
    go_simp
    exact hK _ _ (Below.refl _ _) rfl
  try go_frame
  refine wgs rfl rfl (by simp) (fun w' hb' hR K hK => ?_) (fun o5 => ?_)
  · obtain rfl : o4 = .pointer (some ⟨W.heap.size, 2, none⟩) := hR 4 (by kernel_rfl)
    clear hR
    have cc := below_cell hb' v2
    have zz := World.block_lt_of_cell? w' _ cc
    simp only at zz
    go_simp
    exact hK _ _ (Below.refl _ _) rfl
  try go_frame
  refine wgs rfl rfl (by simp) (fun w' hb' hR K hK => ?_) (fun o6 => ?_)
  · clear hR
    have zz := Nat.lt_of_lt_of_le zV hb'.size
    go_simp
    exact hK _ _ (Below.refl _ _) rfl
  try go_frame
  refine wgs rfl rfl (by simp) (fun w' hb' hR K hK => ?_) (fun o7 => ?_)
  · obtain rfl : o6 = .pointer (some ⟨W.heap.size, 1, none⟩) := hR 6 (by kernel_rfl)
    clear hR
    have zz := Nat.lt_of_lt_of_le zV hb'.size
    go_simp
    exact hK _ _ (Below.refl _ _) rfl
  try go_frame
  refine wgs rfl rfl (by simp) (fun w' hb' hR K hK => ?_) (fun o8 => ?_)
  · obtain rfl : o7 = .pointer (some ⟨W.heap.size, 3, none⟩) := hR 7 (by kernel_rfl)
    clear hR
    have cc := below_cell hb' v3
    have zz := World.block_lt_of_cell? w' _ cc
    simp only at zz
    go_simp
    exact hK _ _ (Below.refl _ _) rfl
  try go_frame
  refine wgs rfl rfl (by simp) (fun w' hb' hR K hK => ?_) (fun o9 => ?_)
  · clear hR
    have zz := hb'.size
    go_simp
    exact hK _ _ (by (repeat (first | exact brf | assumption | refine ble ?_ | refine blx ?_ | refine bla ?_ | refine bls ?_ | refine bld ?_))) ⟨_, rfl, zz, heap_new rfl⟩
  try go_frame
  refine wgs rfl rfl (by simp) (fun w' hb' hR K hK => ?_) (fun o10 => ?_)
  · obtain rfl : o2 = .int .i64 l := hR 2 (by kernel_rfl)
    clear hR
    go_simp
    exact hK _ _ (Below.refl _ _) rfl
  try go_frame
  refine wgs rfl rfl (by simp) (fun w' hb' hR K hK => ?_) (fun o11 => ?_)
  · obtain rfl : o5 = .int .i64 w := hR 5 (by kernel_rfl)
    clear hR
    go_simp
    exact hK _ _ (Below.refl _ _) rfl
  try go_frame
  refine wpG_nil (fun w' hb' hR => ?_)
  obtain rfl : o8 = _ := hR 8 (by simp)
  obtain rfl : o10 = _ := hR 10 (by simp)
  obtain rfl : o11 = _ := hR 11 (by simp)
  obtain ⟨gb, rfl, hgb, hGB⟩ : IsBx V.heap.size 3 #[.int .i64 0] o9 w' := hR 9 (by simp)
  clear hR
  have HGB := Lib.hid hGB
  clear hGB
  have e0 := (blk_cell HGB.out 0).trans rfl
  have f0 := blk_free HGB.out 0
  have zg := blk_lt HGB.out
  simp only [List.getElem?_toArray, List.getElem?_cons_zero] at e0
  simp only [opsAt, List.filterMap_cons, List.filterMap_nil, List.getElem?_toArray, List.getElem?_cons_zero, List.getElem?_cons_succ]
  go_wp2
  refine NoPanic.normal ?_
  obtain ⟨w2, Hw2⟩ : ∃ w2, Hid (w'.setCell ⟨gb, 0, none⟩ (.int .i64 t) = w2) := ⟨_, Lib.hid rfl⟩
  have hb2 : Below V.heap.size V w2 := by rw [← Hw2.out]; exact hb'.setCell hgb _
  have HT2 : Hid (w2.heap[gb]? = some (.cells #[.int .i64 t] 3 (0, 0))) := Lib.hid (by rw [← Hw2.out]; exact blk_set HGB.out 0 _)
  rw [Hw2.out]
  clear e0 f0 zg HGB Hw2 hb'
  have HJ2 := Lib.hid ((hb2.block _ zV).trans HJ.out)
  obtain ⟨j0, j1, j2, j3, j4, _, zj2⟩ := blk5 HJ2.out
  obtain ⟨X, HXX⟩ : ∃ X, Hid (w2.alloc (.cells #[.bool false, .bool false, .bool false, .bool false, .bool false, .bool false, .bool false, .bool false] 120) = X) := ⟨_, Lib.hid rfl⟩
  obtain ⟨gx, Hgx⟩ : ∃ gx, Hid (w2.heap.size = gx) := ⟨_, Lib.hid rfl⟩
  have hbX : Below V.heap.size V X := by rw [← HXX.out]; exact hb2.alloc hb2.size _
  have HT : Hid (X.heap[gb]? = some (.cells #[.int .i64 t] 3 (0, 0))) := Lib.hid (by rw [← HXX.out]; exact (heap_old (blk_lt HT2.out)).trans HT2.out)
  have HX0 : Hid (X.heap[gx]? = some (.cells #[.bool false, .bool false, .bool false, .bool false, .bool false, .bool false, .bool false, .bool false] 120 (0, 0))) := Lib.hid (by rw [← HXX.out, ← Hgx.out]; exact heap_new rfl)
  have hgx : V.heap.size ≤ gx ∧ gx ≠ gb := ⟨by rw [← Hgx.out]; exact hb2.size, by have := blk_lt HT2.out; have := Hgx.out; omega⟩
  go_wp2
  rw [HXX.out, Hgx.out]
  have zxx : w2.heap.size < X.heap.size := by rw [← HXX.out]; simp
  clear HJ2 j0 j1 j2 j3 j4 zj2 HT2 Hgx HXX v0 v1 v2 v3 v4
  have hbW : Below W.heap.size W X := below_trans hV hbX
  have n0' := n0
  have n0 := below_cell hbW n0
  have et := (blk_cell HT.out 0).trans rfl
  simp only [List.getElem?_toArray, List.getElem?_cons_zero] at et
  have zt := blk_lt HT.out
  have zx := blk_lt HX0.out
  have zbX := Nat.lt_of_lt_of_le zb hbW.size
  refine wp_region_grow [0, 1, 2, 3, 4, 5, 6, 7, 8, 9, 10] 11 [12] (pick [IsV (.int .i64 t), IsV (.slice (some ⟨b, off, none⟩) 1 c), IsV (.pointer (some ⟨b, off, none⟩)), IsV (.int .i64 x0), IsV (.int .i64 t), IsV (.slice (some ⟨b, off, none⟩) 1 c), IsV (.pointer (some ⟨b, off, none⟩)), IsV (.int .i64 x0), IsV (.int .i64 (t - x0)), IsL [x0, (t - x0)], IsV (.bool r1)]) (by kernel_rfl) (by kernel_rfl) (Stabs.pick (by repeat (first | exact Stabs.nil | refine Stabs.cons (by first | exact stab_v _ | exact stab_l _ | exact stab_bx _ _ _ | exact stab_gd (by first | exact stab_v _ | exact stab_l _)) ?_))) ?_
  try go_frame
  refine wgs rfl rfl (by simp) (fun w' hb' hR K hK => ?_) (fun o0 => ?_)
  · clear hR
    have cc := below_cell hb' et
    have zz := World.block_lt_of_cell? w' _ cc
    simp only at zz
    go_simp
    exact hK _ _ (Below.refl _ _) rfl
  try go_frame
  refine wgs rfl rfl (by simp) (fun w' hb' hR K hK => ?_) (fun o1 => ?_)
  · clear hR
    go_simp
    exact hK _ _ (Below.refl _ _) rfl
  try go_frame
  refine wgs rfl rfl (by simp) (fun w' hb' hR K hK => ?_) (fun o2 => ?_)
  · obtain rfl : o1 = .slice (some ⟨b, off, none⟩) 1 c := hR 1 (by kernel_rfl)
    clear hR
    go_simp
    exact hK _ _ (Below.refl _ _) rfl
  try go_frame
  refine wgs rfl rfl (by simp) (fun w' hb' hR K hK => ?_) (fun o3 => ?_)
  · obtain rfl : o2 = .pointer (some ⟨b, off, none⟩) := hR 2 (by kernel_rfl)
    clear hR
    have cc := below_cell hb' n0
    have zz := World.block_lt_of_cell? w' _ cc
    simp only at zz
    go_simp
    exact hK _ _ (Below.refl _ _) rfl
  try go_frame
  refine wgs rfl rfl (by simp) (fun w' hb' hR K hK => ?_) (fun o4 => ?_)
  · clear hR
    have cc := below_cell hb' et
    have zz := World.block_lt_of_cell? w' _ cc
    simp only at zz
    go_simp
    exact hK _ _ (Below.refl _ _) rfl
  try go_frame
  refine wgs rfl rfl (by simp) (fun w' hb' hR K hK => ?_) (fun o5 => ?_)
  · clear hR
    go_simp
    exact hK _ _ (Below.refl _ _) rfl
  try go_frame
  refine wgs rfl rfl (by simp) (fun w' hb' hR K hK => ?_) (fun o6 => ?_)
  · obtain rfl : o5 = .slice (some ⟨b, off, none⟩) 1 c := hR 5 (by kernel_rfl)
    clear hR
    go_simp
    exact hK _ _ (Below.refl _ _) rfl
  try go_frame
  refine wgs rfl rfl (by simp) (fun w' hb' hR K hK => ?_) (fun o7 => ?_)
  · obtain rfl : o6 = .pointer (some ⟨b, off, none⟩) := hR 6 (by kernel_rfl)
    clear hR
    have cc := below_cell hb' n0
    have zz := World.block_lt_of_cell? w' _ cc
    simp only at zz
    go_simp
    exact hK _ _ (Below.refl _ _) rfl
  try go_frame
  refine wgs rfl rfl (by simp) (fun w' hb' hR K hK => ?_) (fun o8 => ?_)
  · obtain rfl : o4 = .int .i64 t := hR 4 (by kernel_rfl)
    obtain rfl : o7 = .int .i64 x0 := hR 7 (by kernel_rfl)
    clear hR
    go_simp
    exact hK _ _ (Below.refl _ _) rfl
  try go_frame
  refine wgs rfl rfl (by simp) (fun w' hb' hR K hK => ?_) (fun o9 => ?_)
  · obtain rfl : o3 = .int .i64 x0 := hR 3 (by kernel_rfl)
    obtain rfl : o8 = .int .i64 (t - x0) := hR 8 (by kernel_rfl)
    clear hR
    go_simp
    exact hK _ _ (by (repeat (first | exact brf | assumption | refine ble ?_ | refine blx ?_ | refine bla ?_ | refine bls ?_ | refine bld ?_))) (ints_newL [x0, (t - x0)] rfl)
  try go_frame
  refine wgs rfl rfl (by simp) (fun w' hb' hR K hK => ?_) (fun o10 => ?_)
  · obtain rfl : o0 = .int .i64 t := hR 0 (by kernel_rfl)
    have h9 : (IsL [x0, (t - x0)]) o9 w' := hR 9 (by kernel_rfl)
    clear hR
    go_simp
    refine ((hT _ _ h9).out).mono ?_
    rintro e w1 ⟨rfl, hb1⟩
    exact hK _ _ hb1 rfl
  try go_frame
  refine wpG_nil (fun w' hb' hR => ?_)
  obtain rfl : o10 = _ := hR 10 (by simp)
  clear hR
  have HXn := Lib.hid ((hb'.block _ zx).trans HX0.out)
  have HTn := Lib.hid ((hb'.block _ zt).trans HT.out)
  have hbXn : Below V.heap.size V w' := below_trans hbX hb'
  have ex := (blk_cell HXn.out 0).trans rfl
  simp only [List.getElem?_toArray, List.getElem?_cons_zero] at ex
  have fx := blk_free HXn.out 0
  have zxn := blk_lt HXn.out
  simp only [opsAt, List.filterMap_cons, List.filterMap_nil, List.getElem?_toArray, List.getElem?_cons_zero, List.getElem?_cons_succ]
  go_wp2
  refine NoPanic.normal ?_
  clear n0
  obtain ⟨X1, HY⟩ : ∃ Y, Hid (w'.setCell ⟨gx, 0, none⟩ (.bool r1) = Y) := ⟨_, Lib.hid rfl⟩
  have hbY : Below V.heap.size V X1 := by rw [← HY.out]; exact hbXn.setCell hgx.1 _
  have HTY : Hid (X1.heap[gb]? = some (.cells #[.int .i64 t] 3 (0, 0))) := Lib.hid (by rw [← HY.out]; exact (Below.heap_setCell _ _ _ _ (fun e => hgx.2 e.symm)).trans HTn.out)
  have HXY : Hid (X1.heap[gx]? = some (.cells #[.bool r1, .bool false, .bool false, .bool false, .bool false, .bool false, .bool false, .bool false] 120 (0, 0))) := Lib.hid (by rw [← HY.out]; exact blk_set HXn.out 0 _)
  rw [HY.out]
  clear HX0 HT hbX hbW zx zt zbX et ex fx zxn HTn HXn hbXn HY
  have hbX := hbY
  have HT := HTY
  have HX0 := HXY
  clear hbY HTY HXY
  have hbW : Below W.heap.size W X1 := below_trans hV hbX
  have et := (blk_cell HT.out 0).trans rfl
  simp only [List.getElem?_toArray, List.getElem?_cons_zero] at et
  have zt := blk_lt HT.out
  have zx := blk_lt HX0.out
  have zbX := Nat.lt_of_lt_of_le zb hbW.size
  have n0 := below_cell hbW n0'
  have HRX := Lib.hid ((hbX.block _ zR).trans HR.out)
  obtain ⟨rr0, rr1, rr2, rr3, rr4, rr5, rr6, rr7, frr, zr⟩ := blk8 HRX.out
  obtain ⟨g0, g1, g2, g3, g4, g5, g6, g7, fgx, _⟩ := blk8 HX0.out
  have zgx : W.heap.size ≤ gx := Nat.le_trans hV.size hgx.1
  go_wp2
  refine bodyPost_ret (v := .agg #[.bool r1, .bool false, .bool false, .bool false, .bool false, .bool false, .bool false, .bool false]) (by simp [results, Tryz.results87, go_sem, rr0, rr1, rr2, rr3, rr4, rr5, rr6, rr7]) rfl ⟨rfl, ?_⟩
  exact Below.setCell (Below.setCell (Below.setCell (Below.setCell (Below.setCell (Below.setCell (Below.setCell (Below.setCell hbW (by simp) _) (by simp) _) (by simp) _) (by simp) _) (by simp) _) (by simp) _) (by simp) _) (by simp) _
set_option linter.unusedVariables false in
set_option maxRecDepth 100000 in
set_option maxHeartbeats 8000000 in
theorem broken_10 (l w t : Int) (nv : Value) (n : List Int) (W : World) (hn : Ints W nv n) (hlen : n.length = 5) (hl : 1 ≤ l ∧ l ≤ 100000) (hw : 1 ≤ w ∧ w ≤ 100000) (ht : 1 ≤ t ∧ t ≤ 100000) (hb : ∀ i, i < n.length → -100000 ≤ n.getD i 0 ∧ n.getD i 0 ≤ 100000) :
    Calls Tryz.prog 87 #[vJ 10 l w t nv] W (Ret W (brkV 10 l w t n)) := by
  have HS : Hid (brkV 10 l w t n = .agg #[.bool ([n.getD 0 0, t - n.getD 0 0].any (thinB t)), .bool (false), .bool (false), .bool (false), .bool (false), .bool (false), .bool (false), .bool (false)]) := Lib.hid (by simp [brkV, brkB])
  rw [HS.out]
  clear HS
  unfold vJ at *
  obtain ⟨b, off, c, rfl, hcc, zb, hi⟩ := hn.at' (by omega)
  have n0 := hi 0 (by omega)
  rw [Nat.add_zero] at n0
  have b0 := hb 0 (by omega)
  rw [hlen]
  have hT := fun v W' (h : Ints W' v [n.getD 0 0, t - n.getD 0 0]) => Lib.hid (thin_any t v _ W' h (by simp) (fun x hx => by simp only [List.mem_cons, List.mem_nil_iff, or_false] at hx; rcases hx with rfl | rfl <;> omega))
  generalize [n.getD 0 0, t - n.getD 0 0].any (thinB t) = r1 at *
  generalize n.getD 0 0 = x0 at *
  clear hi hn hb hcc
  have w1 : wrap64 (t - x0) = t - x0 := by unfold wrap64; omega
  have v1 : IntKind.i64.wrap (t - x0) = t - x0 := IntWalk.i64_in _ (by omega)
  -- a is t - x0
  obtain ⟨V, HV⟩ : ∃ V, Hid ((W.alloc (.cells #[.int .i64 10, .int .i64 l, .int .i64 w, .int .i64 t, .slice (some ⟨b, off, none⟩) 5 c] 25)).alloc (.cells #[.bool false, .bool false, .bool false, .bool false, .bool false, .bool false, .bool false, .bool false] 120) = V) := ⟨_, Lib.hid rfl⟩
  have hV : Below W.heap.size W V := by rw [← HV.out]; (repeat (first | exact brf | assumption | refine ble ?_ | refine blx ?_ | refine bla ?_ | refine bls ?_ | refine bld ?_))
  have HJ : Hid (V.heap[W.heap.size]? = some (.cells #[.int .i64 10, .int .i64 l, .int .i64 w, .int .i64 t, .slice (some ⟨b, off, none⟩) 5 c] 25 (0, 0))) := Lib.hid (by rw [← HV.out]; exact (heap_old (by simp)).trans (heap_new rfl))
  have HR : Hid (V.heap[W.heap.size + 1]? = some (.cells #[.bool false, .bool false, .bool false, .bool false, .bool false, .bool false, .bool false, .bool false] 120 (0, 0))) := Lib.hid (by rw [← HV.out]; exact heap_new (by simp))
  obtain ⟨v0, v1, v2, v3, v4, _, zV⟩ := blk5 HJ.out
  have zR := blk_lt HR.out
  go_enter Tryz.func87, Tryz.ntmps87
  go_wp2
  rw [HV.out]
  refine wp_region_grow [0, 1, 2, 3, 4, 5, 6, 7, 8, 9, 10, 11] 12 [] (pick [IsV (.pointer (some ⟨W.heap.size, 1, none⟩)), IsV (.pointer (some ⟨W.heap.size, 1, none⟩)), IsV (.int .i64 l), IsV (.pointer (some ⟨W.heap.size, 1, none⟩)), IsV (.pointer (some ⟨W.heap.size, 2, none⟩)), IsV (.int .i64 w), IsV (.pointer (some ⟨W.heap.size, 1, none⟩)), IsV (.pointer (some ⟨W.heap.size, 3, none⟩)), IsV (.int .i64 t), IsBx V.heap.size 3 #[.int .i64 0], IsV (.int .i64 l), IsV (.int .i64 w)]) (by kernel_rfl) (by kernel_rfl) (Stabs.pick (by repeat (first | exact Stabs.nil | refine Stabs.cons (by first | exact stab_v _ | exact stab_l _ | exact stab_bx _ _ _ | exact stab_gd (by first | exact stab_v _ | exact stab_l _)) ?_))) ?_
  try go_frame
  refine wgs rfl rfl (by simp) (fun w' hb' hR K hK => ?_) (fun o0 => ?_)
  · clear hR
    have zz := Nat.lt_of_lt_of_le zV hb'.size
    go_simp
    exact hK _ _ (Below.refl _ _) rfl
  try go_frame
  refine wgs rfl rfl (by simp) (fun w' hb' hR K hK => ?_) (fun o1 => ?_)
  · obtain rfl : o0 = .pointer (some ⟨W.heap.size, 1, none⟩) := hR 0 (by kernel_rfl)
    clear hR
    have zz := Nat.lt_of_lt_of_le zV hb'.size
    go_simp
    exact hK _ _ (Below.refl _ _) rfl
  try go_frame
  refine wgs rfl rfl (by simp) (fun w' hb' hR K hK => ?_) (fun o2 => ?_)
  · obtain rfl : o1 = .pointer (some ⟨W.heap.size, 1, none⟩) := hR 1 (by kernel_rfl)
    clear hR
    have cc := below_cell hb' v1
    have zz := World.block_lt_of_cell? w' _ cc
    simp only at zz
    go_simp
    exact hK _ _ (Below.refl _ _) rfl
  try go_frame
  refine wgs rfl rfl (by simp) (fun w' hb' hR K hK => ?_) (fun o3 => ?_)
  · clear hR
    have zz := Nat.lt_of_lt_of_le zV hb'.size
    go_simp
    exact hK _ _ (Below.refl _ _) rfl
  try go_frame
  refine wgs rfl rfl (by simp) (fun w' hb' hR K hK => ?_) (fun o4 => ?_)
  · obtain rfl : o3 = .pointer (some ⟨W.heap.size, 1, none⟩) := hR 3 (by kernel_rfl)
    clear hR
    have zz := Nat.lt_of_lt_of_le zV hb'.size
    go_simp
    exact hK _ _ (Below.refl _ _) rfl
  try go_frame
  refine wgs rfl rfl (by simp) (fun w' hb' hR K hK => ?_) (fun o5 => ?_)
  · obtain rfl : o4 = .pointer (some ⟨W.heap.size, 2, none⟩) := hR 4 (by kernel_rfl)
    clear hR
    have cc := below_cell hb' v2
    have zz := World.block_lt_of_cell? w' _ cc
    simp only at zz
    go_simp
    exact hK _ _ (Below.refl _ _) rfl
  try go_frame
  refine wgs rfl rfl (by simp) (fun w' hb' hR K hK => ?_) (fun o6 => ?_)
  · clear hR
    have zz := Nat.lt_of_lt_of_le zV hb'.size
    go_simp
    exact hK _ _ (Below.refl _ _) rfl
  try go_frame
  refine wgs rfl rfl (by simp) (fun w' hb' hR K hK => ?_) (fun o7 => ?_)
  · obtain rfl : o6 = .pointer (some ⟨W.heap.size, 1, none⟩) := hR 6 (by kernel_rfl)
    clear hR
    have zz := Nat.lt_of_lt_of_le zV hb'.size
    go_simp
    exact hK _ _ (Below.refl _ _) rfl
  try go_frame
  refine wgs rfl rfl (by simp) (fun w' hb' hR K hK => ?_) (fun o8 => ?_)
  · obtain rfl : o7 = .pointer (some ⟨W.heap.size, 3, none⟩) := hR 7 (by kernel_rfl)
    clear hR
    have cc := below_cell hb' v3
    have zz := World.block_lt_of_cell? w' _ cc
    simp only at zz
    go_simp
    exact hK _ _ (Below.refl _ _) rfl
  try go_frame
  refine wgs rfl rfl (by simp) (fun w' hb' hR K hK => ?_) (fun o9 => ?_)
  · clear hR
    have zz := hb'.size
    go_simp
    exact hK _ _ (by (repeat (first | exact brf | assumption | refine ble ?_ | refine blx ?_ | refine bla ?_ | refine bls ?_ | refine bld ?_))) ⟨_, rfl, zz, heap_new rfl⟩
  try go_frame
  refine wgs rfl rfl (by simp) (fun w' hb' hR K hK => ?_) (fun o10 => ?_)
  · obtain rfl : o2 = .int .i64 l := hR 2 (by kernel_rfl)
    clear hR
    go_simp
    exact hK _ _ (Below.refl _ _) rfl
  try go_frame
  refine wgs rfl rfl (by simp) (fun w' hb' hR K hK => ?_) (fun o11 => ?_)
  · obtain rfl : o5 = .int .i64 w := hR 5 (by kernel_rfl)
    clear hR
    go_simp
    exact hK _ _ (Below.refl _ _) rfl
  try go_frame
  refine wpG_nil (fun w' hb' hR => ?_)
  obtain rfl : o8 = _ := hR 8 (by simp)
  obtain rfl : o10 = _ := hR 10 (by simp)
  obtain rfl : o11 = _ := hR 11 (by simp)
  obtain ⟨gb, rfl, hgb, hGB⟩ : IsBx V.heap.size 3 #[.int .i64 0] o9 w' := hR 9 (by simp)
  clear hR
  have HGB := Lib.hid hGB
  clear hGB
  have e0 := (blk_cell HGB.out 0).trans rfl
  have f0 := blk_free HGB.out 0
  have zg := blk_lt HGB.out
  simp only [List.getElem?_toArray, List.getElem?_cons_zero] at e0
  simp only [opsAt, List.filterMap_cons, List.filterMap_nil, List.getElem?_toArray, List.getElem?_cons_zero, List.getElem?_cons_succ]
  go_wp2
  refine NoPanic.normal ?_
  obtain ⟨w2, Hw2⟩ : ∃ w2, Hid (w'.setCell ⟨gb, 0, none⟩ (.int .i64 t) = w2) := ⟨_, Lib.hid rfl⟩
  have hb2 : Below V.heap.size V w2 := by rw [← Hw2.out]; exact hb'.setCell hgb _
  have HT2 : Hid (w2.heap[gb]? = some (.cells #[.int .i64 t] 3 (0, 0))) := Lib.hid (by rw [← Hw2.out]; exact blk_set HGB.out 0 _)
  rw [Hw2.out]
  clear e0 f0 zg HGB Hw2 hb'
  have HJ2 := Lib.hid ((hb2.block _ zV).trans HJ.out)
  obtain ⟨j0, j1, j2, j3, j4, _, zj2⟩ := blk5 HJ2.out
  obtain ⟨X, HXX⟩ : ∃ X, Hid (w2.alloc (.cells #[.bool false, .bool false, .bool false, .bool false, .bool false, .bool false, .bool false, .bool false] 120) = X) := ⟨_, Lib.hid rfl⟩
  obtain ⟨gx, Hgx⟩ : ∃ gx, Hid (w2.heap.size = gx) := ⟨_, Lib.hid rfl⟩
  have hbX : Below V.heap.size V X := by rw [← HXX.out]; exact hb2.alloc hb2.size _
  have HT : Hid (X.heap[gb]? = some (.cells #[.int .i64 t] 3 (0, 0))) := Lib.hid (by rw [← HXX.out]; exact (heap_old (blk_lt HT2.out)).trans HT2.out)
  have HX0 : Hid (X.heap[gx]? = some (.cells #[.bool false, .bool false, .bool false, .bool false, .bool false, .bool false, .bool false, .bool false] 120 (0, 0))) := Lib.hid (by rw [← HXX.out, ← Hgx.out]; exact heap_new rfl)
  have hgx : V.heap.size ≤ gx ∧ gx ≠ gb := ⟨by rw [← Hgx.out]; exact hb2.size, by have := blk_lt HT2.out; have := Hgx.out; omega⟩
  go_wp2
  rw [HXX.out, Hgx.out]
  have zxx : w2.heap.size < X.heap.size := by rw [← HXX.out]; simp
  clear HJ2 j0 j1 j2 j3 j4 zj2 HT2 Hgx HXX v0 v1 v2 v3 v4
  have hbW : Below W.heap.size W X := below_trans hV hbX
  have n0' := n0
  have n0 := below_cell hbW n0
  have et := (blk_cell HT.out 0).trans rfl
  simp only [List.getElem?_toArray, List.getElem?_cons_zero] at et
  have zt := blk_lt HT.out
  have zx := blk_lt HX0.out
  have zbX := Nat.lt_of_lt_of_le zb hbW.size
  refine wp_region_grow [0, 1, 2, 3, 4, 5, 6, 7, 8, 9, 10] 11 [12] (pick [IsV (.int .i64 t), IsV (.slice (some ⟨b, off, none⟩) 5 c), IsV (.pointer (some ⟨b, off, none⟩)), IsV (.int .i64 x0), IsV (.int .i64 t), IsV (.slice (some ⟨b, off, none⟩) 5 c), IsV (.pointer (some ⟨b, off, none⟩)), IsV (.int .i64 x0), IsV (.int .i64 (t - x0)), IsL [x0, (t - x0)], IsV (.bool r1)]) (by kernel_rfl) (by kernel_rfl) (Stabs.pick (by repeat (first | exact Stabs.nil | refine Stabs.cons (by first | exact stab_v _ | exact stab_l _ | exact stab_bx _ _ _ | exact stab_gd (by first | exact stab_v _ | exact stab_l _)) ?_))) ?_
  try go_frame
  refine wgs rfl rfl (by simp) (fun w' hb' hR K hK => ?_) (fun o0 => ?_)
  · clear hR
    have cc := below_cell hb' et
    have zz := World.block_lt_of_cell? w' _ cc
    simp only at zz
    go_simp
    exact hK _ _ (Below.refl _ _) rfl
  try go_frame
  refine wgs rfl rfl (by simp) (fun w' hb' hR K hK => ?_) (fun o1 => ?_)
  · clear hR
    go_simp
    exact hK _ _ (Below.refl _ _) rfl
  try go_frame
  refine wgs rfl rfl (by simp) (fun w' hb' hR K hK => ?_) (fun o2 => ?_)
  · obtain rfl : o1 = .slice (some ⟨b, off, none⟩) 5 c := hR 1 (by kernel_rfl)
    clear hR
    go_simp
    exact hK _ _ (Below.refl _ _) rfl
  try go_frame
  refine wgs rfl rfl (by simp) (fun w' hb' hR K hK => ?_) (fun o3 => ?_)
  · obtain rfl : o2 = .pointer (some ⟨b, off, none⟩) := hR 2 (by kernel_rfl)
    clear hR
    have cc := below_cell hb' n0
    have zz := World.block_lt_of_cell? w' _ cc
    simp only at zz
    go_simp
    exact hK _ _ (Below.refl _ _) rfl
  try go_frame
  refine wgs rfl rfl (by simp) (fun w' hb' hR K hK => ?_) (fun o4 => ?_)
  · clear hR
    have cc := below_cell hb' et
    have zz := World.block_lt_of_cell? w' _ cc
    simp only at zz
    go_simp
    exact hK _ _ (Below.refl _ _) rfl
  try go_frame
  refine wgs rfl rfl (by simp) (fun w' hb' hR K hK => ?_) (fun o5 => ?_)
  · clear hR
    go_simp
    exact hK _ _ (Below.refl _ _) rfl
  try go_frame
  refine wgs rfl rfl (by simp) (fun w' hb' hR K hK => ?_) (fun o6 => ?_)
  · obtain rfl : o5 = .slice (some ⟨b, off, none⟩) 5 c := hR 5 (by kernel_rfl)
    clear hR
    go_simp
    exact hK _ _ (Below.refl _ _) rfl
  try go_frame
  refine wgs rfl rfl (by simp) (fun w' hb' hR K hK => ?_) (fun o7 => ?_)
  · obtain rfl : o6 = .pointer (some ⟨b, off, none⟩) := hR 6 (by kernel_rfl)
    clear hR
    have cc := below_cell hb' n0
    have zz := World.block_lt_of_cell? w' _ cc
    simp only at zz
    go_simp
    exact hK _ _ (Below.refl _ _) rfl
  try go_frame
  refine wgs rfl rfl (by simp) (fun w' hb' hR K hK => ?_) (fun o8 => ?_)
  · obtain rfl : o4 = .int .i64 t := hR 4 (by kernel_rfl)
    obtain rfl : o7 = .int .i64 x0 := hR 7 (by kernel_rfl)
    clear hR
    go_simp
    exact hK _ _ (Below.refl _ _) rfl
  try go_frame
  refine wgs rfl rfl (by simp) (fun w' hb' hR K hK => ?_) (fun o9 => ?_)
  · obtain rfl : o3 = .int .i64 x0 := hR 3 (by kernel_rfl)
    obtain rfl : o8 = .int .i64 (t - x0) := hR 8 (by kernel_rfl)
    clear hR
    go_simp
    exact hK _ _ (by (repeat (first | exact brf | assumption | refine ble ?_ | refine blx ?_ | refine bla ?_ | refine bls ?_ | refine bld ?_))) (ints_newL [x0, (t - x0)] rfl)
  try go_frame
  refine wgs rfl rfl (by simp) (fun w' hb' hR K hK => ?_) (fun o10 => ?_)
  · obtain rfl : o0 = .int .i64 t := hR 0 (by kernel_rfl)
    have h9 : (IsL [x0, (t - x0)]) o9 w' := hR 9 (by kernel_rfl)
    clear hR
    go_simp
    refine ((hT _ _ h9).out).mono ?_
    rintro e w1 ⟨rfl, hb1⟩
    exact hK _ _ hb1 rfl
  try go_frame
  refine wpG_nil (fun w' hb' hR => ?_)
  obtain rfl : o10 = _ := hR 10 (by simp)
  clear hR
  have HXn := Lib.hid ((hb'.block _ zx).trans HX0.out)
  have HTn := Lib.hid ((hb'.block _ zt).trans HT.out)
  have hbXn : Below V.heap.size V w' := below_trans hbX hb'
  have ex := (blk_cell HXn.out 0).trans rfl
  simp only [List.getElem?_toArray, List.getElem?_cons_zero] at ex
  have fx := blk_free HXn.out 0
  have zxn := blk_lt HXn.out
  simp only [opsAt, List.filterMap_cons, List.filterMap_nil, List.getElem?_toArray, List.getElem?_cons_zero, List.getElem?_cons_succ]
  go_wp2
  refine NoPanic.normal ?_
  clear n0
  obtain ⟨X1, HY⟩ : ∃ Y, Hid (w'.setCell ⟨gx, 0, none⟩ (.bool r1) = Y) := ⟨_, Lib.hid rfl⟩
  have hbY : Below V.heap.size V X1 := by rw [← HY.out]; exact hbXn.setCell hgx.1 _
  have HTY : Hid (X1.heap[gb]? = some (.cells #[.int .i64 t] 3 (0, 0))) := Lib.hid (by rw [← HY.out]; exact (Below.heap_setCell _ _ _ _ (fun e => hgx.2 e.symm)).trans HTn.out)
  have HXY : Hid (X1.heap[gx]? = some (.cells #[.bool r1, .bool false, .bool false, .bool false, .bool false, .bool false, .bool false, .bool false] 120 (0, 0))) := Lib.hid (by rw [← HY.out]; exact blk_set HXn.out 0 _)
  rw [HY.out]
  clear HX0 HT hbX hbW zx zt zbX et ex fx zxn HTn HXn hbXn HY
  have hbX := hbY
  have HT := HTY
  have HX0 := HXY
  clear hbY HTY HXY
  have hbW : Below W.heap.size W X1 := below_trans hV hbX
  have et := (blk_cell HT.out 0).trans rfl
  simp only [List.getElem?_toArray, List.getElem?_cons_zero] at et
  have zt := blk_lt HT.out
  have zx := blk_lt HX0.out
  have zbX := Nat.lt_of_lt_of_le zb hbW.size
  have n0 := below_cell hbW n0'
  have HRX := Lib.hid ((hbX.block _ zR).trans HR.out)
  obtain ⟨rr0, rr1, rr2, rr3, rr4, rr5, rr6, rr7, frr, zr⟩ := blk8 HRX.out
  obtain ⟨g0, g1, g2, g3, g4, g5, g6, g7, fgx, _⟩ := blk8 HX0.out
  have zgx : W.heap.size ≤ gx := Nat.le_trans hV.size hgx.1
  go_wp2
  refine bodyPost_ret (v := .agg #[.bool r1, .bool false, .bool false, .bool false, .bool false, .bool false, .bool false, .bool false]) (by simp [results, Tryz.results87, go_sem, rr0, rr1, rr2, rr3, rr4, rr5, rr6, rr7]) rfl ⟨rfl, ?_⟩
  exact Below.setCell (Below.setCell (Below.setCell (Below.setCell (Below.setCell (Below.setCell (Below.setCell (Below.setCell hbW (by simp) _) (by simp) _) (by simp) _) (by simp) _) (by simp) _) (by simp) _) (by simp) _) (by simp) _
end
end Go.Proofs.YtjglkglaogaenaaGreatDoor
