/- texts of mine, merged: T0, T2, T7, T3. -/
import Derived.Test.YtjglkglaogaenaaGreatDoorGAD
import Derived.Test.YtjglkglaogaenaaGreatDoorGO
/- What broken answers. -/
namespace Go.Proofs.YtjglkglaogaenaaGreatDoor
section
open Go.RowKit
def brkV (k l w t : Int) (n : List Int) : Value := .agg #[.bool (brkB k l w t n 0), .bool (brkB k l w t n 1), .bool (brkB k l w t n 2), .bool (brkB k l w t n 3), .bool (brkB k l w t n 4), .bool (brkB k l w t n 5), .bool (brkB k l w t n 6), .bool (brkB k l w t n 7)]
end
/- joint: broken at the kinds (written by gen_broken.py). -/
section
open Go.RowKit Go.Shelf
attribute [local go_sem] Ext.cell Ext.frozen
set_option linter.unusedVariables false in
set_option maxRecDepth 100000 in
set_option maxHeartbeats 8000000 in
theorem broken_7 (l w t : Int) (nv : Value) (n : List Int) (W : World) (hn : Ints W nv n) (hlen : 1 ≤ n.length) (hl : 1 ≤ l ∧ l ≤ 100000) (hw : 1 ≤ w ∧ w ≤ 100000) (ht : 1 ≤ t ∧ t ≤ 100000) (hb : ∀ i, i < n.length → -100000 ≤ n.getD i 0 ∧ n.getD i 0 ≤ 100000) :
    Calls Tryz.prog 87 #[vJ 7 l w t nv] W (Ret W (brkV 7 l w t n)) := by
  have HS : Hid (brkV 7 l w t n = .agg #[.bool (false), .bool (false), .bool (false), .bool (false), .bool (false), .bool (false), .bool (false), .bool (false)]) := Lib.hid (by simp [brkV, brkB])
  rw [HS.out]
  clear HS
  unfold vJ at *
  obtain ⟨b, off, c, rfl, hcc, zb, hi⟩ := hn.at' (by omega)
  generalize n.length = q at *
  clear hi hn hb hcc
  obtain ⟨V, HV⟩ : ∃ V, Hid ((W.alloc (.cells #[.int .i64 7, .int .i64 l, .int .i64 w, .int .i64 t, .slice (some ⟨b, off, none⟩) q c] 25)).alloc (.cells #[.bool false, .bool false, .bool false, .bool false, .bool false, .bool false, .bool false, .bool false] 120) = V) := ⟨_, Lib.hid rfl⟩
  have hV : Below W.heap.size W V := by rw [← HV.out]; (repeat (first | exact brf | assumption | refine ble ?_ | refine blx ?_ | refine bla ?_ | refine bls ?_ | refine bld ?_))
  have HJ : Hid (V.heap[W.heap.size]? = some (.cells #[.int .i64 7, .int .i64 l, .int .i64 w, .int .i64 t, .slice (some ⟨b, off, none⟩) q c] 25 (0, 0))) := Lib.hid (by rw [← HV.out]; exact (heap_old (by simp)).trans (heap_new rfl))
  have HR : Hid (V.heap[W.heap.size + 1]? = some (.cells #[.bool false, .bool false, .bool false, .bool false, .bool false, .bool false, .bool false, .bool false] 120 (0, 0))) := Lib.hid (by rw [← HV.out]; exact heap_new (by simp))
  obtain ⟨v0, v1, v2, v3, v4, _, zV⟩ := blk5 HJ.out
  have zR := blk_lt HR.out
  go_enter Tryz.func87, Tryz.ntmps87
  go_wp2
  rw [HV.out]
  refine wp_region_grow [0, 1, 2, 3, 4, 5, 6, 7, 8, 9, 10, 11] 12 [] (pick [IsV (.pointer (some ⟨W.heap.size, 1, none⟩)), IsV (.pointer (some ⟨W.heap.size, 1, none⟩)), IsV (.int .i64 l), IsV (.pointer (some ⟨W.heap.size, 1, none⟩)), IsV (.pointer (some ⟨W.heap.size, 2, none⟩)), IsV (.int .i64 w), IsV (.pointer (some ⟨W.heap.size, 1, none⟩)), IsV (.pointer (some ⟨W.heap.size, 3, none⟩)), IsV (.int .i64 t), IsBx V.heap.size 3 #[.int .i64 0], IsV (.int .i64 l), IsV (.int .i64 w)]) (by kernel_rfl) (by kernel_rfl) (Stabs.pick (by repeat (first | exact Stabs.nil | refine Stabs.cons (by first | exact stab_v _ | exact stab_l _ | exact stab_bx _ _ _ | exact stab_gd (by first | exact stab_v _ | exact stab_l _)) ?_))) ?_
  try go_frame
  refine wgs rfl rfl (by simp) (fun w' hb' hR K hK => ?_) (fun o0 => ?_)
  · clear hR
    have zz := Nat.lt_of_lt_of_le zV hb'.size
    go_simp
    exact hK _ _ (Below.refl _ _) rfl
  try go_frame
  refine wgs rfl rfl (by simp) (fun w' hb' hR K hK => ?_) (fun o1 => ?_)
  · obtain rfl : o0 = .pointer (some ⟨W.heap.size, 1, none⟩) := hR 0 (by kernel_rfl)
    clear hR
    have zz := Nat.lt_of_lt_of_le zV hb'.size
    go_simp
    exact hK _ _ (Below.refl _ _) rfl
  try go_frame
  refine wgs rfl rfl (by simp) (fun w' hb' hR K hK => ?_) (fun o2 => ?_)
  · obtain rfl : o1 = .pointer (some ⟨W.heap.size, 1, none⟩) := hR 1 (by kernel_rfl)
    clear hR
    have cc := below_cell hb' v1
    have zz := World.block_lt_of_cell? w' _ cc
    simp only at zz
    go_simp
    exact hK _ _ (Below.refl _ _) rfl
  try go_frame
  refine wgs rfl rfl (by simp) (fun w' hb' hR K hK => ?_) (fun o3 => ?_)
  · clear hR
    have zz := Nat.lt_of_lt_of_le zV hb'.size
    go_simp
    exact hK _ _ (Below.refl _ _) rfl
  try go_frame
  refine wgs rfl rfl (by simp) (fun w' hb' hR K hK => ?_) (fun o4 => ?_)
  · obtain rfl : o3 = .pointer (some ⟨W.heap.size, 1, none⟩) := hR 3 (by kernel_rfl)
    clear hR
    have zz := Nat.lt_of_lt_of_le zV hb'.size
    go_simp
    exact hK _ _ (Below.refl _ _) rfl
  try go_frame
  refine wgs rfl rfl (by simp) (fun w' hb' hR K hK => ?_) (fun o5 => ?_)
  · obtain rfl : o4 = .pointer (some ⟨W.heap.size, 2, none⟩) := hR 4 (by kernel_rfl)
    clear hR
    have cc := below_cell hb' v2
    have zz := World.block_lt_of_cell? w' _ cc
    simp only at zz
    go_simp
    exact hK _ _ (Below.refl _ _) rfl
  try go_frame
  refine wgs rfl rfl (by simp) (fun w' hb' hR K hK => ?_) (fun o6 => ?_)
  · clear hR
    have zz := Nat.lt_of_lt_of_le zV hb'.size
    go_simp
    exact hK _ _ (Below.refl _ _) rfl
  try go_frame
  refine wgs rfl rfl (by simp) (fun w' hb' hR K hK => ?_) (fun o7 => ?_)
  · obtain rfl : o6 = .pointer (some ⟨W.heap.size, 1, none⟩) := hR 6 (by kernel_rfl)
    clear hR
    have zz := Nat.lt_of_lt_of_le zV hb'.size
    go_simp
    exact hK _ _ (Below.refl _ _) rfl
  try go_frame
  refine wgs rfl rfl (by simp) (fun w' hb' hR K hK => ?_) (fun o8 => ?_)
  · obtain rfl : o7 = .pointer (some ⟨W.heap.size, 3, none⟩) := hR 7 (by kernel_rfl)
    clear hR
    have cc := below_cell hb' v3
    have zz := World.block_lt_of_cell? w' _ cc
    simp only at zz
    go_simp
    exact hK _ _ (Below.refl _ _) rfl
  try go_frame
  refine wgs rfl rfl (by simp) (fun w' hb' hR K hK => ?_) (fun o9 => ?_)
  · clear hR
    have zz := hb'.size
    go_simp
    exact hK _ _ (by (repeat (first | exact brf | assumption | refine ble ?_ | refine blx ?_ | refine bla ?_ | refine bls ?_ | refine bld ?_))) ⟨_, rfl, zz, heap_new rfl⟩
  try go_frame
  refine wgs rfl rfl (by simp) (fun w' hb' hR K hK => ?_) (fun o10 => ?_)
  · obtain rfl : o2 = .int .i64 l := hR 2 (by kernel_rfl)
    clear hR
    go_simp
    exact hK _ _ (Below.refl _ _) rfl
  try go_frame
  refine wgs rfl rfl (by simp) (fun w' hb' hR K hK => ?_) (fun o11 => ?_)
  · obtain rfl : o5 = .int .i64 w := hR 5 (by kernel_rfl)
    clear hR
    go_simp
    exact hK _ _ (Below.refl _ _) rfl
  try go_frame
  refine wpG_nil (fun w' hb' hR => ?_)
  obtain rfl : o8 = _ := hR 8 (by simp)
  obtain rfl : o10 = _ := hR 10 (by simp)
  obtain rfl : o11 = _ := hR 11 (by simp)
  obtain ⟨gb, rfl, hgb, hGB⟩ : IsBx V.heap.size 3 #[.int .i64 0] o9 w' := hR 9 (by simp)
  clear hR
  have HGB := Lib.hid hGB
  clear hGB
  have e0 := (blk_cell HGB.out 0).trans rfl
  have f0 := blk_free HGB.out 0
  have zg := blk_lt HGB.out
  simp only [List.getElem?_toArray, List.getElem?_cons_zero] at e0
  simp only [opsAt, List.filterMap_cons, List.filterMap_nil, List.getElem?_toArray, List.getElem?_cons_zero, List.getElem?_cons_succ]
  go_wp2
  refine NoPanic.normal ?_
  obtain ⟨w2, Hw2⟩ : ∃ w2, Hid (w'.setCell ⟨gb, 0, none⟩ (.int .i64 t) = w2) := ⟨_, Lib.hid rfl⟩
  have hb2 : Below V.heap.size V w2 := by rw [← Hw2.out]; exact hb'.setCell hgb _
  have HT2 : Hid (w2.heap[gb]? = some (.cells #[.int .i64 t] 3 (0, 0))) := Lib.hid (by rw [← Hw2.out]; exact blk_set HGB.out 0 _)
  rw [Hw2.out]
  clear e0 f0 zg HGB Hw2 hb'
  have HJ2 := Lib.hid ((hb2.block _ zV).trans HJ.out)
  obtain ⟨j0, j1, j2, j3, j4, _, zj2⟩ := blk5 HJ2.out
  have hbW : Below W.heap.size W w2 := below_trans hV hb2
  have HR2 := Lib.hid ((hb2.block _ zR).trans HR.out)
  obtain ⟨qq0, qq1, qq2, qq3, qq4, qq5, qq6, qq7, fqq, zqq⟩ := blk8 HR2.out
  go_wp2
  have HF := Lib.hid ((heap_old (o := .cells #[.bool false, .bool false, .bool false, .bool false, .bool false, .bool false, .bool false, .bool false] 120) (by simp; omega)).trans (blk_set (blk_set (blk_set (blk_set (blk_set (blk_set (blk_set (blk_set HR2.out 0 (.bool false)) 1 (.bool false)) 2 (.bool false)) 3 (.bool false)) 4 (.bool false)) 5 (.bool false)) 6 (.bool false)) 7 (.bool false)))
  have r0 := (blk_cell HF.out 0).trans rfl
  have r1 := (blk_cell HF.out 1).trans rfl
  have r2 := (blk_cell HF.out 2).trans rfl
  have r3 := (blk_cell HF.out 3).trans rfl
  have r4 := (blk_cell HF.out 4).trans rfl
  have r5 := (blk_cell HF.out 5).trans rfl
  have r6 := (blk_cell HF.out 6).trans rfl
  have r7 := (blk_cell HF.out 7).trans rfl
  simp at r0 r1 r2 r3 r4 r5 r6 r7
  refine bodyPost_ret (v := .agg #[.bool false, .bool false, .bool false, .bool false, .bool false, .bool false, .bool false, .bool false]) (by simp [results, Tryz.results87, go_sem, r0, r1, r2, r3, r4, r5, r6, r7]) rfl ⟨rfl, ?_⟩
  exact Below.alloc (Below.setCell (Below.setCell (Below.setCell (Below.setCell (Below.setCell (Below.setCell (Below.setCell (Below.setCell hbW (by simp) _) (by simp) _) (by simp) _) (by simp) _) (by simp) _) (by simp) _) (by simp) _) (by simp) _) (by have := hbW.size; simp; omega) _
end
/- joint: broken at the kinds (written by gen_broken.py). -/
section
open Go.RowKit Go.Shelf
attribute [local go_sem] Ext.cell Ext.frozen
set_option linter.unusedVariables false in
set_option maxRecDepth 100000 in
set_option maxHeartbeats 8000000 in
theorem broken_5 (l w t : Int) (nv : Value) (n : List Int) (W : World) (hn : Ints W nv n) (h3 : 3 ≤ n.length) (h24 : n.length ≤ 24) (hl : 1 ≤ l ∧ l ≤ 100000) (hw : 1 ≤ w ∧ w ≤ 100000) (ht : 1 ≤ t ∧ t ≤ 100000) (hb : ∀ i, i < n.length → -100000 ≤ n.getD i 0 ∧ n.getD i 0 ≤ 100000) (hs : 1 ≤ n.getD 0 0 ∧ n.getD 0 0 ≤ 8) :
    Calls Tryz.prog 87 #[vJ 5 l w t nv] W (Ret W (brkV 5 l w t n)) := by
  have HS : Hid (brkV 5 l w t n = .agg #[.bool (false), .bool (false), .bool (false), .bool (false), .bool (decide (n.getD 0 0 < 6)), .bool (narrowB l w t n), .bool (false), .bool (false)]) := Lib.hid (by simp [brkV, brkB])
  rw [HS.out]
  clear HS
  have HN := Lib.hid hn
  unfold vJ at *
  obtain ⟨b, off, c, rfl, hcc, zb, hi⟩ := hn.at' (by omega)
  have n0 := hi 0 (by omega)
  rw [Nat.add_zero] at n0
  have b0 := hb 0 (by omega)
  have hP := fun W' h => Lib.hid (pins_any l w t _ n W' (HN.out.below (w' := W') h) h3 h24 hl hw hs hb)
  have HPb := Lib.hid (pins_bd h3 hl hw hs hb)
  have HPl : Hid ((pinsL l w n).length ≤ 1000) := Lib.hid (by unfold pinsL; rw [List.length_append, pinsTo_len]; simp; omega)
  unfold vJ at hP
  have Hnr : Hid (narrowB l w t n = (pinsL l w n).any (narB t)) := Lib.hid rfl
  rw [Hnr.out]
  generalize pinsL l w n = ps at *
  obtain ⟨nr, Hnn⟩ : ∃ nr, Hid (ps.any (narB t) = nr) := ⟨_, Lib.hid rfl⟩
  rw [Hnn.out]
  generalize n.length = q at *
  have q0 : (0 : Int) < (q : Int) := by omega
  generalize n.getD 0 0 = x0 at *
  clear hi hn hb hcc
  obtain ⟨V, HV⟩ : ∃ V, Hid ((W.alloc (.cells #[.int .i64 5, .int .i64 l, .int .i64 w, .int .i64 t, .slice (some ⟨b, off, none⟩) q c] 25)).alloc (.cells #[.bool false, .bool false, .bool false, .bool false, .bool false, .bool false, .bool false, .bool false] 120) = V) := ⟨_, Lib.hid rfl⟩
  have hV : Below W.heap.size W V := by rw [← HV.out]; (repeat (first | exact brf | assumption | refine ble ?_ | refine blx ?_ | refine bla ?_ | refine bls ?_ | refine bld ?_))
  have HJ : Hid (V.heap[W.heap.size]? = some (.cells #[.int .i64 5, .int .i64 l, .int .i64 w, .int .i64 t, .slice (some ⟨b, off, none⟩) q c] 25 (0, 0))) := Lib.hid (by rw [← HV.out]; exact (heap_old (by simp)).trans (heap_new rfl))
  have HR : Hid (V.heap[W.heap.size + 1]? = some (.cells #[.bool false, .bool false, .bool false, .bool false, .bool false, .bool false, .bool false, .bool false] 120 (0, 0))) := Lib.hid (by rw [← HV.out]; exact heap_new (by simp))
  obtain ⟨v0, v1, v2, v3, v4, _, zV⟩ := blk5 HJ.out
  have zR := blk_lt HR.out
  go_enter Tryz.func87, Tryz.ntmps87
  go_wp2
  rw [HV.out]
  refine wp_region_grow [0, 1, 2, 3, 4, 5, 6, 7, 8, 9, 10, 11] 12 [] (pick [IsV (.pointer (some ⟨W.heap.size, 1, none⟩)), IsV (.pointer (some ⟨W.heap.size, 1, none⟩)), IsV (.int .i64 l), IsV (.pointer (some ⟨W.heap.size, 1, none⟩)), IsV (.pointer (some ⟨W.heap.size, 2, none⟩)), IsV (.int .i64 w), IsV (.pointer (some ⟨W.heap.size, 1, none⟩)), IsV (.pointer (some ⟨W.heap.size, 3, none⟩)), IsV (.int .i64 t), IsBx V.heap.size 3 #[.int .i64 0], IsV (.int .i64 l), IsV (.int .i64 w)]) (by kernel_rfl) (by kernel_rfl) (Stabs.pick (by repeat (first | exact Stabs.nil | refine Stabs.cons (by first | exact stab_v _ | exact stab_l _ | exact stab_bx _ _ _ | exact stab_gd (by first | exact stab_v _ | exact stab_l _)) ?_))) ?_
  try go_frame
  refine wgs rfl rfl (by simp) (fun w' hb' hR K hK => ?_) (fun o0 => ?_)
  · clear hR
    have zz := Nat.lt_of_lt_of_le zV hb'.size
    go_simp
    exact hK _ _ (Below.refl _ _) rfl
  try go_frame
  refine wgs rfl rfl (by simp) (fun w' hb' hR K hK => ?_) (fun o1 => ?_)
  · obtain rfl : o0 = .pointer (some ⟨W.heap.size, 1, none⟩) := hR 0 (by kernel_rfl)
    clear hR
    have zz := Nat.lt_of_lt_of_le zV hb'.size
    go_simp
    exact hK _ _ (Below.refl _ _) rfl
  try go_frame
  refine wgs rfl rfl (by simp) (fun w' hb' hR K hK => ?_) (fun o2 => ?_)
  · obtain rfl : o1 = .pointer (some ⟨W.heap.size, 1, none⟩) := hR 1 (by kernel_rfl)
    clear hR
    have cc := below_cell hb' v1
    have zz := World.block_lt_of_cell? w' _ cc
    simp only at zz
    go_simp
    exact hK _ _ (Below.refl _ _) rfl
  try go_frame
  refine wgs rfl rfl (by simp) (fun w' hb' hR K hK => ?_) (fun o3 => ?_)
  · clear hR
    have zz := Nat.lt_of_lt_of_le zV hb'.size
    go_simp
    exact hK _ _ (Below.refl _ _) rfl
  try go_frame
  refine wgs rfl rfl (by simp) (fun w' hb' hR K hK => ?_) (fun o4 => ?_)
  · obtain rfl : o3 = .pointer (some ⟨W.heap.size, 1, none⟩) := hR 3 (by kernel_rfl)
    clear hR
    have zz := Nat.lt_of_lt_of_le zV hb'.size
    go_simp
    exact hK _ _ (Below.refl _ _) rfl
  try go_frame
  refine wgs rfl rfl (by simp) (fun w' hb' hR K hK => ?_) (fun o5 => ?_)
  · obtain rfl : o4 = .pointer (some ⟨W.heap.size, 2, none⟩) := hR 4 (by kernel_rfl)
    clear hR
    have cc := below_cell hb' v2
    have zz := World.block_lt_of_cell? w' _ cc
    simp only at zz
    go_simp
    exact hK _ _ (Below.refl _ _) rfl
  try go_frame
  refine wgs rfl rfl (by simp) (fun w' hb' hR K hK => ?_) (fun o6 => ?_)
  · clear hR
    have zz := Nat.lt_of_lt_of_le zV hb'.size
    go_simp
    exact hK _ _ (Below.refl _ _) rfl
  try go_frame
  refine wgs rfl rfl (by simp) (fun w' hb' hR K hK => ?_) (fun o7 => ?_)
  · obtain rfl : o6 = .pointer (some ⟨W.heap.size, 1, none⟩) := hR 6 (by kernel_rfl)
    clear hR
    have zz := Nat.lt_of_lt_of_le zV hb'.size
    go_simp
    exact hK _ _ (Below.refl _ _) rfl
  try go_frame
  refine wgs rfl rfl (by simp) (fun w' hb' hR K hK => ?_) (fun o8 => ?_)
  · obtain rfl : o7 = .pointer (some ⟨W.heap.size, 3, none⟩) := hR 7 (by kernel_rfl)
    clear hR
    have cc := below_cell hb' v3
    have zz := World.block_lt_of_cell? w' _ cc
    simp only at zz
    go_simp
    exact hK _ _ (Below.refl _ _) rfl
  try go_frame
  refine wgs rfl rfl (by simp) (fun w' hb' hR K hK => ?_) (fun o9 => ?_)
  · clear hR
    have zz := hb'.size
    go_simp
    exact hK _ _ (by (repeat (first | exact brf | assumption | refine ble ?_ | refine blx ?_ | refine bla ?_ | refine bls ?_ | refine bld ?_))) ⟨_, rfl, zz, heap_new rfl⟩
  try go_frame
  refine wgs rfl rfl (by simp) (fun w' hb' hR K hK => ?_) (fun o10 => ?_)
  · obtain rfl : o2 = .int .i64 l := hR 2 (by kernel_rfl)
    clear hR
    go_simp
    exact hK _ _ (Below.refl _ _) rfl
  try go_frame
  refine wgs rfl rfl (by simp) (fun w' hb' hR K hK => ?_) (fun o11 => ?_)
  · obtain rfl : o5 = .int .i64 w := hR 5 (by kernel_rfl)
    clear hR
    go_simp
    exact hK _ _ (Below.refl _ _) rfl
  try go_frame
  refine wpG_nil (fun w' hb' hR => ?_)
  obtain rfl : o8 = _ := hR 8 (by simp)
  obtain rfl : o10 = _ := hR 10 (by simp)
  obtain rfl : o11 = _ := hR 11 (by simp)
  obtain ⟨gb, rfl, hgb, hGB⟩ : IsBx V.heap.size 3 #[.int .i64 0] o9 w' := hR 9 (by simp)
  clear hR
  have HGB := Lib.hid hGB
  clear hGB
  have e0 := (blk_cell HGB.out 0).trans rfl
  have f0 := blk_free HGB.out 0
  have zg := blk_lt HGB.out
  simp only [List.getElem?_toArray, List.getElem?_cons_zero] at e0
  simp only [opsAt, List.filterMap_cons, List.filterMap_nil, List.getElem?_toArray, List.getElem?_cons_zero, List.getElem?_cons_succ]
  go_wp2
  refine NoPanic.normal ?_
  obtain ⟨w2, Hw2⟩ : ∃ w2, Hid (w'.setCell ⟨gb, 0, none⟩ (.int .i64 t) = w2) := ⟨_, Lib.hid rfl⟩
  have hb2 : Below V.heap.size V w2 := by rw [← Hw2.out]; exact hb'.setCell hgb _
  have HT2 : Hid (w2.heap[gb]? = some (.cells #[.int .i64 t] 3 (0, 0))) := Lib.hid (by rw [← Hw2.out]; exact blk_set HGB.out 0 _)
  rw [Hw2.out]
  clear e0 f0 zg HGB Hw2 hb'
  have HJ2 := Lib.hid ((hb2.block _ zV).trans HJ.out)
  obtain ⟨j0, j1, j2, j3, j4, _, zj2⟩ := blk5 HJ2.out
  obtain ⟨X, HXX⟩ : ∃ X, Hid (w2.alloc (.cells #[.bool false, .bool false, .bool false, .bool false, .bool (decide (x0 < 6)), .bool false, .bool false, .bool false] 120) = X) := ⟨_, Lib.hid rfl⟩
  obtain ⟨gx, Hgx⟩ : ∃ gx, Hid (w2.heap.size = gx) := ⟨_, Lib.hid rfl⟩
  have hbX : Below V.heap.size V X := by rw [← HXX.out]; exact hb2.alloc hb2.size _
  have HT : Hid (X.heap[gb]? = some (.cells #[.int .i64 t] 3 (0, 0))) := Lib.hid (by rw [← HXX.out]; exact (heap_old (blk_lt HT2.out)).trans HT2.out)
  have HX0 : Hid (X.heap[gx]? = some (.cells #[.bool false, .bool false, .bool false, .bool false, .bool (decide (x0 < 6)), .bool false, .bool false, .bool false] 120 (0, 0))) := Lib.hid (by rw [← HXX.out, ← Hgx.out]; exact heap_new rfl)
  have hgx : V.heap.size ≤ gx ∧ gx ≠ gb := ⟨by rw [← Hgx.out]; exact hb2.size, by have := blk_lt HT2.out; have := Hgx.out; omega⟩
  have m0 := below_cell (below_trans hV hb2) n0
  have zb2 := Nat.lt_of_lt_of_le zb (below_trans hV hb2).size
  go_wp2_with fail
  rw [HXX.out, Hgx.out]
  clear m0 zb2
  have zxx : w2.heap.size < X.heap.size := by rw [← HXX.out]; simp
  clear HJ2 j0 j1 j2 j3 j4 zj2 HT2 Hgx HXX v0 v1 v2 v3 v4
  have hbW : Below W.heap.size W X := below_trans hV hbX
  have n0' := n0
  have n0 := below_cell hbW n0
  have et := (blk_cell HT.out 0).trans rfl
  simp only [List.getElem?_toArray, List.getElem?_cons_zero] at et
  have zt := blk_lt HT.out
  have zx := blk_lt HX0.out
  have zbX := Nat.lt_of_lt_of_le zb hbW.size
  clear n0
  have n0 := below_cell hbW n0'
  refine ((hP _ hbW).out).mono ?_
  rintro e w3 ⟨r, rfl, hb3, hI, hok⟩
  have HXn := Lib.hid ((hb3.block _ zx).trans HX0.out)
  have HTn := Lib.hid ((hb3.block _ zt).trans HT.out)
  have hbXn : Below V.heap.size V w3 := below_trans hbX hb3
  clear HX0 HT hbX hbW zx zt zbX et n0
  have hbX := hbXn
  have HT := HTn
  have HX0 := HXn
  clear hbXn HTn HXn
  have hbW : Below W.heap.size W w3 := below_trans hV hbX
  have et := (blk_cell HT.out 0).trans rfl
  simp only [List.getElem?_toArray, List.getElem?_cons_zero] at et
  have zt := blk_lt HT.out
  have zx := blk_lt HX0.out
  have zbX := Nat.lt_of_lt_of_le zb hbW.size
  have n0 := below_cell hbW n0'
  obtain ⟨ra, rm, rc, rfl⟩ : ∃ a m c, r = .slice a m c := by obtain ⟨a, m, c, h, _⟩ := hI; exact ⟨a, m, c, h⟩
  have hcon := Lib.hid (containsFunc_int _ ps (narB t) _ #[.pointer (some ⟨gb, 0, none⟩)] w3 hI (by have := HPl.out; omega) eg_nar1 (fun x hx w' hb' => nar_closure x t gb w' (below_cell hb' et) (HPb.out x hx)))
  rw [Hnn.out] at hcon
  clear hI hok
  go_wp2_with fail
  refine hcon.out.mono ?_
  rintro e w4 ⟨rfl, hb4⟩
  have HXn := Lib.hid ((hb4.block _ zx).trans HX0.out)
  have HTn := Lib.hid ((hb4.block _ zt).trans HT.out)
  have hbXn : Below V.heap.size V w4 := below_trans hbX hb4
  clear HX0 HT hbX hbW zx zt zbX et n0
  have hbX := hbXn
  have HT := HTn
  have HX0 := HXn
  clear hbXn HTn HXn
  have hbW : Below W.heap.size W w4 := below_trans hV hbX
  have et := (blk_cell HT.out 0).trans rfl
  simp only [List.getElem?_toArray, List.getElem?_cons_zero] at et
  have zt := blk_lt HT.out
  have zx := blk_lt HX0.out
  have zbX := Nat.lt_of_lt_of_le zb hbW.size
  have n0 := below_cell hbW n0'
  have HRX := Lib.hid ((hbX.block _ zR).trans HR.out)
  obtain ⟨rr0, rr1, rr2, rr3, rr4, rr5, rr6, rr7, frr, zr⟩ := blk8 HRX.out
  obtain ⟨g0, g1, g2, g3, g4, g5, g6, g7, fgx, _⟩ := blk8 HX0.out
  have zgx : W.heap.size ≤ gx := Nat.le_trans hV.size hgx.1
  go_wp2
  refine bodyPost_ret (v := .agg #[.bool false, .bool false, .bool false, .bool false, .bool (decide (x0 < 6)), .bool (nr), .bool false, .bool false]) (by simp [results, Tryz.results87, go_sem, rr0, rr1, rr2, rr3, rr4, rr5, rr6, rr7]) rfl ⟨rfl, ?_⟩
  exact Below.setCell (Below.setCell (Below.setCell (Below.setCell (Below.setCell (Below.setCell (Below.setCell (Below.setCell (Below.setCell hbW zgx _) (by simp) _) (by simp) _) (by simp) _) (by simp) _) (by simp) _) (by simp) _) (by simp) _) (by simp) _
end
/- joint: broken at the kinds (written by gen_broken.py). -/
section
open Go.RowKit Go.Shelf
attribute [local go_sem] Ext.cell Ext.frozen
set_option linter.unusedVariables false in
set_option maxRecDepth 100000 in
set_option maxHeartbeats 8000000 in
theorem broken_6 (l w t : Int) (nv : Value) (n : List Int) (W : World) (hn : Ints W nv n) (hlen : n.length = 3) (hl : 1 ≤ l ∧ l ≤ 100000) (hw : 1 ≤ w ∧ w ≤ 100000) (ht : 1 ≤ t ∧ t ≤ 100000) (hb : ∀ i, i < n.length → -100000 ≤ n.getD i 0 ∧ n.getD i 0 ≤ 100000) (hs1 : 1 ≤ n.getD 1 0 ∧ n.getD 1 0 ≤ 8) (hs2 : -8 ≤ n.getD 2 0 ∧ n.getD 2 0 ≤ 8) :
    Calls Tryz.prog 87 #[vJ 6 l w t nv] W (Ret W (brkV 6 l w t n)) := by
  have HS : Hid (brkV 6 l w t n = .agg #[.bool (false), .bool (false), .bool (false), .bool (false), .bool (false), .bool (false), .bool (decide (runN t n < 6 * t)), .bool (false)]) := Lib.hid (by simp [brkV, brkB])
  rw [HS.out]
  clear HS
  unfold vJ at *
  obtain ⟨b, off, c, rfl, hcc, zb, hi⟩ := hn.at' (by omega)
  have n1 := hi 1 (by omega)
  have n2 := hi 2 (by omega)
  have b1 := hb 1 (by omega)
  have b2 := hb 2 (by omega)
  have hz : runN t n = (((n.getD 2 0 * t).tdiv (n.getD 1 0)).natAbs : Int) := rfl
  rw [hz, hlen]
  generalize n.getD 1 0 = x1 at *
  generalize n.getD 2 0 = x2 at *
  clear hi hn hb hcc
  have p1 := mul_bd (a := x2) (x := t) (A := 8) (X := 100000) (by omega) (by omega) (by omega) (by omega)
  obtain ⟨m1, Hm1⟩ : ∃ m1, Hid (x2 * t = m1) := ⟨_, Lib.hid rfl⟩
  rw [Hm1.out] at p1
  have w1 : wrap64 (x2 * t) = m1 := by rw [Hm1.out]; unfold wrap64; omega
  have v1 : IntKind.i64.wrap (x2 * t) = m1 := (IntWalk.i64_in _ (by rw [Hm1.out]; omega)).trans Hm1.out
  -- a is m1
  have w2 : wrap64 (6 * t) = 6 * t := by unfold wrap64; omega
  have v2 : IntKind.i64.wrap (6 * t) = 6 * t := IntWalk.i64_in _ (by omega)
  -- b is 6 * t
  rw [Hm1.out]
  have bd := tdiv_bd' m1 x1 800000 (by omega)
  have hx0 : ¬ x1 = 0 := by omega
  have hx0' : (x1 == 0) = false := by simp; omega
  have vq : IntKind.i64.wrap (m1.tdiv x1) = m1.tdiv x1 := IntWalk.i64_in _ (by omega)
  have hS := fun W' => Lib.hid (size_any (m1.tdiv x1) W' (by omega))
  obtain ⟨z, Hz⟩ : ∃ z, Hid (((m1.tdiv x1).natAbs : Int) = z) := ⟨_, Lib.hid rfl⟩
  rw [Hz.out] at hS ⊢
  obtain ⟨V, HV⟩ : ∃ V, Hid ((W.alloc (.cells #[.int .i64 6, .int .i64 l, .int .i64 w, .int .i64 t, .slice (some ⟨b, off, none⟩) 3 c] 25)).alloc (.cells #[.bool false, .bool false, .bool false, .bool false, .bool false, .bool false, .bool false, .bool false] 120) = V) := ⟨_, Lib.hid rfl⟩
  have hV : Below W.heap.size W V := by rw [← HV.out]; (repeat (first | exact brf | assumption | refine ble ?_ | refine blx ?_ | refine bla ?_ | refine bls ?_ | refine bld ?_))
  have HJ : Hid (V.heap[W.heap.size]? = some (.cells #[.int .i64 6, .int .i64 l, .int .i64 w, .int .i64 t, .slice (some ⟨b, off, none⟩) 3 c] 25 (0, 0))) := Lib.hid (by rw [← HV.out]; exact (heap_old (by simp)).trans (heap_new rfl))
  have HR : Hid (V.heap[W.heap.size + 1]? = some (.cells #[.bool false, .bool false, .bool false, .bool false, .bool false, .bool false, .bool false, .bool false] 120 (0, 0))) := Lib.hid (by rw [← HV.out]; exact heap_new (by simp))
  obtain ⟨v0, v1, v2, v3, v4, _, zV⟩ := blk5 HJ.out
  have zR := blk_lt HR.out
  go_enter Tryz.func87, Tryz.ntmps87
  go_wp2
  rw [HV.out]
  refine wp_region_grow [0, 1, 2, 3, 4, 5, 6, 7, 8, 9, 10, 11] 12 [] (pick [IsV (.pointer (some ⟨W.heap.size, 1, none⟩)), IsV (.pointer (some ⟨W.heap.size, 1, none⟩)), IsV (.int .i64 l), IsV (.pointer (some ⟨W.heap.size, 1, none⟩)), IsV (.pointer (some ⟨W.heap.size, 2, none⟩)), IsV (.int .i64 w), IsV (.pointer (some ⟨W.heap.size, 1, none⟩)), IsV (.pointer (some ⟨W.heap.size, 3, none⟩)), IsV (.int .i64 t), IsBx V.heap.size 3 #[.int .i64 0], IsV (.int .i64 l), IsV (.int .i64 w)]) (by kernel_rfl) (by kernel_rfl) (Stabs.pick (by repeat (first | exact Stabs.nil | refine Stabs.cons (by first | exact stab_v _ | exact stab_l _ | exact stab_bx _ _ _ | exact stab_gd (by first | exact stab_v _ | exact stab_l _)) ?_))) ?_
  try go_frame
  refine wgs rfl rfl (by simp) (fun w' hb' hR K hK => ?_) (fun o0 => ?_)
  · clear hR
    have zz := Nat.lt_of_lt_of_le zV hb'.size
    go_simp
    exact hK _ _ (Below.refl _ _) rfl
  try go_frame
  refine wgs rfl rfl (by simp) (fun w' hb' hR K hK => ?_) (fun o1 => ?_)
  · obtain rfl : o0 = .pointer (some ⟨W.heap.size, 1, none⟩) := hR 0 (by kernel_rfl)
    clear hR
    have zz := Nat.lt_of_lt_of_le zV hb'.size
    go_simp
    exact hK _ _ (Below.refl _ _) rfl
  try go_frame
  refine wgs rfl rfl (by simp) (fun w' hb' hR K hK => ?_) (fun o2 => ?_)
  · obtain rfl : o1 = .pointer (some ⟨W.heap.size, 1, none⟩) := hR 1 (by kernel_rfl)
    clear hR
    have cc := below_cell hb' v1
    have zz := World.block_lt_of_cell? w' _ cc
    simp only at zz
    go_simp
    exact hK _ _ (Below.refl _ _) rfl
  try go_frame
  refine wgs rfl rfl (by simp) (fun w' hb' hR K hK => ?_) (fun o3 => ?_)
  · clear hR
    have zz := Nat.lt_of_lt_of_le zV hb'.size
    go_simp
    exact hK _ _ (Below.refl _ _) rfl
  try go_frame
  refine wgs rfl rfl (by simp) (fun w' hb' hR K hK => ?_) (fun o4 => ?_)
  · obtain rfl : o3 = .pointer (some ⟨W.heap.size, 1, none⟩) := hR 3 (by kernel_rfl)
    clear hR
    have zz := Nat.lt_of_lt_of_le zV hb'.size
    go_simp
    exact hK _ _ (Below.refl _ _) rfl
  try go_frame
  refine wgs rfl rfl (by simp) (fun w' hb' hR K hK => ?_) (fun o5 => ?_)
  · obtain rfl : o4 = .pointer (some ⟨W.heap.size, 2, none⟩) := hR 4 (by kernel_rfl)
    clear hR
    have cc := below_cell hb' v2
    have zz := World.block_lt_of_cell? w' _ cc
    simp only at zz
    go_simp
    exact hK _ _ (Below.refl _ _) rfl
  try go_frame
  refine wgs rfl rfl (by simp) (fun w' hb' hR K hK => ?_) (fun o6 => ?_)
  · clear hR
    have zz := Nat.lt_of_lt_of_le zV hb'.size
    go_simp
    exact hK _ _ (Below.refl _ _) rfl
  try go_frame
  refine wgs rfl rfl (by simp) (fun w' hb' hR K hK => ?_) (fun o7 => ?_)
  · obtain rfl : o6 = .pointer (some ⟨W.heap.size, 1, none⟩) := hR 6 (by kernel_rfl)
    clear hR
    have zz := Nat.lt_of_lt_of_le zV hb'.size
    go_simp
    exact hK _ _ (Below.refl _ _) rfl
  try go_frame
  refine wgs rfl rfl (by simp) (fun w' hb' hR K hK => ?_) (fun o8 => ?_)
  · obtain rfl : o7 = .pointer (some ⟨W.heap.size, 3, none⟩) := hR 7 (by kernel_rfl)
    clear hR
    have cc := below_cell hb' v3
    have zz := World.block_lt_of_cell? w' _ cc
    simp only at zz
    go_simp
    exact hK _ _ (Below.refl _ _) rfl
  try go_frame
  refine wgs rfl rfl (by simp) (fun w' hb' hR K hK => ?_) (fun o9 => ?_)
  · clear hR
    have zz := hb'.size
    go_simp
    exact hK _ _ (by (repeat (first | exact brf | assumption | refine ble ?_ | refine blx ?_ | refine bla ?_ | refine bls ?_ | refine bld ?_))) ⟨_, rfl, zz, heap_new rfl⟩
  try go_frame
  refine wgs rfl rfl (by simp) (fun w' hb' hR K hK => ?_) (fun o10 => ?_)
  · obtain rfl : o2 = .int .i64 l := hR 2 (by kernel_rfl)
    clear hR
    go_simp
    exact hK _ _ (Below.refl _ _) rfl
  try go_frame
  refine wgs rfl rfl (by simp) (fun w' hb' hR K hK => ?_) (fun o11 => ?_)
  · obtain rfl : o5 = .int .i64 w := hR 5 (by kernel_rfl)
    clear hR
    go_simp
    exact hK _ _ (Below.refl _ _) rfl
  try go_frame
  refine wpG_nil (fun w' hb' hR => ?_)
  obtain rfl : o8 = _ := hR 8 (by simp)
  obtain rfl : o10 = _ := hR 10 (by simp)
  obtain rfl : o11 = _ := hR 11 (by simp)
  obtain ⟨gb, rfl, hgb, hGB⟩ : IsBx V.heap.size 3 #[.int .i64 0] o9 w' := hR 9 (by simp)
  clear hR
  have HGB := Lib.hid hGB
  clear hGB
  have e0 := (blk_cell HGB.out 0).trans rfl
  have f0 := blk_free HGB.out 0
  have zg := blk_lt HGB.out
  simp only [List.getElem?_toArray, List.getElem?_cons_zero] at e0
  simp only [opsAt, List.filterMap_cons, List.filterMap_nil, List.getElem?_toArray, List.getElem?_cons_zero, List.getElem?_cons_succ]
  go_wp2
  refine NoPanic.normal ?_
  obtain ⟨w2, Hw2⟩ : ∃ w2, Hid (w'.setCell ⟨gb, 0, none⟩ (.int .i64 t) = w2) := ⟨_, Lib.hid rfl⟩
  have hb2 : Below V.heap.size V w2 := by rw [← Hw2.out]; exact hb'.setCell hgb _
  have HT2 : Hid (w2.heap[gb]? = some (.cells #[.int .i64 t] 3 (0, 0))) := Lib.hid (by rw [← Hw2.out]; exact blk_set HGB.out 0 _)
  rw [Hw2.out]
  clear e0 f0 zg HGB Hw2 hb'
  have HJ2 := Lib.hid ((hb2.block _ zV).trans HJ.out)
  obtain ⟨j0, j1, j2, j3, j4, _, zj2⟩ := blk5 HJ2.out
  obtain ⟨X, HXX⟩ : ∃ X, Hid (w2.alloc (.cells #[.bool false, .bool false, .bool false, .bool false, .bool false, .bool false, .bool false, .bool false] 120) = X) := ⟨_, Lib.hid rfl⟩
  obtain ⟨gx, Hgx⟩ : ∃ gx, Hid (w2.heap.size = gx) := ⟨_, Lib.hid rfl⟩
  have hbX : Below V.heap.size V X := by rw [← HXX.out]; exact hb2.alloc hb2.size _
  have HT : Hid (X.heap[gb]? = some (.cells #[.int .i64 t] 3 (0, 0))) := Lib.hid (by rw [← HXX.out]; exact (heap_old (blk_lt HT2.out)).trans HT2.out)
  have HX0 : Hid (X.heap[gx]? = some (.cells #[.bool false, .bool false, .bool false, .bool false, .bool false, .bool false, .bool false, .bool false] 120 (0, 0))) := Lib.hid (by rw [← HXX.out, ← Hgx.out]; exact heap_new rfl)
  have hgx : V.heap.size ≤ gx ∧ gx ≠ gb := ⟨by rw [← Hgx.out]; exact hb2.size, by have := blk_lt HT2.out; have := Hgx.out; omega⟩
  go_wp2
  rw [HXX.out, Hgx.out]
  have zxx : w2.heap.size < X.heap.size := by rw [← HXX.out]; simp
  clear HJ2 j0 j1 j2 j3 j4 zj2 HT2 Hgx HXX v0 v1 v2 v3 v4
  have hbW : Below W.heap.size W X := below_trans hV hbX
  have n1' := n1
  have n2' := n2
  have n1 := below_cell hbW n1
  have n2 := below_cell hbW n2
  have et := (blk_cell HT.out 0).trans rfl
  simp only [List.getElem?_toArray, List.getElem?_cons_zero] at et
  have zt := blk_lt HT.out
  have zx := blk_lt HX0.out
  have zbX := Nat.lt_of_lt_of_le zb hbW.size
  refine wp_region_tailB 13 (by kernel_rfl) (by kernel_rfl) ?_
  simp only [List.take_succ_cons, List.take_zero, List.drop_succ_cons, List.drop_zero]
  repeat (first | go_big_quiet_step (((go_at_call 85; refine ((hS _).out).mono ?_; rintro e w9 ⟨rfl, rfl⟩; exact ⟨rfl, _, rfl⟩))) | quiet_step (((go_at_call 85; refine ((hS _).out).mono ?_; rintro e w9 ⟨rfl, rfl⟩; exact ⟨rfl, _, rfl⟩))))
  refine wpQuiet_nil ?_
  rintro _ ⟨u, rfl⟩
  have hb' := u.below
  generalize u.val = w' at *
  clear u
  have HXn := Lib.hid ((hb'.block _ zx).trans HX0.out)
  have HTn := Lib.hid ((hb'.block _ zt).trans HT.out)
  have hbXn : Below V.heap.size V w' := below_trans hbX hb'
  clear HX0 HT hbX hbW zx zt zbX et n1 n2
  have hbX := hbXn
  have HT := HTn
  have HX0 := HXn
  clear hbXn HTn HXn
  have hbW : Below W.heap.size W w' := below_trans hV hbX
  have et := (blk_cell HT.out 0).trans rfl
  simp only [List.getElem?_toArray, List.getElem?_cons_zero] at et
  have zt := blk_lt HT.out
  have zx := blk_lt HX0.out
  have zbX := Nat.lt_of_lt_of_le zb hbW.size
  have n1 := below_cell hbW n1'
  have n2 := below_cell hbW n2'
  have HRX := Lib.hid ((hbX.block _ zR).trans HR.out)
  obtain ⟨rr0, rr1, rr2, rr3, rr4, rr5, rr6, rr7, frr, zr⟩ := blk8 HRX.out
  obtain ⟨g0, g1, g2, g3, g4, g5, g6, g7, fgx, _⟩ := blk8 HX0.out
  have zgx : W.heap.size ≤ gx := Nat.le_trans hV.size hgx.1
  go_wp2
  refine bodyPost_ret (v := .agg #[.bool false, .bool false, .bool false, .bool false, .bool false, .bool false, .bool (decide (z < 6 * t)), .bool false]) (by simp [results, Tryz.results87, go_sem, rr0, rr1, rr2, rr3, rr4, rr5, rr6, rr7]) rfl ⟨rfl, ?_⟩
  exact Below.setCell (Below.setCell (Below.setCell (Below.setCell (Below.setCell (Below.setCell (Below.setCell (Below.setCell (Below.setCell hbW zgx _) (by simp) _) (by simp) _) (by simp) _) (by simp) _) (by simp) _) (by simp) _) (by simp) _) (by simp) _
end
end Go.Proofs.YtjglkglaogaenaaGreatDoor
