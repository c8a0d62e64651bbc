/- texts of mine, merged: T8. -/
import Derived.Test.YtjglkglaogaenaaGreatDoorGAJ
import Derived.Test.YtjglkglaogaenaaGreatDoorGO
/- joint: broken at the kinds (written by gen_broken.py). -/
namespace Go.Proofs.YtjglkglaogaenaaGreatDoor
open Go.RowKit Go.Shelf
attribute [local go_sem] Ext.cell Ext.frozen

set_option linter.unusedVariables false in
set_option maxRecDepth 100000 in
set_option maxHeartbeats 8000000 in
theorem broken_2 (l w t : Int) (nv : Value) (n : List Int) (W : World) (hn : Ints W nv n) (hlen : n.length = 4) (hl : 1 ≤ l ∧ l ≤ 100000) (hw : 1 ≤ w ∧ w ≤ 100000) (ht : 1 ≤ t ∧ t ≤ 100000) (hb : ∀ i, i < n.length → -100000 ≤ n.getD i 0 ∧ n.getD i 0 ≤ 100000) :
    Calls Tryz.prog 87 #[vJ 2 l w t nv] W (Ret W (brkV 2 l w t n)) := by
  have HS : Hid (brkV 2 l w t n = .agg #[.bool (false), .bool ([n.getD 3 0 - n.getD 2 0].any (thinB t) || decide (t < 2 * (n.getD 3 0 - n.getD 2 0))), .bool (false), .bool (decide (8 * n.getD 0 0 < w) || decide (8 * (w - n.getD 1 0) < w)), .bool (false), .bool (false), .bool (false), .bool (false)]) := Lib.hid (by simp [brkV, brkB])
  rw [HS.out]
  clear HS
  unfold vJ at *
  obtain ⟨b, off, c, rfl, hcc, zb, hi⟩ := hn.at' (by omega)
  have n0 := hi 0 (by omega)
  have n1 := hi 1 (by omega)
  have n2 := hi 2 (by omega)
  have n3 := hi 3 (by omega)
  rw [Nat.add_zero] at n0
  have b0 := hb 0 (by omega)
  have b1 := hb 1 (by omega)
  have b2 := hb 2 (by omega)
  have b3 := hb 3 (by omega)
  rw [hlen]
  have hT := fun v W' (h : Ints W' v [n.getD 3 0 - n.getD 2 0]) => Lib.hid (thin_any t v _ W' h (by simp) (fun x hx => by simp only [List.mem_cons, List.mem_nil_iff, or_false] at hx; rcases hx with rfl <;> omega))
  generalize [n.getD 3 0 - n.getD 2 0].any (thinB t) = r1 at *
  generalize n.getD 0 0 = x0 at *
  generalize n.getD 1 0 = x1 at *
  generalize n.getD 2 0 = x2 at *
  generalize n.getD 3 0 = x3 at *
  clear hi hn hb hcc
  have w1 : wrap64 (x3 - x2) = x3 - x2 := by unfold wrap64; omega
  have v1 : IntKind.i64.wrap (x3 - x2) = x3 - x2 := IntWalk.i64_in _ (by omega)
  have w2 : wrap64 (2 * (x3 - x2)) = 2 * (x3 - x2) := by unfold wrap64; omega
  have v2 : IntKind.i64.wrap (2 * (x3 - x2)) = 2 * (x3 - x2) := IntWalk.i64_in _ (by omega)
  -- a is 2 * (x3 - x2)
  have w3 : wrap64 (8 * x0) = 8 * x0 := by unfold wrap64; omega
  have v3 : IntKind.i64.wrap (8 * x0) = 8 * x0 := IntWalk.i64_in _ (by omega)
  -- c is 8 * x0
  have w4 : wrap64 (w - x1) = w - x1 := by unfold wrap64; omega
  have v4 : IntKind.i64.wrap (w - x1) = w - x1 := IntWalk.i64_in _ (by omega)
  have w5 : wrap64 (8 * (w - x1)) = 8 * (w - x1) := by unfold wrap64; omega
  have v5 : IntKind.i64.wrap (8 * (w - x1)) = 8 * (w - x1) := IntWalk.i64_in _ (by omega)
  -- d is 8 * (w - x1)
  obtain ⟨gg, Hgg⟩ : ∃ g, Hid ((r1 || decide (t < 2 * (x3 - x2))) = g) := ⟨_, Lib.hid rfl⟩
  rw [Hgg.out]
  obtain ⟨V, HV⟩ : ∃ V, Hid ((W.alloc (.cells #[.int .i64 2, .int .i64 l, .int .i64 w, .int .i64 t, .slice (some ⟨b, off, none⟩) 4 c] 25)).alloc (.cells #[.bool false, .bool false, .bool false, .bool false, .bool false, .bool false, .bool false, .bool false] 120) = V) := ⟨_, Lib.hid rfl⟩
  have hV : Below W.heap.size W V := by rw [← HV.out]; (repeat (first | exact brf | assumption | refine ble ?_ | refine blx ?_ | refine bla ?_ | refine bls ?_ | refine bld ?_))
  have HJ : Hid (V.heap[W.heap.size]? = some (.cells #[.int .i64 2, .int .i64 l, .int .i64 w, .int .i64 t, .slice (some ⟨b, off, none⟩) 4 c] 25 (0, 0))) := Lib.hid (by rw [← HV.out]; exact (heap_old (by simp)).trans (heap_new rfl))
  have HR : Hid (V.heap[W.heap.size + 1]? = some (.cells #[.bool false, .bool false, .bool false, .bool false, .bool false, .bool false, .bool false, .bool false] 120 (0, 0))) := Lib.hid (by rw [← HV.out]; exact heap_new (by simp))
  obtain ⟨v0, v1, v2, v3, v4, _, zV⟩ := blk5 HJ.out
  have zR := blk_lt HR.out
  go_enter Tryz.func87, Tryz.ntmps87
  go_wp2
  rw [HV.out]
  refine wp_region_grow [0, 1, 2, 3, 4, 5, 6, 7, 8, 9, 10, 11] 12 [] (pick [IsV (.pointer (some ⟨W.heap.size, 1, none⟩)), IsV (.pointer (some ⟨W.heap.size, 1, none⟩)), IsV (.int .i64 l), IsV (.pointer (some ⟨W.heap.size, 1, none⟩)), IsV (.pointer (some ⟨W.heap.size, 2, none⟩)), IsV (.int .i64 w), IsV (.pointer (some ⟨W.heap.size, 1, none⟩)), IsV (.pointer (some ⟨W.heap.size, 3, none⟩)), IsV (.int .i64 t), IsBx V.heap.size 3 #[.int .i64 0], IsV (.int .i64 l), IsV (.int .i64 w)]) (by kernel_rfl) (by kernel_rfl) (Stabs.pick (by repeat (first | exact Stabs.nil | refine Stabs.cons (by first | exact stab_v _ | exact stab_l _ | exact stab_bx _ _ _ | exact stab_gd (by first | exact stab_v _ | exact stab_l _)) ?_))) ?_
  try go_frame
  refine wgs rfl rfl (by simp) (fun w' hb' hR K hK => ?_) (fun o0 => ?_)
  · clear hR
    have zz := Nat.lt_of_lt_of_le zV hb'.size
    go_simp
    exact hK _ _ (Below.refl _ _) rfl
  try go_frame
  refine wgs rfl rfl (by simp) (fun w' hb' hR K hK => ?_) (fun o1 => ?_)
  · obtain rfl : o0 = .pointer (some ⟨W.heap.size, 1, none⟩) := hR 0 (by kernel_rfl)
    clear hR
    have zz := Nat.lt_of_lt_of_le zV hb'.size
    go_simp
    exact hK _ _ (Below.refl _ _) rfl
  try go_frame
  refine wgs rfl rfl (by simp) (fun w' hb' hR K hK => ?_) (fun o2 => ?_)
  · obtain rfl : o1 = .pointer (some ⟨W.heap.size, 1, none⟩) := hR 1 (by kernel_rfl)
    clear hR
    have cc := below_cell hb' v1
    have zz := World.block_lt_of_cell? w' _ cc
    simp only at zz
    go_simp
    exact hK _ _ (Below.refl _ _) rfl
  try go_frame
  refine wgs rfl rfl (by simp) (fun w' hb' hR K hK => ?_) (fun o3 => ?_)
  · clear hR
    have zz := Nat.lt_of_lt_of_le zV hb'.size
    go_simp
    exact hK _ _ (Below.refl _ _) rfl
  try go_frame
  refine wgs rfl rfl (by simp) (fun w' hb' hR K hK => ?_) (fun o4 => ?_)
  · obtain rfl : o3 = .pointer (some ⟨W.heap.size, 1, none⟩) := hR 3 (by kernel_rfl)
    clear hR
    have zz := Nat.lt_of_lt_of_le zV hb'.size
    go_simp
    exact hK _ _ (Below.refl _ _) rfl
  try go_frame
  refine wgs rfl rfl (by simp) (fun w' hb' hR K hK => ?_) (fun o5 => ?_)
  · obtain rfl : o4 = .pointer (some ⟨W.heap.size, 2, none⟩) := hR 4 (by kernel_rfl)
    clear hR
    have cc := below_cell hb' v2
    have zz := World.block_lt_of_cell? w' _ cc
    simp only at zz
    go_simp
    exact hK _ _ (Below.refl _ _) rfl
  try go_frame
  refine wgs rfl rfl (by simp) (fun w' hb' hR K hK => ?_) (fun o6 => ?_)
  · clear hR
    have zz := Nat.lt_of_lt_of_le zV hb'.size
    go_simp
    exact hK _ _ (Below.refl _ _) rfl
  try go_frame
  refine wgs rfl rfl (by simp) (fun w' hb' hR K hK => ?_) (fun o7 => ?_)
  · obtain rfl : o6 = .pointer (some ⟨W.heap.size, 1, none⟩) := hR 6 (by kernel_rfl)
    clear hR
    have zz := Nat.lt_of_lt_of_le zV hb'.size
    go_simp
    exact hK _ _ (Below.refl _ _) rfl
  try go_frame
  refine wgs rfl rfl (by simp) (fun w' hb' hR K hK => ?_) (fun o8 => ?_)
  · obtain rfl : o7 = .pointer (some ⟨W.heap.size, 3, none⟩) := hR 7 (by kernel_rfl)
    clear hR
    have cc := below_cell hb' v3
    have zz := World.block_lt_of_cell? w' _ cc
    simp only at zz
    go_simp
    exact hK _ _ (Below.refl _ _) rfl
  try go_frame
  refine wgs rfl rfl (by simp) (fun w' hb' hR K hK => ?_) (fun o9 => ?_)
  · clear hR
    have zz := hb'.size
    go_simp
    exact hK _ _ (by (repeat (first | exact brf | assumption | refine ble ?_ | refine blx ?_ | refine bla ?_ | refine bls ?_ | refine bld ?_))) ⟨_, rfl, zz, heap_new rfl⟩
  try go_frame
  refine wgs rfl rfl (by simp) (fun w' hb' hR K hK => ?_) (fun o10 => ?_)
  · obtain rfl : o2 = .int .i64 l := hR 2 (by kernel_rfl)
    clear hR
    go_simp
    exact hK _ _ (Below.refl _ _) rfl
  try go_frame
  refine wgs rfl rfl (by simp) (fun w' hb' hR K hK => ?_) (fun o11 => ?_)
  · obtain rfl : o5 = .int .i64 w := hR 5 (by kernel_rfl)
    clear hR
    go_simp
    exact hK _ _ (Below.refl _ _) rfl
  try go_frame
  refine wpG_nil (fun w' hb' hR => ?_)
  obtain rfl : o8 = _ := hR 8 (by simp)
  obtain rfl : o10 = _ := hR 10 (by simp)
  obtain rfl : o11 = _ := hR 11 (by simp)
  obtain ⟨gb, rfl, hgb, hGB⟩ : IsBx V.heap.size 3 #[.int .i64 0] o9 w' := hR 9 (by simp)
  clear hR
  have HGB := Lib.hid hGB
  clear hGB
  have e0 := (blk_cell HGB.out 0).trans rfl
  have f0 := blk_free HGB.out 0
  have zg := blk_lt HGB.out
  simp only [List.getElem?_toArray, List.getElem?_cons_zero] at e0
  simp only [opsAt, List.filterMap_cons, List.filterMap_nil, List.getElem?_toArray, List.getElem?_cons_zero, List.getElem?_cons_succ]
  go_wp2
  refine NoPanic.normal ?_
  obtain ⟨w2, Hw2⟩ : ∃ w2, Hid (w'.setCell ⟨gb, 0, none⟩ (.int .i64 t) = w2) := ⟨_, Lib.hid rfl⟩
  have hb2 : Below V.heap.size V w2 := by rw [← Hw2.out]; exact hb'.setCell hgb _
  have HT2 : Hid (w2.heap[gb]? = some (.cells #[.int .i64 t] 3 (0, 0))) := Lib.hid (by rw [← Hw2.out]; exact blk_set HGB.out 0 _)
  rw [Hw2.out]
  clear e0 f0 zg HGB Hw2 hb'
  have HJ2 := Lib.hid ((hb2.block _ zV).trans HJ.out)
  obtain ⟨j0, j1, j2, j3, j4, _, zj2⟩ := blk5 HJ2.out
  obtain ⟨X, HXX⟩ : ∃ X, Hid (w2.alloc (.cells #[.bool false, .bool false, .bool false, .bool false, .bool false, .bool false, .bool false, .bool false] 120) = X) := ⟨_, Lib.hid rfl⟩
  obtain ⟨gx, Hgx⟩ : ∃ gx, Hid (w2.heap.size = gx) := ⟨_, Lib.hid rfl⟩
  have hbX : Below V.heap.size V X := by rw [← HXX.out]; exact hb2.alloc hb2.size _
  have HT : Hid (X.heap[gb]? = some (.cells #[.int .i64 t] 3 (0, 0))) := Lib.hid (by rw [← HXX.out]; exact (heap_old (blk_lt HT2.out)).trans HT2.out)
  have HX0 : Hid (X.heap[gx]? = some (.cells #[.bool false, .bool false, .bool false, .bool false, .bool false, .bool false, .bool false, .bool false] 120 (0, 0))) := Lib.hid (by rw [← HXX.out, ← Hgx.out]; exact heap_new rfl)
  have hgx : V.heap.size ≤ gx ∧ gx ≠ gb := ⟨by rw [← Hgx.out]; exact hb2.size, by have := blk_lt HT2.out; have := Hgx.out; omega⟩
  go_wp2
  rw [HXX.out, Hgx.out]
  have zxx : w2.heap.size < X.heap.size := by rw [← HXX.out]; simp
  clear HJ2 j0 j1 j2 j3 j4 zj2 HT2 Hgx HXX v0 v1 v2 v3 v4
  have hbW : Below W.heap.size W X := below_trans hV hbX
  have n0' := n0
  have n1' := n1
  have n2' := n2
  have n3' := n3
  have n0 := below_cell hbW n0
  have n1 := below_cell hbW n1
  have n2 := below_cell hbW n2
  have n3 := below_cell hbW n3
  have et := (blk_cell HT.out 0).trans rfl
  simp only [List.getElem?_toArray, List.getElem?_cons_zero] at et
  have zt := blk_lt HT.out
  have zx := blk_lt HX0.out
  have zbX := Nat.lt_of_lt_of_le zb hbW.size
  refine wp_region_grow [0, 1, 2, 3, 4, 5, 6, 7, 8, 9, 10, 11, 12, 13, 14, 15, 16, 17, 18, 19, 20, 21] 22 [23] (pick [IsV (.int .i64 t), IsV (.slice (some ⟨b, off, none⟩) 4 c), IsV (.pointer (some ⟨b, off + 3, none⟩)), IsV (.int .i64 x3), IsV (.slice (some ⟨b, off, none⟩) 4 c), IsV (.pointer (some ⟨b, off + 2, none⟩)), IsV (.int .i64 x2), IsV (.int .i64 (x3 - x2)), IsL [(x3 - x2)], IsV (.bool r1), IsV (.bool r1), Gd (!r1) (IsV (.slice (some ⟨b, off, none⟩) 4 c)), Gd (!r1) (IsV (.pointer (some ⟨b, off + 3, none⟩))), Gd (!r1) (IsV (.int .i64 x3)), Gd (!r1) (IsV (.slice (some ⟨b, off, none⟩) 4 c)), Gd (!r1) (IsV (.pointer (some ⟨b, off + 2, none⟩))), Gd (!r1) (IsV (.int .i64 x2)), Gd (!r1) (IsV (.int .i64 (x3 - x2))), Gd (!r1) (IsV (.int .i64 (2 * (x3 - x2)))), Gd (!r1) (IsV (.int .i64 t)), Gd (!r1) (IsV (.bool (decide (t < (2 * (x3 - x2)))))), IsV (.bool gg)]) (by kernel_rfl) (by kernel_rfl) (Stabs.pick (by repeat (first | exact Stabs.nil | refine Stabs.cons (by first | exact stab_v _ | exact stab_l _ | exact stab_bx _ _ _ | exact stab_gd (by first | exact stab_v _ | exact stab_l _)) ?_))) ?_
  try go_frame
  refine wgs rfl rfl (by simp) (fun w' hb' hR K hK => ?_) (fun o0 => ?_)
  · clear hR
    have cc := below_cell hb' et
    have zz := World.block_lt_of_cell? w' _ cc
    simp only at zz
    go_simp
    exact hK _ _ (Below.refl _ _) rfl
  try go_frame
  refine wgs rfl rfl (by simp) (fun w' hb' hR K hK => ?_) (fun o1 => ?_)
  · clear hR
    go_simp
    exact hK _ _ (Below.refl _ _) rfl
  try go_frame
  refine wgs rfl rfl (by simp) (fun w' hb' hR K hK => ?_) (fun o2 => ?_)
  · obtain rfl : o1 = .slice (some ⟨b, off, none⟩) 4 c := hR 1 (by kernel_rfl)
    clear hR
    go_simp
    exact hK _ _ (Below.refl _ _) rfl
  try go_frame
  refine wgs rfl rfl (by simp) (fun w' hb' hR K hK => ?_) (fun o3 => ?_)
  · obtain rfl : o2 = .pointer (some ⟨b, off + 3, none⟩) := hR 2 (by kernel_rfl)
    clear hR
    have cc := below_cell hb' n3
    have zz := World.block_lt_of_cell? w' _ cc
    simp only at zz
    go_simp
    exact hK _ _ (Below.refl _ _) rfl
  try go_frame
  refine wgs rfl rfl (by simp) (fun w' hb' hR K hK => ?_) (fun o4 => ?_)
  · clear hR
    go_simp
    exact hK _ _ (Below.refl _ _) rfl
  try go_frame
  refine wgs rfl rfl (by simp) (fun w' hb' hR K hK => ?_) (fun o5 => ?_)
  · obtain rfl : o4 = .slice (some ⟨b, off, none⟩) 4 c := hR 4 (by kernel_rfl)
    clear hR
    go_simp
    exact hK _ _ (Below.refl _ _) rfl
  try go_frame
  refine wgs rfl rfl (by simp) (fun w' hb' hR K hK => ?_) (fun o6 => ?_)
  · obtain rfl : o5 = .pointer (some ⟨b, off + 2, none⟩) := hR 5 (by kernel_rfl)
    clear hR
    have cc := below_cell hb' n2
    have zz := World.block_lt_of_cell? w' _ cc
    simp only at zz
    go_simp
    exact hK _ _ (Below.refl _ _) rfl
  try go_frame
  refine wgs rfl rfl (by simp) (fun w' hb' hR K hK => ?_) (fun o7 => ?_)
  · obtain rfl : o3 = .int .i64 x3 := hR 3 (by kernel_rfl)
    obtain rfl : o6 = .int .i64 x2 := hR 6 (by kernel_rfl)
    clear hR
    go_simp
    exact hK _ _ (Below.refl _ _) rfl
  try go_frame
  refine wgs rfl rfl (by simp) (fun w' hb' hR K hK => ?_) (fun o8 => ?_)
  · obtain rfl : o7 = .int .i64 (x3 - x2) := hR 7 (by kernel_rfl)
    clear hR
    go_simp
    exact hK _ _ (by (repeat (first | exact brf | assumption | refine ble ?_ | refine blx ?_ | refine bla ?_ | refine bls ?_ | refine bld ?_))) (ints_newL [(x3 - x2)] rfl)
  try go_frame
  refine wgs rfl rfl (by simp) (fun w' hb' hR K hK => ?_) (fun o9 => ?_)
  · obtain rfl : o0 = .int .i64 t := hR 0 (by kernel_rfl)
    have h8 : (IsL [(x3 - x2)]) o8 w' := hR 8 (by kernel_rfl)
    clear hR
    go_simp
    refine ((hT _ _ h8).out).mono ?_
    rintro e w1 ⟨rfl, hb1⟩
    exact hK _ _ hb1 rfl
  try go_frame
  refine wgs rfl rfl (by simp) (fun w' hb' hR K hK => ?_) (fun o10 => ?_)
  · obtain rfl : o9 = .bool r1 := hR 9 (by kernel_rfl)
    clear hR
    go_simp
    exact hK _ _ (Below.refl _ _) rfl
  try go_frame
  refine wgg rfl rfl (by simp) (fun w' hb' hR K hK => ?_) (fun o11 => ?_)
  · obtain rfl : o10 = .bool r1 := hR 10 (by kernel_rfl)
    clear hR
    cases r1
    · refine ifp ?_
      go_simp
      exact hK _ _ (Below.refl _ _) rfl
    · exact ifn rfl
  try go_frame
  refine wgg rfl rfl (by simp) (fun w' hb' hR K hK => ?_) (fun o12 => ?_)
  · obtain rfl : o10 = .bool r1 := hR 10 (by kernel_rfl)
    have h11 : (Gd (!r1) (IsV (.slice (some ⟨b, off, none⟩) 4 c))) o11 w' := hR 11 (by kernel_rfl)
    clear hR
    cases r1
    · refine ifp ?_
      obtain rfl : o11 = .slice (some ⟨b, off, none⟩) 4 c := h11
      go_simp
      exact hK _ _ (Below.refl _ _) rfl
    · exact ifn rfl
  try go_frame
  refine wgg rfl rfl (by simp) (fun w' hb' hR K hK => ?_) (fun o13 => ?_)
  · obtain rfl : o10 = .bool r1 := hR 10 (by kernel_rfl)
    have h12 : (Gd (!r1) (IsV (.pointer (some ⟨b, off + 3, none⟩)))) o12 w' := hR 12 (by kernel_rfl)
    clear hR
    cases r1
    · refine ifp ?_
      obtain rfl : o12 = .pointer (some ⟨b, off + 3, none⟩) := h12
      have cc := below_cell hb' n3
      have zz := World.block_lt_of_cell? w' _ cc
      simp only at zz
      go_simp
      exact hK _ _ (Below.refl _ _) rfl
    · exact ifn rfl
  try go_frame
  refine wgg rfl rfl (by simp) (fun w' hb' hR K hK => ?_) (fun o14 => ?_)
  · obtain rfl : o10 = .bool r1 := hR 10 (by kernel_rfl)
    clear hR
    cases r1
    · refine ifp ?_
      go_simp
      exact hK _ _ (Below.refl _ _) rfl
    · exact ifn rfl
  try go_frame
  refine wgg rfl rfl (by simp) (fun w' hb' hR K hK => ?_) (fun o15 => ?_)
  · obtain rfl : o10 = .bool r1 := hR 10 (by kernel_rfl)
    have h14 : (Gd (!r1) (IsV (.slice (some ⟨b, off, none⟩) 4 c))) o14 w' := hR 14 (by kernel_rfl)
    clear hR
    cases r1
    · refine ifp ?_
      obtain rfl : o14 = .slice (some ⟨b, off, none⟩) 4 c := h14
      go_simp
      exact hK _ _ (Below.refl _ _) rfl
    · exact ifn rfl
  try go_frame
  refine wgg rfl rfl (by simp) (fun w' hb' hR K hK => ?_) (fun o16 => ?_)
  · obtain rfl : o10 = .bool r1 := hR 10 (by kernel_rfl)
    have h15 : (Gd (!r1) (IsV (.pointer (some ⟨b, off + 2, none⟩)))) o15 w' := hR 15 (by kernel_rfl)
    clear hR
    cases r1
    · refine ifp ?_
      obtain rfl : o15 = .pointer (some ⟨b, off + 2, none⟩) := h15
      have cc := below_cell hb' n2
      have zz := World.block_lt_of_cell? w' _ cc
      simp only at zz
      go_simp
      exact hK _ _ (Below.refl _ _) rfl
    · exact ifn rfl
  try go_frame
  refine wgg rfl rfl (by simp) (fun w' hb' hR K hK => ?_) (fun o17 => ?_)
  · obtain rfl : o10 = .bool r1 := hR 10 (by kernel_rfl)
    have h13 : (Gd (!r1) (IsV (.int .i64 x3))) o13 w' := hR 13 (by kernel_rfl)
    have h16 : (Gd (!r1) (IsV (.int .i64 x2))) o16 w' := hR 16 (by kernel_rfl)
    clear hR
    cases r1
    · refine ifp ?_
      obtain rfl : o13 = .int .i64 x3 := h13
      obtain rfl : o16 = .int .i64 x2 := h16
      go_simp
      exact hK _ _ (Below.refl _ _) rfl
    · exact ifn rfl
  try go_frame
  refine wgg rfl rfl (by simp) (fun w' hb' hR K hK => ?_) (fun o18 => ?_)
  · obtain rfl : o10 = .bool r1 := hR 10 (by kernel_rfl)
    have h17 : (Gd (!r1) (IsV (.int .i64 (x3 - x2)))) o17 w' := hR 17 (by kernel_rfl)
    clear hR
    cases r1
    · refine ifp ?_
      obtain rfl : o17 = .int .i64 (x3 - x2) := h17
      go_simp
      exact hK _ _ (Below.refl _ _) rfl
    · exact ifn rfl
  try go_frame
  refine wgg rfl rfl (by simp) (fun w' hb' hR K hK => ?_) (fun o19 => ?_)
  · obtain rfl : o10 = .bool r1 := hR 10 (by kernel_rfl)
    clear hR
    cases r1
    · refine ifp ?_
      have cc := below_cell hb' et
      have zz := World.block_lt_of_cell? w' _ cc
      simp only at zz
      go_simp
      exact hK _ _ (Below.refl _ _) rfl
    · exact ifn rfl
  try go_frame
  refine wgg rfl rfl (by simp) (fun w' hb' hR K hK => ?_) (fun o20 => ?_)
  · obtain rfl : o10 = .bool r1 := hR 10 (by kernel_rfl)
    have h18 : (Gd (!r1) (IsV (.int .i64 (2 * (x3 - x2))))) o18 w' := hR 18 (by kernel_rfl)
    have h19 : (Gd (!r1) (IsV (.int .i64 t))) o19 w' := hR 19 (by kernel_rfl)
    clear hR
    cases r1
    · refine ifp ?_
      obtain rfl : o18 = .int .i64 (2 * (x3 - x2)) := h18
      obtain rfl : o19 = .int .i64 t := h19
      go_simp
      exact hK _ _ (Below.refl _ _) rfl
    · exact ifn rfl
  try go_frame
  refine wgs rfl rfl (by simp) (fun w' hb' hR K hK => ?_) (fun o21 => ?_)
  · obtain rfl : o10 = .bool r1 := hR 10 (by kernel_rfl)
    have h20 : (Gd (!r1) (IsV (.bool (decide (t < (2 * (x3 - x2))))))) o20 w' := hR 20 (by kernel_rfl)
    clear hR
    cases r1
    · obtain rfl : o20 = .bool (decide (t < (2 * (x3 - x2)))) := h20
      go_simp
      exact hK _ _ (Below.refl _ _) (by show _ = _; rw [← Hgg.out]; simp)
    · obtain rfl : o20 = undef := h20
      go_simp
      exact hK _ _ (Below.refl _ _) (by show _ = _; rw [← Hgg.out]; simp)
  try go_frame
  refine wpG_nil (fun w' hb' hR => ?_)
  obtain rfl : o21 = _ := hR 21 (by simp)
  clear hR
  have HXn := Lib.hid ((hb'.block _ zx).trans HX0.out)
  have HTn := Lib.hid ((hb'.block _ zt).trans HT.out)
  have hbXn : Below V.heap.size V w' := below_trans hbX hb'
  have ex := (blk_cell HXn.out 1).trans rfl
  simp only [List.getElem?_toArray, List.getElem?_cons_zero, List.getElem?_cons_succ] at ex
  have fx := blk_free HXn.out 1
  have zxn := blk_lt HXn.out
  simp only [opsAt, List.filterMap_cons, List.filterMap_nil, List.getElem?_toArray, List.getElem?_cons_zero, List.getElem?_cons_succ]
  go_wp2
  refine NoPanic.normal ?_
  clear n0 n1 n2 n3
  obtain ⟨X1, HY⟩ : ∃ Y, Hid (w'.setCell ⟨gx, 1, none⟩ (.bool gg) = Y) := ⟨_, Lib.hid rfl⟩
  have hbY : Below V.heap.size V X1 := by rw [← HY.out]; exact hbXn.setCell hgx.1 _
  have HTY : Hid (X1.heap[gb]? = some (.cells #[.int .i64 t] 3 (0, 0))) := Lib.hid (by rw [← HY.out]; exact (Below.heap_setCell _ _ _ _ (fun e => hgx.2 e.symm)).trans HTn.out)
  have HXY : Hid (X1.heap[gx]? = some (.cells #[.bool false, .bool gg, .bool false, .bool false, .bool false, .bool false, .bool false, .bool false] 120 (0, 0))) := Lib.hid (by rw [← HY.out]; exact blk_set HXn.out 1 _)
  rw [HY.out]
  clear HX0 HT hbX hbW zx zt zbX et ex fx zxn HTn HXn hbXn HY
  have hbX := hbY
  have HT := HTY
  have HX0 := HXY
  clear hbY HTY HXY
  have hbW : Below W.heap.size W X1 := below_trans hV hbX
  have et := (blk_cell HT.out 0).trans rfl
  simp only [List.getElem?_toArray, List.getElem?_cons_zero] at et
  have zt := blk_lt HT.out
  have zx := blk_lt HX0.out
  have zbX := Nat.lt_of_lt_of_le zb hbW.size
  have n0 := below_cell hbW n0'
  have n1 := below_cell hbW n1'
  have n2 := below_cell hbW n2'
  have n3 := below_cell hbW n3'
  by_cases h1 : 8 * x0 < w
  · have hd : decide (8 * x0 < w) = true := by simpa using h1
    have Hq : Hid ((decide (8 * x0 < w) || decide (8 * (w - x1) < w)) = true) := Lib.hid (by rw [hd]; first | done | rfl | simp)
    rw [Hq.out]
    have HRX := Lib.hid ((hbX.block _ zR).trans HR.out)
    obtain ⟨rr0, rr1, rr2, rr3, rr4, rr5, rr6, rr7, frr, zr⟩ := blk8 HRX.out
    obtain ⟨g0, g1, g2, g3, g4, g5, g6, g7, fgx, _⟩ := blk8 HX0.out
    have zgx : W.heap.size ≤ gx := Nat.le_trans hV.size hgx.1
    go_wp2
    refine bodyPost_ret (v := .agg #[.bool false, .bool gg, .bool false, .bool (true), .bool false, .bool false, .bool false, .bool false]) (by simp [results, Tryz.results87, go_sem, rr0, rr1, rr2, rr3, rr4, rr5, rr6, rr7]) rfl ⟨by first | rfl | simp [hd1, hd2] | simp [hd], ?_⟩
    exact Below.setCell (Below.setCell (Below.setCell (Below.setCell (Below.setCell (Below.setCell (Below.setCell (Below.setCell (Below.setCell hbW zgx _) (by simp) _) (by simp) _) (by simp) _) (by simp) _) (by simp) _) (by simp) _) (by simp) _) (by simp) _
  · have hd : decide (8 * x0 < w) = false := by simpa using h1
    have Hq : Hid ((decide (8 * x0 < w) || decide (8 * (w - x1) < w)) = decide (8 * (w - x1) < w)) := Lib.hid (by rw [hd]; first | done | rfl | simp)
    rw [Hq.out]
    have HRX := Lib.hid ((hbX.block _ zR).trans HR.out)
    obtain ⟨rr0, rr1, rr2, rr3, rr4, rr5, rr6, rr7, frr, zr⟩ := blk8 HRX.out
    obtain ⟨g0, g1, g2, g3, g4, g5, g6, g7, fgx, _⟩ := blk8 HX0.out
    have zgx : W.heap.size ≤ gx := Nat.le_trans hV.size hgx.1
    go_wp2
    refine bodyPost_ret (v := .agg #[.bool false, .bool gg, .bool false, .bool (decide (8 * (w - x1) < w)), .bool false, .bool false, .bool false, .bool false]) (by simp [results, Tryz.results87, go_sem, rr0, rr1, rr2, rr3, rr4, rr5, rr6, rr7]) rfl ⟨by first | rfl | simp [hd1, hd2] | simp [hd], ?_⟩
    exact Below.setCell (Below.setCell (Below.setCell (Below.setCell (Below.setCell (Below.setCell (Below.setCell (Below.setCell (Below.setCell hbW zgx _) (by simp) _) (by simp) _) (by simp) _) (by simp) _) (by simp) _) (by simp) _) (by simp) _) (by simp) _

set_option linter.unusedVariables false in
set_option maxRecDepth 100000 in
set_option maxHeartbeats 8000000 in
theorem broken_3 (l w t : Int) (nv : Value) (n : List Int) (W : World) (hn : Ints W nv n) (hlen : n.length = 6) (hl : 1 ≤ l ∧ l ≤ 100000) (hw : 1 ≤ w ∧ w ≤ 100000) (ht : 1 ≤ t ∧ t ≤ 100000) (hb : ∀ i, i < n.length → -100000 ≤ n.getD i 0 ∧ n.getD i 0 ≤ 100000) :
    Calls Tryz.prog 87 #[vJ 3 l w t nv] W (Ret W (brkV 3 l w t n)) := by
  have HS : Hid (brkV 3 l w t n = .agg #[.bool (false), .bool ([n.getD 5 0 - n.getD 4 0].any (thinB t) || decide (t < 2 * (n.getD 5 0 - n.getD 4 0))), .bool (decide (2 * n.getD 0 0 < l)), .bool (decide (8 * n.getD 2 0 < w) || decide (8 * (w - n.getD 3 0) < w)), .bool (false), .bool (false), .bool (false), .bool (false)]) := Lib.hid (by simp [brkV, brkB])
  rw [HS.out]
  clear HS
  unfold vJ at *
  obtain ⟨b, off, c, rfl, hcc, zb, hi⟩ := hn.at' (by omega)
  have n0 := hi 0 (by omega)
  have n2 := hi 2 (by omega)
  have n3 := hi 3 (by omega)
  have n4 := hi 4 (by omega)
  have n5 := hi 5 (by omega)
  rw [Nat.add_zero] at n0
  have b0 := hb 0 (by omega)
  have b2 := hb 2 (by omega)
  have b3 := hb 3 (by omega)
  have b4 := hb 4 (by omega)
  have b5 := hb 5 (by omega)
  rw [hlen]
  have hT := fun v W' (h : Ints W' v [n.getD 5 0 - n.getD 4 0]) => Lib.hid (thin_any t v _ W' h (by simp) (fun x hx => by simp only [List.mem_cons, List.mem_nil_iff, or_false] at hx; rcases hx with rfl <;> omega))
  generalize [n.getD 5 0 - n.getD 4 0].any (thinB t) = r1 at *
  generalize n.getD 0 0 = x0 at *
  generalize n.getD 2 0 = x2 at *
  generalize n.getD 3 0 = x3 at *
  generalize n.getD 4 0 = x4 at *
  generalize n.getD 5 0 = x5 at *
  clear hi hn hb hcc
  have w1 : wrap64 (x5 - x4) = x5 - x4 := by unfold wrap64; omega
  have v1 : IntKind.i64.wrap (x5 - x4) = x5 - x4 := IntWalk.i64_in _ (by omega)
  have w2 : wrap64 (2 * (x5 - x4)) = 2 * (x5 - x4) := by unfold wrap64; omega
  have v2 : IntKind.i64.wrap (2 * (x5 - x4)) = 2 * (x5 - x4) := IntWalk.i64_in _ (by omega)
  -- a is 2 * (x5 - x4)
  have w3 : wrap64 (2 * x0) = 2 * x0 := by unfold wrap64; omega
  have v3 : IntKind.i64.wrap (2 * x0) = 2 * x0 := IntWalk.i64_in _ (by omega)
  -- b is 2 * x0
  have w4 : wrap64 (8 * x2) = 8 * x2 := by unfold wrap64; omega
  have v4 : IntKind.i64.wrap (8 * x2) = 8 * x2 := IntWalk.i64_in _ (by omega)
  -- c is 8 * x2
  have w5 : wrap64 (w - x3) = w - x3 := by unfold wrap64; omega
  have v5 : IntKind.i64.wrap (w - x3) = w - x3 := IntWalk.i64_in _ (by omega)
  have w6 : wrap64 (8 * (w - x3)) = 8 * (w - x3) := by unfold wrap64; omega
  have v6 : IntKind.i64.wrap (8 * (w - x3)) = 8 * (w - x3) := IntWalk.i64_in _ (by omega)
  -- d is 8 * (w - x3)
  obtain ⟨gg, Hgg⟩ : ∃ g, Hid ((r1 || decide (t < 2 * (x5 - x4))) = g) := ⟨_, Lib.hid rfl⟩
  rw [Hgg.out]
  obtain ⟨V, HV⟩ : ∃ V, Hid ((W.alloc (.cells #[.int .i64 3, .int .i64 l, .int .i64 w, .int .i64 t, .slice (some ⟨b, off, none⟩) 6 c] 25)).alloc (.cells #[.bool false, .bool false, .bool false, .bool false, .bool false, .bool false, .bool false, .bool false] 120) = V) := ⟨_, Lib.hid rfl⟩
  have hV : Below W.heap.size W V := by rw [← HV.out]; (repeat (first | exact brf | assumption | refine ble ?_ | refine blx ?_ | refine bla ?_ | refine bls ?_ | refine bld ?_))
  have HJ : Hid (V.heap[W.heap.size]? = some (.cells #[.int .i64 3, .int .i64 l, .int .i64 w, .int .i64 t, .slice (some ⟨b, off, none⟩) 6 c] 25 (0, 0))) := Lib.hid (by rw [← HV.out]; exact (heap_old (by simp)).trans (heap_new rfl))
  have HR : Hid (V.heap[W.heap.size + 1]? = some (.cells #[.bool false, .bool false, .bool false, .bool false, .bool false, .bool false, .bool false, .bool false] 120 (0, 0))) := Lib.hid (by rw [← HV.out]; exact heap_new (by simp))
  obtain ⟨v0, v1, v2, v3, v4, _, zV⟩ := blk5 HJ.out
  have zR := blk_lt HR.out
  go_enter Tryz.func87, Tryz.ntmps87
  go_wp2
  rw [HV.out]
  refine wp_region_grow [0, 1, 2, 3, 4, 5, 6, 7, 8, 9, 10, 11] 12 [] (pick [IsV (.pointer (some ⟨W.heap.size, 1, none⟩)), IsV (.pointer (some ⟨W.heap.size, 1, none⟩)), IsV (.int .i64 l), IsV (.pointer (some ⟨W.heap.size, 1, none⟩)), IsV (.pointer (some ⟨W.heap.size, 2, none⟩)), IsV (.int .i64 w), IsV (.pointer (some ⟨W.heap.size, 1, none⟩)), IsV (.pointer (some ⟨W.heap.size, 3, none⟩)), IsV (.int .i64 t), IsBx V.heap.size 3 #[.int .i64 0], IsV (.int .i64 l), IsV (.int .i64 w)]) (by kernel_rfl) (by kernel_rfl) (Stabs.pick (by repeat (first | exact Stabs.nil | refine Stabs.cons (by first | exact stab_v _ | exact stab_l _ | exact stab_bx _ _ _ | exact stab_gd (by first | exact stab_v _ | exact stab_l _)) ?_))) ?_
  try go_frame
  refine wgs rfl rfl (by simp) (fun w' hb' hR K hK => ?_) (fun o0 => ?_)
  · clear hR
    have zz := Nat.lt_of_lt_of_le zV hb'.size
    go_simp
    exact hK _ _ (Below.refl _ _) rfl
  try go_frame
  refine wgs rfl rfl (by simp) (fun w' hb' hR K hK => ?_) (fun o1 => ?_)
  · obtain rfl : o0 = .pointer (some ⟨W.heap.size, 1, none⟩) := hR 0 (by kernel_rfl)
    clear hR
    have zz := Nat.lt_of_lt_of_le zV hb'.size
    go_simp
    exact hK _ _ (Below.refl _ _) rfl
  try go_frame
  refine wgs rfl rfl (by simp) (fun w' hb' hR K hK => ?_) (fun o2 => ?_)
  · obtain rfl : o1 = .pointer (some ⟨W.heap.size, 1, none⟩) := hR 1 (by kernel_rfl)
    clear hR
    have cc := below_cell hb' v1
    have zz := World.block_lt_of_cell? w' _ cc
    simp only at zz
    go_simp
    exact hK _ _ (Below.refl _ _) rfl
  try go_frame
  refine wgs rfl rfl (by simp) (fun w' hb' hR K hK => ?_) (fun o3 => ?_)
  · clear hR
    have zz := Nat.lt_of_lt_of_le zV hb'.size
    go_simp
    exact hK _ _ (Below.refl _ _) rfl
  try go_frame
  refine wgs rfl rfl (by simp) (fun w' hb' hR K hK => ?_) (fun o4 => ?_)
  · obtain rfl : o3 = .pointer (some ⟨W.heap.size, 1, none⟩) := hR 3 (by kernel_rfl)
    clear hR
    have zz := Nat.lt_of_lt_of_le zV hb'.size
    go_simp
    exact hK _ _ (Below.refl _ _) rfl
  try go_frame
  refine wgs rfl rfl (by simp) (fun w' hb' hR K hK => ?_) (fun o5 => ?_)
  · obtain rfl : o4 = .pointer (some ⟨W.heap.size, 2, none⟩) := hR 4 (by kernel_rfl)
    clear hR
    have cc := below_cell hb' v2
    have zz := World.block_lt_of_cell? w' _ cc
    simp only at zz
    go_simp
    exact hK _ _ (Below.refl _ _) rfl
  try go_frame
  refine wgs rfl rfl (by simp) (fun w' hb' hR K hK => ?_) (fun o6 => ?_)
  · clear hR
    have zz := Nat.lt_of_lt_of_le zV hb'.size
    go_simp
    exact hK _ _ (Below.refl _ _) rfl
  try go_frame
  refine wgs rfl rfl (by simp) (fun w' hb' hR K hK => ?_) (fun o7 => ?_)
  · obtain rfl : o6 = .pointer (some ⟨W.heap.size, 1, none⟩) := hR 6 (by kernel_rfl)
    clear hR
    have zz := Nat.lt_of_lt_of_le zV hb'.size
    go_simp
    exact hK _ _ (Below.refl _ _) rfl
  try go_frame
  refine wgs rfl rfl (by simp) (fun w' hb' hR K hK => ?_) (fun o8 => ?_)
  · obtain rfl : o7 = .pointer (some ⟨W.heap.size, 3, none⟩) := hR 7 (by kernel_rfl)
    clear hR
    have cc := below_cell hb' v3
    have zz := World.block_lt_of_cell? w' _ cc
    simp only at zz
    go_simp
    exact hK _ _ (Below.refl _ _) rfl
  try go_frame
  refine wgs rfl rfl (by simp) (fun w' hb' hR K hK => ?_) (fun o9 => ?_)
  · clear hR
    have zz := hb'.size
    go_simp
    exact hK _ _ (by (repeat (first | exact brf | assumption | refine ble ?_ | refine blx ?_ | refine bla ?_ | refine bls ?_ | refine bld ?_))) ⟨_, rfl, zz, heap_new rfl⟩
  try go_frame
  refine wgs rfl rfl (by simp) (fun w' hb' hR K hK => ?_) (fun o10 => ?_)
  · obtain rfl : o2 = .int .i64 l := hR 2 (by kernel_rfl)
    clear hR
    go_simp
    exact hK _ _ (Below.refl _ _) rfl
  try go_frame
  refine wgs rfl rfl (by simp) (fun w' hb' hR K hK => ?_) (fun o11 => ?_)
  · obtain rfl : o5 = .int .i64 w := hR 5 (by kernel_rfl)
    clear hR
    go_simp
    exact hK _ _ (Below.refl _ _) rfl
  try go_frame
  refine wpG_nil (fun w' hb' hR => ?_)
  obtain rfl : o8 = _ := hR 8 (by simp)
  obtain rfl : o10 = _ := hR 10 (by simp)
  obtain rfl : o11 = _ := hR 11 (by simp)
  obtain ⟨gb, rfl, hgb, hGB⟩ : IsBx V.heap.size 3 #[.int .i64 0] o9 w' := hR 9 (by simp)
  clear hR
  have HGB := Lib.hid hGB
  clear hGB
  have e0 := (blk_cell HGB.out 0).trans rfl
  have f0 := blk_free HGB.out 0
  have zg := blk_lt HGB.out
  simp only [List.getElem?_toArray, List.getElem?_cons_zero] at e0
  simp only [opsAt, List.filterMap_cons, List.filterMap_nil, List.getElem?_toArray, List.getElem?_cons_zero, List.getElem?_cons_succ]
  go_wp2
  refine NoPanic.normal ?_
  obtain ⟨w2, Hw2⟩ : ∃ w2, Hid (w'.setCell ⟨gb, 0, none⟩ (.int .i64 t) = w2) := ⟨_, Lib.hid rfl⟩
  have hb2 : Below V.heap.size V w2 := by rw [← Hw2.out]; exact hb'.setCell hgb _
  have HT2 : Hid (w2.heap[gb]? = some (.cells #[.int .i64 t] 3 (0, 0))) := Lib.hid (by rw [← Hw2.out]; exact blk_set HGB.out 0 _)
  rw [Hw2.out]
  clear e0 f0 zg HGB Hw2 hb'
  have HJ2 := Lib.hid ((hb2.block _ zV).trans HJ.out)
  obtain ⟨j0, j1, j2, j3, j4, _, zj2⟩ := blk5 HJ2.out
  obtain ⟨X, HXX⟩ : ∃ X, Hid (w2.alloc (.cells #[.bool false, .bool false, .bool false, .bool false, .bool false, .bool false, .bool false, .bool false] 120) = X) := ⟨_, Lib.hid rfl⟩
  obtain ⟨gx, Hgx⟩ : ∃ gx, Hid (w2.heap.size = gx) := ⟨_, Lib.hid rfl⟩
  have hbX : Below V.heap.size V X := by rw [← HXX.out]; exact hb2.alloc hb2.size _
  have HT : Hid (X.heap[gb]? = some (.cells #[.int .i64 t] 3 (0, 0))) := Lib.hid (by rw [← HXX.out]; exact (heap_old (blk_lt HT2.out)).trans HT2.out)
  have HX0 : Hid (X.heap[gx]? = some (.cells #[.bool false, .bool false, .bool false, .bool false, .bool false, .bool false, .bool false, .bool false] 120 (0, 0))) := Lib.hid (by rw [← HXX.out, ← Hgx.out]; exact heap_new rfl)
  have hgx : V.heap.size ≤ gx ∧ gx ≠ gb := ⟨by rw [← Hgx.out]; exact hb2.size, by have := blk_lt HT2.out; have := Hgx.out; omega⟩
  go_wp2
  rw [HXX.out, Hgx.out]
  have zxx : w2.heap.size < X.heap.size := by rw [← HXX.out]; simp
  clear HJ2 j0 j1 j2 j3 j4 zj2 HT2 Hgx HXX v0 v1 v2 v3 v4
  have hbW : Below W.heap.size W X := below_trans hV hbX
  have n0' := n0
  have n2' := n2
  have n3' := n3
  have n4' := n4
  have n5' := n5
  have n0 := below_cell hbW n0
  have n2 := below_cell hbW n2
  have n3 := below_cell hbW n3
  have n4 := below_cell hbW n4
  have n5 := below_cell hbW n5
  have et := (blk_cell HT.out 0).trans rfl
  simp only [List.getElem?_toArray, List.getElem?_cons_zero] at et
  have zt := blk_lt HT.out
  have zx := blk_lt HX0.out
  have zbX := Nat.lt_of_lt_of_le zb hbW.size
  refine wp_region_grow [0, 1, 2, 3, 4, 5, 6, 7, 8, 9, 10, 11, 12, 13, 14, 15, 16, 17, 18, 19, 20, 21] 22 [23] (pick [IsV (.int .i64 t), IsV (.slice (some ⟨b, off, none⟩) 6 c), IsV (.pointer (some ⟨b, off + 5, none⟩)), IsV (.int .i64 x5), IsV (.slice (some ⟨b, off, none⟩) 6 c), IsV (.pointer (some ⟨b, off + 4, none⟩)), IsV (.int .i64 x4), IsV (.int .i64 (x5 - x4)), IsL [(x5 - x4)], IsV (.bool r1), IsV (.bool r1), Gd (!r1) (IsV (.slice (some ⟨b, off, none⟩) 6 c)), Gd (!r1) (IsV (.pointer (some ⟨b, off + 5, none⟩))), Gd (!r1) (IsV (.int .i64 x5)), Gd (!r1) (IsV (.slice (some ⟨b, off, none⟩) 6 c)), Gd (!r1) (IsV (.pointer (some ⟨b, off + 4, none⟩))), Gd (!r1) (IsV (.int .i64 x4)), Gd (!r1) (IsV (.int .i64 (x5 - x4))), Gd (!r1) (IsV (.int .i64 (2 * (x5 - x4)))), Gd (!r1) (IsV (.int .i64 t)), Gd (!r1) (IsV (.bool (decide (t < (2 * (x5 - x4)))))), IsV (.bool gg)]) (by kernel_rfl) (by kernel_rfl) (Stabs.pick (by repeat (first | exact Stabs.nil | refine Stabs.cons (by first | exact stab_v _ | exact stab_l _ | exact stab_bx _ _ _ | exact stab_gd (by first | exact stab_v _ | exact stab_l _)) ?_))) ?_
  try go_frame
  refine wgs rfl rfl (by simp) (fun w' hb' hR K hK => ?_) (fun o0 => ?_)
  · clear hR
    have cc := below_cell hb' et
    have zz := World.block_lt_of_cell? w' _ cc
    simp only at zz
    go_simp
    exact hK _ _ (Below.refl _ _) rfl
  try go_frame
  refine wgs rfl rfl (by simp) (fun w' hb' hR K hK => ?_) (fun o1 => ?_)
  · clear hR
    go_simp
    exact hK _ _ (Below.refl _ _) rfl
  try go_frame
  refine wgs rfl rfl (by simp) (fun w' hb' hR K hK => ?_) (fun o2 => ?_)
  · obtain rfl : o1 = .slice (some ⟨b, off, none⟩) 6 c := hR 1 (by kernel_rfl)
    clear hR
    go_simp
    exact hK _ _ (Below.refl _ _) rfl
  try go_frame
  refine wgs rfl rfl (by simp) (fun w' hb' hR K hK => ?_) (fun o3 => ?_)
  · obtain rfl : o2 = .pointer (some ⟨b, off + 5, none⟩) := hR 2 (by kernel_rfl)
    clear hR
    have cc := below_cell hb' n5
    have zz := World.block_lt_of_cell? w' _ cc
    simp only at zz
    go_simp
    exact hK _ _ (Below.refl _ _) rfl
  try go_frame
  refine wgs rfl rfl (by simp) (fun w' hb' hR K hK => ?_) (fun o4 => ?_)
  · clear hR
    go_simp
    exact hK _ _ (Below.refl _ _) rfl
  try go_frame
  refine wgs rfl rfl (by simp) (fun w' hb' hR K hK => ?_) (fun o5 => ?_)
  · obtain rfl : o4 = .slice (some ⟨b, off, none⟩) 6 c := hR 4 (by kernel_rfl)
    clear hR
    go_simp
    exact hK _ _ (Below.refl _ _) rfl
  try go_frame
  refine wgs rfl rfl (by simp) (fun w' hb' hR K hK => ?_) (fun o6 => ?_)
  · obtain rfl : o5 = .pointer (some ⟨b, off + 4, none⟩) := hR 5 (by kernel_rfl)
    clear hR
    have cc := below_cell hb' n4
    have zz := World.block_lt_of_cell? w' _ cc
    simp only at zz
    go_simp
    exact hK _ _ (Below.refl _ _) rfl
  try go_frame
  refine wgs rfl rfl (by simp) (fun w' hb' hR K hK => ?_) (fun o7 => ?_)
  · obtain rfl : o3 = .int .i64 x5 := hR 3 (by kernel_rfl)
    obtain rfl : o6 = .int .i64 x4 := hR 6 (by kernel_rfl)
    clear hR
    go_simp
    exact hK _ _ (Below.refl _ _) rfl
  try go_frame
  refine wgs rfl rfl (by simp) (fun w' hb' hR K hK => ?_) (fun o8 => ?_)
  · obtain rfl : o7 = .int .i64 (x5 - x4) := hR 7 (by kernel_rfl)
    clear hR
    go_simp
    exact hK _ _ (by (repeat (first | exact brf | assumption | refine ble ?_ | refine blx ?_ | refine bla ?_ | refine bls ?_ | refine bld ?_))) (ints_newL [(x5 - x4)] rfl)
  try go_frame
  refine wgs rfl rfl (by simp) (fun w' hb' hR K hK => ?_) (fun o9 => ?_)
  · obtain rfl : o0 = .int .i64 t := hR 0 (by kernel_rfl)
    have h8 : (IsL [(x5 - x4)]) o8 w' := hR 8 (by kernel_rfl)
    clear hR
    go_simp
    refine ((hT _ _ h8).out).mono ?_
    rintro e w1 ⟨rfl, hb1⟩
    exact hK _ _ hb1 rfl
  try go_frame
  refine wgs rfl rfl (by simp) (fun w' hb' hR K hK => ?_) (fun o10 => ?_)
  · obtain rfl : o9 = .bool r1 := hR 9 (by kernel_rfl)
    clear hR
    go_simp
    exact hK _ _ (Below.refl _ _) rfl
  try go_frame
  refine wgg rfl rfl (by simp) (fun w' hb' hR K hK => ?_) (fun o11 => ?_)
  · obtain rfl : o10 = .bool r1 := hR 10 (by kernel_rfl)
    clear hR
    cases r1
    · refine ifp ?_
      go_simp
      exact hK _ _ (Below.refl _ _) rfl
    · exact ifn rfl
  try go_frame
  refine wgg rfl rfl (by simp) (fun w' hb' hR K hK => ?_) (fun o12 => ?_)
  · obtain rfl : o10 = .bool r1 := hR 10 (by kernel_rfl)
    have h11 : (Gd (!r1) (IsV (.slice (some ⟨b, off, none⟩) 6 c))) o11 w' := hR 11 (by kernel_rfl)
    clear hR
    cases r1
    · refine ifp ?_
      obtain rfl : o11 = .slice (some ⟨b, off, none⟩) 6 c := h11
      go_simp
      exact hK _ _ (Below.refl _ _) rfl
    · exact ifn rfl
  try go_frame
  refine wgg rfl rfl (by simp) (fun w' hb' hR K hK => ?_) (fun o13 => ?_)
  · obtain rfl : o10 = .bool r1 := hR 10 (by kernel_rfl)
    have h12 : (Gd (!r1) (IsV (.pointer (some ⟨b, off + 5, none⟩)))) o12 w' := hR 12 (by kernel_rfl)
    clear hR
    cases r1
    · refine ifp ?_
      obtain rfl : o12 = .pointer (some ⟨b, off + 5, none⟩) := h12
      have cc := below_cell hb' n5
      have zz := World.block_lt_of_cell? w' _ cc
      simp only at zz
      go_simp
      exact hK _ _ (Below.refl _ _) rfl
    · exact ifn rfl
  try go_frame
  refine wgg rfl rfl (by simp) (fun w' hb' hR K hK => ?_) (fun o14 => ?_)
  · obtain rfl : o10 = .bool r1 := hR 10 (by kernel_rfl)
    clear hR
    cases r1
    · refine ifp ?_
      go_simp
      exact hK _ _ (Below.refl _ _) rfl
    · exact ifn rfl
  try go_frame
  refine wgg rfl rfl (by simp) (fun w' hb' hR K hK => ?_) (fun o15 => ?_)
  · obtain rfl : o10 = .bool r1 := hR 10 (by kernel_rfl)
    have h14 : (Gd (!r1) (IsV (.slice (some ⟨b, off, none⟩) 6 c))) o14 w' := hR 14 (by kernel_rfl)
    clear hR
    cases r1
    · refine ifp ?_
      obtain rfl : o14 = .slice (some ⟨b, off, none⟩) 6 c := h14
      go_simp
      exact hK _ _ (Below.refl _ _) rfl
    · exact ifn rfl
  try go_frame
  refine wgg rfl rfl (by simp) (fun w' hb' hR K hK => ?_) (fun o16 => ?_)
  · obtain rfl : o10 = .bool r1 := hR 10 (by kernel_rfl)
    have h15 : (Gd (!r1) (IsV (.pointer (some ⟨b, off + 4, none⟩)))) o15 w' := hR 15 (by kernel_rfl)
    clear hR
    cases r1
    · refine ifp ?_
      obtain rfl : o15 = .pointer (some ⟨b, off + 4, none⟩) := h15
      have cc := below_cell hb' n4
      have zz := World.block_lt_of_cell? w' _ cc
      simp only at zz
      go_simp
      exact hK _ _ (Below.refl _ _) rfl
    · exact ifn rfl
  try go_frame
  refine wgg rfl rfl (by simp) (fun w' hb' hR K hK => ?_) (fun o17 => ?_)
  · obtain rfl : o10 = .bool r1 := hR 10 (by kernel_rfl)
    have h13 : (Gd (!r1) (IsV (.int .i64 x5))) o13 w' := hR 13 (by kernel_rfl)
    have h16 : (Gd (!r1) (IsV (.int .i64 x4))) o16 w' := hR 16 (by kernel_rfl)
    clear hR
    cases r1
    · refine ifp ?_
      obtain rfl : o13 = .int .i64 x5 := h13
      obtain rfl : o16 = .int .i64 x4 := h16
      go_simp
      exact hK _ _ (Below.refl _ _) rfl
    · exact ifn rfl
  try go_frame
  refine wgg rfl rfl (by simp) (fun w' hb' hR K hK => ?_) (fun o18 => ?_)
  · obtain rfl : o10 = .bool r1 := hR 10 (by kernel_rfl)
    have h17 : (Gd (!r1) (IsV (.int .i64 (x5 - x4)))) o17 w' := hR 17 (by kernel_rfl)
    clear hR
    cases r1
    · refine ifp ?_
      obtain rfl : o17 = .int .i64 (x5 - x4) := h17
      go_simp
      exact hK _ _ (Below.refl _ _) rfl
    · exact ifn rfl
  try go_frame
  refine wgg rfl rfl (by simp) (fun w' hb' hR K hK => ?_) (fun o19 => ?_)
  · obtain rfl : o10 = .bool r1 := hR 10 (by kernel_rfl)
    clear hR
    cases r1
    · refine ifp ?_
      have cc := below_cell hb' et
      have zz := World.block_lt_of_cell? w' _ cc
      simp only at zz
      go_simp
      exact hK _ _ (Below.refl _ _) rfl
    · exact ifn rfl
  try go_frame
  refine wgg rfl rfl (by simp) (fun w' hb' hR K hK => ?_) (fun o20 => ?_)
  · obtain rfl : o10 = .bool r1 := hR 10 (by kernel_rfl)
    have h18 : (Gd (!r1) (IsV (.int .i64 (2 * (x5 - x4))))) o18 w' := hR 18 (by kernel_rfl)
    have h19 : (Gd (!r1) (IsV (.int .i64 t))) o19 w' := hR 19 (by kernel_rfl)
    clear hR
    cases r1
    · refine ifp ?_
      obtain rfl : o18 = .int .i64 (2 * (x5 - x4)) := h18
      obtain rfl : o19 = .int .i64 t := h19
      go_simp
      exact hK _ _ (Below.refl _ _) rfl
    · exact ifn rfl
  try go_frame
  refine wgs rfl rfl (by simp) (fun w' hb' hR K hK => ?_) (fun o21 => ?_)
  · obtain rfl : o10 = .bool r1 := hR 10 (by kernel_rfl)
    have h20 : (Gd (!r1) (IsV (.bool (decide (t < (2 * (x5 - x4))))))) o20 w' := hR 20 (by kernel_rfl)
    clear hR
    cases r1
    · obtain rfl : o20 = .bool (decide (t < (2 * (x5 - x4)))) := h20
      go_simp
      exact hK _ _ (Below.refl _ _) (by show _ = _; rw [← Hgg.out]; simp)
    · obtain rfl : o20 = undef := h20
      go_simp
      exact hK _ _ (Below.refl _ _) (by show _ = _; rw [← Hgg.out]; simp)
  try go_frame
  refine wpG_nil (fun w' hb' hR => ?_)
  obtain rfl : o21 = _ := hR 21 (by simp)
  clear hR
  have HXn := Lib.hid ((hb'.block _ zx).trans HX0.out)
  have HTn := Lib.hid ((hb'.block _ zt).trans HT.out)
  have hbXn : Below V.heap.size V w' := below_trans hbX hb'
  have ex := (blk_cell HXn.out 1).trans rfl
  simp only [List.getElem?_toArray, List.getElem?_cons_zero, List.getElem?_cons_succ] at ex
  have fx := blk_free HXn.out 1
  have zxn := blk_lt HXn.out
  simp only [opsAt, List.filterMap_cons, List.filterMap_nil, List.getElem?_toArray, List.getElem?_cons_zero, List.getElem?_cons_succ]
  go_wp2
  refine NoPanic.normal ?_
  clear n0 n2 n3 n4 n5
  obtain ⟨X1, HY⟩ : ∃ Y, Hid (w'.setCell ⟨gx, 1, none⟩ (.bool gg) = Y) := ⟨_, Lib.hid rfl⟩
  have hbY : Below V.heap.size V X1 := by rw [← HY.out]; exact hbXn.setCell hgx.1 _
  have HTY : Hid (X1.heap[gb]? = some (.cells #[.int .i64 t] 3 (0, 0))) := Lib.hid (by rw [← HY.out]; exact (Below.heap_setCell _ _ _ _ (fun e => hgx.2 e.symm)).trans HTn.out)
  have HXY : Hid (X1.heap[gx]? = some (.cells #[.bool false, .bool gg, .bool false, .bool false, .bool false, .bool false, .bool false, .bool false] 120 (0, 0))) := Lib.hid (by rw [← HY.out]; exact blk_set HXn.out 1 _)
  rw [HY.out]
  clear HX0 HT hbX hbW zx zt zbX et ex fx zxn HTn HXn hbXn HY
  have hbX := hbY
  have HT := HTY
  have HX0 := HXY
  clear hbY HTY HXY
  have hbW : Below W.heap.size W X1 := below_trans hV hbX
  have et := (blk_cell HT.out 0).trans rfl
  simp only [List.getElem?_toArray, List.getElem?_cons_zero] at et
  have zt := blk_lt HT.out
  have zx := blk_lt HX0.out
  have zbX := Nat.lt_of_lt_of_le zb hbW.size
  have n0 := below_cell hbW n0'
  have n2 := below_cell hbW n2'
  have n3 := below_cell hbW n3'
  have n4 := below_cell hbW n4'
  have n5 := below_cell hbW n5'
  by_cases h1 : 8 * x2 < w
  · have hd : decide (8 * x2 < w) = true := by simpa using h1
    have Hq : Hid ((decide (8 * x2 < w) || decide (8 * (w - x3) < w)) = true) := Lib.hid (by rw [hd]; first | done | rfl | simp)
    rw [Hq.out]
    have HRX := Lib.hid ((hbX.block _ zR).trans HR.out)
    obtain ⟨rr0, rr1, rr2, rr3, rr4, rr5, rr6, rr7, frr, zr⟩ := blk8 HRX.out
    obtain ⟨g0, g1, g2, g3, g4, g5, g6, g7, fgx, _⟩ := blk8 HX0.out
    have zgx : W.heap.size ≤ gx := Nat.le_trans hV.size hgx.1
    go_wp2
    refine bodyPost_ret (v := .agg #[.bool false, .bool gg, .bool (decide (2 * x0 < l)), .bool (true), .bool false, .bool false, .bool false, .bool false]) (by simp [results, Tryz.results87, go_sem, rr0, rr1, rr2, rr3, rr4, rr5, rr6, rr7]) rfl ⟨by first | rfl | simp [hd1, hd2] | simp [hd], ?_⟩
    exact Below.setCell (Below.setCell (Below.setCell (Below.setCell (Below.setCell (Below.setCell (Below.setCell (Below.setCell (Below.setCell (Below.setCell hbW zgx _) zgx _) (by simp) _) (by simp) _) (by simp) _) (by simp) _) (by simp) _) (by simp) _) (by simp) _) (by simp) _
  · have hd : decide (8 * x2 < w) = false := by simpa using h1
    have Hq : Hid ((decide (8 * x2 < w) || decide (8 * (w - x3) < w)) = decide (8 * (w - x3) < w)) := Lib.hid (by rw [hd]; first | done | rfl | simp)
    rw [Hq.out]
    have HRX := Lib.hid ((hbX.block _ zR).trans HR.out)
    obtain ⟨rr0, rr1, rr2, rr3, rr4, rr5, rr6, rr7, frr, zr⟩ := blk8 HRX.out
    obtain ⟨g0, g1, g2, g3, g4, g5, g6, g7, fgx, _⟩ := blk8 HX0.out
    have zgx : W.heap.size ≤ gx := Nat.le_trans hV.size hgx.1
    go_wp2
    refine bodyPost_ret (v := .agg #[.bool false, .bool gg, .bool (decide (2 * x0 < l)), .bool (decide (8 * (w - x3) < w)), .bool false, .bool false, .bool false, .bool false]) (by simp [results, Tryz.results87, go_sem, rr0, rr1, rr2, rr3, rr4, rr5, rr6, rr7]) rfl ⟨by first | rfl | simp [hd1, hd2] | simp [hd], ?_⟩
    exact Below.setCell (Below.setCell (Below.setCell (Below.setCell (Below.setCell (Below.setCell (Below.setCell (Below.setCell (Below.setCell (Below.setCell hbW zgx _) zgx _) (by simp) _) (by simp) _) (by simp) _) (by simp) _) (by simp) _) (by simp) _) (by simp) _) (by simp) _
end Go.Proofs.YtjglkglaogaenaaGreatDoor
