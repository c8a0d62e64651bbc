/- texts of mine, merged: S3, S4. -/
import Derived.Test.YtjglkglaogaenaaGreatDoorGW
/- joint.standard and the reference's, at every kind. -/
namespace Go.Proofs.YtjglkglaogaenaaGreatDoor
open Go.RowKit Go.Shelf
set_option linter.unusedVariables false
attribute [local go_sem] Ext.cell Ext.frozen

theorem ints_lit {W : World} {T : TypeId} {xs : List Int} {V : World} (h : W.alloc (.cells (xs.map (Value.int .i64)).toArray T) = V) (g m c : Nat) (hg : g = W.heap.size) (hm : m = xs.length) (hc : c = xs.length) : Ints V (.slice (some ⟨g, 0, none⟩) m c) xs := by
  subst h hm hc
  exact ints_newL xs hg

set_option maxRecDepth 100000 in
set_option maxHeartbeats 2000000 in
theorem standard_0 (l w t : Int) (W : World) (hl : 1 ≤ l ∧ l ≤ 100000) (hw : 1 ≤ w ∧ w ≤ 100000) (ht : 1 ≤ t ∧ t ≤ 100000) : Calls Tryz.prog 79 #[.int .i64 0, .int .i64 l, .int .i64 w, .int .i64 t] W (RetL W [t / 2]) := by
  go_enter Tryz.func79, Tryz.ntmps79
  go_wp2
  go_ret
  refine ⟨_, rfl, ?_, ?_, ok_new (by first | rfl | simp)⟩
  · (repeat (first | exact Below.refl _ _ | assumption | (refine below_trans ?_ (Ext.below _)) | (refine Below.trans ?_ ((Ext.below _).mono (by first | omega | (simp; omega)))) | (refine Below.alloc ?_ (by first | omega | (simp; done) | (simp; omega)) _) | (refine Below.setCell ?_ (by first | omega | (simp; done) | (simp; omega)) _) | (refine Below.drew ?_)))
  · exact ints_lit (xs := [t / 2]) rfl _ _ _ (by simp) rfl rfl

set_option maxRecDepth 100000 in
set_option maxHeartbeats 2000000 in
theorem standard_8 (l w t : Int) (W : World) (hl : 1 ≤ l ∧ l ≤ 100000) (hw : 1 ≤ w ∧ w ≤ 100000) (ht : 1 ≤ t ∧ t ≤ 100000) : Calls Tryz.prog 79 #[.int .i64 8, .int .i64 l, .int .i64 w, .int .i64 t] W (RetL W [l / 2, t / 6, 7 * (t / 6) / 5, l / 3, l / 3, l / 24, w / 4, t / 2, w - w / 4, t / 2]) := by
  go_enter Tryz.func79, Tryz.ntmps79
  go_wp2
  go_ret
  refine ⟨_, rfl, ?_, ?_, ok_new (by first | rfl | simp)⟩
  · (repeat (first | exact Below.refl _ _ | assumption | (refine below_trans ?_ (Ext.below _)) | (refine Below.trans ?_ ((Ext.below _).mono (by first | omega | (simp; omega)))) | (refine Below.alloc ?_ (by first | omega | (simp; done) | (simp; omega)) _) | (refine Below.setCell ?_ (by first | omega | (simp; done) | (simp; omega)) _) | (refine Below.drew ?_)))
  · exact ints_lit (xs := [l / 2, t / 6, 7 * (t / 6) / 5, l / 3, l / 3, l / 24, w / 4, t / 2, w - w / 4, t / 2]) rfl _ _ _ (by simp) rfl rfl

set_option maxRecDepth 100000 in
set_option maxHeartbeats 2000000 in
theorem standard_9 (l w t : Int) (W : World) (hl : 1 ≤ l ∧ l ≤ 100000) (hw : 1 ≤ w ∧ w ≤ 100000) (ht : 1 ≤ t ∧ t ≤ 100000) : Calls Tryz.prog 79 #[.int .i64 9, .int .i64 l, .int .i64 w, .int .i64 t] W (RetL W [l, l / 8, l / 4, t / 4, t - t / 4]) := by
  go_enter Tryz.func79, Tryz.ntmps79
  go_wp2
  go_ret
  refine ⟨_, rfl, ?_, ?_, ok_new (by first | rfl | simp)⟩
  · (repeat (first | exact Below.refl _ _ | assumption | (refine below_trans ?_ (Ext.below _)) | (refine Below.trans ?_ ((Ext.below _).mono (by first | omega | (simp; omega)))) | (refine Below.alloc ?_ (by first | omega | (simp; done) | (simp; omega)) _) | (refine Below.setCell ?_ (by first | omega | (simp; done) | (simp; omega)) _) | (refine Below.drew ?_)))
  · exact ints_lit (xs := [l, l / 8, l / 4, t / 4, t - t / 4]) rfl _ _ _ (by simp) rfl rfl

set_option maxRecDepth 100000 in
set_option maxHeartbeats 2000000 in
theorem standard_10 (l w t : Int) (W : World) (hl : 1 ≤ l ∧ l ≤ 100000) (hw : 1 ≤ w ∧ w ≤ 100000) (ht : 1 ≤ t ∧ t ≤ 100000) : Calls Tryz.prog 79 #[.int .i64 10, .int .i64 l, .int .i64 w, .int .i64 t] W (RetL W [t / 2, l / 3, l - l / 3, w / 3, w - w / 3]) := by
  go_enter Tryz.func79, Tryz.ntmps79
  go_wp2
  go_ret
  refine ⟨_, rfl, ?_, ?_, ok_new (by first | rfl | simp)⟩
  · (repeat (first | exact Below.refl _ _ | assumption | (refine below_trans ?_ (Ext.below _)) | (refine Below.trans ?_ ((Ext.below _).mono (by first | omega | (simp; omega)))) | (refine Below.alloc ?_ (by first | omega | (simp; done) | (simp; omega)) _) | (refine Below.setCell ?_ (by first | omega | (simp; done) | (simp; omega)) _) | (refine Below.drew ?_)))
  · exact ints_lit (xs := [t / 2, l / 3, l - l / 3, w / 3, w - w / 3]) rfl _ _ _ (by simp) rfl rfl

set_option maxRecDepth 100000 in
set_option maxHeartbeats 2000000 in
theorem standard_2 (l w t : Int) (W : World) (hl : 1 ≤ l ∧ l ≤ 100000) (hw : 1 ≤ w ∧ w ≤ 100000) (ht : 1 ≤ t ∧ t ≤ 100000) : Calls Tryz.prog 79 #[.int .i64 2, .int .i64 l, .int .i64 w, .int .i64 t] W (RetL W [w / 6, w - w / 6, t / 3, t - t / 3]) := by
  go_enter Tryz.func79, Tryz.ntmps79
  go_wp2
  go_ret
  refine ⟨_, rfl, ?_, ?_, ok_new (by first | rfl | simp)⟩
  · (repeat (first | exact Below.refl _ _ | assumption | (refine below_trans ?_ (Ext.below _)) | (refine Below.trans ?_ ((Ext.below _).mono (by first | omega | (simp; omega)))) | (refine Below.alloc ?_ (by first | omega | (simp; done) | (simp; omega)) _) | (refine Below.setCell ?_ (by first | omega | (simp; done) | (simp; omega)) _) | (refine Below.drew ?_)))
  · exact ints_lit (xs := [w / 6, w - w / 6, t / 3, t - t / 3]) rfl _ _ _ rfl rfl rfl

set_option maxRecDepth 100000 in
set_option maxHeartbeats 2000000 in
theorem standard_1 (l w t : Int) (W : World) (hl : 1 ≤ l ∧ l ≤ 100000) (hw : 1 ≤ w ∧ w ≤ 100000) (ht : 1 ≤ t ∧ t ≤ 100000) : Calls Tryz.prog 79 #[.int .i64 1, .int .i64 l, .int .i64 w, .int .i64 t] W (RetL W [t / 3, t - t / 3]) := by
  go_enter Tryz.func79, Tryz.ntmps79
  go_wp2
  go_ret
  refine ⟨_, rfl, ?_, ?_, ok_new (by first | rfl | simp)⟩
  · (repeat (first | exact Below.refl _ _ | assumption | (refine below_trans ?_ (Ext.below _)) | (refine Below.trans ?_ ((Ext.below _).mono (by first | omega | (simp; omega)))) | (refine Below.alloc ?_ (by first | omega | (simp; done) | (simp; omega)) _) | (refine Below.setCell ?_ (by first | omega | (simp; done) | (simp; omega)) _) | (refine Below.drew ?_)))
  · refine ⟨_, _, _, rfl, rfl, by simp, fun _ => ⟨_, _, rfl, fun i hi => ?_⟩⟩
    match i, hi with
    | 0, _ => exact (cell_new rfl 2).trans rfl
    | 1, _ => exact (cell_new rfl 3).trans rfl
set_option maxRecDepth 100000 in
set_option maxHeartbeats 2000000 in
theorem standard_5 (l w t : Int) (W : World) (hl : 1 ≤ l ∧ l ≤ 100000) (hw : 1 ≤ w ∧ w ≤ 100000) (ht : 1 ≤ t ∧ t ≤ 100000) : Calls Tryz.prog 79 #[.int .i64 5, .int .i64 l, .int .i64 w, .int .i64 t] W (RetL W (stdTails l w t)) := by
  have h := fun W' => Lib.hid (standardTails_any l w t W' hl hw ht)
  go_enter Tryz.func79, Tryz.ntmps79
  go_wp2_with fail
  refine ((h _).out).mono ?_
  rintro e w1 ⟨r, rfl, hb1, hI, hN⟩
  go_wp2
  go_ret
  exact ⟨_, rfl, below_trans (by (repeat (first | exact Below.refl _ _ | assumption | (refine below_trans ?_ (Ext.below _)) | (refine Below.trans ?_ ((Ext.below _).mono (by first | omega | (simp; omega)))) | (refine Below.alloc ?_ (by first | omega | (simp; done) | (simp; omega)) _) | (refine Below.setCell ?_ (by first | omega | (simp; done) | (simp; omega)) _) | (refine Below.drew ?_)))) hb1, hI, hN⟩
set_option maxRecDepth 100000 in
set_option maxHeartbeats 2000000 in
theorem standard_7 (l w t : Int) (W : World) (hw : 1 ≤ w ∧ w ≤ 100000) (ht : 1 ≤ t ∧ t ≤ 100000) : Calls Tryz.prog 79 #[.int .i64 7, .int .i64 l, .int .i64 w, .int .i64 t] W (RetL W (fingTo t (fingN w t))) := by
  have h := fun W' => Lib.hid (standardFingers_any w t W' hw ht)
  go_enter Tryz.func79, Tryz.ntmps79
  go_wp2_with fail
  refine ((h _).out).mono ?_
  rintro e w1 ⟨r, rfl, hb1, hI, hN⟩
  go_wp2
  go_ret
  exact ⟨_, rfl, below_trans (by (repeat (first | exact Below.refl _ _ | assumption | (refine below_trans ?_ (Ext.below _)) | (refine Below.trans ?_ ((Ext.below _).mono (by first | omega | (simp; omega)))) | (refine Below.alloc ?_ (by first | omega | (simp; done) | (simp; omega)) _) | (refine Below.setCell ?_ (by first | omega | (simp; done) | (simp; omega)) _) | (refine Below.drew ?_)))) hb1, hI, hN⟩
set_option maxRecDepth 100000 in
set_option maxHeartbeats 2000000 in
theorem standard_6 (l w t : Int) (W : World) (hl : 1 ≤ l ∧ l ≤ 100000) (hw : 1 ≤ w ∧ w ≤ 100000) (ht : 1 ≤ t ∧ t ≤ 100000) : Calls Tryz.prog 79 #[.int .i64 6, .int .i64 l, .int .i64 w, .int .i64 t] W (RetL W [(l - 6 * t) / 2, 1, 6]) := by
  have h := fun W' => Lib.hid (half_any (l - 6 * t) W')
  go_enter Tryz.func79, Tryz.ntmps79
  go_wp2_with fail
  refine ((h _).out).mono ?_
  rintro e w1 ⟨rfl, rfl⟩
  go_wp2
  go_ret
  refine ⟨_, rfl, ?_, ?_, ok_new (by first | rfl | simp)⟩
  · (repeat (first | exact Below.refl _ _ | assumption | (refine below_trans ?_ (Ext.below _)) | (refine Below.trans ?_ ((Ext.below _).mono (by first | omega | (simp; omega)))) | (refine Below.alloc ?_ (by first | omega | (simp; done) | (simp; omega)) _) | (refine Below.setCell ?_ (by first | omega | (simp; done) | (simp; omega)) _) | (refine Below.drew ?_)))
  · exact ints_lit (xs := [(l - 6 * t) / 2, 1, 6]) rfl _ _ _ (by simp) rfl rfl

set_option maxRecDepth 100000 in
set_option maxHeartbeats 2000000 in
theorem standard_3 (l w t : Int) (W : World) (hl : 1 ≤ l ∧ l ≤ 100000) (hw : 1 ≤ w ∧ w ≤ 100000) (ht : 1 ≤ t ∧ t ≤ 100000) : Calls Tryz.prog 79 #[.int .i64 3, .int .i64 l, .int .i64 w, .int .i64 t] W (RetL W [2 * l / 3, l / 24, w / 6, w - w / 6, t / 3, t - t / 3]) := by
  obtain ⟨V, HV⟩ : ∃ V, Hid (((W.alloc (.cells #[.int .i64 (w / 6), .int .i64 (w - w / 6), .int .i64 (t / 3), .int .i64 (t - t / 3)] 3)).alloc (.cells #[.int .i64 (2 * l / 3), .int .i64 (l / 24)] 3)).alloc (.cells #[.slice (some ⟨W.heap.size + 1, 0, none⟩) 2 2, .slice (some ⟨W.heap.size, 0, none⟩) 4 4] 23) = V) := ⟨_, Lib.hid rfl⟩
  have hV : Below W.heap.size W V := by rw [← HV.out]; (repeat (first | exact Below.refl _ _ | assumption | (refine below_trans ?_ (Ext.below _)) | (refine Below.trans ?_ ((Ext.below _).mono (by first | omega | (simp; omega)))) | (refine Below.alloc ?_ (by first | omega | (simp; done) | (simp; omega)) _) | (refine Below.setCell ?_ (by first | omega | (simp; done) | (simp; omega)) _) | (refine Below.drew ?_)))
  have g0 : V.heap[W.heap.size]? = some (.cells #[.int .i64 (w / 6), .int .i64 (w - w / 6), .int .i64 (t / 3), .int .i64 (t - t / 3)] 3 (0, 0)) := by rw [← HV.out]; exact (heap_old (by simp; omega)).trans ((heap_old (by simp)).trans (heap_new rfl))
  have g1 : V.heap[W.heap.size + 1]? = some (.cells #[.int .i64 (2 * l / 3), .int .i64 (l / 24)] 3 (0, 0)) := by rw [← HV.out]; exact (heap_old (by simp)).trans (heap_new (by simp))
  have g2 : V.heap[W.heap.size + 2]? = some (.cells #[.slice (some ⟨W.heap.size + 1, 0, none⟩) 2 2, .slice (some ⟨W.heap.size, 0, none⟩) 4 4] 23 (0, 0)) := by rw [← HV.out]; exact heap_new (by simp)
  have hcat := Lib.hid (concat_int V (W.heap.size + 2) 0 2 [[2 * l / 3, l / 24].map (Value.int .i64), [w / 6, w - w / 6, t / 3, t - t / 3].map (Value.int .i64)] (by
      intro i hi
      match i, hi with
      | 0, _ =>
        refine ⟨_, (blk_cell g2 0).trans rfl, raw_of_ints (xs := [2 * l / 3, l / 24]) ⟨_, _, _, rfl, rfl, Nat.le_refl _, fun _ => ⟨_, _, rfl, fun i hi => ?_⟩⟩ nil_some⟩
        rw [blk_cell g1, Nat.zero_add]
        match i, hi with
        | 0, _ => rfl
        | 1, _ => rfl
      | 1, _ =>
        refine ⟨_, (blk_cell g2 1).trans rfl, raw_of_ints (xs := [w / 6, w - w / 6, t / 3, t - t / 3]) ⟨_, _, _, rfl, rfl, by simp, fun _ => ⟨_, _, rfl, fun i hi => ?_⟩⟩ nil_some⟩
        rw [blk_cell g0]
        match i, hi with
        | 0, _ => rfl
        | 1, _ => rfl
        | 2, _ => rfl
        | 3, _ => rfl) (by simp) (by simp) (by
      intro cs hcs u hu
      simp only [List.mem_cons, List.not_mem_nil, or_false] at hcs
      rcases hcs with rfl | rfl <;> (simp only [List.mem_map] at hu; obtain ⟨_, _, rfl⟩ := hu; rfl)) (by simp))
  clear g0 g1 g2
  go_enter Tryz.func79, Tryz.ntmps79
  go_wp2_with fail
  rw [HV.out]
  refine (hcat.out).mono ?_
  rintro e w1 ⟨r, m, rfl, hb1, ho⟩
  have hm : m = 6 := by have := ho.1; simp at this; omega
  subst hm
  go_wp2
  go_ret
  exact ⟨_, rfl, below_trans hV hb1, ints_own (xs := [2 * l / 3, l / 24, w / 6, w - w / 6, t / 3, t - t / 3]) (by simpa using ho), ok_own ho⟩

set_option maxRecDepth 100000 in
set_option maxHeartbeats 2000000 in
theorem standard_4 (l w t : Int) (W : World) (hl : 1 ≤ l ∧ l ≤ 100000) (hw : 1 ≤ w ∧ w ≤ 100000) (ht : 1 ≤ t ∧ t ≤ 100000) : Calls Tryz.prog 79 #[.int .i64 4, .int .i64 l, .int .i64 w, .int .i64 t] W (RetL W [l / 2, l / 24, t / 3, t - t / 3]) := by
  obtain ⟨V, HV⟩ : ∃ V, Hid (((W.alloc (.cells #[.int .i64 (w / 6), .int .i64 (w - w / 6), .int .i64 (t / 3), .int .i64 (t - t / 3)] 3)).alloc (.cells #[.int .i64 (l / 2), .int .i64 (l / 24)] 3)).alloc (.cells #[.slice (some ⟨W.heap.size + 1, 0, none⟩) 2 2, .slice (some ⟨W.heap.size, 2, none⟩) 2 2] 23) = V) := ⟨_, Lib.hid rfl⟩
  have hV : Below W.heap.size W V := by rw [← HV.out]; (repeat (first | exact Below.refl _ _ | assumption | (refine below_trans ?_ (Ext.below _)) | (refine Below.trans ?_ ((Ext.below _).mono (by first | omega | (simp; omega)))) | (refine Below.alloc ?_ (by first | omega | (simp; done) | (simp; omega)) _) | (refine Below.setCell ?_ (by first | omega | (simp; done) | (simp; omega)) _) | (refine Below.drew ?_)))
  have g0 : V.heap[W.heap.size]? = some (.cells #[.int .i64 (w / 6), .int .i64 (w - w / 6), .int .i64 (t / 3), .int .i64 (t - t / 3)] 3 (0, 0)) := by rw [← HV.out]; exact (heap_old (by simp; omega)).trans ((heap_old (by simp)).trans (heap_new rfl))
  have g1 : V.heap[W.heap.size + 1]? = some (.cells #[.int .i64 (l / 2), .int .i64 (l / 24)] 3 (0, 0)) := by rw [← HV.out]; exact (heap_old (by simp)).trans (heap_new (by simp))
  have g2 : V.heap[W.heap.size + 2]? = some (.cells #[.slice (some ⟨W.heap.size + 1, 0, none⟩) 2 2, .slice (some ⟨W.heap.size, 2, none⟩) 2 2] 23 (0, 0)) := by rw [← HV.out]; exact heap_new (by simp)
  have hcat := Lib.hid (concat_int V (W.heap.size + 2) 0 2 [[l / 2, l / 24].map (Value.int .i64), [t / 3, t - t / 3].map (Value.int .i64)] (by
      intro i hi
      match i, hi with
      | 0, _ =>
        refine ⟨_, (blk_cell g2 0).trans rfl, raw_of_ints (xs := [l / 2, l / 24]) ⟨_, _, _, rfl, rfl, Nat.le_refl _, fun _ => ⟨_, _, rfl, fun i hi => ?_⟩⟩ nil_some⟩
        rw [blk_cell g1, Nat.zero_add]
        match i, hi with
        | 0, _ => rfl
        | 1, _ => rfl
      | 1, _ =>
        refine ⟨_, (blk_cell g2 1).trans rfl, raw_of_ints (xs := [t / 3, t - t / 3]) ⟨_, _, _, rfl, rfl, by simp, fun _ => ⟨_, _, rfl, fun i hi => ?_⟩⟩ nil_some⟩
        rw [blk_cell g0]
        match i, hi with
        | 0, _ => rfl
        | 1, _ => rfl) (by simp) (by simp) (by
      intro cs hcs u hu
      simp only [List.mem_cons, List.not_mem_nil, or_false] at hcs
      rcases hcs with rfl | rfl <;> (simp only [List.mem_map] at hu; obtain ⟨_, _, rfl⟩ := hu; rfl)) (by simp))
  clear g0 g1 g2
  go_enter Tryz.func79, Tryz.ntmps79
  go_wp2_with fail
  rw [HV.out]
  refine (hcat.out).mono ?_
  rintro e w1 ⟨r, m, rfl, hb1, ho⟩
  have hm : m = 4 := by have := ho.1; simp at this; omega
  subst hm
  go_wp2
  go_ret
  exact ⟨_, rfl, below_trans hV hb1, ints_own (xs := [l / 2, l / 24, t / 3, t - t / 3]) (by simpa using ho), ok_own ho⟩

theorem standard_any (k l w t : Int) (W : World) (hk : 0 ≤ k ∧ k ≤ 10) (hl : 1 ≤ l ∧ l ≤ 100000) (hw : 1 ≤ w ∧ w ≤ 100000) (ht : 1 ≤ t ∧ t ≤ 100000) : Calls Tryz.prog 79 #[.int .i64 k, .int .i64 l, .int .i64 w, .int .i64 t] W (RetL W (stdN k l w t)) := by
  rcases (by omega : k = 0 ∨ k = 1 ∨ k = 2 ∨ k = 3 ∨ k = 4 ∨ k = 5 ∨ k = 6 ∨ k = 7 ∨ k = 8 ∨ k = 9 ∨ k = 10) with rfl | rfl | rfl | rfl | rfl | rfl | rfl | rfl | rfl | rfl | rfl
  · exact standard_0 l w t W hl hw ht
  · exact standard_1 l w t W hl hw ht
  · exact standard_2 l w t W hl hw ht
  · exact standard_3 l w t W hl hw ht
  · exact standard_4 l w t W hl hw ht
  · exact standard_5 l w t W hl hw ht
  · exact standard_6 l w t W hl hw ht
  · exact standard_7 l w t W hw ht
  · exact standard_8 l w t W hl hw ht
  · exact standard_9 l w t W hl hw ht
  · exact standard_10 l w t W hl hw ht
end Go.Proofs.YtjglkglaogaenaaGreatDoor
/- The reference's standard, at every kind. -/
namespace Go.Proofs.YtjglkglaogaenaaGreatDoor
open Go.RowKit Go.Shelf
set_option linter.unusedVariables false
attribute [local go_sem] Ext.cell Ext.frozen

set_option maxRecDepth 100000 in
set_option maxHeartbeats 2000000 in
theorem rstandard_0 (l w t : Int) (W : World) (hl : 1 ≤ l ∧ l ≤ 100000) (hw : 1 ≤ w ∧ w ≤ 100000) (ht : 1 ≤ t ∧ t ≤ 100000) : Calls Tryz.prog 80 #[.int .i64 0, .agg #[.int .i64 l, .int .i64 w, .int .i64 t]] W (RetL W [t / 2]) := by
  go_enter Tryz.func80, Tryz.ntmps80
  go_wp2
  refine wp_region_quietB (by kernel_rfl) (by kernel_rfl) ?_
  repeat (first | go_big_quiet_step (fail) | quiet_step (fail))
  refine wpQuiet_nil ?_
  rintro _ ⟨u, rfl⟩
  have hbu : Below W.heap.size W u.val := by (repeat (first | exact Below.refl _ _ | assumption | (refine below_trans ?_ (Ext.below _)) | (refine Below.trans ?_ ((Ext.below _).mono (by first | omega | (simp; omega)))) | (refine Below.alloc ?_ (by first | omega | (simp; done) | (simp; omega)) _) | (refine Below.setCell ?_ (by first | omega | (simp; done) | (simp; omega)) _) | (refine Below.drew ?_)))
  go_wp2
  go_ret
  refine ⟨_, rfl, below_trans hbu (by (repeat (first | exact Below.refl _ _ | assumption | (refine below_trans ?_ (Ext.below _)) | (refine Below.trans ?_ ((Ext.below _).mono (by first | omega | (simp; omega)))) | (refine Below.alloc ?_ (by first | omega | (simp; done) | (simp; omega)) _) | (refine Below.setCell ?_ (by first | omega | (simp; done) | (simp; omega)) _) | (refine Below.drew ?_)))), ?_, ok_new rfl⟩
  exact ints_lit (xs := [t / 2]) rfl _ _ _ rfl rfl rfl

set_option maxRecDepth 100000 in
set_option maxHeartbeats 2000000 in
theorem rstandard_1 (l w t : Int) (W : World) (hl : 1 ≤ l ∧ l ≤ 100000) (hw : 1 ≤ w ∧ w ≤ 100000) (ht : 1 ≤ t ∧ t ≤ 100000) : Calls Tryz.prog 80 #[.int .i64 1, .agg #[.int .i64 l, .int .i64 w, .int .i64 t]] W (RetL W [t / 3, t - t / 3]) := by
  go_enter Tryz.func80, Tryz.ntmps80
  go_wp2
  refine wp_region_quietB (by kernel_rfl) (by kernel_rfl) ?_
  repeat (first | go_big_quiet_step (fail) | quiet_step (fail))
  refine wpQuiet_nil ?_
  rintro _ ⟨u, rfl⟩
  have hbu : Below W.heap.size W u.val := by (repeat (first | exact Below.refl _ _ | assumption | (refine below_trans ?_ (Ext.below _)) | (refine Below.trans ?_ ((Ext.below _).mono (by first | omega | (simp; omega)))) | (refine Below.alloc ?_ (by first | omega | (simp; done) | (simp; omega)) _) | (refine Below.setCell ?_ (by first | omega | (simp; done) | (simp; omega)) _) | (refine Below.drew ?_)))
  go_wp2
  go_ret
  refine ⟨_, rfl, below_trans hbu (by (repeat (first | exact Below.refl _ _ | assumption | (refine below_trans ?_ (Ext.below _)) | (refine Below.trans ?_ ((Ext.below _).mono (by first | omega | (simp; omega)))) | (refine Below.alloc ?_ (by first | omega | (simp; done) | (simp; omega)) _) | (refine Below.setCell ?_ (by first | omega | (simp; done) | (simp; omega)) _) | (refine Below.drew ?_)))), ?_, ok_new rfl⟩
  exact ints_lit (xs := [t / 3, t - t / 3]) rfl _ _ _ rfl rfl rfl

set_option maxRecDepth 100000 in
set_option maxHeartbeats 2000000 in
theorem rstandard_2 (l w t : Int) (W : World) (hl : 1 ≤ l ∧ l ≤ 100000) (hw : 1 ≤ w ∧ w ≤ 100000) (ht : 1 ≤ t ∧ t ≤ 100000) : Calls Tryz.prog 80 #[.int .i64 2, .agg #[.int .i64 l, .int .i64 w, .int .i64 t]] W (RetL W [w / 6, w - w / 6, t / 3, t - t / 3]) := by
  go_enter Tryz.func80, Tryz.ntmps80
  go_wp2
  refine wp_region_quietB (by kernel_rfl) (by kernel_rfl) ?_
  repeat (first | go_big_quiet_step (fail) | quiet_step (fail))
  refine wpQuiet_nil ?_
  rintro _ ⟨u, rfl⟩
  have hbu : Below W.heap.size W u.val := by (repeat (first | exact Below.refl _ _ | assumption | (refine below_trans ?_ (Ext.below _)) | (refine Below.trans ?_ ((Ext.below _).mono (by first | omega | (simp; omega)))) | (refine Below.alloc ?_ (by first | omega | (simp; done) | (simp; omega)) _) | (refine Below.setCell ?_ (by first | omega | (simp; done) | (simp; omega)) _) | (refine Below.drew ?_)))
  go_wp2
  go_ret
  refine ⟨_, rfl, below_trans hbu (by (repeat (first | exact Below.refl _ _ | assumption | (refine below_trans ?_ (Ext.below _)) | (refine Below.trans ?_ ((Ext.below _).mono (by first | omega | (simp; omega)))) | (refine Below.alloc ?_ (by first | omega | (simp; done) | (simp; omega)) _) | (refine Below.setCell ?_ (by first | omega | (simp; done) | (simp; omega)) _) | (refine Below.drew ?_)))), ?_, ok_new rfl⟩
  exact ints_lit (xs := [w / 6, w - w / 6, t / 3, t - t / 3]) rfl _ _ _ rfl rfl rfl

set_option maxRecDepth 100000 in
set_option maxHeartbeats 2000000 in
theorem rstandard_3 (l w t : Int) (W : World) (hl : 1 ≤ l ∧ l ≤ 100000) (hw : 1 ≤ w ∧ w ≤ 100000) (ht : 1 ≤ t ∧ t ≤ 100000) : Calls Tryz.prog 80 #[.int .i64 3, .agg #[.int .i64 l, .int .i64 w, .int .i64 t]] W (RetL W [2 * l / 3, l / 24, w / 6, w - w / 6, t / 3, t - t / 3]) := by
  go_enter Tryz.func80, Tryz.ntmps80
  go_wp2
  refine wp_region_quietB (by kernel_rfl) (by kernel_rfl) ?_
  repeat (first | go_big_quiet_step (fail) | quiet_step (fail))
  refine wpQuiet_nil ?_
  rintro _ ⟨u, rfl⟩
  have hbu : Below W.heap.size W u.val := by (repeat (first | exact Below.refl _ _ | assumption | (refine below_trans ?_ (Ext.below _)) | (refine Below.trans ?_ ((Ext.below _).mono (by first | omega | (simp; omega)))) | (refine Below.alloc ?_ (by first | omega | (simp; done) | (simp; omega)) _) | (refine Below.setCell ?_ (by first | omega | (simp; done) | (simp; omega)) _) | (refine Below.drew ?_)))
  go_wp2
  go_ret
  refine ⟨_, rfl, below_trans hbu (by (repeat (first | exact Below.refl _ _ | assumption | (refine below_trans ?_ (Ext.below _)) | (refine Below.trans ?_ ((Ext.below _).mono (by first | omega | (simp; omega)))) | (refine Below.alloc ?_ (by first | omega | (simp; done) | (simp; omega)) _) | (refine Below.setCell ?_ (by first | omega | (simp; done) | (simp; omega)) _) | (refine Below.drew ?_)))), ?_, ok_new rfl⟩
  exact ints_lit (xs := [2 * l / 3, l / 24, w / 6, w - w / 6, t / 3, t - t / 3]) rfl _ _ _ rfl rfl rfl

set_option maxRecDepth 100000 in
set_option maxHeartbeats 2000000 in
theorem rstandard_4 (l w t : Int) (W : World) (hl : 1 ≤ l ∧ l ≤ 100000) (hw : 1 ≤ w ∧ w ≤ 100000) (ht : 1 ≤ t ∧ t ≤ 100000) : Calls Tryz.prog 80 #[.int .i64 4, .agg #[.int .i64 l, .int .i64 w, .int .i64 t]] W (RetL W [l / 2, l / 24, t / 3, t - t / 3]) := by
  go_enter Tryz.func80, Tryz.ntmps80
  go_wp2
  refine wp_region_quietB (by kernel_rfl) (by kernel_rfl) ?_
  repeat (first | go_big_quiet_step (fail) | quiet_step (fail))
  refine wpQuiet_nil ?_
  rintro _ ⟨u, rfl⟩
  have hbu : Below W.heap.size W u.val := by (repeat (first | exact Below.refl _ _ | assumption | (refine below_trans ?_ (Ext.below _)) | (refine Below.trans ?_ ((Ext.below _).mono (by first | omega | (simp; omega)))) | (refine Below.alloc ?_ (by first | omega | (simp; done) | (simp; omega)) _) | (refine Below.setCell ?_ (by first | omega | (simp; done) | (simp; omega)) _) | (refine Below.drew ?_)))
  go_wp2
  go_ret
  refine ⟨_, rfl, below_trans hbu (by (repeat (first | exact Below.refl _ _ | assumption | (refine below_trans ?_ (Ext.below _)) | (refine Below.trans ?_ ((Ext.below _).mono (by first | omega | (simp; omega)))) | (refine Below.alloc ?_ (by first | omega | (simp; done) | (simp; omega)) _) | (refine Below.setCell ?_ (by first | omega | (simp; done) | (simp; omega)) _) | (refine Below.drew ?_)))), ?_, ok_new rfl⟩
  exact ints_lit (xs := [l / 2, l / 24, t / 3, t - t / 3]) rfl _ _ _ rfl rfl rfl

set_option maxRecDepth 100000 in
set_option maxHeartbeats 2000000 in
theorem rstandard_8 (l w t : Int) (W : World) (hl : 1 ≤ l ∧ l ≤ 100000) (hw : 1 ≤ w ∧ w ≤ 100000) (ht : 1 ≤ t ∧ t ≤ 100000) : Calls Tryz.prog 80 #[.int .i64 8, .agg #[.int .i64 l, .int .i64 w, .int .i64 t]] W (RetL W [l / 2, t / 6, 7 * (t / 6) / 5, l / 3, l / 3, l / 24, w / 4, t / 2, w - w / 4, t / 2]) := by
  go_enter Tryz.func80, Tryz.ntmps80
  go_wp2
  refine wp_region_quietB (by kernel_rfl) (by kernel_rfl) ?_
  repeat (first | go_big_quiet_step (fail) | quiet_step (fail))
  refine wpQuiet_nil ?_
  rintro _ ⟨u, rfl⟩
  have hbu : Below W.heap.size W u.val := by (repeat (first | exact Below.refl _ _ | assumption | (refine below_trans ?_ (Ext.below _)) | (refine Below.trans ?_ ((Ext.below _).mono (by first | omega | (simp; omega)))) | (refine Below.alloc ?_ (by first | omega | (simp; done) | (simp; omega)) _) | (refine Below.setCell ?_ (by first | omega | (simp; done) | (simp; omega)) _) | (refine Below.drew ?_)))
  go_wp2
  go_ret
  refine ⟨_, rfl, below_trans hbu (by (repeat (first | exact Below.refl _ _ | assumption | (refine below_trans ?_ (Ext.below _)) | (refine Below.trans ?_ ((Ext.below _).mono (by first | omega | (simp; omega)))) | (refine Below.alloc ?_ (by first | omega | (simp; done) | (simp; omega)) _) | (refine Below.setCell ?_ (by first | omega | (simp; done) | (simp; omega)) _) | (refine Below.drew ?_)))), ?_, ok_new rfl⟩
  exact ints_lit (xs := [l / 2, t / 6, 7 * (t / 6) / 5, l / 3, l / 3, l / 24, w / 4, t / 2, w - w / 4, t / 2]) rfl _ _ _ rfl rfl rfl

set_option maxRecDepth 100000 in
set_option maxHeartbeats 2000000 in
theorem rstandard_9 (l w t : Int) (W : World) (hl : 1 ≤ l ∧ l ≤ 100000) (hw : 1 ≤ w ∧ w ≤ 100000) (ht : 1 ≤ t ∧ t ≤ 100000) : Calls Tryz.prog 80 #[.int .i64 9, .agg #[.int .i64 l, .int .i64 w, .int .i64 t]] W (RetL W [l, l / 8, l / 4, t / 4, t - t / 4]) := by
  go_enter Tryz.func80, Tryz.ntmps80
  go_wp2
  refine wp_region_quietB (by kernel_rfl) (by kernel_rfl) ?_
  repeat (first | go_big_quiet_step (fail) | quiet_step (fail))
  refine wpQuiet_nil ?_
  rintro _ ⟨u, rfl⟩
  have hbu : Below W.heap.size W u.val := by (repeat (first | exact Below.refl _ _ | assumption | (refine below_trans ?_ (Ext.below _)) | (refine Below.trans ?_ ((Ext.below _).mono (by first | omega | (simp; omega)))) | (refine Below.alloc ?_ (by first | omega | (simp; done) | (simp; omega)) _) | (refine Below.setCell ?_ (by first | omega | (simp; done) | (simp; omega)) _) | (refine Below.drew ?_)))
  go_wp2
  go_ret
  refine ⟨_, rfl, below_trans hbu (by (repeat (first | exact Below.refl _ _ | assumption | (refine below_trans ?_ (Ext.below _)) | (refine Below.trans ?_ ((Ext.below _).mono (by first | omega | (simp; omega)))) | (refine Below.alloc ?_ (by first | omega | (simp; done) | (simp; omega)) _) | (refine Below.setCell ?_ (by first | omega | (simp; done) | (simp; omega)) _) | (refine Below.drew ?_)))), ?_, ok_new rfl⟩
  exact ints_lit (xs := [l, l / 8, l / 4, t / 4, t - t / 4]) rfl _ _ _ rfl rfl rfl

set_option maxRecDepth 100000 in
set_option maxHeartbeats 2000000 in
theorem rstandard_10 (l w t : Int) (W : World) (hl : 1 ≤ l ∧ l ≤ 100000) (hw : 1 ≤ w ∧ w ≤ 100000) (ht : 1 ≤ t ∧ t ≤ 100000) : Calls Tryz.prog 80 #[.int .i64 10, .agg #[.int .i64 l, .int .i64 w, .int .i64 t]] W (RetL W [t / 2, l / 3, l - l / 3, w / 3, w - w / 3]) := by
  go_enter Tryz.func80, Tryz.ntmps80
  go_wp2
  refine wp_region_quietB (by kernel_rfl) (by kernel_rfl) ?_
  repeat (first | go_big_quiet_step (fail) | quiet_step (fail))
  refine wpQuiet_nil ?_
  rintro _ ⟨u, rfl⟩
  have hbu : Below W.heap.size W u.val := by (repeat (first | exact Below.refl _ _ | assumption | (refine below_trans ?_ (Ext.below _)) | (refine Below.trans ?_ ((Ext.below _).mono (by first | omega | (simp; omega)))) | (refine Below.alloc ?_ (by first | omega | (simp; done) | (simp; omega)) _) | (refine Below.setCell ?_ (by first | omega | (simp; done) | (simp; omega)) _) | (refine Below.drew ?_)))
  go_wp2
  go_ret
  refine ⟨_, rfl, below_trans hbu (by (repeat (first | exact Below.refl _ _ | assumption | (refine below_trans ?_ (Ext.below _)) | (refine Below.trans ?_ ((Ext.below _).mono (by first | omega | (simp; omega)))) | (refine Below.alloc ?_ (by first | omega | (simp; done) | (simp; omega)) _) | (refine Below.setCell ?_ (by first | omega | (simp; done) | (simp; omega)) _) | (refine Below.drew ?_)))), ?_, ok_new rfl⟩
  exact ints_lit (xs := [t / 2, l / 3, l - l / 3, w / 3, w - w / 3]) rfl _ _ _ rfl rfl rfl

set_option maxRecDepth 100000 in
set_option maxHeartbeats 2000000 in
theorem rstandard_5 (l w t : Int) (W : World) (hl : 1 ≤ l ∧ l ≤ 100000) (hw : 1 ≤ w ∧ w ≤ 100000) (ht : 1 ≤ t ∧ t ≤ 100000) : Calls Tryz.prog 80 #[.int .i64 5, .agg #[.int .i64 l, .int .i64 w, .int .i64 t]] W (RetL W (stdTails l w t)) := by
  have h := fun W' => Lib.hid (rstandardTails_any l w t W' hl hw ht)
  go_enter Tryz.func80, Tryz.ntmps80
  go_wp2
  refine wp_region_quietB (by kernel_rfl) (by kernel_rfl) ?_
  repeat (first | go_big_quiet_step (fail) | quiet_step (fail))
  refine wpQuiet_nil ?_
  rintro _ ⟨u, rfl⟩
  have hbu : Below W.heap.size W u.val := by (repeat (first | exact Below.refl _ _ | assumption | (refine below_trans ?_ (Ext.below _)) | (refine Below.trans ?_ ((Ext.below _).mono (by first | omega | (simp; omega)))) | (refine Below.alloc ?_ (by first | omega | (simp; done) | (simp; omega)) _) | (refine Below.setCell ?_ (by first | omega | (simp; done) | (simp; omega)) _) | (refine Below.drew ?_)))
  go_wp2_with fail
  refine ((h _).out).mono ?_
  rintro e w1 ⟨r, rfl, hb1, hI, hN⟩
  go_wp2
  go_ret
  exact ⟨_, rfl, below_trans hbu hb1, hI, hN⟩
set_option maxRecDepth 100000 in
set_option maxHeartbeats 2000000 in
theorem rstandard_6 (l w t : Int) (W : World) (hl : 1 ≤ l ∧ l ≤ 100000) (hw : 1 ≤ w ∧ w ≤ 100000) (ht : 1 ≤ t ∧ t ≤ 100000) : Calls Tryz.prog 80 #[.int .i64 6, .agg #[.int .i64 l, .int .i64 w, .int .i64 t]] W (RetL W [(l - 6 * t) / 2, 1, 6]) := by
  have h := fun W' => Lib.hid (Floor_any (l - 6 * t) 2 W' (by omega) (by omega))
  go_enter Tryz.func80, Tryz.ntmps80
  go_wp2
  refine wp_region_quietB (by kernel_rfl) (by kernel_rfl) ?_
  repeat (first | go_big_quiet_step (fail) | quiet_step (fail))
  refine wpQuiet_nil ?_
  rintro _ ⟨u, rfl⟩
  have hbu : Below W.heap.size W u.val := by (repeat (first | exact Below.refl _ _ | assumption | (refine below_trans ?_ (Ext.below _)) | (refine Below.trans ?_ ((Ext.below _).mono (by first | omega | (simp; omega)))) | (refine Below.alloc ?_ (by first | omega | (simp; done) | (simp; omega)) _) | (refine Below.setCell ?_ (by first | omega | (simp; done) | (simp; omega)) _) | (refine Below.drew ?_)))
  go_wp2_with fail
  refine ((h _).out).mono ?_
  rintro e w1 ⟨rfl, rfl⟩
  go_wp2
  go_ret
  refine ⟨_, rfl, below_trans hbu (by (repeat (first | exact Below.refl _ _ | assumption | (refine below_trans ?_ (Ext.below _)) | (refine Below.trans ?_ ((Ext.below _).mono (by first | omega | (simp; omega)))) | (refine Below.alloc ?_ (by first | omega | (simp; done) | (simp; omega)) _) | (refine Below.setCell ?_ (by first | omega | (simp; done) | (simp; omega)) _) | (refine Below.drew ?_)))), ?_, ok_new rfl⟩
  exact ints_lit (xs := [(l - 6 * t) / 2, 1, 6]) rfl _ _ _ rfl rfl rfl
set_option maxRecDepth 100000 in
set_option maxHeartbeats 4000000 in
theorem rstandard_7 (l w t : Int) (W : World) (hw : 1 ≤ w ∧ w ≤ 100000) (ht : 1 ≤ t ∧ t ≤ 100000) : Calls Tryz.prog 80 #[.int .i64 7, .agg #[.int .i64 l, .int .i64 w, .int .i64 t]] W (RetL W (fingTo t (fingN w t))) := by
  obtain ⟨i0, hi0, hz0, hz1, hz2⟩ := info_parts info_intz
  have Hi0 := Lib.hid (And.intro hi0 (And.intro hz0 (And.intro hz1 hz2)))
  clear hi0 hz0 hz1 hz2
  have Hfin : Hid (∀ k : Nat, k ≤ 24 → (∀ i : Nat, i < k → ((i : Int) + 1) * t < w) → (k = 24 ∨ ¬ ((k : Int) + 1) * t < w) → fingN w t = k) := Lib.hid (fun k h1 h2 h3 => fingN_of hw.1 ht.1 h1 h2 h3)
  go_enter Tryz.func80, Tryz.ntmps80
  go_wp2
  refine wp_region_quietB (by kernel_rfl) (by kernel_rfl) ?_
  repeat (first | go_big_quiet_step (fail) | quiet_step (fail))
  refine wpQuiet_nil ?_
  rintro _ ⟨u, rfl⟩
  have hbu : Below W.heap.size W u.val := by (repeat (first | exact Below.refl _ _ | assumption | (refine below_trans ?_ (Ext.below _)) | (refine Below.trans ?_ ((Ext.below _).mono (by first | omega | (simp; omega)))) | (refine Below.alloc ?_ (by first | omega | (simp; done) | (simp; omega)) _) | (refine Below.setCell ?_ (by first | omega | (simp; done) | (simp; omega)) _) | (refine Below.drew ?_)))
  generalize u.val = W0 at *
  clear u
  go_wp2
  go_loopw [8, 9] (fun s i wr => ∃ k : Nat, k ≤ 24 ∧ i = .int .i64 (1 + k) ∧ Below W0.heap.size W0 wr ∧ Hid (wr.ownsRow W0.heap.size 3 1 s k ((fingTo t k).map (Value.int .i64))) ∧ Hid (∀ i : Nat, i < k → ((i : Int) + 1) * t < w)) (fun _ i _ => 25 - (intOf i).toNat)
  case atStart => exact ⟨0, by omega, rfl, Below.refl _ _, Lib.hid (World.ownsRow_nil _ _ _ _), Lib.hid (fun i h => by omega)⟩
  case round =>
    obtain ⟨k, hk, rfl, hbk, HO, HZ⟩ := hrel
    have hYb := mul_bd (a := 1 + (k : Int)) (x := t) (A := 25) (X := 100000) (by omega) (by omega) (by omega) (by omega)
    obtain ⟨Y, HY⟩ : ∃ Y, Hid ((1 + (k : Int)) * t = Y) := ⟨_, Lib.hid rfl⟩
    rw [HY.out] at hYb
    have HY2 : Hid (((k : Int) + 1) * t = Y) := Lib.hid (by rw [← HY.out, Int.add_comm])
    have hYw : wrap64 ((1 + (k : Int)) * t) = Y := by rw [HY.out]; unfold wrap64; omega
    by_cases hlt : k < 24
    · have h25 : (1 + (k : Int)) ≤ 24 := by omega
      by_cases hy : Y < w
      · have Hsn := Lib.hid (fingTo_succ t k)
        rw [HY2.out] at Hsn
        go_wp2_with (at_builtin; refine wpList_append_own _ rfl _ _ 23 rfl W0.heap.size 3 i0 (.int .i64 0) 1 8 und_ints Hi0.out.1 Hi0.out.2.1 Hi0.out.2.2.1 Hi0.out.2.2.2 rfl (by decide) _ k _ rfl (HO.out.alloc _) ⟨wr.heap.size, 0, none⟩ 1 1 [.int .i64 Y] rfl rfl ?c1 ?c2 ?c3 ?c4 ?c5 ?_)
        case c1 =>
          intro jj uu hu
          rw [add0, cell_new rfl jj]
          simpa using hu
        case c2 => intro v hv; simp at hv; subst hv; rfl
        case c3 => unfold maxLen; omega
        case c4 => omega
        case c5 => simp; have := hbk.size; omega
        intro v' w2 hown2 hg2 _
        have hb2 : Below W0.heap.size W0 w2 := (hbk.alloc hbk.size _).grown hg2 (by simp; have := hbk.size; omega) (fun z hz => by have := (HO.out.lt z hz).1; omega)
        have HO2 := Lib.hid hown2
        clear hown2 hg2
        go_wp2
        go_roundw
        case rel => exact ⟨k + 1, by omega, by go_num, hb2, Lib.hid (by rw [Hsn.out]; simpa using HO2.out), Lib.hid (fun i hi => by
          by_cases e : i = k
          · subst e; rw [HY2.out]; omega
          · exact HZ.out i (by omega))⟩
        case measure => simp [intOf]; omega
      · have He := Lib.hid (Hfin.out k hk HZ.out (Or.inr (by rw [HY2.out]; omega)))
        go_wp2
        go_ret
        refine ⟨_, rfl, below_trans hbu hbk, ?_, ok_own HO.out⟩
        rw [He.out]
        exact ints_own (by rw [fingTo_len]; exact HO.out)
    · obtain rfl : k = 24 := by omega
      have He := Lib.hid (Hfin.out 24 hk HZ.out (Or.inl rfl))
      have h25 : ¬ (1 + ((24 : Nat) : Int)) ≤ 24 := by omega
      go_wp2
      go_ret
      refine ⟨_, rfl, below_trans hbu hbk, ?_, ok_own HO.out⟩
      rw [He.out]
      exact ints_own (by rw [fingTo_len]; exact HO.out)

theorem rstandard_any (k l w t : Int) (W : World) (hk : 0 ≤ k ∧ k ≤ 10) (hl : 1 ≤ l ∧ l ≤ 100000) (hw : 1 ≤ w ∧ w ≤ 100000) (ht : 1 ≤ t ∧ t ≤ 100000) : Calls Tryz.prog 80 #[.int .i64 k, .agg #[.int .i64 l, .int .i64 w, .int .i64 t]] W (RetL W (stdN k l w t)) := by
  rcases (by omega : k = 0 ∨ k = 1 ∨ k = 2 ∨ k = 3 ∨ k = 4 ∨ k = 5 ∨ k = 6 ∨ k = 7 ∨ k = 8 ∨ k = 9 ∨ k = 10) with rfl | rfl | rfl | rfl | rfl | rfl | rfl | rfl | rfl | rfl | rfl
  · exact rstandard_0 l w t W hl hw ht
  · exact rstandard_1 l w t W hl hw ht
  · exact rstandard_2 l w t W hl hw ht
  · exact rstandard_3 l w t W hl hw ht
  · exact rstandard_4 l w t W hl hw ht
  · exact rstandard_5 l w t W hl hw ht
  · exact rstandard_6 l w t W hl hw ht
  · exact rstandard_7 l w t W hw ht
  · exact rstandard_8 l w t W hl hw ht
  · exact rstandard_9 l w t W hl hw ht
  · exact rstandard_10 l w t W hl hw ht
end Go.Proofs.YtjglkglaogaenaaGreatDoor
