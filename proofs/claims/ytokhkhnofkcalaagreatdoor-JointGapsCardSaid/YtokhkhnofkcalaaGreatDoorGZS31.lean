/- texts: XP XQ J15 J16 J17 Y5 S1a S7 Y1 Y6 Y2 Y3. -/
import Derived.Test.YtokhkhnofkcalaaGreatDoorGZS26
import Derived.Test.YtokhkhnofkcalaaGreatDoorGZS28
import Derived.Test.YtokhkhnofkcalaaGreatDoorGZS30
namespace Go.Proofs.YtokhkhnofkcalaaGreatDoor
set_option maxHeartbeats 8000000
set_option linter.unusedSimpArgs false
set_option linter.unusedVariables false
section
open Go.RowKit Go.Shelf
set_option maxRecDepth 100000
attribute [local go_sem] Ext.cell Ext.frozen
theorem partsOf_3 (l w t : Int) (nv : Value) (n : List Int) (W : World) (hn : Ints W nv n) (hl : n.length = 6) (hb : ∀ i, -100000 ≤ n.getD i 0 ∧ n.getD i 0 ≤ 100000) (hlb : -100000 ≤ l ∧ l ≤ 100000) :
  Calls Tryz.prog 31 #[vJ 3 l w t nv] W (PartsPost W (keepsC 3 l w n) (gapsC 3 l n)) := by
 have hc := fun V (h : Below W.heap.size W V) => Lib.hid (mortise_any l w nv n V (hn.below h) hl hb hlb)
 generalize keepsC 3 l w n = ks at *
 generalize gapsC 3 l n = gs at *
 unfold vJ
 obtain ⟨a, m, c, rfl, hm0, hc0, hx⟩ := id hn
 obtain ⟨V, HV⟩ : ∃ V, Hid ((W.alloc (.cells #[.int .i64 3, .int .i64 l, .int .i64 w, .int .i64 t, .slice a m c] 25)).alloc (.cells #[.slice none 0 0, .slice none 0 0] 75) = V) := ⟨_, Lib.hid rfl⟩
 have hV : Below W.heap.size W V := by rw [← HV.out]; exact bel
 have HJ : Hid (V.heap[W.heap.size]? = some (.cells #[.int .i64 3, .int .i64 l, .int .i64 w, .int .i64 t, .slice a m c] 25 (0, 0))) := by rw [← HV.out]; exact Lib.hid ((heap_old (by simp)).trans (heap_new rfl))
 have HR : Hid (V.heap[W.heap.size + 1]? = some (.cells #[.slice none 0 0, .slice none 0 0] 75 (0, 0))) := by rw [← HV.out]; exact Lib.hid (heap_new (by simp))
 have zV : W.heap.size + 2 ≤ V.heap.size := by rw [← HV.out]; simp
 have HF := Lib.hid ((hc V hV).out)
 obtain ⟨j0, j1, j2, j3, j4, _, jz⟩ := blk5 HJ.out
 clear hn hx
 go_enter Tryz.func31, Tryz.ntmps31
 go_wp2_with fail
 rw [HV.out]
 refine (HF.out).mono ?_
 rintro e w1 ⟨u, gv, rfl, hb1, hp, hg⟩
 have HP := Lib.hid hp
 have HG := Lib.hid hg
 obtain ⟨ua, um, uc, rfl⟩ := shape_k hp
 obtain ⟨ga, gm, gc, rfl⟩ := shape_c hg
 have HR1 := Lib.hid ((hb1.block _ (blk_lt HR.out)).trans HR.out)
 obtain ⟨r0, r1, rf, rz⟩ := blk2 HR1.out
 have rf0 := rf 0
 have rf1 := rf 1
 clear hp hg rf j0 j1 j2 j3 j4 jz HJ HR HF
 go_wp2
 refine bodyPost_ret (v := .agg #[.slice ua um uc, .slice ga gm gc]) (by simp [results, Tryz.results31, go_sem, r0, r1]) rfl ⟨_, rfl, ?_, _, _, rfl, ?_, ?_⟩
 ·exact ((below_trans hV hb1).setCell (by simp) _).setCell (by simp) _
 ·exact ((HP.out.far (by omega)).far (by omega)).mono (Nat.zero_le _)
 ·exact ((HG.out.far (by omega)).far (by omega)).mono (Nat.zero_le _)
theorem partsOf_4 (l w t : Int) (nv : Value) (n : List Int) (W : World) (hn : Ints W nv n) (hl : n.length = 4) (hb : ∀ i, -100000 ≤ n.getD i 0 ∧ n.getD i 0 ≤ 100000) (hlb : -100000 ≤ l ∧ l ≤ 100000) :
  Calls Tryz.prog 31 #[vJ 4 l w t nv] W (PartsPost W (keepsC 4 l w n) (gapsC 4 l n)) := by
 have hc := fun V (h : Below W.heap.size W V) => Lib.hid (groove_any l w nv n V (hn.below h) hl hb hlb)
 generalize keepsC 4 l w n = ks at *
 generalize gapsC 4 l n = gs at *
 unfold vJ
 obtain ⟨a, m, c, rfl, hm0, hc0, hx⟩ := id hn
 obtain ⟨V, HV⟩ : ∃ V, Hid ((W.alloc (.cells #[.int .i64 4, .int .i64 l, .int .i64 w, .int .i64 t, .slice a m c] 25)).alloc (.cells #[.slice none 0 0, .slice none 0 0] 75) = V) := ⟨_, Lib.hid rfl⟩
 have hV : Below W.heap.size W V := by rw [← HV.out]; exact bel
 have HJ : Hid (V.heap[W.heap.size]? = some (.cells #[.int .i64 4, .int .i64 l, .int .i64 w, .int .i64 t, .slice a m c] 25 (0, 0))) := by rw [← HV.out]; exact Lib.hid ((heap_old (by simp)).trans (heap_new rfl))
 have HR : Hid (V.heap[W.heap.size + 1]? = some (.cells #[.slice none 0 0, .slice none 0 0] 75 (0, 0))) := by rw [← HV.out]; exact Lib.hid (heap_new (by simp))
 have zV : W.heap.size + 2 ≤ V.heap.size := by rw [← HV.out]; simp
 have HF := Lib.hid ((hc V hV).out)
 obtain ⟨j0, j1, j2, j3, j4, _, jz⟩ := blk5 HJ.out
 clear hn hx
 go_enter Tryz.func31, Tryz.ntmps31
 go_wp2_with fail
 rw [HV.out]
 refine (HF.out).mono ?_
 rintro e w1 ⟨u, gv, rfl, hb1, hp, hg⟩
 have HP := Lib.hid hp
 have HG := Lib.hid hg
 obtain ⟨ua, um, uc, rfl⟩ := shape_k hp
 obtain ⟨ga, gm, gc, rfl⟩ := shape_c hg
 have HR1 := Lib.hid ((hb1.block _ (blk_lt HR.out)).trans HR.out)
 obtain ⟨r0, r1, rf, rz⟩ := blk2 HR1.out
 have rf0 := rf 0
 have rf1 := rf 1
 clear hp hg rf j0 j1 j2 j3 j4 jz HJ HR HF
 go_wp2
 refine bodyPost_ret (v := .agg #[.slice ua um uc, .slice ga gm gc]) (by simp [results, Tryz.results31, go_sem, r0, r1]) rfl ⟨_, rfl, ?_, _, _, rfl, ?_, ?_⟩
 ·exact ((below_trans hV hb1).setCell (by simp) _).setCell (by simp) _
 ·exact ((HP.out.far (by omega)).far (by omega)).mono (Nat.zero_le _)
 ·exact ((HG.out.far (by omega)).far (by omega)).mono (Nat.zero_le _)
theorem partsOf_10 (l w t : Int) (nv : Value) (n : List Int) (W : World) (hn : Ints W nv n) (hl : n.length = 5) (hb : ∀ i, -100000 ≤ n.getD i 0 ∧ n.getD i 0 ≤ 100000) :
  Calls Tryz.prog 31 #[vJ 10 l w t nv] W (PartsPost W (keepsC 10 l w n) (gapsC 10 l n)) := by
 have hc := fun V (h : Below W.heap.size W V) => Lib.hid (crossed_any l w nv n V (hn.below h) hl hb)
 generalize keepsC 10 l w n = ks at *
 generalize gapsC 10 l n = gs at *
 unfold vJ
 obtain ⟨a, m, c, rfl, hm0, hc0, hx⟩ := id hn
 obtain ⟨V, HV⟩ : ∃ V, Hid ((W.alloc (.cells #[.int .i64 10, .int .i64 l, .int .i64 w, .int .i64 t, .slice a m c] 25)).alloc (.cells #[.slice none 0 0, .slice none 0 0] 75) = V) := ⟨_, Lib.hid rfl⟩
 have hV : Below W.heap.size W V := by rw [← HV.out]; exact bel
 have HJ : Hid (V.heap[W.heap.size]? = some (.cells #[.int .i64 10, .int .i64 l, .int .i64 w, .int .i64 t, .slice a m c] 25 (0, 0))) := by rw [← HV.out]; exact Lib.hid ((heap_old (by simp)).trans (heap_new rfl))
 have HR : Hid (V.heap[W.heap.size + 1]? = some (.cells #[.slice none 0 0, .slice none 0 0] 75 (0, 0))) := by rw [← HV.out]; exact Lib.hid (heap_new (by simp))
 have zV : W.heap.size + 2 ≤ V.heap.size := by rw [← HV.out]; simp
 have HF := Lib.hid ((hc V hV).out)
 obtain ⟨j0, j1, j2, j3, j4, _, jz⟩ := blk5 HJ.out
 clear hn hx
 go_enter Tryz.func31, Tryz.ntmps31
 go_wp2_with fail
 rw [HV.out]
 refine (HF.out).mono ?_
 rintro e w1 ⟨u, gv, rfl, hb1, hp, hg⟩
 have HP := Lib.hid hp
 have HG := Lib.hid hg
 obtain ⟨ua, um, uc, rfl⟩ := shape_k hp
 obtain ⟨ga, gm, gc, rfl⟩ := shape_c hg
 have HR1 := Lib.hid ((hb1.block _ (blk_lt HR.out)).trans HR.out)
 obtain ⟨r0, r1, rf, rz⟩ := blk2 HR1.out
 have rf0 := rf 0
 have rf1 := rf 1
 clear hp hg rf j0 j1 j2 j3 j4 jz HJ HR HF
 go_wp2
 refine bodyPost_ret (v := .agg #[.slice ua um uc, .slice ga gm gc]) (by simp [results, Tryz.results31, go_sem, r0, r1]) rfl ⟨_, rfl, ?_, _, _, rfl, ?_, ?_⟩
 ·exact ((below_trans hV hb1).setCell (by simp) _).setCell (by simp) _
 ·exact ((HP.out.far (by omega)).far (by omega)).mono (Nat.zero_le _)
 ·exact ((HG.out.far (by omega)).far (by omega)).mono (Nat.zero_le _)
theorem partsOf_5 (l w t : Int) (nv : Value) (n : List Int) (W : World) (hn : Ints W nv n) (hl : 3 ≤ n.length) (hln : n.length ≤ 1000) (hb : ∀ i, -100000 ≤ n.getD i 0 ∧ n.getD i 0 ≤ 100000) (hlb : -100000 ≤ l ∧ l ≤ 100000) (hs : -1000 ≤ n.getD 0 0 ∧ n.getD 0 0 ≤ 1000) :
  Calls Tryz.prog 31 #[vJ 5 l w t nv] W (PartsPost W (keepsC 5 l w n) (gapsC 5 l n)) := by
 have hc := fun V (h : Below W.heap.size W V) => Lib.hid (tails_any l w nv n V (hn.below h) hl hln hb hlb hs)
 generalize keepsC 5 l w n = ks at *
 generalize gapsC 5 l n = gs at *
 unfold vJ
 obtain ⟨a, m, c, rfl, hm0, hc0, hx⟩ := id hn
 obtain ⟨V, HV⟩ : ∃ V, Hid ((W.alloc (.cells #[.int .i64 5, .int .i64 l, .int .i64 w, .int .i64 t, .slice a m c] 25)).alloc (.cells #[.slice none 0 0, .slice none 0 0] 75) = V) := ⟨_, Lib.hid rfl⟩
 have hV : Below W.heap.size W V := by rw [← HV.out]; exact bel
 have HJ : Hid (V.heap[W.heap.size]? = some (.cells #[.int .i64 5, .int .i64 l, .int .i64 w, .int .i64 t, .slice a m c] 25 (0, 0))) := by rw [← HV.out]; exact Lib.hid ((heap_old (by simp)).trans (heap_new rfl))
 have HR : Hid (V.heap[W.heap.size + 1]? = some (.cells #[.slice none 0 0, .slice none 0 0] 75 (0, 0))) := by rw [← HV.out]; exact Lib.hid (heap_new (by simp))
 have zV : W.heap.size + 2 ≤ V.heap.size := by rw [← HV.out]; simp
 have HF := Lib.hid ((hc V hV).out)
 obtain ⟨j0, j1, j2, j3, j4, _, jz⟩ := blk5 HJ.out
 clear hn hx
 go_enter Tryz.func31, Tryz.ntmps31
 go_wp2_with fail
 rw [HV.out]
 refine (HF.out).mono ?_
 rintro e w1 ⟨u, gv, rfl, hb1, hp, hg⟩
 have HP := Lib.hid hp
 have HG := Lib.hid hg
 obtain ⟨ua, um, uc, rfl⟩ := shape_k hp
 obtain ⟨ga, gm, gc, rfl⟩ := shape_c hg
 have HR1 := Lib.hid ((hb1.block _ (blk_lt HR.out)).trans HR.out)
 obtain ⟨r0, r1, rf, rz⟩ := blk2 HR1.out
 have rf0 := rf 0
 have rf1 := rf 1
 clear hp hg rf j0 j1 j2 j3 j4 jz HJ HR HF
 go_wp2
 refine bodyPost_ret (v := .agg #[.slice ua um uc, .slice ga gm gc]) (by simp [results, Tryz.results31, go_sem, r0, r1]) rfl ⟨_, rfl, ?_, _, _, rfl, ?_, ?_⟩
 ·exact ((below_trans hV hb1).setCell (by simp) _).setCell (by simp) _
 ·exact ((HP.out.far (by omega)).far (by omega)).mono (Nat.zero_le _)
 ·exact ((HG.out.far (by omega)).far (by omega)).mono (Nat.zero_le _)
theorem partsOf_7 (l w t : Int) (nv : Value) (n : List Int) (W : World) (hn : Ints W nv n) (h1 : 1 ≤ n.length) (hln : n.length ≤ 1000) (hb : ∀ i, -100000 ≤ n.getD i 0 ∧ n.getD i 0 ≤ 100000) (hwb : -100000 ≤ w ∧ w ≤ 100000) :
  Calls Tryz.prog 31 #[vJ 7 l w t nv] W (PartsPost W (keepsC 7 l w n) (gapsC 7 l n)) := by
 have hc := fun V (h : Below W.heap.size W V) => Lib.hid (fingered_any l w nv n V (hn.below h) h1 hln hb hwb)
 generalize keepsC 7 l w n = ks at *
 generalize gapsC 7 l n = gs at *
 unfold vJ
 obtain ⟨a, m, c, rfl, hm0, hc0, hx⟩ := id hn
 obtain ⟨V, HV⟩ : ∃ V, Hid ((W.alloc (.cells #[.int .i64 7, .int .i64 l, .int .i64 w, .int .i64 t, .slice a m c] 25)).alloc (.cells #[.slice none 0 0, .slice none 0 0] 75) = V) := ⟨_, Lib.hid rfl⟩
 have hV : Below W.heap.size W V := by rw [← HV.out]; exact bel
 have HJ : Hid (V.heap[W.heap.size]? = some (.cells #[.int .i64 7, .int .i64 l, .int .i64 w, .int .i64 t, .slice a m c] 25 (0, 0))) := by rw [← HV.out]; exact Lib.hid ((heap_old (by simp)).trans (heap_new rfl))
 have HR : Hid (V.heap[W.heap.size + 1]? = some (.cells #[.slice none 0 0, .slice none 0 0] 75 (0, 0))) := by rw [← HV.out]; exact Lib.hid (heap_new (by simp))
 have zV : W.heap.size + 2 ≤ V.heap.size := by rw [← HV.out]; simp
 have HF := Lib.hid ((hc V hV).out)
 obtain ⟨j0, j1, j2, j3, j4, _, jz⟩ := blk5 HJ.out
 clear hn hx
 go_enter Tryz.func31, Tryz.ntmps31
 go_wp2_with fail
 rw [HV.out]
 refine (HF.out).mono ?_
 rintro e w1 ⟨u, gv, rfl, hb1, hp, hg⟩
 have HP := Lib.hid hp
 have HG := Lib.hid hg
 obtain ⟨ua, um, uc, rfl⟩ := shape_k hp
 obtain ⟨ga, gm, gc, rfl⟩ := shape_c hg
 have HR1 := Lib.hid ((hb1.block _ (blk_lt HR.out)).trans HR.out)
 obtain ⟨r0, r1, rf, rz⟩ := blk2 HR1.out
 have rf0 := rf 0
 have rf1 := rf 1
 clear hp hg rf j0 j1 j2 j3 j4 jz HJ HR HF
 go_wp2
 refine bodyPost_ret (v := .agg #[.slice ua um uc, .slice ga gm gc]) (by simp [results, Tryz.results31, go_sem, r0, r1]) rfl ⟨_, rfl, ?_, _, _, rfl, ?_, ?_⟩
 ·exact ((below_trans hV hb1).setCell (by simp) _).setCell (by simp) _
 ·exact ((HP.out.far (by omega)).far (by omega)).mono (Nat.zero_le _)
 ·exact ((HG.out.far (by omega)).far (by omega)).mono (Nat.zero_le _)
theorem partsOf_9 (l w t : Int) (nv : Value) (n : List Int) (W : World) (hn : Ints W nv n) (hl : n.length = 5) (hb : ∀ i, -100000 ≤ n.getD i 0 ∧ n.getD i 0 ≤ 100000) :
  Calls Tryz.prog 31 #[vJ 9 l w t nv] W (PartsPost W (keepsC 9 l w n) (gapsC 9 l n)) := by
 have hc := fun V (h : Below W.heap.size W V) => Lib.hid (mitre_any l w nv n V (hn.below h) hl hb)
 generalize keepsC 9 l w n = ks at *
 generalize gapsC 9 l n = gs at *
 unfold vJ
 obtain ⟨a, m, c, rfl, hm0, hc0, hx⟩ := id hn
 obtain ⟨V, HV⟩ : ∃ V, Hid ((W.alloc (.cells #[.int .i64 9, .int .i64 l, .int .i64 w, .int .i64 t, .slice a m c] 25)).alloc (.cells #[.slice none 0 0, .slice none 0 0] 75) = V) := ⟨_, Lib.hid rfl⟩
 have hV : Below W.heap.size W V := by rw [← HV.out]; exact bel
 have HJ : Hid (V.heap[W.heap.size]? = some (.cells #[.int .i64 9, .int .i64 l, .int .i64 w, .int .i64 t, .slice a m c] 25 (0, 0))) := by rw [← HV.out]; exact Lib.hid ((heap_old (by simp)).trans (heap_new rfl))
 have HR : Hid (V.heap[W.heap.size + 1]? = some (.cells #[.slice none 0 0, .slice none 0 0] 75 (0, 0))) := by rw [← HV.out]; exact Lib.hid (heap_new (by simp))
 have zV : W.heap.size + 2 ≤ V.heap.size := by rw [← HV.out]; simp
 have HF := Lib.hid ((hc V hV).out)
 obtain ⟨j0, j1, j2, j3, j4, _, jz⟩ := blk5 HJ.out
 clear hn hx
 go_enter Tryz.func31, Tryz.ntmps31
 go_wp2_with fail
 rw [HV.out]
 refine (HF.out).mono ?_
 rintro e w1 ⟨u, gv, rfl, hb1, hp, hg⟩
 have HP := Lib.hid hp
 have HG := Lib.hid hg
 obtain ⟨ua, um, uc, rfl⟩ := shape_k hp
 obtain ⟨ga, gm, gc, rfl⟩ := shape_c hg
 have HR1 := Lib.hid ((hb1.block _ (blk_lt HR.out)).trans HR.out)
 obtain ⟨r0, r1, rf, rz⟩ := blk2 HR1.out
 have rf0 := rf 0
 have rf1 := rf 1
 clear hp hg rf j0 j1 j2 j3 j4 jz HJ HR HF
 go_wp2
 refine bodyPost_ret (v := .agg #[.slice ua um uc, .slice ga gm gc]) (by simp [results, Tryz.results31, go_sem, r0, r1]) rfl ⟨_, rfl, ?_, _, _, rfl, ?_, ?_⟩
 ·exact ((below_trans hV hb1).setCell (by simp) _).setCell (by simp) _
 ·exact ((HP.out.far (by omega)).far (by omega)).mono (Nat.zero_le _)
 ·exact ((HG.out.far (by omega)).far (by omega)).mono (Nat.zero_le _)
end
section
open Go.RowKit Go.Shelf
theorem partsOf_good (k l w t : Int) (nv : Value) (n : List Int) (W : World) (hn : Ints W nv n) (g : Good k l w t n)
  (h8 : k = 8 → Calls Tryz.prog 31 #[vJ 8 l w t nv] W (PartsPost W (keepsC 8 l w n) (gapsC 8 l n))) :
  Calls Tryz.prog 31 #[vJ k l w t nv] W (PartsPost W (keepsC k l w n) (gapsC k l n)) := by
 obtain ⟨hl, hw, ht⟩ := g.sz
 have hr := g.right
 have hc := cnt_of g.cnt g.kind
 have hk := g.kind
 have hb := fun i => g.nb i
 have hlen := g.len
 rcases (by omega : k = 0 ∨ k = 1 ∨ k = 2 ∨ k = 3 ∨ k = 4 ∨ k = 5 ∨ k = 6 ∨ k = 7 ∨ k = 8 ∨ k = 9 ∨ k = 10) with rfl | rfl | rfl | rfl | rfl | rfl | rfl | rfl | rfl | rfl | rfl
 ·have b0 := hb 0
  refine (partsOf_0 l w t nv n W hn (by omega) (by omega)).mono ?_
  rintro e w' ⟨u, rfl, hb1, hp⟩
  have e1 : keepsC 0 l w n = [[[axP 2 (-1) (-n.getD 0 0)]], [[axP 2 1 (n.getD 0 0)]]] := rfl
  have e2 : gapsC 0 l n = [] := rfl
  rw [e1, e2]
  exact ⟨_, rfl, hb1, _, _, rfl, hp.mono (Nat.zero_le _), cells_nil⟩
 ·exact partsOf_1 l w t nv n W hn (by omega) hb
 ·exact partsOf_2 l w t nv n W hn (by omega) hb
 ·exact partsOf_3 l w t nv n W hn (by omega) hb (by omega)
 ·exact partsOf_4 l w t nv n W hn (by omega) hb (by omega)
 ·have h3 : 3 ≤ n.length := by omega
  have hr' : tailsB l w n = true := by simpa [rightB] using hr
  obtain ⟨_, hs, _⟩ := tails_of hr' h3 hl.1
  exact partsOf_5 l w t nv n W hn h3 (by omega) hb (by omega) (by omega)
 ·have b0 := hb 0
  have hm : 1 ≤ n.getD 1 0 ∧ n.getD 1 0 ≤ 8 := by
   have h := hr
   simp [rightB, scarfB, withinB, -List.getD_eq_getElem?_getD] at h
   omega
  have m1 := mul_bd (show -8 ≤ n.getD 1 0 by omega) hm.2 b0.1 b0.2
  exact partsOf_6 l w t nv n W hn (by omega) hb (by omega)
 ·exact partsOf_7 l w t nv n W hn (by omega) (by omega) hb (by omega)
 ·exact h8 rfl
 ·exact partsOf_9 l w t nv n W hn (by omega) hb
 ·exact partsOf_10 l w t nv n W hn (by omega) hb
end
section
open Go.RowKit Go.Shelf
attribute [local go_sem] Ext.cell Ext.frozen
def memE (ce k member : Int) (n : List Int) : Int := if ce ≠ 0 then ce else if member < 0 ∨ memB k + looseN k n ≤ member then 6 else 0
theorem memB_bd (k : Int) : 2 ≤ memB k ∧ memB k ≤ 3 := by unfold memB; split <;> omega
theorem looseN_bd (k : Int) (n : List Int) : looseN k n ≤ n.length + 1 := by by_cases h : k = 8 <;> by_cases h9 : k = 9 <;> simp [looseN, h, h9] <;> omega
set_option maxRecDepth 100000 in
theorem checkMember_any (k l w t member ce : Int) (nv : Value) (n : List Int) (W : World) (hn : Ints W nv n) (hm : n.length ≤ 1000000)
  (hc : ∀ W', Below W.heap.size W W' → Calls Tryz.prog 48 #[vJ k l w t nv] W' (Ret W' (.int .i64 ce))) (h8 : ce = 0 → k = 8 → 8 ≤ n.length ∧ n.length % 2 = 0) :
  Calls Tryz.prog 29 #[vJ k l w t nv, .int .i64 member] W (Ret W (.int .i64 (memE ce k member n))) := by
 have HL := fun W' h h0 => Lib.hid (loose_any k l w t nv n W' (hn.below (w' := W') h) hm (h8 h0))
 have HM := fun W' => Lib.hid (members_any k W')
 have hmb := memB_bd k
 have hlb := looseN_bd k n
 have He := Lib.hid (show memE ce k member n = if ce ≠ 0 then ce else if member < 0 ∨ memB k + looseN k n ≤ member then 6 else 0 from rfl)
 have Hc := fun W' h => Lib.hid (hc W' h)
 unfold vJ at *
 obtain ⟨a, m, c, rfl, hm', hcc, hx⟩ := hn
 clear hc hx h8
 generalize memE ce k member n = res at *
 generalize memB k = mk at *
 generalize looseN k n = lk at *
 have hlk : lk ≤ 1000001 := by omega
 clear hlb hm hm'
 by_cases h0 : ce = 0
 ·subst h0
  have HL' := fun W' h => HL W' h rfl
  clear HL
  rw [if_neg (by simp)] at He
  by_cases hneg : member < 0
  ·rw [if_pos (Or.inl hneg)] at He
   clear HL'
   go_enter Tryz.func29, Tryz.ntmps29
   go_wp2_with fail
   refine ((Hc _ bel).out).mono ?_
   rintro e w1 ⟨rfl, hb1⟩
   have hw1 := below_trans (show Below W.heap.size W (W.alloc (.cells #[.int .i64 k, .int .i64 l, .int .i64 w, .int .i64 t, .slice a m c] 25)) from bel) hb1
   have c0 := below_cell hb1 ((cell_new rfl 0).trans rfl : _ = some (.int .i64 k))
   have c4 := below_cell hb1 ((cell_new rfl 4).trans rfl : _ = some (.slice a m c))
   have c1 := below_cell hb1 ((cell_new rfl 1).trans rfl : _ = some (.int .i64 l))
   have c2 := below_cell hb1 ((cell_new rfl 2).trans rfl : _ = some (.int .i64 w))
   have c3 := below_cell hb1 ((cell_new rfl 3).trans rfl : _ = some (.int .i64 t))
   go_wp2
   refine wqb ?_
   repeat (first | go_big_quiet_step (fail) | quiet_step (fail))
   refine wqn fun u => ?_
   go_wp2
   go_ret
   exact ⟨ret_int He.out.symm, below_trans hw1 u.below⟩
  ·by_cases hge : mk + lk ≤ member
   ·rw [if_pos (Or.inr hge)] at He
    go_enter Tryz.func29, Tryz.ntmps29
    go_wp2_with fail
    refine ((Hc _ bel).out).mono ?_
    rintro e w1 ⟨rfl, hb1⟩
    have hw1 := below_trans (show Below W.heap.size W (W.alloc (.cells #[.int .i64 k, .int .i64 l, .int .i64 w, .int .i64 t, .slice a m c] 25)) from bel) hb1
    have c0 := below_cell hb1 ((cell_new rfl 0).trans rfl : _ = some (.int .i64 k))
    have c4 := below_cell hb1 ((cell_new rfl 4).trans rfl : _ = some (.slice a m c))
    have c1 := below_cell hb1 ((cell_new rfl 1).trans rfl : _ = some (.int .i64 l))
    have c2 := below_cell hb1 ((cell_new rfl 2).trans rfl : _ = some (.int .i64 w))
    have c3 := below_cell hb1 ((cell_new rfl 3).trans rfl : _ = some (.int .i64 t))
    have z1 := World.block_lt_of_cell? w1 _ c0
    simp only at z1
    go_wp2
    refine wqb ?_
    repeat (first | go_big_quiet_step ((first | (go_at_call 69; refine ((HM _).out).mono ?_; rintro e w9 ⟨rfl, rfl⟩; exact ⟨rfl, _, rfl⟩) | (go_at_call 70; exact quietB_ret ((HL' _ (below_trans hw1 (Ext.below _))).out)))) | quiet_step ((first | (go_at_call 69; refine ((HM _).out).mono ?_; rintro e w9 ⟨rfl, rfl⟩; exact ⟨rfl, _, rfl⟩) | (go_at_call 70; exact quietB_ret ((HL' _ (below_trans hw1 (Ext.below _))).out)))))
    refine wqn fun u => ?_
    go_wp2
    go_ret
    exact ⟨ret_int He.out.symm, below_trans hw1 u.below⟩
   ·rw [if_neg (by omega)] at He
    go_enter Tryz.func29, Tryz.ntmps29
    go_wp2_with fail
    refine ((Hc _ bel).out).mono ?_
    rintro e w1 ⟨rfl, hb1⟩
    have hw1 := below_trans (show Below W.heap.size W (W.alloc (.cells #[.int .i64 k, .int .i64 l, .int .i64 w, .int .i64 t, .slice a m c] 25)) from bel) hb1
    have c0 := below_cell hb1 ((cell_new rfl 0).trans rfl : _ = some (.int .i64 k))
    have c4 := below_cell hb1 ((cell_new rfl 4).trans rfl : _ = some (.slice a m c))
    have c1 := below_cell hb1 ((cell_new rfl 1).trans rfl : _ = some (.int .i64 l))
    have c2 := below_cell hb1 ((cell_new rfl 2).trans rfl : _ = some (.int .i64 w))
    have c3 := below_cell hb1 ((cell_new rfl 3).trans rfl : _ = some (.int .i64 t))
    have z1 := World.block_lt_of_cell? w1 _ c0
    simp only at z1
    go_wp2
    refine wqb ?_
    repeat (first | go_big_quiet_step ((first | (go_at_call 69; refine ((HM _).out).mono ?_; rintro e w9 ⟨rfl, rfl⟩; exact ⟨rfl, _, rfl⟩) | (go_at_call 70; exact quietB_ret ((HL' _ (below_trans hw1 (Ext.below _))).out)))) | quiet_step ((first | (go_at_call 69; refine ((HM _).out).mono ?_; rintro e w9 ⟨rfl, rfl⟩; exact ⟨rfl, _, rfl⟩) | (go_at_call 70; exact quietB_ret ((HL' _ (below_trans hw1 (Ext.below _))).out)))))
    refine wqn fun u => ?_
    go_wp2
    go_ret
    exact ⟨ret_int He.out.symm, below_trans hw1 u.below⟩
 ·rw [if_pos h0] at He
  have hne : (ce != 0) = true := by simpa using h0
  clear HL
  go_enter Tryz.func29, Tryz.ntmps29
  go_wp2_with fail
  refine ((Hc _ bel).out).mono ?_
  rintro e w1 ⟨rfl, hb1⟩
  go_wp2
  go_ret
  exact ⟨ret_int He.out.symm, below_trans bel hb1⟩
theorem same_no {ps qs : List Q4} (k : Nat) (h1 : k < ps.length) (h2 : k < qs.length) (hne : ps[k] ≠ qs[k]) : decide (ps = qs) = false := decide_eq_false (fun e => by subst e; exact hne rfl)
theorem same_len {ps qs : List Q4} (h : ps.length ≠ qs.length) : decide (ps = qs) = false := decide_eq_false (fun e => by subst e; exact h rfl)
theorem same_yes {ps qs : List Q4} (hl : ps.length = qs.length) (h : ∀ i (h1 : i < ps.length) (h2 : i < qs.length), ps[i] = qs[i]) : decide (ps = qs) = true := decide_eq_true (List.ext_getElem hl h)
set_option maxRecDepth 100000 in
theorem SameCell_any (pv qv : Value) (ps qs : List Q4) (w : World) (hp : Q4s w pv ps) (hq : Q4s w qv qs) (hl : ps.length ≤ 1000000) :
  Calls Tryz.prog 28 #[.agg #[pv], .agg #[qv]] w (Ret w (.bool (decide (ps = qs)))) := by
 obtain ⟨a, n, c, rfl, hn, hc, hx⟩ := hp
 obtain ⟨a', n', c', rfl, hn', hc', hx'⟩ := hq
 have HX := Lib.hid hx
 have HX' := Lib.hid hx'
 have Hno := Lib.hid (@same_no ps qs)
 have Hln := Lib.hid (@same_len ps qs)
 have Hyes := Lib.hid (@same_yes ps qs)
 generalize decide (ps = qs) = res at *
 clear hx hx'
 by_cases hnn : n = n'
 ·subst hnn
  have Hn := Lib.hid hn
  have Hn' := Lib.hid hn'
  rw [hn] at hl
  clear hn hn' Hln
  go_enter Tryz.func28, Tryz.ntmps28
  go_wp2
  go_loopw [5] (fun i wr => ∃ k : Nat, k ≤ n ∧ i = .int .i64 k ∧ Below w.heap.size w wr ∧ Hid (wr.heap[w.heap.size]? = some (.cells #[.slice a n c] 67 (0, 0))) ∧ Hid (wr.heap[w.heap.size + 1]? = some (.cells #[.slice a' n c'] 67 (0, 0))) ∧ Hid (∀ i (h1 : i < ps.length) (h2 : i < qs.length), i < k → ps[i] = qs[i])) (fun i _ => n - (intOf i).toNat)
  case atStart => exact ⟨0, by omega, rfl, bel, Lib.hid ((heap_old (by simp)).trans (heap_new rfl)), Lib.hid (heap_new (by simp)), Lib.hid (fun i _ _ h => by omega)⟩
  case round =>
   obtain ⟨k, hk, rfl, hb, HA, HB, Hz⟩ := hrel
   have b0 : wr.cell? ⟨w.heap.size, 0, none⟩ = some (.slice a n c) := (blk_cell HA.out 0).trans rfl
   have b1 : wr.cell? ⟨w.heap.size + 1, 0, none⟩ = some (.slice a' n c') := (blk_cell HB.out 0).trans rfl
   have zA := blk_lt HA.out
   have zB := blk_lt HB.out
   by_cases hlt : k < n
   ·obtain ⟨b, off, rfl, hi⟩ := HX.out (by omega)
    obtain ⟨b', off', rfl, hi'⟩ := HX'.out (by omega)
    have hk1 : k < ps.length := by have := Hn.out; omega
    have hk2 : k < qs.length := by have := Hn'.out; omega
    obtain ⟨x1, x2, x3, x4⟩ := hi k hk1
    obtain ⟨y1, y2, y3, y4⟩ := hi' k hk2
    have x1 := below_cell hb x1
    have x2 := below_cell hb x2
    have x3 := below_cell hb x3
    have x4 := below_cell hb x4
    have y1 := below_cell hb y1
    have y2 := below_cell hb y2
    have y3 := below_cell hb y3
    have y4 := below_cell hb y4
    have zx := World.block_lt_of_cell? wr _ x1
    have zy := World.block_lt_of_cell? wr _ y1
    simp only at zx zy
    have he := fun W' => eq_pl ps[k] qs[k] W'
    have Hk := Lib.hid (Hno.out k hk1 hk2)
    have Hz' : Hid (ps[k] = qs[k] → ∀ i (h1 : i < ps.length) (h2 : i < qs.length), i < k + 1 → ps[i] = qs[i]) := Lib.hid (fun e i h1 h2 h => by
     by_cases e' : i = k
     ·subst e'; exact e
     ·exact Hz.out i h1 h2 (by omega))
    generalize ps[k] = x at *
    generalize qs[k] = y at *
    obtain ⟨xa, xb, xc, xd⟩ := x
    obtain ⟨ya, yb, yc, yd⟩ := y
    simp only at x1 x2 x3 x4 y1 y2 y3 y4 he
    clear hi hi' hk1 hk2
    by_cases hxy : ((xa, xb, xc, xd) : Q4) = (ya, yb, yc, yd)
    ·have Hxy := Lib.hid hxy
     have hd := decide_eq_true hxy
     simp only [hd] at he
     clear hxy hd
     go_wp2
     refine wqb ?_
     repeat (first | go_big_quiet_step (fail) | quiet_step (fail))
     refine wqn fun u => ?_
     go_wp2
     go_roundw
     case rel => exact ⟨k + 1, by omega, by go_num, below_trans hb u.below, Lib.hid ((u.below.block _ zA).trans HA.out), Lib.hid ((u.below.block _ zB).trans HB.out), Lib.hid (Hz'.out Hxy.out)⟩
     case measure => simp [intOf]; omega
    ·have Hxy := Lib.hid hxy
     have hd := decide_eq_false hxy
     simp only [hd] at he
     clear hxy hd
     go_wp2
     refine wqb ?_
     repeat (first | go_big_quiet_step (fail) | quiet_step (fail))
     refine wqn fun u => ?_
     go_wp2
     go_ret
     exact ⟨ret_bool (Hk.out Hxy.out).symm, below_trans hb u.below⟩
   ·have Hy := Lib.hid (Hyes.out (by rw [Hn.out, Hn'.out]) (fun i h1 h2 => Hz.out i h1 h2 (by have := Hn.out; omega)))
    go_wp2
    go_ret
    exact ⟨ret_bool Hy.out.symm, hb⟩
 ·have hne : (n : Int) ≠ (n' : Int) := by omega
  have Hr := Lib.hid (Hln.out (by omega))
  go_enter Tryz.func28, Tryz.ntmps28
  go_wp2
  go_ret
  exact ⟨ret_bool Hr.out.symm, bel⟩
end
section
open Go.RowKit Go.Shelf
attribute [local go_sem] Ext.cell Ext.frozen
set_option maxRecDepth 100000
def IsKG2 (ks : List (List (List Q4))) : Value → World → Prop := fun v w => ∃ u a m c, v = .agg #[u, .slice a m c] ∧ PartsV 0 w u ks
theorem stab_kg2 (ks : List (List (List Q4))) : Stab (IsKG2 ks) := fun _ _ _ hb ⟨u, a, m, c, h, k⟩ => ⟨u, a, m, c, h, PartsV.below k hb⟩
def IsPt (cs : List (List Q4)) : Value → World → Prop := fun v w => ∃ b off u, v = .pointer (some ⟨b, off, none⟩) ∧ w.cell? ⟨b, off, none⟩ = some u ∧ CellsV 0 w u cs
theorem stab_pt (cs : List (List Q4)) : Stab (IsPt cs) := fun _ _ _ hb ⟨b, off, u, h, k, l⟩ => ⟨b, off, u, h, below_cell hb k, l.below hb⟩
def IsS (B : Nat) (css : List (List Q4)) : Value → World → Prop := fun v w => ∃ s vs, v = .agg #[s] ∧ w.ownsRow B 67 1 s css.length vs ∧ RowsV w B vs css
theorem stab_s (B : Nat) (css : List (List Q4)) : Stab (IsS B css) := fun _ _ _ hb ⟨s, vs, h, k, l⟩ => ⟨s, vs, h, own_below k hb, l.below hb⟩
theorem Keeps_ok (k l w t : Int) (member : Nat) (nv : Value) (n : List Int) (ks : List (List (List Q4))) (W : World) (hmem : member < ks.length)
  (hl : -1000000 ≤ l ∧ l ≤ 1000000) (hw : -1000000 ≤ w ∧ w ≤ 1000000) (ht : -1000000 ≤ t ∧ t ≤ 1000000) (hkn : ks.length ≤ 1000000)
  (hcs : ks[member].length ≤ 1000000) (hps : ∀ c ∈ ks[member], c.length ≤ 1000) (hn : Ints W nv n)
  (hc : ∀ W', Below W.heap.size W W' → Calls Tryz.prog 29 #[vJ k l w t nv, .int .i64 member] W' (Ret W' (.int .i64 0)))
  (hp : ∀ W', Below W.heap.size W W' → Calls Tryz.prog 31 #[vJ k l w t nv] W' fun e w' => ∃ v, e = .returned v ∧ Below W'.heap.size W' w' ∧ IsKG2 ks v w') :
  Calls Tryz.prog 8 #[vJ k l w t nv, .int .i64 member] W fun e w' => ∃ s vs, e = .returned (.tuple #[.agg #[s], .int .i64 0]) ∧ Below W.heap.size W w' ∧
   w'.ownsRow W.heap.size 67 1 s ks[member].length vs ∧ RowsV w' W.heap.size vs (ks[member].map (inBoxC l w t)) := by
 have Hc := fun W' h => Lib.hid (hc W' h)
 have Hp := fun W' h => Lib.hid (hp W' h)
 have HIB := fun cv W' (h : CellsV 0 W' cv ks[member]) => Lib.hid (inBox_any l w t cv ks[member] W' hl hw ht 0 h hcs hps)
 have HKS : Hid (∀ w' v, PartsV 0 w' v ks → ∃ b off c, v = .slice (some ⟨b, off, none⟩) ks.length c ∧ ∃ u, w'.cell? ⟨b, off + member, none⟩ = some u ∧ CellsV 0 w' u ks[member]) := Lib.hid (fun w' v h => by
  obtain ⟨⟨a, m, c, rfl, hm, hcc, hx⟩, _⟩ := h
  obtain ⟨b, off, rfl, hi⟩ := hx (by omega)
  subst hm
  exact ⟨b, off, c, rfl, hi member hmem⟩)
 generalize ks[member] = kc at *
 clear hc hp hcs hps
 unfold vJ at *
 obtain ⟨a, m, c, rfl, hm', hcc, hx⟩ := hn
 clear hx hm'
 obtain ⟨K, HK⟩ : ∃ K, Hid (ks.length = K) := ⟨_, Lib.hid rfl⟩
 have mK : (member : Int) < (K : Int) := by have := HK.out; omega
 have m0 : (0 : Int) ≤ (member : Int) := by omega
 have hK6 : K ≤ 1000000 := by have := HK.out; omega
 rw [HK.out] at HKS
 clear hmem hkn
 go_enter Tryz.func8, Tryz.ntmps8
 go_wp2_with fail
 refine ((Hc _ bel).out).mono ?_
 rintro e w1 ⟨rfl, hb1⟩
 have hw1 := below_trans (show Below W.heap.size W ((W.alloc (.cells #[.int .i64 k, .int .i64 l, .int .i64 w, .int .i64 t, .slice a m c] 25)).alloc (.cells #[.slice none 0 0] 30)) from bel) hb1
 have HJ := Lib.hid ((hb1.block W.heap.size (by simp; omega)).trans ((heap_old (by simp)).trans (heap_new rfl)))
 have HR := Lib.hid ((hb1.block (W.heap.size + 1) (by simp)).trans (heap_new (by simp)))
 have c0 : w1.cell? ⟨W.heap.size, 0, none⟩ = some (.int .i64 k) := (blk_cell HJ.out 0).trans rfl
 have c1 : w1.cell? ⟨W.heap.size, 1, none⟩ = some (.int .i64 l) := (blk_cell HJ.out 1).trans rfl
 have c2 : w1.cell? ⟨W.heap.size, 2, none⟩ = some (.int .i64 w) := (blk_cell HJ.out 2).trans rfl
 have c3 : w1.cell? ⟨W.heap.size, 3, none⟩ = some (.int .i64 t) := (blk_cell HJ.out 3).trans rfl
 have c4 : w1.cell? ⟨W.heap.size, 4, none⟩ = some (.slice a m c) := (blk_cell HJ.out 4).trans rfl
 have zj := blk_lt HJ.out
 have zr := blk_lt HR.out
 clear Hc hb1 HJ
 go_wp2
 refine wp_region_grow [0, 1, 2, 3, 4, 5, 6, 7, 8] 9 [10] (pick [
  IsV (.pointer (some ⟨W.heap.size, 1, none⟩)), IsV (.agg #[.int .i64 l, .int .i64 w, .int .i64 t]), IsV (.agg #[.int .i64 k, .int .i64 l, .int .i64 w, .int .i64 t, .slice a m c]), IsKG2 ks, IsK 0 ks,
  IsV (.int .i64 member), IsPt kc, IsC 0 kc, IsS w1.heap.size (kc.map (inBoxC l w t))]) (by kernel_rfl) (by kernel_rfl) (Stabs.pick (by repeat (first | exact Stabs.nil | refine Stabs.cons (by first | exact stab_v _ | exact stab_p _ _ | exact stab_c _ _ | exact stab_k _ _ | exact stab_kg2 _ | exact stab_pt _ | exact stab_s _ _ | exact stab_o _ _ _) ?_))) ?_
 try go_frame
 refine wpG_step _ _ rfl rfl (by simp) (fun w' hb' hR K hK => ?_) (fun v0 => ?_)
 ·clear hR
  have z := hb'.size
  go_simp
  exact hK _ _ (Below.refl _ _) rfl
 try go_frame
 refine wpG_step _ _ rfl rfl (by simp) (fun w' hb' hR K hK => ?_) (fun v1 => ?_)
 ·obtain rfl : v0 = _ := hr hR 0
  have d1 := below_cell hb' c1
  have d2 := below_cell hb' c2
  have d3 := below_cell hb' c3
  have z := hb'.size
  clear hR
  go_simp
  exact hK _ _ (Below.refl _ _) rfl
 try go_frame
 refine wpG_step _ _ rfl rfl (by simp) (fun w' hb' hR K hK => ?_) (fun v2 => ?_)
 ·have d0 := below_cell hb' c0
  have d1 := below_cell hb' c1
  have d2 := below_cell hb' c2
  have d3 := below_cell hb' c3
  have d4 := below_cell hb' c4
  have z := hb'.size
  clear hR
  go_simp
  exact hK _ _ (Below.refl _ _) rfl
 try go_frame
 refine wpG_step _ _ rfl rfl (by simp) (fun w' hb' hR K hK => ?_) (fun v3 => ?_)
 ·obtain rfl : v2 = _ := hr hR 2
  clear hR
  go_simp
  refine ((Hp _ (below_trans hw1 hb')).out).mono ?_
  rintro e w1 ⟨v, rfl, hb1, hv⟩
  exact hK _ _ hb1 hv
 try go_frame
 refine wpG_step _ _ rfl rfl (by simp) (fun w' hb' hR K hK => ?_) (fun v4 => ?_)
 ·obtain ⟨u, pa, pm, pc, rfl, hpu⟩ : IsKG2 ks v3 w' := hr hR 3
  have HPU := Lib.hid hpu
  obtain ⟨⟨ua, um, uc, rfl, _⟩, _⟩ := hpu
  clear hR
  go_simp
  exact hK _ _ (Below.refl _ _) HPU.out
 try go_frame
 refine wpG_step _ _ rfl rfl (by simp) (fun w' hb' hR K hK => ?_) (fun v5 => ?_)
 ·clear hR
  go_simp
  exact hK _ _ (Below.refl _ _) rfl
 try go_frame
 refine wpG_step _ _ rfl rfl (by simp) (fun w' hb' hR K hK => ?_) (fun v6 => ?_)
 ·have hpu : PartsV 0 w' v4 ks := hr hR 4
  obtain rfl : v5 = _ := hr hR 5
  obtain ⟨b, off, uc, rfl, u, hu, hcu⟩ := HKS.out _ _ hpu
  have HCU := Lib.hid hcu
  have HU := Lib.hid hu
  clear hR hpu hcu hu
  go_simp
  exact hK _ _ (Below.refl _ _) ⟨_, _, _, rfl, HU.out, HCU.out⟩
 try go_frame
 refine wpG_step _ _ rfl rfl (by simp) (fun w' hb' hR K hK => ?_) (fun v7 => ?_)
 ·obtain ⟨b, off, u, rfl, hu, hcu⟩ : IsPt kc v6 w' := hr hR 6
  have HCU := Lib.hid hcu
  obtain ⟨⟨ua, um, uc, rfl, _⟩, _⟩ := hcu
  have z := World.block_lt_of_cell? w' _ hu
  simp only at z
  clear hR
  go_simp
  exact hK _ _ (Below.refl _ _) HCU.out
 try go_frame
 refine wpG_step _ _ rfl rfl (by simp) (fun w' hb' hR K hK => ?_) (fun v8 => ?_)
 ·obtain rfl : v1 = _ := hr hR 1
  have hcu : CellsV 0 w' v7 kc := hr hR 7
  have HC9 := Lib.hid ((HIB _ _ hcu).out)
  have z := Lib.hid hb'.size
  clear hR
  go_simp
  refine (HC9.out).mono ?_
  rintro e w1 ⟨v, vs, rfl, hb1, ho, hr⟩
  exact hK _ _ hb1 ⟨_, _, rfl, own_mono (by simpa using ho) z.out, hr.mono z.out⟩
 go_frame
 refine wpG_nil (fun w' hb' hR => ?_)
 obtain ⟨s, vs, rfl, ho, hrs⟩ : IsS w1.heap.size (kc.map (inBoxC l w t)) v8 w' := hR 8 (by simp)
 have HO := Lib.hid ho
 have HS := Lib.hid hrs
 obtain ⟨sa, sc, rfl⟩ := own_slice ho
 have HR' : Hid (w'.heap[W.heap.size + 1]? = _) := Lib.hid ((hb'.block _ zr).trans HR.out)
 have r0 : w'.cell? ⟨W.heap.size + 1, 0, none⟩ = some (.slice none 0 0) := (blk_cell HR'.out 0).trans rfl
 have rf := blk_free HR'.out 0
 have zr' := blk_lt HR'.out
 clear hR ho hrs
 simp only [oas]
 go_wp2
 refine NoPanic.normal ?_
 go_wp2
 refine bodyPost_ret (v := .tuple #[.agg #[.slice sa (kc.map (inBoxC l w t)).length sc], .int .i64 0]) (by simp [results, Tryz.results8, go_sem, r0]) rfl ⟨_, vs, rfl, (below_trans hw1 hb').setCell (by simp) _, ?_, ?_⟩
 ·have := own_mono (own_setCell_far HO.out ⟨W.heap.size + 1, 0, none⟩ (.slice sa (kc.map (inBoxC l w t)).length sc) (fun e => own_blk_ne HO.out HR'.out (by decide) e.symm)) (base' := W.heap.size) hw1.size
  simpa using this
 ·exact (HS.out.set HR'.out (by decide)).mono hw1.size
end
section
open Go.RowKit Go.Shelf
set_option maxRecDepth 100000
attribute [local go_sem] Ext.cell Ext.frozen
theorem Gaps_ok (k l w t : Int) (nv : Value) (n : List Int) (ks : List (List (List Q4))) (gs : List (List Q4)) (W : World)
  (hl : -1000000 ≤ l ∧ l ≤ 1000000) (hw : -1000000 ≤ w ∧ w ≤ 1000000) (ht : -1000000 ≤ t ∧ t ≤ 1000000) (hgn : gs.length ≤ 1000000) (hgs : ∀ c ∈ gs, c.length ≤ 1000) (hn : Ints W nv n)
  (hc : ∀ W', Below W.heap.size W W' → Calls Tryz.prog 48 #[vJ k l w t nv] W' (Ret W' (.int .i64 0)))
  (hp : ∀ W', Below W.heap.size W W' → Calls Tryz.prog 31 #[vJ k l w t nv] W' (PartsPost W' ks gs)) :
  Calls Tryz.prog 16 #[vJ k l w t nv] W fun e w' => ∃ s vs, e = .returned (.tuple #[.agg #[s], .int .i64 0]) ∧ Below W.heap.size W w' ∧
   w'.ownsRow W.heap.size 67 1 s gs.length vs ∧ RowsV w' W.heap.size vs (gs.map (inBoxC l w t)) := by
 have Hc := fun W' h => Lib.hid (hc W' h)
 have Hp := fun W' h => Lib.hid (hp W' h)
 have HIB := fun cv W' (h : CellsV 0 W' cv gs) => Lib.hid (inBox_any l w t cv gs W' hl hw ht 0 h hgn hgs)
 clear hc hp hgn hgs
 unfold vJ at *
 obtain ⟨a, m, c, rfl, hm', hcc, hx⟩ := hn
 clear hx hm'
 obtain ⟨V, HV⟩ : ∃ V, Hid ((W.alloc (.cells #[.int .i64 k, .int .i64 l, .int .i64 w, .int .i64 t, .slice a m c] 25)).alloc (.cells #[.slice none 0 0] 30) = V) := ⟨_, Lib.hid rfl⟩
 have hV : Below W.heap.size W V := by rw [← HV.out]; exact bel
 have HJ : Hid (V.heap[W.heap.size]? = some (.cells #[.int .i64 k, .int .i64 l, .int .i64 w, .int .i64 t, .slice a m c] 25 (0, 0))) := by rw [← HV.out]; exact Lib.hid ((heap_old (by simp)).trans (heap_new rfl))
 have HR : Hid (V.heap[W.heap.size + 1]? = some (.cells #[.slice none 0 0] 30 (0, 0))) := by rw [← HV.out]; exact Lib.hid (heap_new (by simp))
 obtain ⟨j0, j1, j2, j3, j4, _, jz⟩ := blk5 HJ.out
 go_enter Tryz.func16, Tryz.ntmps16
 go_wp2_with fail
 rw [HV.out]
 refine ((Hc _ hV).out).mono ?_
 rintro e w1 ⟨rfl, hb1⟩
 have hw1 := below_trans hV hb1
 have HJ1 := Lib.hid ((hb1.block _ (blk_lt HJ.out)).trans HJ.out)
 have HR1 := Lib.hid ((hb1.block _ (blk_lt HR.out)).trans HR.out)
 clear j0 j1 j2 j3 j4 jz HJ HR Hc HV hV hb1
 obtain ⟨j0, j1, j2, j3, j4, _, jz⟩ := blk5 HJ1.out
 go_wp2
 apply wp_region_growK [] [0, 1, 2, 3, 4, 5] 6 [7] [sv _, sv _, sv _, ⟨PartsR ks gs, by first | exact stab_pr _ _ | exact stab_c _ _ | exact stab_s _ _⟩, ⟨IsC 0 gs, by first | exact stab_pr _ _ | exact stab_c _ _ | exact stab_s _ _⟩, ⟨IsS W.heap.size (gs.map (inBoxC l w t)), by first | exact stab_pr _ _ | exact stab_c _ _ | exact stab_s _ _⟩] (by kernel_rfl) (by kernel_rfl)
 iterate 3 ((try go_frame); refine wkV ?_; apply ex3; (focus (intro u K hK; go_simp; exact hK _ brf)); rfl)
 try go_frame
 refine wkU (fun u hR K hK => ?_) (fun o3 => ?_)
 ·clear hR
  go_simp
  refine ((Hp _ (below_trans hw1 u.below)).out).mono ?_
  rintro e w9 ⟨v9, rfl, hb9, hp9⟩
  exact hK _ _ hb9 hp9
 try go_frame
 refine wkU (fun u hR K hK => ?_) (fun o4 => ?_)
 ·have h3 : PartsR ks gs o3 u.val := hr hR 3
  clear hR
  obtain ⟨pu, pg, rfl, hpu, hpg⟩ := h3
  have HG := Lib.hid hpg
  obtain ⟨ua, um, uc, rfl⟩ := shape_k hpu
  obtain ⟨ga, gm, gc, rfl⟩ := shape_c hpg
  clear hpu hpg
  go_simp
  exact hK _ _ (Below.refl _ _) HG.out
 try go_frame
 refine wkU (fun u hR K hK => ?_) (fun o5 => ?_)
 ·have h4 : IsC 0 gs o4 u.val := hr hR 4
  clear hR
  have z := Nat.le_trans hw1.size u.size
  have HC9 := Lib.hid ((HIB _ _ h4).out)
  obtain ⟨ga, gm, gc, rfl⟩ := shape_c h4
  clear h4
  go_simp
  refine (HC9.out).mono ?_
  rintro e w2 ⟨v, vs, rfl, hb2, ho, hr⟩
  exact hK _ _ hb2 ⟨_, _, rfl, own_mono (by simpa using ho) z, hr.mono z⟩
 try go_frame
 refine wk_nil (fun u hR => ?_)
 obtain ⟨s, vs, rfl, ho, hrs⟩ : IsS W.heap.size (gs.map (inBoxC l w t)) o5 u.val := hR 5 (by simp)
 have HO := Lib.hid ho
 have HS := Lib.hid hrs
 obtain ⟨sa, sc, rfl⟩ := own_slice ho
 have hb2 := u.below
 have HR2 := Lib.hid ((hb2.block _ (blk_lt HR1.out)).trans HR1.out)
 clear hR ho hrs
 generalize u.val = w2 at *
 clear u
 have r0 : w2.cell? ⟨W.heap.size + 1, 0, none⟩ = some (.slice none 0 0) := (blk_cell HR2.out 0).trans rfl
 have rf := blk_free HR2.out 0
 have zr := blk_lt HR2.out
 simp only [oas]
 go_wp2
 refine NoPanic.normal ?_
 go_wp2
 refine bodyPost_ret (v := .tuple #[.agg #[.slice sa (gs.map (inBoxC l w t)).length sc], .int .i64 0]) (by simp [results, Tryz.results16, go_sem, r0]) rfl ⟨_, vs, rfl, (below_trans hw1 hb2).setCell (by simp) _, ?_, ?_⟩
 ·have := own_setCell_far HO.out ⟨W.heap.size + 1, 0, none⟩ (.slice sa (gs.map (inBoxC l w t)).length sc) (fun e => own_blk_ne HO.out HR2.out (by decide) e.symm)
  simpa using this
 ·exact HS.out.set HR2.out (by decide)
theorem Gaps_bad (k l w t ce : Int) (nv : Value) (n : List Int) (W : World) (hn : Ints W nv n) (h0 : ce ≠ 0)
  (hc : ∀ W', Below W.heap.size W W' → Calls Tryz.prog 48 #[vJ k l w t nv] W' (Ret W' (.int .i64 ce))) :
  Calls Tryz.prog 16 #[vJ k l w t nv] W (Ret W (.tuple #[.agg #[.slice none 0 0], .int .i64 ce])) := by
 have Hc := fun W' h => Lib.hid (hc W' h)
 unfold vJ at *
 obtain ⟨a, m, c, rfl, _⟩ := hn
 obtain ⟨V, HV⟩ : ∃ V, Hid ((W.alloc (.cells #[.int .i64 k, .int .i64 l, .int .i64 w, .int .i64 t, .slice a m c] 25)).alloc (.cells #[.slice none 0 0] 30) = V) := ⟨_, Lib.hid rfl⟩
 have hV : Below W.heap.size W V := by rw [← HV.out]; exact bel
 have HJ : Hid (V.heap[W.heap.size]? = some (.cells #[.int .i64 k, .int .i64 l, .int .i64 w, .int .i64 t, .slice a m c] 25 (0, 0))) := by rw [← HV.out]; exact Lib.hid ((heap_old (by simp)).trans (heap_new rfl))
 have HR : Hid (V.heap[W.heap.size + 1]? = some (.cells #[.slice none 0 0] 30 (0, 0))) := by rw [← HV.out]; exact Lib.hid (heap_new (by simp))
 obtain ⟨j0, j1, j2, j3, j4, _, jz⟩ := blk5 HJ.out
 clear hc
 have hne' : (ce != 0) = true := by simpa using h0
 go_enter Tryz.func16, Tryz.ntmps16
 go_wp2_with fail
 rw [HV.out]
 refine ((Hc _ hV).out).mono ?_
 rintro e w1 ⟨rfl, hb1⟩
 have HR1 := Lib.hid ((hb1.block _ (blk_lt HR.out)).trans HR.out)
 have r0 : w1.cell? ⟨W.heap.size + 1, 0, none⟩ = some (.slice none 0 0) := (blk_cell HR1.out 0).trans rfl
 have rf := blk_free HR1.out 0
 have zr := blk_lt HR1.out
 go_wp2
 refine bodyPost_ret (v := .tuple #[.agg #[.slice none 0 0], .int .i64 ce]) (by simp [results, Tryz.results16, go_sem, r0]) rfl ⟨rfl, (below_trans hV hb1).setCell (by simp) _⟩
end
section
open Go.RowKit Go.Shelf
def OkV (w : World) (v : Value) : Prop := NilV v ∧ ∀ b off m c, v = .slice (some ⟨b, off, none⟩) m c → ∃ cs, w.heap[b]? = some (.cells cs 3 (0, 0))
theorem OkV.below {w w' : World} {v : Value} (h : OkV w v) (hb : Below w.heap.size w w') : OkV w' v :=
 ⟨h.1, fun b off m c e => by obtain ⟨cs, hh⟩ := h.2 b off m c e; exact ⟨cs, (hb.block _ (blk_lt hh)).trans hh⟩⟩
end
section
open Go.RowKit Go.Shelf
attribute [local go_sem] Ext.cell Ext.frozen
theorem bInts_same (v v2 : Value) (xs : List Int) (W : World) (hx : Ints W v xs) (hy : Ints W v2 xs) (hm : xs.length ≤ 1000000) : Calls Tryz.prog 52 #[v, v2] W (Ret W (.bool true)) := by
 obtain ⟨a, n, c, rfl, hn, _, hx⟩ := hx
 obtain ⟨a2, n2, c2, rfl, hn2, _, hy⟩ := hy
 obtain rfl : n = n2 := by omega
 go_enter Tryz.func52, Tryz.ntmps52
 go_wp2
 go_loopw [5] (fun i wr => ∃ k : Nat, k ≤ n ∧ i = .int .i64 k ∧ Below W.heap.size W wr) (fun i _ => n - (intOf i).toNat)
 case atStart => exact ⟨0, by omega, rfl, Below.refl _ _⟩
 case round =>
  obtain ⟨k, hk, rfl, hb⟩ := hrel
  by_cases hlt : k < n
  ·obtain ⟨b, off, rfl, hi⟩ := hx (by omega)
   obtain ⟨b2, off2, rfl, hi2⟩ := hy (by omega)
   have c0 := below_cell hb (hi k (by omega))
   have c1 := below_cell hb (hi2 k (by omega))
   have z0 := World.block_lt_of_cell? wr _ c0
   have z1 := World.block_lt_of_cell? wr _ c1
   simp only at z0 z1
   rw [getDI xs k (by omega)] at c0 c1
   generalize xs.getD k 0 = x at *
   have q1 : (k : Int) < (n : Int) := by omega
   have q2 : (0 : Int) ≤ (k : Int) := by omega
   clear hx hy hi hi2
   go_wp2
   refine wqb ?_
   repeat (first | go_big_quiet_step (fail) | quiet_step (fail))
   refine wqn fun u => ?_
   go_wp2
   go_roundw
   case rel => exact ⟨k + 1, by omega, by go_num, below_trans hb u.below⟩
   case measure => simp [intOf]; omega
  ·clear hx hy
   go_wp2
   go_ret
   exact ⟨rfl, hb⟩
set_option maxRecDepth 100000 in
theorem SameJoint_same (k l w t : Int) (v v2 : Value) (xs : List Int) (W : World) (hx : Ints W v xs) (hy : Ints W v2 xs) (hm : xs.length ≤ 1000000) : Calls Tryz.prog 21 #[vJ k l w t v, vJ k l w t v2] W (Ret W (.bool true)) := by
 have h := fun W' h => Lib.hid (bInts_same v v2 xs W' (hx.below (w' := W') h) (hy.below h) hm)
 have hE := fun W' => equalIn_arr3 l w t l w t W'
 simp only [beq_self_eq_true, Bool.and_self] at hE
 unfold vJ
 obtain ⟨a, n, c, rfl, _⟩ := hx
 obtain ⟨a2, n2, c2, rfl, _⟩ := hy
 clear hm
 go_enter Tryz.func21, Tryz.ntmps21
 go_wp2_with fail
 refine ((h _ bel).out).mono ?_
 rintro e w1 ⟨rfl, hb1⟩
 go_wp2
 go_ret
 exact ⟨ret_bool (by simp), below_trans bel hb1⟩
end
section
open Go.RowKit Go.Shelf
set_option maxRecDepth 100000
attribute [local go_sem] Ext.cell Ext.frozen
def SolV (w : World) (v : Value) (css : List (List Q4)) : Prop := Each w v Q4s css
theorem SolV.below {w w' : World} {v : Value} {css : List (List Q4)} (h : SolV w v css) (hb : Below w.heap.size w w') : SolV w' v css := Each.below (fun _ _ _ _ hb h => Q4s.below h hb) h hb
theorem solv_own {w : World} {B : Nat} {v : Value} {vs : List Value} {css : List (List Q4)} (h : w.ownsRow B 67 1 v css.length vs) (hr : RowsV w B vs css) : SolV w v css := by
 have hlen := h.1
 rcases h.2 with ⟨rfl, h0⟩ | ⟨g, cap, cur, rfl, hb, hh, hnc, hcm, hcs, htk⟩
 ·obtain rfl : css = [] := List.length_eq_zero_iff.1 h0
  exact ⟨none, 0, 0, rfl, rfl, Nat.le_refl _, fun h => absurd h (by omega)⟩
 ·refine ⟨_, _, _, rfl, rfl, hnc, fun _ => ⟨g, 0, rfl, fun i hi => ?_⟩⟩
  have hiu : i < vs.length := by omega
  refine ⟨vs[i], ?_, q4s_own (hr.2 i hiu hi)⟩
  rw [Nat.zero_add, blk_cell hh]
  have e : vs[i]? = some vs[i] := List.getElem?_eq_getElem hiu
  generalize vs[i] = ui at *
  rw [← htk, List.getElem?_take] at e
  split at e
  ·simpa using e
  ·cases e
theorem SameSolid_same (v v2 : Value) (css : List (List Q4)) (w : World) (h1 : SolV w v css) (h2 : SolV w v2 css) (hl : ∀ c ∈ css, c.length ≤ 1000000) (hcn : css.length ≤ 1000000) :
  Calls Tryz.prog 14 #[.agg #[v], .agg #[v2]] w (Ret w (.bool true)) := by
 obtain ⟨a, n, c, rfl, hn, hc, hx⟩ := h1
 obtain ⟨a', n', c', rfl, hn', hc', hx'⟩ := h2
 obtain rfl : n = n' := by omega
 have hn6 : n ≤ 1000000 := by omega
 have HX := Lib.hid hx
 have HX' := Lib.hid hx'
 have Hn := Lib.hid hn
 have HL : Hid (∀ i (h : i < css.length), css[i].length ≤ 1000000) := Lib.hid (fun i h => hl _ (List.getElem_mem h))
 clear hx hx' hn hn' hl hcn
 go_enter Tryz.func14, Tryz.ntmps14
 go_wp2
 go_loopw [5] (fun i wr => ∃ k : Nat, k ≤ n ∧ i = .int .i64 k ∧ Below w.heap.size w wr ∧ Hid (wr.heap[w.heap.size]? = some (.cells #[.slice a n c] 30 (0, 0))) ∧ Hid (wr.heap[w.heap.size + 1]? = some (.cells #[.slice a' n c'] 30 (0, 0)))) (fun i _ => n - (intOf i).toNat)
 case atStart => exact ⟨0, by omega, rfl, bel, Lib.hid ((heap_old (by simp)).trans (heap_new rfl)), Lib.hid (heap_new (by simp))⟩
 case round =>
  obtain ⟨k, hk, rfl, hb, HA, HB⟩ := hrel
  have b0 : wr.cell? ⟨w.heap.size, 0, none⟩ = some (.slice a n c) := (blk_cell HA.out 0).trans rfl
  have b1 : wr.cell? ⟨w.heap.size + 1, 0, none⟩ = some (.slice a' n c') := (blk_cell HB.out 0).trans rfl
  have zA := blk_lt HA.out
  have zB := blk_lt HB.out
  by_cases hlt : k < n
  ·obtain ⟨b, off, rfl, hi⟩ := HX.out (by omega)
   obtain ⟨b', off', rfl, hi'⟩ := HX'.out (by omega)
   have hk1 : k < css.length := by have := Hn.out; omega
   obtain ⟨u1, x1, p1⟩ := hi k hk1
   obtain ⟨u2, x2, p2⟩ := hi' k hk1
   have x1 := below_cell hb x1
   have x2 := below_cell hb x2
   have zx := World.block_lt_of_cell? wr _ x1
   have zy := World.block_lt_of_cell? wr _ x2
   simp only at zx zy
   have HSC : ∀ W', Below wr.heap.size wr W' → Hid (Calls Tryz.prog 28 #[.agg #[u1], .agg #[u2]] W' (Ret W' (.bool true))) := fun W' h => Lib.hid (by
    have := SameCell_any u1 u2 css[k] css[k] W' ((p1.below hb).below h) ((p2.below hb).below h) (HL.out k hk1)
    simpa using this)
   obtain ⟨a1, m1, c1, rfl, -⟩ := p1
   obtain ⟨a2, m2, c2, rfl, -⟩ := p2
   have q1 : (k : Int) < (n : Int) := by omega
   have q2 : (0 : Int) ≤ (k : Int) := by omega
   clear hi hi' hk1
   go_wp2
   refine wqb ?_
   repeat (first | go_big_quiet_step ((go_at_call 28; exact quietB_ret ((HSC _ (Ext.below _)).out))) | quiet_step ((go_at_call 28; exact quietB_ret ((HSC _ (Ext.below _)).out))))
   refine wqn fun u => ?_
   go_wp2
   go_roundw
   case rel => exact ⟨k + 1, by omega, by go_num, below_trans hb u.below, Lib.hid ((u.below.block _ zA).trans HA.out), Lib.hid ((u.below.block _ zB).trans HB.out)⟩
   case measure => simp [intOf]; omega
  ·have q1 : ¬ (k : Int) < (n : Int) := by omega
   go_wp2
   go_ret
   exact ⟨rfl, hb⟩
theorem none_zero (W : World) : Calls Tryz.prog 18 #[vJ 0 0 0 0 (.slice none 0 0)] W (Ret W (.bool true)) := by
 have hE := fun W' => equalIn_arr3 0 0 0 0 0 0 W'
 simp only [beq_self_eq_true, Bool.and_self] at hE
 unfold vJ
 go_enter Tryz.func18, Tryz.ntmps18
 go_wp2
 go_ret
 exact ⟨ret_bool (by simp), bel⟩
end
section
open Go.RowKit Go.Shelf
theorem Cells.short {l w t : Int} : ∀ {cs es : List (List Q4)}, Cells l w t cs es → ∀ c ∈ cs, c.length ≤ 10
 | [], [], _ => fun _ h => by simp at h
 | c :: cs, e :: es, h => fun c' hc => by
  rcases List.mem_cons.1 hc with rfl | hc
  ·exact h.1.len
  ·exact Cells.short h.2 c' hc
 | [], _ :: _, h => h.elim
 | _ :: _, [], h => h.elim
theorem gapsC_len (k l : Int) (n : List Int) (hn : n.length ≤ 1000) : (gapsC k l n).length ≤ 1000000 := by
 unfold gapsC
 split
 ·split <;> simp
 ·split
  ·split <;> simp
  ·split
   ·split
    ·simp
    ·have : ∀ j, (dgapTo n j).length = 2 * j := fun j => by
      induction j with
      | zero => rfl
      | succ j ih => rw [dgapTo_succ, List.length_append, ih]; simp; omega
     rw [this]
     unfold holeN
     omega
   ·simp
theorem Gaps_good (k l w t : Int) (nv : Value) (n : List Int) (W : World) (hn : Ints W nv n) (h0 : chkE k l w t n = 0)
  (h8 : ∀ W', Below W.heap.size W W' → k = 8 → Calls Tryz.prog 31 #[vJ 8 l w t nv] W' (PartsPost W' (keepsC 8 l w n) (gapsC 8 l n))) :
  Calls Tryz.prog 16 #[vJ k l w t nv] W fun e w' => ∃ s, e = .returned (.tuple #[.agg #[s], .int .i64 0]) ∧ Below W.heap.size W w' ∧ SolV w' s ((gapsR k l n).map fun e => refN (boxL l w t ++ e)) := by
 have g := good_of h0
 obtain ⟨hl, hw, ht⟩ := g.sz
 have hlen := g.len
 have hc := gaps_cells g
 refine (Gaps_ok k l w t nv n (keepsC k l w n) (gapsC k l n) W (by omega) (by omega) (by omega) (gapsC_len k l n (by omega)) (fun c h => by have := hc.short c h; omega) hn (fun W' hb => by
  have := Check_all k l w t nv n W' (hn.below hb) (by omega)
  rwa [h0] at this) (fun W' hb => partsOf_good k l w t nv n W' (hn.below hb) g (h8 W' hb))).mono ?_
 rintro e w' ⟨s, vs, rfl, hb, ho, hr⟩
 refine ⟨s, rfl, hb, ?_⟩
 rw [← hc.eq hl hw ht]
 exact solv_own (by simpa using ho) hr
end
section
open Go.RowKit Go.Shelf
set_option maxRecDepth 100000
attribute [local go_sem] Ext.cell Ext.frozen
def JPost (W : World) (k l w t : Int) (n : List Int) (se : Int) (e : Ending) (w' : World) : Prop := (se = 0 ∧ ∃ r, e = .returned (.tuple #[vJ k l w t r, .int .i64 0]) ∧ Below W.heap.size W w' ∧ Ints w' r n) ∨ (se ≠ 0 ∧ e = .returned (.tuple #[vJ 0 0 0 0 (.slice none 0 0), .int .i64 se]) ∧ Below W.heap.size W w')
def put5J (w : World) (g : Nat) (a b c d e : Value) : World := ((((w.setCell ⟨g, 0, none⟩ a).setCell ⟨g, 1, none⟩ b).setCell ⟨g, 2, none⟩ c).setCell ⟨g, 3, none⟩ d).setCell ⟨g, 4, none⟩ e
theorem put5J_below {B : Nat} {w0 w : World} {g : Nat} (h : Below B w0 w) (hg : B ≤ g) (a b c d e : Value) : Below B w0 (put5J w g a b c d e) := ((((h.setCell hg _).setCell hg _).setCell hg _).setCell hg _).setCell hg _
def loosE (k l w t : Int) (n : List Int) (gap : Int) : Int := if gapAt k < 0 then 17 else chkE k l w t (n.set (gapAt k).toNat gap)
theorem ints_set {w : World} {g cap a : Nat} {cur : Array Value} {n : List Int} (gap : Int) (hh : w.heap[g]? = some (.cells cur 3 (0, 0))) (hc : ∀ i, i < n.length → cur[i]? = some (.int .i64 (n.getD i 0))) (ha : a < n.length) (hcap : n.length ≤ cap) :
  Ints (w.setCell ⟨g, a, none⟩ (.int .i64 gap)) (.slice (some ⟨g, 0, none⟩) n.length cap) (n.set a gap) := by
 refine ⟨_, _, _, rfl, by simp, hcap, fun _ => ⟨g, 0, rfl, fun i hi => ?_⟩⟩
 have hi' : i < n.length := by simpa using hi
 rw [Nat.zero_add]
 have h1 := hc i hi'
 have h2 := hc a ha
 have hs := (Array.getElem?_eq_some_iff.1 h2).1
 by_cases hia : i = a
 ·subst hia
  rw [blk_cell (blk_set hh i _)]
  simp [hs]
 ·rw [World.cell?_setCell_other _ _ _ _ (by simp), blk_cell hh, h1, List.getElem_set_ne (fun e => hia e.symm), getDI n i hi']
theorem ints_far {w : World} {g g2 i m cap : Nat} {x : Value} {n : List Int} (h : Ints w (.slice (some ⟨g2, 0, none⟩) m cap) n) (hne : g ≠ g2) : Ints (w.setCell ⟨g, i, none⟩ x) (.slice (some ⟨g2, 0, none⟩) m cap) n := by
 obtain ⟨a, q, c, e, hq, hc, hx⟩ := h
 refine ⟨a, q, c, e, hq, hc, fun h0 => ?_⟩
 obtain ⟨b, off, ha, hi⟩ := hx h0
 subst ha
 cases e
 exact ⟨g2, 0, rfl, fun j hj => cell_far (hi j hj) hne⟩
theorem ints_put5 {w : World} {g g2 m cap : Nat} {n : List Int} (h : Ints w (.slice (some ⟨g2, 0, none⟩) m cap) n) (hne : g ≠ g2) (a b c d e : Value) : Ints (put5J w g a b c d e) (.slice (some ⟨g2, 0, none⟩) m cap) n := ints_far (ints_far (ints_far (ints_far (ints_far h hne) hne) hne) hne) hne
theorem own_cur {w : World} {B : Nat} {v : Value} {n : List Int} (h : w.ownsRow B 3 1 v n.length (n.map (Value.int .i64))) (h0 : 0 < n.length) : ∃ g cap cur, v = .slice (some ⟨g, 0, none⟩) n.length cap ∧ B ≤ g ∧ n.length ≤ cap ∧ w.heap[g]? = some (.cells cur 3 (0, 0)) ∧ ∀ i, i < n.length → cur[i]? = some (.int .i64 (n.getD i 0)) := by
 rcases h.2 with ⟨rfl, h1⟩ | ⟨g, cap, cur, rfl, hb, hh, hnc, hcm, hcs, htk⟩
 ·omega
 ·refine ⟨g, cap, cur, rfl, hb, hnc, hh, fun i hi => ?_⟩
  have h3 : (cur.toList.take (n.length * 1))[i]? = some (Value.int .i64 (n.getD i 0)) := by
   rw [htk, List.getElem?_map, List.getElem?_eq_getElem hi, getDI n i hi]
   rfl
  rw [List.getElem?_take, if_pos (by omega)] at h3
  simpa using h3
theorem gap_in {k l w t : Int} {n : List Int} (g : Good k l w t n) (h : ¬ gapAt k < 0) : (gapAt k).toNat < n.length ∧ gapAt k = ((gapAt k).toNat : Int) := by
 have hc := g.cnt
 unfold gapAt at h ⊢
 by_cases h3 : k = 3
 ·subst h3
  have h9 : (n.length : Int) = 6 := (by simpa [cntB] using hc)
  simp
  omega
 ·by_cases h4 : k = 4
  ·subst h4
   have h9 : (n.length : Int) = 4 := (by simpa [cntB] using hc)
   simp
   omega
  ·by_cases h8 : k = 8
   ·subst h8
    have := (g.h8 rfl).1
    simp
    omega
   ·rw [if_neg (by omega), if_neg h8] at h
    omega
theorem rLoosen_none (k l w t gap : Int) (nv : Value) (n : List Int) (W : World) (hk : gapAt k < 0) :
  Calls Tryz.prog 19 #[vJ k l w t nv, .int .i64 gap] W (JPost W k l w t (n.set (gapAt k).toNat gap) 17) := by
 have hG : ∀ W', Hid (Calls Tryz.prog 50 #[.int .i64 k] W' fun e w' => e = .returned (.int .i64 (gapAt k)) ∧ W' = w') := fun W' => Lib.hid (gap_any k W')
 generalize gapAt k = a at *
 obtain ⟨V, HV⟩ : ∃ V, Hid ((W.alloc (.cells #[.int .i64 k, .int .i64 l, .int .i64 w, .int .i64 t, nv] 25)).alloc (.cells #[.int .i64 0, .int .i64 0, .int .i64 0, .int .i64 0, .slice none 0 0] 25) = V) := ⟨_, Lib.hid rfl⟩
 have hV : Below W.heap.size W V := by rw [← HV.out]; exact bel
 have HJ : Hid (V.heap[W.heap.size]? = some (.cells #[.int .i64 k, .int .i64 l, .int .i64 w, .int .i64 t, nv] 25 (0, 0))) := by rw [← HV.out]; exact Lib.hid ((heap_old (by simp)).trans (heap_new rfl))
 have HR : Hid (V.heap[W.heap.size + 1]? = some (.cells #[.int .i64 0, .int .i64 0, .int .i64 0, .int .i64 0, .slice none 0 0] 25 (0, 0))) := by rw [← HV.out]; exact Lib.hid (heap_new (by simp))
 have j0 := (blk_cell HJ.out 0).trans rfl
 have jz := blk_lt HJ.out
 obtain ⟨r0, r1, r2, r3, r4, rf, zr⟩ := blk5 HR.out
 have rf0 := rf 0
 have rf1 := rf 1
 have rf2 := rf 2
 have rf3 := rf 3
 have rf4 := rf 4
 clear rf
 unfold vJ
 go_enter Tryz.func19, Tryz.ntmps19
 go_wp2_with fail
 rw [HV.out]
 refine ((hG _).out).mono ?_
 rintro e wG ⟨rfl, rfl⟩
 go_wp2
 refine bodyPost_ret (v := .tuple #[.agg #[.int .i64 0, .int .i64 0, .int .i64 0, .int .i64 0, .slice none 0 0], .int .i64 17]) (by simp [results, Tryz.results19, go_sem, r0, r1, r2, r3, r4]) rfl (.inr ⟨by decide, rfl, ?_⟩)
 exact put5J_below hV (by simp) _ _ _ _ _
theorem rLoosen_some (k l w t gap : Int) (nv : Value) (n : List Int) (W : World) (hn : Ints W nv n) (hnil : NilV nv) (g : Good k l w t n) (hk : ¬ gapAt k < 0) :
  Calls Tryz.prog 19 #[vJ k l w t nv, .int .i64 gap] W (JPost W k l w t (n.set (gapAt k).toNat gap) (chkE k l w t (n.set (gapAt k).toNat gap))) := by
 have hG : ∀ W', Hid (Calls Tryz.prog 50 #[.int .i64 k] W' fun e w' => e = .returned (.int .i64 (gapAt k)) ∧ W' = w') := fun W' => Lib.hid (gap_any k W')
 obtain ⟨ha, hka⟩ := gap_in g hk
 have hlen := g.len
 rw [hka] at hG
 generalize (gapAt k).toNat = a at *
 have HCp := fun W' h => Lib.hid (CopyInts_any nv n W' (hn.below (w' := W') h) hnil (by omega))
 have HC := fun r W' (h : Ints W' r (n.set a gap)) => Lib.hid (rCheck_all k l w t r (n.set a gap) W' h (by simp; omega))
 obtain ⟨ad, m, c, rfl, hm, _⟩ := id hn
 generalize chkE k l w t (n.set a gap) = ce at *
 obtain ⟨V, HV⟩ : ∃ V, Hid ((W.alloc (.cells #[.int .i64 k, .int .i64 l, .int .i64 w, .int .i64 t, .slice ad m c] 25)).alloc (.cells #[.int .i64 0, .int .i64 0, .int .i64 0, .int .i64 0, .slice none 0 0] 25) = V) := ⟨_, Lib.hid rfl⟩
 have hV : Below W.heap.size W V := by rw [← HV.out]; exact bel
 have zV : W.heap.size + 2 ≤ V.heap.size := by rw [← HV.out]; simp
 have HJ : Hid (V.heap[W.heap.size]? = some (.cells #[.int .i64 k, .int .i64 l, .int .i64 w, .int .i64 t, .slice ad m c] 25 (0, 0))) := by rw [← HV.out]; exact Lib.hid ((heap_old (by simp)).trans (heap_new rfl))
 have HR : Hid (V.heap[W.heap.size + 1]? = some (.cells #[.int .i64 0, .int .i64 0, .int .i64 0, .int .i64 0, .slice none 0 0] 25 (0, 0))) := by rw [← HV.out]; exact Lib.hid (heap_new (by simp))
 obtain ⟨j0, j1, j2, j3, j4, jf, zj⟩ := blk5 HJ.out
 have jf4 := jf 4
 clear jf
 obtain ⟨X, HX⟩ : ∃ X, Hid (V.alloc (.cells #[.int .i64 k, .int .i64 l, .int .i64 w, .int .i64 t, .slice ad m c] 25) = X) := ⟨_, Lib.hid rfl⟩
 have hbX : Below V.heap.size V X := by rw [← HX.out]; exact bel
 have HB : Hid (X.heap[V.heap.size]? = some (.cells #[.int .i64 k, .int .i64 l, .int .i64 w, .int .i64 t, .slice ad m c] 25 (0, 0))) := by rw [← HX.out]; exact Lib.hid (heap_new rfl)
 have zX := blk_lt HB.out
 have HJX := Lib.hid ((hbX.block _ (blk_lt HJ.out)).trans HJ.out)
 have HCX := Lib.hid ((HCp X (below_trans hV hbX)).out)
 have y4 : X.cell? ⟨W.heap.size, 4, none⟩ = some (.slice ad m c) := (blk_cell HJX.out 4).trans rfl
 have zy := blk_lt HJX.out
 clear HCp hn hnil g hk hka hm
 unfold vJ at *
 go_enter Tryz.func19, Tryz.ntmps19
 go_wp2_with fail
 rw [HV.out]
 refine ((hG _).out).mono ?_
 rintro e wG ⟨rfl, rfl⟩
 go_wp2_with fail
 rw [HX.out]
 refine (HCX.out).mono ?_
 rintro e w1 ⟨r, rfl, hb1, ho⟩
 obtain ⟨g2, cap, cur, rfl, hg2, hcap, hh, hcur⟩ := own_cur ho (by omega)
 have HB1 := Lib.hid ((hb1.block _ (blk_lt HB.out)).trans HB.out)
 have HR1 := Lib.hid ((hb1.block _ (Nat.lt_of_lt_of_le (blk_lt HR.out) hbX.size)).trans ((hbX.block _ (blk_lt HR.out)).trans HR.out))
 have hne : g2 ≠ V.heap.size := by omega
 have HB2 := Lib.hid (blk_set HB1.out 4 (.slice (some ⟨g2, 0, none⟩) n.length cap))
 have hh2 : (w1.setCell ⟨V.heap.size, 4, none⟩ (.slice (some ⟨g2, 0, none⟩) n.length cap)).heap[g2]? = some (.cells cur 3 (0, 0)) := (Below.heap_setCell _ _ _ _ (by simpa using hne)).trans hh
 have hI := ints_set (cap := cap) gap hh2 hcur ha hcap
 have hc2 := (blk_cell hh2 a).trans (hcur a ha)
 have hf2 := blk_free hh2 a
 have hz2 := blk_lt hh2
 have HB3 := Lib.hid ((Below.heap_setCell (w1.setCell ⟨V.heap.size, 4, none⟩ (.slice (some ⟨g2, 0, none⟩) n.length cap)) ⟨g2, a, none⟩ (.int .i64 gap) V.heap.size (by simpa using fun e => hne e.symm)).trans HB2.out)
 have HR3 := Lib.hid ((Below.heap_setCell (w1.setCell ⟨V.heap.size, 4, none⟩ (.slice (some ⟨g2, 0, none⟩) n.length cap)) ⟨g2, a, none⟩ (.int .i64 gap) (W.heap.size + 1) (by simp; omega)).trans ((Below.heap_setCell w1 ⟨V.heap.size, 4, none⟩ (.slice (some ⟨g2, 0, none⟩) n.length cap) (W.heap.size + 1) (by simp; omega)).trans HR1.out))
 have hb3 : Below W.heap.size W ((w1.setCell ⟨V.heap.size, 4, none⟩ (.slice (some ⟨g2, 0, none⟩) n.length cap)).setCell ⟨g2, a, none⟩ (.int .i64 gap)) := ((below_trans (below_trans hV hbX) hb1).setCell (by simp; omega) _).setCell (by simp; omega) _
 have HI := Lib.hid hI
 have HC3 := Lib.hid ((HC _ _ hI).out)
 obtain ⟨p0, p1, p2, p3, p4, pf, zp⟩ := blk5 HB1.out
 have pf4 := pf 4
 clear pf
 have s4 := (blk_cell HB2.out 4).trans rfl
 have zs := blk_lt HB2.out
 obtain ⟨q0, q1, q2, q3, q4, qf, zq⟩ := blk5 HB3.out
 have qf4 := qf 4
 clear qf
 have i1 : (a : Int) < (n.length : Int) := by omega
 have i2 : (0 : Int) ≤ (a : Int) := by omega
 clear ho hb1 hh hcur hh2 hI HC HB HB2 HB1 HJ HJX j0 j1 j2 j3 j4 jf4 zj HR HR1
 go_wp2_with fail
 refine (HC3.out).mono ?_
 rintro e w4 ⟨rfl, hb4⟩
 have HB4 := Lib.hid ((hb4.block _ (blk_lt HB3.out)).trans HB3.out)
 have HR4 := Lib.hid ((hb4.block _ (blk_lt HR3.out)).trans HR3.out)
 have HI4 := Lib.hid (HI.out.below hb4)
 have hw4 := below_trans hb3 hb4
 clear HB3 HR3 HI HC3 hb3 hb4 q0 q1 q2 q3 q4 qf4 zq p0 p1 p2 p3 p4 pf4 zp s4 zs hc2 hf2 hz2 y4 zy HCX
 obtain ⟨q0, q1, q2, q3, q4, qf, zq⟩ := blk5 HB4.out
 have qf4 := qf 4
 clear qf
 obtain ⟨r0, r1, r2, r3, r4, rf, zr⟩ := blk5 HR4.out
 have rf0 := rf 0
 have rf1 := rf 1
 have rf2 := rf 2
 have rf3 := rf 3
 have rf4 := rf 4
 clear rf
 have hgr : W.heap.size + 1 ≠ g2 := by omega
 by_cases hce : ce = 0
 ·subst hce
  go_wp2
  refine bodyPost_ret (v := .tuple #[.agg #[.int .i64 k, .int .i64 l, .int .i64 w, .int .i64 t, .slice (some ⟨g2, 0, none⟩) n.length cap], .int .i64 0]) (by simp [results, Tryz.results19, go_sem, r0, r1, r2, r3, r4]) rfl (.inl ⟨rfl, _, rfl, ?_, ?_⟩)
  ·exact put5J_below hw4 (by simp) _ _ _ _ _
  ·exact ints_put5 HI4.out hgr _ _ _ _ _
 ·have hne' : (ce != 0) = true := by simpa using hce
  go_wp2
  refine bodyPost_ret (v := .tuple #[.agg #[.int .i64 0, .int .i64 0, .int .i64 0, .int .i64 0, .slice none 0 0], .int .i64 ce]) (by simp [results, Tryz.results19, go_sem, r0, r1, r2, r3, r4]) rfl (.inr ⟨hce, rfl, ?_⟩)
  exact put5J_below hw4 (by simp) _ _ _ _ _
theorem JPost.other {W : World} {k l w t : Int} {n n' : List Int} {se : Int} {e : Ending} {w' : World} (h : JPost W k l w t n se e w') (hs : se ≠ 0) : JPost W k l w t n' se e w' := by
 rcases h with ⟨h1, _⟩ | h
 ·exact absurd h1 hs
 ·exact .inr h
theorem rLoosen_good (k l w t gap : Int) (nv : Value) (n : List Int) (W : World) (hn : Ints W nv n) (hnil : NilV nv) (g : Good k l w t n) :
  Calls Tryz.prog 19 #[vJ k l w t nv, .int .i64 gap] W (JPost W k l w t (n.set (gapAt k).toNat gap) (loosE k l w t n gap)) := by
 unfold loosE
 by_cases h : gapAt k < 0
 ·rw [if_pos h]
  exact rLoosen_none k l w t gap nv n W h
 ·rw [if_neg h]
  exact rLoosen_some k l w t gap nv n W hn hnil g h
end
end Go.Proofs.YtokhkhnofkcalaaGreatDoor
