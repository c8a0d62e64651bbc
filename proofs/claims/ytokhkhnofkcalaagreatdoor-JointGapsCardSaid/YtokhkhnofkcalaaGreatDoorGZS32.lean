/- texts: Y4. -/
import Derived.Test.YtokhkhnofkcalaaGreatDoorGZS31
namespace Go.Proofs.YtokhkhnofkcalaaGreatDoor
set_option maxHeartbeats 8000000
set_option linter.unusedSimpArgs false
set_option linter.unusedVariables false
section
open Go.RowKit Go.Shelf
set_option maxRecDepth 100000
attribute [local go_sem] Ext.cell Ext.frozen
theorem jLoosen_bad (k l w t gap : Int) (nv : Value) (n : List Int) (W : World) (hn : Ints W nv n) (hl : n.length ≤ 1000000) (h0 : chkE k l w t n ≠ 0) :
  Calls Tryz.prog 17 #[vJ k l w t nv, .int .i64 gap] W (JPost W k l w t n (chkE k l w t n)) := by
 have HC0 := fun W' (h : Ints W' nv n) => Lib.hid (Check_all k l w t nv n W' h hl)
 generalize chkE k l w t n = ce at *
 obtain ⟨ad, m, c, rfl, hm, _⟩ := id hn
 obtain ⟨V, HV⟩ : ∃ V, Hid ((W.alloc (.cells #[.int .i64 k, .int .i64 l, .int .i64 w, .int .i64 t, .slice ad m c] 25)).alloc (.cells #[.int .i64 0, .int .i64 0, .int .i64 0, .int .i64 0, .slice none 0 0] 25) = V) := ⟨_, Lib.hid rfl⟩
 have hV : Below W.heap.size W V := by rw [← HV.out]; exact bel
 have zV : W.heap.size + 2 ≤ V.heap.size := by rw [← HV.out]; simp
 have HJ : Hid (V.heap[W.heap.size]? = some (.cells #[.int .i64 k, .int .i64 l, .int .i64 w, .int .i64 t, .slice ad m c] 25 (0, 0))) := by rw [← HV.out]; exact Lib.hid ((heap_old (by simp)).trans (heap_new rfl))
 have HR : Hid (V.heap[W.heap.size + 1]? = some (.cells #[.int .i64 0, .int .i64 0, .int .i64 0, .int .i64 0, .slice none 0 0] 25 (0, 0))) := by rw [← HV.out]; exact Lib.hid (heap_new (by simp))
 have HCV := Lib.hid ((HC0 V (hn.below hV)).out)
 obtain ⟨j0, j1, j2, j3, j4, jf, zj⟩ := blk5 HJ.out
 have jf4 := jf 4
 clear jf
 unfold vJ at *
 go_enter Tryz.func17, Tryz.ntmps17
 go_wp2_with fail
 rw [HV.out]
 refine (HCV.out).mono ?_
 rintro e w1 ⟨rfl, hb1⟩
 have HJ1 := Lib.hid ((hb1.block _ (blk_lt HJ.out)).trans HJ.out)
 have HR1 := Lib.hid ((hb1.block _ (blk_lt HR.out)).trans HR.out)
 have hw1 := below_trans hV hb1
 clear HJ HR j0 j1 j2 j3 j4 jf4 zj HCV HV
 have hne' : (ce != 0) = true := by simpa using h0
 obtain ⟨r0, r1, r2, r3, r4, rf, zr⟩ := blk5 HR1.out
 have rf0 := rf 0
 have rf1 := rf 1
 have rf2 := rf 2
 have rf3 := rf 3
 have rf4 := rf 4
 clear rf
 go_wp2
 refine bodyPost_ret (v := .tuple #[.agg #[.int .i64 0, .int .i64 0, .int .i64 0, .int .i64 0, .slice none 0 0], .int .i64 ce]) (by simp [results, Tryz.results17, go_sem, r0, r1, r2, r3, r4]) rfl (.inr ⟨h0, rfl, ?_⟩)
 exact put5J_below hw1 (by simp) _ _ _ _ _
theorem jLoosen_none (k l w t gap : Int) (nv : Value) (n : List Int) (W : World) (hn : Ints W nv n) (hl : n.length ≤ 1000000) (h0 : chkE k l w t n = 0) (h3 : k ≠ 3) (h4 : k ≠ 4) (h8 : k ≠ 8) :
  Calls Tryz.prog 17 #[vJ k l w t nv, .int .i64 gap] W (JPost W k l w t n 17) := by
 have HC0 := fun W' (h : Ints W' nv n) => Lib.hid (Check_all k l w t nv n W' h hl)
 rw [h0] at HC0
 have g3 : (k == 3) = false := by simpa using h3
 have g4 : (k == 4) = false := by simpa using h4
 have g8 : (k == 8) = false := by simpa using h8
 obtain ⟨ad, m, c, rfl, hm, _⟩ := id hn
 clear h3 h4 h8 h0
 obtain ⟨V, HV⟩ : ∃ V, Hid ((W.alloc (.cells #[.int .i64 k, .int .i64 l, .int .i64 w, .int .i64 t, .slice ad m c] 25)).alloc (.cells #[.int .i64 0, .int .i64 0, .int .i64 0, .int .i64 0, .slice none 0 0] 25) = V) := ⟨_, Lib.hid rfl⟩
 have hV : Below W.heap.size W V := by rw [← HV.out]; exact bel
 have zV : W.heap.size + 2 ≤ V.heap.size := by rw [← HV.out]; simp
 have HJ : Hid (V.heap[W.heap.size]? = some (.cells #[.int .i64 k, .int .i64 l, .int .i64 w, .int .i64 t, .slice ad m c] 25 (0, 0))) := by rw [← HV.out]; exact Lib.hid ((heap_old (by simp)).trans (heap_new rfl))
 have HR : Hid (V.heap[W.heap.size + 1]? = some (.cells #[.int .i64 0, .int .i64 0, .int .i64 0, .int .i64 0, .slice none 0 0] 25 (0, 0))) := by rw [← HV.out]; exact Lib.hid (heap_new (by simp))
 have HCV := Lib.hid ((HC0 V (hn.below hV)).out)
 obtain ⟨j0, j1, j2, j3, j4, jf, zj⟩ := blk5 HJ.out
 have jf4 := jf 4
 clear jf
 unfold vJ at *
 go_enter Tryz.func17, Tryz.ntmps17
 go_wp2_with fail
 rw [HV.out]
 refine (HCV.out).mono ?_
 rintro e w1 ⟨rfl, hb1⟩
 have HJ1 := Lib.hid ((hb1.block _ (blk_lt HJ.out)).trans HJ.out)
 have HR1 := Lib.hid ((hb1.block _ (blk_lt HR.out)).trans HR.out)
 have hw1 := below_trans hV hb1
 clear HJ HR j0 j1 j2 j3 j4 jf4 zj HCV HV
 obtain ⟨j0, j1, j2, j3, j4, jf, zj⟩ := blk5 HJ1.out
 have jf4 := jf 4
 clear jf
 obtain ⟨r0, r1, r2, r3, r4, rf, zr⟩ := blk5 HR1.out
 have rf0 := rf 0
 have rf1 := rf 1
 have rf2 := rf 2
 have rf3 := rf 3
 have rf4 := rf 4
 clear rf
 go_wp2
 refine bodyPost_ret (v := .tuple #[.agg #[.int .i64 0, .int .i64 0, .int .i64 0, .int .i64 0, .slice none 0 0], .int .i64 17]) (by simp [results, Tryz.results17, go_sem, r0, r1, r2, r3, r4]) rfl (.inr ⟨by decide, rfl, ?_⟩)
 exact put5J_below hw1 (by simp) _ _ _ _ _
theorem jLoosen_34 (k l w t gap : Int) (nv : Value) (n : List Int) (W : World) (hn : Ints W nv n) (hl : n.length ≤ 1000) (h0 : chkE k l w t n = 0) (ha : 1 < n.length) (hk : (k == 3) = true ∨ (k == 3) = false ∧ (k == 4) = true) :
  Calls Tryz.prog 17 #[vJ k l w t nv, .int .i64 gap] W (JPost W k l w t (n.set 1 gap) (chkE k l w t (n.set 1 gap))) := by
 have HC0 := fun W' (h : Ints W' nv n) => Lib.hid (Check_all k l w t nv n W' h (by omega))
 have HC := fun r W' (h : Ints W' r (n.set 1 gap)) => Lib.hid (Check_all k l w t r (n.set 1 gap) W' h (by simp; omega))
 rw [h0] at HC0
 generalize chkE k l w t (n.set 1 gap) = ce at *
 rcases hk with (g3 | ⟨g3, g4⟩)
 all_goals
  obtain ⟨b, off, c, rfl, hcc, zb, hat⟩ := hn.at' (by omega)
  have Hat := Lib.hid hat
  clear h0 hat
  obtain ⟨V, HV⟩ : ∃ V, Hid ((W.alloc (.cells #[.int .i64 k, .int .i64 l, .int .i64 w, .int .i64 t, .slice (some ⟨b, off, none⟩) n.length c] 25)).alloc (.cells #[.int .i64 0, .int .i64 0, .int .i64 0, .int .i64 0, .slice none 0 0] 25) = V) := ⟨_, Lib.hid rfl⟩
  have hV : Below W.heap.size W V := by rw [← HV.out]; exact bel
  have zV : W.heap.size + 2 ≤ V.heap.size := by rw [← HV.out]; simp
  have HJ : Hid (V.heap[W.heap.size]? = some (.cells #[.int .i64 k, .int .i64 l, .int .i64 w, .int .i64 t, .slice (some ⟨b, off, none⟩) n.length c] 25 (0, 0))) := by rw [← HV.out]; exact Lib.hid ((heap_old (by simp)).trans (heap_new rfl))
  have HR : Hid (V.heap[W.heap.size + 1]? = some (.cells #[.int .i64 0, .int .i64 0, .int .i64 0, .int .i64 0, .slice none 0 0] 25 (0, 0))) := by rw [← HV.out]; exact Lib.hid (heap_new (by simp))
  have HCV := Lib.hid ((HC0 V (hn.below hV)).out)
  obtain ⟨j0, j1, j2, j3, j4, jf, zj⟩ := blk5 HJ.out
  have jf4 := jf 4
  clear jf
  unfold vJ at *
  go_enter Tryz.func17, Tryz.ntmps17
  go_wp2_with fail
  rw [HV.out]
  refine (HCV.out).mono ?_
  rintro e w1 ⟨rfl, hb1⟩
  have HJ1 := Lib.hid ((hb1.block _ (blk_lt HJ.out)).trans HJ.out)
  have HR1 := Lib.hid ((hb1.block _ (blk_lt HR.out)).trans HR.out)
  have hw1 := below_trans hV hb1
  clear HJ HR j0 j1 j2 j3 j4 jf4 zj HCV HV
  obtain ⟨j0, j1, j2, j3, j4, jf, zj⟩ := blk5 HJ1.out
  have jf4 := jf 4
  clear jf
  have HCl := Lib.hid (Tryz.slices_Clone_int b off n.length c n w1 (Nat.le_refl _) (by omega) (fun j hj => below_cell hw1 (Hat.out j hj)))
  go_wp2_with fail
  refine (HCl.out).mono ?_
  rintro e w2 ⟨r, rfl, ho, _, hb2⟩
  rw [List.take_length] at ho
  obtain ⟨g2, cap, cur, rfl, hg2, hcap, hh, hcur⟩ := own_cur ho (by omega)
  have HB1 := Lib.hid ((hb2.block _ (blk_lt HJ1.out)).trans HJ1.out)
  have HR2 := Lib.hid ((hb2.block _ (blk_lt HR1.out)).trans HR1.out)
  have zz1 := hw1.size
  have zz2 := blk_lt HR1.out
  have hne : g2 ≠ W.heap.size := by omega
  have HB2 := Lib.hid (blk_set HB1.out 4 (.slice (some ⟨g2, 0, none⟩) n.length cap))
  have hh2 : (w2.setCell ⟨W.heap.size, 4, none⟩ (.slice (some ⟨g2, 0, none⟩) n.length cap)).heap[g2]? = some (.cells cur 3 (0, 0)) := (Below.heap_setCell _ _ _ _ (by simpa using hne)).trans hh
  have hI := ints_set (cap := cap) gap hh2 hcur ha hcap
  have hc2 := (blk_cell hh2 1).trans (hcur 1 ha)
  have hf2 := blk_free hh2 1
  have hz2 := blk_lt hh2
  have HB3 := Lib.hid ((Below.heap_setCell (w2.setCell ⟨W.heap.size, 4, none⟩ (.slice (some ⟨g2, 0, none⟩) n.length cap)) ⟨g2, 1, none⟩ (.int .i64 gap) W.heap.size (by simpa using fun e => hne e.symm)).trans HB2.out)
  have HR3 := Lib.hid ((Below.heap_setCell (w2.setCell ⟨W.heap.size, 4, none⟩ (.slice (some ⟨g2, 0, none⟩) n.length cap)) ⟨g2, 1, none⟩ (.int .i64 gap) (W.heap.size + 1) (by simp; omega)).trans ((Below.heap_setCell w2 ⟨W.heap.size, 4, none⟩ (.slice (some ⟨g2, 0, none⟩) n.length cap) (W.heap.size + 1) (by simp)).trans HR2.out))
  have hb3 : Below W.heap.size W ((w2.setCell ⟨W.heap.size, 4, none⟩ (.slice (some ⟨g2, 0, none⟩) n.length cap)).setCell ⟨g2, 1, none⟩ (.int .i64 gap)) := ((below_trans hw1 hb2).setCell (by simp) _).setCell (by simp; omega) _
  have HI := Lib.hid hI
  have HC3 := Lib.hid ((HC _ _ hI).out)
  clear j0 j1 j2 j3 j4 jf4 zj
  obtain ⟨p0, p1, p2, p3, p4, pf, zp⟩ := blk5 HB1.out
  have pf4 := pf 4
  clear pf
  have s4 := (blk_cell HB2.out 4).trans rfl
  have zs := blk_lt HB2.out
  obtain ⟨q0, q1, q2, q3, q4, qf, zq⟩ := blk5 HB3.out
  have qf4 := qf 4
  clear qf
  have i1 : (1 : Int) < (n.length : Int) := by omega
  unfold vJ at *
  clear ho hh hcur hh2 hI HC HB2 HB1 HR1 HJ1 HR2 HCl HC0 Hat
  go_wp2_with fail
  refine (HC3.out).mono ?_
  rintro e w4 ⟨rfl, hb4⟩
  have HB4 := Lib.hid ((hb4.block _ (blk_lt HB3.out)).trans HB3.out)
  have HR4 := Lib.hid ((hb4.block _ (blk_lt HR3.out)).trans HR3.out)
  have HI4 := Lib.hid (HI.out.below hb4)
  have hw4 := below_trans hb3 hb4
  clear HB3 HR3 HI HC3 hb3 hb4 q0 q1 q2 q3 q4 qf4 zq p0 p1 p2 p3 p4 pf4 zp s4 zs hc2 hf2 hz2
  obtain ⟨q0, q1, q2, q3, q4, qf, zq⟩ := blk5 HB4.out
  have qf4 := qf 4
  clear qf
  obtain ⟨r0, r1, r2, r3, r4, rf, zr⟩ := blk5 HR4.out
  have rf0 := rf 0
  have rf1 := rf 1
  have rf2 := rf 2
  have rf3 := rf 3
  have rf4 := rf 4
  clear rf
  have hgr : W.heap.size + 1 ≠ g2 := by omega
  by_cases hce : ce = 0
  ·subst hce
   go_wp2
   refine bodyPost_ret (v := .tuple #[.agg #[.int .i64 k, .int .i64 l, .int .i64 w, .int .i64 t, .slice (some ⟨g2, 0, none⟩) n.length cap], .int .i64 0]) (by simp [results, Tryz.results17, go_sem, r0, r1, r2, r3, r4]) rfl (.inl ⟨rfl, _, rfl, ?_, ?_⟩)
   ·exact put5J_below hw4 (by simp) _ _ _ _ _
   ·exact ints_put5 HI4.out hgr _ _ _ _ _
  ·have hne' : (ce != 0) = true := by simpa using hce
   go_wp2
   refine bodyPost_ret (v := .tuple #[.agg #[.int .i64 0, .int .i64 0, .int .i64 0, .int .i64 0, .slice none 0 0], .int .i64 ce]) (by simp [results, Tryz.results17, go_sem, r0, r1, r2, r3, r4]) rfl (.inr ⟨hce, rfl, ?_⟩)
   exact put5J_below hw4 (by simp) _ _ _ _ _
theorem jLoosen_8 (k l w t gap : Int) (nv : Value) (n : List Int) (W : World) (hn : Ints W nv n) (hl : n.length ≤ 1000) (h0 : chkE k l w t n = 0) (ha : 5 < n.length) (hk : (k == 3) = false ∧ (k == 4) = false ∧ (k == 8) = true) :
  Calls Tryz.prog 17 #[vJ k l w t nv, .int .i64 gap] W (JPost W k l w t (n.set 5 gap) (chkE k l w t (n.set 5 gap))) := by
 have HC0 := fun W' (h : Ints W' nv n) => Lib.hid (Check_all k l w t nv n W' h (by omega))
 have HC := fun r W' (h : Ints W' r (n.set 5 gap)) => Lib.hid (Check_all k l w t r (n.set 5 gap) W' h (by simp; omega))
 rw [h0] at HC0
 generalize chkE k l w t (n.set 5 gap) = ce at *
 rcases hk with ⟨g3, g4, g8⟩
 all_goals
  obtain ⟨b, off, c, rfl, hcc, zb, hat⟩ := hn.at' (by omega)
  have Hat := Lib.hid hat
  clear h0 hat
  obtain ⟨V, HV⟩ : ∃ V, Hid ((W.alloc (.cells #[.int .i64 k, .int .i64 l, .int .i64 w, .int .i64 t, .slice (some ⟨b, off, none⟩) n.length c] 25)).alloc (.cells #[.int .i64 0, .int .i64 0, .int .i64 0, .int .i64 0, .slice none 0 0] 25) = V) := ⟨_, Lib.hid rfl⟩
  have hV : Below W.heap.size W V := by rw [← HV.out]; exact bel
  have zV : W.heap.size + 2 ≤ V.heap.size := by rw [← HV.out]; simp
  have HJ : Hid (V.heap[W.heap.size]? = some (.cells #[.int .i64 k, .int .i64 l, .int .i64 w, .int .i64 t, .slice (some ⟨b, off, none⟩) n.length c] 25 (0, 0))) := by rw [← HV.out]; exact Lib.hid ((heap_old (by simp)).trans (heap_new rfl))
  have HR : Hid (V.heap[W.heap.size + 1]? = some (.cells #[.int .i64 0, .int .i64 0, .int .i64 0, .int .i64 0, .slice none 0 0] 25 (0, 0))) := by rw [← HV.out]; exact Lib.hid (heap_new (by simp))
  have HCV := Lib.hid ((HC0 V (hn.below hV)).out)
  obtain ⟨j0, j1, j2, j3, j4, jf, zj⟩ := blk5 HJ.out
  have jf4 := jf 4
  clear jf
  unfold vJ at *
  go_enter Tryz.func17, Tryz.ntmps17
  go_wp2_with fail
  rw [HV.out]
  refine (HCV.out).mono ?_
  rintro e w1 ⟨rfl, hb1⟩
  have HJ1 := Lib.hid ((hb1.block _ (blk_lt HJ.out)).trans HJ.out)
  have HR1 := Lib.hid ((hb1.block _ (blk_lt HR.out)).trans HR.out)
  have hw1 := below_trans hV hb1
  clear HJ HR j0 j1 j2 j3 j4 jf4 zj HCV HV
  obtain ⟨j0, j1, j2, j3, j4, jf, zj⟩ := blk5 HJ1.out
  have jf4 := jf 4
  clear jf
  have HCl := Lib.hid (Tryz.slices_Clone_int b off n.length c n w1 (Nat.le_refl _) (by omega) (fun j hj => below_cell hw1 (Hat.out j hj)))
  go_wp2_with fail
  refine (HCl.out).mono ?_
  rintro e w2 ⟨r, rfl, ho, _, hb2⟩
  rw [List.take_length] at ho
  obtain ⟨g2, cap, cur, rfl, hg2, hcap, hh, hcur⟩ := own_cur ho (by omega)
  have HB1 := Lib.hid ((hb2.block _ (blk_lt HJ1.out)).trans HJ1.out)
  have HR2 := Lib.hid ((hb2.block _ (blk_lt HR1.out)).trans HR1.out)
  have zz1 := hw1.size
  have zz2 := blk_lt HR1.out
  have hne : g2 ≠ W.heap.size := by omega
  have HB2 := Lib.hid (blk_set HB1.out 4 (.slice (some ⟨g2, 0, none⟩) n.length cap))
  have hh2 : (w2.setCell ⟨W.heap.size, 4, none⟩ (.slice (some ⟨g2, 0, none⟩) n.length cap)).heap[g2]? = some (.cells cur 3 (0, 0)) := (Below.heap_setCell _ _ _ _ (by simpa using hne)).trans hh
  have hI := ints_set (cap := cap) gap hh2 hcur ha hcap
  have hc2 := (blk_cell hh2 5).trans (hcur 5 ha)
  have hf2 := blk_free hh2 5
  have hz2 := blk_lt hh2
  have HB3 := Lib.hid ((Below.heap_setCell (w2.setCell ⟨W.heap.size, 4, none⟩ (.slice (some ⟨g2, 0, none⟩) n.length cap)) ⟨g2, 5, none⟩ (.int .i64 gap) W.heap.size (by simpa using fun e => hne e.symm)).trans HB2.out)
  have HR3 := Lib.hid ((Below.heap_setCell (w2.setCell ⟨W.heap.size, 4, none⟩ (.slice (some ⟨g2, 0, none⟩) n.length cap)) ⟨g2, 5, none⟩ (.int .i64 gap) (W.heap.size + 1) (by simp; omega)).trans ((Below.heap_setCell w2 ⟨W.heap.size, 4, none⟩ (.slice (some ⟨g2, 0, none⟩) n.length cap) (W.heap.size + 1) (by simp)).trans HR2.out))
  have hb3 : Below W.heap.size W ((w2.setCell ⟨W.heap.size, 4, none⟩ (.slice (some ⟨g2, 0, none⟩) n.length cap)).setCell ⟨g2, 5, none⟩ (.int .i64 gap)) := ((below_trans hw1 hb2).setCell (by simp) _).setCell (by simp; omega) _
  have HI := Lib.hid hI
  have HC3 := Lib.hid ((HC _ _ hI).out)
  clear j0 j1 j2 j3 j4 jf4 zj
  obtain ⟨p0, p1, p2, p3, p4, pf, zp⟩ := blk5 HB1.out
  have pf4 := pf 4
  clear pf
  have s4 := (blk_cell HB2.out 4).trans rfl
  have zs := blk_lt HB2.out
  obtain ⟨q0, q1, q2, q3, q4, qf, zq⟩ := blk5 HB3.out
  have qf4 := qf 4
  clear qf
  have i1 : (5 : Int) < (n.length : Int) := by omega
  unfold vJ at *
  clear ho hh hcur hh2 hI HC HB2 HB1 HR1 HJ1 HR2 HCl HC0 Hat
  go_wp2_with fail
  refine (HC3.out).mono ?_
  rintro e w4 ⟨rfl, hb4⟩
  have HB4 := Lib.hid ((hb4.block _ (blk_lt HB3.out)).trans HB3.out)
  have HR4 := Lib.hid ((hb4.block _ (blk_lt HR3.out)).trans HR3.out)
  have HI4 := Lib.hid (HI.out.below hb4)
  have hw4 := below_trans hb3 hb4
  clear HB3 HR3 HI HC3 hb3 hb4 q0 q1 q2 q3 q4 qf4 zq p0 p1 p2 p3 p4 pf4 zp s4 zs hc2 hf2 hz2
  obtain ⟨q0, q1, q2, q3, q4, qf, zq⟩ := blk5 HB4.out
  have qf4 := qf 4
  clear qf
  obtain ⟨r0, r1, r2, r3, r4, rf, zr⟩ := blk5 HR4.out
  have rf0 := rf 0
  have rf1 := rf 1
  have rf2 := rf 2
  have rf3 := rf 3
  have rf4 := rf 4
  clear rf
  have hgr : W.heap.size + 1 ≠ g2 := by omega
  by_cases hce : ce = 0
  ·subst hce
   go_wp2
   refine bodyPost_ret (v := .tuple #[.agg #[.int .i64 k, .int .i64 l, .int .i64 w, .int .i64 t, .slice (some ⟨g2, 0, none⟩) n.length cap], .int .i64 0]) (by simp [results, Tryz.results17, go_sem, r0, r1, r2, r3, r4]) rfl (.inl ⟨rfl, _, rfl, ?_, ?_⟩)
   ·exact put5J_below hw4 (by simp) _ _ _ _ _
   ·exact ints_put5 HI4.out hgr _ _ _ _ _
  ·have hne' : (ce != 0) = true := by simpa using hce
   go_wp2
   refine bodyPost_ret (v := .tuple #[.agg #[.int .i64 0, .int .i64 0, .int .i64 0, .int .i64 0, .slice none 0 0], .int .i64 ce]) (by simp [results, Tryz.results17, go_sem, r0, r1, r2, r3, r4]) rfl (.inr ⟨hce, rfl, ?_⟩)
   exact put5J_below hw4 (by simp) _ _ _ _ _
theorem jLoosen_good (k l w t gap : Int) (nv : Value) (n : List Int) (W : World) (hn : Ints W nv n) (h0 : chkE k l w t n = 0) :
  Calls Tryz.prog 17 #[vJ k l w t nv, .int .i64 gap] W (JPost W k l w t (n.set (gapAt k).toNat gap) (loosE k l w t n gap)) := by
 have g := good_of h0
 have hl := g.len
 by_cases h : gapAt k < 0
 ·have e : loosE k l w t n gap = 17 := by unfold loosE; rw [if_pos h]
  rw [e]
  have hk : k ≠ 3 ∧ k ≠ 4 ∧ k ≠ 8 := by
   unfold gapAt at h
   refine ⟨fun e => ?_, fun e => ?_, fun e => ?_⟩ <;> subst e <;> simp at h
  exact (jLoosen_none k l w t gap nv n W hn (by omega) h0 hk.1 hk.2.1 hk.2.2).mono (fun e w' hp => hp.other (by decide))
 ·have e : loosE k l w t n gap = chkE k l w t (n.set (gapAt k).toNat gap) := by unfold loosE; rw [if_neg h]
  rw [e]
  have ha := (gap_in g h).1
  by_cases h3 : k = 3
  ·subst h3
   exact jLoosen_34 3 l w t gap nv n W hn (by omega) h0 ha (.inl rfl)
  ·by_cases h4 : k = 4
   ·subst h4
    exact jLoosen_34 4 l w t gap nv n W hn (by omega) h0 ha (.inr ⟨rfl, rfl⟩)
   ·by_cases h8 : k = 8
    ·subst h8
     exact jLoosen_8 8 l w t gap nv n W hn (by omega) h0 ha ⟨rfl, rfl, rfl⟩
    ·exact absurd (by unfold gapAt; rw [if_neg (by omega), if_neg h8]; decide) h
end
end Go.Proofs.YtokhkhnofkcalaaGreatDoor
