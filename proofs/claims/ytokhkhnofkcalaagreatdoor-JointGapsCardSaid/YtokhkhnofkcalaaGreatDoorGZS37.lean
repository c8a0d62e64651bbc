/- texts: WG WH. -/
import Derived.Test.YtokhkhnofkcalaaGreatDoorGZS36
namespace Go.Proofs.YtokhkhnofkcalaaGreatDoor
set_option maxHeartbeats 8000000
set_option linter.unusedSimpArgs false
set_option linter.unusedVariables false
section
open Go.RowKit Go.Shelf
set_option maxRecDepth 100000
attribute [local go_sem] Ext.cell Ext.frozen
theorem rGaps_8 (l w t : Int) (nv : Value) (n : List Int) (W : World) (hn : Ints W nv n) (g : Good 8 l w t n) (hg : ¬ n.getD 5 0 = 0) :
  Calls Tryz.prog 20 #[vJ 8 l w t nv] W (SolR W l w t (gapsR 8 l n)) := by
 have h8 := g.h8 rfl
 have hL0 := fun W' h => Lib.hid (rLoose_any 8 l w t nv n W' (hn.below (w' := W') h) (Nat.le_trans g.len (by omega)) (fun _ => h8))
 have hH0 := fun i (hi : i < holeN n) W' h => Lib.hid (rhole_any 8 l w t nv n i W' (hn.below (w' := W') h) (fun x hx => by have := (withinB_iff _ _ _).1 g.rng x hx; omega) (by unfold holeN at hi; omega) (by have := g.len; unfold holeN at hi; omega))
 have hhl : ∀ i, (holeE n i).length = 8 := fun i => rfl
 unfold vJ at hL0 hH0 ⊢
 obtain ⟨b, off, c, rfl, hc, zb, hat⟩ := hn.at' (by omega)
 have hsz := g.sz
 have hnb := fun i => g.nb i
 have HE := Lib.hid (Cells.okE hsz.1 hsz.2.1 hsz.2.2 (gaps_cells g))
 obtain ⟨V, HV⟩ : ∃ V, Hid (((W.alloc (.cells #[.int .i64 8, .int .i64 l, .int .i64 w, .int .i64 t, .slice (some ⟨b, off, none⟩) n.length c] 25)).alloc (.cells #[.slice none 0 0] 30)).alloc (.cells #[.slice none 0 0] 30) = V) := ⟨_, Lib.hid rfl⟩
 have hV : Below W.heap.size W V := by rw [← HV.out]; exact bel
 have zV : W.heap.size + 3 ≤ V.heap.size := by rw [← HV.out]; simp
 have HJ : Hid (V.heap[W.heap.size]? = some (.cells #[.int .i64 8, .int .i64 l, .int .i64 w, .int .i64 t, .slice (some ⟨b, off, none⟩) n.length c] 25 (0, 0))) := Lib.hid (by rw [← HV.out]; exact (heap_old (by simp; omega)).trans ((heap_old (by simp)).trans (heap_new rfl)))
 have HR : Hid (V.heap[W.heap.size + 1]? = some (.cells #[.slice none 0 0] 30 (0, 0))) := Lib.hid (by rw [← HV.out]; exact (heap_old (by simp)).trans (heap_new (by simp)))
 have HT : Hid (V.heap[W.heap.size + 1 + 1]? = some (.cells #[.slice none 0 0] 30 (0, 0))) := Lib.hid (by rw [← HV.out]; exact heap_new (by simp))
 obtain ⟨j0, j1, j2, j3, j4, _, jz⟩ := blk5 HJ.out
 have hlm := g.len
 have c0 := below_cell hV (hat 0 (by omega))
 have c3 := below_cell hV (hat 3 (by omega))
 have c4 := below_cell hV (hat 4 (by omega))
 have c5 := below_cell hV (hat 5 (by omega))
 rw [Nat.add_zero] at c0
 have b0 := hnb 0
 have b3 := hnb 3
 have b4 := hnb 4
 have b5 := hnb 5
 have hgr : gapsR 8 l n = dgapE n (holeN n) := by
  unfold gapsR
  rw [if_neg (by decide), if_neg (by decide), if_pos rfl, if_neg hg]
 rw [hgr] at HE ⊢
 obtain ⟨px, hpx⟩ : ∃ px, px = btP 0 (n.getD 0 0 + n.getD 3 0) (n.getD 0 0 + n.getD 3 0 + n.getD 5 0) := ⟨_, rfl⟩
 obtain ⟨py, hpy⟩ : ∃ py, py = btP 0 (n.getD 0 0 - n.getD 4 0 - n.getD 5 0) (n.getD 0 0 - n.getD 4 0) := ⟨_, rfl⟩
 have lx : px.length = 2 := by rw [hpx]; rfl
 have ly : py.length = 2 := by rw [hpy]; rfl
 have hds : ∀ j, dgapE n (j + 1) = dgapE n j ++ [holeE n j ++ px, holeE n j ++ py] := fun j => by rw [dgapE_succ, hpx, hpy]
 have hmem : ∀ j, j < holeN n → (holeE n j ++ px ∈ dgapE n (holeN n) ∧ holeE n j ++ py ∈ dgapE n (holeN n)) := fun j hj => by
  rw [hpx, hpy]
  unfold dgapE
  exact ⟨List.mem_flatMap.2 ⟨j, List.mem_range.2 hj, by simp⟩, List.mem_flatMap.2 ⟨j, List.mem_range.2 hj, by simp⟩⟩
 have HOK := Lib.hid (fun j hj => And.intro (HE.out _ (hmem j hj).1) (HE.out _ (hmem j hj).2))
 have hcount : (n.length : Int) ≤ 24 := by omega
 have hN : looseN 8 n = holeN n := by simp [looseN, holeN]
 have hN8 : 6 + 2 * holeN n = n.length := by unfold holeN; omega
 obtain ⟨f, hf⟩ : ∃ f : List Q4 → List Q4, f = fun e => refN (boxL l w t ++ e) := ⟨_, rfl⟩
 obtain ⟨acc, hacc⟩ : ∃ acc : Nat → List (List Q4), acc = fun j => (dgapE n j).map f := ⟨_, rfl⟩
 have Hacc := Lib.hid (fun j => show acc (j + 1) = acc j ++ [f (holeE n j ++ px)] ++ [f (holeE n j ++ py)] by rw [hacc]; simp [hds])
 have Hac0 := Lib.hid (show acc 0 = [] by rw [hacc]; rfl)
 have Hacn := Lib.hid (show acc (holeN n) = (dgapE n (holeN n)).map fun e => refN (boxL l w t ++ e) by rw [hacc, hf])
 have Hacl := Lib.hid (show ∀ j, (acc j).length = 2 * j from fun j => by
  induction j with
  | zero => rw [Hac0.out]; rfl
  | succ j ih => rw [Hacc.out, List.length_append, List.length_append, ih]; simp; omega)
 have Hdl := Lib.hid (show (dgapE n (holeN n)).length = (acc (holeN n)).length by rw [hacc]; simp)
 have Hf := Lib.hid (fun a p => show f (a ++ p) = refN (boxL l w t ++ [a, p].flatten) by rw [hf]; simp)
 have HW := fun pv W' css vs pls sv (hB : W.heap.size + 3 ≤ W'.heap.size) hs hr (hx : css.length ≤ 1000000 ∧ pls.length ≤ 64 ∧ (∀ p ∈ boxL l w t ++ pls.flatten, okPl0 p) ∧ (boxL l w t ++ pls.flatten).length ≤ 64) hp =>
  Lib.hid (rwith_any 8 l w t (.slice (some ⟨b, off, none⟩) n.length c) (W.heap.size + 3) sv vs css pv pls W' hB hs hr hx.1 hx.2.1 hp hx.2.2.1 hx.2.2.2)
 have HX1 := Lib.hid (fun j (hj : j < holeN n) (A : List (List Q4)) (hA : A.length ≤ 1000000) => show A.length ≤ 1000000 ∧ [holeE n j, px].length ≤ 64 ∧ (∀ p ∈ boxL l w t ++ [holeE n j, px].flatten, okPl0 p) ∧ (boxL l w t ++ [holeE n j, px].flatten).length ≤ 64 from ⟨hA, by simp, by simpa using (HOK.out j hj).1, by simp [boxL, hhl, lx]⟩)
 have HX2 := Lib.hid (fun j (hj : j < holeN n) (A : List (List Q4)) (hA : A.length ≤ 1000000) => show A.length ≤ 1000000 ∧ [holeE n j, py].length ≤ 64 ∧ (∀ p ∈ boxL l w t ++ [holeE n j, py].flatten, okPl0 p) ∧ (boxL l w t ++ [holeE n j, py].flatten).length ≤ 64 from ⟨hA, by simp, by simpa using (HOK.out j hj).2, by simp [boxL, hhl, ly]⟩)
 have HRX1 : ∀ W', Hid (Calls Tryz.prog 40 #[.int .i64 (n.getD 0 0 + n.getD 3 0), .int .i64 (n.getD 0 0 + n.getD 3 0 + n.getD 5 0)] W' fun e w' => ∃ v, e = .returned v ∧ Below W'.heap.size W' w' ∧ IsN W'.heap.size px v w') := fun W' => Lib.hid (by rw [hpx]; exact rx_any _ _ W' (by omega))
 have HRX2 : ∀ W', Hid (Calls Tryz.prog 40 #[.int .i64 (n.getD 0 0 - n.getD 4 0 - n.getD 5 0), .int .i64 (n.getD 0 0 - n.getD 4 0)] W' fun e w' => ∃ v, e = .returned v ∧ Below W'.heap.size W' w' ∧ IsN W'.heap.size py v w') := fun W' => Lib.hid (by rw [hpy]; exact rx_any _ _ W' (by omega))
 have hG : ∀ W', Hid (Calls Tryz.prog 50 #[.int .i64 8] W' fun e w' => e = .returned (.int .i64 5) ∧ W' = w') := fun W' => Lib.hid (gap_any 8 W')
 rw [hN] at hL0
 have HHole : ∀ j, j < holeN n → ∀ W', Below W.heap.size W W' → Hid (Calls Tryz.prog 51 #[.agg #[.int .i64 8, .int .i64 l, .int .i64 w, .int .i64 t, .slice (some ⟨b, off, none⟩) n.length c], .int .i64 j] W' fun e w' => ∃ r, e = .returned r ∧ Below W'.heap.size W' w' ∧ w'.ownsRow W'.heap.size 69 4 r 8 ((holeE n j).flatMap enc4)) := hH0
 have HL : ∀ W', Below W.heap.size W W' → Hid (Calls Tryz.prog 13 #[.agg #[.int .i64 8, .int .i64 l, .int .i64 w, .int .i64 t, .slice (some ⟨b, off, none⟩) n.length c]] W' (Ret W' (.int .i64 (holeN n)))) := hL0
 have hne : (n.getD 5 0 == 0) = false := by simpa using hg
 have hres : Hid (∀ e w', (∃ r vs, e = .returned (.agg #[r]) ∧ Below W.heap.size W w' ∧ w'.ownsRow W.heap.size 67 1 r (acc (holeN n)).length vs ∧ RowsV w' W.heap.size vs (acc (holeN n))) → SolR W l w t (dgapE n (holeN n)) e w') := Lib.hid (fun e w' ⟨r, vs, h1, h2, h3, h4⟩ => ⟨r, vs, h1, h2, by rw [Hdl.out]; exact h3, by rw [← Hacn.out]; exact h4⟩)
 generalize SolR W l w t (dgapE n (holeN n)) = SP at *
 clear hH0 hL0 hds hmem HOK hacc hf hpx hpy hnb hat hgr hn HE g hg hsz hhl Hdl Hacn hN
 generalize holeN n = N at *
 generalize n.getD 0 0 = x0 at *
 generalize n.getD 3 0 = x3 at *
 generalize n.getD 4 0 = x4 at *
 generalize n.getD 5 0 = x5 at *
 have hm5 : (5 : Int) < (n.length : Int) := by omega
 generalize n.length = m at *
 have q1 : IntKind.i64.wrap (x0 + x3) = x0 + x3 := IntWalk.i64_in _ (by omega)
 have q2 : IntKind.i64.wrap (x0 + x3 + x5) = x0 + x3 + x5 := IntWalk.i64_in _ (by omega)
 have q3 : IntKind.i64.wrap (x0 - x4) = x0 - x4 := IntWalk.i64_in _ (by omega)
 have q4 : IntKind.i64.wrap (x0 - x4 - x5) = x0 - x4 - x5 := IntWalk.i64_in _ (by omega)
 have zb := Nat.lt_of_lt_of_le zb hV.size
 have m0 : (0 : Int) < (m : Int) := by omega
 have m3 : (3 : Int) < (m : Int) := by omega
 have m4 : (4 : Int) < (m : Int) := by omega
 go_enter Tryz.func20, Tryz.ntmps20
 go_wp2
 rw [HV.out]
 refine wqb ?_
 repeat (first | go_big_quiet_step (fail) | quiet_step (fail))
 refine wqn fun u => ?_
 have hbu := u.below
 have j0u := below_cell hbu j0
 have jzu := Nat.lt_of_lt_of_le jz hbu.size
 have c0 := below_cell hbu c0
 have c3 := below_cell hbu c3
 have c4 := below_cell hbu c4
 have c5 := below_cell hbu c5
 have zb := Nat.lt_of_lt_of_le zb hbu.size
 go_wp2_with fail
 refine ((hG _).out).mono ?_
 rintro e wG ⟨rfl, rfl⟩
 go_wp2_with fail
 refine ((hG _).out).mono ?_
 rintro e wG ⟨rfl, rfl⟩
 have hWu := below_trans hV hbu
 have HJu := Lib.hid ((hbu.block _ (blk_lt HJ.out)).trans HJ.out)
 have HRu := Lib.hid ((hbu.block _ (blk_lt HR.out)).trans HR.out)
 have HTu := Lib.hid ((hbu.block _ (blk_lt HT.out)).trans HT.out)
 have zru := Nat.le_trans zV hbu.size
 clear HJ HR HT j0 j1 j2 j3 j4 jz HV hV zV hbu j0u jzu
 generalize u.val = w0 at *
 clear u
 obtain ⟨j0, j1, j2, j3, j4, _, jz⟩ := blk5 HJu.out
 go_wp2
 refine wqb ?_
 repeat (first | go_big_quiet_step (fail) | quiet_step (fail))
 refine wqn fun u => ?_
 have HJv := Lib.hid ((u.below.block _ (blk_lt HJu.out)).trans HJu.out)
 have HRv := Lib.hid ((u.below.block _ (blk_lt HRu.out)).trans HRu.out)
 have HTv := Lib.hid ((u.below.block _ (blk_lt HTu.out)).trans HTu.out)
 have zrv := Nat.le_trans zru u.below.size
 have hWv := below_trans hWu u.below
 clear HJu HRu HTu zru hWu j0 j1 j2 j3 j4 jz c0 c3 c4 c5 zb
 generalize u.val = w1 at *
 clear u
 go_wp2
 go_loopw [10] (fun x wr => ∃ j : Nat, j ≤ N ∧ x = .int .i64 j ∧ Below W.heap.size W wr ∧ W.heap.size + 3 ≤ wr.heap.size ∧ Hid (wr.heap[W.heap.size]? = some (.cells #[.int .i64 8, .int .i64 l, .int .i64 w, .int .i64 t, .slice (some ⟨b, off, none⟩) m c] 25 (0, 0))) ∧ Hid (wr.heap[W.heap.size + 1]? = some (.cells #[.slice none 0 0] 30 (0, 0))) ∧
   ∃ s vs, Hid (wr.heap[W.heap.size + 1 + 1]? = some (.cells #[s] 30 (0, 0))) ∧ Hid (wr.ownsRow (W.heap.size + 3) 67 1 s (acc j).length vs) ∧ Hid (RowsV wr (W.heap.size + 3) vs (acc j))) (fun x _ => N - (intOf x).toNat)
 case atStart => exact ⟨0, by omega, rfl, hWv, zrv, HJv, HRv, _, [], HTv, Lib.hid (by rw [Hac0.out]; exact World.ownsRow_nil _ _ _ _), Lib.hid (by rw [Hac0.out]; exact RowsV.nil)⟩
 case round =>
  clear hWv zrv HJv HRv HTv
  obtain ⟨j, hj, rfl, hb, zr, HJ, HR, s, vs, HT, HO, HRw⟩ := hrel
  obtain ⟨j0, j1, j2, j3, j4, _, jz⟩ := blk5 HJ.out
  go_wp2_with fail
  refine ((HL _ hb).out).mono ?_
  rintro e wL ⟨rfl, hbL⟩
  have HJ := Lib.hid ((hbL.block _ (blk_lt HJ.out)).trans HJ.out)
  have HR := Lib.hid ((hbL.block _ (blk_lt HR.out)).trans HR.out)
  have HT := Lib.hid ((hbL.block _ (blk_lt HT.out)).trans HT.out)
  have HO := Lib.hid (own_below HO.out hbL)
  have HRw := Lib.hid (HRw.out.below hbL)
  have hb := below_trans hb hbL
  have zr := Nat.le_trans zr hbL.size
  clear hbL j0 j1 j2 j3 j4 jz
  obtain ⟨wr, rfl⟩ : ∃ wr : World, wr = wL := ⟨_, rfl⟩
  by_cases hjN : j < N
  ·have g1 : (j : Int) < (N : Int) := by omega
   have HX1j := Lib.hid (HX1.out j hjN (acc j) (by rw [Hacl.out]; omega))
   have HX2j := Lib.hid (HX2.out j hjN (acc j ++ [f (holeE n j ++ px)]) (by rw [List.length_append, Hacl.out]; simp; omega))
   have Hs := Lib.hid (Hacc.out j)
   have Hf1 := Lib.hid (Hf.out (holeE n j) px)
   have Hf2 := Lib.hid (Hf.out (holeE n j) py)
   clear HX1 HX2 Hacc Hacl Hf Hac0
   generalize acc j = A at *
   obtain ⟨A2, HA2⟩ : ∃ A2, Hid (A ++ [f (holeE n j ++ px)] = A2) := ⟨_, Lib.hid rfl⟩
   rw [HA2.out] at Hs HX2j
   obtain ⟨sa, sc, rfl⟩ := own_slice HO.out
   obtain ⟨j0, j1, j2, j3, j4, _, jz⟩ := blk5 HJ.out
   have s0 := (blk_cell HT.out 0).trans rfl
   have sz := blk_lt HT.out
   try simp only [List.getElem?_toArray, List.getElem?_cons_zero] at s0
   have HPX : ∀ W', Hid (Calls Tryz.prog 40 #[.int .i64 (x0 + x3), .int .i64 (x0 + x3 + x5)] W' fun e w' => ∃ v, e = .returned v ∧ Below W'.heap.size W' w' ∧ IsN W'.heap.size px v w') := HRX1
   have HHO := fun W' h => Lib.hid ((HHole j hjN W' h).out)
   go_wp2
   apply wp_region_growK [] [0, 1, 2, 3, 4, 5, 6, 7, 8, 9, 10, 11, 12, 13, 14] 15 [16] [sv _, sv _, sv _, sv _, ⟨IsO 0 8 (holeE n j), by first | exact stab_n _ _ | exact stab_o _ _ _ | exact stab_pls _⟩, sv _, sv _, sv _, sv _, sv _, sv _, sv _, sv _, ⟨IsN 0 px, by first | exact stab_n _ _ | exact stab_o _ _ _ | exact stab_pls _⟩, ⟨IsPls [holeE n j, px], by first | exact stab_n _ _ | exact stab_o _ _ _ | exact stab_pls _⟩] (by kernel_rfl) (by kernel_rfl)
   iterate 4 ((try go_frame); refine wkV ?_; apply ex3; (focus (intro u K hK; go_simp; exact hK _ brf)); rfl)
   try go_frame
   refine wkU (fun u hR K hK => ?_) (fun o4 => ?_)
   ·clear hR
    go_simp
    refine ((HHO _ (below_trans hb u.below)).out).mono ?_
    rintro e w9 ⟨r, rfl, hb9, ho9⟩
    exact hK _ _ hb9 (own_mono ho9 (Nat.zero_le _))
   iterate 8 ((try go_frame); refine wkV ?_; apply ex3; (focus (intro u K hK; go_simp; exact hK _ brf)); rfl)
   try go_frame
   refine wkU (fun u hR K hK => ?_) (fun o13 => ?_)
   ·clear hR
    go_simp
    refine ((HPX _).out).mono ?_
    rintro e w9 ⟨r, rfl, hb9, g, rfl, hg, hh⟩
    exact hK _ _ hb9 ⟨g, rfl, Nat.zero_le _, hh⟩
   try go_frame
   refine wkU (fun u hR K hK => ?_) (fun o14 => ?_)
   ·have h4 : IsO 0 8 (holeE n j) o4 u.val := hr hR 4
    have h13 : IsN 0 px o13 u.val := hr hR 13
    clear hR
    have p0 := Lib.hid (planes_own h4)
    have p2 := Lib.hid (planes_n h13 (by omega))
    obtain ⟨a4, c4', rfl⟩ := own_slice h4
    obtain ⟨g30, rfl, _, _⟩ := h13
    have hbx : Below u.val.heap.size u.val (u.val.alloc (.cells #[.slice a4 8 c4', .slice (some ⟨g30, 0, none⟩) px.length px.length] 65)) := bel
    clear lx ly
    go_simp
    exact hK _ _ hbx (each_newP (w := u.val) [_, _] [holeE n j, px] rfl (two p0.out p2.out) hbx (heap_new rfl))
   try go_frame
   refine wk_nil (fun u hR => ?_)
   have hb' := u.below
   generalize u.val = w' at *
   have h24 : IsPls [holeE n j, px] o14 w' := hR 14 (by simp)
   have H24 := Lib.hid h24
   have HO' := Lib.hid (own_below HO.out hb')
   have HRw' := Lib.hid (HRw.out.below hb')
   have HJ' := Lib.hid ((hb'.block _ (blk_lt HJ.out)).trans HJ.out)
   have HR' := Lib.hid ((hb'.block _ (blk_lt HR.out)).trans HR.out)
   have HT' := Lib.hid ((hb'.block _ (blk_lt HT.out)).trans HT.out)
   have hbn := below_trans hb hb'
   have zrn := Nat.le_trans zr hb'.size
   clear hR h24 HO HRw HJ HR HT HPX HHO j0 j1 j2 j3 j4 jz s0 sz
   simp only [oas]
   go_wp2_with fail
   refine ((HW _ _ A _ [holeE n j, px] _ zrn HO'.out HRw'.out HX1j.out H24.out).out).mono ?_
   rintro e w9 ⟨r, vs9, rfl, hb9, ho9, hr9, _⟩
   have HJ := Lib.hid ((hb9.block _ (by omega)).trans HJ'.out)
   have HR := Lib.hid ((hb9.block _ (by omega)).trans HR'.out)
   have HT := Lib.hid ((hb9.block _ (by omega)).trans HT'.out)
   have HO := Lib.hid ho9
   have HRw := Lib.hid hr9
   have hW9 : Below W.heap.size W w9 := hbn.trans (hb9.mono (by omega))
   have zr9 := Nat.le_trans zrn hb9.size
   clear ho9 hr9 HO' HRw' HJ' HR' HT' hb9 hb' zrn hbn zr hb H24
   obtain ⟨ra, rc, rfl⟩ := own_slice HO.out
   have r0 := (blk_cell HT.out 0).trans rfl
   have rf := blk_free HT.out 0
   have rz := blk_lt HT.out
   try simp only [List.getElem?_toArray, List.getElem?_cons_zero] at r0
   go_wp2
   refine NoPanic.normal ?_
   have hA2 : A.length + 1 = A2.length := by rw [← HA2.out]; simp
   have HRw2 : Hid (RowsV w9 (W.heap.size + 3) vs9 A2) := Lib.hid (by have := HRw.out; rw [← Hf1.out, HA2.out] at this; exact this)
   have HRw := HRw2
   clear HRw2 Hf1 HA2
   rw [hA2] at HO ⊢
   clear hA2 HX1j HRX1
   have HJ := Lib.hid ((Below.heap_setCell w9 ⟨W.heap.size + 1 + 1, 0, none⟩ (.slice ra A2.length rc) W.heap.size (by dsimp only; omega)).trans HJ.out)
   have HR := Lib.hid ((Below.heap_setCell w9 ⟨W.heap.size + 1 + 1, 0, none⟩ (.slice ra A2.length rc) (W.heap.size + 1) (by dsimp only; omega)).trans HR.out)
   have HO2 := Lib.hid (own_setCell_far HO.out ⟨W.heap.size + 1 + 1, 0, none⟩ (.slice ra A2.length rc) (fun e => own_blk_ne HO.out HT.out (by decide) e.symm))
   have HRw := Lib.hid (HRw.out.set (i := 0) (u := .slice ra A2.length rc) HT.out (by decide))
   have HT := Lib.hid (blk_set HT.out 0 (.slice ra A2.length rc))
   have hb := hW9.setCell (p := ⟨W.heap.size + 1 + 1, 0, none⟩) (by dsimp only; omega) (.slice ra A2.length rc)
   have zr : W.heap.size + 3 ≤ (w9.setCell ⟨W.heap.size + 1 + 1, 0, none⟩ (.slice ra A2.length rc)).heap.size := by simpa using zr9
   have HO := HO2
   clear HO2 hW9 zr9 r0 rf rz
   generalize w9.setCell ⟨W.heap.size + 1 + 1, 0, none⟩ (.slice ra A2.length rc) = wr at *
   obtain ⟨A3, HA3⟩ : ∃ A3, Hid (acc (j + 1) = A3) := ⟨_, Lib.hid rfl⟩
   rw [HA3.out] at Hs
   obtain ⟨j0, j1, j2, j3, j4, _, jz⟩ := blk5 HJ.out
   have s0 := (blk_cell HT.out 0).trans rfl
   have sz := blk_lt HT.out
   try simp only [List.getElem?_toArray, List.getElem?_cons_zero] at s0
   have HPX : ∀ W', Hid (Calls Tryz.prog 40 #[.int .i64 (x0 - x4 - x5), .int .i64 (x0 - x4)] W' fun e w' => ∃ v, e = .returned v ∧ Below W'.heap.size W' w' ∧ IsN W'.heap.size py v w') := HRX2
   have HHO := fun W' h => Lib.hid ((HHole j hjN W' h).out)
   go_wp2
   apply wp_region_growK [] [0, 1, 2, 3, 4, 5, 6, 7, 8, 9, 10, 11, 12, 13, 14] 15 [16] [sv _, sv _, sv _, sv _, ⟨IsO 0 8 (holeE n j), by first | exact stab_n _ _ | exact stab_o _ _ _ | exact stab_pls _⟩, sv _, sv _, sv _, sv _, sv _, sv _, sv _, sv _, ⟨IsN 0 py, by first | exact stab_n _ _ | exact stab_o _ _ _ | exact stab_pls _⟩, ⟨IsPls [holeE n j, py], by first | exact stab_n _ _ | exact stab_o _ _ _ | exact stab_pls _⟩] (by kernel_rfl) (by kernel_rfl)
   iterate 4 ((try go_frame); refine wkV ?_; apply ex3; (focus (intro u K hK; go_simp; exact hK _ brf)); rfl)
   try go_frame
   refine wkU (fun u hR K hK => ?_) (fun o4 => ?_)
   ·clear hR
    go_simp
    refine ((HHO _ (below_trans hb u.below)).out).mono ?_
    rintro e w9 ⟨r, rfl, hb9, ho9⟩
    exact hK _ _ hb9 (own_mono ho9 (Nat.zero_le _))
   iterate 8 ((try go_frame); refine wkV ?_; apply ex3; (focus (intro u K hK; go_simp; exact hK _ brf)); rfl)
   try go_frame
   refine wkU (fun u hR K hK => ?_) (fun o13 => ?_)
   ·clear hR
    go_simp
    refine ((HPX _).out).mono ?_
    rintro e w9 ⟨r, rfl, hb9, g, rfl, hg, hh⟩
    exact hK _ _ hb9 ⟨g, rfl, Nat.zero_le _, hh⟩
   try go_frame
   refine wkU (fun u hR K hK => ?_) (fun o14 => ?_)
   ·have h4 : IsO 0 8 (holeE n j) o4 u.val := hr hR 4
    have h13 : IsN 0 py o13 u.val := hr hR 13
    clear hR
    have p0 := Lib.hid (planes_own h4)
    have p2 := Lib.hid (planes_n h13 (by omega))
    obtain ⟨a4, c4', rfl⟩ := own_slice h4
    obtain ⟨g30, rfl, _, _⟩ := h13
    have hbx : Below u.val.heap.size u.val (u.val.alloc (.cells #[.slice a4 8 c4', .slice (some ⟨g30, 0, none⟩) py.length py.length] 65)) := bel
    clear lx ly
    go_simp
    exact hK _ _ hbx (each_newP (w := u.val) [_, _] [holeE n j, py] rfl (two p0.out p2.out) hbx (heap_new rfl))
   try go_frame
   refine wk_nil (fun u hR => ?_)
   have hb' := u.below
   generalize u.val = w' at *
   have h24 : IsPls [holeE n j, py] o14 w' := hR 14 (by simp)
   have H24 := Lib.hid h24
   have HO' := Lib.hid (own_below HO.out hb')
   have HRw' := Lib.hid (HRw.out.below hb')
   have HJ' := Lib.hid ((hb'.block _ (blk_lt HJ.out)).trans HJ.out)
   have HR' := Lib.hid ((hb'.block _ (blk_lt HR.out)).trans HR.out)
   have HT' := Lib.hid ((hb'.block _ (blk_lt HT.out)).trans HT.out)
   have hbn := below_trans hb hb'
   have zrn := Nat.le_trans zr hb'.size
   clear hR h24 HO HRw HJ HR HT HPX HHO j0 j1 j2 j3 j4 jz s0 sz
   simp only [oas]
   go_wp2_with fail
   refine ((HW _ _ A2 _ [holeE n j, py] _ zrn HO'.out HRw'.out HX2j.out H24.out).out).mono ?_
   rintro e w9 ⟨r, vs9, rfl, hb9, ho9, hr9, _⟩
   have HJ := Lib.hid ((hb9.block _ (by omega)).trans HJ'.out)
   have HR := Lib.hid ((hb9.block _ (by omega)).trans HR'.out)
   have HT := Lib.hid ((hb9.block _ (by omega)).trans HT'.out)
   have HO := Lib.hid ho9
   have HRw := Lib.hid hr9
   have hW9 : Below W.heap.size W w9 := hbn.trans (hb9.mono (by omega))
   have zr9 := Nat.le_trans zrn hb9.size
   clear ho9 hr9 HO' HRw' HJ' HR' HT' hb9 hb' zrn hbn zr hb H24
   obtain ⟨rd, re, rfl⟩ := own_slice HO.out
   have r0 := (blk_cell HT.out 0).trans rfl
   have rf := blk_free HT.out 0
   have rz := blk_lt HT.out
   try simp only [List.getElem?_toArray, List.getElem?_cons_zero] at r0
   go_wp2
   refine NoPanic.normal ?_
   have hA2 : A2.length + 1 = A3.length := by rw [Hs.out]; simp
   have HRw2 : Hid (RowsV w9 (W.heap.size + 3) vs9 A3) := Lib.hid (by have := HRw.out; rw [← Hf2.out, ← Hs.out] at this; exact this)
   have HRw := HRw2
   clear HRw2 Hf2 Hs
   rw [hA2] at HO ⊢
   have HJ := Lib.hid ((Below.heap_setCell w9 ⟨W.heap.size + 1 + 1, 0, none⟩ (.slice rd A3.length re) W.heap.size (by dsimp only; omega)).trans HJ.out)
   have HR := Lib.hid ((Below.heap_setCell w9 ⟨W.heap.size + 1 + 1, 0, none⟩ (.slice rd A3.length re) (W.heap.size + 1) (by dsimp only; omega)).trans HR.out)
   have HO2 := Lib.hid (own_setCell_far HO.out ⟨W.heap.size + 1 + 1, 0, none⟩ (.slice rd A3.length re) (fun e => own_blk_ne HO.out HT.out (by decide) e.symm))
   have HRw := Lib.hid (HRw.out.set (i := 0) (u := .slice rd A3.length re) HT.out (by decide))
   have HT := Lib.hid (blk_set HT.out 0 (.slice rd A3.length re))
   have hb := hW9.setCell (p := ⟨W.heap.size + 1 + 1, 0, none⟩) (by dsimp only; omega) (.slice rd A3.length re)
   have zr : W.heap.size + 3 ≤ (w9.setCell ⟨W.heap.size + 1 + 1, 0, none⟩ (.slice rd A3.length re)).heap.size := by simpa using zr9
   have HO := HO2
   clear HO2 hW9 zr9 r0 rf rz
   generalize w9.setCell ⟨W.heap.size + 1 + 1, 0, none⟩ (.slice rd A3.length re) = wr at *
   go_wp2
   go_roundw
   case rel => exact ⟨j + 1, by omega, by go_num, hb, zr, HJ, HR, _, vs9, HT, Lib.hid (by rw [HA3.out]; exact HO.out), Lib.hid (by rw [HA3.out]; exact HRw.out)⟩
   case measure => first | (simp [intOf]; done) | (simp [intOf]; omega)
  ·obtain rfl : j = N := by omega
   have g1 : ¬ (j : Int) < (j : Int) := by omega
   obtain ⟨sa, sc, rfl⟩ := own_slice HO.out
   have s0 := (blk_cell HT.out 0).trans rfl
   have sz := blk_lt HT.out
   have r0 := (blk_cell HR.out 0).trans rfl
   have rf := blk_free HR.out 0
   have rz := blk_lt HR.out
   simp only [List.getElem?_toArray, List.getElem?_cons_zero] at s0 r0
   go_wp2
   refine bodyPost_ret (v := .agg #[.slice sa (acc j).length sc]) (by simp [results, Tryz.results20, go_sem, r0]) rfl (hres.out _ _ ⟨_, vs, rfl, hb.setCell (by dsimp only; omega) _, ?_, ?_⟩)
   ·exact own_mono (own_setCell_far HO.out _ _ (fun e => own_blk_ne HO.out HR.out (by decide) e.symm)) (by omega)
   ·exact (HRw.out.set HR.out (by decide)).mono (by omega)
end
section
open Go.RowKit Go.Shelf
theorem rGaps_any (k l w t : Int) (nv : Value) (n : List Int) (W : World) (hn : Ints W nv n) (g : Good k l w t n) :
  Calls Tryz.prog 20 #[vJ k l w t nv] W (SolR W l w t (gapsR k l n)) := by
 have hc := g.cnt
 have hk := g.kind
 by_cases h3 : k = 3
 ·subst h3
  have hl : n.length = 6 := by have h9 : (n.length : Int) = 6 := (by simpa [cntB] using hc); omega
  by_cases hz : n.getD 1 0 = 0
  ·have e : gapsR 3 l n = [] := by unfold gapsR; rw [if_pos rfl, if_pos hz]
   rw [e]
   exact rGaps_z3 l w t nv n W hn g (by omega) hz
  ·exact rGaps_3 l w t nv n W hn g hl hz
 ·by_cases h4 : k = 4
  ·subst h4
   have hl : n.length = 4 := by have h9 : (n.length : Int) = 4 := (by simpa [cntB] using hc); omega
   by_cases hz : n.getD 1 0 = 0
   ·have e : gapsR 4 l n = [] := by unfold gapsR; rw [if_neg (by decide), if_pos rfl, if_pos hz]
    rw [e]
    exact rGaps_z4 l w t nv n W hn g (by omega) hz
   ·exact rGaps_4 l w t nv n W hn g hl hz
  ·by_cases h8 : k = 8
   ·subst h8
    have hl := (g.h8 rfl).1
    by_cases hz : n.getD 5 0 = 0
    ·have e : gapsR 8 l n = [] := by unfold gapsR; rw [if_neg (by decide), if_neg (by decide), if_pos rfl, if_pos hz]
     rw [e]
     exact rGaps_z8 l w t nv n W hn g (by omega) hz
    ·exact rGaps_8 l w t nv n W hn g hz
   ·have e : gapsR k l n = [] := by unfold gapsR; rw [if_neg h3, if_neg h4, if_neg h8]
    have ek : gapAt k = -1 := by unfold gapAt; rw [if_neg (by omega), if_neg h8]
    have h0 : 0 < n.length := by
     rcases Nat.eq_zero_or_pos n.length with h | h
     ·rw [h] at hc
      rcases (by omega : k = 0 ∨ k = 1 ∨ k = 2 ∨ k = 5 ∨ k = 6 ∨ k = 7 ∨ k = 9 ∨ k = 10) with rfl | rfl | rfl | rfl | rfl | rfl | rfl | rfl <;> simp [cntB] at hc
     ·exact h
    rw [e]
    exact rGaps_none k l w t nv n W hn g h0 ek
end
end Go.Proofs.YtokhkhnofkcalaaGreatDoor
