/- texts: Z4. -/
import Derived.Test.YtokhkhnofkcalaaGreatDoorGZS32
import Derived.Test.YtokhkhnofkcalaaGreatDoorGZS37
import Derived.Test.YtokhkhnofkcalaaGreatDoorGZS40
import Derived.Test.YtokhkhnofkcalaaGreatDoorGZS42
namespace Go.Proofs.YtokhkhnofkcalaaGreatDoor
set_option maxHeartbeats 8000000
set_option linter.unusedSimpArgs false
set_option linter.unusedVariables false
section
open Go.RowKit Go.Shelf
attribute [local go_sem] Ext.cell Ext.frozen
theorem partsOf_all (k l w t : Int) (nv : Value) (n : List Int) (W : World) (hn : Ints W nv n) (g : Good k l w t n) :
  Calls Tryz.prog 31 #[vJ k l w t nv] W (PartsPost W (keepsC k l w n) (gapsC k l n)) :=
 partsOf_good k l w t nv n W hn g (fun h => by
  have h8 := g.h8 h
  have hlen := g.len
  subst h
  exact partsOf_8 l w t nv n W hn h8.1 h8.2 (by omega) (fun i => g.nb i))
theorem inBoxC_len (l w t : Int) (c : List Q4) : (inBoxC l w t c).length ≤ c.length + 6 := by
 unfold inBoxC normN
 split
 ·unfold normC normF
  refine Nat.le_trans (compact_len _) ?_
  rw [sortL_len]
  unfold lowL
  rw [List.length_map]
  refine Nat.le_trans (List.length_filter_le _ _) ?_
  refine Nat.le_trans (compact_len _) ?_
  simp [boxP]
 ·simp
theorem Gaps_both (k l w t : Int) (n : List Int) (h0 : chkE k l w t n = 0) : ∃ css : List (List Q4), (∀ c ∈ css, c.length ≤ 1000000) ∧ css.length ≤ 1000000 ∧
  (∀ nv W, Ints W nv n → Calls Tryz.prog 16 #[vJ k l w t nv] W fun e w' => ∃ s, e = .returned (.tuple #[.agg #[s], .int .i64 0]) ∧ Below W.heap.size W w' ∧ SolV w' s css) ∧
  ∀ nv W, Ints W nv n → Calls Tryz.prog 20 #[vJ k l w t nv] W fun e w' => ∃ s, e = .returned (.agg #[s]) ∧ Below W.heap.size W w' ∧ SolV w' s css := by
 have g := good_of h0
 obtain ⟨hl, hw, ht⟩ := g.sz
 have hlen := g.len
 have hc := gaps_cells g
 have he := hc.eq hl hw ht
 refine ⟨(gapsR k l n).map fun e => refN (boxL l w t ++ e), fun c h => ?_, ?_, fun nv W hn => ?_, fun nv W hn => ?_⟩
 ·rw [← he] at h
  obtain ⟨c', h1, rfl⟩ := List.mem_map.1 h
  have := inBoxC_len l w t c'
  have := hc.short c' h1
  omega
 ·rw [← he, List.length_map]
  exact gapsC_len k l n (by omega)
 ·exact Gaps_good k l w t nv n W hn h0 (fun W' hb h => by
   have := partsOf_all k l w t nv n W' (hn.below hb) g
   subst h
   exact this)
 ·refine (rGaps_any k l w t nv n W hn g).mono ?_
  rintro e w' ⟨r, vs, rfl, hb, ho, hr⟩
  exact ⟨r, rfl, hb, solv_own (by simpa using ho) hr⟩
theorem ints_nil0 (W : World) : Ints W (.slice none 0 0) [] := ⟨none, 0, 0, rfl, rfl, Nat.le_refl _, fun h => by omega⟩
theorem JPost_one (k l w t se : Int) (n : List Int) (hn : n.length ≤ 1000000) : ∃ (kk ll ww tt : Int) (nn : List Int), nn.length ≤ 1000000 ∧ ∀ (X : World) (e : Ending) (w1 : World), JPost X k l w t n se e w1 → ∃ r, e = .returned (.tuple #[vJ kk ll ww tt r, .int .i64 se]) ∧ Below X.heap.size X w1 ∧ Ints w1 r nn := by
 by_cases h : se = 0
 ·subst h
  refine ⟨k, l, w, t, n, hn, fun X e w1 h => ?_⟩
  rcases h with ⟨_, r, rfl, hb, hi⟩ | ⟨h0, _⟩
  ·exact ⟨r, rfl, hb, hi⟩
  ·exact absurd rfl h0
 ·refine ⟨0, 0, 0, 0, [], by simp, fun X e w1 h2 => ?_⟩
  rcases h2 with ⟨h0, _⟩ | ⟨_, rfl, hb⟩
  ·exact absurd h0 h
  ·exact ⟨_, rfl, hb, ints_nil0 _⟩
def IsSol (css : List (List Q4)) : Value → World → Prop := fun v w => ∃ s, v = .agg #[s] ∧ SolV w s css
theorem stab_sol (css : List (List Q4)) : Stab (IsSol css) := fun _ _ _ hb ⟨s, h1, h2⟩ => ⟨s, h1, h2.below hb⟩
set_option maxRecDepth 100000 in
theorem JointGaps_any (k l w t : Int) (nv : Value) (n : List Int) (gap : Int) (W : World) (hn : Ints W nv n) (hnil : NilV nv) (_hi : (Lit.int .i64 gap).wf = true) (htab : Lib.TabIs Tryz.prog W "internal/strconv.uint64pow10" .u64 Lib.pow10Tab) :
  Calls Tryz.prog 4 #[vJ k l w t nv, .int .i64 gap] W (Ret W (.bool true)) := by
 obtain ⟨a, q, c, rfl, hlen, hc, hx⟩ := id hn
 obtain ⟨V, HV⟩ : ∃ V, Hid (W.alloc (.cells #[.int .i64 k, .int .i64 l, .int .i64 w, .int .i64 t, .slice a q c] 25) = V) := ⟨_, Lib.hid rfl⟩
 have hV : Below W.heap.size W V := by rw [← HV.out]; exact bel
 have hA := Lib.hid (awake_any V (tab_below htab hV))
 have hF := fun W' => Lib.hid (Few_any k l w t a q c W')
 have v0 : V.cell? ⟨W.heap.size, 0, none⟩ = some (.int .i64 k) := by rw [← HV.out]; exact (cell_new rfl 0).trans rfl
 have v1 : V.cell? ⟨W.heap.size, 1, none⟩ = some (.int .i64 l) := by rw [← HV.out]; exact (cell_new rfl 1).trans rfl
 have v2 : V.cell? ⟨W.heap.size, 2, none⟩ = some (.int .i64 w) := by rw [← HV.out]; exact (cell_new rfl 2).trans rfl
 have v3 : V.cell? ⟨W.heap.size, 3, none⟩ = some (.int .i64 t) := by rw [← HV.out]; exact (cell_new rfl 3).trans rfl
 have v4 : V.cell? ⟨W.heap.size, 4, none⟩ = some (.slice a q c) := by rw [← HV.out]; exact (cell_new rfl 4).trans rfl
 have zV := World.block_lt_of_cell? V _ v0
 simp only at zV
 clear htab hx
 by_cases h30 : q ≤ 30
 ·rw [show decide (q ≤ 30) = true from decide_eq_true h30] at hF
  have HC := fun W' h => Lib.hid (rCheck_all k l w t _ n W' (hn.below (w' := W') h) (by omega))
  have HK := fun W' h => Lib.hid (copied_any k l w t _ n W' (hn.below (w' := W') h) hnil (by omega))
  by_cases h0 : chkE k l w t n = 0
  ·have g := good_of h0
   obtain ⟨css, hc1, hc2, hG1, hG2⟩ := Gaps_both k l w t n h0
   have HG1 := fun r W' (h : Ints W' r n) => Lib.hid (hG1 r W' h)
   have HG2 := fun W' h => Lib.hid (hG2 _ W' (hn.below (w' := W') h))
   have HSS := fun v v2 W' (h : SolV W' v css) (h2 : SolV W' v2 css) => Lib.hid (SameSolid_same v v2 css W' h h2 hc1 hc2)
   obtain ⟨kk, ll, ww, tt, nn, hnn, hJ⟩ := JPost_one k l w t (loosE k l w t n gap) (n.set (gapAt k).toNat gap) (by simp; omega)
   have HJ := Lib.hid hJ
   have HL1 := fun r W' (h : Ints W' r n) => Lib.hid ((jLoosen_good k l w t gap r n W' h h0).mono (fun e w1 hp => HJ.out W' e w1 hp))
   have HL2 := fun W' h => Lib.hid ((rLoosen_good k l w t gap _ n W' (hn.below (w' := W') h) hnil g).mono (fun e w1 hp => HJ.out W' e w1 hp))
   have HSJ := fun v v2 W' (h : Ints W' v nn) (h2 : Ints W' v2 nn) => Lib.hid (SameJoint_same kk ll ww tt v v2 nn W' h h2 hnn)
   generalize loosE k l w t n gap = se at *
   rw [h0] at HC
   clear h0 hJ HJ hG1 hG2 hc1 hc2
   unfold vJ at *
   go_enter Tryz.func4, Tryz.ntmps4
   go_wp2_with fail
   rw [HV.out]
   refine (hA.out).mono ?_
   rintro e w1 ⟨rfl, hb1⟩
   have d0 := below_cell hb1 v0
   have d1 := below_cell hb1 v1
   have d2 := below_cell hb1 v2
   have d3 := below_cell hb1 v3
   have d4 := below_cell hb1 v4
   have zd := Nat.lt_of_lt_of_le zV (hb1).size
   go_wp2_with fail
   refine ((hF _).out).mono ?_
   rintro e w2 ⟨rfl, hb2⟩
   have hb12 := below_trans hb1 hb2
   clear d0 d1 d2 d3 d4 zd
   have d0 := below_cell hb12 v0
   have d1 := below_cell hb12 v1
   have d2 := below_cell hb12 v2
   have d3 := below_cell hb12 v3
   have d4 := below_cell hb12 v4
   have zd := Nat.lt_of_lt_of_le zV (hb12).size
   go_wp2_with fail
   refine ((HK _ (below_trans hV hb12)).out).mono ?_
   rintro e w3 ⟨r, rfl, hb3, ho⟩
   have hI := ints_own ho
   have hb13 := below_trans hb12 hb3
   clear d0 d1 d2 d3 d4 zd ho
   go_wp2_with fail
   refine ((HG1 _ _ hI).out).mono ?_
   rintro e w4 ⟨s, rfl, hb4, hs⟩
   have HSs := Lib.hid hs
   obtain ⟨sa, sn, sc, rfl, _⟩ := hs
   have hb14 := below_trans hb13 hb4
   obtain ⟨X, HX⟩ : ∃ X, Hid (w4.alloc (.cells #[.slice sa sn sc] 30) = X) := ⟨_, Lib.hid rfl⟩
   have hbX : Below w4.heap.size w4 X := by rw [← HX.out]; exact bel
   have HXb : Hid (X.heap[w4.heap.size]? = some (.cells #[.slice sa sn sc] 30 (0, 0))) := Lib.hid (by rw [← HX.out]; exact heap_new rfl)
   have hb1X := below_trans hb14 hbX
   have d0 := below_cell hb14 v0
   have d1 := below_cell hb14 v1
   have d2 := below_cell hb14 v2
   have d3 := below_cell hb14 v3
   have d4 := below_cell hb14 v4
   have zd := Nat.lt_of_lt_of_le zV (hb14).size
   go_wp2_with fail
   rw [HX.out]
   refine ((HK X (below_trans hV hb1X)).out).mono ?_
   rintro e w5 ⟨r5, rfl, hb5, ho5⟩
   have hI5 := ints_own ho5
   have hb15 := below_trans hb1X hb5
   clear d0 d1 d2 d3 d4 zd ho5 HX HG1 hI
   go_wp2_with fail
   refine ((HL1 _ _ hI5).out).mono ?_
   rintro e w6 ⟨r6, rfl, hb6, hI6⟩
   have HI6 := Lib.hid hI6
   obtain ⟨ra, rm, rc, rfl, _⟩ := hI6
   have hb16 := below_trans hb15 hb6
   obtain ⟨Y, HY⟩ : ∃ Y, Hid (w6.alloc (.cells #[.int .i64 kk, .int .i64 ll, .int .i64 ww, .int .i64 tt, .slice ra rm rc] 25) = Y) := ⟨_, Lib.hid rfl⟩
   have hbY : Below w6.heap.size w6 Y := by rw [← HY.out]; exact bel
   have HYb : Hid (Y.heap[w6.heap.size]? = some (.cells #[.int .i64 kk, .int .i64 ll, .int .i64 ww, .int .i64 tt, .slice ra rm rc] 25 (0, 0))) := Lib.hid (by rw [← HY.out]; exact heap_new rfl)
   have hb1Y := below_trans hb16 hbY
   have d0 := below_cell hb16 v0
   have d1 := below_cell hb16 v1
   have d2 := below_cell hb16 v2
   have d3 := below_cell hb16 v3
   have d4 := below_cell hb16 v4
   have zd := Nat.lt_of_lt_of_le zV (hb16).size
   go_wp2_with fail
   rw [HY.out]
   refine ((HC Y (below_trans hV hb1Y)).out).mono ?_
   rintro e w7 ⟨rfl, hb7⟩
   have hb17 := below_trans hb1Y hb7
   clear d0 d1 d2 d3 d4 zd HY hI5 HL1
   have d0 := below_cell hb17 v0
   have d1 := below_cell hb17 v1
   have d2 := below_cell hb17 v2
   have d3 := below_cell hb17 v3
   have d4 := below_cell hb17 v4
   have zd := Nat.lt_of_lt_of_le zV (hb17).size
   go_wp2_with fail
   refine ((HL2 w7 (below_trans hV hb17)).out).mono ?_
   rintro e w8 ⟨r8, rfl, hb8, hI8⟩
   have HI8 := Lib.hid hI8
   obtain ⟨qa, qm, qc, rfl, _⟩ := hI8
   have hb18 := below_trans hb17 hb8
   obtain ⟨Z, HZ⟩ : ∃ Z, Hid (w8.alloc (.cells #[.int .i64 kk, .int .i64 ll, .int .i64 ww, .int .i64 tt, .slice qa qm qc] 25) = Z) := ⟨_, Lib.hid rfl⟩
   have hbZ : Below w8.heap.size w8 Z := by rw [← HZ.out]; exact bel
   have HZb : Hid (Z.heap[w8.heap.size]? = some (.cells #[.int .i64 kk, .int .i64 ll, .int .i64 ww, .int .i64 tt, .slice qa qm qc] 25 (0, 0))) := Lib.hid (by rw [← HZ.out]; exact heap_new rfl)
   have hb1Z := below_trans hb18 hbZ
   have hYZ := below_trans hb7 (below_trans hb8 hbZ)
   have hXZ := below_trans hb5 (below_trans hb6 (below_trans hbY hYZ))
   have HXZ := Lib.hid ((hXZ.block _ (blk_lt HXb.out)).trans HXb.out)
   have HYZ := Lib.hid ((hYZ.block _ (blk_lt HYb.out)).trans HYb.out)
   have HSZ := Lib.hid (HSs.out.below (below_trans hbX hXZ))
   have HI6Z := Lib.hid (HI6.out.below (below_trans hbY hYZ))
   have HI8Z := Lib.hid (HI8.out.below hbZ)
   have hwZ := below_trans hV hb1Z
   clear d0 d1 d2 d3 d4 zd HXb HYb HSs HI6 HI8 HL2 HC HK
   have d0 := below_cell hb1Z v0
   have d1 := below_cell hb1Z v1
   have d2 := below_cell hb1Z v2
   have d3 := below_cell hb1Z v3
   have d4 := below_cell hb1Z v4
   have zd := Nat.lt_of_lt_of_le zV (hb1Z).size
   have x0 : Z.cell? ⟨w4.heap.size, 0, none⟩ = some (.slice sa sn sc) := (blk_cell HXZ.out 0).trans rfl
   have zx := blk_lt HXZ.out
   obtain ⟨y0, y1, y2, y3, y4, _, zy⟩ := blk5 HYZ.out
   obtain ⟨z0, z1, z2, z3, z4, _, zz⟩ := blk5 HZb.out
   go_wp2
   rw [HZ.out]
   clear HZ
   apply wp_region_growK [] [0, 1, 2, 3, 4, 5, 6, 7, 8, 9, 10, 11, 12, 13, 14, 15, 16, 17] 18 [] [sv _, sv _, sv _, sv _, sv _, ⟨IsSol css, by exact stab_sol _⟩, sv _, sv _, sv _, sv _, sv _, sv _, sv _, sv _, sv _, sv _, sv _, sv _] (by kernel_rfl) (by kernel_rfl)
   iterate 3 ((try go_frame); refine wkV ?_; apply ex3; (focus (intro u K hK; go_simp; exact hK _ brf)); rfl)
   iterate 2 ((try go_frame); refine wkvg rfl rfl (by simp) (by simp [Region.wanted, yielded]) ?_; apply ex3; (focus (intro u K hK; go_simp; exact hK _ brf)); rfl)
   try go_frame
   refine wkug rfl rfl (by simp) (by simp [Region.wanted, yielded]) (fun u hR K hK => ?_) (fun o5 => ?_)
   ·clear hR
    go_simp
    refine ((HG2 _ (below_trans hwZ u.below)).out).mono ?_
    rintro e w9 ⟨s9, rfl, hb9, hs9⟩
    exact hK _ _ hb9 ⟨_, rfl, hs9⟩
   try go_frame
   refine wkR ?_
   apply ex3
   ·intro u hR K hK
    have h5 : IsSol css o5 u.val := hr hR 5
    clear hR
    obtain ⟨s9, rfl, hs9⟩ := h5
    go_simp
    refine ((HSS _ _ _ (HSZ.out.below u.below) hs9).out).mono ?_
    rintro e w9 ⟨rfl, hb9⟩
    exact hK _ hb9
   rfl
   iterate 2 ((try go_frame); refine wkV ?_; apply ex3; (focus (intro u K hK; go_simp; exact hK _ brf)); rfl)
   iterate 3 ((try go_frame); refine wkvg rfl rfl (by simp) (by simp [Region.wanted, yielded]) ?_; apply ex3; (focus (intro u K hK; go_simp; exact hK _ brf)); rfl)
   iterate 2 ((try go_frame); refine wkV ?_; apply ex3; (focus (intro u K hK; go_simp; exact hK _ brf)); rfl)
   iterate 2 ((try go_frame); refine wkvg rfl rfl (by simp) (by simp [Region.wanted, yielded]) ?_; apply ex3; (focus (intro u K hK; go_simp; exact hK _ brf)); rfl)
   try go_frame
   refine wkvg rfl rfl (by simp) (by simp [Region.wanted, yielded]) ?_
   apply ex3
   ·intro u K hK
    go_simp
    refine ((HSJ _ _ _ (HI6Z.out.below u.below) (HI8Z.out.below u.below)).out).mono ?_
    rintro e w9 ⟨rfl, hb9⟩
    exact hK _ hb9
   rfl
   iterate 1 ((try go_frame); refine wkV ?_; apply ex3; (focus (intro u K hK; go_simp; exact hK _ brf)); rfl)
   try go_frame
   refine wk_nil (fun u hR => ?_)
   clear hR
   have hbu := below_trans hwZ u.below
   simp only [oas]
   go_wp2
   refine NoPanic.normal ?_
   go_wp2
   go_ret
   exact ⟨ret_bool (by simp), hbu⟩
  ·have HGb := fun r W' (h : Ints W' r n) => Lib.hid (Gaps_bad k l w t (chkE k l w t n) r n W' h h0 (fun W'' hb => Check_all k l w t r n W'' (h.below hb) (by omega)))
   have HLb := fun r W' (h : Ints W' r n) => Lib.hid ((jLoosen_bad k l w t gap r n W' h (by omega) h0).mono (R' := Ret W' (.tuple #[vJ 0 0 0 0 (.slice none 0 0), .int .i64 (chkE k l w t n)])) (fun e w1 hp => by
    rcases hp with ⟨h1, _⟩ | ⟨_, rfl, hb⟩
    ·exact absurd h1 h0
    ·exact ⟨rfl, hb⟩))
   have HN := fun W' => Lib.hid (none_zero W')
   generalize chkE k l w t n = ce at *
   have hne : (ce != 0) = true := by simpa using h0
   clear hn hnil h0
   unfold vJ at *
   go_enter Tryz.func4, Tryz.ntmps4
   go_wp2_with fail
   rw [HV.out]
   refine (hA.out).mono ?_
   rintro e w1 ⟨rfl, hb1⟩
   have d0 := below_cell hb1 v0
   have d1 := below_cell hb1 v1
   have d2 := below_cell hb1 v2
   have d3 := below_cell hb1 v3
   have d4 := below_cell hb1 v4
   have zd := Nat.lt_of_lt_of_le zV (hb1).size
   go_wp2_with fail
   refine ((hF _).out).mono ?_
   rintro e w2 ⟨rfl, hb2⟩
   have hb12 := below_trans hb1 hb2
   clear d0 d1 d2 d3 d4 zd
   have d0 := below_cell hb12 v0
   have d1 := below_cell hb12 v1
   have d2 := below_cell hb12 v2
   have d3 := below_cell hb12 v3
   have d4 := below_cell hb12 v4
   have zd := Nat.lt_of_lt_of_le zV (hb12).size
   go_wp2_with fail
   refine ((HK _ (below_trans hV hb12)).out).mono ?_
   rintro e w3 ⟨r, rfl, hb3, ho⟩
   have hI := ints_own ho
   have hb13 := below_trans hb12 hb3
   clear d0 d1 d2 d3 d4 zd ho
   go_wp2_with fail
   refine ((HGb _ _ hI).out).mono ?_
   rintro e w4 ⟨rfl, hb4⟩
   have hb14 := below_trans hb13 hb4
   obtain ⟨X, HX⟩ : ∃ X, Hid (w4.alloc (.cells #[.slice none 0 0] 30) = X) := ⟨_, Lib.hid rfl⟩
   have hbX : Below w4.heap.size w4 X := by rw [← HX.out]; exact bel
   have HXb : Hid (X.heap[w4.heap.size]? = some (.cells #[.slice none 0 0] 30 (0, 0))) := Lib.hid (by rw [← HX.out]; exact heap_new rfl)
   have hb1X := below_trans hb14 hbX
   have d0 := below_cell hb14 v0
   have d1 := below_cell hb14 v1
   have d2 := below_cell hb14 v2
   have d3 := below_cell hb14 v3
   have d4 := below_cell hb14 v4
   have zd := Nat.lt_of_lt_of_le zV (hb14).size
   go_wp2_with fail
   rw [HX.out]
   refine ((HK X (below_trans hV hb1X)).out).mono ?_
   rintro e w5 ⟨r5, rfl, hb5, ho5⟩
   have hI5 := ints_own ho5
   have hb15 := below_trans hb1X hb5
   clear d0 d1 d2 d3 d4 zd ho5 HX HGb hI
   go_wp2_with fail
   refine ((HLb _ _ hI5).out).mono ?_
   rintro e w6 ⟨rfl, hb6⟩
   have hb16 := below_trans hb15 hb6
   obtain ⟨Y, HY⟩ : ∃ Y, Hid (w6.alloc (.cells #[.int .i64 0, .int .i64 0, .int .i64 0, .int .i64 0, .slice none 0 0] 25) = Y) := ⟨_, Lib.hid rfl⟩
   have hbY : Below w6.heap.size w6 Y := by rw [← HY.out]; exact bel
   have HYb : Hid (Y.heap[w6.heap.size]? = some (.cells #[.int .i64 0, .int .i64 0, .int .i64 0, .int .i64 0, .slice none 0 0] 25 (0, 0))) := Lib.hid (by rw [← HY.out]; exact heap_new rfl)
   have hb1Y := below_trans hb16 hbY
   have d0 := below_cell hb16 v0
   have d1 := below_cell hb16 v1
   have d2 := below_cell hb16 v2
   have d3 := below_cell hb16 v3
   have d4 := below_cell hb16 v4
   have zd := Nat.lt_of_lt_of_le zV (hb16).size
   go_wp2_with fail
   rw [HY.out]
   refine ((HC Y (below_trans hV hb1Y)).out).mono ?_
   rintro e w7 ⟨rfl, hb7⟩
   have hb17 := below_trans hb1Y hb7
   have hX7 := below_trans hb5 (below_trans hb6 (below_trans hbY hb7))
   have HX7 := Lib.hid ((hX7.block _ (blk_lt HXb.out)).trans HXb.out)
   have HY7 := Lib.hid ((hb7.block _ (blk_lt HYb.out)).trans HYb.out)
   clear d0 d1 d2 d3 d4 zd HY hI5 HLb
   have x0 : w7.cell? ⟨w4.heap.size, 0, none⟩ = some (.slice none 0 0) := (blk_cell HX7.out 0).trans rfl
   have zx := blk_lt HX7.out
   obtain ⟨y0, y1, y2, y3, y4, _, zy⟩ := blk5 HY7.out
   go_wp2_with fail
   refine ((HN _).out).mono ?_
   rintro e w8 ⟨rfl, hb8⟩
   go_wp2
   go_ret
   exact ⟨ret_bool (by simp), below_trans hV (below_trans hb17 hb8)⟩
 ·rw [show decide (q ≤ 30) = false from decide_eq_false h30] at hF
  clear hn hnil
  unfold vJ at *
  go_enter Tryz.func4, Tryz.ntmps4
  go_wp2_with fail
  rw [HV.out]
  refine (hA.out).mono ?_
  rintro e w1 ⟨rfl, hb1⟩
  have d0 := below_cell hb1 v0
  have d1 := below_cell hb1 v1
  have d2 := below_cell hb1 v2
  have d3 := below_cell hb1 v3
  have d4 := below_cell hb1 v4
  have zd := Nat.lt_of_lt_of_le zV (hb1).size
  go_wp2_with fail
  refine ((hF _).out).mono ?_
  rintro e w2 ⟨rfl, hb2⟩
  go_wp2
  go_ret
  exact ⟨rfl, below_trans hV (below_trans hb1 hb2)⟩
end
end Go.Proofs.YtokhkhnofkcalaaGreatDoor
