/- texts: Srt4 B5 B6 B7 B8 V1. -/
import Derived.Test.YtokhkhnofkcalaaGreatDoorGZS12
namespace Go.Proofs.YtokhkhnofkcalaaGreatDoor
set_option maxHeartbeats 8000000
set_option linter.unusedSimpArgs false
set_option linter.unusedVariables false
section
open Go.RowKit Go.Shelf Go.Sort Go.Lib
theorem cmpPl_neg (p q : Q4) : cmpPl p q < 0 ↔ p.1 < q.1 ∨ (p.1 = q.1 ∧ (p.2.1 < q.2.1 ∨ (p.2.1 = q.2.1 ∧ (p.2.2.1 < q.2.2.1 ∨ (p.2.2.1 = q.2.2.1 ∧ p.2.2.2 < q.2.2.2))))) := by
 unfold cmpPl
 rw [orL4_neg, sgn_neg_iff, sgn_zero_iff, sgn_neg_iff, sgn_zero_iff, sgn_neg_iff, sgn_zero_iff, sgn_neg_iff]
theorem ltPl (x y : Q4) : ltOf cmpPl x y = decide (cmpPl x y < 0) := rfl
theorem swoPl : SWO (ltOf cmpPl) where
 irrefl x := by rw [ltPl, decide_eq_false_iff_not, cmpPl_neg]; omega
 trans x y z h1 h2 := by
  rw [ltPl, decide_eq_true_eq, cmpPl_neg] at *
  omega
 ntrans x y z h1 h2 := by
  rw [ltPl, decide_eq_false_iff_not, cmpPl_neg] at *
  omega
theorem totPl (x y : Q4) (h1 : ltOf cmpPl x y = false) (h2 : ltOf cmpPl y x = false) : x = y := by
 rw [ltPl, decide_eq_false_iff_not, cmpPl_neg] at h1 h2
 obtain ⟨a, b, c, d⟩ := x
 obtain ⟨a', b', c', d'⟩ := y
 simp only at h1 h2
 have : a = a' ∧ b = b' ∧ c = c' ∧ d = d' := by omega
 obtain ⟨rfl, rfl, rfl, rfl⟩ := this
 rfl
theorem enc4_one (x : Q4) : ∀ v ∈ enc4 x, v.oneCell' = true := fun v hv => by simp [enc4] at hv; rcases hv with rfl | rfl | rfl | rfl <;> rfl
theorem isAgg_plane : ∀ w, (isAgg 69).run Tryz.prog w = .ok true w := fun _ => by kernel_rfl
theorem sizeOf_plane : ∀ w, (Go.sizeOf 69).run Tryz.prog w = .ok 4 w := fun _ => by kernel_rfl
theorem eg_cmpPl : ∀ args w, (callFunc 165 args).run Tryz.prog w = .ok (.enter 165 args) w := enters_of Tryz.func165 (by kernel_rfl) rfl
theorem cmpLays_pl (blk off size : Nat) (w : World) : CmpLays Tryz.prog 165 #[] enc4 4 cmpPl blk off size w := fun _ _ _ _ x y => by
 obtain ⟨x0, x1, x2, x3⟩ := x
 obtain ⟨y0, y1, y2, y3⟩ := y
 exact comparePlanes_any x0 x1 x2 x3 y0 y1 y2 y3 _
def sortL (ps : List Q4) : List Q4 := ps.mergeSort (fun x y => !decide (cmpPl y x < 0))
theorem sortL_len (ps : List Q4) : (sortL ps).length = ps.length := by simp [sortL]
theorem sortPlanes_any (ps : List Q4) (base n : Nat) (v : Value) (w : World) (hn : ps.length = n) (hs : n < 4611686018427387904)
  (hown : w.ownsRow base 69 4 v n (ps.flatMap enc4)) :
  Calls Tryz.prog 164 #[v, .func (.func 165) #[] #[]] w fun e w' =>
   e = .returned (.tuple #[]) ∧ w'.ownsRow base 69 4 v n ((sortL ps).flatMap enc4) ∧ w.grownBy w' v.ownBlock := by
 by_cases h0 : 0 < n
 ·obtain ⟨g, cap, rfl, _, hg⟩ := own_form hown h0
  have hd : ps.toArray.size = n := by simp [hn]
  have hcon := AnyQ.slices_SortFunc_total Tryz.sortPlane 4 isAgg_plane sizeOf_plane enc4 enc4_len enc4_one cmpPl swoPl 165 #[] g 0 cap ps.toArray w eg_cmpPl (cmpLays_pl _ _ _ _)
   (own_holdsK enc4 (by decide) enc4_len _ hd (by simpa using hown)) hg (by rw [hd]; exact hs) totPl
  rw [hd] at hcon
  refine Calls.mono (show Calls Tryz.prog 164 _ _ _ from hcon) ?_
  rintro e w' ⟨rfl, m, os, rfl⟩
  have hsz : (List.mergeSort ps fun x y => !ltOf cmpPl y x).toArray.size = n := by simp [hn]
  obtain ⟨h1, h2⟩ := own_sorted (m := m) (os := os) enc4 (by decide) enc4_len _ hsz hown
  exact ⟨rfl, h1, h2⟩
 ·obtain rfl : n = 0 := by omega
  have hnil : ps = [] := List.length_eq_zero_iff.1 hn
  subst hnil
  have hf : ∃ a cap, v = .slice a 0 cap := by
   rcases hown.2 with ⟨rfl, _⟩ | ⟨g, cap, cur, rfl, _⟩
   ·exact ⟨_, _, rfl⟩
   ·exact ⟨_, _, rfl⟩
  obtain ⟨a, cap, rfl⟩ := hf
  refine Calls.mono (show Calls Tryz.prog 164 _ _ _ from AnyF.slices_SortFunc_none Tryz.sortPlane a cap _ w) ?_
  rintro e w' ⟨rfl, rfl⟩
  exact ⟨rfl, by simpa [sortL] using hown, ⟨rfl, rfl, rfl, Nat.le_refl _, fun _ _ _ => rfl⟩⟩
theorem compactPlanes_any (cs : List Q4) (base n : Nat) (cv : Value) (w : World) (hn : cs.length = n) (hs : n ≤ 10000000) (hown : w.ownsRow base 69 4 cv n (cs.flatMap enc4)) :
  Calls Tryz.prog 166 #[cv] w fun e w' => ∃ cv', e = .returned cv' ∧ w.grownBy w' cv.ownBlock ∧ (∃ a m c, cv' = .slice a m c) ∧
   w'.ownsRow base 69 4 cv' (Lib.compact cs).length ((Lib.compact cs).flatMap enc4) := by
 by_cases h2 : 2 ≤ n
 ·obtain ⟨g, cap, rfl, _, _⟩ := own_form hown (by omega)
  refine (compact_plane cs.toArray g n cap base w (by simpa using hn) hs h2 (by simpa using hown)).mono ?_
  rintro e w' ⟨rfl, hg, ho⟩
  have e : compactUpTo cs.toArray n = Lib.compact cs := by unfold Lib.compact; rw [hn]
  rw [e] at ho ⊢
  exact ⟨_, rfl, hg, ⟨_, _, _, rfl⟩, ho⟩
 ·have hf : ∃ a cap, cv = .slice a n cap := by
   rcases hown.2 with ⟨rfl, h⟩ | ⟨g, cap, cur, rfl, _⟩
   ·exact ⟨_, _, by rw [h]⟩
   ·exact ⟨_, _, rfl⟩
  obtain ⟨a, cap, rfl⟩ := hf
  refine (compact_plane_small a n cap w (by omega)).mono ?_
  rintro e w' ⟨rfl, rfl⟩
  have e : Lib.compact cs = cs := compact_all cs (fun j hj => keeps_lt_one _ j (by omega))
  rw [e, hn]
  exact ⟨_, rfl, ⟨rfl, rfl, rfl, Nat.le_refl _, fun _ _ _ => rfl⟩, ⟨_, _, _, rfl⟩, hown⟩
theorem compactCells_any (cs : List Q4) (base n : Nat) (cv : Value) (w : World) (hn : cs.length = n) (hs : n ≤ 10000000) (hown : w.ownsRow base 69 4 cv n (cs.flatMap enc4)) :
  Calls Tryz.prog 74 #[cv] w fun e w' => ∃ cv', e = .returned cv' ∧ w.grownBy w' cv.ownBlock ∧ (∃ a m c, cv' = .slice a m c) ∧
   w'.ownsRow base 69 4 cv' (Lib.compact cs).length ((Lib.compact cs).flatMap enc4) := by
 by_cases h2 : 2 ≤ n
 ·obtain ⟨g, cap, rfl, _, _⟩ := own_form hown (by omega)
  refine (compact_cell cs.toArray g n cap base w (by simpa using hn) hs h2 (by simpa using hown)).mono ?_
  rintro e w' ⟨rfl, hg, ho⟩
  have e : compactUpTo cs.toArray n = Lib.compact cs := by unfold Lib.compact; rw [hn]
  rw [e] at ho ⊢
  exact ⟨_, rfl, hg, ⟨_, _, _, rfl⟩, ho⟩
 ·have hf : ∃ a cap, cv = .slice a n cap := by
   rcases hown.2 with ⟨rfl, h⟩ | ⟨g, cap, cur, rfl, _⟩
   ·exact ⟨_, _, by rw [h]⟩
   ·exact ⟨_, _, rfl⟩
  obtain ⟨a, cap, rfl⟩ := hf
  refine (compact_cell_small a n cap w (by omega)).mono ?_
  rintro e w' ⟨rfl, rfl⟩
  have e : Lib.compact cs = cs := compact_all cs (fun j hj => keeps_lt_one _ j (by omega))
  rw [e, hn]
  exact ⟨_, rfl, ⟨rfl, rfl, rfl, Nat.le_refl _, fun _ _ _ => rfl⟩, ⟨_, _, _, rfl⟩, hown⟩
end
section
open Go.RowKit Go.Shelf Go.Sort Go.Lib
attribute [local go_sem] Ext.cell Ext.frozen
set_option maxRecDepth 100000
def cntOn (p : Q4) (cs : List Q4) : Nat := (cs.filter fun c => decide (sd p c = 0)).length
def onB (cs : List Q4) (p : Q4) : Bool := decide (3 ≤ cntOn p cs)
def lowL (cs ps : List Q4) : List Q4 := (ps.filter (onB cs)).map lowP
def normF (ps cs : List Q4) : List Q4 := Lib.compact (sortL (lowL cs ps))
theorem cnt_snoc (p : Q4) (cs : List Q4) (j : Nat) (h : j < cs.length) : cntOn p (cs.take (j + 1)) = cntOn p (cs.take j) + if sd p cs[j] = 0 then 1 else 0 := by
 unfold cntOn
 rw [List.take_succ_eq_append_getElem h, List.filter_append, List.length_append]
 by_cases e : sd p cs[j] = 0 <;> simp [e]
theorem low_snoc (cs ps : List Q4) (k : Nat) (h : k < ps.length) : lowL cs (ps.take (k + 1)) = lowL cs (ps.take k) ++ if onB cs ps[k] then [lowP ps[k]] else [] := by
 unfold lowL
 rw [List.take_succ_eq_append_getElem h, List.filter_append, List.map_append]
 by_cases e : onB cs ps[k] <;> simp [e]
theorem low_len (cs ps : List Q4) (k : Nat) : (lowL cs (ps.take k)).length ≤ k := by
 unfold lowL
 rw [List.length_map]
 exact Nat.le_trans (List.length_filter_le _ _) (by simp; omega)
theorem info_plane : (Tryz.prog.info? 69).map (fun i => (i.zero, i.size, i.bytes)) = some (some (v4 (0, 0, 0, 0)), 4, 32) := by kernel_rfl
def okPl0 (p : Q4) : Prop := okPl p ∧ (p.1 ≠ 0 ∨ p.2.1 ≠ 0 ∨ p.2.2.1 ≠ 0)
theorem lowest_q (p : Q4) (w : World) (h : okPl0 p) : Calls Tryz.prog 163 #[v4 p] w (Ret w (v4 (lowP p))) := by
 obtain ⟨a, b, c, d⟩ := p
 have h1 := h.1
 simp only [okPl] at h1
 exact lowest_any a b c d w (by omega) (by omega) (by omega) (by omega) h.2
theorem normalForm_any (ps cs : List Q4) (pv cv : Value) (w : World) (hps : ∀ p ∈ ps, okPl0 p) (hcs : ∀ c ∈ cs, okCo c) (hl : ps.length ≤ 1000000) (hlc : cs.length ≤ 1000000) (hpv : Q4s w pv ps) (hcv : Q4s w cv cs) :
  Calls Tryz.prog 121 #[.agg #[pv, cv]] w fun e w' => ∃ v, e = .returned (.agg #[v]) ∧ Below w.heap.size w w' ∧ w'.ownsRow (w.heap.size + 2) 69 4 v (normF ps cs).length ((normF ps cs).flatMap enc4) := by
 have Hnf : Hid (normF ps cs = Lib.compact (sortL (lowL cs (ps.take ps.length)))) := Lib.hid (by rw [List.take_length]; rfl)
 generalize normF ps cs = nf at *
 obtain ⟨a, n, cc, rfl, hn, hnc, hx⟩ := hpv
 obtain ⟨a', n', cc', rfl, hn', hnc', hx'⟩ := hcv
 have HPS := Lib.hid hps
 have HCS := Lib.hid hcs
 have HX' := Lib.hid hx'
 clear hps hcs hx'
 obtain ⟨i0, hi0, hz0, hz1, hz2⟩ := info_parts info_plane
 have Hi0 := Lib.hid (And.intro hi0 (And.intro hz0 (And.intro hz1 hz2)))
 clear hi0 hz0 hz1 hz2
 go_enter Tryz.func121, Tryz.ntmps121
 go_wp2
 go_loopw [3, 12] (fun s3 i wr => ∃ k : Nat, k ≤ n ∧ i = .int .i64 k ∧ Below w.heap.size w wr ∧ Hid (wr.heap[w.heap.size]? = some (.cells #[.slice a n cc, .slice a' n' cc'] 160 (0, 0))) ∧ Hid (wr.heap[w.heap.size + 1]? = some (.cells #[.slice none 0 0] 67 (0, 0))) ∧
   Hid (wr.ownsRow (w.heap.size + 2) 69 4 s3 (lowL cs (ps.take k)).length ((lowL cs (ps.take k)).flatMap enc4))) (fun _ i _ => n - (intOf i).toNat)
 case atStart => exact ⟨0, by omega, rfl, bel, Lib.hid ((heap_old (by simp)).trans (heap_new rfl)), Lib.hid (heap_new (by simp)), Lib.hid (World.ownsRow_nil _ _ _ _)⟩
 case round =>
  obtain ⟨k, hk, rfl, hb, HB, HC, HO⟩ := hrel
  have zC := blk_lt HC.out
  by_cases hlt : k < n
  ·obtain ⟨b, off, rfl, hi⟩ := hx (by omega)
   obtain ⟨c0, c1, c2, c3⟩ := (hi.below hb) k (by omega)
   have Hok := Lib.hid (HPS.out (ps[k]) (by simp))
   have Hsn := Lib.hid (low_snoc cs ps k (by omega))
   have Hll := Lib.hid (low_len cs ps k)
   obtain ⟨p, Hp⟩ : ∃ p, Hid (ps[k] = p) := ⟨_, Lib.hid rfl⟩
   rw [Hp.out] at c0 c1 c2 c3 Hok Hsn
   have k1 : wr.cell? ⟨w.heap.size, 1, none⟩ = some (.slice a' n' cc') := (blk_cell HB.out 1).trans rfl
   have zB : w.heap.size < wr.heap.size := by omega
   obtain ⟨wo, rfl⟩ : ∃ wo : World, wo = wr := ⟨_, rfl⟩
   clear hx hi
   go_wp2
   clear c0 c1 c2 c3 k1
   go_loopw [6, 19] (fun s6 i wr => ∃ j : Nat, j ≤ n' ∧ i = .int .i64 j ∧ s6 = .int .i64 (cntOn p (cs.take j)) ∧ Below (wo.heap.size + 1) (wo.alloc (.cells #[.int .i64 p.1, .int .i64 p.2.1, .int .i64 p.2.2.1, .int .i64 p.2.2.2] 69)) wr) (fun _ i _ => n' - (intOf i).toNat)
   case atStart => exact ⟨0, by omega, rfl, rfl, Below.refl _ _⟩
   case round =>
    obtain ⟨j, hj, rfl, rfl, hbj⟩ := hrel
    have Hpb : Hid (wr.heap[wo.heap.size]? = some (.cells #[.int .i64 p.1, .int .i64 p.2.1, .int .i64 p.2.2.1, .int .i64 p.2.2.2] 69 (0, 0))) := Lib.hid ((hbj.block _ (by omega)).trans (heap_new rfl))
    have zp := blk_lt Hpb.out
    have p0 : wr.cell? ⟨wo.heap.size, 0, none⟩ = some (.int .i64 p.1) := (blk_cell Hpb.out 0).trans rfl
    have p1 : wr.cell? ⟨wo.heap.size, 1, none⟩ = some (.int .i64 p.2.1) := (blk_cell Hpb.out 1).trans rfl
    have p2 : wr.cell? ⟨wo.heap.size, 2, none⟩ = some (.int .i64 p.2.2.1) := (blk_cell Hpb.out 2).trans rfl
    have p3 : wr.cell? ⟨wo.heap.size, 3, none⟩ = some (.int .i64 p.2.2.2) := (blk_cell Hpb.out 3).trans rfl
    have hbwr : Below w.heap.size w wr := (hb.alloc (by omega) _).trans (hbj.mono (by omega))
    by_cases hlt2 : j < n'
    ·obtain ⟨b', off', rfl, hi'⟩ := HX'.out (by omega)
     obtain ⟨c0, c1, c2, c3⟩ := (hi'.below hbwr) j (by omega)
     have Hok' := Lib.hid (HCS.out (cs[j]) (by simp))
     have Hcn := Lib.hid (cnt_snoc p cs j (by omega))
     have hcl : cntOn p (cs.take j) ≤ j := Nat.le_trans (List.length_filter_le _ _) (by simp; omega)
     obtain ⟨c, Hc⟩ : ∃ c, Hid (cs[j] = c) := ⟨_, Lib.hid rfl⟩
     rw [Hc.out] at c0 c1 c2 c3 Hok' Hcn
     generalize cntOn p (cs.take j) = cn at *
     clear hi'
     have hs := fun W => Lib.hid (side_q p c W Hok.out.1 Hok'.out)
     by_cases hsd : sd p c = 0
     ·have Hsd := Lib.hid hsd
      rw [hsd] at hs
      clear hsd
      go_wp2_with fail
      refine ((hs _).out).mono ?_
      rintro e w1 ⟨rfl, hb1⟩
      clear hs
      go_wp2
      go_roundw
      case rel => exact ⟨j + 1, by omega, by go_num, by rw [Hcn.out, if_pos Hsd.out]; go_num, hbj.trans ((below_trans bel hb1 : Below wr.heap.size wr w1).mono (by omega))⟩
      case measure => simp [intOf]; omega
     ·have hsd' : (sd p c == 0) = false := by simpa using hsd
      have Hsd := Lib.hid hsd
      clear hsd
      go_wp2_with fail
      refine ((hs _).out).mono ?_
      rintro e w1 ⟨rfl, hb1⟩
      clear hs
      go_wp2
      go_roundw
      case rel => exact ⟨j + 1, by omega, by go_num, by rw [Hcn.out, if_neg Hsd.out]; simp, hbj.trans ((below_trans bel hb1 : Below wr.heap.size wr w1).mono (by omega))⟩
      case measure => simp [intOf]; omega
    ·obtain rfl : j = n' := by omega
     have Hct : Hid (cntOn p (cs.take j) = cntOn p cs) := Lib.hid (by rw [List.take_of_length_le (by omega)])
     have hcl : cntOn p (cs.take j) ≤ j := Nat.le_trans (List.length_filter_le _ _) (by simp; omega)
     have HB1 : Hid (wr.heap[w.heap.size]? = some (.cells #[.slice (some ⟨b, off, none⟩) n cc, .slice a' j cc'] 160 (0, 0))) := Lib.hid ((hbj.block _ (by omega)).trans ((heap_old zB).trans HB.out))
     have HC1 : Hid (wr.heap[w.heap.size + 1]? = some (.cells #[.slice none 0 0] 67 (0, 0))) := Lib.hid ((hbj.block _ (by omega)).trans ((heap_old zC).trans HC.out))
     have HO1 : Hid (wr.ownsRow (w.heap.size + 2) 69 4 u3 (lowL cs (ps.take k)).length ((lowL cs (ps.take k)).flatMap enc4)) := Lib.hid (own_below HO.out ((Below.alloc (Below.refl _ _) (Nat.le_refl _) _).trans (hbj.mono (by omega))))
     clear HB HC HO hbj
     by_cases h3 : 3 ≤ cntOn p (cs.take j)
     ·have Hon : Hid (onB cs p = true) := Lib.hid (by unfold onB; rw [← Hct.out]; exact decide_eq_true h3)
      generalize cntOn p (cs.take j) = cn at *
      go_wp2_with fail
      refine (lowest_q p _ Hok.out).mono ?_
      rintro e w1 ⟨rfl, hb1⟩
      have HO2 := Lib.hid (own_below HO1.out hb1)
      have HB2 : Hid (w1.heap[w.heap.size]? = some (.cells #[.slice (some ⟨b, off, none⟩) n cc, .slice a' j cc'] 160 (0, 0))) := Lib.hid ((hb1.block _ (blk_lt HB1.out)).trans HB1.out)
      have HC2 : Hid (w1.heap[w.heap.size + 1]? = some (.cells #[.slice none 0 0] 67 (0, 0))) := Lib.hid ((hb1.block _ (blk_lt HC1.out)).trans HC1.out)
      have hbw1 : Below w.heap.size w w1 := below_trans hbwr hb1
      have zb1 := hb1.size
      have zC1 := blk_lt HC1.out
      clear HB1 HC1 HO1 hbwr hb1 p0 p1 p2 p3
      go_wp2_with (at_builtin; refine wpList_append_own _ rfl _ _ 65 rfl (w.heap.size + 2) 69 i0 (v4 (0, 0, 0, 0)) 4 32 und_planes' Hi0.out.1 Hi0.out.2.1 Hi0.out.2.2.1 Hi0.out.2.2.2 rfl (by decide) u3 _ _ rfl (HO2.out.alloc _) ⟨w1.heap.size, 0, none⟩ 1 1 (enc4 (lowP p)) rfl rfl ?c1 ?c2 ?c3 ?c4 ?c5 ?_)
      case c1 =>
       intro jj uu hu
       rw [add0, cell_new rfl jj]
       simpa [enc4] using hu
      case c2 => exact enc4_one _
      case c3 => unfold maxLen; have := Hll.out; omega
      case c4 => have := Hll.out; omega
      case c5 => simp; omega
      intro v' w2 hown2 hg2 _
      have hne1 : some (w.heap.size + 1) ≠ u3.ownBlock := fun e => own_blk_ne HO2.out HC2.out (by decide) e.symm
      have hne0 : some w.heap.size ≠ u3.ownBlock := fun e => own_blk_ne HO2.out HB2.out (by decide) e.symm
      have HB3 : Hid (w2.heap[w.heap.size]? = some (.cells #[.slice (some ⟨b, off, none⟩) n cc, .slice a' j cc'] 160 (0, 0))) := Lib.hid ((hg2.block _ (by simp; omega) hne0).trans ((heap_old (by omega)).trans HB2.out))
      have HC3 : Hid (w2.heap[w.heap.size + 1]? = some (.cells #[.slice none 0 0] 67 (0, 0))) := Lib.hid ((hg2.block _ (by simp; omega) hne1).trans ((heap_old (by omega)).trans HC2.out))
      have hbw2 : Below w.heap.size w w2 := (hbw1.alloc hbw1.size _).grown hg2 (by simp; omega) (fun q hq => by obtain ⟨h, _⟩ := HO2.out.lt q hq; omega)
      have HO3 := Lib.hid hown2
      clear hown2 hg2 hne0 hne1 HB2 HC2 HO2
      go_wp2
      go_roundw
      case rel => exact ⟨k + 1, by omega, by go_num, hbw2, HB3, HC3, Lib.hid (by rw [Hsn.out, Hon.out]; simpa using HO3.out)⟩
      case measure => simp [intOf]; omega
     ·have Hon : Hid (onB cs p = false) := Lib.hid (by unfold onB; rw [← Hct.out]; exact decide_eq_false h3)
      generalize cntOn p (cs.take j) = cn at *
      go_wp2
      go_roundw
      case rel => exact ⟨k + 1, by omega, by go_num, hbwr, HB1, HC1, Lib.hid (by rw [Hsn.out, Hon.out]; simpa using HO1.out)⟩
      case measure => simp [intOf]; omega
  ·obtain rfl : k = n := by omega
   subst hn
   have Hll := Lib.hid (low_len cs ps ps.length)
   clear hx
   go_wp2_with fail
   refine (sortPlanes_any (lowL cs (ps.take ps.length)) _ _ u3 wr rfl (by have := Hll.out; omega) HO.out).mono ?_
   rintro e w1 ⟨rfl, hown1, hg1⟩
   have hne1 : some (w.heap.size + 1) ≠ u3.ownBlock := fun e => own_blk_ne HO.out HC.out (by decide) e.symm
   have hbw1 : Below w.heap.size w w1 := hb.grown hg1 hb.size (fun q hq => by obtain ⟨h, _⟩ := HO.out.lt q hq; omega)
   have HC1 : Hid (w1.heap[w.heap.size + 1]? = some (.cells #[.slice none 0 0] 67 (0, 0))) := Lib.hid ((hg1.block _ zC hne1).trans HC.out)
   have HO1 := Lib.hid hown1
   clear hown1 hg1 hne1 HO HC HB hb zC
   go_wp2_with fail
   refine (compactPlanes_any (sortL (lowL cs (ps.take ps.length))) _ _ u3 w1 (sortL_len _) (by have := Hll.out; omega) HO1.out).mono ?_
   rintro e w2 ⟨cv', rfl, hg2, ⟨a2, m2, c2, rfl⟩, hown2⟩
   have hne1 : some (w.heap.size + 1) ≠ u3.ownBlock := fun e => own_blk_ne HO1.out HC1.out (by decide) e.symm
   have hbw2 : Below w.heap.size w w2 := hbw1.grown hg2 hbw1.size (fun q hq => by obtain ⟨h, _⟩ := HO1.out.lt q hq; omega)
   have b1 : w2.heap[w.heap.size + 1]? = some (.cells #[.slice none 0 0] 67 (0, 0)) := (hg2.block _ (blk_lt HC1.out) hne1).trans HC1.out
   have r0 : w2.cell? ⟨w.heap.size + 1, 0, none⟩ = some (.slice none 0 0) := (blk_cell b1 0).trans rfl
   have f0 := blk_free b1
   rw [← Hnf.out] at hown2
   have Ho2 := Lib.hid hown2
   have hfar1 := Lib.hid (fun e => own_blk_ne hown2 b1 (by decide) e.symm : some (w.heap.size + 1) ≠ (Value.slice a2 m2 c2).ownBlock)
   clear hown2 b1 hg2 HO1 HC1 hbw1 hne1
   go_wp2
   refine bodyPost_ret (v := .agg #[.slice a2 m2 c2]) (by simp [results, Tryz.results121, go_sem, r0]) rfl ⟨_, rfl, ?_, ?_⟩
   ·exact hbw2.setCell (by simp) _
   ·exact own_setCell_far Ho2.out _ _ hfar1.out
end
section
open Go.RowKit Go.Shelf
attribute [local go_sem] Ext.cell Ext.frozen
set_option maxRecDepth 100000
def lineP (ps : List Q4) (i k : Nat) : Q3 := crossP (nrm (getP ps i)) (nrm (getP ps k))
def nzB (l : Q3) : Bool := decide (l ≠ (0, 0, 0))
def abvB (ps : List Q4) (l : Q3) (m : Nat) : Bool := (ps.take m).any fun r => decide (0 < dotP l (nrm r))
def blwB (ps : List Q4) (l : Q3) (m : Nat) : Bool := (ps.take m).any fun r => decide (dotP l (nrm r) < 0)
def goodB (ps : List Q4) (i k : Nat) : Bool := !nzB (lineP ps i k) || (abvB ps (lineP ps i k) ps.length && blwB ps (lineP ps i k) ps.length)
def fullI (ps : List Q4) (i k : Nat) : Bool := (List.range k).any fun k => nzB (lineP ps i k)
def fullA (ps : List Q4) (i : Nat) : Bool := (List.range i).any fun i => fullI ps i i
def boundedB (ps : List Q4) : Bool := ((List.range ps.length).all fun i => (List.range i).all fun k => goodB ps i k) && fullA ps ps.length
theorem fullI_succ (ps : List Q4) (i k : Nat) : fullI ps i (k + 1) = (fullI ps i k || nzB (lineP ps i k)) := by simp [fullI, List.range_succ]
theorem fullA_succ (ps : List Q4) (i : Nat) : fullA ps (i + 1) = (fullA ps i || fullI ps i i) := by simp [fullA, List.range_succ]
theorem abv_succ (ps : List Q4) (l : Q3) (m : Nat) (h : m < ps.length) : abvB ps l (m + 1) = (abvB ps l m || decide (0 < dotP l (nrm (getP ps m)))) := by
 unfold abvB
 rw [List.take_succ_eq_append_getElem h, List.any_append, getP_eq m h]
 simp
theorem blw_succ (ps : List Q4) (l : Q3) (m : Nat) (h : m < ps.length) : blwB ps l (m + 1) = (blwB ps l m || decide (dotP l (nrm (getP ps m)) < 0)) := by
 unfold blwB
 rw [List.take_succ_eq_append_getElem h, List.any_append, getP_eq m h]
 simp
theorem bounded_bad (ps : List Q4) (i k : Nat) (hi : i < ps.length) (hk : k < i) (h : goodB ps i k = false) : boundedB ps = false := by
 have : ((List.range ps.length).all fun i => (List.range i).all fun k => goodB ps i k) = false := by
  rw [List.all_eq_false]
  refine ⟨i, by simpa using hi, ?_⟩
  rw [Bool.not_eq_true, List.all_eq_false]
  exact ⟨k, by simpa using hk, by simp [h]⟩
 simp [boundedB, this]
theorem bounded_good (ps : List Q4) (h : ∀ i k, i < ps.length → k < i → goodB ps i k = true) : boundedB ps = fullA ps ps.length := by
 have : ((List.range ps.length).all fun i => (List.range i).all fun k => goodB ps i k) = true := by
  rw [List.all_eq_true]
  intro i hi
  rw [List.all_eq_true]
  intro k hk
  exact h i k (by simpa using hi) (by simpa using hk)
 simp [boundedB, this]
theorem bounded_any (ps : List Q4) (pv : Value) (w : World) (hps : ∀ p ∈ ps, okPl p) (hl : ps.length ≤ 1000000) (hpv : Q4s w pv ps) :
  Calls Tryz.prog 157 #[pv] w (Ret w (.bool (boundedB ps))) := by
 obtain ⟨a, n, cc, rfl, hn, hnc, hx⟩ := hpv
 have HPS := Lib.hid hps
 have Hbad := Lib.hid (bounded_bad ps)
 have Hgood := Lib.hid (bounded_good ps)
 generalize boundedB ps = res at *
 clear hps
 go_enter Tryz.func157, Tryz.ntmps157
 go_wp2
 go_loopw [3, 16] (fun s3 i wr => ∃ k : Nat, k ≤ n ∧ i = .int .i64 k ∧ s3 = .bool (fullA ps k) ∧ Below w.heap.size w wr ∧ Hid (∀ i j, i < k → j < i → goodB ps i j = true)) (fun _ i _ => n - (intOf i).toNat)
 case atStart => exact ⟨0, by omega, rfl, rfl, Below.refl _ _, Lib.hid (fun i j h => by omega)⟩
 case round =>
  obtain ⟨k, hk, rfl, rfl, hbk, Hgk⟩ := hrel
  by_cases hlt : k < n
  ·obtain ⟨b, off, rfl, hi⟩ := hx (by omega)
   obtain ⟨c0, c1, c2, c3⟩ := (hi.below hbk) k (by omega)
   have Hok := Lib.hid (getP_ok HPS.out k (by omega))
   rw [getP_eq k (by omega)] at c0 c1 c2 c3
   obtain ⟨P, HP⟩ : ∃ P, Hid (getP ps k = P) := ⟨_, Lib.hid rfl⟩
   rw [HP.out] at c0 c1 c2 c3 Hok
   clear hx
   obtain ⟨wo, rfl⟩ : ∃ wo : World, wo = wr := ⟨_, rfl⟩
   have HI := Lib.hid hi
   clear hi
   go_wp2
   clear c0 c1 c2 c3
   go_loopw [3, 25] (fun s3 i wr => ∃ j : Nat, j ≤ k ∧ i = .int .i64 j ∧ s3 = .bool (fullA ps k || fullI ps k j) ∧ Below w.heap.size w wr ∧ Hid (wr.heap[wo.heap.size]? = some (.cells #[.int .i64 P.1, .int .i64 P.2.1, .int .i64 P.2.2.1, .int .i64 P.2.2.2] 69 (0, 0))) ∧ Hid (∀ i, i < j → goodB ps k i = true)) (fun _ i _ => k - (intOf i).toNat)
   case atStart => exact ⟨0, by omega, rfl, by simp [fullI], below_trans hbk bel, Lib.hid (heap_new rfl), Lib.hid (fun i h => by omega)⟩
   case round =>
    clear hbk
    obtain ⟨j, hj, rfl, rfl, hb, HPb, Hgj⟩ := hrel
    by_cases hlt2 : j < k
    ·obtain ⟨c0, c1, c2, c3⟩ := (HI.out.below hb) j (by omega)
     have HokQ := Lib.hid (getP_ok HPS.out j (by omega))
     rw [getP_eq j (by omega)] at c0 c1 c2 c3
     obtain ⟨Q, HQ⟩ : ∃ Q, Hid (getP ps j = Q) := ⟨_, Lib.hid rfl⟩
     rw [HQ.out] at c0 c1 c2 c3 HokQ
     obtain ⟨wq, rfl⟩ : ∃ wq : World, wq = wr := ⟨_, rfl⟩
     have zq := blk_lt HPb.out
     have p0 : wq.cell? ⟨wo.heap.size, 0, none⟩ = some (.int .i64 P.1) := (blk_cell HPb.out 0).trans rfl
     have p1 : wq.cell? ⟨wo.heap.size, 1, none⟩ = some (.int .i64 P.2.1) := (blk_cell HPb.out 1).trans rfl
     have p2 : wq.cell? ⟨wo.heap.size, 2, none⟩ = some (.int .i64 P.2.2.1) := (blk_cell HPb.out 2).trans rfl
     have p3 : wq.cell? ⟨wo.heap.size, 3, none⟩ = some (.int .i64 P.2.2.2) := (blk_cell HPb.out 3).trans rfl
     have oP := Hok.out
     have oQ := HokQ.out
     simp only [okPl] at oP oQ
     have Hline : Hid (lineP ps k j = crossP (nrm P) (nrm Q)) := Lib.hid (by unfold lineP; rw [HP.out, HQ.out])
     have Hfi := Lib.hid (fullI_succ ps k j)
     obtain ⟨F, HF⟩ : ∃ F, Hid ((fullA ps k || fullI ps k j) = F) := ⟨_, Lib.hid rfl⟩
     rw [HF.out]
     go_wp2
     clear c0 c1 c2 c3
     have zo1 : wo.heap.size < wq.heap.size + 1 := by omega
     apply wp_region_growK [] [0, 1, 2, 3, 4, 5] 6 [] [sv _, sv _, sv _, sv _, sv _, ⟨IsBx (wq.alloc (.cells #[.int .i64 Q.1, .int .i64 Q.2.1, .int .i64 Q.2.2.1, .int .i64 Q.2.2.2] 69)).heap.size 124 #[.int .i64 0, .int .i64 0, .int .i64 0], by first | exact stab_po _ _ | exact stab_fo _ _ | exact stab_co _ _ | exact stab_ko _ _ | exact stab_kgo _ _ | exact stab_bx _ _ _⟩] (by kernel_rfl) (by kernel_rfl)
     iterate 1 ((try go_frame); refine wkV ?_; apply ex3; (focus (intro u K hK; go_simp; exact hK _ brf)); rfl)
     try go_frame
     refine wkV ?_
     apply ex3
     ·intro u K hK
      go_simp
      refine (normal_any _ _ _ _ _).mono ?_
      rintro e w9 ⟨rfl, hb9⟩
      exact hK _ hb9
     rfl
     iterate 1 ((try go_frame); refine wkV ?_; apply ex3; (focus (intro u K hK; go_simp; exact hK _ brf)); rfl)
     try go_frame
     refine wkV ?_
     apply ex3
     ·intro u K hK
      go_simp
      refine (normal_any _ _ _ _ _).mono ?_
      rintro e w9 ⟨rfl, hb9⟩
      exact hK _ hb9
     rfl
     try go_frame
     refine wkV ?_
     apply ex3
     ·intro u K hK
      go_simp
      refine (cross_any _ _ _ _ _ _ _ (by omega) (by omega) (by omega) (by omega) (by omega) (by omega)).mono ?_
      rintro e w9 ⟨rfl, hb9⟩
      exact hK _ hb9
     rfl
     try go_frame
     refine wkU (fun u hR K hK => ?_) (fun o5 => ?_)
     ·clear hR
      have zw := u.size
      go_simp
      exact hK _ _ bel ⟨_, rfl, zw, heap_new rfl⟩
     try go_frame
     refine wk_nil (fun u hR => ?_)
     obtain ⟨gl, rfl, hgl, Hgl⟩ : IsBx (wq.alloc (.cells #[.int .i64 Q.1, .int .i64 Q.2.1, .int .i64 Q.2.2.1, .int .i64 Q.2.2.2] 69)).heap.size 124 #[.int .i64 0, .int .i64 0, .int .i64 0] o5 u.val := hR 5 (by simp)
     have hbl := u.below
     clear hR
     generalize u.val = wl at *
     clear u
     simp only [oas]
     have g0 : wl.cell? ⟨gl, 0, none⟩ = some (.int .i64 0) := (blk_cell Hgl 0).trans rfl
     have g1 : wl.cell? ⟨gl, 1, none⟩ = some (.int .i64 0) := (blk_cell Hgl 1).trans rfl
     have g2 : wl.cell? ⟨gl, 2, none⟩ = some (.int .i64 0) := (blk_cell Hgl 2).trans rfl
     have gf := blk_free Hgl
     have Hb := Lib.hid Hgl
     have HL : Hid (crossP (nrm P) (nrm Q) = (P.2.1 * Q.2.2.1 - P.2.2.1 * Q.2.1, P.2.2.1 * Q.1 - P.1 * Q.2.2.1, P.1 * Q.2.1 - P.2.1 * Q.1)) := Lib.hid rfl
     have bL0 := cross_bd oP.2.1 oP.2.2.1 oQ.2.1 oQ.2.2.1
     have bL1 := cross_bd oP.2.2.1 oP.1 oQ.2.2.1 oQ.1
     have bL2 := cross_bd oP.1 oP.2.1 oQ.1 oQ.2.1
     clear Hgl p0 p1 p2 p3
     generalize P.2.1 * Q.2.2.1 - P.2.2.1 * Q.2.1 = l0 at *
     generalize P.2.2.1 * Q.1 - P.1 * Q.2.2.1 = l1 at *
     generalize P.1 * Q.2.1 - P.2.1 * Q.1 = l2 at *
     try go_frame
     iterate 1 (refine wpList_step (fun K hK => ?_); go_simp; refine hK _ _ ?_; clear hK K)
     refine NoPanic.normal ?_
     have hv := equalIn_vec l0 l1 l2 0 0 0
     obtain ⟨wm, Hwm⟩ : ∃ wm, Hid (((wl.setCell ⟨gl, 0, none⟩ (.int .i64 l0)).setCell ⟨gl, 1, none⟩ (.int .i64 l1)).setCell ⟨gl, 2, none⟩ (.int .i64 l2) = wm) := ⟨_, Lib.hid rfl⟩
     have hbm : Below (wq.alloc (.cells #[.int .i64 Q.1, .int .i64 Q.2.1, .int .i64 Q.2.2.1, .int .i64 Q.2.2.2] 69)).heap.size (wq.alloc (.cells #[.int .i64 Q.1, .int .i64 Q.2.1, .int .i64 Q.2.2.1, .int .i64 Q.2.2.2] 69)) wm := by
      rw [← Hwm.out]; exact ((hbl.setCell hgl _).setCell hgl _).setCell hgl _
     have hbwm : Below w.heap.size w wm := below_trans hb (below_trans bel hbm)
     have HP1 : Hid (wm.heap[wo.heap.size]? = some (.cells #[.int .i64 P.1, .int .i64 P.2.1, .int .i64 P.2.2.1, .int .i64 P.2.2.2] 69 (0, 0))) := Lib.hid ((hbm.block _ (by simp; omega)).trans ((heap_old zq).trans HPb.out))
     have Hl : Hid (wm.heap[gl]? = some (.cells #[.int .i64 l0, .int .i64 l1, .int .i64 l2] 124 (0, 0))) := by rw [← Hwm.out]; exact Lib.hid (blk_set (blk_set (blk_set Hb.out 0 _) 1 _) 2 _)
     rw [Hwm.out]
     rw [HL.out] at Hline
     clear hbl hbm g0 g1 g2 gf Hb Hwm HPb hgl hb
     have e0 : wm.cell? ⟨gl, 0, none⟩ = some (.int .i64 l0) := (blk_cell Hl.out 0).trans rfl
     have e1 : wm.cell? ⟨gl, 1, none⟩ = some (.int .i64 l1) := (blk_cell Hl.out 1).trans rfl
     have e2 : wm.cell? ⟨gl, 2, none⟩ = some (.int .i64 l2) := (blk_cell Hl.out 2).trans rfl
     by_cases hz : l0 = 0 ∧ l1 = 0 ∧ l2 = 0
     ·have hb0 : (l0 == 0 && l1 == 0 && l2 == 0) = true := by simp [hz]
      have Hz := Lib.hid hz
      rw [hb0] at hv
      clear hz hb0
      have Hnz : Hid (nzB (lineP ps k j) = false) := Lib.hid (by rw [Hline.out, Hz.out.1, Hz.out.2.1, Hz.out.2.2]; rfl)
      go_wp2
      go_roundw
      case rel => exact ⟨j + 1, by omega, by go_num, by rw [Hfi.out, Hnz.out, ← HF.out]; simp, hbwm, HP1, Lib.hid (fun i h => by
       by_cases e : i = j
       ·subst e; unfold goodB; rw [Hnz.out]; rfl
       ·exact Hgj.out i (by omega))⟩
      case measure => simp [intOf]; omega
     ·have hb0 : (l0 == 0 && l1 == 0 && l2 == 0) = false := by rw [Bool.eq_false_iff]; simp; omega
      rw [hb0] at hv
      clear hb0
      have Hnz : Hid (nzB (lineP ps k j) = true) := Lib.hid (by rw [Hline.out]; unfold nzB; rw [decide_eq_true_eq]; intro e; injection e with e1 e2; injection e2 with e2 e3; exact hz ⟨e1, e2, e3⟩)
      go_wp2
      go_loopw [9, 10, 39] (fun s9 s10 i wr => ∃ m : Nat, m ≤ n ∧ i = .int .i64 m ∧ s9 = .bool (abvB ps (l0, l1, l2) m) ∧ s10 = .bool (blwB ps (l0, l1, l2) m) ∧ Below w.heap.size w wr ∧ Hid (wr.heap[wo.heap.size]? = some (.cells #[.int .i64 P.1, .int .i64 P.2.1, .int .i64 P.2.2.1, .int .i64 P.2.2.2] 69 (0, 0))) ∧ Hid (wr.heap[gl]? = some (.cells #[.int .i64 l0, .int .i64 l1, .int .i64 l2] 124 (0, 0)))) (fun _ _ i _ => n - (intOf i).toNat)
      case atStart => exact ⟨0, by omega, rfl, rfl, rfl, hbwm, HP1, Hl⟩
      case round =>
       clear e0 e1 e2 HP1 Hl hv hz hbwm
       obtain ⟨m, hm, rfl, rfl, rfl, hb, HP1, Hl⟩ := hrel
       by_cases hlt3 : m < n
       ·obtain ⟨c0, c1, c2, c3⟩ := (HI.out.below hb) m (by omega)
        have HokR := Lib.hid (getP_ok HPS.out m (by omega))
        have Hab := Lib.hid (abv_succ ps (l0, l1, l2) m (by omega))
        have Hbl := Lib.hid (blw_succ ps (l0, l1, l2) m (by omega))
        rw [getP_eq m (by omega)] at c0 c1 c2 c3
        obtain ⟨R, HR⟩ : ∃ R, Hid (getP ps m = R) := ⟨_, Lib.hid rfl⟩
        rw [HR.out] at c0 c1 c2 c3 HokR Hab Hbl
        obtain ⟨wz, rfl⟩ : ∃ wz : World, wz = wr := ⟨_, rfl⟩
        have zP := blk_lt HP1.out
        have zL := blk_lt Hl.out
        have e0 : wz.cell? ⟨gl, 0, none⟩ = some (.int .i64 l0) := (blk_cell Hl.out 0).trans rfl
        have e1 : wz.cell? ⟨gl, 1, none⟩ = some (.int .i64 l1) := (blk_cell Hl.out 1).trans rfl
        have e2 : wz.cell? ⟨gl, 2, none⟩ = some (.int .i64 l2) := (blk_cell Hl.out 2).trans rfl
        have oR := HokR.out
        simp only [okPl] at oR
        go_wp2
        clear c0 c1 c2 c3
        have zL1 : gl < wz.heap.size + 1 := by omega
        refine wqb ?_
        repeat (first | go_big_quiet_step ((first | (go_at_call 139; exact quietB_ret (normal_any _ _ _ _ _)) | (go_at_call 142; exact quietB_ret (dot_any _ _ _ _ _ _ _ (by omega) (by omega) (by omega) (by omega) (by omega) (by omega))))) | quiet_step ((first | (go_at_call 139; exact quietB_ret (normal_any _ _ _ _ _)) | (go_at_call 142; exact quietB_ret (dot_any _ _ _ _ _ _ _ (by omega) (by omega) (by omega) (by omega) (by omega) (by omega))))))
        refine wqn fun u => ?_
        have Hden : Hid (dotP (l0, l1, l2) (nrm R) = l0 * R.1 + l1 * R.2.1 + l2 * R.2.2.1) := Lib.hid rfl
        rw [Hden.out] at Hab Hbl
        have HP2 : Hid (u.val.heap[wo.heap.size]? = some (.cells #[.int .i64 P.1, .int .i64 P.2.1, .int .i64 P.2.2.1, .int .i64 P.2.2.2] 69 (0, 0))) := Lib.hid ((u.below.block _ (by simp; omega)).trans ((heap_old zP).trans HP1.out))
        have Hl2 : Hid (u.val.heap[gl]? = some (.cells #[.int .i64 l0, .int .i64 l1, .int .i64 l2] 124 (0, 0))) := Lib.hid ((u.below.block _ (by simp; omega)).trans ((heap_old zL).trans Hl.out))
        have hb2 : Below w.heap.size w u.val := below_trans hb (below_trans bel u.below)
        clear e0 e1 e2 HP1 Hl oR hb
        generalize l0 * R.1 + l1 * R.2.1 + l2 * R.2.2.1 = den at *
        generalize abvB ps (l0, l1, l2) m = A at *
        generalize blwB ps (l0, l1, l2) m = B at *
        have tri : 0 < den ∨ den < 0 ∨ den = 0 := by omega
        rcases tri with hd | hd | hd
        ·have hd2 : ¬ den < 0 := by omega
         rw [decide_eq_true hd] at Hab
         rw [decide_eq_false hd2] at Hbl
         cases A <;> cases B
         all_goals
          go_wp2
          go_roundw
          case rel => exact ⟨m + 1, by omega, by go_num, by rw [Hab.out]; rfl, by rw [Hbl.out]; rfl, hb2, HP2, Hl2⟩
          case measure => simp [intOf]; omega
        ·have hd2 : ¬ 0 < den := by omega
         rw [decide_eq_false hd2] at Hab
         rw [decide_eq_true hd] at Hbl
         cases A <;> cases B
         all_goals
          go_wp2
          go_roundw
          case rel => exact ⟨m + 1, by omega, by go_num, by rw [Hab.out]; rfl, by rw [Hbl.out]; rfl, hb2, HP2, Hl2⟩
          case measure => simp [intOf]; omega
        ·subst hd
         cases A <;> cases B
         all_goals
          go_wp2
          go_roundw
          case rel => exact ⟨m + 1, by omega, by go_num, by rw [Hab.out]; rfl, by rw [Hbl.out]; rfl, hb2, HP2, Hl2⟩
          case measure => simp [intOf]; omega
       ·obtain rfl : m = n := by omega
        have HA : Hid (goodB ps k j = (abvB ps (l0, l1, l2) m && blwB ps (l0, l1, l2) m)) := Lib.hid (by unfold goodB; rw [Hnz.out, Hline.out, hn]; rfl)
        have Hbd := Lib.hid (Hbad.out k j (by omega) hlt2)
        generalize abvB ps (l0, l1, l2) m = A at *
        generalize blwB ps (l0, l1, l2) m = B at *
        cases A <;> cases B
        ·cases F
         all_goals
          go_wp2
          go_ret
          exact ⟨ret_bool (Hbd.out HA.out).symm, hb⟩
        ·cases F
         all_goals
          go_wp2
          go_ret
          exact ⟨ret_bool (Hbd.out HA.out).symm, hb⟩
        ·cases F
         all_goals
          go_wp2
          go_ret
          exact ⟨ret_bool (Hbd.out HA.out).symm, hb⟩
        ·cases F
         all_goals
          go_wp2
          go_roundw
          case rel => exact ⟨j + 1, by omega, by go_num, by rw [Hfi.out, Hnz.out]; simp, hb, HP1, Lib.hid (fun i h => by
           by_cases e : i = j
           ·subst e; exact HA.out
           ·exact Hgj.out i (by omega))⟩
          case measure => simp [intOf]; omega
    ·obtain rfl : j = k := by omega
     have Hsum := Lib.hid (fullA_succ ps j)
     go_wp2
     go_roundw
     case rel => exact ⟨j + 1, by omega, by go_num, by rw [Hsum.out], hb, Lib.hid (fun i q h1 h2 => by
      by_cases e : i = j
      ·subst e; exact Hgj.out q h2
      ·exact Hgk.out i q (by omega) h2)⟩
     case measure => simp [intOf]; omega
  ·obtain rfl : k = n := by omega
   have Hg := Lib.hid (Hgood.out (fun i q h1 h2 => Hgk.out i q (by omega) h2))
   clear hx
   go_wp2
   go_ret
   exact ⟨ret_bool (by rw [Hg.out, hn]), hbk⟩
end
section
open Go.RowKit Go.Shelf
attribute [local go_sem] Ext.cell Ext.frozen
def firstErr : List Q4 → Int
 | [] => 0
 | p :: ps => if planeErr p = 0 then firstErr ps else planeErr p
theorem firstErr_hit (ps : List Q4) (k : Nat) (hk : k < ps.length) (h : ∀ i (hi : i < ps.length), i < k → planeErr ps[i] = 0) (hx : planeErr ps[k] ≠ 0) : firstErr ps = planeErr ps[k] := by
 induction ps generalizing k with
 | nil => simp at hk
 | cons p ps ih =>
  cases k with
  | zero => simp only [List.getElem_cons_zero] at hx; simp [firstErr, hx]
  | succ k =>
   have h0 := h 0 (by simp) (by omega)
   simp only [List.getElem_cons_zero] at h0
   simp only [firstErr, h0, if_true, List.getElem_cons_succ]
   exact ih k (by simpa using hk) (fun i hi hik => by have := h (i + 1) (by simpa using hi) (by omega); simpa using this) (by simpa using hx)
theorem firstErr_none (ps : List Q4) (h : ∀ i (hi : i < ps.length), planeErr ps[i] = 0) : firstErr ps = 0 := by
 induction ps with
 | nil => rfl
 | cons p ps ih =>
  have h0 := h 0 (by simp)
  simp only [List.getElem_cons_zero] at h0
  simp only [firstErr, h0, if_true]
  exact ih (fun i hi => by have := h (i + 1) (by simpa using hi); simpa using this)
theorem planeErr_zero (p : Q4) (h : planeErr p = 0) : okPl0 p := by
 unfold planeErr at h
 split at h
 ·cases h
 ·rename_i h1
  split at h
  ·cases h
  ·rename_i h2
   unfold okPl0 okPl
   omega
def roomB (cs : List Q4) : Bool := !(cs.any fun c => !inRm c)
def cellErr (ps : List Q4) : Int :=
 if 16 < ps.length then 8 else if firstErr ps ≠ 0 then firstErr ps else if boundedB ps = false then 14 else
 if solidB ps (cornersOf ps) = false then 13 else if roomB (cornersOf ps) = false then 2 else 0
theorem compact_mem {l : List Q4} {x : Q4} (h : x ∈ Lib.compact l) : x ∈ l := by
 simp only [Lib.compact, Lib.compactUpTo, List.mem_map, List.mem_filter, List.mem_range] at h
 obtain ⟨i, ⟨hi, _⟩, rfl⟩ := h
 rw [getElem!_pos l.toArray i (by simpa using hi)]
 simp
theorem corners_mem {ps : List Q4} {c : Q4} (h : c ∈ cornersOf ps) : c ∈ raw ps ps.length := by
 have := compact_mem h
 simpa [sortP] using this
theorem corners_ok (ps : List Q4) (h : ∀ p ∈ ps, okPl p) : ∀ c ∈ cornersOf ps, nrmCo c := fun c hc => raw_nrm ps h ps.length (Nat.le_refl _) c (corners_mem hc)
theorem compact_len (l : List Q4) : (Lib.compact l).length ≤ l.length := compact_len_le _ _
theorem corners_len (ps : List Q4) (h : ps.length ≤ 64) : (cornersOf ps).length ≤ 262144 := by
 have h1 := compact_len (sortP (raw ps ps.length))
 rw [sortP_len] at h1
 have h2 := raw_len ps ps.length h
 unfold cornersOf
 omega
theorem read_closure (c : Q4) (w : World) (hc : okCo c) : Calls Tryz.prog 161 #[v4 c] w (Ret w (.bool (!inRm c))) := by
 obtain ⟨x, y, z, q⟩ := c
 simp only [okCo] at hc
 have hs := fun W => Lib.hid (inRoom_any x y z q W (by omega))
 generalize inRm (x, y, z, q) = r at *
 go_enter Tryz.func161, Tryz.ntmps161
 go_wp2_with fail
 refine ((hs _).out).mono ?_
 rintro e w1 ⟨rfl, hb1⟩
 go_wp2
 go_ret
 exact ⟨rfl, below_trans bel hb1⟩
theorem eg_read1 : ∀ args w, (callFunc 161 args).run Tryz.prog w = .ok (.enter 161 args) w := enters_of Tryz.func161 (by kernel_rfl) rfl
theorem read_pred (c : Q4) (w : World) (hc : okCo c) : PredIn Tryz.prog 161 #[] w (v4 c) (!inRm c) := fun _ _ => read_closure c _ hc
theorem Q4s.far {w : World} {v : Value} {cs : List Q4} (h : Q4s w v cs) (g i : Nat) (u : Value) (hg : ∀ j k x, w.cell? ⟨g, j, none⟩ ≠ some (.int k x)) : Q4s (w.setCell ⟨g, i, none⟩ u) v cs := by
 obtain ⟨a, n, c, rfl, hn, hc, hx⟩ := h
 refine ⟨a, n, c, rfl, hn, hc, fun h0 => ?_⟩
 obtain ⟨b, off, rfl, hi⟩ := hx h0
 refine ⟨b, off, rfl, fun j hj => ?_⟩
 obtain ⟨h1, h2, h3, h4⟩ := hi j hj
 have hne : g ≠ b := by rintro rfl; exact hg _ _ _ h1
 have key : ∀ o, (w.setCell ⟨g, i, none⟩ u).cell? ⟨b, o, none⟩ = w.cell? ⟨b, o, none⟩ := fun o => World.cell?_setCell_other w ⟨g, i, none⟩ ⟨b, o, none⟩ u (fun e => by cases e; exact hne rfl)
 exact ⟨(key _).trans h1, (key _).trans h2, (key _).trans h3, (key _).trans h4⟩
theorem Q4s.set2 {w : World} {v : Value} {cs : List Q4} {g : Nat} {T : TypeId} {a1 a2 : Option Addr} {n1 c1 n2 c2 : Nat} (h : Q4s w v cs) (hg : w.heap[g]? = some (.cells #[.slice a1 n1 c1, .slice a2 n2 c2] T (0, 0))) (x y : Option Addr × Nat × Nat) :
  Q4s ((w.setCell ⟨g, 0, none⟩ (.slice x.1 x.2.1 x.2.2)).setCell ⟨g, 1, none⟩ (.slice y.1 y.2.1 y.2.2)) v cs := by
 have key : ∀ (w : World) (cs : Array Value), w.heap[g]? = some (.cells cs T (0, 0)) → (∀ z ∈ cs, ∃ a n c, z = .slice a n c) → ∀ j k x, w.cell? ⟨g, j, none⟩ ≠ some (.int k x) := fun w cs hw hz j k x e => by
  rw [blk_cell hw j] at e
  obtain ⟨_, _, _, hh⟩ := hz _ (Array.mem_of_getElem? e)
  cases hh
 refine (h.far g 0 _ (key w _ hg (fun z hz => ?_))).far g 1 _ (key _ _ (blk_set hg 0 _) (fun z hz => ?_))
 ·simp at hz; rcases hz with rfl | rfl <;> exact ⟨_, _, _, rfl⟩
 ·simp at hz; rcases hz with rfl | rfl <;> exact ⟨_, _, _, rfl⟩
def ReadPost (ps : List Q4) (pv : Value) (w : World) (e : Ending) (w' : World) : Prop :=
 Below w.heap.size w w' ∧ ((cellErr ps = 0 ∧ ∃ cv, e = .returned (.tuple #[.agg #[pv, cv], .int .i64 0]) ∧ Q4s w' cv (cornersOf ps)) ∨
  (cellErr ps ≠ 0 ∧ e = .returned (.tuple #[.agg #[.slice none 0 0, .slice none 0 0], .int .i64 (cellErr ps)])))
theorem ReadPost.err {ps : List Q4} {pv : Value} {w w' : World} {n : Int} (hb : Below w.heap.size w w') (hn : cellErr ps = n) (h0 : n ≠ 0) : ReadPost ps pv w (.returned (.tuple #[.agg #[.slice none 0 0, .slice none 0 0], .int .i64 n])) w' :=
 ⟨hb, .inr ⟨by rw [hn]; exact h0, by rw [hn]⟩⟩
set_option maxRecDepth 100000 in
theorem read_any (ps : List Q4) (pv : Value) (w : World) (hl : ps.length ≤ 1000000000) (hpv : Q4s w pv ps) :
  Calls Tryz.prog 120 #[.agg #[pv]] w (ReadPost ps pv w) := by
 have HPV := Lib.hid hpv
 obtain ⟨a, n, cc, rfl, hn, hnc, hx⟩ := hpv
 by_cases h16 : 16 < n
 ·have He : Hid (cellErr ps = 8) := Lib.hid (by unfold cellErr; rw [if_pos (by omega)])
  clear hx
  go_enter Tryz.func120, Tryz.ntmps120
  go_wp2
  refine bodyPost_ret (v := .tuple #[.agg #[.slice none 0 0, .slice none 0 0], .int .i64 8]) (by simp [results, Tryz.results120, go_sem]) rfl (ReadPost.err ?_ He.out (by decide))
  exact bel
 ·have Hc0 : Hid (∀ x, firstErr ps = x → x ≠ 0 → cellErr ps = x) := Lib.hid (fun x h h0 => by unfold cellErr; rw [if_neg (by omega), if_pos (by rw [h]; exact h0), h])
  have Hc1 : Hid (firstErr ps = 0 → boundedB ps = false → cellErr ps = 14) := Lib.hid (fun h h1 => by unfold cellErr; rw [if_neg (by omega), if_neg (by simp [h]), if_pos h1])
  have Hc2 : Hid (firstErr ps = 0 → boundedB ps = true → solidB ps (cornersOf ps) = false → cellErr ps = 13) := Lib.hid (fun h h1 h2 => by unfold cellErr; rw [if_neg (by omega), if_neg (by simp [h]), if_neg (by simp [h1]), if_pos h2])
  have Hc3 : Hid (firstErr ps = 0 → boundedB ps = true → solidB ps (cornersOf ps) = true → roomB (cornersOf ps) = false → cellErr ps = 2) := Lib.hid (fun h h1 h2 h3 => by unfold cellErr; rw [if_neg (by omega), if_neg (by simp [h]), if_neg (by simp [h1]), if_neg (by simp [h2]), if_pos h3])
  have Hc4 : Hid (firstErr ps = 0 → boundedB ps = true → solidB ps (cornersOf ps) = true → roomB (cornersOf ps) = true → cellErr ps = 0) := Lib.hid (fun h h1 h2 h3 => by unfold cellErr; rw [if_neg (by omega), if_neg (by simp [h]), if_neg (by simp [h1]), if_neg (by simp [h2]), if_neg (by simp [h3])])
  have Hhit := Lib.hid (firstErr_hit ps)
  have Hnone := Lib.hid (firstErr_none ps)
  go_enter Tryz.func120, Tryz.ntmps120
  go_wp2
  go_loopw [16] (fun i wr => ∃ k : Nat, k ≤ n ∧ i = .int .i64 k ∧ Below w.heap.size w wr ∧ Hid (wr.heap[w.heap.size]? = some (.cells #[.slice a n cc] 67 (0, 0))) ∧ Hid (wr.heap[w.heap.size + 1]? = some (.cells #[.slice none 0 0, .slice none 0 0] 160 (0, 0))) ∧ Hid (∀ i (h : i < ps.length), i < k → planeErr ps[i] = 0)) (fun i _ => n - (intOf i).toNat)
  case atStart => exact ⟨0, by omega, rfl, bel, Lib.hid ((heap_old (by simp)).trans (heap_new rfl)), Lib.hid (heap_new (by simp)), Lib.hid (fun i _ h => by omega)⟩
  case round =>
   obtain ⟨k, hk, rfl, hb, HB, HC, Hz⟩ := hrel
   have zC := blk_lt HC.out
   have r0 : wr.cell? ⟨w.heap.size + 1, 0, none⟩ = some (.slice none 0 0) := (blk_cell HC.out 0).trans rfl
   have r1 : wr.cell? ⟨w.heap.size + 1, 1, none⟩ = some (.slice none 0 0) := (blk_cell HC.out 1).trans rfl
   by_cases hlt : k < n
   ·obtain ⟨b, off, rfl, hi⟩ := hx (by omega)
    obtain ⟨c0, c1, c2, c3⟩ := (hi.below hb) k (by omega)
    have Hhk := Lib.hid (Hhit.out k (by omega) Hz.out)
    obtain ⟨p, Hp⟩ : ∃ p, Hid (ps[k] = p) := ⟨_, Lib.hid rfl⟩
    rw [Hp.out] at c0 c1 c2 c3 Hhk
    have hs := fun W => Lib.hid (CheckPlane_any p.1 p.2.1 p.2.2.1 p.2.2.2 W)
    have Hpe : Hid (planeErr (p.1, p.2.1, p.2.2.1, p.2.2.2) = planeErr p) := Lib.hid rfl
    rw [Hpe.out] at hs
    clear hx hi
    by_cases hpe : planeErr p = 0
    ·rw [hpe] at hs
     have He := Lib.hid hpe
     clear hpe
     go_wp2_with fail
     refine ((hs _).out).mono ?_
     rintro e w1 ⟨rfl, hb1⟩
     clear hs
     go_wp2
     go_roundw
     case rel => exact ⟨k + 1, by omega, by go_num, below_trans hb (below_trans bel hb1), Lib.hid ((hb1.block _ (by simp; omega)).trans ((heap_old (by omega)).trans HB.out)), Lib.hid ((hb1.block _ (by simp; omega)).trans ((heap_old zC).trans HC.out)), Lib.hid (fun i hi hik => by
      by_cases e : i = k
      ·subst e; rw [Hp.out]; exact He.out
      ·exact Hz.out i hi (by omega))⟩
     case measure => simp [intOf]; omega
    ·have Hce := Lib.hid (Hc0.out _ (Hhk.out hpe) hpe)
     have hne : (planeErr p != 0) = true := by simpa using hpe
     go_wp2_with fail
     refine ((hs _).out).mono ?_
     rintro e w1 ⟨rfl, hb1⟩
     have HC1 : w1.heap[w.heap.size + 1]? = some (.cells #[.slice none 0 0, .slice none 0 0] 160 (0, 0)) := (hb1.block _ (by simp; omega)).trans ((heap_old zC).trans HC.out)
     have q0 : w1.cell? ⟨w.heap.size + 1, 0, none⟩ = some (.slice none 0 0) := (blk_cell HC1 0).trans rfl
     have q1 : w1.cell? ⟨w.heap.size + 1, 1, none⟩ = some (.slice none 0 0) := (blk_cell HC1 1).trans rfl
     have f0 := blk_free HC1
     have hbw1 : Below w.heap.size w w1 := below_trans hb (below_trans bel hb1)
     clear hs HC1
     generalize planeErr p = pe at *
     go_wp2
     refine bodyPost_ret (v := .tuple #[.agg #[.slice none 0 0, .slice none 0 0], .int .i64 pe]) (by simp [results, Tryz.results120, go_sem, q0, q1]) rfl (ReadPost.err ?_ Hce.out hpe)
     exact (hbw1.setCell (by simp) _).setCell (by simp) _
   ·obtain rfl : k = n := by omega
    have hall : ∀ i (h : i < ps.length), planeErr ps[i] = 0 := fun i hi => Hz.out i hi (by omega)
    have HF := Lib.hid (Hnone.out hall)
    have Hok0 : Hid (∀ p ∈ ps, okPl0 p) := Lib.hid (fun p hp => by obtain ⟨i, hi, rfl⟩ := List.getElem_of_mem hp; exact planeErr_zero _ (hall i hi))
    have Hok : Hid (∀ p ∈ ps, okPl p) := Lib.hid (fun p hp => (Hok0.out p hp).1)
    have Hcok := Lib.hid (corners_ok ps Hok.out)
    have Hclen := Lib.hid (corners_len ps (by omega))
    have b0 : wr.cell? ⟨w.heap.size, 0, none⟩ = some (.slice a k cc) := (blk_cell HB.out 0).trans rfl
    clear hall hx
    have hbd := fun W hW => Lib.hid (bounded_any ps (.slice a k cc) W Hok.out (by omega) hW)
    cases hbb : boundedB ps with
    | false =>
     rw [hbb] at hbd
     have He := Lib.hid (Hc1.out HF.out hbb)
     clear hbb
     go_wp2_with fail
     refine ((hbd _ (HPV.out.below hb)).out).mono ?_
     rintro e w1 ⟨rfl, hb1⟩
     have HC1 : w1.heap[w.heap.size + 1]? = some (.cells #[.slice none 0 0, .slice none 0 0] 160 (0, 0)) := (hb1.block _ zC).trans HC.out
     have q0 : w1.cell? ⟨w.heap.size + 1, 0, none⟩ = some (.slice none 0 0) := (blk_cell HC1 0).trans rfl
     have q1 : w1.cell? ⟨w.heap.size + 1, 1, none⟩ = some (.slice none 0 0) := (blk_cell HC1 1).trans rfl
     have f0 := blk_free HC1
     have hbw1 : Below w.heap.size w w1 := below_trans hb hb1
     clear hbd HC1
     go_wp2
     refine bodyPost_ret (v := .tuple #[.agg #[.slice none 0 0, .slice none 0 0], .int .i64 14]) (by simp [results, Tryz.results120, go_sem, q0, q1]) rfl (ReadPost.err ?_ He.out (by decide))
     exact (hbw1.setCell (by simp) _).setCell (by simp) _
    | true =>
     rw [hbb] at hbd
     have HBB := Lib.hid hbb
     clear hbb
     go_wp2_with fail
     refine ((hbd _ (HPV.out.below hb)).out).mono ?_
     rintro e w1 ⟨rfl, hb1⟩
     have HC1 : Hid (w1.heap[w.heap.size + 1]? = some (.cells #[.slice none 0 0, .slice none 0 0] 160 (0, 0))) := Lib.hid ((hb1.block _ zC).trans HC.out)
     have HB1 : Hid (w1.heap[w.heap.size]? = some (.cells #[.slice a k cc] 67 (0, 0))) := Lib.hid ((hb1.block _ (by omega)).trans HB.out)
     have hbw1 : Below w.heap.size w w1 := below_trans hb hb1
     have b1 : w1.cell? ⟨w.heap.size, 0, none⟩ = some (.slice a k cc) := (blk_cell HB1.out 0).trans rfl
     have zC1 := blk_lt HC1.out
     clear hbd HC HB b0 r0 r1 hb hb1 zC
     go_wp2_with fail
     refine (bodyOf_any ps (.slice a k cc) w1 Hok.out (by omega) (HPV.out.below hbw1)).mono ?_
     rintro e w2 ⟨cv, rfl, hb2, hown2⟩
     have HQ := Lib.hid (q4s_own hown2)
     have HC2 : Hid (w2.heap[w.heap.size + 1]? = some (.cells #[.slice none 0 0, .slice none 0 0] 160 (0, 0))) := Lib.hid ((hb2.block _ zC1).trans HC1.out)
     have hbw2 : Below w.heap.size w w2 := below_trans hbw1 hb2
     have zC2 := blk_lt HC2.out
     have Hcvs : ∃ a m c, cv = .slice a m c := by obtain ⟨a, m, c, h, _⟩ := HQ.out; exact ⟨a, m, c, h⟩
     obtain ⟨ca, cm, cc2, rfl⟩ := Hcvs
     clear hown2 HC1 HB1 hbw1 b1 zC1 hb2
     obtain ⟨W, HW⟩ : ∃ W, Hid (w2.alloc (.cells #[.slice a k cc, .slice ca cm cc2] 160) = W) := ⟨_, Lib.hid rfl⟩
     have hbW : Below w2.heap.size w2 W := by rw [← HW.out]; exact bel
     have hs := Lib.hid (solidly_any ps (cornersOf ps) (.slice a k cc) (.slice ca cm cc2) W Hok.out (fun c hc => (Hcok.out c hc).1) (by omega) (by have := Hclen.out; omega) ((HPV.out.below hbw2).below hbW) (HQ.out.below hbW))
     rw [← HW.out] at hs
     go_wp2_with fail
     refine (hs.out).mono ?_
     rintro e w3 ⟨rfl, hb3⟩
     have HC3 : Hid (w3.heap[w.heap.size + 1]? = some (.cells #[.slice none 0 0, .slice none 0 0] 160 (0, 0))) := Lib.hid ((hb3.block _ (by simp; omega)).trans ((heap_old zC2).trans HC2.out))
     have HD3 : Hid (w3.heap[w2.heap.size]? = some (.cells #[.slice a k cc, .slice ca cm cc2] 160 (0, 0))) := Lib.hid ((hb3.block _ (by simp)).trans (heap_new rfl))
     have hbw3 : Below w2.heap.size w2 w3 := below_trans bel hb3
     have hbw3' : Below w.heap.size w w3 := below_trans hbw2 hbw3
     have HQ3 := Lib.hid (HQ.out.below hbw3)
     have q0 : w3.cell? ⟨w.heap.size + 1, 0, none⟩ = some (.slice none 0 0) := (blk_cell HC3.out 0).trans rfl
     have q1 : w3.cell? ⟨w.heap.size + 1, 1, none⟩ = some (.slice none 0 0) := (blk_cell HC3.out 1).trans rfl
     have f0 := blk_free HC3.out
     clear hs hbW HW HC2 hb3 hbw2 zC2 HQ hbw3
     cases hsb : solidB ps (cornersOf ps) with
     | false =>
      have He := Lib.hid (Hc2.out HF.out HBB.out hsb)
      clear hsb
      go_wp2
      refine bodyPost_ret (v := .tuple #[.agg #[.slice none 0 0, .slice none 0 0], .int .i64 13]) (by simp [results, Tryz.results120, go_sem, q0, q1]) rfl (ReadPost.err ?_ He.out (by decide))
      exact (hbw3'.setCell (by simp) _).setCell (by simp) _
     | true =>
      have HSB := Lib.hid hsb
      clear hsb
      have d0 : w3.cell? ⟨w2.heap.size, 0, none⟩ = some (.slice a k cc) := (blk_cell HD3.out 0).trans rfl
      have d1 : w3.cell? ⟨w2.heap.size, 1, none⟩ = some (.slice ca cm cc2) := (blk_cell HD3.out 1).trans rfl
      have hcf := Lib.hid (containsFunc_corner (.slice ca cm cc2) (cornersOf ps) (fun c => !inRm c) _ _ w3 HQ3.out (by have := Hclen.out; omega) eg_read1 (fun c hc => read_pred c w3 (Hcok.out c hc).1))
      have hany : ((cornersOf ps).any fun c => !inRm c) = !roomB (cornersOf ps) := by simp [roomB]
      rw [hany] at hcf
      clear hany
      cases hrb : roomB (cornersOf ps) with
      | false =>
       have He := Lib.hid (Hc3.out HF.out HBB.out HSB.out hrb)
       rw [hrb] at hcf
       clear hrb
       go_wp2_with fail
       refine (hcf.out).mono ?_
       rintro e w4 ⟨rfl, hb4⟩
       have HC4 := (hb4.block _ (blk_lt HC3.out)).trans HC3.out
       have s0 : w4.cell? ⟨w.heap.size + 1, 0, none⟩ = some (.slice none 0 0) := (blk_cell HC4 0).trans rfl
       have s1 : w4.cell? ⟨w.heap.size + 1, 1, none⟩ = some (.slice none 0 0) := (blk_cell HC4 1).trans rfl
       have f4 := blk_free HC4
       clear HC4 q0 q1 f0 d0 d1 hcf
       go_wp2
       refine bodyPost_ret (v := .tuple #[.agg #[.slice none 0 0, .slice none 0 0], .int .i64 2]) (by simp [results, Tryz.results120, go_sem, s0, s1]) rfl (ReadPost.err ?_ He.out (by decide))
       exact ((below_trans hbw3' hb4).setCell (by simp) _).setCell (by simp) _
      | true =>
       have He := Lib.hid (Hc4.out HF.out HBB.out HSB.out hrb)
       rw [hrb] at hcf
       clear hrb
       go_wp2_with fail
       refine (hcf.out).mono ?_
       rintro e w4 ⟨rfl, hb4⟩
       have HC4 := Lib.hid ((hb4.block _ (blk_lt HC3.out)).trans HC3.out)
       have HD4 := (hb4.block _ (blk_lt HD3.out)).trans HD3.out
       have s0 : w4.cell? ⟨w.heap.size + 1, 0, none⟩ = some (.slice none 0 0) := (blk_cell HC4.out 0).trans rfl
       have s1 : w4.cell? ⟨w.heap.size + 1, 1, none⟩ = some (.slice none 0 0) := (blk_cell HC4.out 1).trans rfl
       have t0 : w4.cell? ⟨w2.heap.size, 0, none⟩ = some (.slice a k cc) := (blk_cell HD4 0).trans rfl
       have t1 : w4.cell? ⟨w2.heap.size, 1, none⟩ = some (.slice ca cm cc2) := (blk_cell HD4 1).trans rfl
       have f4 := blk_free HC4.out
       have HQ4 := Lib.hid (HQ3.out.below hb4)
       clear HD4 q0 q1 f0 d0 d1 hcf
       go_wp2
       refine bodyPost_ret (v := .tuple #[.agg #[.slice a k cc, .slice ca cm cc2], .int .i64 0]) (by simp [results, Tryz.results120, go_sem, s0, s1]) rfl ⟨((below_trans hbw3' hb4).setCell (by simp) _).setCell (by simp) _, .inl ⟨He.out, _, rfl, ?_⟩⟩
       exact HQ4.out.set2 HC4.out (a, k, cc) (ca, cm, cc2)
end
section
open Go.RowKit Go.Shelf
attribute [local go_sem] Ext.cell Ext.frozen
set_option maxRecDepth 100000
theorem cellErr_zero {ps : List Q4} (h : cellErr ps = 0) : ps.length ≤ 16 ∧ firstErr ps = 0 := by
 unfold cellErr at h
 split at h
 ·cases h
 ·rename_i h1
  split at h
  ·rename_i h2; exact absurd h h2
  ·rename_i h2; exact ⟨by omega, by simpa using h2⟩
theorem firstErr_all {ps : List Q4} (h : firstErr ps = 0) : ∀ p ∈ ps, okPl0 p := by
 induction ps with
 | nil => simp
 | cons q ps ih =>
  simp only [firstErr] at h
  split at h
  ·rename_i h0
   intro p hp
   rcases List.mem_cons.1 hp with rfl | hp
   ·exact planeErr_zero _ h0
   ·exact ih h p hp
  ·rename_i h0; exact absurd h h0
theorem cellErr_ok {ps : List Q4} (h : cellErr ps = 0) : ∀ p ∈ ps, okPl0 p := firstErr_all (cellErr_zero h).2
theorem own_mono {w : World} {base base' : Nat} {e : TypeId} {size n : Nat} {v : Value} {xs : List Value} (h : w.ownsRow base e size v n xs) (hb : base' ≤ base) : w.ownsRow base' e size v n xs :=
 ⟨h.1, h.2.imp id (fun ⟨g, cap, cur, hv, hg, r⟩ => ⟨g, cap, cur, hv, Nat.le_trans hb hg, r⟩)⟩
def normC (ps : List Q4) : List Q4 := normF ps (cornersOf ps)
def NormPost (ps : List Q4) (w : World) (e : Ending) (w' : World) : Prop :=
 Below w.heap.size w w' ∧ ((cellErr ps = 0 ∧ ∃ v, e = .returned (.tuple #[.agg #[v], .int .i64 0]) ∧ w'.ownsRow w.heap.size 69 4 v (normC ps).length ((normC ps).flatMap enc4)) ∨
  (cellErr ps ≠ 0 ∧ e = .returned (.tuple #[.agg #[.slice none 0 0], .int .i64 (cellErr ps)])))
theorem Normal_any (ps : List Q4) (pv : Value) (w : World) (hl : ps.length ≤ 1000000000) (hpv : Q4s w pv ps) :
  Calls Tryz.prog 73 #[.agg #[pv]] w (NormPost ps w) := by
 have HPV := Lib.hid hpv
 obtain ⟨a, n, cc, rfl, hn, hnc, hx⟩ := hpv
 clear hx
 obtain ⟨W, HW⟩ : ∃ W, Hid ((w.alloc (.cells #[.slice a n cc] 67)).alloc (.cells #[.slice none 0 0] 67) = W) := ⟨_, Lib.hid rfl⟩
 have hbW : Below w.heap.size w W := by rw [← HW.out]; exact bel
 have hrd := Lib.hid (read_any ps (.slice a n cc) W hl (HPV.out.below hbW))
 have HC : Hid (W.heap[w.heap.size + 1]? = some (.cells #[.slice none 0 0] 67 (0, 0))) := by rw [← HW.out]; exact Lib.hid (heap_new (by simp))
 have zC := blk_lt HC.out
 go_enter Tryz.func73, Tryz.ntmps73
 go_wp2_with fail
 rw [HW.out]
 refine (hrd.out).mono ?_
 rintro e w1 ⟨hb1, ⟨h0, cv, rfl, hq⟩ | ⟨h0, rfl⟩⟩
 ·have HQ := Lib.hid hq
  have HE := Lib.hid h0
  have Hok := Lib.hid (cellErr_ok h0)
  have Hlen := Lib.hid (cellErr_zero h0).1
  have Hcok := Lib.hid (corners_ok ps (fun p hp => (Hok.out p hp).1))
  have Hclen := Lib.hid (corners_len ps (by have := Hlen.out; omega))
  obtain ⟨ca, cm, cc2, rfl, _⟩ := hq
  have HC1 : Hid (w1.heap[w.heap.size + 1]? = some (.cells #[.slice none 0 0] 67 (0, 0))) := Lib.hid ((hb1.block _ zC).trans HC.out)
  have hbw1 : Below w.heap.size w w1 := below_trans hbW hb1
  have zC1 := blk_lt HC1.out
  obtain ⟨W2, HW2⟩ : ∃ W, Hid (w1.alloc (.cells #[.slice a n cc, .slice ca cm cc2] 160) = W) := ⟨_, Lib.hid rfl⟩
  have hbW2 : Below w1.heap.size w1 W2 := by rw [← HW2.out]; exact bel
  have hnf := Lib.hid (normalForm_any ps (cornersOf ps) (.slice a n cc) (.slice ca cm cc2) W2 Hok.out (fun c hc => (Hcok.out c hc).1) (by have := Hlen.out; omega) (by have := Hclen.out; omega) ((HPV.out.below hbw1).below hbW2) (HQ.out.below hbW2))
  rw [← HW2.out] at hnf
  clear hrd HC zC hb1 h0 hbW HW
  go_wp2_with fail
  refine (hnf.out).mono ?_
  rintro e w2 ⟨v, rfl, hb2, hown2⟩
  have HQ2 := Lib.hid (own_mono hown2 (base' := w.heap.size) (by have := hbw1.size; simp; omega))
  have hvs : ∃ a m c, v = .slice a m c := by obtain ⟨a, m, c, h, _⟩ := q4s_own hown2; exact ⟨a, m, c, h⟩
  obtain ⟨va, vm, vc, rfl⟩ := hvs
  have HC2 : Hid (w2.heap[w.heap.size + 1]? = some (.cells #[.slice none 0 0] 67 (0, 0))) := Lib.hid ((hb2.block _ (by simp; omega)).trans ((heap_old zC1).trans HC1.out))
  have s0 : w2.cell? ⟨w.heap.size + 1, 0, none⟩ = some (.slice none 0 0) := (blk_cell HC2.out 0).trans rfl
  have f2 := blk_free HC2.out
  have hbw2 : Below w.heap.size w w2 := below_trans hbw1 (below_trans bel hb2)
  clear hnf hown2 hbW2 HW2 hb2
  go_wp2
  refine bodyPost_ret (v := .tuple #[.agg #[.slice va vm vc], .int .i64 0]) (by simp [results, Tryz.results73, go_sem, s0]) rfl ⟨hbw2.setCell (by simp) _, .inl ⟨HE.out, _, rfl, ?_⟩⟩
  exact own_setCell_far HQ2.out _ _ (fun e => own_blk_ne HQ2.out HC2.out (by decide) e.symm)
 ·have HC1 : Hid (w1.heap[w.heap.size + 1]? = some (.cells #[.slice none 0 0] 67 (0, 0))) := Lib.hid ((hb1.block _ zC).trans HC.out)
  have hbw1 : Below w.heap.size w w1 := below_trans hbW hb1
  have s0 : w1.cell? ⟨w.heap.size + 1, 0, none⟩ = some (.slice none 0 0) := (blk_cell HC1.out 0).trans rfl
  have f2 := blk_free HC1.out
  have zC1 := blk_lt HC1.out
  have hne : (cellErr ps != 0) = true := by simpa using h0
  clear hrd HC zC hb1 hbW HW
  have H0 := Lib.hid h0
  clear h0
  obtain ⟨ce, Hce⟩ : ∃ ce, Hid (cellErr ps = ce) := ⟨_, Lib.hid rfl⟩
  rw [Hce.out] at hne
  rw [Hce.out]
  go_wp2
  refine bodyPost_ret (v := .tuple #[.agg #[.slice none 0 0], .int .i64 ce]) (by simp [results, Tryz.results73, go_sem, s0, zC1]) rfl ⟨?_, .inr ⟨H0.out, by rw [Hce.out]⟩⟩
  first | exact (hbw1.alloc (by omega) _).setCell (by simp) _ | exact (hbw1.alloc (by omega) _).setCell (by omega) _ | exact (hbw1.setCell (by simp) _).alloc (by simp; omega) _ | (refine Below.alloc ?_ (by simp; omega) _; exact hbw1.setCell (by simp) _)
end
section
open Go.RowKit
def slk (p : Q4) (x : Q3) (W : Int) : Int := p.2.2.2 * W - dotP (nrm p) x
theorem min_ratio {α : Type} (s t : α → Int) : ∀ ps : List α, (∃ p ∈ ps, 0 < t p) → ∃ p ∈ ps, 0 < t p ∧ ∀ q ∈ ps, 0 < t q → s p * t q ≤ s q * t p
 | [], h => by obtain ⟨p, hp, _⟩ := h; cases hp
 | a :: l, h => by
  by_cases hl : ∃ p ∈ l, 0 < t p
  ·obtain ⟨p, hp, ht, hm⟩ := min_ratio s t l hl
   by_cases ha : 0 < t a ∧ s a * t p ≤ s p * t a
   ·refine ⟨a, by simp, ha.1, fun q hq h0 => ?_⟩
    rcases List.mem_cons.1 hq with rfl | hq
    ·exact Int.le_refl _
    ·have h1 := hm q hq h0
     have h2 : s a * t p * t q ≤ s p * t a * t q := Int.mul_le_mul_of_nonneg_right ha.2 (by omega)
     have h3 : s p * t q * t a ≤ s q * t p * t a := Int.mul_le_mul_of_nonneg_right h1 (by omega)
     have e1 : s a * t p * t q = s a * t q * t p := by grind
     have e2 : s p * t a * t q = s p * t q * t a := by grind
     have e3 : s q * t p * t a = s q * t a * t p := by grind
     exact Int.le_of_mul_le_mul_right (by omega : s a * t q * t p ≤ s q * t a * t p) ht
   ·refine ⟨p, by simp [hp], ht, fun q hq h0 => ?_⟩
    rcases List.mem_cons.1 hq with rfl | hq
    ·have : ¬ (s q * t p ≤ s p * t q) := fun h => ha ⟨h0, h⟩
     omega
    ·exact hm q hq h0
  ·obtain ⟨p, hp, ht⟩ := h
   rcases List.mem_cons.1 hp with rfl | hp
   ·refine ⟨p, by simp, ht, fun q hq h0 => ?_⟩
    rcases List.mem_cons.1 hq with rfl | hq
    ·exact Int.le_refl _
    ·exact absurd ⟨q, hq, h0⟩ hl
   ·exact absurd ⟨p, hp, ht⟩ hl
def mv (x d : Q3) (t s : Int) : Q3 := (t * x.1 + s * d.1, t * x.2.1 + s * d.2.1, t * x.2.2 + s * d.2.2)
theorem dot_mv (n x d : Q3) (t s : Int) : dotP n (mv x d t s) = t * dotP n x + s * dotP n d := by unfold dotP mv; grind
theorem slk_mv (q : Q4) (x d : Q3) (W t s : Int) : slk q (mv x d t s) (t * W) = t * slk q x W - s * dotP (nrm q) d := by unfold slk; rw [dot_mv]; grind
theorem move (ps : List Q4) (x d : Q3) (W : Int) (hW : 0 < W) (hin : ∀ p ∈ ps, 0 ≤ slk p x W) (hd : ∃ p ∈ ps, 0 < dotP (nrm p) d) :
  ∃ p ∈ ps, ∃ x' W', 0 < W' ∧ (∀ q ∈ ps, 0 ≤ slk q x' W') ∧ slk p x' W' = 0 ∧ 0 < dotP (nrm p) d ∧ (∀ q, dotP (nrm q) d = 0 → slk q x W = 0 → slk q x' W' = 0) ∧ ∀ f, dotP f d ≤ 0 → dotP f x' * W ≤ dotP f x * W' := by
 obtain ⟨p, hp, ht, hm⟩ := min_ratio (fun p => slk p x W) (fun p => dotP (nrm p) d) ps hd
 have hs := hin p hp
 refine ⟨p, hp, mv x d (dotP (nrm p) d) (slk p x W), dotP (nrm p) d * W, Int.mul_pos ht hW, fun q hq => ?_, ?_, ht, fun q h0 h1 => ?_, fun f hf => ?_⟩
 ·rw [slk_mv]
  by_cases h0 : 0 < dotP (nrm q) d
  ·have := hm q hq h0
   have e : dotP (nrm p) d * slk q x W = slk q x W * dotP (nrm p) d := Int.mul_comm _ _
   omega
  ·have h1 : 0 ≤ dotP (nrm p) d * slk q x W := Int.mul_nonneg (by omega) (hin q hq)
   have h2 : 0 ≤ slk p x W * (-(dotP (nrm q) d)) := Int.mul_nonneg hs (by omega)
   rw [Int.mul_neg] at h2
   omega
 ·rw [slk_mv, Int.mul_comm]; omega
 ·rw [slk_mv, h0, h1]; omega
 ·rw [dot_mv, Int.add_mul]
  have h2 : 0 ≤ slk p x W * (-(dotP f d)) * W := Int.mul_nonneg (Int.mul_nonneg hs (by omega)) (by omega)
  have e : slk p x W * (-(dotP f d)) * W = -(slk p x W * dotP f d * W) := by grind
  have e2 : dotP (nrm p) d * dotP f x * W = dotP f x * (dotP (nrm p) d * W) := by grind
  omega
theorem trans3 {a b c W V U : Int} (hV : 0 < V) (hW : 0 < W) (hU : 0 < U) (h1 : b * W ≤ a * V) (h2 : c * V ≤ b * U) : c * W ≤ a * U := by
 have h3 : b * W * U ≤ a * V * U := Int.mul_le_mul_of_nonneg_right h1 (by omega)
 have h4 : c * V * W ≤ b * U * W := Int.mul_le_mul_of_nonneg_right h2 (by omega)
 have e1 : b * W * U = b * U * W := by grind
 have e2 : a * V * U = a * U * V := by grind
 have e3 : c * V * W = c * W * V := by grind
 exact Int.le_of_mul_le_mul_right (by omega : c * W * V ≤ a * U * V) hV
theorem vertex (ps : List Q4) (hB : ∀ d : Q3, d ≠ (0, 0, 0) → ∃ p ∈ ps, 0 < dotP (nrm p) d) (f x : Q3) (W : Int) (hW : 0 < W) (hin : ∀ p ∈ ps, 0 ≤ slk p x W) :
  ∃ p1 ∈ ps, ∃ p2 ∈ ps, ∃ p3 ∈ ps, ∃ x' W', 0 < W' ∧ (∀ q ∈ ps, 0 ≤ slk q x' W') ∧ slk p1 x' W' = 0 ∧ slk p2 x' W' = 0 ∧ slk p3 x' W' = 0 ∧ denP p1 p2 p3 ≠ 0 ∧ dotP f x' * W ≤ dotP f x * W' := by
 have sg : ∀ d : Q3, d ≠ (0, 0, 0) → ∃ s : Int, (s = 1 ∨ s = -1) ∧ (s * d.1, s * d.2.1, s * d.2.2) ≠ ((0, 0, 0) : Q3) ∧ dotP f (s * d.1, s * d.2.1, s * d.2.2) ≤ 0 := fun d hd => by
  by_cases h : dotP f d ≤ 0
  ·obtain ⟨d1, d2, d3⟩ := d
   refine ⟨1, Or.inl rfl, ?_, ?_⟩
   ·simp only [Int.one_mul]; exact hd
   ·simp only [Int.one_mul]; exact h
  ·refine ⟨-1, Or.inr rfl, ?_, ?_⟩
   ·intro e
    apply hd
    simp only [Prod.mk.injEq] at e
    obtain ⟨d1, d2, d3⟩ := d
    simp only [Prod.mk.injEq] at e ⊢
    omega
   ·have : dotP f (-1 * d.1, -1 * d.2.1, -1 * d.2.2) = -(dotP f d) := by unfold dotP; grind
    rw [this]; omega
 obtain ⟨s1, hs1, hn1, hf1⟩ := sg (1, 0, 0) (by simp)
 obtain ⟨p1, hp1, x1, W1, hW1, hin1, z1, t1, _, l1⟩ := move ps x _ W hW hin (hB _ hn1)
 have q1 : p1.1 ≠ 0 := by
  intro e
  simp only [dotP, nrm, e] at t1
  omega
 obtain ⟨s2, hs2, hn2, hf2⟩ := sg (p1.2.1, -p1.1, 0) (by simp; omega)
 obtain ⟨p2, hp2, x2, W2, hW2, hin2, z2, t2, k2, l2⟩ := move ps x1 _ W1 hW1 hin1 (hB _ hn2)
 have q2 : p1.1 * p2.2.1 - p1.2.1 * p2.1 ≠ 0 := by
  intro e
  have : dotP (nrm p2) (s2 * p1.2.1, s2 * -p1.1, s2 * 0) = -(s2 * (p1.1 * p2.2.1 - p1.2.1 * p2.1)) := by unfold dotP nrm; grind
  simp only at t2
  rw [this, e] at t2
  omega
 obtain ⟨s3, hs3, hn3, hf3⟩ := sg (crossP (nrm p1) (nrm p2)) (by
  intro e
  have : (crossP (nrm p1) (nrm p2)).2.2 = 0 := by rw [e]
  exact q2 this)
 obtain ⟨p3, hp3, x3, W3, hW3, hin3, z3, t3, k3, l3⟩ := move ps x2 _ W2 hW2 hin2 (hB _ hn3)
 have y1 : slk p1 x2 W2 = 0 := k2 p1 (by unfold dotP nrm; grind) z1
 refine ⟨p1, hp1, p2, hp2, p3, hp3, x3, W3, hW3, hin3, k3 p1 (by unfold dotP crossP nrm; grind) y1, k3 p2 (by unfold dotP crossP nrm; grind) z2, z3, ?_, ?_⟩
 ·intro e
  have : dotP (nrm p3) (s3 * (crossP (nrm p1) (nrm p2)).1, s3 * (crossP (nrm p1) (nrm p2)).2.1, s3 * (crossP (nrm p1) (nrm p2)).2.2) = s3 * denP p1 p2 p3 := by unfold denP dotP; grind
  rw [this, e] at t3
  omega
 ·exact trans3 hW2 hW hW3 (trans3 hW1 hW hW2 (l1 f hf1) (l2 f hf2)) (l3 f hf3)
theorem ptOf_spec (a b c den : Int) (h0 : den ≠ 0) : ∃ g : Int, g ≠ 0 ∧ a = g * (ptOf a b c den).1 ∧ b = g * (ptOf a b c den).2.1 ∧ c = g * (ptOf a b c den).2.2.1 ∧ den = g * (ptOf a b c den).2.2.2 ∧ 0 < (ptOf a b c den).2.2.2 := by
 have hp := gcdL4_pos a b c den h0
 have d1 := gcdL_dvd [a, b, c, den] a (by simp)
 have d2 := gcdL_dvd [a, b, c, den] b (by simp)
 have d3 := gcdL_dvd [a, b, c, den] c (by simp)
 have d4 := gcdL_dvd [a, b, c, den] den (by simp)
 unfold ptOf
 generalize gcdL [a, b, c, den] = g at *
 have e1 := Int.mul_ediv_cancel' d1
 have e2 := Int.mul_ediv_cancel' d2
 have e3 := Int.mul_ediv_cancel' d3
 have e4 := Int.mul_ediv_cancel' d4
 have hg : (0 : Int) < g := by omega
 split
 ·rename_i hneg
  refine ⟨-(g : Int), by omega, by simp only; grind, by simp only; grind, by simp only; grind, by simp only; grind, ?_⟩
  simp only
  have : ¬ 0 ≤ den / (g : Int) := fun h => by have := Int.mul_nonneg (Int.le_of_lt hg) h; omega
  omega
 ·refine ⟨(g : Int), by omega, e1.symm, e2.symm, e3.symm, e4.symm, ?_⟩
  simp only
  have h1 : ¬ den / (g : Int) ≤ 0 := fun h => by
   have : 0 ≤ (g : Int) * (-(den / (g : Int))) := Int.mul_nonneg (Int.le_of_lt hg) (by omega)
   rw [Int.mul_neg] at this
   omega
  omega
def SameAt (c : Q4) (x : Q3) (W : Int) : Prop := 0 < c.2.2.2 ∧ c.2.2.2 * x.1 = W * c.1 ∧ c.2.2.2 * x.2.1 = W * c.2.1 ∧ c.2.2.2 * x.2.2 = W * c.2.2.1
def xyz (c : Q4) : Q3 := (c.1, c.2.1, c.2.2.1)
theorem SameAt.slk {c : Q4} {x : Q3} {W : Int} (h : SameAt c x W) (q : Q4) : slk q (xyz c) c.2.2.2 * W = slk q x W * c.2.2.2 := by
 obtain ⟨_, h1, h2, h3⟩ := h
 unfold Go.Proofs.YtokhkhnofkcalaaGreatDoor.slk dotP xyz nrm
 grind
theorem sgn_sub (a b : Int) : sgn a b = sgn 0 (b - a) := by
 unfold sgn
 by_cases h1 : a < b
 ·rw [if_pos h1, if_pos (by omega)]
 ·rw [if_neg h1, if_neg (by omega : ¬ 0 < b - a)]
  by_cases h2 : b < a
  ·rw [if_pos h2, if_pos (by omega)]
  ·rw [if_neg h2, if_neg (by omega : ¬ b - a < 0)]
theorem sd_slk (p c : Q4) : sd p c = sgn 0 (slk p (xyz c) c.2.2.2) := by
 unfold sd sideP
 rw [sgn_sub]
 rfl
theorem pos_of_mul {a W : Int} (hW : 0 < W) (h : 0 < a * W) : 0 < a := by
 rcases Int.lt_or_le 0 a with h1 | h1
 ·exact h1
 ·have : 0 ≤ (-a) * W := Int.mul_nonneg (by omega) (by omega)
  rw [Int.neg_mul] at this
  omega
theorem nonneg_of_mul {a W : Int} (hW : 0 < W) (h : 0 ≤ a * W) : 0 ≤ a := by
 rcases Int.lt_or_le a 0 with h1 | h1
 ·have : 0 < (-a) * W := Int.mul_pos (by omega) (by omega)
  rw [Int.neg_mul] at this
  omega
 ·exact h1
theorem SameAt.pos {c : Q4} {x : Q3} {W : Int} (h : SameAt c x W) (hW : 0 < W) (q : Q4) (hs : 0 < Go.Proofs.YtokhkhnofkcalaaGreatDoor.slk q x W) : sd q c < 0 := by
 have h1 : 0 < Go.Proofs.YtokhkhnofkcalaaGreatDoor.slk q x W * c.2.2.2 := Int.mul_pos hs h.1
 rw [← h.slk q] at h1
 have := pos_of_mul hW h1
 rw [sd_slk, sgn_neg_iff]
 exact this
theorem SameAt.nonneg {c : Q4} {x : Q3} {W : Int} (h : SameAt c x W) (hW : 0 < W) (q : Q4) (hs : 0 ≤ Go.Proofs.YtokhkhnofkcalaaGreatDoor.slk q x W) : ¬ 0 < sd q c := by
 have h1 : 0 ≤ Go.Proofs.YtokhkhnofkcalaaGreatDoor.slk q x W * c.2.2.2 := Int.mul_nonneg hs (Int.le_of_lt h.1)
 rw [← h.slk q] at h1
 have := nonneg_of_mul hW h1
 rw [sd_slk, sgn_pos_iff]
 omega
theorem cramer (a b c : Q3) (x : Q3) : dotP (crossP a b) c * x.1 = (comb (dotP a x) (dotP b x) (dotP c x) (crossP b c) (crossP c a) (crossP a b)).1 ∧
  dotP (crossP a b) c * x.2.1 = (comb (dotP a x) (dotP b x) (dotP c x) (crossP b c) (crossP c a) (crossP a b)).2.1 ∧
  dotP (crossP a b) c * x.2.2 = (comb (dotP a x) (dotP b x) (dotP c x) (crossP b c) (crossP c a) (crossP a b)).2.2 := by
 refine ⟨?_, ?_, ?_⟩ <;> (unfold comb dotP crossP; grind)
theorem comb_mul (W d0 d1 d2 : Int) (a b c : Q3) : (comb (d0 * W) (d1 * W) (d2 * W) a b c).1 = W * (comb d0 d1 d2 a b c).1 ∧ (comb (d0 * W) (d1 * W) (d2 * W) a b c).2.1 = W * (comb d0 d1 d2 a b c).2.1 ∧ (comb (d0 * W) (d1 * W) (d2 * W) a b c).2.2 = W * (comb d0 d1 d2 a b c).2.2 := by
 refine ⟨?_, ?_, ?_⟩ <;> (unfold comb; grind)
theorem meetP_same (p q r : Q4) (x : Q3) (W : Int) (h0 : denP p q r ≠ 0) (hp : slk p x W = 0) (hq : slk q x W = 0) (hr : slk r x W = 0) : SameAt (meetP p q r (denP p q r)) x W := by
 obtain ⟨c1, c2, c3⟩ := cramer (nrm p) (nrm q) (nrm r) x
 have ep : dotP (nrm p) x = p.2.2.2 * W := by unfold slk at hp; omega
 have eq : dotP (nrm q) x = q.2.2.2 * W := by unfold slk at hq; omega
 have er : dotP (nrm r) x = r.2.2.2 * W := by unfold slk at hr; omega
 rw [ep, eq, er] at c1 c2 c3
 obtain ⟨m1, m2, m3⟩ := comb_mul W p.2.2.2 q.2.2.2 r.2.2.2 (crossP (nrm q) (nrm r)) (crossP (nrm r) (nrm p)) (crossP (nrm p) (nrm q))
 rw [m1] at c1
 rw [m2] at c2
 rw [m3] at c3
 unfold meetP
 simp only
 generalize comb p.2.2.2 q.2.2.2 r.2.2.2 (crossP (nrm q) (nrm r)) (crossP (nrm r) (nrm p)) (crossP (nrm p) (nrm q)) = v at *
 obtain ⟨g, hg, e1, e2, e3, e4, hpos⟩ := ptOf_spec v.1 v.2.1 v.2.2 (denP p q r) h0
 change denP p q r * x.1 = _ at c1
 change denP p q r * x.2.1 = _ at c2
 change denP p q r * x.2.2 = _ at c3
 generalize ptOf v.1 v.2.1 v.2.2 (denP p q r) = c at *
 generalize denP p q r = den at *
 refine ⟨hpos, ?_, ?_, ?_⟩
 ·refine Int.eq_of_mul_eq_mul_left hg ?_
  rw [e4, e1] at c1
  grind
 ·refine Int.eq_of_mul_eq_mul_left hg ?_
  rw [e4, e2] at c2
  grind
 ·refine Int.eq_of_mul_eq_mul_left hg ?_
  rw [e4, e3] at c3
  grind
theorem raw_mem (ps : List Q4) (i k m : Nat) (hi : i < ps.length) (hk : k < i) (hm : m < k) (h0 : denP (getP ps i) (getP ps k) (getP ps m) ≠ 0)
  (ha : allowedB ps (meetP (getP ps i) (getP ps k) (getP ps m) (denP (getP ps i) (getP ps k) (getP ps m))) = true) :
  meetP (getP ps i) (getP ps k) (getP ps m) (denP (getP ps i) (getP ps k) (getP ps m)) ∈ raw ps ps.length := by
 unfold raw rawI rawK
 simp only [List.mem_flatMap, List.mem_range]
 exact ⟨i, hi, k, hk, m, hm, by unfold raw1; rw [if_neg h0, if_pos ha]; simp⟩
theorem allowed_of {ps : List Q4} {c : Q4} {x : Q3} {W : Int} (h : SameAt c x W) (hW : 0 < W) (hin : ∀ q ∈ ps, 0 ≤ slk q x W) : allowedB ps c = true := by
 unfold allowedB
 simp only [Bool.not_eq_true', List.any_eq_false, decide_eq_true_eq]
 exact fun q hq => h.nonneg hW q (hin q hq)
theorem getP_at {ps : List Q4} {p : Q4} (h : p ∈ ps) : ∃ i, i < ps.length ∧ getP ps i = p := by
 obtain ⟨i, hi, rfl⟩ := List.getElem_of_mem h
 exact ⟨i, hi, by simp [getP, List.getD, hi]⟩
theorem corner_at (ps : List Q4) (i k m : Nat) (hi : i < ps.length) (hk : k < i) (hm : m < k) (x : Q3) (W : Int) (hW : 0 < W) (hin : ∀ q ∈ ps, 0 ≤ slk q x W)
  (zi : slk (getP ps i) x W = 0) (zk : slk (getP ps k) x W = 0) (zm : slk (getP ps m) x W = 0) (h0 : denP (getP ps i) (getP ps k) (getP ps m) ≠ 0) : ∃ c ∈ raw ps ps.length, SameAt c x W := by
 have h := meetP_same _ _ _ x W h0 zi zk zm
 exact ⟨_, raw_mem ps i k m hi hk hm h0 (allowed_of h hW hin), h⟩
theorem den_perm1 (p q r : Q4) : denP q p r = -denP p q r := by unfold denP dotP crossP nrm; grind
theorem den_perm2 (p q r : Q4) : denP p r q = -denP p q r := by unfold denP dotP crossP nrm; grind
theorem den_self1 (p r : Q4) : denP p p r = 0 := by unfold denP dotP crossP nrm; grind
theorem den_self2 (p r : Q4) : denP p r r = 0 := by unfold denP dotP crossP nrm; grind
theorem den_self3 (p r : Q4) : denP p r p = 0 := by unfold denP dotP crossP nrm; grind
theorem corner_of (ps : List Q4) (p1 p2 p3 : Q4) (h1 : p1 ∈ ps) (h2 : p2 ∈ ps) (h3 : p3 ∈ ps) (x : Q3) (W : Int) (hW : 0 < W) (hin : ∀ q ∈ ps, 0 ≤ slk q x W)
  (z1 : slk p1 x W = 0) (z2 : slk p2 x W = 0) (z3 : slk p3 x W = 0) (h0 : denP p1 p2 p3 ≠ 0) : ∃ c ∈ raw ps ps.length, SameAt c x W := by
 obtain ⟨i, hi, rfl⟩ := getP_at h1
 obtain ⟨k, hk, rfl⟩ := getP_at h2
 obtain ⟨m, hm, rfl⟩ := getP_at h3
 have n1 : i ≠ k := fun e => h0 (by rw [e, den_self1])
 have n2 : k ≠ m := fun e => h0 (by rw [e, den_self2])
 have n3 : i ≠ m := fun e => h0 (by rw [e, den_self3])
 rcases Nat.lt_or_gt_of_ne n1 with a | a <;> rcases Nat.lt_or_gt_of_ne n2 with b | b <;> rcases Nat.lt_or_gt_of_ne n3 with c | c
 ·exact corner_at ps m k i hm b a x W hW hin z3 z2 z1 (by rw [den_perm1, den_perm2, den_perm1]; omega)
 ·omega
 ·exact corner_at ps k m i hk b c x W hW hin z2 z3 z1 (by rw [den_perm2, den_perm1]; omega)
 ·exact corner_at ps k i m hk a c x W hW hin z2 z1 z3 (by rw [den_perm1]; omega)
 ·exact corner_at ps m i k hm c a x W hW hin z3 z1 z2 (by rw [den_perm1, den_perm2]; omega)
 ·exact corner_at ps i m k hi c b x W hW hin z1 z3 z2 (by rw [den_perm2]; omega)
 ·omega
 ·exact corner_at ps i k m hi a b x W hW hin z1 z2 z3 h0
theorem inner_corner (ps : List Q4) (hB : ∀ d : Q3, d ≠ (0, 0, 0) → ∃ p ∈ ps, 0 < dotP (nrm p) d) (x : Q3) (W : Int) (hW : 0 < W) (hin : ∀ p ∈ ps, 0 < slk p x W) (p : Q4) (hp : p ∈ ps) :
  ∃ c ∈ raw ps ps.length, sd p c < 0 := by
 obtain ⟨p1, h1, p2, h2, p3, h3, x', W', hW', hin', z1, z2, z3, h0, hf⟩ := vertex ps hB (nrm p) x W hW (fun q hq => Int.le_of_lt (hin q hq))
 obtain ⟨c, hc, hs⟩ := corner_of ps p1 p2 p3 h1 h2 h3 x' W' hW' hin' z1 z2 z3 h0
 refine ⟨c, hc, hs.pos hW' p ?_⟩
 have h4 := hin p hp
 have h5 : 0 < slk p x W * W' := Int.mul_pos h4 hW'
 refine pos_of_mul hW (a := slk p x' W') ?_
 unfold slk at h5 ⊢
 have e1 : (p.2.2.2 * W - dotP (nrm p) x) * W' = p.2.2.2 * W * W' - dotP (nrm p) x * W' := Int.sub_mul _ _ _
 have e2 : (p.2.2.2 * W' - dotP (nrm p) x') * W = p.2.2.2 * W * W' - dotP (nrm p) x' * W := by grind
 omega
end
end Go.Proofs.YtokhkhnofkcalaaGreatDoor
