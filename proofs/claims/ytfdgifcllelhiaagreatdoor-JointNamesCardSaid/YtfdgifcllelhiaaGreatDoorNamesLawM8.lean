/- NamesLaw: texts of mine, merged: B5, B6. -/
import Derived.Test.YtfdgifcllelhiaaGreatDoorNamesLawM7
/- solid.body: normalForm. -/
namespace Go.Proofs.YtfdgifcllelhiaaGreatDoor
open Go.RowKit Go.Shelf Go.Sort Go.Lib
attribute [local go_sem] Ext.cell Ext.frozen

def cntOn (p : Q4) (cs : List Q4) : Nat := (cs.filter fun c => decide (sd p c = 0)).length
def onB (cs : List Q4) (p : Q4) : Bool := decide (3 ≤ cntOn p cs)
def lowL (cs ps : List Q4) : List Q4 := (ps.filter (onB cs)).map lowP
def normF (ps cs : List Q4) : List Q4 := Lib.compact (sortL (lowL cs ps))
theorem cnt_snoc (p : Q4) (cs : List Q4) (j : Nat) (h : j < cs.length) : cntOn p (cs.take (j + 1)) = cntOn p (cs.take j) + if sd p cs[j] = 0 then 1 else 0 := by
  unfold cntOn
  rw [List.take_succ_eq_append_getElem h, List.filter_append, List.length_append]
  by_cases e : sd p cs[j] = 0 <;> simp [e]
theorem low_snoc (cs ps : List Q4) (k : Nat) (h : k < ps.length) : lowL cs (ps.take (k + 1)) = lowL cs (ps.take k) ++ if onB cs ps[k] then [lowP ps[k]] else [] := by
  unfold lowL
  rw [List.take_succ_eq_append_getElem h, List.filter_append, List.map_append]
  by_cases e : onB cs ps[k] <;> simp [e]
theorem low_len (cs ps : List Q4) (k : Nat) : (lowL cs (ps.take k)).length ≤ k := by
  unfold lowL
  rw [List.length_map]
  exact Nat.le_trans (List.length_filter_le _ _) (by simp; omega)
theorem info_plane : (Tryz.prog.info? 92).map (fun i => (i.zero, i.size, i.bytes)) = some (some (v4 (0, 0, 0, 0)), 4, 32) := by kernel_rfl

/-- What is asked of planes whose normals are not 0. -/
def okPl0 (p : Q4) : Prop := okPl p ∧ (p.1 ≠ 0 ∨ p.2.1 ≠ 0 ∨ p.2.2.1 ≠ 0)
theorem lowest_q (p : Q4) (w : World) (h : okPl0 p) : Calls Tryz.prog 203 #[v4 p] w (Ret w (v4 (lowP p))) := by
  obtain ⟨a, b, c, d⟩ := p
  have h1 := h.1
  simp only [okPl] at h1
  exact lowest_any a b c d w (by omega) (by omega) (by omega) (by omega) h.2

set_option maxRecDepth 100000 in
set_option maxHeartbeats 2000000 in
theorem normalForm_any (ps cs : List Q4) (pv cv : Value) (w : World) (hps : ∀ p ∈ ps, okPl0 p) (hcs : ∀ c ∈ cs, okCo c) (hl : ps.length ≤ 1000000) (hlc : cs.length ≤ 1000000) (hpv : Q4s w pv ps) (hcv : Q4s w cv cs) :
    Calls Tryz.prog 165 #[.agg #[pv, cv]] w fun e w' => ∃ v, e = .returned (.agg #[v]) ∧ Below w.heap.size w w' ∧ w'.ownsRow (w.heap.size + 2) 92 4 v (normF ps cs).length ((normF ps cs).flatMap enc4) := by
  have Hnf : Hid (normF ps cs = Lib.compact (sortL (lowL cs (ps.take ps.length)))) := Lib.hid (by rw [List.take_length]; rfl)
  generalize normF ps cs = nf at *
  obtain ⟨a, n, cc, rfl, hn, hnc, hx⟩ := hpv
  obtain ⟨a', n', cc', rfl, hn', hnc', hx'⟩ := hcv
  have HPS := Lib.hid hps
  have HCS := Lib.hid hcs
  have HX' := Lib.hid hx'
  clear hps hcs hx'
  obtain ⟨i0, hi0, hz0, hz1, hz2⟩ := info_parts info_plane
  have Hi0 := Lib.hid (And.intro hi0 (And.intro hz0 (And.intro hz1 hz2)))
  clear hi0 hz0 hz1 hz2
  go_enter Tryz.func165, Tryz.ntmps165
  go_wp2
  go_loopw [3, 12] (fun s3 i wr => ∃ k : Nat, k ≤ n ∧ i = .int .i64 k ∧ Below w.heap.size w wr ∧ Hid (wr.heap[w.heap.size]? = some (.cells #[.slice a n cc, .slice a' n' cc'] 191 (0, 0))) ∧ Hid (wr.heap[w.heap.size + 1]? = some (.cells #[.slice none 0 0] 90 (0, 0))) ∧
      Hid (wr.ownsRow (w.heap.size + 2) 92 4 s3 (lowL cs (ps.take k)).length ((lowL cs (ps.take k)).flatMap enc4))) (fun _ i _ => n - (intOf i).toNat)
  case atStart => exact ⟨0, by omega, rfl, by (repeat (first | exact Below.refl _ _ | assumption | (refine below_trans ?_ (Ext.below _)) | (refine Below.trans ?_ ((Ext.below _).mono (by first | omega | (simp; omega)))) | (refine Below.alloc ?_ (by first | omega | (simp; done) | (simp; omega)) _) | (refine Below.setCell ?_ (by first | omega | (simp; done) | (simp; omega)) _) | (refine Below.drew ?_))), Lib.hid ((heap_old (by simp)).trans (heap_new rfl)), Lib.hid (heap_new (by simp)), Lib.hid (World.ownsRow_nil _ _ _ _)⟩
  case round =>
    obtain ⟨k, hk, rfl, hb, HB, HC, HO⟩ := hrel
    have zC := blk_lt HC.out
    by_cases hlt : k < n
    · obtain ⟨b, off, rfl, hi⟩ := hx (by omega)
      obtain ⟨c0, c1, c2, c3⟩ := (hi.below hb) k (by omega)
      have Hok := Lib.hid (HPS.out (ps[k]) (by simp))
      have Hsn := Lib.hid (low_snoc cs ps k (by omega))
      have Hll := Lib.hid (low_len cs ps k)
      obtain ⟨p, Hp⟩ : ∃ p, Hid (ps[k] = p) := ⟨_, Lib.hid rfl⟩
      rw [Hp.out] at c0 c1 c2 c3 Hok Hsn
      have k1 : wr.cell? ⟨w.heap.size, 1, none⟩ = some (.slice a' n' cc') := (blk_cell HB.out 1).trans rfl
      have zB : w.heap.size < wr.heap.size := by omega
      obtain ⟨wo, rfl⟩ : ∃ wo : World, wo = wr := ⟨_, rfl⟩
      clear hx hi
      go_wp2
      clear c0 c1 c2 c3 k1
      go_loopw [6, 19] (fun s6 i wr => ∃ j : Nat, j ≤ n' ∧ i = .int .i64 j ∧ s6 = .int .i64 (cntOn p (cs.take j)) ∧ Below (wo.heap.size + 1) (wo.alloc (.cells #[.int .i64 p.1, .int .i64 p.2.1, .int .i64 p.2.2.1, .int .i64 p.2.2.2] 92)) wr) (fun _ i _ => n' - (intOf i).toNat)
      case atStart => exact ⟨0, by omega, rfl, rfl, Below.refl _ _⟩
      case round =>
        obtain ⟨j, hj, rfl, rfl, hbj⟩ := hrel
        have Hpb : Hid (wr.heap[wo.heap.size]? = some (.cells #[.int .i64 p.1, .int .i64 p.2.1, .int .i64 p.2.2.1, .int .i64 p.2.2.2] 92 (0, 0))) := Lib.hid ((hbj.block _ (by omega)).trans (heap_new rfl))
        have zp := blk_lt Hpb.out
        have p0 : wr.cell? ⟨wo.heap.size, 0, none⟩ = some (.int .i64 p.1) := (blk_cell Hpb.out 0).trans rfl
        have p1 : wr.cell? ⟨wo.heap.size, 1, none⟩ = some (.int .i64 p.2.1) := (blk_cell Hpb.out 1).trans rfl
        have p2 : wr.cell? ⟨wo.heap.size, 2, none⟩ = some (.int .i64 p.2.2.1) := (blk_cell Hpb.out 2).trans rfl
        have p3 : wr.cell? ⟨wo.heap.size, 3, none⟩ = some (.int .i64 p.2.2.2) := (blk_cell Hpb.out 3).trans rfl
        have hbwr : Below w.heap.size w wr := (hb.alloc (by omega) _).trans (hbj.mono (by omega))
        by_cases hlt2 : j < n'
        · obtain ⟨b', off', rfl, hi'⟩ := HX'.out (by omega)
          obtain ⟨c0, c1, c2, c3⟩ := (hi'.below hbwr) j (by omega)
          have Hok' := Lib.hid (HCS.out (cs[j]) (by simp))
          have Hcn := Lib.hid (cnt_snoc p cs j (by omega))
          have hcl : cntOn p (cs.take j) ≤ j := Nat.le_trans (List.length_filter_le _ _) (by simp; omega)
          obtain ⟨c, Hc⟩ : ∃ c, Hid (cs[j] = c) := ⟨_, Lib.hid rfl⟩
          rw [Hc.out] at c0 c1 c2 c3 Hok' Hcn
          generalize cntOn p (cs.take j) = cn at *
          clear hi'
          have hs := fun W => Lib.hid (side_q p c W Hok.out.1 Hok'.out)
          by_cases hsd : sd p c = 0
          · have Hsd := Lib.hid hsd
            rw [hsd] at hs
            clear hsd
            go_wp2_with fail
            refine ((hs _).out).mono ?_
            rintro e w1 ⟨rfl, hb1⟩
            clear hs
            go_wp2
            go_roundw
            case rel => exact ⟨j + 1, by omega, by go_num, by rw [Hcn.out, if_pos Hsd.out]; go_num, hbj.trans ((below_trans (by (repeat (first | exact Below.refl _ _ | assumption | (refine below_trans ?_ (Ext.below _)) | (refine Below.trans ?_ ((Ext.below _).mono (by first | omega | (simp; omega)))) | (refine Below.alloc ?_ (by first | omega | (simp; done) | (simp; omega)) _) | (refine Below.setCell ?_ (by first | omega | (simp; done) | (simp; omega)) _) | (refine Below.drew ?_)))) hb1 : Below wr.heap.size wr w1).mono (by omega))⟩
            case measure => simp [intOf]; omega
          · have hsd' : (sd p c == 0) = false := by simpa using hsd
            have Hsd := Lib.hid hsd
            clear hsd
            go_wp2_with fail
            refine ((hs _).out).mono ?_
            rintro e w1 ⟨rfl, hb1⟩
            clear hs
            go_wp2
            go_roundw
            case rel => exact ⟨j + 1, by omega, by go_num, by rw [Hcn.out, if_neg Hsd.out]; simp, hbj.trans ((below_trans (by (repeat (first | exact Below.refl _ _ | assumption | (refine below_trans ?_ (Ext.below _)) | (refine Below.trans ?_ ((Ext.below _).mono (by first | omega | (simp; omega)))) | (refine Below.alloc ?_ (by first | omega | (simp; done) | (simp; omega)) _) | (refine Below.setCell ?_ (by first | omega | (simp; done) | (simp; omega)) _) | (refine Below.drew ?_)))) hb1 : Below wr.heap.size wr w1).mono (by omega))⟩
            case measure => simp [intOf]; omega
        · obtain rfl : j = n' := by omega
          have Hct : Hid (cntOn p (cs.take j) = cntOn p cs) := Lib.hid (by rw [List.take_of_length_le (by omega)])
          have hcl : cntOn p (cs.take j) ≤ j := Nat.le_trans (List.length_filter_le _ _) (by simp; omega)
          have HB1 : Hid (wr.heap[w.heap.size]? = some (.cells #[.slice (some ⟨b, off, none⟩) n cc, .slice a' j cc'] 191 (0, 0))) := Lib.hid ((hbj.block _ (by omega)).trans ((heap_old zB).trans HB.out))
          have HC1 : Hid (wr.heap[w.heap.size + 1]? = some (.cells #[.slice none 0 0] 90 (0, 0))) := Lib.hid ((hbj.block _ (by omega)).trans ((heap_old zC).trans HC.out))
          have HO1 : Hid (wr.ownsRow (w.heap.size + 2) 92 4 u3 (lowL cs (ps.take k)).length ((lowL cs (ps.take k)).flatMap enc4)) := Lib.hid (own_below HO.out ((Below.alloc (Below.refl _ _) (Nat.le_refl _) _).trans (hbj.mono (by omega))))
          clear HB HC HO hbj
          by_cases h3 : 3 ≤ cntOn p (cs.take j)
          · have Hon : Hid (onB cs p = true) := Lib.hid (by unfold onB; rw [← Hct.out]; exact decide_eq_true h3)
            generalize cntOn p (cs.take j) = cn at *
            go_wp2_with fail
            refine (lowest_q p _ Hok.out).mono ?_
            rintro e w1 ⟨rfl, hb1⟩
            have HO2 := Lib.hid (own_below HO1.out hb1)
            have HB2 : Hid (w1.heap[w.heap.size]? = some (.cells #[.slice (some ⟨b, off, none⟩) n cc, .slice a' j cc'] 191 (0, 0))) := Lib.hid ((hb1.block _ (blk_lt HB1.out)).trans HB1.out)
            have HC2 : Hid (w1.heap[w.heap.size + 1]? = some (.cells #[.slice none 0 0] 90 (0, 0))) := Lib.hid ((hb1.block _ (blk_lt HC1.out)).trans HC1.out)
            have hbw1 : Below w.heap.size w w1 := below_trans hbwr hb1
            have zb1 := hb1.size
            have zC1 := blk_lt HC1.out
            clear HB1 HC1 HO1 hbwr hb1 p0 p1 p2 p3
            go_wp2_with (at_builtin; refine wpList_append_own _ rfl _ _ 88 rfl (w.heap.size + 2) 92 i0 (v4 (0, 0, 0, 0)) 4 32 und_planes' Hi0.out.1 Hi0.out.2.1 Hi0.out.2.2.1 Hi0.out.2.2.2 rfl (by decide) u3 _ _ rfl (HO2.out.alloc _) ⟨w1.heap.size, 0, none⟩ 1 1 (enc4 (lowP p)) rfl rfl ?c1 ?c2 ?c3 ?c4 ?c5 ?_)
            case c1 =>
              intro jj uu hu
              rw [add0, cell_new rfl jj]
              simpa [enc4] using hu
            case c2 => exact enc4_one _
            case c3 => unfold maxLen; have := Hll.out; omega
            case c4 => have := Hll.out; omega
            case c5 => simp; omega
            intro v' w2 hown2 hg2 _
            have hne1 : some (w.heap.size + 1) ≠ u3.ownBlock := fun e => own_blk_ne HO2.out HC2.out (by decide) e.symm
            have hne0 : some w.heap.size ≠ u3.ownBlock := fun e => own_blk_ne HO2.out HB2.out (by decide) e.symm
            have HB3 : Hid (w2.heap[w.heap.size]? = some (.cells #[.slice (some ⟨b, off, none⟩) n cc, .slice a' j cc'] 191 (0, 0))) := Lib.hid ((hg2.block _ (by simp; omega) hne0).trans ((heap_old (by omega)).trans HB2.out))
            have HC3 : Hid (w2.heap[w.heap.size + 1]? = some (.cells #[.slice none 0 0] 90 (0, 0))) := Lib.hid ((hg2.block _ (by simp; omega) hne1).trans ((heap_old (by omega)).trans HC2.out))
            have hbw2 : Below w.heap.size w w2 := (hbw1.alloc hbw1.size _).grown hg2 (by simp; omega) (fun q hq => by obtain ⟨h, _⟩ := HO2.out.lt q hq; omega)
            have HO3 := Lib.hid hown2
            clear hown2 hg2 hne0 hne1 HB2 HC2 HO2
            go_wp2
            go_roundw
            case rel => exact ⟨k + 1, by omega, by go_num, hbw2, HB3, HC3, Lib.hid (by rw [Hsn.out, Hon.out]; simpa using HO3.out)⟩
            case measure => simp [intOf]; omega
          · have Hon : Hid (onB cs p = false) := Lib.hid (by unfold onB; rw [← Hct.out]; exact decide_eq_false h3)
            generalize cntOn p (cs.take j) = cn at *
            go_wp2
            go_roundw
            case rel => exact ⟨k + 1, by omega, by go_num, hbwr, HB1, HC1, Lib.hid (by rw [Hsn.out, Hon.out]; simpa using HO1.out)⟩
            case measure => simp [intOf]; omega
    · obtain rfl : k = n := by omega
      subst hn
      have Hll := Lib.hid (low_len cs ps ps.length)
      clear hx
      go_wp2_with fail
      refine (sortPlanes_any (lowL cs (ps.take ps.length)) _ _ u3 wr rfl (by have := Hll.out; omega) HO.out).mono ?_
      rintro e w1 ⟨rfl, hown1, hg1⟩
      have hne1 : some (w.heap.size + 1) ≠ u3.ownBlock := fun e => own_blk_ne HO.out HC.out (by decide) e.symm
      have hbw1 : Below w.heap.size w w1 := hb.grown hg1 hb.size (fun q hq => by obtain ⟨h, _⟩ := HO.out.lt q hq; omega)
      have HC1 : Hid (w1.heap[w.heap.size + 1]? = some (.cells #[.slice none 0 0] 90 (0, 0))) := Lib.hid ((hg1.block _ zC hne1).trans HC.out)
      have HO1 := Lib.hid hown1
      clear hown1 hg1 hne1 HO HC HB hb zC
      go_wp2_with fail
      refine (compactPlanes_any (sortL (lowL cs (ps.take ps.length))) _ _ u3 w1 (sortL_len _) (by have := Hll.out; omega) HO1.out).mono ?_
      rintro e w2 ⟨cv', rfl, hg2, ⟨a2, m2, c2, rfl⟩, hown2⟩
      have hne1 : some (w.heap.size + 1) ≠ u3.ownBlock := fun e => own_blk_ne HO1.out HC1.out (by decide) e.symm
      have hbw2 : Below w.heap.size w w2 := hbw1.grown hg2 hbw1.size (fun q hq => by obtain ⟨h, _⟩ := HO1.out.lt q hq; omega)
      have b1 : w2.heap[w.heap.size + 1]? = some (.cells #[.slice none 0 0] 90 (0, 0)) := (hg2.block _ (blk_lt HC1.out) hne1).trans HC1.out
      have r0 : w2.cell? ⟨w.heap.size + 1, 0, none⟩ = some (.slice none 0 0) := (blk_cell b1 0).trans rfl
      have f0 := blk_free b1
      rw [← Hnf.out] at hown2
      have Ho2 := Lib.hid hown2
      have hfar1 := Lib.hid (fun e => own_blk_ne hown2 b1 (by decide) e.symm : some (w.heap.size + 1) ≠ (Value.slice a2 m2 c2).ownBlock)
      clear hown2 b1 hg2 HO1 HC1 hbw1 hne1
      go_wp2
      refine bodyPost_ret (v := .agg #[.slice a2 m2 c2]) (by simp [results, Tryz.results165, go_sem, r0]) rfl ⟨_, rfl, ?_, ?_⟩
      · exact hbw2.setCell (by simp) _
      · exact own_setCell_far Ho2.out _ _ hfar1.out
end Go.Proofs.YtfdgifcllelhiaaGreatDoor
/- solid.bounded. -/
namespace Go.Proofs.YtfdgifcllelhiaaGreatDoor
open Go.RowKit Go.Shelf
attribute [local go_sem] Ext.cell Ext.frozen quietX

def lineP (ps : List Q4) (i k : Nat) : Q3 := crossP (nrm (getP ps i)) (nrm (getP ps k))
def nzB (l : Q3) : Bool := decide (l ≠ (0, 0, 0))
def abvB (ps : List Q4) (l : Q3) (m : Nat) : Bool := (ps.take m).any fun r => decide (0 < dotP l (nrm r))
def blwB (ps : List Q4) (l : Q3) (m : Nat) : Bool := (ps.take m).any fun r => decide (dotP l (nrm r) < 0)
def goodB (ps : List Q4) (i k : Nat) : Bool := !nzB (lineP ps i k) || (abvB ps (lineP ps i k) ps.length && blwB ps (lineP ps i k) ps.length)
def fullI (ps : List Q4) (i k : Nat) : Bool := (List.range k).any fun k => nzB (lineP ps i k)
def fullA (ps : List Q4) (i : Nat) : Bool := (List.range i).any fun i => fullI ps i i
/-- No direction is free. -/
def boundedB (ps : List Q4) : Bool := ((List.range ps.length).all fun i => (List.range i).all fun k => goodB ps i k) && fullA ps ps.length

theorem fullI_succ (ps : List Q4) (i k : Nat) : fullI ps i (k + 1) = (fullI ps i k || nzB (lineP ps i k)) := by simp [fullI, List.range_succ]
theorem fullA_succ (ps : List Q4) (i : Nat) : fullA ps (i + 1) = (fullA ps i || fullI ps i i) := by simp [fullA, List.range_succ]
theorem abv_succ (ps : List Q4) (l : Q3) (m : Nat) (h : m < ps.length) : abvB ps l (m + 1) = (abvB ps l m || decide (0 < dotP l (nrm (getP ps m)))) := by
  unfold abvB
  rw [List.take_succ_eq_append_getElem h, List.any_append, getP_eq m h]
  simp
theorem blw_succ (ps : List Q4) (l : Q3) (m : Nat) (h : m < ps.length) : blwB ps l (m + 1) = (blwB ps l m || decide (dotP l (nrm (getP ps m)) < 0)) := by
  unfold blwB
  rw [List.take_succ_eq_append_getElem h, List.any_append, getP_eq m h]
  simp
theorem bounded_bad (ps : List Q4) (i k : Nat) (hi : i < ps.length) (hk : k < i) (h : goodB ps i k = false) : boundedB ps = false := by
  have : ((List.range ps.length).all fun i => (List.range i).all fun k => goodB ps i k) = false := by
    rw [List.all_eq_false]
    refine ⟨i, by simpa using hi, ?_⟩
    rw [Bool.not_eq_true, List.all_eq_false]
    exact ⟨k, by simpa using hk, by simp [h]⟩
  simp [boundedB, this]
theorem bounded_good (ps : List Q4) (h : ∀ i k, i < ps.length → k < i → goodB ps i k = true) : boundedB ps = fullA ps ps.length := by
  have : ((List.range ps.length).all fun i => (List.range i).all fun k => goodB ps i k) = true := by
    rw [List.all_eq_true]
    intro i hi
    rw [List.all_eq_true]
    intro k hk
    exact h i k (by simpa using hi) (by simpa using hk)
  simp [boundedB, this]

set_option maxRecDepth 100000 in
set_option maxHeartbeats 4000000 in
theorem bounded_any (ps : List Q4) (pv : Value) (w : World) (hps : ∀ p ∈ ps, okPl p) (hl : ps.length ≤ 1000000) (hpv : Q4s w pv ps) :
    Calls Tryz.prog 196 #[pv] w (Ret w (.bool (boundedB ps))) := by
  obtain ⟨a, n, cc, rfl, hn, hnc, hx⟩ := hpv
  have HPS := Lib.hid hps
  have Hbad := Lib.hid (bounded_bad ps)
  have Hgood := Lib.hid (bounded_good ps)
  generalize boundedB ps = res at *
  clear hps
  go_enter Tryz.func196, Tryz.ntmps196
  go_wp2
  go_loopw [3, 16] (fun s3 i wr => ∃ k : Nat, k ≤ n ∧ i = .int .i64 k ∧ s3 = .bool (fullA ps k) ∧ Below w.heap.size w wr ∧ Hid (∀ i j, i < k → j < i → goodB ps i j = true)) (fun _ i _ => n - (intOf i).toNat)
  case atStart => exact ⟨0, by omega, rfl, rfl, Below.refl _ _, Lib.hid (fun i j h => by omega)⟩
  case round =>
    obtain ⟨k, hk, rfl, rfl, hbk, Hgk⟩ := hrel
    by_cases hlt : k < n
    · obtain ⟨b, off, rfl, hi⟩ := hx (by omega)
      obtain ⟨c0, c1, c2, c3⟩ := (hi.below hbk) k (by omega)
      have Hok := Lib.hid (getP_ok HPS.out k (by omega))
      rw [getP_eq k (by omega)] at c0 c1 c2 c3
      obtain ⟨P, HP⟩ : ∃ P, Hid (getP ps k = P) := ⟨_, Lib.hid rfl⟩
      rw [HP.out] at c0 c1 c2 c3 Hok
      clear hx
      obtain ⟨wo, rfl⟩ : ∃ wo : World, wo = wr := ⟨_, rfl⟩
      have HI := Lib.hid hi
      clear hi
      go_wp2
      clear c0 c1 c2 c3
      go_loopw [3, 25] (fun s3 i wr => ∃ j : Nat, j ≤ k ∧ i = .int .i64 j ∧ s3 = .bool (fullA ps k || fullI ps k j) ∧ Below w.heap.size w wr ∧ Hid (wr.heap[wo.heap.size]? = some (.cells #[.int .i64 P.1, .int .i64 P.2.1, .int .i64 P.2.2.1, .int .i64 P.2.2.2] 92 (0, 0))) ∧ Hid (∀ i, i < j → goodB ps k i = true)) (fun _ i _ => k - (intOf i).toNat)
      case atStart => exact ⟨0, by omega, rfl, by simp [fullI], below_trans hbk (by (repeat (first | exact Below.refl _ _ | assumption | (refine below_trans ?_ (Ext.below _)) | (refine Below.trans ?_ ((Ext.below _).mono (by first | omega | (simp; omega)))) | (refine Below.alloc ?_ (by first | omega | (simp; done) | (simp; omega)) _) | (refine Below.setCell ?_ (by first | omega | (simp; done) | (simp; omega)) _) | (refine Below.drew ?_)))), Lib.hid (heap_new rfl), Lib.hid (fun i h => by omega)⟩
      case round =>
        clear hbk
        obtain ⟨j, hj, rfl, rfl, hb, HPb, Hgj⟩ := hrel
        by_cases hlt2 : j < k
        · obtain ⟨c0, c1, c2, c3⟩ := (HI.out.below hb) j (by omega)
          have HokQ := Lib.hid (getP_ok HPS.out j (by omega))
          rw [getP_eq j (by omega)] at c0 c1 c2 c3
          obtain ⟨Q, HQ⟩ : ∃ Q, Hid (getP ps j = Q) := ⟨_, Lib.hid rfl⟩
          rw [HQ.out] at c0 c1 c2 c3 HokQ
          obtain ⟨wq, rfl⟩ : ∃ wq : World, wq = wr := ⟨_, rfl⟩
          have zq := blk_lt HPb.out
          have p0 : wq.cell? ⟨wo.heap.size, 0, none⟩ = some (.int .i64 P.1) := (blk_cell HPb.out 0).trans rfl
          have p1 : wq.cell? ⟨wo.heap.size, 1, none⟩ = some (.int .i64 P.2.1) := (blk_cell HPb.out 1).trans rfl
          have p2 : wq.cell? ⟨wo.heap.size, 2, none⟩ = some (.int .i64 P.2.2.1) := (blk_cell HPb.out 2).trans rfl
          have p3 : wq.cell? ⟨wo.heap.size, 3, none⟩ = some (.int .i64 P.2.2.2) := (blk_cell HPb.out 3).trans rfl
          have oP := Hok.out
          have oQ := HokQ.out
          simp only [okPl] at oP oQ
          have Hline : Hid (lineP ps k j = crossP (nrm P) (nrm Q)) := Lib.hid (by unfold lineP; rw [HP.out, HQ.out])
          have Hfi := Lib.hid (fullI_succ ps k j)
          obtain ⟨F, HF⟩ : ∃ F, Hid ((fullA ps k || fullI ps k j) = F) := ⟨_, Lib.hid rfl⟩
          rw [HF.out]
          go_wp2
          clear c0 c1 c2 c3
          have zo1 : wo.heap.size < wq.heap.size + 1 := by omega
          refine wp_region_float 5 [0, 1, 2, 3, 4] 6 [] (by kernel_rfl) (by kernel_rfl) _ rfl 161 #[.int .i64 0, .int .i64 0, .int .i64 0] (fun a W' => by go_simp) ?_
          simp only [opsAt, List.filterMap_cons, List.filterMap_nil, List.getElem?_toArray, List.getElem?_cons_zero, List.getElem?_cons_succ]
          repeat (refine wpX_step (fun K' hK' => ?_); go_simp; first | (refine hK' _ ?_; clear hK' K') | (apply Exists.intro; refine ⟨fun u => ?_, hK' _ ?_⟩; ((first | (go_at_call 223; exact quietX_ret (normal_any _ _ _ _ _)) | (go_at_call 211; exact quietX_ret (cross_any _ _ _ _ _ _ _ (by omega) (by omega) (by omega) (by omega) (by omega) (by omega))))); clear hK' K'))
          refine wpX_nil ?_
          intro wl gl hgl hbl Hgl
          have g0 : wl.cell? ⟨gl, 0, none⟩ = some (.int .i64 0) := (blk_cell Hgl 0).trans rfl
          have g1 : wl.cell? ⟨gl, 1, none⟩ = some (.int .i64 0) := (blk_cell Hgl 1).trans rfl
          have g2 : wl.cell? ⟨gl, 2, none⟩ = some (.int .i64 0) := (blk_cell Hgl 2).trans rfl
          have gf := blk_free Hgl
          have Hb := Lib.hid Hgl
          have HL : Hid (crossP (nrm P) (nrm Q) = (P.2.1 * Q.2.2.1 - P.2.2.1 * Q.2.1, P.2.2.1 * Q.1 - P.1 * Q.2.2.1, P.1 * Q.2.1 - P.2.1 * Q.1)) := Lib.hid rfl
          have bL0 := cross_bd oP.2.1 oP.2.2.1 oQ.2.1 oQ.2.2.1
          have bL1 := cross_bd oP.2.2.1 oP.1 oQ.2.2.1 oQ.1
          have bL2 := cross_bd oP.1 oP.2.1 oQ.1 oQ.2.1
          clear Hgl p0 p1 p2 p3
          generalize P.2.1 * Q.2.2.1 - P.2.2.1 * Q.2.1 = l0 at *
          generalize P.2.2.1 * Q.1 - P.1 * Q.2.2.1 = l1 at *
          generalize P.1 * Q.2.1 - P.2.1 * Q.1 = l2 at *
          go_frame
          iterate 1 (refine wpList_step (fun K hK => ?_); go_simp; refine hK _ _ ?_; clear hK K)
          refine NoPanic.normal ?_
          have hv := equalIn_vec l0 l1 l2 0 0 0
          obtain ⟨wm, Hwm⟩ : ∃ wm, Hid (((wl.setCell ⟨gl, 0, none⟩ (.int .i64 l0)).setCell ⟨gl, 1, none⟩ (.int .i64 l1)).setCell ⟨gl, 2, none⟩ (.int .i64 l2) = wm) := ⟨_, Lib.hid rfl⟩
          have hbm : Below (wq.alloc (.cells #[.int .i64 Q.1, .int .i64 Q.2.1, .int .i64 Q.2.2.1, .int .i64 Q.2.2.2] 92)).heap.size (wq.alloc (.cells #[.int .i64 Q.1, .int .i64 Q.2.1, .int .i64 Q.2.2.1, .int .i64 Q.2.2.2] 92)) wm := by
            rw [← Hwm.out]; exact ((hbl.setCell hgl _).setCell hgl _).setCell hgl _
          have hbwm : Below w.heap.size w wm := below_trans hb (below_trans (by (repeat (first | exact Below.refl _ _ | assumption | (refine below_trans ?_ (Ext.below _)) | (refine Below.trans ?_ ((Ext.below _).mono (by first | omega | (simp; omega)))) | (refine Below.alloc ?_ (by first | omega | (simp; done) | (simp; omega)) _) | (refine Below.setCell ?_ (by first | omega | (simp; done) | (simp; omega)) _) | (refine Below.drew ?_)))) hbm)
          have HP1 : Hid (wm.heap[wo.heap.size]? = some (.cells #[.int .i64 P.1, .int .i64 P.2.1, .int .i64 P.2.2.1, .int .i64 P.2.2.2] 92 (0, 0))) := Lib.hid ((hbm.block _ (by simp; omega)).trans ((heap_old zq).trans HPb.out))
          have Hl : Hid (wm.heap[gl]? = some (.cells #[.int .i64 l0, .int .i64 l1, .int .i64 l2] 161 (0, 0))) := by rw [← Hwm.out]; exact Lib.hid (blk_set (blk_set (blk_set Hb.out 0 _) 1 _) 2 _)
          rw [Hwm.out]
          rw [HL.out] at Hline
          clear hbl hbm g0 g1 g2 gf Hb Hwm HPb hgl hb
          have e0 : wm.cell? ⟨gl, 0, none⟩ = some (.int .i64 l0) := (blk_cell Hl.out 0).trans rfl
          have e1 : wm.cell? ⟨gl, 1, none⟩ = some (.int .i64 l1) := (blk_cell Hl.out 1).trans rfl
          have e2 : wm.cell? ⟨gl, 2, none⟩ = some (.int .i64 l2) := (blk_cell Hl.out 2).trans rfl
          by_cases hz : l0 = 0 ∧ l1 = 0 ∧ l2 = 0
          · have hb0 : (l0 == 0 && l1 == 0 && l2 == 0) = true := by simp [hz]
            have Hz := Lib.hid hz
            rw [hb0] at hv
            clear hz hb0
            have Hnz : Hid (nzB (lineP ps k j) = false) := Lib.hid (by rw [Hline.out, Hz.out.1, Hz.out.2.1, Hz.out.2.2]; rfl)
            go_wp2
            go_roundw
            case rel => exact ⟨j + 1, by omega, by go_num, by rw [Hfi.out, Hnz.out, ← HF.out]; simp, hbwm, HP1, Lib.hid (fun i h => by
              by_cases e : i = j
              · subst e; unfold goodB; rw [Hnz.out]; rfl
              · exact Hgj.out i (by omega))⟩
            case measure => simp [intOf]; omega
          · have hb0 : (l0 == 0 && l1 == 0 && l2 == 0) = false := by rw [Bool.eq_false_iff]; simp; omega
            rw [hb0] at hv
            clear hb0
            have Hnz : Hid (nzB (lineP ps k j) = true) := Lib.hid (by rw [Hline.out]; unfold nzB; rw [decide_eq_true_eq]; intro e; injection e with e1 e2; injection e2 with e2 e3; exact hz ⟨e1, e2, e3⟩)
            go_wp2
            go_loopw [9, 10, 39] (fun s9 s10 i wr => ∃ m : Nat, m ≤ n ∧ i = .int .i64 m ∧ s9 = .bool (abvB ps (l0, l1, l2) m) ∧ s10 = .bool (blwB ps (l0, l1, l2) m) ∧ Below w.heap.size w wr ∧ Hid (wr.heap[wo.heap.size]? = some (.cells #[.int .i64 P.1, .int .i64 P.2.1, .int .i64 P.2.2.1, .int .i64 P.2.2.2] 92 (0, 0))) ∧ Hid (wr.heap[gl]? = some (.cells #[.int .i64 l0, .int .i64 l1, .int .i64 l2] 161 (0, 0)))) (fun _ _ i _ => n - (intOf i).toNat)
            case atStart => exact ⟨0, by omega, rfl, rfl, rfl, hbwm, HP1, Hl⟩
            case round =>
              clear e0 e1 e2 HP1 Hl hv hz hbwm
              obtain ⟨m, hm, rfl, rfl, rfl, hb, HP1, Hl⟩ := hrel
              by_cases hlt3 : m < n
              · obtain ⟨c0, c1, c2, c3⟩ := (HI.out.below hb) m (by omega)
                have HokR := Lib.hid (getP_ok HPS.out m (by omega))
                have Hab := Lib.hid (abv_succ ps (l0, l1, l2) m (by omega))
                have Hbl := Lib.hid (blw_succ ps (l0, l1, l2) m (by omega))
                rw [getP_eq m (by omega)] at c0 c1 c2 c3
                obtain ⟨R, HR⟩ : ∃ R, Hid (getP ps m = R) := ⟨_, Lib.hid rfl⟩
                rw [HR.out] at c0 c1 c2 c3 HokR Hab Hbl
                obtain ⟨wz, rfl⟩ : ∃ wz : World, wz = wr := ⟨_, rfl⟩
                have zP := blk_lt HP1.out
                have zL := blk_lt Hl.out
                have e0 : wz.cell? ⟨gl, 0, none⟩ = some (.int .i64 l0) := (blk_cell Hl.out 0).trans rfl
                have e1 : wz.cell? ⟨gl, 1, none⟩ = some (.int .i64 l1) := (blk_cell Hl.out 1).trans rfl
                have e2 : wz.cell? ⟨gl, 2, none⟩ = some (.int .i64 l2) := (blk_cell Hl.out 2).trans rfl
                have oR := HokR.out
                simp only [okPl] at oR
                go_wp2
                clear c0 c1 c2 c3
                have zL1 : gl < wz.heap.size + 1 := by omega
                refine wp_region_quietB (by kernel_rfl) (by kernel_rfl) ?_
                repeat (first | go_big_quiet_step ((first | (go_at_call 223; exact quietB_ret (normal_any _ _ _ _ _)) | (go_at_call 224; exact quietB_ret (dot_any _ _ _ _ _ _ _ (by omega) (by omega) (by omega) (by omega) (by omega) (by omega))))) | quiet_step ((first | (go_at_call 223; exact quietB_ret (normal_any _ _ _ _ _)) | (go_at_call 224; exact quietB_ret (dot_any _ _ _ _ _ _ _ (by omega) (by omega) (by omega) (by omega) (by omega) (by omega))))))
                refine wpQuiet_nil ?_
                rintro _ ⟨u, rfl⟩
                have Hden : Hid (dotP (l0, l1, l2) (nrm R) = l0 * R.1 + l1 * R.2.1 + l2 * R.2.2.1) := Lib.hid rfl
                rw [Hden.out] at Hab Hbl
                have HP2 : Hid (u.val.heap[wo.heap.size]? = some (.cells #[.int .i64 P.1, .int .i64 P.2.1, .int .i64 P.2.2.1, .int .i64 P.2.2.2] 92 (0, 0))) := Lib.hid ((u.below.block _ (by simp; omega)).trans ((heap_old zP).trans HP1.out))
                have Hl2 : Hid (u.val.heap[gl]? = some (.cells #[.int .i64 l0, .int .i64 l1, .int .i64 l2] 161 (0, 0))) := Lib.hid ((u.below.block _ (by simp; omega)).trans ((heap_old zL).trans Hl.out))
                have hb2 : Below w.heap.size w u.val := below_trans hb (below_trans (by (repeat (first | exact Below.refl _ _ | assumption | (refine below_trans ?_ (Ext.below _)) | (refine Below.trans ?_ ((Ext.below _).mono (by first | omega | (simp; omega)))) | (refine Below.alloc ?_ (by first | omega | (simp; done) | (simp; omega)) _) | (refine Below.setCell ?_ (by first | omega | (simp; done) | (simp; omega)) _) | (refine Below.drew ?_)))) u.below)
                clear e0 e1 e2 HP1 Hl oR hb
                generalize l0 * R.1 + l1 * R.2.1 + l2 * R.2.2.1 = den at *
                generalize abvB ps (l0, l1, l2) m = A at *
                generalize blwB ps (l0, l1, l2) m = B at *
                have tri : 0 < den ∨ den < 0 ∨ den = 0 := by omega
                rcases tri with hd | hd | hd
                · have hd2 : ¬ den < 0 := by omega
                  rw [decide_eq_true hd] at Hab
                  rw [decide_eq_false hd2] at Hbl
                  cases A <;> cases B
                  all_goals
                    go_wp2
                    go_roundw
                    case rel => exact ⟨m + 1, by omega, by go_num, by rw [Hab.out]; rfl, by rw [Hbl.out]; rfl, hb2, HP2, Hl2⟩
                    case measure => simp [intOf]; omega
                · have hd2 : ¬ 0 < den := by omega
                  rw [decide_eq_false hd2] at Hab
                  rw [decide_eq_true hd] at Hbl
                  cases A <;> cases B
                  all_goals
                    go_wp2
                    go_roundw
                    case rel => exact ⟨m + 1, by omega, by go_num, by rw [Hab.out]; rfl, by rw [Hbl.out]; rfl, hb2, HP2, Hl2⟩
                    case measure => simp [intOf]; omega
                · subst hd
                  cases A <;> cases B
                  all_goals
                    go_wp2
                    go_roundw
                    case rel => exact ⟨m + 1, by omega, by go_num, by rw [Hab.out]; rfl, by rw [Hbl.out]; rfl, hb2, HP2, Hl2⟩
                    case measure => simp [intOf]; omega
              · obtain rfl : m = n := by omega
                have HA : Hid (goodB ps k j = (abvB ps (l0, l1, l2) m && blwB ps (l0, l1, l2) m)) := Lib.hid (by unfold goodB; rw [Hnz.out, Hline.out, hn]; rfl)
                have Hbd := Lib.hid (Hbad.out k j (by omega) hlt2)
                generalize abvB ps (l0, l1, l2) m = A at *
                generalize blwB ps (l0, l1, l2) m = B at *
                cases A <;> cases B
                · cases F
                  all_goals
                    go_wp2
                    go_ret
                    exact ⟨ret_bool (Hbd.out HA.out).symm, hb⟩
                · cases F
                  all_goals
                    go_wp2
                    go_ret
                    exact ⟨ret_bool (Hbd.out HA.out).symm, hb⟩
                · cases F
                  all_goals
                    go_wp2
                    go_ret
                    exact ⟨ret_bool (Hbd.out HA.out).symm, hb⟩
                · cases F
                  all_goals
                    go_wp2
                    go_roundw
                    case rel => exact ⟨j + 1, by omega, by go_num, by rw [Hfi.out, Hnz.out]; simp, hb, HP1, Lib.hid (fun i h => by
                      by_cases e : i = j
                      · subst e; exact HA.out
                      · exact Hgj.out i (by omega))⟩
                    case measure => simp [intOf]; omega
        · obtain rfl : j = k := by omega
          have Hsum := Lib.hid (fullA_succ ps j)
          go_wp2
          go_roundw
          case rel => exact ⟨j + 1, by omega, by go_num, by rw [Hsum.out], hb, Lib.hid (fun i q h1 h2 => by
            by_cases e : i = j
            · subst e; exact Hgj.out q h2
            · exact Hgk.out i q (by omega) h2)⟩
          case measure => simp [intOf]; omega
    · obtain rfl : k = n := by omega
      have Hg := Lib.hid (Hgood.out (fun i q h1 h2 => Hgk.out i q (by omega) h2))
      clear hx
      go_wp2
      go_ret
      exact ⟨ret_bool (by rw [Hg.out, hn]), hbk⟩
end Go.Proofs.YtfdgifcllelhiaaGreatDoor
