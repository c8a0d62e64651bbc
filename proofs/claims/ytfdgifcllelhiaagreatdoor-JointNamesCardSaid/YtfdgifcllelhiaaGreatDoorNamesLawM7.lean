/- NamesLaw: texts of mine, merged: B2, B4, Srt4. -/
import Derived.Test.YtfdgifcllelhiaaGreatDoorNamesLawM4
import Derived.Test.YtfdgifcllelhiaaGreatDoorNamesLawM6
/- solid.bodyOf: the loops. -/
namespace Go.Proofs.YtfdgifcllelhiaaGreatDoor
open Go.RowKit Go.Shelf
attribute [local go_sem] Ext.cell Ext.frozen quietX

/-- The state of bodyOf: the body's block, the row of its corners. -/
def BSt (w : World) (pv : Value) (cs : List Q4) (wr : World) : Prop :=
  Below w.heap.size w wr ∧ wr.heap[w.heap.size]? = some (.cells #[.slice none 0 0, .slice none 0 0] 191 (0, 0)) ∧
  ∃ cv, wr.heap[w.heap.size + 1]? = some (.cells #[pv, cv] 191 (0, 0)) ∧ wr.ownsRow (w.heap.size + 2) 203 4 cv cs.length (cs.flatMap enc4)
theorem BSt.keep {w : World} {pv : Value} {cs : List Q4} {wr w' : World} (h : BSt w pv cs wr) (hb : Below wr.heap.size wr w') : BSt w pv cs w' := by
  obtain ⟨h1, h2, cv, h3, h4⟩ := h
  exact ⟨below_trans h1 hb, (hb.block _ (blk_lt h2)).trans h2, cv, (hb.block _ (blk_lt h3)).trans h3, own_below h4 hb⟩
theorem BSt.size {w : World} {pv : Value} {cs : List Q4} {wr : World} (h : BSt w pv cs wr) : w.heap.size + 2 ≤ wr.heap.size := by
  obtain ⟨_, _, cv, h3, _⟩ := h
  have := blk_lt h3; omega

/-- A block of another type than the row's, behind the body's, is kept by add. -/
theorem kept_blk {w w' : World} {bb base g : Nat} {cv : Value} {n : Nat} {xs : List Value} {cs : Array Value} {t : TypeId} (h : Kept2 w w' bb cv.ownBlock) (hown : w.ownsRow base 203 4 cv n xs)
    (hg : w.heap[g]? = some (.cells cs t (0, 0))) (hne : g ≠ bb) (ht : 203 ≠ t) : w'.heap[g]? = some (.cells cs t (0, 0)) :=
  (h.block g (blk_lt hg) hne (fun e => own_blk_ne hown hg ht e.symm)).trans hg

/-- What add does to the state. -/
theorem bst_add (ps : List Q4) (c : Q4) (pv : Value) (cs : List Q4) (w wr : World) (hps : ∀ p ∈ ps, okPl p) (hc : okCo c) (hl : ps.length ≤ 64) (hn : cs.length ≤ 1000000) (hpv : Q4s w pv ps) (h : BSt w pv cs wr) :
    Calls Tryz.prog 225 #[.pointer (some ⟨w.heap.size + 1, 0, none⟩), v4 c] wr fun e w' => e = .returned (.tuple #[]) ∧ BSt w pv (cs ++ if allowedB ps c then [c] else []) w' ∧ wr.heap.size ≤ w'.heap.size ∧
      ∀ g cells t, w.heap.size + 1 < g → 203 ≠ t → wr.heap[g]? = some (.cells cells t (0, 0)) → w'.heap[g]? = some (.cells cells t (0, 0)) := by
  obtain ⟨h1, h2, cv, h3, h4⟩ := h
  have hz := blk_lt h3
  cases ha : allowedB ps c with
  | true =>
    refine (add_yes ps c pv cv _ _ _ _ wr hps hc (by omega) hn h3 (hpv.below h1) h4 (by omega) ha).mono ?_
    rintro e w' ⟨rfl, hk, cv', hb', ho'⟩
    refine ⟨rfl, ⟨h1.trans (hk.below (by omega) (by omega) (fun k hk => ?_)), kept_blk hk h4 h2 (by omega) (by decide), cv', hb', ?_⟩, hk.size, fun g cells t hg ht hgb => kept_blk hk h4 hgb (by omega) ht⟩
    · obtain ⟨h, _⟩ := h4.lt k hk; omega
    · simpa [enc4] using ho'
  | false =>
    refine (add_no ps c pv cv _ wr hps hc (by omega) h3 (hpv.below h1) ha).mono ?_
    rintro e w' ⟨rfl, hk⟩
    refine ⟨rfl, ?_, hk.size, fun g cells t hg ht hgb => (hk.block g (blk_lt hgb)).trans hgb⟩
    simpa using (show BSt w pv cs wr from ⟨h1, h2, cv, h3, h4⟩).keep hk

set_option maxRecDepth 100000 in
set_option maxHeartbeats 2000000 in
theorem bodyOf_any (ps : List Q4) (pv : Value) (w : World) (hps : ∀ p ∈ ps, okPl p) (hl : ps.length ≤ 64) (hpv : Q4s w pv ps) :
    Calls Tryz.prog 197 #[pv] w fun e w' => ∃ cv, e = .returned (.agg #[pv, cv]) ∧ Below w.heap.size w w' ∧ w'.ownsRow (w.heap.size + 2) 203 4 cv (cornersOf ps).length ((cornersOf ps).flatMap enc4) := by
  have Hco : Hid (cornersOf ps = Lib.compact (sortP (raw ps ps.length))) := Lib.hid rfl
  generalize cornersOf ps = co at *
  obtain ⟨a, n, cc, rfl, hn, hnc, hx⟩ := hpv
  have HPV : Hid (Q4s w (.slice a n cc) ps) := Lib.hid ⟨a, n, cc, rfl, hn, hnc, hx⟩
  have HPS := Lib.hid hps
  clear hps
  go_enter Tryz.func197, Tryz.ntmps197
  go_wp2
  go_loopw [16] (fun i wr => ∃ k : Nat, k ≤ n ∧ i = .int .i64 k ∧ BSt w (.slice a n cc) (raw ps k) wr) (fun i _ => n - (intOf i).toNat)
  case atStart => exact ⟨0, by omega, rfl, by (repeat (first | exact Below.refl _ _ | assumption | (refine below_trans ?_ (Ext.below _)) | (refine Below.trans ?_ ((Ext.below _).mono (by first | omega | (simp; omega)))) | (refine Below.alloc ?_ (by first | omega | (simp; done) | (simp; omega)) _) | (refine Below.setCell ?_ (by first | omega | (simp; done) | (simp; omega)) _) | (refine Below.drew ?_))), (heap_old (by simp)).trans (heap_new rfl), _, heap_new (by simp), World.ownsRow_nil _ _ _ _⟩
  case round =>
    obtain ⟨k, hk, rfl, hst⟩ := hrel
    by_cases hlt : k < n
    · obtain ⟨b, off, rfl, hi⟩ := hx (by omega)
      obtain ⟨c0, c1, c2, c3⟩ := (hi.below hst.1) k (by omega)
      have Hok := Lib.hid (getP_ok HPS.out k (by omega))
      rw [getP_eq k (by omega)] at c0 c1 c2 c3
      obtain ⟨P, HP⟩ : ∃ P, Hid (getP ps k = P) := ⟨_, Lib.hid rfl⟩
      rw [HP.out] at c0 c1 c2 c3 Hok
      have Hst := Lib.hid hst
      clear hx hst
      obtain ⟨wo, rfl⟩ : ∃ wo : World, wo = wr := ⟨_, rfl⟩
      have HI := Lib.hid hi
      clear hi
      go_wp2
      go_loopw [25] (fun i wr => ∃ j : Nat, j ≤ k ∧ i = .int .i64 j ∧ BSt w (.slice (some ⟨b, off, none⟩) n cc) (raw ps k ++ rawI ps k j) wr ∧ Hid (wr.heap[wo.heap.size]? = some (.cells #[.int .i64 P.1, .int .i64 P.2.1, .int .i64 P.2.2.1, .int .i64 P.2.2.2] 92 (0, 0)))) (fun i _ => k - (intOf i).toNat)
      case atStart => exact ⟨0, by omega, rfl, by simpa [rawI_zero] using Hst.out.keep (by (repeat (first | exact Below.refl _ _ | assumption | (refine below_trans ?_ (Ext.below _)) | (refine Below.trans ?_ ((Ext.below _).mono (by first | omega | (simp; omega)))) | (refine Below.alloc ?_ (by first | omega | (simp; done) | (simp; omega)) _) | (refine Below.setCell ?_ (by first | omega | (simp; done) | (simp; omega)) _) | (refine Below.drew ?_)))), Lib.hid (heap_new rfl)⟩
      case round =>
        have zo := Hst.out.size
        clear Hst c0 c1 c2 c3
        obtain ⟨j, hj, rfl, hst, HPb⟩ := hrel
        by_cases hlt2 : j < k
        · obtain ⟨c0, c1, c2, c3⟩ := (HI.out.below hst.1) j (by omega)
          have HokQ := Lib.hid (getP_ok HPS.out j (by omega))
          rw [getP_eq j (by omega)] at c0 c1 c2 c3
          obtain ⟨Q, HQ⟩ : ∃ Q, Hid (getP ps j = Q) := ⟨_, Lib.hid rfl⟩
          rw [HQ.out] at c0 c1 c2 c3 HokQ
          have Hst := Lib.hid hst
          clear hst
          obtain ⟨wq, rfl⟩ : ∃ wq : World, wq = wr := ⟨_, rfl⟩
          have zq := blk_lt HPb.out
          have p0 : wq.cell? ⟨wo.heap.size, 0, none⟩ = some (.int .i64 P.1) := (blk_cell HPb.out 0).trans rfl
          have p1 : wq.cell? ⟨wo.heap.size, 1, none⟩ = some (.int .i64 P.2.1) := (blk_cell HPb.out 1).trans rfl
          have p2 : wq.cell? ⟨wo.heap.size, 2, none⟩ = some (.int .i64 P.2.2.1) := (blk_cell HPb.out 2).trans rfl
          have p3 : wq.cell? ⟨wo.heap.size, 3, none⟩ = some (.int .i64 P.2.2.2) := (blk_cell HPb.out 3).trans rfl
          have oP := Hok.out
          have oQ := HokQ.out
          simp only [okPl] at oP oQ
          go_wp2
          clear c0 c1 c2 c3
          have zo1 : wo.heap.size < wq.heap.size + 1 := by omega
          refine wp_region_float 5 [0, 1, 2, 3, 4] 6 [] (by kernel_rfl) (by kernel_rfl) _ rfl 161 #[.int .i64 0, .int .i64 0, .int .i64 0] (fun a W' => by go_simp) ?_
          simp only [opsAt, List.filterMap_cons, List.filterMap_nil, List.getElem?_toArray, List.getElem?_cons_zero, List.getElem?_cons_succ]
          repeat (refine wpX_step (fun K' hK' => ?_); go_simp; first | (refine hK' _ ?_; clear hK' K') | (apply Exists.intro; refine ⟨fun u => ?_, hK' _ ?_⟩; ((first | (go_at_call 223; exact quietX_ret (normal_any _ _ _ _ _)) | (go_at_call 211; exact quietX_ret (cross_any _ _ _ _ _ _ _ (by omega) (by omega) (by omega) (by omega) (by omega) (by omega))))); clear hK' K'))
          refine wpX_nil ?_
          intro wl gl hgl hbl Hgl
          have g0 : wl.cell? ⟨gl, 0, none⟩ = some (.int .i64 0) := (blk_cell Hgl 0).trans rfl
          have g1 : wl.cell? ⟨gl, 1, none⟩ = some (.int .i64 0) := (blk_cell Hgl 1).trans rfl
          have g2 : wl.cell? ⟨gl, 2, none⟩ = some (.int .i64 0) := (blk_cell Hgl 2).trans rfl
          have gf := blk_free Hgl
          have Hb := Lib.hid Hgl
          have HL : Hid (crossP (nrm P) (nrm Q) = (P.2.1 * Q.2.2.1 - P.2.2.1 * Q.2.1, P.2.2.1 * Q.1 - P.1 * Q.2.2.1, P.1 * Q.2.1 - P.2.1 * Q.1)) := Lib.hid rfl
          have bL0 := cross_bd oP.2.1 oP.2.2.1 oQ.2.1 oQ.2.2.1
          have bL1 := cross_bd oP.2.2.1 oP.1 oQ.2.2.1 oQ.1
          have bL2 := cross_bd oP.1 oP.2.1 oQ.1 oQ.2.1
          clear Hgl p0 p1 p2 p3
          generalize P.2.1 * Q.2.2.1 - P.2.2.1 * Q.2.1 = l0 at *
          generalize P.2.2.1 * Q.1 - P.1 * Q.2.2.1 = l1 at *
          generalize P.1 * Q.2.1 - P.2.1 * Q.1 = l2 at *
          go_frame
          iterate 1 (refine wpList_step (fun K hK => ?_); go_simp; refine hK _ _ ?_; clear hK K)
          refine NoPanic.normal ?_
          have hv := equalIn_vec l0 l1 l2 0 0 0
          obtain ⟨wm, Hwm⟩ : ∃ wm, Hid (((wl.setCell ⟨gl, 0, none⟩ (.int .i64 l0)).setCell ⟨gl, 1, none⟩ (.int .i64 l1)).setCell ⟨gl, 2, none⟩ (.int .i64 l2) = wm) := ⟨_, Lib.hid rfl⟩
          have hbm : Below (wq.alloc (.cells #[.int .i64 Q.1, .int .i64 Q.2.1, .int .i64 Q.2.2.1, .int .i64 Q.2.2.2] 92)).heap.size (wq.alloc (.cells #[.int .i64 Q.1, .int .i64 Q.2.1, .int .i64 Q.2.2.1, .int .i64 Q.2.2.2] 92)) wm := by
            rw [← Hwm.out]; exact ((hbl.setCell hgl _).setCell hgl _).setCell hgl _
          have Hst1 : Hid (BSt w (.slice (some ⟨b, off, none⟩) n cc) (raw ps k ++ rawI ps k j) wm) := Lib.hid ((Hst.out.keep (by (repeat (first | exact Below.refl _ _ | assumption | (refine below_trans ?_ (Ext.below _)) | (refine Below.trans ?_ ((Ext.below _).mono (by first | omega | (simp; omega)))) | (refine Below.alloc ?_ (by first | omega | (simp; done) | (simp; omega)) _) | (refine Below.setCell ?_ (by first | omega | (simp; done) | (simp; omega)) _) | (refine Below.drew ?_))))).keep hbm)
          have HP1 : Hid (wm.heap[wo.heap.size]? = some (.cells #[.int .i64 P.1, .int .i64 P.2.1, .int .i64 P.2.2.1, .int .i64 P.2.2.2] 92 (0, 0))) := Lib.hid ((hbm.block _ (by simp; omega)).trans ((heap_old zq).trans HPb.out))
          have HQ1 : Hid (wm.heap[wq.heap.size]? = some (.cells #[.int .i64 Q.1, .int .i64 Q.2.1, .int .i64 Q.2.2.1, .int .i64 Q.2.2.2] 92 (0, 0))) := Lib.hid ((hbm.block _ (by simp)).trans (heap_new rfl))
          have Hl : Hid (wm.heap[gl]? = some (.cells #[.int .i64 l0, .int .i64 l1, .int .i64 l2] 161 (0, 0))) := by rw [← Hwm.out]; exact Lib.hid (blk_set (blk_set (blk_set Hb.out 0 _) 1 _) 2 _)
          have zg : wq.heap.size + 1 ≤ gl := by simpa using hgl
          rw [Hwm.out]
          clear Hst hbl hbm g0 g1 g2 gf Hb Hwm HPb hgl
          have e0 : wm.cell? ⟨gl, 0, none⟩ = some (.int .i64 l0) := (blk_cell Hl.out 0).trans rfl
          have e1 : wm.cell? ⟨gl, 1, none⟩ = some (.int .i64 l1) := (blk_cell Hl.out 1).trans rfl
          have e2 : wm.cell? ⟨gl, 2, none⟩ = some (.int .i64 l2) := (blk_cell Hl.out 2).trans rfl
          have Hsum := Lib.hid (rawI_succ ps k j)
          by_cases hz : l0 = 0 ∧ l1 = 0 ∧ l2 = 0
          · have hb0 : (l0 == 0 && l1 == 0 && l2 == 0) = true := by simp [hz]
            have Hz := Lib.hid hz
            rw [hb0] at hv
            clear hz hb0
            go_wp2
            go_roundw
            case rel => exact ⟨j + 1, by omega, by go_num, by rw [Hsum.out, rawK_flat ps k j j (by rw [HP.out, HQ.out, HL.out, Hz.out.1, Hz.out.2.1, Hz.out.2.2])]; simpa using Hst1.out, HP1⟩
            case measure => simp [intOf]; omega
          · have hb0 : (l0 == 0 && l1 == 0 && l2 == 0) = false := by rw [Bool.eq_false_iff]; simp; omega
            rw [hb0] at hv
            clear hb0
            go_wp2
            go_loopw [42] (fun i wr => ∃ m : Nat, m ≤ j ∧ i = .int .i64 m ∧ BSt w (.slice (some ⟨b, off, none⟩) n cc) (raw ps k ++ rawI ps k j ++ rawK ps k j m) wr ∧ Hid (wr.heap[wo.heap.size]? = some (.cells #[.int .i64 P.1, .int .i64 P.2.1, .int .i64 P.2.2.1, .int .i64 P.2.2.2] 92 (0, 0))) ∧ Hid (wr.heap[wq.heap.size]? = some (.cells #[.int .i64 Q.1, .int .i64 Q.2.1, .int .i64 Q.2.2.1, .int .i64 Q.2.2.2] 92 (0, 0))) ∧ Hid (wr.heap[gl]? = some (.cells #[.int .i64 l0, .int .i64 l1, .int .i64 l2] 161 (0, 0)))) (fun i _ => j - (intOf i).toNat)
            case atStart => exact ⟨0, by omega, rfl, by simpa [rawK_zero] using Hst1.out, HP1, HQ1, Hl⟩
            case round =>
              clear e0 e1 e2 Hst1 HP1 HQ1 Hl hv hz
              obtain ⟨m, hm, rfl, hst, HP1, HQ1, Hl⟩ := hrel
              by_cases hlt3 : m < j
              · obtain ⟨c0, c1, c2, c3⟩ := (HI.out.below hst.1) m (by omega)
                have HokR := Lib.hid (getP_ok HPS.out m (by omega))
                rw [getP_eq m (by omega)] at c0 c1 c2 c3
                obtain ⟨R, HR⟩ : ∃ R, Hid (getP ps m = R) := ⟨_, Lib.hid rfl⟩
                rw [HR.out] at c0 c1 c2 c3 HokR
                have Hst := Lib.hid hst
                clear hst
                obtain ⟨wz, rfl⟩ : ∃ wz : World, wz = wr := ⟨_, rfl⟩
                have zP := blk_lt HP1.out
                have zQ := blk_lt HQ1.out
                have zL := blk_lt Hl.out
                have e0 : wz.cell? ⟨gl, 0, none⟩ = some (.int .i64 l0) := (blk_cell Hl.out 0).trans rfl
                have e1 : wz.cell? ⟨gl, 1, none⟩ = some (.int .i64 l1) := (blk_cell Hl.out 1).trans rfl
                have e2 : wz.cell? ⟨gl, 2, none⟩ = some (.int .i64 l2) := (blk_cell Hl.out 2).trans rfl
                have oR := HokR.out
                simp only [okPl] at oR
                go_wp2
                clear c0 c1 c2 c3
                have zL1 : gl < wz.heap.size + 1 := by omega
                refine wp_region_quietB (by kernel_rfl) (by kernel_rfl) ?_
                repeat (first | go_big_quiet_step ((first | (go_at_call 223; exact quietB_ret (normal_any _ _ _ _ _)) | (go_at_call 224; exact quietB_ret (dot_any _ _ _ _ _ _ _ (by omega) (by omega) (by omega) (by omega) (by omega) (by omega))))) | quiet_step ((first | (go_at_call 223; exact quietB_ret (normal_any _ _ _ _ _)) | (go_at_call 224; exact quietB_ret (dot_any _ _ _ _ _ _ _ (by omega) (by omega) (by omega) (by omega) (by omega) (by omega))))))
                refine wpQuiet_nil ?_
                rintro _ ⟨u, rfl⟩
                have Hden : Hid (denP P Q R = l0 * R.1 + l1 * R.2.1 + l2 * R.2.2.1) := Lib.hid (by show dotP (crossP (nrm P) (nrm Q)) (nrm R) = _; rw [HL.out]; rfl)
                have bden := den_bd P Q R Hok.out HokQ.out HokR.out
                rw [Hden.out] at bden
                have Hst1 : Hid (BSt w (.slice (some ⟨b, off, none⟩) n cc) (raw ps k ++ rawI ps k j ++ rawK ps k j m) u.val) := Lib.hid (Hst.out.keep (below_trans (by (repeat (first | exact Below.refl _ _ | assumption | (refine below_trans ?_ (Ext.below _)) | (refine Below.trans ?_ ((Ext.below _).mono (by first | omega | (simp; omega)))) | (refine Below.alloc ?_ (by first | omega | (simp; done) | (simp; omega)) _) | (refine Below.setCell ?_ (by first | omega | (simp; done) | (simp; omega)) _) | (refine Below.drew ?_)))) u.below))
                have HP2 : Hid (u.val.heap[wo.heap.size]? = some (.cells #[.int .i64 P.1, .int .i64 P.2.1, .int .i64 P.2.2.1, .int .i64 P.2.2.2] 92 (0, 0))) := Lib.hid ((u.below.block _ (by simp; omega)).trans ((heap_old zP).trans HP1.out))
                have HQ2 : Hid (u.val.heap[wq.heap.size]? = some (.cells #[.int .i64 Q.1, .int .i64 Q.2.1, .int .i64 Q.2.2.1, .int .i64 Q.2.2.2] 92 (0, 0))) := Lib.hid ((u.below.block _ (by simp; omega)).trans ((heap_old zQ).trans HQ1.out))
                have Hl2 : Hid (u.val.heap[gl]? = some (.cells #[.int .i64 l0, .int .i64 l1, .int .i64 l2] 161 (0, 0))) := Lib.hid ((u.below.block _ (by simp; omega)).trans ((heap_old zL).trans Hl.out))
                have HR2 : Hid (u.val.heap[wz.heap.size]? = some (.cells #[.int .i64 R.1, .int .i64 R.2.1, .int .i64 R.2.2.1, .int .i64 R.2.2.2] 92 (0, 0))) := Lib.hid ((u.below.block _ (by simp)).trans (heap_new rfl))
                have Hraw := Lib.hid (rawK_succ ps k j m)
                have Hr1 : Hid (raw1 ps k j m = if denP P Q R = 0 then [] else if allowedB ps (meetP P Q R (denP P Q R)) then [meetP P Q R (denP P Q R)] else []) := Lib.hid (by unfold raw1; rw [HP.out, HQ.out, HR.out])
                clear e0 e1 e2 Hst HP1 HQ1 Hl oR
                rw [Hden.out] at Hr1
                generalize l0 * R.1 + l1 * R.2.1 + l2 * R.2.2.1 = den at *
                by_cases hd0 : den = 0
                · have Hd0 := Lib.hid hd0
                  have hdb : (den != 0) = false := by simp [hd0]
                  clear hd0
                  go_wp2
                  go_roundw
                  case rel => exact ⟨m + 1, by omega, by go_num, by rw [Hraw.out, Hr1.out, if_pos Hd0.out]; simpa using Hst1.out, HP2, HQ2, Hl2⟩
                  case measure => simp [intOf]; omega
                · have hdb : (den != 0) = true := by simpa using hd0
                  have p0 : u.val.cell? ⟨wo.heap.size, 0, none⟩ = some (.int .i64 P.1) := (blk_cell HP2.out 0).trans rfl
                  have p1 : u.val.cell? ⟨wo.heap.size, 1, none⟩ = some (.int .i64 P.2.1) := (blk_cell HP2.out 1).trans rfl
                  have p2 : u.val.cell? ⟨wo.heap.size, 2, none⟩ = some (.int .i64 P.2.2.1) := (blk_cell HP2.out 2).trans rfl
                  have p3 : u.val.cell? ⟨wo.heap.size, 3, none⟩ = some (.int .i64 P.2.2.2) := (blk_cell HP2.out 3).trans rfl
                  have q0 : u.val.cell? ⟨wq.heap.size, 0, none⟩ = some (.int .i64 Q.1) := (blk_cell HQ2.out 0).trans rfl
                  have q1 : u.val.cell? ⟨wq.heap.size, 1, none⟩ = some (.int .i64 Q.2.1) := (blk_cell HQ2.out 1).trans rfl
                  have q2 : u.val.cell? ⟨wq.heap.size, 2, none⟩ = some (.int .i64 Q.2.2.1) := (blk_cell HQ2.out 2).trans rfl
                  have q3 : u.val.cell? ⟨wq.heap.size, 3, none⟩ = some (.int .i64 Q.2.2.2) := (blk_cell HQ2.out 3).trans rfl
                  have r0 : u.val.cell? ⟨wz.heap.size, 0, none⟩ = some (.int .i64 R.1) := (blk_cell HR2.out 0).trans rfl
                  have r1 : u.val.cell? ⟨wz.heap.size, 1, none⟩ = some (.int .i64 R.2.1) := (blk_cell HR2.out 1).trans rfl
                  have r2 : u.val.cell? ⟨wz.heap.size, 2, none⟩ = some (.int .i64 R.2.2.1) := (blk_cell HR2.out 2).trans rfl
                  have r3 : u.val.cell? ⟨wz.heap.size, 3, none⟩ = some (.int .i64 R.2.2.2) := (blk_cell HR2.out 3).trans rfl
                  have bl : (raw ps k ++ rawI ps k j ++ rawK ps k j m).length ≤ 1000000 := by
                    have := raw_len ps k (by omega); have := rawI_len ps k j (by omega); have := rawK_len ps k j m
                    simp only [List.length_append]; omega
                  go_wp2_with fail
                  refine (meeting_any P Q R den _ Hok.out HokQ.out HokR.out (by omega) hd0).mono ?_
                  rintro e wy ⟨rfl, hby⟩
                  clear p0 p1 p2 p3 q0 q1 q2 q3 r0 r1 r2 r3
                  go_wp2_with fail
                  refine (bst_add ps _ _ _ w wy HPS.out (meetP_ok P Q R den Hok.out HokQ.out HokR.out (by omega) hd0) hl bl HPV.out (Hst1.out.keep hby)).mono ?_
                  rintro e wx ⟨rfl, hst2, hsz2, hkeep⟩
                  have Hst2 := Lib.hid hst2
                  have Hk2 := Lib.hid hkeep
                  clear hst2 hkeep
                  go_wp2
                  go_roundw
                  case rel => exact ⟨m + 1, by omega, by go_num, by rw [Hraw.out, Hr1.out, if_neg hd0]; simpa using Hst2.out, Lib.hid (Hk2.out _ _ _ (by omega) (by decide) ((hby.block _ (blk_lt HP2.out)).trans HP2.out)), Lib.hid (Hk2.out _ _ _ (by omega) (by decide) ((hby.block _ (blk_lt HQ2.out)).trans HQ2.out)), Lib.hid (Hk2.out _ _ _ (by omega) (by decide) ((hby.block _ (blk_lt Hl2.out)).trans Hl2.out))⟩
                  case measure => simp [intOf]; omega
              · go_wp2
                go_roundw
                case rel => exact ⟨j + 1, by omega, by go_num, by rw [Hsum.out]; obtain rfl : m = j := (by omega); simpa using hst, HP1⟩
                case measure => simp [intOf]; omega
        · obtain rfl : j = k := by omega
          have Hsum := Lib.hid (raw_succ ps j)
          have Hst := Lib.hid hst
          clear hst
          go_wp2
          go_roundw
          case rel => exact ⟨j + 1, by omega, by go_num, by rw [Hsum.out]; exact Hst.out⟩
          case measure => simp [intOf]; omega
    · obtain rfl : k = n := by omega
      obtain ⟨h1, h2, cv, h3, h4⟩ := hst
      have k1 : wr.cell? ⟨w.heap.size + 1, 1, none⟩ = some cv := (blk_cell h3 1).trans rfl
      have z1 := blk_lt h3
      have Hst := Lib.hid (And.intro h1 (And.intro h2 (And.intro h3 h4)))
      clear hx h1 h2 h3 h4
      subst hn
      have Hrn := Lib.hid (raw_nrm ps HPS.out ps.length (Nat.le_refl _))
      have Hrl := Lib.hid (raw_len ps ps.length hl)
      go_wp2_with fail
      refine (sort_any (raw ps ps.length) Hrn.out _ _ cv wr rfl (by have := Hrl.out; omega) Hst.out.2.2.2).mono ?_
      rintro e w1 ⟨rfl, hown1, hg1⟩
      have hne1 : some (w.heap.size + 1) ≠ cv.ownBlock := fun e => own_blk_ne Hst.out.2.2.2 Hst.out.2.2.1 (by decide) e.symm
      have hne0 : some w.heap.size ≠ cv.ownBlock := fun e => own_blk_ne Hst.out.2.2.2 Hst.out.2.1 (by decide) e.symm
      have b1 : w1.heap[w.heap.size + 1]? = some (.cells #[.slice a ps.length cc, cv] 191 (0, 0)) := (hg1.block _ z1 hne1).trans Hst.out.2.2.1
      have b0 : w1.heap[w.heap.size]? = some (.cells #[.slice none 0 0, .slice none 0 0] 191 (0, 0)) := (hg1.block _ (blk_lt Hst.out.2.1) hne0).trans Hst.out.2.1
      have hbw1 : Below w.heap.size w w1 := Hst.out.1.grown hg1 Hst.out.1.size (fun j hj => by obtain ⟨h, _⟩ := Hst.out.2.2.2.lt j hj; omega)
      have k2 : w1.cell? ⟨w.heap.size + 1, 1, none⟩ = some cv := (blk_cell b1 1).trans rfl
      have Ho1 := Lib.hid hown1
      have Hb0 := Lib.hid b0
      have Hb1 := Lib.hid b1
      clear Hst k1 z1 hg1 hown1 b0 b1 hne0 hne1
      go_wp2_with fail
      refine (compact_any (sortP (raw ps ps.length)) _ _ cv w1 (sortP_len _) (by have := Hrl.out; omega) Ho1.out).mono ?_
      rintro e w2 ⟨cv', rfl, hg2, ⟨a', m', c', rfl⟩, hown2⟩
      have hne1 : some (w.heap.size + 1) ≠ cv.ownBlock := fun e => own_blk_ne Ho1.out Hb1.out (by decide) e.symm
      have hne0 : some w.heap.size ≠ cv.ownBlock := fun e => own_blk_ne Ho1.out Hb0.out (by decide) e.symm
      have b1 : w2.heap[w.heap.size + 1]? = some (.cells #[.slice a ps.length cc, cv] 191 (0, 0)) := (hg2.block _ (blk_lt Hb1.out) hne1).trans Hb1.out
      have b0 : w2.heap[w.heap.size]? = some (.cells #[.slice none 0 0, .slice none 0 0] 191 (0, 0)) := (hg2.block _ (blk_lt Hb0.out) hne0).trans Hb0.out
      have hbw2 : Below w.heap.size w w2 := hbw1.grown hg2 hbw1.size (fun j hj => by obtain ⟨h, _⟩ := Ho1.out.lt j hj; omega)
      have k0 : w2.cell? ⟨w.heap.size + 1, 0, none⟩ = some (.slice a ps.length cc) := (blk_cell b1 0).trans rfl
      have k3 : w2.cell? ⟨w.heap.size + 1, 1, none⟩ = some cv := (blk_cell b1 1).trans rfl
      have f1 := blk_free b1
      have r0 : w2.cell? ⟨w.heap.size, 0, none⟩ = some (.slice none 0 0) := (blk_cell b0 0).trans rfl
      have r1 : w2.cell? ⟨w.heap.size, 1, none⟩ = some (.slice none 0 0) := (blk_cell b0 1).trans rfl
      have f0 := blk_free b0
      rw [← Hco.out] at hown2
      have Ho2 := Lib.hid hown2
      have hfar1 := Lib.hid (fun e => own_blk_ne hown2 b1 (by decide) e.symm : some (w.heap.size + 1) ≠ (Value.slice a' m' c').ownBlock)
      have hfar0 := Lib.hid (fun e => own_blk_ne hown2 b0 (by decide) e.symm : some w.heap.size ≠ (Value.slice a' m' c').ownBlock)
      clear hown2 b0 b1 hg2 Ho1 Hb0 Hb1 k2 hbw1 hne0 hne1
      go_wp2
      refine bodyPost_ret (v := .agg #[.slice a ps.length cc, .slice a' m' c']) (by simp [results, Tryz.results197, go_sem, r0, r1]) rfl ⟨_, rfl, ?_, ?_⟩
      · exact ((hbw2.setCell (by simp) _).setCell (by simp) _).setCell (by simp) _
      · exact own_setCell_far (own_setCell_far (own_setCell_far Ho2.out _ _ hfar1.out) _ _ hfar0.out) _ _ hfar0.out
end Go.Proofs.YtfdgifcllelhiaaGreatDoor
/- solid.body: solidly. -/
namespace Go.Proofs.YtfdgifcllelhiaaGreatDoor
open Go.RowKit Go.Shelf Go.Sort Go.Lib
attribute [local go_sem] Ext.cell Ext.frozen

/-- p has a corner within. -/
def innerB (cs : List Q4) (p : Q4) : Bool := cs.any fun c => decide (sd p c < 0)
def solidB (ps cs : List Q4) : Bool := ps.all (innerB cs) && decide (0 < ps.length)

set_option maxHeartbeats 1000000 in
theorem solidly_closure (p c : Q4) (b : Nat) (w : World) (hp : okPl p) (hc : okCo c) (h0 : w.cell? ⟨b, 0, none⟩ = some (.int .i64 p.1)) (h1 : w.cell? ⟨b, 1, none⟩ = some (.int .i64 p.2.1)) (h2 : w.cell? ⟨b, 2, none⟩ = some (.int .i64 p.2.2.1)) (h3 : w.cell? ⟨b, 3, none⟩ = some (.int .i64 p.2.2.2)) :
    Calls Tryz.prog 230 #[v4 c, .pointer (some ⟨b, 0, none⟩)] w (Ret w (.bool (decide (sd p c < 0)))) := by
  have hs := fun W => Lib.hid (side_q p c W hp hc)
  have hlt := World.block_lt_of_cell? w _ h0
  go_enter Tryz.func230, Tryz.ntmps230
  go_wp2_with fail
  refine ((hs _).out).mono ?_
  rintro e w1 ⟨rfl, hb1⟩
  go_wp2
  go_ret
  exact ⟨rfl, below_trans (by (repeat (first | exact Below.refl _ _ | assumption | (refine below_trans ?_ (Ext.below _)) | (refine Below.trans ?_ ((Ext.below _).mono (by first | omega | (simp; omega)))) | (refine Below.alloc ?_ (by first | omega | (simp; done) | (simp; omega)) _) | (refine Below.setCell ?_ (by first | omega | (simp; done) | (simp; omega)) _) | (refine Below.drew ?_)))) hb1⟩
theorem eg_solid1 : ∀ args w, (callFunc 230 args).run Tryz.prog w = .ok (.enter 230 args) w := enters_of Tryz.func230 (by kernel_rfl) rfl
theorem solid_pred (p c : Q4) (b : Nat) (w : World) (hp : okPl p) (hc : okCo c) (hb : w.heap[b]? = some (.cells #[.int .i64 p.1, .int .i64 p.2.1, .int .i64 p.2.2.1, .int .i64 p.2.2.2] 92 (0, 0))) :
    PredIn Tryz.prog 230 #[.pointer (some ⟨b, 0, none⟩)] w (v4 c) (decide (sd p c < 0)) :=
  fun _ hw => solidly_closure p c b _ hp hc (below_cell hw ((blk_cell hb 0).trans rfl)) (below_cell hw ((blk_cell hb 1).trans rfl)) (below_cell hw ((blk_cell hb 2).trans rfl)) (below_cell hw ((blk_cell hb 3).trans rfl))

set_option maxHeartbeats 1000000 in
theorem solidly_any (ps cs : List Q4) (pv cv : Value) (w : World) (hps : ∀ p ∈ ps, okPl p) (hcs : ∀ c ∈ cs, okCo c) (hl : ps.length ≤ 1000000) (hlc : cs.length ≤ 1000000) (hpv : Q4s w pv ps) (hcv : Q4s w cv cs) :
    Calls Tryz.prog 198 #[.agg #[pv, cv]] w (Ret w (.bool (solidB ps cs))) := by
  obtain ⟨a, n, cc, rfl, hn, hnc, hx⟩ := hpv
  obtain ⟨a', n', cc', rfl, hn', hnc', hx'⟩ := hcv
  have HCV : Hid (Q4s w (.slice a' n' cc') cs) := Lib.hid ⟨a', n', cc', rfl, hn', hnc', hx'⟩
  have HPS := Lib.hid hps
  have HCS := Lib.hid hcs
  have Hyes : Hid ((∀ i (h : i < ps.length), innerB cs ps[i] = true) → solidB ps cs = decide (0 < ps.length)) := Lib.hid (fun h => by
    have : ps.all (innerB cs) = true := by rw [List.all_eq_true]; intro x hx; obtain ⟨i, hi, rfl⟩ := List.getElem_of_mem hx; exact h i hi
    simp [solidB, this])
  have Hno : Hid (∀ i (h : i < ps.length), innerB cs ps[i] = false → solidB ps cs = false) := Lib.hid (fun i hi h => by
    have : ps.all (innerB cs) = false := by rw [List.all_eq_false]; exact ⟨_, List.getElem_mem hi, by simp [h]⟩
    simp [solidB, this])
  clear hps hcs hx'
  go_enter Tryz.func198, Tryz.ntmps198
  go_wp2
  go_loopw [8] (fun i wr => ∃ k : Nat, k ≤ n ∧ i = .int .i64 k ∧ Below w.heap.size w wr ∧ Hid (wr.heap[w.heap.size]? = some (.cells #[.slice a n cc, .slice a' n' cc'] 191 (0, 0))) ∧ Hid (∀ i (h : i < ps.length), i < k → innerB cs ps[i] = true)) (fun i _ => n - (intOf i).toNat)
  case atStart => exact ⟨0, by omega, rfl, by (repeat (first | exact Below.refl _ _ | assumption | (refine below_trans ?_ (Ext.below _)) | (refine Below.trans ?_ ((Ext.below _).mono (by first | omega | (simp; omega)))) | (refine Below.alloc ?_ (by first | omega | (simp; done) | (simp; omega)) _) | (refine Below.setCell ?_ (by first | omega | (simp; done) | (simp; omega)) _) | (refine Below.drew ?_))), Lib.hid (heap_new rfl), Lib.hid (fun i _ h => by omega)⟩
  case round =>
    obtain ⟨k, hk, rfl, hb, HB, Hz⟩ := hrel
    have zB := blk_lt HB.out
    by_cases hlt : k < n
    · obtain ⟨b, off, rfl, hi⟩ := hx (by omega)
      obtain ⟨c0, c1, c2, c3⟩ := (hi.below hb) k (by omega)
      have Hok := Lib.hid (HPS.out (ps[k]) (by simp))
      have Hnk := Lib.hid (Hno.out k (by omega))
      obtain ⟨p, Hp⟩ : ∃ p, Hid (ps[k] = p) := ⟨_, Lib.hid rfl⟩
      rw [Hp.out] at c0 c1 c2 c3 Hok Hnk
      have k1 : wr.cell? ⟨w.heap.size, 1, none⟩ = some (.slice a' n' cc') := (blk_cell HB.out 1).trans rfl
      obtain ⟨W, HW⟩ : ∃ W, Hid (W = wr.alloc (.cells #[.int .i64 p.1, .int .i64 p.2.1, .int .i64 p.2.2.1, .int .i64 p.2.2.2] 92)) := ⟨_, Lib.hid rfl⟩
      have hbW : Below wr.heap.size wr W := by rw [HW.out]; (repeat (first | exact Below.refl _ _ | assumption | (refine below_trans ?_ (Ext.below _)) | (refine Below.trans ?_ ((Ext.below _).mono (by first | omega | (simp; omega)))) | (refine Below.alloc ?_ (by first | omega | (simp; done) | (simp; omega)) _) | (refine Below.setCell ?_ (by first | omega | (simp; done) | (simp; omega)) _) | (refine Below.drew ?_)))
      have hblk : W.heap[wr.heap.size]? = some (.cells #[.int .i64 p.1, .int .i64 p.2.1, .int .i64 p.2.2.1, .int .i64 p.2.2.2] 92 (0, 0)) := by rw [HW.out]; exact heap_new rfl
      have hcon := containsFunc_corner (.slice a' n' cc') cs (fun c => decide (sd p c < 0)) _ _ W ((HCV.out.below hb).below hbW) (by omega) eg_solid1 (fun c hc => solid_pred p c _ W Hok.out (HCS.out c hc) hblk)
      have hin : (cs.any fun c => decide (sd p c < 0)) = innerB cs p := rfl
      rw [hin, HW.out] at hcon
      have Hcon := Lib.hid hcon
      clear hcon hin hblk hbW hx hi
      cases hib : innerB cs p with
      | true =>
        have Hib := Lib.hid hib
        rw [hib] at Hcon
        clear hib HW
        go_wp2_with fail
        refine (Hcon.out).mono ?_
        rintro e w1 ⟨rfl, hb1⟩
        go_wp2
        go_roundw
        case rel => exact ⟨k + 1, by omega, by go_num, below_trans hb (below_trans (by (repeat (first | exact Below.refl _ _ | assumption | (refine below_trans ?_ (Ext.below _)) | (refine Below.trans ?_ ((Ext.below _).mono (by first | omega | (simp; omega)))) | (refine Below.alloc ?_ (by first | omega | (simp; done) | (simp; omega)) _) | (refine Below.setCell ?_ (by first | omega | (simp; done) | (simp; omega)) _) | (refine Below.drew ?_)))) hb1), Lib.hid ((hb1.block _ (by simp; omega)).trans ((heap_old zB).trans HB.out)), Lib.hid (fun i hi hik => by
          by_cases e : i = k
          · subst e; rw [Hp.out]; exact Hib.out
          · exact Hz.out i hi (by omega))⟩
        case measure => simp [intOf]; omega
      | false =>
        have Hib := Lib.hid hib
        rw [hib] at Hcon
        clear hib HW
        go_wp2_with fail
        refine (Hcon.out).mono ?_
        rintro e w1 ⟨rfl, hb1⟩
        go_wp2
        go_ret
        exact ⟨ret_bool (Hnk.out Hib.out).symm, below_trans hb (below_trans (by (repeat (first | exact Below.refl _ _ | assumption | (refine below_trans ?_ (Ext.below _)) | (refine Below.trans ?_ ((Ext.below _).mono (by first | omega | (simp; omega)))) | (refine Below.alloc ?_ (by first | omega | (simp; done) | (simp; omega)) _) | (refine Below.setCell ?_ (by first | omega | (simp; done) | (simp; omega)) _) | (refine Below.drew ?_)))) hb1)⟩
    · have Hy := Lib.hid (Hyes.out (fun i hi => Hz.out i hi (by omega)))
      have k0 : wr.cell? ⟨w.heap.size, 0, none⟩ = some (.slice a n cc) := (blk_cell HB.out 0).trans rfl
      clear hx
      go_wp2
      go_ret
      exact ⟨ret_bool (by rw [Hy.out, hn]), hb⟩
end Go.Proofs.YtfdgifcllelhiaaGreatDoor
/- slices.SortFunc and slices.Compact at the planes. -/
namespace Go.Proofs.YtfdgifcllelhiaaGreatDoor
open Go.RowKit Go.Shelf Go.Sort Go.Lib

theorem cmpPl_neg (p q : Q4) : cmpPl p q < 0 ↔ p.1 < q.1 ∨ (p.1 = q.1 ∧ (p.2.1 < q.2.1 ∨ (p.2.1 = q.2.1 ∧ (p.2.2.1 < q.2.2.1 ∨ (p.2.2.1 = q.2.2.1 ∧ p.2.2.2 < q.2.2.2))))) := by
  unfold cmpPl
  rw [orL4_neg, sgn_neg_iff, sgn_zero_iff, sgn_neg_iff, sgn_zero_iff, sgn_neg_iff, sgn_zero_iff, sgn_neg_iff]
theorem ltPl (x y : Q4) : ltOf cmpPl x y = decide (cmpPl x y < 0) := rfl
theorem swoPl : SWO (ltOf cmpPl) where
  irrefl x := by rw [ltPl, decide_eq_false_iff_not, cmpPl_neg]; omega
  trans x y z h1 h2 := by
    rw [ltPl, decide_eq_true_eq, cmpPl_neg] at *
    omega
  ntrans x y z h1 h2 := by
    rw [ltPl, decide_eq_false_iff_not, cmpPl_neg] at *
    omega
theorem totPl (x y : Q4) (h1 : ltOf cmpPl x y = false) (h2 : ltOf cmpPl y x = false) : x = y := by
  rw [ltPl, decide_eq_false_iff_not, cmpPl_neg] at h1 h2
  obtain ⟨a, b, c, d⟩ := x
  obtain ⟨a', b', c', d'⟩ := y
  simp only at h1 h2
  have : a = a' ∧ b = b' ∧ c = c' ∧ d = d' := by omega
  obtain ⟨rfl, rfl, rfl, rfl⟩ := this
  rfl
theorem enc4_one (x : Q4) : ∀ v ∈ enc4 x, v.oneCell' = true := fun v hv => by simp [enc4] at hv; rcases hv with rfl | rfl | rfl | rfl <;> rfl
theorem isAgg_plane : ∀ w, (isAgg 92).run Tryz.prog w = .ok true w := fun _ => by kernel_rfl
theorem sizeOf_plane : ∀ w, (Go.sizeOf 92).run Tryz.prog w = .ok 4 w := fun _ => by kernel_rfl
theorem eg_cmpPl : ∀ args w, (callFunc 205 args).run Tryz.prog w = .ok (.enter 205 args) w := enters_of Tryz.func205 (by kernel_rfl) rfl
theorem cmpLays_pl (blk off size : Nat) (w : World) : CmpLays Tryz.prog 205 #[] enc4 4 cmpPl blk off size w := fun _ _ _ _ x y => by
  obtain ⟨x0, x1, x2, x3⟩ := x
  obtain ⟨y0, y1, y2, y3⟩ := y
  exact comparePlanes_any x0 x1 x2 x3 y0 y1 y2 y3 _

/-- Planes in their order. -/
def sortL (ps : List Q4) : List Q4 := ps.mergeSort (fun x y => !decide (cmpPl y x < 0))
theorem sortL_len (ps : List Q4) : (sortL ps).length = ps.length := by simp [sortL]
theorem sortPlanes_any (ps : List Q4) (base n : Nat) (v : Value) (w : World) (hn : ps.length = n) (hs : n < 4611686018427387904)
    (hown : w.ownsRow base 92 4 v n (ps.flatMap enc4)) :
    Calls Tryz.prog 204 #[v, .func (.func 205) #[] #[]] w fun e w' =>
      e = .returned (.tuple #[]) ∧ w'.ownsRow base 92 4 v n ((sortL ps).flatMap enc4) ∧ w.grownBy w' v.ownBlock := by
  by_cases h0 : 0 < n
  · obtain ⟨g, cap, rfl, _, hg⟩ := own_form hown h0
    have hd : ps.toArray.size = n := by simp [hn]
    have hcon := AnyQ.slices_SortFunc_total Tryz.sortPlane 4 isAgg_plane sizeOf_plane enc4 enc4_len enc4_one cmpPl swoPl 205 #[] g 0 cap ps.toArray w eg_cmpPl (cmpLays_pl _ _ _ _)
      (own_holdsK enc4 (by decide) enc4_len _ hd (by simpa using hown)) hg (by rw [hd]; exact hs) totPl
    rw [hd] at hcon
    refine Calls.mono (show Calls Tryz.prog 204 _ _ _ from hcon) ?_
    rintro e w' ⟨rfl, m, os, rfl⟩
    have hsz : (List.mergeSort ps fun x y => !ltOf cmpPl y x).toArray.size = n := by simp [hn]
    obtain ⟨h1, h2⟩ := own_sorted (m := m) (os := os) enc4 (by decide) enc4_len _ hsz hown
    exact ⟨rfl, h1, h2⟩
  · obtain rfl : n = 0 := by omega
    have hnil : ps = [] := List.length_eq_zero_iff.1 hn
    subst hnil
    have hf : ∃ a cap, v = .slice a 0 cap := by
      rcases hown.2 with ⟨rfl, _⟩ | ⟨g, cap, cur, rfl, _⟩
      · exact ⟨_, _, rfl⟩
      · exact ⟨_, _, rfl⟩
    obtain ⟨a, cap, rfl⟩ := hf
    refine Calls.mono (show Calls Tryz.prog 204 _ _ _ from AnyF.slices_SortFunc_none Tryz.sortPlane a cap _ w) ?_
    rintro e w' ⟨rfl, rfl⟩
    exact ⟨rfl, by simpa [sortL] using hown, ⟨rfl, rfl, rfl, Nat.le_refl _, fun _ _ _ => rfl⟩⟩

theorem compactPlanes_any (cs : List Q4) (base n : Nat) (cv : Value) (w : World) (hn : cs.length = n) (hs : n ≤ 10000000) (hown : w.ownsRow base 92 4 cv n (cs.flatMap enc4)) :
    Calls Tryz.prog 206 #[cv] w fun e w' => ∃ cv', e = .returned cv' ∧ w.grownBy w' cv.ownBlock ∧ (∃ a m c, cv' = .slice a m c) ∧
      w'.ownsRow base 92 4 cv' (Lib.compact cs).length ((Lib.compact cs).flatMap enc4) := by
  by_cases h2 : 2 ≤ n
  · obtain ⟨g, cap, rfl, _, _⟩ := own_form hown (by omega)
    refine (compact_plane cs.toArray g n cap base w (by simpa using hn) hs h2 (by simpa using hown)).mono ?_
    rintro e w' ⟨rfl, hg, ho⟩
    have e : compactUpTo cs.toArray n = Lib.compact cs := by unfold Lib.compact; rw [hn]
    rw [e] at ho ⊢
    exact ⟨_, rfl, hg, ⟨_, _, _, rfl⟩, ho⟩
  · have hf : ∃ a cap, cv = .slice a n cap := by
      rcases hown.2 with ⟨rfl, h⟩ | ⟨g, cap, cur, rfl, _⟩
      · exact ⟨_, _, by rw [h]⟩
      · exact ⟨_, _, rfl⟩
    obtain ⟨a, cap, rfl⟩ := hf
    refine (compact_plane_small a n cap w (by omega)).mono ?_
    rintro e w' ⟨rfl, rfl⟩
    have e : Lib.compact cs = cs := compact_all cs (fun j hj => keeps_lt_one _ j (by omega))
    rw [e, hn]
    exact ⟨_, rfl, ⟨rfl, rfl, rfl, Nat.le_refl _, fun _ _ _ => rfl⟩, ⟨_, _, _, rfl⟩, hown⟩
theorem compactCells_any (cs : List Q4) (base n : Nat) (cv : Value) (w : World) (hn : cs.length = n) (hs : n ≤ 10000000) (hown : w.ownsRow base 92 4 cv n (cs.flatMap enc4)) :
    Calls Tryz.prog 106 #[cv] w fun e w' => ∃ cv', e = .returned cv' ∧ w.grownBy w' cv.ownBlock ∧ (∃ a m c, cv' = .slice a m c) ∧
      w'.ownsRow base 92 4 cv' (Lib.compact cs).length ((Lib.compact cs).flatMap enc4) := by
  by_cases h2 : 2 ≤ n
  · obtain ⟨g, cap, rfl, _, _⟩ := own_form hown (by omega)
    refine (compact_cell cs.toArray g n cap base w (by simpa using hn) hs h2 (by simpa using hown)).mono ?_
    rintro e w' ⟨rfl, hg, ho⟩
    have e : compactUpTo cs.toArray n = Lib.compact cs := by unfold Lib.compact; rw [hn]
    rw [e] at ho ⊢
    exact ⟨_, rfl, hg, ⟨_, _, _, rfl⟩, ho⟩
  · have hf : ∃ a cap, cv = .slice a n cap := by
      rcases hown.2 with ⟨rfl, h⟩ | ⟨g, cap, cur, rfl, _⟩
      · exact ⟨_, _, by rw [h]⟩
      · exact ⟨_, _, rfl⟩
    obtain ⟨a, cap, rfl⟩ := hf
    refine (compact_cell_small a n cap w (by omega)).mono ?_
    rintro e w' ⟨rfl, rfl⟩
    have e : Lib.compact cs = cs := compact_all cs (fun j hj => keeps_lt_one _ j (by omega))
    rw [e, hn]
    exact ⟨_, rfl, ⟨rfl, rfl, rfl, Nat.le_refl _, fun _ _ _ => rfl⟩, ⟨_, _, _, rfl⟩, hown⟩
end Go.Proofs.YtfdgifcllelhiaaGreatDoor
