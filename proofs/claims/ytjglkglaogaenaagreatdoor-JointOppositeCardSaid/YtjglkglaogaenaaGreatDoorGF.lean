/- texts of mine, merged: B2. -/
import Derived.Test.YtjglkglaogaenaaGreatDoorGD
import Derived.Test.YtjglkglaogaenaaGreatDoorGE
/- solid.bodyOf: the loops. -/
namespace Go.Proofs.YtjglkglaogaenaaGreatDoor
open Go.RowKit Go.Shelf
attribute [local go_sem] Ext.cell Ext.frozen quietX

/-- The state of bodyOf: the body's block, the row of its corners. -/
def BSt (w : World) (pv : Value) (cs : List Q4) (wr : World) : Prop :=
  Below w.heap.size w wr ∧ wr.heap[w.heap.size]? = some (.cells #[.slice none 0 0, .slice none 0 0] 208 (0, 0)) ∧
  ∃ cv, wr.heap[w.heap.size + 1]? = some (.cells #[pv, cv] 208 (0, 0)) ∧ wr.ownsRow (w.heap.size + 2) 193 4 cv cs.length (cs.flatMap enc4)
theorem BSt.keep {w : World} {pv : Value} {cs : List Q4} {wr w' : World} (h : BSt w pv cs wr) (hb : Below wr.heap.size wr w') : BSt w pv cs w' := by
  obtain ⟨h1, h2, cv, h3, h4⟩ := h
  exact ⟨below_trans h1 hb, (hb.block _ (blk_lt h2)).trans h2, cv, (hb.block _ (blk_lt h3)).trans h3, own_below h4 hb⟩
theorem BSt.size {w : World} {pv : Value} {cs : List Q4} {wr : World} (h : BSt w pv cs wr) : w.heap.size + 2 ≤ wr.heap.size := by
  obtain ⟨_, _, cv, h3, _⟩ := h
  have := blk_lt h3; omega

/-- A block of another type than the row's, behind the body's, is kept by add. -/
theorem kept_blk {w w' : World} {bb base g : Nat} {cv : Value} {n : Nat} {xs : List Value} {cs : Array Value} {t : TypeId} (h : Kept2 w w' bb cv.ownBlock) (hown : w.ownsRow base 193 4 cv n xs)
    (hg : w.heap[g]? = some (.cells cs t (0, 0))) (hne : g ≠ bb) (ht : 193 ≠ t) : w'.heap[g]? = some (.cells cs t (0, 0)) :=
  (h.block g (blk_lt hg) hne (fun e => own_blk_ne hown hg ht e.symm)).trans hg

/-- What add does to the state. -/
theorem bst_add (ps : List Q4) (c : Q4) (pv : Value) (cs : List Q4) (w wr : World) (hps : ∀ p ∈ ps, okPl p) (hc : okCo c) (hl : ps.length ≤ 64) (hn : cs.length ≤ 1000000) (hpv : Q4s w pv ps) (h : BSt w pv cs wr) :
    Calls Tryz.prog 245 #[.pointer (some ⟨w.heap.size + 1, 0, none⟩), v4 c] wr fun e w' => e = .returned (.tuple #[]) ∧ BSt w pv (cs ++ if allowedB ps c then [c] else []) w' ∧ wr.heap.size ≤ w'.heap.size ∧
      ∀ g cells t, w.heap.size + 1 < g → 193 ≠ t → wr.heap[g]? = some (.cells cells t (0, 0)) → w'.heap[g]? = some (.cells cells t (0, 0)) := by
  obtain ⟨h1, h2, cv, h3, h4⟩ := h
  have hz := blk_lt h3
  cases ha : allowedB ps c with
  | true =>
    refine (add_yes ps c pv cv _ _ _ _ wr hps hc (by omega) hn h3 (hpv.below h1) h4 (by omega) ha).mono ?_
    rintro e w' ⟨rfl, hk, cv', hb', ho'⟩
    refine ⟨rfl, ⟨h1.trans (hk.below (by omega) (by omega) (fun k hk => ?_)), kept_blk hk h4 h2 (by omega) (by decide), cv', hb', ?_⟩, hk.size, fun g cells t hg ht hgb => kept_blk hk h4 hgb (by omega) ht⟩
    · obtain ⟨h, _⟩ := h4.lt k hk; omega
    · simpa [enc4] using ho'
  | false =>
    refine (add_no ps c pv cv _ wr hps hc (by omega) h3 (hpv.below h1) ha).mono ?_
    rintro e w' ⟨rfl, hk⟩
    refine ⟨rfl, ?_, hk.size, fun g cells t hg ht hgb => (hk.block g (blk_lt hgb)).trans hgb⟩
    simpa using (show BSt w pv cs wr from ⟨h1, h2, cv, h3, h4⟩).keep hk

set_option maxRecDepth 100000 in
set_option maxHeartbeats 2000000 in
theorem bodyOf_any (ps : List Q4) (pv : Value) (w : World) (hps : ∀ p ∈ ps, okPl p) (hl : ps.length ≤ 64) (hpv : Q4s w pv ps) :
    Calls Tryz.prog 220 #[pv] w fun e w' => ∃ cv, e = .returned (.agg #[pv, cv]) ∧ Below w.heap.size w w' ∧ w'.ownsRow (w.heap.size + 2) 193 4 cv (cornersOf ps).length ((cornersOf ps).flatMap enc4) := by
  have Hco : Hid (cornersOf ps = Lib.compact (sortP (raw ps ps.length))) := Lib.hid rfl
  generalize cornersOf ps = co at *
  obtain ⟨a, n, cc, rfl, hn, hnc, hx⟩ := hpv
  have HPV : Hid (Q4s w (.slice a n cc) ps) := Lib.hid ⟨a, n, cc, rfl, hn, hnc, hx⟩
  have HPS := Lib.hid hps
  clear hps
  go_enter Tryz.func220, Tryz.ntmps220
  go_wp2
  go_loopw [16] (fun i wr => ∃ k : Nat, k ≤ n ∧ i = .int .i64 k ∧ BSt w (.slice a n cc) (raw ps k) wr) (fun i _ => n - (intOf i).toNat)
  case atStart => exact ⟨0, by omega, rfl, by (repeat (first | exact brf | assumption | refine ble ?_ | refine blx ?_ | refine bla ?_ | refine bls ?_ | refine bld ?_)), (heap_old (by simp)).trans (heap_new rfl), _, heap_new (by simp), World.ownsRow_nil _ _ _ _⟩
  case round =>
    obtain ⟨k, hk, rfl, hst⟩ := hrel
    by_cases hlt : k < n
    · obtain ⟨b, off, rfl, hi⟩ := hx (by omega)
      obtain ⟨c0, c1, c2, c3⟩ := (hi.below hst.1) k (by omega)
      have Hok := Lib.hid (getP_ok HPS.out k (by omega))
      rw [getP_eq k (by omega)] at c0 c1 c2 c3
      obtain ⟨P, HP⟩ : ∃ P, Hid (getP ps k = P) := ⟨_, Lib.hid rfl⟩
      rw [HP.out] at c0 c1 c2 c3 Hok
      have Hst := Lib.hid hst
      clear hx hst
      obtain ⟨wo, rfl⟩ : ∃ wo : World, wo = wr := ⟨_, rfl⟩
      have HI := Lib.hid hi
      clear hi
      go_wp2
      go_loopw [25] (fun i wr => ∃ j : Nat, j ≤ k ∧ i = .int .i64 j ∧ BSt w (.slice (some ⟨b, off, none⟩) n cc) (raw ps k ++ rawI ps k j) wr ∧ Hid (wr.heap[wo.heap.size]? = some (.cells #[.int .i64 P.1, .int .i64 P.2.1, .int .i64 P.2.2.1, .int .i64 P.2.2.2] 95 (0, 0)))) (fun i _ => k - (intOf i).toNat)
      case atStart => exact ⟨0, by omega, rfl, by simpa [rawI_zero] using Hst.out.keep (by (repeat (first | exact brf | assumption | refine ble ?_ | refine blx ?_ | refine bla ?_ | refine bls ?_ | refine bld ?_))), Lib.hid (heap_new rfl)⟩
      case round =>
        have zo := Hst.out.size
        clear Hst c0 c1 c2 c3
        obtain ⟨j, hj, rfl, hst, HPb⟩ := hrel
        by_cases hlt2 : j < k
        · obtain ⟨c0, c1, c2, c3⟩ := (HI.out.below hst.1) j (by omega)
          have HokQ := Lib.hid (getP_ok HPS.out j (by omega))
          rw [getP_eq j (by omega)] at c0 c1 c2 c3
          obtain ⟨Q, HQ⟩ : ∃ Q, Hid (getP ps j = Q) := ⟨_, Lib.hid rfl⟩
          rw [HQ.out] at c0 c1 c2 c3 HokQ
          have Hst := Lib.hid hst
          clear hst
          obtain ⟨wq, rfl⟩ : ∃ wq : World, wq = wr := ⟨_, rfl⟩
          have zq := blk_lt HPb.out
          have p0 : wq.cell? ⟨wo.heap.size, 0, none⟩ = some (.int .i64 P.1) := (blk_cell HPb.out 0).trans rfl
          have p1 : wq.cell? ⟨wo.heap.size, 1, none⟩ = some (.int .i64 P.2.1) := (blk_cell HPb.out 1).trans rfl
          have p2 : wq.cell? ⟨wo.heap.size, 2, none⟩ = some (.int .i64 P.2.2.1) := (blk_cell HPb.out 2).trans rfl
          have p3 : wq.cell? ⟨wo.heap.size, 3, none⟩ = some (.int .i64 P.2.2.2) := (blk_cell HPb.out 3).trans rfl
          have oP := Hok.out
          have oQ := HokQ.out
          simp only [okPl] at oP oQ
          go_wp2
          clear c0 c1 c2 c3
          have zo1 : wo.heap.size < wq.heap.size + 1 := by omega
          refine wp_region_float 5 [0, 1, 2, 3, 4] 6 [] (by kernel_rfl) (by kernel_rfl) _ rfl 169 #[.int .i64 0, .int .i64 0, .int .i64 0] (fun a W' => by go_simp) ?_
          simp only [opsAt, List.filterMap_cons, List.filterMap_nil, List.getElem?_toArray, List.getElem?_cons_zero, List.getElem?_cons_succ]
          repeat (refine wpX_step (fun K' hK' => ?_); go_simp; first | (refine hK' _ ?_; clear hK' K') | (apply Exists.intro; refine ⟨fun u => ?_, hK' _ ?_⟩; ((first | (go_at_call 205; exact quietX_ret (normal_any _ _ _ _ _)) | (go_at_call 230; exact quietX_ret (cross_any _ _ _ _ _ _ _ (by omega) (by omega) (by omega) (by omega) (by omega) (by omega))))); clear hK' K'))
          refine wpX_nil ?_
          intro wl gl hgl hbl Hgl
          have g0 : wl.cell? ⟨gl, 0, none⟩ = some (.int .i64 0) := (blk_cell Hgl 0).trans rfl
          have g1 : wl.cell? ⟨gl, 1, none⟩ = some (.int .i64 0) := (blk_cell Hgl 1).trans rfl
          have g2 : wl.cell? ⟨gl, 2, none⟩ = some (.int .i64 0) := (blk_cell Hgl 2).trans rfl
          have gf := blk_free Hgl
          have Hb := Lib.hid Hgl
          have HL : Hid (crossP (nrm P) (nrm Q) = (P.2.1 * Q.2.2.1 - P.2.2.1 * Q.2.1, P.2.2.1 * Q.1 - P.1 * Q.2.2.1, P.1 * Q.2.1 - P.2.1 * Q.1)) := Lib.hid rfl
          have bL0 := cross_bd oP.2.1 oP.2.2.1 oQ.2.1 oQ.2.2.1
          have bL1 := cross_bd oP.2.2.1 oP.1 oQ.2.2.1 oQ.1
          have bL2 := cross_bd oP.1 oP.2.1 oQ.1 oQ.2.1
          clear Hgl p0 p1 p2 p3
          generalize P.2.1 * Q.2.2.1 - P.2.2.1 * Q.2.1 = l0 at *
          generalize P.2.2.1 * Q.1 - P.1 * Q.2.2.1 = l1 at *
          generalize P.1 * Q.2.1 - P.2.1 * Q.1 = l2 at *
          go_frame
          iterate 1 (refine wpList_step (fun K hK => ?_); go_simp; refine hK _ _ ?_; clear hK K)
          refine NoPanic.normal ?_
          have hv := equalIn_vec l0 l1 l2 0 0 0
          obtain ⟨wm, Hwm⟩ : ∃ wm, Hid (((wl.setCell ⟨gl, 0, none⟩ (.int .i64 l0)).setCell ⟨gl, 1, none⟩ (.int .i64 l1)).setCell ⟨gl, 2, none⟩ (.int .i64 l2) = wm) := ⟨_, Lib.hid rfl⟩
          have hbm : Below (wq.alloc (.cells #[.int .i64 Q.1, .int .i64 Q.2.1, .int .i64 Q.2.2.1, .int .i64 Q.2.2.2] 95)).heap.size (wq.alloc (.cells #[.int .i64 Q.1, .int .i64 Q.2.1, .int .i64 Q.2.2.1, .int .i64 Q.2.2.2] 95)) wm := by
            rw [← Hwm.out]; exact ((hbl.setCell hgl _).setCell hgl _).setCell hgl _
          have Hst1 : Hid (BSt w (.slice (some ⟨b, off, none⟩) n cc) (raw ps k ++ rawI ps k j) wm) := Lib.hid ((Hst.out.keep (by (repeat (first | exact brf | assumption | refine ble ?_ | refine blx ?_ | refine bla ?_ | refine bls ?_ | refine bld ?_)))).keep hbm)
          have HP1 : Hid (wm.heap[wo.heap.size]? = some (.cells #[.int .i64 P.1, .int .i64 P.2.1, .int .i64 P.2.2.1, .int .i64 P.2.2.2] 95 (0, 0))) := Lib.hid ((hbm.block _ (by simp; omega)).trans ((heap_old zq).trans HPb.out))
          have HQ1 : Hid (wm.heap[wq.heap.size]? = some (.cells #[.int .i64 Q.1, .int .i64 Q.2.1, .int .i64 Q.2.2.1, .int .i64 Q.2.2.2] 95 (0, 0))) := Lib.hid ((hbm.block _ (by simp)).trans (heap_new rfl))
          have Hl : Hid (wm.heap[gl]? = some (.cells #[.int .i64 l0, .int .i64 l1, .int .i64 l2] 169 (0, 0))) := by rw [← Hwm.out]; exact Lib.hid (blk_set (blk_set (blk_set Hb.out 0 _) 1 _) 2 _)
          have zg : wq.heap.size + 1 ≤ gl := by simpa using hgl
          rw [Hwm.out]
          clear Hst hbl hbm g0 g1 g2 gf Hb Hwm HPb hgl
          have e0 : wm.cell? ⟨gl, 0, none⟩ = some (.int .i64 l0) := (blk_cell Hl.out 0).trans rfl
          have e1 : wm.cell? ⟨gl, 1, none⟩ = some (.int .i64 l1) := (blk_cell Hl.out 1).trans rfl
          have e2 : wm.cell? ⟨gl, 2, none⟩ = some (.int .i64 l2) := (blk_cell Hl.out 2).trans rfl
          have Hsum := Lib.hid (rawI_succ ps k j)
          by_cases hz : l0 = 0 ∧ l1 = 0 ∧ l2 = 0
          · have hb0 : (l0 == 0 && l1 == 0 && l2 == 0) = true := by simp [hz]
            have Hz := Lib.hid hz
            rw [hb0] at hv
            clear hz hb0
            go_wp2
            go_roundw
            case rel => exact ⟨j + 1, by omega, by go_num, by rw [Hsum.out, rawK_flat ps k j j (by rw [HP.out, HQ.out, HL.out, Hz.out.1, Hz.out.2.1, Hz.out.2.2])]; simpa using Hst1.out, HP1⟩
            case measure => simp [intOf]; omega
          · have hb0 : (l0 == 0 && l1 == 0 && l2 == 0) = false := by rw [Bool.eq_false_iff]; simp; omega
            rw [hb0] at hv
            clear hb0
            go_wp2
            go_loopw [42] (fun i wr => ∃ m : Nat, m ≤ j ∧ i = .int .i64 m ∧ BSt w (.slice (some ⟨b, off, none⟩) n cc) (raw ps k ++ rawI ps k j ++ rawK ps k j m) wr ∧ Hid (wr.heap[wo.heap.size]? = some (.cells #[.int .i64 P.1, .int .i64 P.2.1, .int .i64 P.2.2.1, .int .i64 P.2.2.2] 95 (0, 0))) ∧ Hid (wr.heap[wq.heap.size]? = some (.cells #[.int .i64 Q.1, .int .i64 Q.2.1, .int .i64 Q.2.2.1, .int .i64 Q.2.2.2] 95 (0, 0))) ∧ Hid (wr.heap[gl]? = some (.cells #[.int .i64 l0, .int .i64 l1, .int .i64 l2] 169 (0, 0)))) (fun i _ => j - (intOf i).toNat)
            case atStart => exact ⟨0, by omega, rfl, by simpa [rawK_zero] using Hst1.out, HP1, HQ1, Hl⟩
            case round =>
              clear e0 e1 e2 Hst1 HP1 HQ1 Hl hv hz
              obtain ⟨m, hm, rfl, hst, HP1, HQ1, Hl⟩ := hrel
              by_cases hlt3 : m < j
              · obtain ⟨c0, c1, c2, c3⟩ := (HI.out.below hst.1) m (by omega)
                have HokR := Lib.hid (getP_ok HPS.out m (by omega))
                rw [getP_eq m (by omega)] at c0 c1 c2 c3
                obtain ⟨R, HR⟩ : ∃ R, Hid (getP ps m = R) := ⟨_, Lib.hid rfl⟩
                rw [HR.out] at c0 c1 c2 c3 HokR
                have Hst := Lib.hid hst
                clear hst
                obtain ⟨wz, rfl⟩ : ∃ wz : World, wz = wr := ⟨_, rfl⟩
                have zP := blk_lt HP1.out
                have zQ := blk_lt HQ1.out
                have zL := blk_lt Hl.out
                have e0 : wz.cell? ⟨gl, 0, none⟩ = some (.int .i64 l0) := (blk_cell Hl.out 0).trans rfl
                have e1 : wz.cell? ⟨gl, 1, none⟩ = some (.int .i64 l1) := (blk_cell Hl.out 1).trans rfl
                have e2 : wz.cell? ⟨gl, 2, none⟩ = some (.int .i64 l2) := (blk_cell Hl.out 2).trans rfl
                have oR := HokR.out
                simp only [okPl] at oR
                go_wp2
                clear c0 c1 c2 c3
                have zL1 : gl < wz.heap.size + 1 := by omega
                refine wp_region_quietB (by kernel_rfl) (by kernel_rfl) ?_
                repeat (first | go_big_quiet_step ((first | (go_at_call 205; exact quietB_ret (normal_any _ _ _ _ _)) | (go_at_call 208; exact quietB_ret (dot_any _ _ _ _ _ _ _ (by omega) (by omega) (by omega) (by omega) (by omega) (by omega))))) | quiet_step ((first | (go_at_call 205; exact quietB_ret (normal_any _ _ _ _ _)) | (go_at_call 208; exact quietB_ret (dot_any _ _ _ _ _ _ _ (by omega) (by omega) (by omega) (by omega) (by omega) (by omega))))))
                refine wpQuiet_nil ?_
                rintro _ ⟨u, rfl⟩
                have Hden : Hid (denP P Q R = l0 * R.1 + l1 * R.2.1 + l2 * R.2.2.1) := Lib.hid (by show dotP (crossP (nrm P) (nrm Q)) (nrm R) = _; rw [HL.out]; rfl)
                have bden := den_bd P Q R Hok.out HokQ.out HokR.out
                rw [Hden.out] at bden
                have Hst1 : Hid (BSt w (.slice (some ⟨b, off, none⟩) n cc) (raw ps k ++ rawI ps k j ++ rawK ps k j m) u.val) := Lib.hid (Hst.out.keep (below_trans (by (repeat (first | exact brf | assumption | refine ble ?_ | refine blx ?_ | refine bla ?_ | refine bls ?_ | refine bld ?_))) u.below))
                have HP2 : Hid (u.val.heap[wo.heap.size]? = some (.cells #[.int .i64 P.1, .int .i64 P.2.1, .int .i64 P.2.2.1, .int .i64 P.2.2.2] 95 (0, 0))) := Lib.hid ((u.below.block _ (by simp; omega)).trans ((heap_old zP).trans HP1.out))
                have HQ2 : Hid (u.val.heap[wq.heap.size]? = some (.cells #[.int .i64 Q.1, .int .i64 Q.2.1, .int .i64 Q.2.2.1, .int .i64 Q.2.2.2] 95 (0, 0))) := Lib.hid ((u.below.block _ (by simp; omega)).trans ((heap_old zQ).trans HQ1.out))
                have Hl2 : Hid (u.val.heap[gl]? = some (.cells #[.int .i64 l0, .int .i64 l1, .int .i64 l2] 169 (0, 0))) := Lib.hid ((u.below.block _ (by simp; omega)).trans ((heap_old zL).trans Hl.out))
                have HR2 : Hid (u.val.heap[wz.heap.size]? = some (.cells #[.int .i64 R.1, .int .i64 R.2.1, .int .i64 R.2.2.1, .int .i64 R.2.2.2] 95 (0, 0))) := Lib.hid ((u.below.block _ (by simp)).trans (heap_new rfl))
                have Hraw := Lib.hid (rawK_succ ps k j m)
                have Hr1 : Hid (raw1 ps k j m = if denP P Q R = 0 then [] else if allowedB ps (meetP P Q R (denP P Q R)) then [meetP P Q R (denP P Q R)] else []) := Lib.hid (by unfold raw1; rw [HP.out, HQ.out, HR.out])
                clear e0 e1 e2 Hst HP1 HQ1 Hl oR
                rw [Hden.out] at Hr1
                generalize l0 * R.1 + l1 * R.2.1 + l2 * R.2.2.1 = den at *
                by_cases hd0 : den = 0
                · have Hd0 := Lib.hid hd0
                  have hdb : (den != 0) = false := by simp [hd0]
                  clear hd0
                  go_wp2
                  go_roundw
                  case rel => exact ⟨m + 1, by omega, by go_num, by rw [Hraw.out, Hr1.out, if_pos Hd0.out]; simpa using Hst1.out, HP2, HQ2, Hl2⟩
                  case measure => simp [intOf]; omega
                · have hdb : (den != 0) = true := by simpa using hd0
                  have p0 : u.val.cell? ⟨wo.heap.size, 0, none⟩ = some (.int .i64 P.1) := (blk_cell HP2.out 0).trans rfl
                  have p1 : u.val.cell? ⟨wo.heap.size, 1, none⟩ = some (.int .i64 P.2.1) := (blk_cell HP2.out 1).trans rfl
                  have p2 : u.val.cell? ⟨wo.heap.size, 2, none⟩ = some (.int .i64 P.2.2.1) := (blk_cell HP2.out 2).trans rfl
                  have p3 : u.val.cell? ⟨wo.heap.size, 3, none⟩ = some (.int .i64 P.2.2.2) := (blk_cell HP2.out 3).trans rfl
                  have q0 : u.val.cell? ⟨wq.heap.size, 0, none⟩ = some (.int .i64 Q.1) := (blk_cell HQ2.out 0).trans rfl
                  have q1 : u.val.cell? ⟨wq.heap.size, 1, none⟩ = some (.int .i64 Q.2.1) := (blk_cell HQ2.out 1).trans rfl
                  have q2 : u.val.cell? ⟨wq.heap.size, 2, none⟩ = some (.int .i64 Q.2.2.1) := (blk_cell HQ2.out 2).trans rfl
                  have q3 : u.val.cell? ⟨wq.heap.size, 3, none⟩ = some (.int .i64 Q.2.2.2) := (blk_cell HQ2.out 3).trans rfl
                  have r0 : u.val.cell? ⟨wz.heap.size, 0, none⟩ = some (.int .i64 R.1) := (blk_cell HR2.out 0).trans rfl
                  have r1 : u.val.cell? ⟨wz.heap.size, 1, none⟩ = some (.int .i64 R.2.1) := (blk_cell HR2.out 1).trans rfl
                  have r2 : u.val.cell? ⟨wz.heap.size, 2, none⟩ = some (.int .i64 R.2.2.1) := (blk_cell HR2.out 2).trans rfl
                  have r3 : u.val.cell? ⟨wz.heap.size, 3, none⟩ = some (.int .i64 R.2.2.2) := (blk_cell HR2.out 3).trans rfl
                  have bl : (raw ps k ++ rawI ps k j ++ rawK ps k j m).length ≤ 1000000 := by
                    have := raw_len ps k (by omega); have := rawI_len ps k j (by omega); have := rawK_len ps k j m
                    simp only [List.length_append]; omega
                  go_wp2_with fail
                  refine (meeting_any P Q R den _ Hok.out HokQ.out HokR.out (by omega) hd0).mono ?_
                  rintro e wy ⟨rfl, hby⟩
                  clear p0 p1 p2 p3 q0 q1 q2 q3 r0 r1 r2 r3
                  go_wp2_with fail
                  refine (bst_add ps _ _ _ w wy HPS.out (meetP_ok P Q R den Hok.out HokQ.out HokR.out (by omega) hd0) hl bl HPV.out (Hst1.out.keep hby)).mono ?_
                  rintro e wx ⟨rfl, hst2, hsz2, hkeep⟩
                  have Hst2 := Lib.hid hst2
                  have Hk2 := Lib.hid hkeep
                  clear hst2 hkeep
                  go_wp2
                  go_roundw
                  case rel => exact ⟨m + 1, by omega, by go_num, by rw [Hraw.out, Hr1.out, if_neg hd0]; simpa using Hst2.out, Lib.hid (Hk2.out _ _ _ (by omega) (by decide) ((hby.block _ (blk_lt HP2.out)).trans HP2.out)), Lib.hid (Hk2.out _ _ _ (by omega) (by decide) ((hby.block _ (blk_lt HQ2.out)).trans HQ2.out)), Lib.hid (Hk2.out _ _ _ (by omega) (by decide) ((hby.block _ (blk_lt Hl2.out)).trans Hl2.out))⟩
                  case measure => simp [intOf]; omega
              · go_wp2
                go_roundw
                case rel => exact ⟨j + 1, by omega, by go_num, by rw [Hsum.out]; obtain rfl : m = j := (by omega); simpa using hst, HP1⟩
                case measure => simp [intOf]; omega
        · obtain rfl : j = k := by omega
          have Hsum := Lib.hid (raw_succ ps j)
          have Hst := Lib.hid hst
          clear hst
          go_wp2
          go_roundw
          case rel => exact ⟨j + 1, by omega, by go_num, by rw [Hsum.out]; exact Hst.out⟩
          case measure => simp [intOf]; omega
    · obtain rfl : k = n := by omega
      obtain ⟨h1, h2, cv, h3, h4⟩ := hst
      have k1 : wr.cell? ⟨w.heap.size + 1, 1, none⟩ = some cv := (blk_cell h3 1).trans rfl
      have z1 := blk_lt h3
      have Hst := Lib.hid (And.intro h1 (And.intro h2 (And.intro h3 h4)))
      clear hx h1 h2 h3 h4
      subst hn
      have Hrn := Lib.hid (raw_nrm ps HPS.out ps.length (Nat.le_refl _))
      have Hrl := Lib.hid (raw_len ps ps.length hl)
      go_wp2_with fail
      refine (sort_any (raw ps ps.length) Hrn.out _ _ cv wr rfl (by have := Hrl.out; omega) Hst.out.2.2.2).mono ?_
      rintro e w1 ⟨rfl, hown1, hg1⟩
      have hne1 : some (w.heap.size + 1) ≠ cv.ownBlock := fun e => own_blk_ne Hst.out.2.2.2 Hst.out.2.2.1 (by decide) e.symm
      have hne0 : some w.heap.size ≠ cv.ownBlock := fun e => own_blk_ne Hst.out.2.2.2 Hst.out.2.1 (by decide) e.symm
      have b1 : w1.heap[w.heap.size + 1]? = some (.cells #[.slice a ps.length cc, cv] 208 (0, 0)) := (hg1.block _ z1 hne1).trans Hst.out.2.2.1
      have b0 : w1.heap[w.heap.size]? = some (.cells #[.slice none 0 0, .slice none 0 0] 208 (0, 0)) := (hg1.block _ (blk_lt Hst.out.2.1) hne0).trans Hst.out.2.1
      have hbw1 : Below w.heap.size w w1 := Hst.out.1.grown hg1 Hst.out.1.size (fun j hj => by obtain ⟨h, _⟩ := Hst.out.2.2.2.lt j hj; omega)
      have k2 : w1.cell? ⟨w.heap.size + 1, 1, none⟩ = some cv := (blk_cell b1 1).trans rfl
      have Ho1 := Lib.hid hown1
      have Hb0 := Lib.hid b0
      have Hb1 := Lib.hid b1
      clear Hst k1 z1 hg1 hown1 b0 b1 hne0 hne1
      go_wp2_with fail
      refine (compact_any (sortP (raw ps ps.length)) _ _ cv w1 (sortP_len _) (by have := Hrl.out; omega) Ho1.out).mono ?_
      rintro e w2 ⟨cv', rfl, hg2, ⟨a', m', c', rfl⟩, hown2⟩
      have hne1 : some (w.heap.size + 1) ≠ cv.ownBlock := fun e => own_blk_ne Ho1.out Hb1.out (by decide) e.symm
      have hne0 : some w.heap.size ≠ cv.ownBlock := fun e => own_blk_ne Ho1.out Hb0.out (by decide) e.symm
      have b1 : w2.heap[w.heap.size + 1]? = some (.cells #[.slice a ps.length cc, cv] 208 (0, 0)) := (hg2.block _ (blk_lt Hb1.out) hne1).trans Hb1.out
      have b0 : w2.heap[w.heap.size]? = some (.cells #[.slice none 0 0, .slice none 0 0] 208 (0, 0)) := (hg2.block _ (blk_lt Hb0.out) hne0).trans Hb0.out
      have hbw2 : Below w.heap.size w w2 := hbw1.grown hg2 hbw1.size (fun j hj => by obtain ⟨h, _⟩ := Ho1.out.lt j hj; omega)
      have k0 : w2.cell? ⟨w.heap.size + 1, 0, none⟩ = some (.slice a ps.length cc) := (blk_cell b1 0).trans rfl
      have k3 : w2.cell? ⟨w.heap.size + 1, 1, none⟩ = some cv := (blk_cell b1 1).trans rfl
      have f1 := blk_free b1
      have r0 : w2.cell? ⟨w.heap.size, 0, none⟩ = some (.slice none 0 0) := (blk_cell b0 0).trans rfl
      have r1 : w2.cell? ⟨w.heap.size, 1, none⟩ = some (.slice none 0 0) := (blk_cell b0 1).trans rfl
      have f0 := blk_free b0
      rw [← Hco.out] at hown2
      have Ho2 := Lib.hid hown2
      have hfar1 := Lib.hid (fun e => own_blk_ne hown2 b1 (by decide) e.symm : some (w.heap.size + 1) ≠ (Value.slice a' m' c').ownBlock)
      have hfar0 := Lib.hid (fun e => own_blk_ne hown2 b0 (by decide) e.symm : some w.heap.size ≠ (Value.slice a' m' c').ownBlock)
      clear hown2 b0 b1 hg2 Ho1 Hb0 Hb1 k2 hbw1 hne0 hne1
      go_wp2
      refine bodyPost_ret (v := .agg #[.slice a ps.length cc, .slice a' m' c']) (by simp [results, Tryz.results220, go_sem, r0, r1]) rfl ⟨_, rfl, ?_, ?_⟩
      · exact ((hbw2.setCell (by simp) _).setCell (by simp) _).setCell (by simp) _
      · exact own_setCell_far (own_setCell_far (own_setCell_far Ho2.out _ _ hfar1.out) _ _ hfar0.out) _ _ hfar0.out
end Go.Proofs.YtjglkglaogaenaaGreatDoor
