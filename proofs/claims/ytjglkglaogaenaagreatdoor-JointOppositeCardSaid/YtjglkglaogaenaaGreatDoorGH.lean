/- texts of mine, merged: B6, B7, B8. -/
import Derived.Test.YtjglkglaogaenaaGreatDoorGG
/- solid.bounded. -/
namespace Go.Proofs.YtjglkglaogaenaaGreatDoor
section
open Go.RowKit Go.Shelf
attribute [local go_sem] Ext.cell Ext.frozen quietX
def lineP (ps : List Q4) (i k : Nat) : Q3 := crossP (nrm (getP ps i)) (nrm (getP ps k))
def nzB (l : Q3) : Bool := decide (l ≠ (0, 0, 0))
def abvB (ps : List Q4) (l : Q3) (m : Nat) : Bool := (ps.take m).any fun r => decide (0 < dotP l (nrm r))
def blwB (ps : List Q4) (l : Q3) (m : Nat) : Bool := (ps.take m).any fun r => decide (dotP l (nrm r) < 0)
def goodB (ps : List Q4) (i k : Nat) : Bool := !nzB (lineP ps i k) || (abvB ps (lineP ps i k) ps.length && blwB ps (lineP ps i k) ps.length)
def fullI (ps : List Q4) (i k : Nat) : Bool := (List.range k).any fun k => nzB (lineP ps i k)
def fullA (ps : List Q4) (i : Nat) : Bool := (List.range i).any fun i => fullI ps i i
/-- No direction is free. -/
def boundedB (ps : List Q4) : Bool := ((List.range ps.length).all fun i => (List.range i).all fun k => goodB ps i k) && fullA ps ps.length
theorem fullI_succ (ps : List Q4) (i k : Nat) : fullI ps i (k + 1) = (fullI ps i k || nzB (lineP ps i k)) := by simp [fullI, List.range_succ]
theorem fullA_succ (ps : List Q4) (i : Nat) : fullA ps (i + 1) = (fullA ps i || fullI ps i i) := by simp [fullA, List.range_succ]
theorem abv_succ (ps : List Q4) (l : Q3) (m : Nat) (h : m < ps.length) : abvB ps l (m + 1) = (abvB ps l m || decide (0 < dotP l (nrm (getP ps m)))) := by
  unfold abvB
  rw [List.take_succ_eq_append_getElem h, List.any_append, getP_eq m h]
  simp
theorem blw_succ (ps : List Q4) (l : Q3) (m : Nat) (h : m < ps.length) : blwB ps l (m + 1) = (blwB ps l m || decide (dotP l (nrm (getP ps m)) < 0)) := by
  unfold blwB
  rw [List.take_succ_eq_append_getElem h, List.any_append, getP_eq m h]
  simp
theorem bounded_bad (ps : List Q4) (i k : Nat) (hi : i < ps.length) (hk : k < i) (h : goodB ps i k = false) : boundedB ps = false := by
  have : ((List.range ps.length).all fun i => (List.range i).all fun k => goodB ps i k) = false := by
    rw [List.all_eq_false]
    refine ⟨i, by simpa using hi, ?_⟩
    rw [Bool.not_eq_true, List.all_eq_false]
    exact ⟨k, by simpa using hk, by simp [h]⟩
  simp [boundedB, this]
theorem bounded_good (ps : List Q4) (h : ∀ i k, i < ps.length → k < i → goodB ps i k = true) : boundedB ps = fullA ps ps.length := by
  have : ((List.range ps.length).all fun i => (List.range i).all fun k => goodB ps i k) = true := by
    rw [List.all_eq_true]
    intro i hi
    rw [List.all_eq_true]
    intro k hk
    exact h i k (by simpa using hi) (by simpa using hk)
  simp [boundedB, this]
set_option maxRecDepth 100000 in
set_option maxHeartbeats 4000000 in
theorem bounded_any (ps : List Q4) (pv : Value) (w : World) (hps : ∀ p ∈ ps, okPl p) (hl : ps.length ≤ 1000000) (hpv : Q4s w pv ps) :
    Calls Tryz.prog 219 #[pv] w (Ret w (.bool (boundedB ps))) := by
  obtain ⟨a, n, cc, rfl, hn, hnc, hx⟩ := hpv
  have HPS := Lib.hid hps
  have Hbad := Lib.hid (bounded_bad ps)
  have Hgood := Lib.hid (bounded_good ps)
  generalize boundedB ps = res at *
  clear hps
  go_enter Tryz.func219, Tryz.ntmps219
  go_wp2
  go_loopw [3, 16] (fun s3 i wr => ∃ k : Nat, k ≤ n ∧ i = .int .i64 k ∧ s3 = .bool (fullA ps k) ∧ Below w.heap.size w wr ∧ Hid (∀ i j, i < k → j < i → goodB ps i j = true)) (fun _ i _ => n - (intOf i).toNat)
  case atStart => exact ⟨0, by omega, rfl, rfl, Below.refl _ _, Lib.hid (fun i j h => by omega)⟩
  case round =>
    obtain ⟨k, hk, rfl, rfl, hbk, Hgk⟩ := hrel
    by_cases hlt : k < n
    · obtain ⟨b, off, rfl, hi⟩ := hx (by omega)
      obtain ⟨c0, c1, c2, c3⟩ := (hi.below hbk) k (by omega)
      have Hok := Lib.hid (getP_ok HPS.out k (by omega))
      rw [getP_eq k (by omega)] at c0 c1 c2 c3
      obtain ⟨P, HP⟩ : ∃ P, Hid (getP ps k = P) := ⟨_, Lib.hid rfl⟩
      rw [HP.out] at c0 c1 c2 c3 Hok
      clear hx
      obtain ⟨wo, rfl⟩ : ∃ wo : World, wo = wr := ⟨_, rfl⟩
      have HI := Lib.hid hi
      clear hi
      go_wp2
      clear c0 c1 c2 c3
      go_loopw [3, 25] (fun s3 i wr => ∃ j : Nat, j ≤ k ∧ i = .int .i64 j ∧ s3 = .bool (fullA ps k || fullI ps k j) ∧ Below w.heap.size w wr ∧ Hid (wr.heap[wo.heap.size]? = some (.cells #[.int .i64 P.1, .int .i64 P.2.1, .int .i64 P.2.2.1, .int .i64 P.2.2.2] 95 (0, 0))) ∧ Hid (∀ i, i < j → goodB ps k i = true)) (fun _ i _ => k - (intOf i).toNat)
      case atStart => exact ⟨0, by omega, rfl, by simp [fullI], below_trans hbk (by (repeat (first | exact brf | assumption | refine ble ?_ | refine blx ?_ | refine bla ?_ | refine bls ?_ | refine bld ?_))), Lib.hid (heap_new rfl), Lib.hid (fun i h => by omega)⟩
      case round =>
        clear hbk
        obtain ⟨j, hj, rfl, rfl, hb, HPb, Hgj⟩ := hrel
        by_cases hlt2 : j < k
        · obtain ⟨c0, c1, c2, c3⟩ := (HI.out.below hb) j (by omega)
          have HokQ := Lib.hid (getP_ok HPS.out j (by omega))
          rw [getP_eq j (by omega)] at c0 c1 c2 c3
          obtain ⟨Q, HQ⟩ : ∃ Q, Hid (getP ps j = Q) := ⟨_, Lib.hid rfl⟩
          rw [HQ.out] at c0 c1 c2 c3 HokQ
          obtain ⟨wq, rfl⟩ : ∃ wq : World, wq = wr := ⟨_, rfl⟩
          have zq := blk_lt HPb.out
          have p0 : wq.cell? ⟨wo.heap.size, 0, none⟩ = some (.int .i64 P.1) := (blk_cell HPb.out 0).trans rfl
          have p1 : wq.cell? ⟨wo.heap.size, 1, none⟩ = some (.int .i64 P.2.1) := (blk_cell HPb.out 1).trans rfl
          have p2 : wq.cell? ⟨wo.heap.size, 2, none⟩ = some (.int .i64 P.2.2.1) := (blk_cell HPb.out 2).trans rfl
          have p3 : wq.cell? ⟨wo.heap.size, 3, none⟩ = some (.int .i64 P.2.2.2) := (blk_cell HPb.out 3).trans rfl
          have oP := Hok.out
          have oQ := HokQ.out
          simp only [okPl] at oP oQ
          have Hline : Hid (lineP ps k j = crossP (nrm P) (nrm Q)) := Lib.hid (by unfold lineP; rw [HP.out, HQ.out])
          have Hfi := Lib.hid (fullI_succ ps k j)
          obtain ⟨F, HF⟩ : ∃ F, Hid ((fullA ps k || fullI ps k j) = F) := ⟨_, Lib.hid rfl⟩
          rw [HF.out]
          go_wp2
          clear c0 c1 c2 c3
          have zo1 : wo.heap.size < wq.heap.size + 1 := by omega
          refine wp_region_float 5 [0, 1, 2, 3, 4] 6 [] (by kernel_rfl) (by kernel_rfl) _ rfl 169 #[.int .i64 0, .int .i64 0, .int .i64 0] (fun a W' => by go_simp) ?_
          simp only [opsAt, List.filterMap_cons, List.filterMap_nil, List.getElem?_toArray, List.getElem?_cons_zero, List.getElem?_cons_succ]
          repeat (refine wpX_step (fun K' hK' => ?_); go_simp; first | (refine hK' _ ?_; clear hK' K') | (apply Exists.intro; refine ⟨fun u => ?_, hK' _ ?_⟩; ((first | (go_at_call 205; exact quietX_ret (normal_any _ _ _ _ _)) | (go_at_call 230; exact quietX_ret (cross_any _ _ _ _ _ _ _ (by omega) (by omega) (by omega) (by omega) (by omega) (by omega))))); clear hK' K'))
          refine wpX_nil ?_
          intro wl gl hgl hbl Hgl
          have g0 : wl.cell? ⟨gl, 0, none⟩ = some (.int .i64 0) := (blk_cell Hgl 0).trans rfl
          have g1 : wl.cell? ⟨gl, 1, none⟩ = some (.int .i64 0) := (blk_cell Hgl 1).trans rfl
          have g2 : wl.cell? ⟨gl, 2, none⟩ = some (.int .i64 0) := (blk_cell Hgl 2).trans rfl
          have gf := blk_free Hgl
          have Hb := Lib.hid Hgl
          have HL : Hid (crossP (nrm P) (nrm Q) = (P.2.1 * Q.2.2.1 - P.2.2.1 * Q.2.1, P.2.2.1 * Q.1 - P.1 * Q.2.2.1, P.1 * Q.2.1 - P.2.1 * Q.1)) := Lib.hid rfl
          have bL0 := cross_bd oP.2.1 oP.2.2.1 oQ.2.1 oQ.2.2.1
          have bL1 := cross_bd oP.2.2.1 oP.1 oQ.2.2.1 oQ.1
          have bL2 := cross_bd oP.1 oP.2.1 oQ.1 oQ.2.1
          clear Hgl p0 p1 p2 p3
          generalize P.2.1 * Q.2.2.1 - P.2.2.1 * Q.2.1 = l0 at *
          generalize P.2.2.1 * Q.1 - P.1 * Q.2.2.1 = l1 at *
          generalize P.1 * Q.2.1 - P.2.1 * Q.1 = l2 at *
          go_frame
          iterate 1 (refine wpList_step (fun K hK => ?_); go_simp; refine hK _ _ ?_; clear hK K)
          refine NoPanic.normal ?_
          have hv := equalIn_vec l0 l1 l2 0 0 0
          obtain ⟨wm, Hwm⟩ : ∃ wm, Hid (((wl.setCell ⟨gl, 0, none⟩ (.int .i64 l0)).setCell ⟨gl, 1, none⟩ (.int .i64 l1)).setCell ⟨gl, 2, none⟩ (.int .i64 l2) = wm) := ⟨_, Lib.hid rfl⟩
          have hbm : Below (wq.alloc (.cells #[.int .i64 Q.1, .int .i64 Q.2.1, .int .i64 Q.2.2.1, .int .i64 Q.2.2.2] 95)).heap.size (wq.alloc (.cells #[.int .i64 Q.1, .int .i64 Q.2.1, .int .i64 Q.2.2.1, .int .i64 Q.2.2.2] 95)) wm := by
            rw [← Hwm.out]; exact ((hbl.setCell hgl _).setCell hgl _).setCell hgl _
          have hbwm : Below w.heap.size w wm := below_trans hb (below_trans (by (repeat (first | exact brf | assumption | refine ble ?_ | refine blx ?_ | refine bla ?_ | refine bls ?_ | refine bld ?_))) hbm)
          have HP1 : Hid (wm.heap[wo.heap.size]? = some (.cells #[.int .i64 P.1, .int .i64 P.2.1, .int .i64 P.2.2.1, .int .i64 P.2.2.2] 95 (0, 0))) := Lib.hid ((hbm.block _ (by simp; omega)).trans ((heap_old zq).trans HPb.out))
          have Hl : Hid (wm.heap[gl]? = some (.cells #[.int .i64 l0, .int .i64 l1, .int .i64 l2] 169 (0, 0))) := by rw [← Hwm.out]; exact Lib.hid (blk_set (blk_set (blk_set Hb.out 0 _) 1 _) 2 _)
          rw [Hwm.out]
          rw [HL.out] at Hline
          clear hbl hbm g0 g1 g2 gf Hb Hwm HPb hgl hb
          have e0 : wm.cell? ⟨gl, 0, none⟩ = some (.int .i64 l0) := (blk_cell Hl.out 0).trans rfl
          have e1 : wm.cell? ⟨gl, 1, none⟩ = some (.int .i64 l1) := (blk_cell Hl.out 1).trans rfl
          have e2 : wm.cell? ⟨gl, 2, none⟩ = some (.int .i64 l2) := (blk_cell Hl.out 2).trans rfl
          by_cases hz : l0 = 0 ∧ l1 = 0 ∧ l2 = 0
          · have hb0 : (l0 == 0 && l1 == 0 && l2 == 0) = true := by simp [hz]
            have Hz := Lib.hid hz
            rw [hb0] at hv
            clear hz hb0
            have Hnz : Hid (nzB (lineP ps k j) = false) := Lib.hid (by rw [Hline.out, Hz.out.1, Hz.out.2.1, Hz.out.2.2]; rfl)
            go_wp2
            go_roundw
            case rel => exact ⟨j + 1, by omega, by go_num, by rw [Hfi.out, Hnz.out, ← HF.out]; simp, hbwm, HP1, Lib.hid (fun i h => by
              by_cases e : i = j
              · subst e; unfold goodB; rw [Hnz.out]; rfl
              · exact Hgj.out i (by omega))⟩
            case measure => simp [intOf]; omega
          · have hb0 : (l0 == 0 && l1 == 0 && l2 == 0) = false := by rw [Bool.eq_false_iff]; simp; omega
            rw [hb0] at hv
            clear hb0
            have Hnz : Hid (nzB (lineP ps k j) = true) := Lib.hid (by rw [Hline.out]; unfold nzB; rw [decide_eq_true_eq]; intro e; injection e with e1 e2; injection e2 with e2 e3; exact hz ⟨e1, e2, e3⟩)
            go_wp2
            go_loopw [9, 10, 39] (fun s9 s10 i wr => ∃ m : Nat, m ≤ n ∧ i = .int .i64 m ∧ s9 = .bool (abvB ps (l0, l1, l2) m) ∧ s10 = .bool (blwB ps (l0, l1, l2) m) ∧ Below w.heap.size w wr ∧ Hid (wr.heap[wo.heap.size]? = some (.cells #[.int .i64 P.1, .int .i64 P.2.1, .int .i64 P.2.2.1, .int .i64 P.2.2.2] 95 (0, 0))) ∧ Hid (wr.heap[gl]? = some (.cells #[.int .i64 l0, .int .i64 l1, .int .i64 l2] 169 (0, 0)))) (fun _ _ i _ => n - (intOf i).toNat)
            case atStart => exact ⟨0, by omega, rfl, rfl, rfl, hbwm, HP1, Hl⟩
            case round =>
              clear e0 e1 e2 HP1 Hl hv hz hbwm
              obtain ⟨m, hm, rfl, rfl, rfl, hb, HP1, Hl⟩ := hrel
              by_cases hlt3 : m < n
              · obtain ⟨c0, c1, c2, c3⟩ := (HI.out.below hb) m (by omega)
                have HokR := Lib.hid (getP_ok HPS.out m (by omega))
                have Hab := Lib.hid (abv_succ ps (l0, l1, l2) m (by omega))
                have Hbl := Lib.hid (blw_succ ps (l0, l1, l2) m (by omega))
                rw [getP_eq m (by omega)] at c0 c1 c2 c3
                obtain ⟨R, HR⟩ : ∃ R, Hid (getP ps m = R) := ⟨_, Lib.hid rfl⟩
                rw [HR.out] at c0 c1 c2 c3 HokR Hab Hbl
                obtain ⟨wz, rfl⟩ : ∃ wz : World, wz = wr := ⟨_, rfl⟩
                have zP := blk_lt HP1.out
                have zL := blk_lt Hl.out
                have e0 : wz.cell? ⟨gl, 0, none⟩ = some (.int .i64 l0) := (blk_cell Hl.out 0).trans rfl
                have e1 : wz.cell? ⟨gl, 1, none⟩ = some (.int .i64 l1) := (blk_cell Hl.out 1).trans rfl
                have e2 : wz.cell? ⟨gl, 2, none⟩ = some (.int .i64 l2) := (blk_cell Hl.out 2).trans rfl
                have oR := HokR.out
                simp only [okPl] at oR
                go_wp2
                clear c0 c1 c2 c3
                have zL1 : gl < wz.heap.size + 1 := by omega
                refine wp_region_quietB (by kernel_rfl) (by kernel_rfl) ?_
                repeat (first | go_big_quiet_step ((first | (go_at_call 205; exact quietB_ret (normal_any _ _ _ _ _)) | (go_at_call 208; exact quietB_ret (dot_any _ _ _ _ _ _ _ (by omega) (by omega) (by omega) (by omega) (by omega) (by omega))))) | quiet_step ((first | (go_at_call 205; exact quietB_ret (normal_any _ _ _ _ _)) | (go_at_call 208; exact quietB_ret (dot_any _ _ _ _ _ _ _ (by omega) (by omega) (by omega) (by omega) (by omega) (by omega))))))
                refine wpQuiet_nil ?_
                rintro _ ⟨u, rfl⟩
                have Hden : Hid (dotP (l0, l1, l2) (nrm R) = l0 * R.1 + l1 * R.2.1 + l2 * R.2.2.1) := Lib.hid rfl
                rw [Hden.out] at Hab Hbl
                have HP2 : Hid (u.val.heap[wo.heap.size]? = some (.cells #[.int .i64 P.1, .int .i64 P.2.1, .int .i64 P.2.2.1, .int .i64 P.2.2.2] 95 (0, 0))) := Lib.hid ((u.below.block _ (by simp; omega)).trans ((heap_old zP).trans HP1.out))
                have Hl2 : Hid (u.val.heap[gl]? = some (.cells #[.int .i64 l0, .int .i64 l1, .int .i64 l2] 169 (0, 0))) := Lib.hid ((u.below.block _ (by simp; omega)).trans ((heap_old zL).trans Hl.out))
                have hb2 : Below w.heap.size w u.val := below_trans hb (below_trans (by (repeat (first | exact brf | assumption | refine ble ?_ | refine blx ?_ | refine bla ?_ | refine bls ?_ | refine bld ?_))) u.below)
                clear e0 e1 e2 HP1 Hl oR hb
                generalize l0 * R.1 + l1 * R.2.1 + l2 * R.2.2.1 = den at *
                generalize abvB ps (l0, l1, l2) m = A at *
                generalize blwB ps (l0, l1, l2) m = B at *
                have tri : 0 < den ∨ den < 0 ∨ den = 0 := by omega
                rcases tri with hd | hd | hd
                · have hd2 : ¬ den < 0 := by omega
                  rw [decide_eq_true hd] at Hab
                  rw [decide_eq_false hd2] at Hbl
                  cases A <;> cases B
                  all_goals
                    go_wp2
                    go_roundw
                    case rel => exact ⟨m + 1, by omega, by go_num, by rw [Hab.out]; rfl, by rw [Hbl.out]; rfl, hb2, HP2, Hl2⟩
                    case measure => simp [intOf]; omega
                · have hd2 : ¬ 0 < den := by omega
                  rw [decide_eq_false hd2] at Hab
                  rw [decide_eq_true hd] at Hbl
                  cases A <;> cases B
                  all_goals
                    go_wp2
                    go_roundw
                    case rel => exact ⟨m + 1, by omega, by go_num, by rw [Hab.out]; rfl, by rw [Hbl.out]; rfl, hb2, HP2, Hl2⟩
                    case measure => simp [intOf]; omega
                · subst hd
                  cases A <;> cases B
                  all_goals
                    go_wp2
                    go_roundw
                    case rel => exact ⟨m + 1, by omega, by go_num, by rw [Hab.out]; rfl, by rw [Hbl.out]; rfl, hb2, HP2, Hl2⟩
                    case measure => simp [intOf]; omega
              · obtain rfl : m = n := by omega
                have HA : Hid (goodB ps k j = (abvB ps (l0, l1, l2) m && blwB ps (l0, l1, l2) m)) := Lib.hid (by unfold goodB; rw [Hnz.out, Hline.out, hn]; rfl)
                have Hbd := Lib.hid (Hbad.out k j (by omega) hlt2)
                generalize abvB ps (l0, l1, l2) m = A at *
                generalize blwB ps (l0, l1, l2) m = B at *
                cases A <;> cases B
                · cases F
                  all_goals
                    go_wp2
                    go_ret
                    exact ⟨ret_bool (Hbd.out HA.out).symm, hb⟩
                · cases F
                  all_goals
                    go_wp2
                    go_ret
                    exact ⟨ret_bool (Hbd.out HA.out).symm, hb⟩
                · cases F
                  all_goals
                    go_wp2
                    go_ret
                    exact ⟨ret_bool (Hbd.out HA.out).symm, hb⟩
                · cases F
                  all_goals
                    go_wp2
                    go_roundw
                    case rel => exact ⟨j + 1, by omega, by go_num, by rw [Hfi.out, Hnz.out]; simp, hb, HP1, Lib.hid (fun i h => by
                      by_cases e : i = j
                      · subst e; exact HA.out
                      · exact Hgj.out i (by omega))⟩
                    case measure => simp [intOf]; omega
        · obtain rfl : j = k := by omega
          have Hsum := Lib.hid (fullA_succ ps j)
          go_wp2
          go_roundw
          case rel => exact ⟨j + 1, by omega, by go_num, by rw [Hsum.out], hb, Lib.hid (fun i q h1 h2 => by
            by_cases e : i = j
            · subst e; exact Hgj.out q h2
            · exact Hgk.out i q (by omega) h2)⟩
          case measure => simp [intOf]; omega
    · obtain rfl : k = n := by omega
      have Hg := Lib.hid (Hgood.out (fun i q h1 h2 => Hgk.out i q (by omega) h2))
      clear hx
      go_wp2
      go_ret
      exact ⟨ret_bool (by rw [Hg.out, hn]), hbk⟩
end
/- solid.read, solid.Normal. -/
section
open Go.RowKit Go.Shelf
attribute [local go_sem] Ext.cell Ext.frozen
def firstErr : List Q4 → Int
  | [] => 0
  | p :: ps => if planeErr p = 0 then firstErr ps else planeErr p
theorem firstErr_hit (ps : List Q4) (k : Nat) (hk : k < ps.length) (h : ∀ i (hi : i < ps.length), i < k → planeErr ps[i] = 0) (hx : planeErr ps[k] ≠ 0) : firstErr ps = planeErr ps[k] := by
  induction ps generalizing k with
  | nil => simp at hk
  | cons p ps ih =>
    cases k with
    | zero => simp only [List.getElem_cons_zero] at hx; simp [firstErr, hx]
    | succ k =>
      have h0 := h 0 (by simp) (by omega)
      simp only [List.getElem_cons_zero] at h0
      simp only [firstErr, h0, if_true, List.getElem_cons_succ]
      exact ih k (by simpa using hk) (fun i hi hik => by have := h (i + 1) (by simpa using hi) (by omega); simpa using this) (by simpa using hx)
theorem firstErr_none (ps : List Q4) (h : ∀ i (hi : i < ps.length), planeErr ps[i] = 0) : firstErr ps = 0 := by
  induction ps with
  | nil => rfl
  | cons p ps ih =>
    have h0 := h 0 (by simp)
    simp only [List.getElem_cons_zero] at h0
    simp only [firstErr, h0, if_true]
    exact ih (fun i hi => by have := h (i + 1) (by simpa using hi); simpa using this)
theorem planeErr_zero (p : Q4) (h : planeErr p = 0) : okPl0 p := by
  unfold planeErr at h
  split at h
  · cases h
  · rename_i h1
    split at h
    · cases h
    · rename_i h2
      unfold okPl0 okPl
      omega
def roomB (cs : List Q4) : Bool := !(cs.any fun c => !inRm c)
/-- The error of a cell. -/
def cellErr (ps : List Q4) : Int :=
  if 16 < ps.length then 8 else if firstErr ps ≠ 0 then firstErr ps else if boundedB ps = false then 14 else
  if solidB ps (cornersOf ps) = false then 13 else if roomB (cornersOf ps) = false then 2 else 0
theorem compact_mem {l : List Q4} {x : Q4} (h : x ∈ Lib.compact l) : x ∈ l := by
  simp only [Lib.compact, Lib.compactUpTo, List.mem_map, List.mem_filter, List.mem_range] at h
  obtain ⟨i, ⟨hi, _⟩, rfl⟩ := h
  rw [getElem!_pos l.toArray i (by simpa using hi)]
  simp
theorem corners_mem {ps : List Q4} {c : Q4} (h : c ∈ cornersOf ps) : c ∈ raw ps ps.length := by
  have := compact_mem h
  simpa [sortP] using this
theorem corners_ok (ps : List Q4) (h : ∀ p ∈ ps, okPl p) : ∀ c ∈ cornersOf ps, nrmCo c := fun c hc => raw_nrm ps h ps.length (Nat.le_refl _) c (corners_mem hc)
theorem compact_len (l : List Q4) : (Lib.compact l).length ≤ l.length := compact_len_le _ _
theorem corners_len (ps : List Q4) (h : ps.length ≤ 64) : (cornersOf ps).length ≤ 262144 := by
  have h1 := compact_len (sortP (raw ps ps.length))
  rw [sortP_len] at h1
  have h2 := raw_len ps ps.length h
  unfold cornersOf
  omega
set_option maxHeartbeats 1000000 in
theorem read_closure (c : Q4) (w : World) (hc : okCo c) : Calls Tryz.prog 223 #[v4 c] w (Ret w (.bool (!inRm c))) := by
  obtain ⟨x, y, z, q⟩ := c
  simp only [okCo] at hc
  have hs := fun W => Lib.hid (inRoom_any x y z q W (by omega))
  generalize inRm (x, y, z, q) = r at *
  go_enter Tryz.func223, Tryz.ntmps223
  go_wp2_with fail
  refine ((hs _).out).mono ?_
  rintro e w1 ⟨rfl, hb1⟩
  go_wp2
  go_ret
  exact ⟨rfl, below_trans (by (repeat (first | exact brf | assumption | refine ble ?_ | refine blx ?_ | refine bla ?_ | refine bls ?_ | refine bld ?_))) hb1⟩
theorem eg_read1 : ∀ args w, (callFunc 223 args).run Tryz.prog w = .ok (.enter 223 args) w := enters_of Tryz.func223 (by kernel_rfl) rfl
theorem read_pred (c : Q4) (w : World) (hc : okCo c) : PredIn Tryz.prog 223 #[] w (v4 c) (!inRm c) := fun _ _ => read_closure c _ hc
theorem Q4s.far {w : World} {v : Value} {cs : List Q4} (h : Q4s w v cs) (g i : Nat) (u : Value) (hg : ∀ j k x, w.cell? ⟨g, j, none⟩ ≠ some (.int k x)) : Q4s (w.setCell ⟨g, i, none⟩ u) v cs := by
  obtain ⟨a, n, c, rfl, hn, hc, hx⟩ := h
  refine ⟨a, n, c, rfl, hn, hc, fun h0 => ?_⟩
  obtain ⟨b, off, rfl, hi⟩ := hx h0
  refine ⟨b, off, rfl, fun j hj => ?_⟩
  obtain ⟨h1, h2, h3, h4⟩ := hi j hj
  have hne : g ≠ b := by rintro rfl; exact hg _ _ _ h1
  have key : ∀ o, (w.setCell ⟨g, i, none⟩ u).cell? ⟨b, o, none⟩ = w.cell? ⟨b, o, none⟩ := fun o => World.cell?_setCell_other w ⟨g, i, none⟩ ⟨b, o, none⟩ u (fun e => by cases e; exact hne rfl)
  exact ⟨(key _).trans h1, (key _).trans h2, (key _).trans h3, (key _).trans h4⟩
theorem Q4s.set2 {w : World} {v : Value} {cs : List Q4} {g : Nat} {T : TypeId} {a1 a2 : Option Addr} {n1 c1 n2 c2 : Nat} (h : Q4s w v cs) (hg : w.heap[g]? = some (.cells #[.slice a1 n1 c1, .slice a2 n2 c2] T (0, 0))) (x y : Option Addr × Nat × Nat) :
    Q4s ((w.setCell ⟨g, 0, none⟩ (.slice x.1 x.2.1 x.2.2)).setCell ⟨g, 1, none⟩ (.slice y.1 y.2.1 y.2.2)) v cs := by
  have key : ∀ (w : World) (cs : Array Value), w.heap[g]? = some (.cells cs T (0, 0)) → (∀ z ∈ cs, ∃ a n c, z = .slice a n c) → ∀ j k x, w.cell? ⟨g, j, none⟩ ≠ some (.int k x) := fun w cs hw hz j k x e => by
    rw [blk_cell hw j] at e
    obtain ⟨_, _, _, hh⟩ := hz _ (Array.mem_of_getElem? e)
    cases hh
  refine (h.far g 0 _ (key w _ hg (fun z hz => ?_))).far g 1 _ (key _ _ (blk_set hg 0 _) (fun z hz => ?_))
  · simp at hz; rcases hz with rfl | rfl <;> exact ⟨_, _, _, rfl⟩
  · simp at hz; rcases hz with rfl | rfl <;> exact ⟨_, _, _, rfl⟩
/-- What read gives back. -/
def ReadPost (ps : List Q4) (pv : Value) (w : World) (e : Ending) (w' : World) : Prop :=
  Below w.heap.size w w' ∧ ((cellErr ps = 0 ∧ ∃ cv, e = .returned (.tuple #[.agg #[pv, cv], .int .i64 0]) ∧ Q4s w' cv (cornersOf ps)) ∨
    (cellErr ps ≠ 0 ∧ e = .returned (.tuple #[.agg #[.slice none 0 0, .slice none 0 0], .int .i64 (cellErr ps)])))
theorem ReadPost.err {ps : List Q4} {pv : Value} {w w' : World} {n : Int} (hb : Below w.heap.size w w') (hn : cellErr ps = n) (h0 : n ≠ 0) : ReadPost ps pv w (.returned (.tuple #[.agg #[.slice none 0 0, .slice none 0 0], .int .i64 n])) w' :=
  ⟨hb, .inr ⟨by rw [hn]; exact h0, by rw [hn]⟩⟩
set_option maxRecDepth 100000 in
set_option maxHeartbeats 2000000 in
theorem read_any (ps : List Q4) (pv : Value) (w : World) (hl : ps.length ≤ 1000000000) (hpv : Q4s w pv ps) :
    Calls Tryz.prog 175 #[.agg #[pv]] w (ReadPost ps pv w) := by
  have HPV := Lib.hid hpv
  obtain ⟨a, n, cc, rfl, hn, hnc, hx⟩ := hpv
  by_cases h16 : 16 < n
  · have He : Hid (cellErr ps = 8) := Lib.hid (by unfold cellErr; rw [if_pos (by omega)])
    clear hx
    go_enter Tryz.func175, Tryz.ntmps175
    go_wp2
    refine bodyPost_ret (v := .tuple #[.agg #[.slice none 0 0, .slice none 0 0], .int .i64 8]) (by simp [results, Tryz.results175, go_sem]) rfl (ReadPost.err ?_ He.out (by decide))
    (repeat (first | exact brf | assumption | refine ble ?_ | refine blx ?_ | refine bla ?_ | refine bls ?_ | refine bld ?_))
  · have Hc0 : Hid (∀ x, firstErr ps = x → x ≠ 0 → cellErr ps = x) := Lib.hid (fun x h h0 => by unfold cellErr; rw [if_neg (by omega), if_pos (by rw [h]; exact h0), h])
    have Hc1 : Hid (firstErr ps = 0 → boundedB ps = false → cellErr ps = 14) := Lib.hid (fun h h1 => by unfold cellErr; rw [if_neg (by omega), if_neg (by simp [h]), if_pos h1])
    have Hc2 : Hid (firstErr ps = 0 → boundedB ps = true → solidB ps (cornersOf ps) = false → cellErr ps = 13) := Lib.hid (fun h h1 h2 => by unfold cellErr; rw [if_neg (by omega), if_neg (by simp [h]), if_neg (by simp [h1]), if_pos h2])
    have Hc3 : Hid (firstErr ps = 0 → boundedB ps = true → solidB ps (cornersOf ps) = true → roomB (cornersOf ps) = false → cellErr ps = 2) := Lib.hid (fun h h1 h2 h3 => by unfold cellErr; rw [if_neg (by omega), if_neg (by simp [h]), if_neg (by simp [h1]), if_neg (by simp [h2]), if_pos h3])
    have Hc4 : Hid (firstErr ps = 0 → boundedB ps = true → solidB ps (cornersOf ps) = true → roomB (cornersOf ps) = true → cellErr ps = 0) := Lib.hid (fun h h1 h2 h3 => by unfold cellErr; rw [if_neg (by omega), if_neg (by simp [h]), if_neg (by simp [h1]), if_neg (by simp [h2]), if_neg (by simp [h3])])
    have Hhit := Lib.hid (firstErr_hit ps)
    have Hnone := Lib.hid (firstErr_none ps)
    go_enter Tryz.func175, Tryz.ntmps175
    go_wp2
    go_loopw [16] (fun i wr => ∃ k : Nat, k ≤ n ∧ i = .int .i64 k ∧ Below w.heap.size w wr ∧ Hid (wr.heap[w.heap.size]? = some (.cells #[.slice a n cc] 93 (0, 0))) ∧ Hid (wr.heap[w.heap.size + 1]? = some (.cells #[.slice none 0 0, .slice none 0 0] 208 (0, 0))) ∧ Hid (∀ i (h : i < ps.length), i < k → planeErr ps[i] = 0)) (fun i _ => n - (intOf i).toNat)
    case atStart => exact ⟨0, by omega, rfl, by (repeat (first | exact brf | assumption | refine ble ?_ | refine blx ?_ | refine bla ?_ | refine bls ?_ | refine bld ?_)), Lib.hid ((heap_old (by simp)).trans (heap_new rfl)), Lib.hid (heap_new (by simp)), Lib.hid (fun i _ h => by omega)⟩
    case round =>
      obtain ⟨k, hk, rfl, hb, HB, HC, Hz⟩ := hrel
      have zC := blk_lt HC.out
      have r0 : wr.cell? ⟨w.heap.size + 1, 0, none⟩ = some (.slice none 0 0) := (blk_cell HC.out 0).trans rfl
      have r1 : wr.cell? ⟨w.heap.size + 1, 1, none⟩ = some (.slice none 0 0) := (blk_cell HC.out 1).trans rfl
      by_cases hlt : k < n
      · obtain ⟨b, off, rfl, hi⟩ := hx (by omega)
        obtain ⟨c0, c1, c2, c3⟩ := (hi.below hb) k (by omega)
        have Hhk := Lib.hid (Hhit.out k (by omega) Hz.out)
        obtain ⟨p, Hp⟩ : ∃ p, Hid (ps[k] = p) := ⟨_, Lib.hid rfl⟩
        rw [Hp.out] at c0 c1 c2 c3 Hhk
        have hs := fun W => Lib.hid (CheckPlane_any p.1 p.2.1 p.2.2.1 p.2.2.2 W)
        have Hpe : Hid (planeErr (p.1, p.2.1, p.2.2.1, p.2.2.2) = planeErr p) := Lib.hid rfl
        rw [Hpe.out] at hs
        clear hx hi
        by_cases hpe : planeErr p = 0
        · rw [hpe] at hs
          have He := Lib.hid hpe
          clear hpe
          go_wp2_with fail
          refine ((hs _).out).mono ?_
          rintro e w1 ⟨rfl, hb1⟩
          clear hs
          go_wp2
          go_roundw
          case rel => exact ⟨k + 1, by omega, by go_num, below_trans hb (below_trans (by (repeat (first | exact brf | assumption | refine ble ?_ | refine blx ?_ | refine bla ?_ | refine bls ?_ | refine bld ?_))) hb1), Lib.hid ((hb1.block _ (by simp; omega)).trans ((heap_old (by omega)).trans HB.out)), Lib.hid ((hb1.block _ (by simp; omega)).trans ((heap_old zC).trans HC.out)), Lib.hid (fun i hi hik => by
            by_cases e : i = k
            · subst e; rw [Hp.out]; exact He.out
            · exact Hz.out i hi (by omega))⟩
          case measure => simp [intOf]; omega
        · have Hce := Lib.hid (Hc0.out _ (Hhk.out hpe) hpe)
          have hne : (planeErr p != 0) = true := by simpa using hpe
          go_wp2_with fail
          refine ((hs _).out).mono ?_
          rintro e w1 ⟨rfl, hb1⟩
          have HC1 : w1.heap[w.heap.size + 1]? = some (.cells #[.slice none 0 0, .slice none 0 0] 208 (0, 0)) := (hb1.block _ (by simp; omega)).trans ((heap_old zC).trans HC.out)
          have q0 : w1.cell? ⟨w.heap.size + 1, 0, none⟩ = some (.slice none 0 0) := (blk_cell HC1 0).trans rfl
          have q1 : w1.cell? ⟨w.heap.size + 1, 1, none⟩ = some (.slice none 0 0) := (blk_cell HC1 1).trans rfl
          have f0 := blk_free HC1
          have hbw1 : Below w.heap.size w w1 := below_trans hb (below_trans (by (repeat (first | exact brf | assumption | refine ble ?_ | refine blx ?_ | refine bla ?_ | refine bls ?_ | refine bld ?_))) hb1)
          clear hs HC1
          generalize planeErr p = pe at *
          go_wp2
          refine bodyPost_ret (v := .tuple #[.agg #[.slice none 0 0, .slice none 0 0], .int .i64 pe]) (by simp [results, Tryz.results175, go_sem, q0, q1]) rfl (ReadPost.err ?_ Hce.out hpe)
          exact (hbw1.setCell (by simp) _).setCell (by simp) _
      · obtain rfl : k = n := by omega
        have hall : ∀ i (h : i < ps.length), planeErr ps[i] = 0 := fun i hi => Hz.out i hi (by omega)
        have HF := Lib.hid (Hnone.out hall)
        have Hok0 : Hid (∀ p ∈ ps, okPl0 p) := Lib.hid (fun p hp => by obtain ⟨i, hi, rfl⟩ := List.getElem_of_mem hp; exact planeErr_zero _ (hall i hi))
        have Hok : Hid (∀ p ∈ ps, okPl p) := Lib.hid (fun p hp => (Hok0.out p hp).1)
        have Hcok := Lib.hid (corners_ok ps Hok.out)
        have Hclen := Lib.hid (corners_len ps (by omega))
        have b0 : wr.cell? ⟨w.heap.size, 0, none⟩ = some (.slice a k cc) := (blk_cell HB.out 0).trans rfl
        clear hall hx
        have hbd := fun W hW => Lib.hid (bounded_any ps (.slice a k cc) W Hok.out (by omega) hW)
        cases hbb : boundedB ps with
        | false =>
          rw [hbb] at hbd
          have He := Lib.hid (Hc1.out HF.out hbb)
          clear hbb
          go_wp2_with fail
          refine ((hbd _ (HPV.out.below hb)).out).mono ?_
          rintro e w1 ⟨rfl, hb1⟩
          have HC1 : w1.heap[w.heap.size + 1]? = some (.cells #[.slice none 0 0, .slice none 0 0] 208 (0, 0)) := (hb1.block _ zC).trans HC.out
          have q0 : w1.cell? ⟨w.heap.size + 1, 0, none⟩ = some (.slice none 0 0) := (blk_cell HC1 0).trans rfl
          have q1 : w1.cell? ⟨w.heap.size + 1, 1, none⟩ = some (.slice none 0 0) := (blk_cell HC1 1).trans rfl
          have f0 := blk_free HC1
          have hbw1 : Below w.heap.size w w1 := below_trans hb hb1
          clear hbd HC1
          go_wp2
          refine bodyPost_ret (v := .tuple #[.agg #[.slice none 0 0, .slice none 0 0], .int .i64 14]) (by simp [results, Tryz.results175, go_sem, q0, q1]) rfl (ReadPost.err ?_ He.out (by decide))
          exact (hbw1.setCell (by simp) _).setCell (by simp) _
        | true =>
          rw [hbb] at hbd
          have HBB := Lib.hid hbb
          clear hbb
          go_wp2_with fail
          refine ((hbd _ (HPV.out.below hb)).out).mono ?_
          rintro e w1 ⟨rfl, hb1⟩
          have HC1 : Hid (w1.heap[w.heap.size + 1]? = some (.cells #[.slice none 0 0, .slice none 0 0] 208 (0, 0))) := Lib.hid ((hb1.block _ zC).trans HC.out)
          have HB1 : Hid (w1.heap[w.heap.size]? = some (.cells #[.slice a k cc] 93 (0, 0))) := Lib.hid ((hb1.block _ (by omega)).trans HB.out)
          have hbw1 : Below w.heap.size w w1 := below_trans hb hb1
          have b1 : w1.cell? ⟨w.heap.size, 0, none⟩ = some (.slice a k cc) := (blk_cell HB1.out 0).trans rfl
          have zC1 := blk_lt HC1.out
          clear hbd HC HB b0 r0 r1 hb hb1 zC
          go_wp2_with fail
          refine (bodyOf_any ps (.slice a k cc) w1 Hok.out (by omega) (HPV.out.below hbw1)).mono ?_
          rintro e w2 ⟨cv, rfl, hb2, hown2⟩
          have HQ := Lib.hid (q4s_own hown2)
          have HC2 : Hid (w2.heap[w.heap.size + 1]? = some (.cells #[.slice none 0 0, .slice none 0 0] 208 (0, 0))) := Lib.hid ((hb2.block _ zC1).trans HC1.out)
          have hbw2 : Below w.heap.size w w2 := below_trans hbw1 hb2
          have zC2 := blk_lt HC2.out
          have Hcvs : ∃ a m c, cv = .slice a m c := by obtain ⟨a, m, c, h, _⟩ := HQ.out; exact ⟨a, m, c, h⟩
          obtain ⟨ca, cm, cc2, rfl⟩ := Hcvs
          clear hown2 HC1 HB1 hbw1 b1 zC1 hb2
          obtain ⟨W, HW⟩ : ∃ W, Hid (w2.alloc (.cells #[.slice a k cc, .slice ca cm cc2] 208) = W) := ⟨_, Lib.hid rfl⟩
          have hbW : Below w2.heap.size w2 W := by rw [← HW.out]; (repeat (first | exact brf | assumption | refine ble ?_ | refine blx ?_ | refine bla ?_ | refine bls ?_ | refine bld ?_))
          have hs := Lib.hid (solidly_any ps (cornersOf ps) (.slice a k cc) (.slice ca cm cc2) W Hok.out (fun c hc => (Hcok.out c hc).1) (by omega) (by have := Hclen.out; omega) ((HPV.out.below hbw2).below hbW) (HQ.out.below hbW))
          rw [← HW.out] at hs
          go_wp2_with fail
          refine (hs.out).mono ?_
          rintro e w3 ⟨rfl, hb3⟩
          have HC3 : Hid (w3.heap[w.heap.size + 1]? = some (.cells #[.slice none 0 0, .slice none 0 0] 208 (0, 0))) := Lib.hid ((hb3.block _ (by simp; omega)).trans ((heap_old zC2).trans HC2.out))
          have HD3 : Hid (w3.heap[w2.heap.size]? = some (.cells #[.slice a k cc, .slice ca cm cc2] 208 (0, 0))) := Lib.hid ((hb3.block _ (by simp)).trans (heap_new rfl))
          have hbw3 : Below w2.heap.size w2 w3 := below_trans (by (repeat (first | exact brf | assumption | refine ble ?_ | refine blx ?_ | refine bla ?_ | refine bls ?_ | refine bld ?_))) hb3
          have hbw3' : Below w.heap.size w w3 := below_trans hbw2 hbw3
          have HQ3 := Lib.hid (HQ.out.below hbw3)
          have q0 : w3.cell? ⟨w.heap.size + 1, 0, none⟩ = some (.slice none 0 0) := (blk_cell HC3.out 0).trans rfl
          have q1 : w3.cell? ⟨w.heap.size + 1, 1, none⟩ = some (.slice none 0 0) := (blk_cell HC3.out 1).trans rfl
          have f0 := blk_free HC3.out
          clear hs hbW HW HC2 hb3 hbw2 zC2 HQ hbw3
          cases hsb : solidB ps (cornersOf ps) with
          | false =>
            have He := Lib.hid (Hc2.out HF.out HBB.out hsb)
            clear hsb
            go_wp2
            refine bodyPost_ret (v := .tuple #[.agg #[.slice none 0 0, .slice none 0 0], .int .i64 13]) (by simp [results, Tryz.results175, go_sem, q0, q1]) rfl (ReadPost.err ?_ He.out (by decide))
            exact (hbw3'.setCell (by simp) _).setCell (by simp) _
          | true =>
            have HSB := Lib.hid hsb
            clear hsb
            have d0 : w3.cell? ⟨w2.heap.size, 0, none⟩ = some (.slice a k cc) := (blk_cell HD3.out 0).trans rfl
            have d1 : w3.cell? ⟨w2.heap.size, 1, none⟩ = some (.slice ca cm cc2) := (blk_cell HD3.out 1).trans rfl
            have hcf := Lib.hid (containsFunc_corner (.slice ca cm cc2) (cornersOf ps) (fun c => !inRm c) _ _ w3 HQ3.out (by have := Hclen.out; omega) eg_read1 (fun c hc => read_pred c w3 (Hcok.out c hc).1))
            have hany : ((cornersOf ps).any fun c => !inRm c) = !roomB (cornersOf ps) := by simp [roomB]
            rw [hany] at hcf
            clear hany
            cases hrb : roomB (cornersOf ps) with
            | false =>
              have He := Lib.hid (Hc3.out HF.out HBB.out HSB.out hrb)
              rw [hrb] at hcf
              clear hrb
              go_wp2_with fail
              refine (hcf.out).mono ?_
              rintro e w4 ⟨rfl, hb4⟩
              have HC4 := (hb4.block _ (blk_lt HC3.out)).trans HC3.out
              have s0 : w4.cell? ⟨w.heap.size + 1, 0, none⟩ = some (.slice none 0 0) := (blk_cell HC4 0).trans rfl
              have s1 : w4.cell? ⟨w.heap.size + 1, 1, none⟩ = some (.slice none 0 0) := (blk_cell HC4 1).trans rfl
              have f4 := blk_free HC4
              clear HC4 q0 q1 f0 d0 d1 hcf
              go_wp2
              refine bodyPost_ret (v := .tuple #[.agg #[.slice none 0 0, .slice none 0 0], .int .i64 2]) (by simp [results, Tryz.results175, go_sem, s0, s1]) rfl (ReadPost.err ?_ He.out (by decide))
              exact ((below_trans hbw3' hb4).setCell (by simp) _).setCell (by simp) _
            | true =>
              have He := Lib.hid (Hc4.out HF.out HBB.out HSB.out hrb)
              rw [hrb] at hcf
              clear hrb
              go_wp2_with fail
              refine (hcf.out).mono ?_
              rintro e w4 ⟨rfl, hb4⟩
              have HC4 := Lib.hid ((hb4.block _ (blk_lt HC3.out)).trans HC3.out)
              have HD4 := (hb4.block _ (blk_lt HD3.out)).trans HD3.out
              have s0 : w4.cell? ⟨w.heap.size + 1, 0, none⟩ = some (.slice none 0 0) := (blk_cell HC4.out 0).trans rfl
              have s1 : w4.cell? ⟨w.heap.size + 1, 1, none⟩ = some (.slice none 0 0) := (blk_cell HC4.out 1).trans rfl
              have t0 : w4.cell? ⟨w2.heap.size, 0, none⟩ = some (.slice a k cc) := (blk_cell HD4 0).trans rfl
              have t1 : w4.cell? ⟨w2.heap.size, 1, none⟩ = some (.slice ca cm cc2) := (blk_cell HD4 1).trans rfl
              have f4 := blk_free HC4.out
              have HQ4 := Lib.hid (HQ3.out.below hb4)
              clear HD4 q0 q1 f0 d0 d1 hcf
              go_wp2
              refine bodyPost_ret (v := .tuple #[.agg #[.slice a k cc, .slice ca cm cc2], .int .i64 0]) (by simp [results, Tryz.results175, go_sem, s0, s1]) rfl ⟨((below_trans hbw3' hb4).setCell (by simp) _).setCell (by simp) _, .inl ⟨He.out, _, rfl, ?_⟩⟩
              exact HQ4.out.set2 HC4.out (a, k, cc) (ca, cm, cc2)
end
/- solid.Normal. -/
section
open Go.RowKit Go.Shelf
attribute [local go_sem] Ext.cell Ext.frozen
theorem cellErr_zero {ps : List Q4} (h : cellErr ps = 0) : ps.length ≤ 16 ∧ firstErr ps = 0 := by
  unfold cellErr at h
  split at h
  · cases h
  · rename_i h1
    split at h
    · rename_i h2; exact absurd h h2
    · rename_i h2; exact ⟨by omega, by simpa using h2⟩
theorem firstErr_all {ps : List Q4} (h : firstErr ps = 0) : ∀ p ∈ ps, okPl0 p := by
  induction ps with
  | nil => simp
  | cons q ps ih =>
    simp only [firstErr] at h
    split at h
    · rename_i h0
      intro p hp
      rcases List.mem_cons.1 hp with rfl | hp
      · exact planeErr_zero _ h0
      · exact ih h p hp
    · rename_i h0; exact absurd h h0
theorem cellErr_ok {ps : List Q4} (h : cellErr ps = 0) : ∀ p ∈ ps, okPl0 p := firstErr_all (cellErr_zero h).2
theorem own_mono {w : World} {base base' : Nat} {e : TypeId} {size n : Nat} {v : Value} {xs : List Value} (h : w.ownsRow base e size v n xs) (hb : base' ≤ base) : w.ownsRow base' e size v n xs :=
  ⟨h.1, h.2.imp id (fun ⟨g, cap, cur, hv, hg, r⟩ => ⟨g, cap, cur, hv, Nat.le_trans hb hg, r⟩)⟩
/-- The normal form of a cell. -/
def normC (ps : List Q4) : List Q4 := normF ps (cornersOf ps)
def NormPost (ps : List Q4) (w : World) (e : Ending) (w' : World) : Prop :=
  Below w.heap.size w w' ∧ ((cellErr ps = 0 ∧ ∃ v, e = .returned (.tuple #[.agg #[v], .int .i64 0]) ∧ w'.ownsRow w.heap.size 95 4 v (normC ps).length ((normC ps).flatMap enc4)) ∨
    (cellErr ps ≠ 0 ∧ e = .returned (.tuple #[.agg #[.slice none 0 0], .int .i64 (cellErr ps)])))
set_option maxRecDepth 100000 in
set_option maxHeartbeats 2000000 in
theorem Normal_any (ps : List Q4) (pv : Value) (w : World) (hl : ps.length ≤ 1000000000) (hpv : Q4s w pv ps) :
    Calls Tryz.prog 106 #[.agg #[pv]] w (NormPost ps w) := by
  have HPV := Lib.hid hpv
  obtain ⟨a, n, cc, rfl, hn, hnc, hx⟩ := hpv
  clear hx
  obtain ⟨W, HW⟩ : ∃ W, Hid ((w.alloc (.cells #[.slice a n cc] 93)).alloc (.cells #[.slice none 0 0] 93) = W) := ⟨_, Lib.hid rfl⟩
  have hbW : Below w.heap.size w W := by rw [← HW.out]; (repeat (first | exact brf | assumption | refine ble ?_ | refine blx ?_ | refine bla ?_ | refine bls ?_ | refine bld ?_))
  have hrd := Lib.hid (read_any ps (.slice a n cc) W hl (HPV.out.below hbW))
  have HC : Hid (W.heap[w.heap.size + 1]? = some (.cells #[.slice none 0 0] 93 (0, 0))) := by rw [← HW.out]; exact Lib.hid (heap_new (by simp))
  have zC := blk_lt HC.out
  go_enter Tryz.func106, Tryz.ntmps106
  go_wp2_with fail
  rw [HW.out]
  refine (hrd.out).mono ?_
  rintro e w1 ⟨hb1, ⟨h0, cv, rfl, hq⟩ | ⟨h0, rfl⟩⟩
  · have HQ := Lib.hid hq
    have HE := Lib.hid h0
    have Hok := Lib.hid (cellErr_ok h0)
    have Hlen := Lib.hid (cellErr_zero h0).1
    have Hcok := Lib.hid (corners_ok ps (fun p hp => (Hok.out p hp).1))
    have Hclen := Lib.hid (corners_len ps (by have := Hlen.out; omega))
    obtain ⟨ca, cm, cc2, rfl, _⟩ := hq
    have HC1 : Hid (w1.heap[w.heap.size + 1]? = some (.cells #[.slice none 0 0] 93 (0, 0))) := Lib.hid ((hb1.block _ zC).trans HC.out)
    have hbw1 : Below w.heap.size w w1 := below_trans hbW hb1
    have zC1 := blk_lt HC1.out
    obtain ⟨W2, HW2⟩ : ∃ W, Hid (w1.alloc (.cells #[.slice a n cc, .slice ca cm cc2] 208) = W) := ⟨_, Lib.hid rfl⟩
    have hbW2 : Below w1.heap.size w1 W2 := by rw [← HW2.out]; (repeat (first | exact brf | assumption | refine ble ?_ | refine blx ?_ | refine bla ?_ | refine bls ?_ | refine bld ?_))
    have hnf := Lib.hid (normalForm_any ps (cornersOf ps) (.slice a n cc) (.slice ca cm cc2) W2 Hok.out (fun c hc => (Hcok.out c hc).1) (by have := Hlen.out; omega) (by have := Hclen.out; omega) ((HPV.out.below hbw1).below hbW2) (HQ.out.below hbW2))
    rw [← HW2.out] at hnf
    clear hrd HC zC hb1 h0 hbW HW
    go_wp2_with fail
    refine (hnf.out).mono ?_
    rintro e w2 ⟨v, rfl, hb2, hown2⟩
    have HQ2 := Lib.hid (own_mono hown2 (base' := w.heap.size) (by have := hbw1.size; simp; omega))
    have hvs : ∃ a m c, v = .slice a m c := by obtain ⟨a, m, c, h, _⟩ := q4s_own hown2; exact ⟨a, m, c, h⟩
    obtain ⟨va, vm, vc, rfl⟩ := hvs
    have HC2 : Hid (w2.heap[w.heap.size + 1]? = some (.cells #[.slice none 0 0] 93 (0, 0))) := Lib.hid ((hb2.block _ (by simp; omega)).trans ((heap_old zC1).trans HC1.out))
    have s0 : w2.cell? ⟨w.heap.size + 1, 0, none⟩ = some (.slice none 0 0) := (blk_cell HC2.out 0).trans rfl
    have f2 := blk_free HC2.out
    have hbw2 : Below w.heap.size w w2 := below_trans hbw1 (below_trans (by (repeat (first | exact brf | assumption | refine ble ?_ | refine blx ?_ | refine bla ?_ | refine bls ?_ | refine bld ?_))) hb2)
    clear hnf hown2 hbW2 HW2 hb2
    go_wp2
    refine bodyPost_ret (v := .tuple #[.agg #[.slice va vm vc], .int .i64 0]) (by simp [results, Tryz.results106, go_sem, s0]) rfl ⟨hbw2.setCell (by simp) _, .inl ⟨HE.out, _, rfl, ?_⟩⟩
    exact own_setCell_far HQ2.out _ _ (fun e => own_blk_ne HQ2.out HC2.out (by decide) e.symm)
  · have HC1 : Hid (w1.heap[w.heap.size + 1]? = some (.cells #[.slice none 0 0] 93 (0, 0))) := Lib.hid ((hb1.block _ zC).trans HC.out)
    have hbw1 : Below w.heap.size w w1 := below_trans hbW hb1
    have s0 : w1.cell? ⟨w.heap.size + 1, 0, none⟩ = some (.slice none 0 0) := (blk_cell HC1.out 0).trans rfl
    have f2 := blk_free HC1.out
    have zC1 := blk_lt HC1.out
    have hne : (cellErr ps != 0) = true := by simpa using h0
    clear hrd HC zC hb1 hbW HW
    have H0 := Lib.hid h0
    clear h0
    obtain ⟨ce, Hce⟩ : ∃ ce, Hid (cellErr ps = ce) := ⟨_, Lib.hid rfl⟩
    rw [Hce.out] at hne
    rw [Hce.out]
    go_wp2
    refine bodyPost_ret (v := .tuple #[.agg #[.slice none 0 0], .int .i64 ce]) (by simp [results, Tryz.results106, go_sem, s0, zC1]) rfl ⟨?_, .inr ⟨H0.out, by rw [Hce.out]⟩⟩
    first | exact (hbw1.alloc (by omega) _).setCell (by simp) _ | exact (hbw1.alloc (by omega) _).setCell (by omega) _ | exact (hbw1.setCell (by simp) _).alloc (by simp; omega) _ | (refine Below.alloc ?_ (by simp; omega) _; exact hbw1.setCell (by simp) _)
end
end Go.Proofs.YtjglkglaogaenaaGreatDoor
