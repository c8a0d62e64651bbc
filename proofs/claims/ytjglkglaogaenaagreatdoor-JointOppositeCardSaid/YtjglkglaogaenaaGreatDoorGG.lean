/- texts of mine, merged: B4, B5. -/
import Derived.Test.YtjglkglaogaenaaGreatDoorGF
import Derived.Test.YtjglkglaogaenaaGreatDoorGE
/- solid.body: solidly. -/
namespace Go.Proofs.YtjglkglaogaenaaGreatDoor
section
open Go.RowKit Go.Shelf Go.Sort Go.Lib
attribute [local go_sem] Ext.cell Ext.frozen
/-- p has a corner within. -/
def innerB (cs : List Q4) (p : Q4) : Bool := cs.any fun c => decide (sd p c < 0)
def solidB (ps cs : List Q4) : Bool := ps.all (innerB cs) && decide (0 < ps.length)
set_option maxHeartbeats 1000000 in
theorem solidly_closure (p c : Q4) (b : Nat) (w : World) (hp : okPl p) (hc : okCo c) (h0 : w.cell? ⟨b, 0, none⟩ = some (.int .i64 p.1)) (h1 : w.cell? ⟨b, 1, none⟩ = some (.int .i64 p.2.1)) (h2 : w.cell? ⟨b, 2, none⟩ = some (.int .i64 p.2.2.1)) (h3 : w.cell? ⟨b, 3, none⟩ = some (.int .i64 p.2.2.2)) :
    Calls Tryz.prog 250 #[v4 c, .pointer (some ⟨b, 0, none⟩)] w (Ret w (.bool (decide (sd p c < 0)))) := by
  have hs := fun W => Lib.hid (side_q p c W hp hc)
  have hlt := World.block_lt_of_cell? w _ h0
  go_enter Tryz.func250, Tryz.ntmps250
  go_wp2_with fail
  refine ((hs _).out).mono ?_
  rintro e w1 ⟨rfl, hb1⟩
  go_wp2
  go_ret
  exact ⟨rfl, below_trans (by (repeat (first | exact brf | assumption | refine ble ?_ | refine blx ?_ | refine bla ?_ | refine bls ?_ | refine bld ?_))) hb1⟩
theorem eg_solid1 : ∀ args w, (callFunc 250 args).run Tryz.prog w = .ok (.enter 250 args) w := enters_of Tryz.func250 (by kernel_rfl) rfl
theorem solid_pred (p c : Q4) (b : Nat) (w : World) (hp : okPl p) (hc : okCo c) (hb : w.heap[b]? = some (.cells #[.int .i64 p.1, .int .i64 p.2.1, .int .i64 p.2.2.1, .int .i64 p.2.2.2] 95 (0, 0))) :
    PredIn Tryz.prog 250 #[.pointer (some ⟨b, 0, none⟩)] w (v4 c) (decide (sd p c < 0)) :=
  fun _ hw => solidly_closure p c b _ hp hc (below_cell hw ((blk_cell hb 0).trans rfl)) (below_cell hw ((blk_cell hb 1).trans rfl)) (below_cell hw ((blk_cell hb 2).trans rfl)) (below_cell hw ((blk_cell hb 3).trans rfl))
set_option maxHeartbeats 1000000 in
theorem solidly_any (ps cs : List Q4) (pv cv : Value) (w : World) (hps : ∀ p ∈ ps, okPl p) (hcs : ∀ c ∈ cs, okCo c) (hl : ps.length ≤ 1000000) (hlc : cs.length ≤ 1000000) (hpv : Q4s w pv ps) (hcv : Q4s w cv cs) :
    Calls Tryz.prog 221 #[.agg #[pv, cv]] w (Ret w (.bool (solidB ps cs))) := by
  obtain ⟨a, n, cc, rfl, hn, hnc, hx⟩ := hpv
  obtain ⟨a', n', cc', rfl, hn', hnc', hx'⟩ := hcv
  have HCV : Hid (Q4s w (.slice a' n' cc') cs) := Lib.hid ⟨a', n', cc', rfl, hn', hnc', hx'⟩
  have HPS := Lib.hid hps
  have HCS := Lib.hid hcs
  have Hyes : Hid ((∀ i (h : i < ps.length), innerB cs ps[i] = true) → solidB ps cs = decide (0 < ps.length)) := Lib.hid (fun h => by
    have : ps.all (innerB cs) = true := by rw [List.all_eq_true]; intro x hx; obtain ⟨i, hi, rfl⟩ := List.getElem_of_mem hx; exact h i hi
    simp [solidB, this])
  have Hno : Hid (∀ i (h : i < ps.length), innerB cs ps[i] = false → solidB ps cs = false) := Lib.hid (fun i hi h => by
    have : ps.all (innerB cs) = false := by rw [List.all_eq_false]; exact ⟨_, List.getElem_mem hi, by simp [h]⟩
    simp [solidB, this])
  clear hps hcs hx'
  go_enter Tryz.func221, Tryz.ntmps221
  go_wp2
  go_loopw [8] (fun i wr => ∃ k : Nat, k ≤ n ∧ i = .int .i64 k ∧ Below w.heap.size w wr ∧ Hid (wr.heap[w.heap.size]? = some (.cells #[.slice a n cc, .slice a' n' cc'] 208 (0, 0))) ∧ Hid (∀ i (h : i < ps.length), i < k → innerB cs ps[i] = true)) (fun i _ => n - (intOf i).toNat)
  case atStart => exact ⟨0, by omega, rfl, by (repeat (first | exact brf | assumption | refine ble ?_ | refine blx ?_ | refine bla ?_ | refine bls ?_ | refine bld ?_)), Lib.hid (heap_new rfl), Lib.hid (fun i _ h => by omega)⟩
  case round =>
    obtain ⟨k, hk, rfl, hb, HB, Hz⟩ := hrel
    have zB := blk_lt HB.out
    by_cases hlt : k < n
    · obtain ⟨b, off, rfl, hi⟩ := hx (by omega)
      obtain ⟨c0, c1, c2, c3⟩ := (hi.below hb) k (by omega)
      have Hok := Lib.hid (HPS.out (ps[k]) (by simp))
      have Hnk := Lib.hid (Hno.out k (by omega))
      obtain ⟨p, Hp⟩ : ∃ p, Hid (ps[k] = p) := ⟨_, Lib.hid rfl⟩
      rw [Hp.out] at c0 c1 c2 c3 Hok Hnk
      have k1 : wr.cell? ⟨w.heap.size, 1, none⟩ = some (.slice a' n' cc') := (blk_cell HB.out 1).trans rfl
      obtain ⟨W, HW⟩ : ∃ W, Hid (W = wr.alloc (.cells #[.int .i64 p.1, .int .i64 p.2.1, .int .i64 p.2.2.1, .int .i64 p.2.2.2] 95)) := ⟨_, Lib.hid rfl⟩
      have hbW : Below wr.heap.size wr W := by rw [HW.out]; (repeat (first | exact brf | assumption | refine ble ?_ | refine blx ?_ | refine bla ?_ | refine bls ?_ | refine bld ?_))
      have hblk : W.heap[wr.heap.size]? = some (.cells #[.int .i64 p.1, .int .i64 p.2.1, .int .i64 p.2.2.1, .int .i64 p.2.2.2] 95 (0, 0)) := by rw [HW.out]; exact heap_new rfl
      have hcon := containsFunc_corner (.slice a' n' cc') cs (fun c => decide (sd p c < 0)) _ _ W ((HCV.out.below hb).below hbW) (by omega) eg_solid1 (fun c hc => solid_pred p c _ W Hok.out (HCS.out c hc) hblk)
      have hin : (cs.any fun c => decide (sd p c < 0)) = innerB cs p := rfl
      rw [hin, HW.out] at hcon
      have Hcon := Lib.hid hcon
      clear hcon hin hblk hbW hx hi
      cases hib : innerB cs p with
      | true =>
        have Hib := Lib.hid hib
        rw [hib] at Hcon
        clear hib HW
        go_wp2_with fail
        refine (Hcon.out).mono ?_
        rintro e w1 ⟨rfl, hb1⟩
        go_wp2
        go_roundw
        case rel => exact ⟨k + 1, by omega, by go_num, below_trans hb (below_trans (by (repeat (first | exact brf | assumption | refine ble ?_ | refine blx ?_ | refine bla ?_ | refine bls ?_ | refine bld ?_))) hb1), Lib.hid ((hb1.block _ (by simp; omega)).trans ((heap_old zB).trans HB.out)), Lib.hid (fun i hi hik => by
          by_cases e : i = k
          · subst e; rw [Hp.out]; exact Hib.out
          · exact Hz.out i hi (by omega))⟩
        case measure => simp [intOf]; omega
      | false =>
        have Hib := Lib.hid hib
        rw [hib] at Hcon
        clear hib HW
        go_wp2_with fail
        refine (Hcon.out).mono ?_
        rintro e w1 ⟨rfl, hb1⟩
        go_wp2
        go_ret
        exact ⟨ret_bool (Hnk.out Hib.out).symm, below_trans hb (below_trans (by (repeat (first | exact brf | assumption | refine ble ?_ | refine blx ?_ | refine bla ?_ | refine bls ?_ | refine bld ?_))) hb1)⟩
    · have Hy := Lib.hid (Hyes.out (fun i hi => Hz.out i hi (by omega)))
      have k0 : wr.cell? ⟨w.heap.size, 0, none⟩ = some (.slice a n cc) := (blk_cell HB.out 0).trans rfl
      clear hx
      go_wp2
      go_ret
      exact ⟨ret_bool (by rw [Hy.out, hn]), hb⟩
end
/- solid.body: normalForm. -/
section
open Go.RowKit Go.Shelf Go.Sort Go.Lib
attribute [local go_sem] Ext.cell Ext.frozen
def cntOn (p : Q4) (cs : List Q4) : Nat := (cs.filter fun c => decide (sd p c = 0)).length
def onB (cs : List Q4) (p : Q4) : Bool := decide (3 ≤ cntOn p cs)
def lowL (cs ps : List Q4) : List Q4 := (ps.filter (onB cs)).map lowP
def normF (ps cs : List Q4) : List Q4 := Lib.compact (sortL (lowL cs ps))
theorem cnt_snoc (p : Q4) (cs : List Q4) (j : Nat) (h : j < cs.length) : cntOn p (cs.take (j + 1)) = cntOn p (cs.take j) + if sd p cs[j] = 0 then 1 else 0 := by
  unfold cntOn
  rw [List.take_succ_eq_append_getElem h, List.filter_append, List.length_append]
  by_cases e : sd p cs[j] = 0 <;> simp [e]
theorem low_snoc (cs ps : List Q4) (k : Nat) (h : k < ps.length) : lowL cs (ps.take (k + 1)) = lowL cs (ps.take k) ++ if onB cs ps[k] then [lowP ps[k]] else [] := by
  unfold lowL
  rw [List.take_succ_eq_append_getElem h, List.filter_append, List.map_append]
  by_cases e : onB cs ps[k] <;> simp [e]
theorem low_len (cs ps : List Q4) (k : Nat) : (lowL cs (ps.take k)).length ≤ k := by
  unfold lowL
  rw [List.length_map]
  exact Nat.le_trans (List.length_filter_le _ _) (by simp; omega)
theorem info_plane : (Tryz.prog.info? 95).map (fun i => (i.zero, i.size, i.bytes)) = some (some (v4 (0, 0, 0, 0)), 4, 32) := by kernel_rfl
/-- What is asked of planes whose normals are not 0. -/
def okPl0 (p : Q4) : Prop := okPl p ∧ (p.1 ≠ 0 ∨ p.2.1 ≠ 0 ∨ p.2.2.1 ≠ 0)
theorem lowest_q (p : Q4) (w : World) (h : okPl0 p) : Calls Tryz.prog 225 #[v4 p] w (Ret w (v4 (lowP p))) := by
  obtain ⟨a, b, c, d⟩ := p
  have h1 := h.1
  simp only [okPl] at h1
  exact lowest_any a b c d w (by omega) (by omega) (by omega) (by omega) h.2
set_option maxRecDepth 100000 in
set_option maxHeartbeats 2000000 in
theorem normalForm_any (ps cs : List Q4) (pv cv : Value) (w : World) (hps : ∀ p ∈ ps, okPl0 p) (hcs : ∀ c ∈ cs, okCo c) (hl : ps.length ≤ 1000000) (hlc : cs.length ≤ 1000000) (hpv : Q4s w pv ps) (hcv : Q4s w cv cs) :
    Calls Tryz.prog 176 #[.agg #[pv, cv]] w fun e w' => ∃ v, e = .returned (.agg #[v]) ∧ Below w.heap.size w w' ∧ w'.ownsRow (w.heap.size + 2) 95 4 v (normF ps cs).length ((normF ps cs).flatMap enc4) := by
  have Hnf : Hid (normF ps cs = Lib.compact (sortL (lowL cs (ps.take ps.length)))) := Lib.hid (by rw [List.take_length]; rfl)
  generalize normF ps cs = nf at *
  obtain ⟨a, n, cc, rfl, hn, hnc, hx⟩ := hpv
  obtain ⟨a', n', cc', rfl, hn', hnc', hx'⟩ := hcv
  have HPS := Lib.hid hps
  have HCS := Lib.hid hcs
  have HX' := Lib.hid hx'
  clear hps hcs hx'
  obtain ⟨i0, hi0, hz0, hz1, hz2⟩ := info_parts info_plane
  have Hi0 := Lib.hid (And.intro hi0 (And.intro hz0 (And.intro hz1 hz2)))
  clear hi0 hz0 hz1 hz2
  go_enter Tryz.func176, Tryz.ntmps176
  go_wp2
  go_loopw [3, 12] (fun s3 i wr => ∃ k : Nat, k ≤ n ∧ i = .int .i64 k ∧ Below w.heap.size w wr ∧ Hid (wr.heap[w.heap.size]? = some (.cells #[.slice a n cc, .slice a' n' cc'] 208 (0, 0))) ∧ Hid (wr.heap[w.heap.size + 1]? = some (.cells #[.slice none 0 0] 93 (0, 0))) ∧
      Hid (wr.ownsRow (w.heap.size + 2) 95 4 s3 (lowL cs (ps.take k)).length ((lowL cs (ps.take k)).flatMap enc4))) (fun _ i _ => n - (intOf i).toNat)
  case atStart => exact ⟨0, by omega, rfl, by (repeat (first | exact brf | assumption | refine ble ?_ | refine blx ?_ | refine bla ?_ | refine bls ?_ | refine bld ?_)), Lib.hid ((heap_old (by simp)).trans (heap_new rfl)), Lib.hid (heap_new (by simp)), Lib.hid (World.ownsRow_nil _ _ _ _)⟩
  case round =>
    obtain ⟨k, hk, rfl, hb, HB, HC, HO⟩ := hrel
    have zC := blk_lt HC.out
    by_cases hlt : k < n
    · obtain ⟨b, off, rfl, hi⟩ := hx (by omega)
      obtain ⟨c0, c1, c2, c3⟩ := (hi.below hb) k (by omega)
      have Hok := Lib.hid (HPS.out (ps[k]) (by simp))
      have Hsn := Lib.hid (low_snoc cs ps k (by omega))
      have Hll := Lib.hid (low_len cs ps k)
      obtain ⟨p, Hp⟩ : ∃ p, Hid (ps[k] = p) := ⟨_, Lib.hid rfl⟩
      rw [Hp.out] at c0 c1 c2 c3 Hok Hsn
      have k1 : wr.cell? ⟨w.heap.size, 1, none⟩ = some (.slice a' n' cc') := (blk_cell HB.out 1).trans rfl
      have zB : w.heap.size < wr.heap.size := by omega
      obtain ⟨wo, rfl⟩ : ∃ wo : World, wo = wr := ⟨_, rfl⟩
      clear hx hi
      go_wp2
      clear c0 c1 c2 c3 k1
      go_loopw [6, 19] (fun s6 i wr => ∃ j : Nat, j ≤ n' ∧ i = .int .i64 j ∧ s6 = .int .i64 (cntOn p (cs.take j)) ∧ Below (wo.heap.size + 1) (wo.alloc (.cells #[.int .i64 p.1, .int .i64 p.2.1, .int .i64 p.2.2.1, .int .i64 p.2.2.2] 95)) wr) (fun _ i _ => n' - (intOf i).toNat)
      case atStart => exact ⟨0, by omega, rfl, rfl, Below.refl _ _⟩
      case round =>
        obtain ⟨j, hj, rfl, rfl, hbj⟩ := hrel
        have Hpb : Hid (wr.heap[wo.heap.size]? = some (.cells #[.int .i64 p.1, .int .i64 p.2.1, .int .i64 p.2.2.1, .int .i64 p.2.2.2] 95 (0, 0))) := Lib.hid ((hbj.block _ (by omega)).trans (heap_new rfl))
        have zp := blk_lt Hpb.out
        have p0 : wr.cell? ⟨wo.heap.size, 0, none⟩ = some (.int .i64 p.1) := (blk_cell Hpb.out 0).trans rfl
        have p1 : wr.cell? ⟨wo.heap.size, 1, none⟩ = some (.int .i64 p.2.1) := (blk_cell Hpb.out 1).trans rfl
        have p2 : wr.cell? ⟨wo.heap.size, 2, none⟩ = some (.int .i64 p.2.2.1) := (blk_cell Hpb.out 2).trans rfl
        have p3 : wr.cell? ⟨wo.heap.size, 3, none⟩ = some (.int .i64 p.2.2.2) := (blk_cell Hpb.out 3).trans rfl
        have hbwr : Below w.heap.size w wr := (hb.alloc (by omega) _).trans (hbj.mono (by omega))
        by_cases hlt2 : j < n'
        · obtain ⟨b', off', rfl, hi'⟩ := HX'.out (by omega)
          obtain ⟨c0, c1, c2, c3⟩ := (hi'.below hbwr) j (by omega)
          have Hok' := Lib.hid (HCS.out (cs[j]) (by simp))
          have Hcn := Lib.hid (cnt_snoc p cs j (by omega))
          have hcl : cntOn p (cs.take j) ≤ j := Nat.le_trans (List.length_filter_le _ _) (by simp; omega)
          obtain ⟨c, Hc⟩ : ∃ c, Hid (cs[j] = c) := ⟨_, Lib.hid rfl⟩
          rw [Hc.out] at c0 c1 c2 c3 Hok' Hcn
          generalize cntOn p (cs.take j) = cn at *
          clear hi'
          have hs := fun W => Lib.hid (side_q p c W Hok.out.1 Hok'.out)
          by_cases hsd : sd p c = 0
          · have Hsd := Lib.hid hsd
            rw [hsd] at hs
            clear hsd
            go_wp2_with fail
            refine ((hs _).out).mono ?_
            rintro e w1 ⟨rfl, hb1⟩
            clear hs
            go_wp2
            go_roundw
            case rel => exact ⟨j + 1, by omega, by go_num, by rw [Hcn.out, if_pos Hsd.out]; go_num, hbj.trans ((below_trans (by (repeat (first | exact brf | assumption | refine ble ?_ | refine blx ?_ | refine bla ?_ | refine bls ?_ | refine bld ?_))) hb1 : Below wr.heap.size wr w1).mono (by omega))⟩
            case measure => simp [intOf]; omega
          · have hsd' : (sd p c == 0) = false := by simpa using hsd
            have Hsd := Lib.hid hsd
            clear hsd
            go_wp2_with fail
            refine ((hs _).out).mono ?_
            rintro e w1 ⟨rfl, hb1⟩
            clear hs
            go_wp2
            go_roundw
            case rel => exact ⟨j + 1, by omega, by go_num, by rw [Hcn.out, if_neg Hsd.out]; simp, hbj.trans ((below_trans (by (repeat (first | exact brf | assumption | refine ble ?_ | refine blx ?_ | refine bla ?_ | refine bls ?_ | refine bld ?_))) hb1 : Below wr.heap.size wr w1).mono (by omega))⟩
            case measure => simp [intOf]; omega
        · obtain rfl : j = n' := by omega
          have Hct : Hid (cntOn p (cs.take j) = cntOn p cs) := Lib.hid (by rw [List.take_of_length_le (by omega)])
          have hcl : cntOn p (cs.take j) ≤ j := Nat.le_trans (List.length_filter_le _ _) (by simp; omega)
          have HB1 : Hid (wr.heap[w.heap.size]? = some (.cells #[.slice (some ⟨b, off, none⟩) n cc, .slice a' j cc'] 208 (0, 0))) := Lib.hid ((hbj.block _ (by omega)).trans ((heap_old zB).trans HB.out))
          have HC1 : Hid (wr.heap[w.heap.size + 1]? = some (.cells #[.slice none 0 0] 93 (0, 0))) := Lib.hid ((hbj.block _ (by omega)).trans ((heap_old zC).trans HC.out))
          have HO1 : Hid (wr.ownsRow (w.heap.size + 2) 95 4 u3 (lowL cs (ps.take k)).length ((lowL cs (ps.take k)).flatMap enc4)) := Lib.hid (own_below HO.out ((Below.alloc (Below.refl _ _) (Nat.le_refl _) _).trans (hbj.mono (by omega))))
          clear HB HC HO hbj
          by_cases h3 : 3 ≤ cntOn p (cs.take j)
          · have Hon : Hid (onB cs p = true) := Lib.hid (by unfold onB; rw [← Hct.out]; exact decide_eq_true h3)
            generalize cntOn p (cs.take j) = cn at *
            go_wp2_with fail
            refine (lowest_q p _ Hok.out).mono ?_
            rintro e w1 ⟨rfl, hb1⟩
            have HO2 := Lib.hid (own_below HO1.out hb1)
            have HB2 : Hid (w1.heap[w.heap.size]? = some (.cells #[.slice (some ⟨b, off, none⟩) n cc, .slice a' j cc'] 208 (0, 0))) := Lib.hid ((hb1.block _ (blk_lt HB1.out)).trans HB1.out)
            have HC2 : Hid (w1.heap[w.heap.size + 1]? = some (.cells #[.slice none 0 0] 93 (0, 0))) := Lib.hid ((hb1.block _ (blk_lt HC1.out)).trans HC1.out)
            have hbw1 : Below w.heap.size w w1 := below_trans hbwr hb1
            have zb1 := hb1.size
            have zC1 := blk_lt HC1.out
            clear HB1 HC1 HO1 hbwr hb1 p0 p1 p2 p3
            go_wp2_with (at_builtin; refine wpList_append_own _ rfl _ _ 91 rfl (w.heap.size + 2) 95 i0 (v4 (0, 0, 0, 0)) 4 32 und_planes' Hi0.out.1 Hi0.out.2.1 Hi0.out.2.2.1 Hi0.out.2.2.2 rfl (by decide) u3 _ _ rfl (HO2.out.alloc _) ⟨w1.heap.size, 0, none⟩ 1 1 (enc4 (lowP p)) rfl rfl ?c1 ?c2 ?c3 ?c4 ?c5 ?_)
            case c1 =>
              intro jj uu hu
              rw [add0, cell_new rfl jj]
              simpa [enc4] using hu
            case c2 => exact enc4_one _
            case c3 => unfold maxLen; have := Hll.out; omega
            case c4 => have := Hll.out; omega
            case c5 => simp; omega
            intro v' w2 hown2 hg2 _
            have hne1 : some (w.heap.size + 1) ≠ u3.ownBlock := fun e => own_blk_ne HO2.out HC2.out (by decide) e.symm
            have hne0 : some w.heap.size ≠ u3.ownBlock := fun e => own_blk_ne HO2.out HB2.out (by decide) e.symm
            have HB3 : Hid (w2.heap[w.heap.size]? = some (.cells #[.slice (some ⟨b, off, none⟩) n cc, .slice a' j cc'] 208 (0, 0))) := Lib.hid ((hg2.block _ (by simp; omega) hne0).trans ((heap_old (by omega)).trans HB2.out))
            have HC3 : Hid (w2.heap[w.heap.size + 1]? = some (.cells #[.slice none 0 0] 93 (0, 0))) := Lib.hid ((hg2.block _ (by simp; omega) hne1).trans ((heap_old (by omega)).trans HC2.out))
            have hbw2 : Below w.heap.size w w2 := (hbw1.alloc hbw1.size _).grown hg2 (by simp; omega) (fun q hq => by obtain ⟨h, _⟩ := HO2.out.lt q hq; omega)
            have HO3 := Lib.hid hown2
            clear hown2 hg2 hne0 hne1 HB2 HC2 HO2
            go_wp2
            go_roundw
            case rel => exact ⟨k + 1, by omega, by go_num, hbw2, HB3, HC3, Lib.hid (by rw [Hsn.out, Hon.out]; simpa using HO3.out)⟩
            case measure => simp [intOf]; omega
          · have Hon : Hid (onB cs p = false) := Lib.hid (by unfold onB; rw [← Hct.out]; exact decide_eq_false h3)
            generalize cntOn p (cs.take j) = cn at *
            go_wp2
            go_roundw
            case rel => exact ⟨k + 1, by omega, by go_num, hbwr, HB1, HC1, Lib.hid (by rw [Hsn.out, Hon.out]; simpa using HO1.out)⟩
            case measure => simp [intOf]; omega
    · obtain rfl : k = n := by omega
      subst hn
      have Hll := Lib.hid (low_len cs ps ps.length)
      clear hx
      go_wp2_with fail
      refine (sortPlanes_any (lowL cs (ps.take ps.length)) _ _ u3 wr rfl (by have := Hll.out; omega) HO.out).mono ?_
      rintro e w1 ⟨rfl, hown1, hg1⟩
      have hne1 : some (w.heap.size + 1) ≠ u3.ownBlock := fun e => own_blk_ne HO.out HC.out (by decide) e.symm
      have hbw1 : Below w.heap.size w w1 := hb.grown hg1 hb.size (fun q hq => by obtain ⟨h, _⟩ := HO.out.lt q hq; omega)
      have HC1 : Hid (w1.heap[w.heap.size + 1]? = some (.cells #[.slice none 0 0] 93 (0, 0))) := Lib.hid ((hg1.block _ zC hne1).trans HC.out)
      have HO1 := Lib.hid hown1
      clear hown1 hg1 hne1 HO HC HB hb zC
      go_wp2_with fail
      refine (compactPlanes_any (sortL (lowL cs (ps.take ps.length))) _ _ u3 w1 (sortL_len _) (by have := Hll.out; omega) HO1.out).mono ?_
      rintro e w2 ⟨cv', rfl, hg2, ⟨a2, m2, c2, rfl⟩, hown2⟩
      have hne1 : some (w.heap.size + 1) ≠ u3.ownBlock := fun e => own_blk_ne HO1.out HC1.out (by decide) e.symm
      have hbw2 : Below w.heap.size w w2 := hbw1.grown hg2 hbw1.size (fun q hq => by obtain ⟨h, _⟩ := HO1.out.lt q hq; omega)
      have b1 : w2.heap[w.heap.size + 1]? = some (.cells #[.slice none 0 0] 93 (0, 0)) := (hg2.block _ (blk_lt HC1.out) hne1).trans HC1.out
      have r0 : w2.cell? ⟨w.heap.size + 1, 0, none⟩ = some (.slice none 0 0) := (blk_cell b1 0).trans rfl
      have f0 := blk_free b1
      rw [← Hnf.out] at hown2
      have Ho2 := Lib.hid hown2
      have hfar1 := Lib.hid (fun e => own_blk_ne hown2 b1 (by decide) e.symm : some (w.heap.size + 1) ≠ (Value.slice a2 m2 c2).ownBlock)
      clear hown2 b1 hg2 HO1 HC1 hbw1 hne1
      go_wp2
      refine bodyPost_ret (v := .agg #[.slice a2 m2 c2]) (by simp [results, Tryz.results176, go_sem, r0]) rfl ⟨_, rfl, ?_, ?_⟩
      · exact hbw2.setCell (by simp) _
      · exact own_setCell_far Ho2.out _ _ hfar1.out
end
end Go.Proofs.YtjglkglaogaenaaGreatDoor
