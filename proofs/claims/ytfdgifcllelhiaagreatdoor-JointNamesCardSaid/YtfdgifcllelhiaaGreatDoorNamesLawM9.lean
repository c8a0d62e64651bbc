/- NamesLaw: texts of mine, merged: B7, B8, J1, J2. -/
import Derived.Test.YtfdgifcllelhiaaGreatDoorNamesLawM8
/- solid.read, solid.Normal. -/
namespace Go.Proofs.YtfdgifcllelhiaaGreatDoor
open Go.RowKit Go.Shelf
attribute [local go_sem] Ext.cell Ext.frozen

def firstErr : List Q4 → Int
  | [] => 0
  | p :: ps => if planeErr p = 0 then firstErr ps else planeErr p
theorem firstErr_hit (ps : List Q4) (k : Nat) (hk : k < ps.length) (h : ∀ i (hi : i < ps.length), i < k → planeErr ps[i] = 0) (hx : planeErr ps[k] ≠ 0) : firstErr ps = planeErr ps[k] := by
  induction ps generalizing k with
  | nil => simp at hk
  | cons p ps ih =>
    cases k with
    | zero => simp only [List.getElem_cons_zero] at hx; simp [firstErr, hx]
    | succ k =>
      have h0 := h 0 (by simp) (by omega)
      simp only [List.getElem_cons_zero] at h0
      simp only [firstErr, h0, if_true, List.getElem_cons_succ]
      exact ih k (by simpa using hk) (fun i hi hik => by have := h (i + 1) (by simpa using hi) (by omega); simpa using this) (by simpa using hx)
theorem firstErr_none (ps : List Q4) (h : ∀ i (hi : i < ps.length), planeErr ps[i] = 0) : firstErr ps = 0 := by
  induction ps with
  | nil => rfl
  | cons p ps ih =>
    have h0 := h 0 (by simp)
    simp only [List.getElem_cons_zero] at h0
    simp only [firstErr, h0, if_true]
    exact ih (fun i hi => by have := h (i + 1) (by simpa using hi); simpa using this)
theorem planeErr_zero (p : Q4) (h : planeErr p = 0) : okPl0 p := by
  unfold planeErr at h
  split at h
  · cases h
  · rename_i h1
    split at h
    · cases h
    · rename_i h2
      unfold okPl0 okPl
      omega

def roomB (cs : List Q4) : Bool := !(cs.any fun c => !inRm c)
/-- The error of a cell. -/
def cellErr (ps : List Q4) : Int :=
  if 16 < ps.length then 8 else if firstErr ps ≠ 0 then firstErr ps else if boundedB ps = false then 14 else
  if solidB ps (cornersOf ps) = false then 13 else if roomB (cornersOf ps) = false then 2 else 0

theorem compact_mem {l : List Q4} {x : Q4} (h : x ∈ Lib.compact l) : x ∈ l := by
  simp only [Lib.compact, Lib.compactUpTo, List.mem_map, List.mem_filter, List.mem_range] at h
  obtain ⟨i, ⟨hi, _⟩, rfl⟩ := h
  rw [getElem!_pos l.toArray i (by simpa using hi)]
  simp
theorem corners_mem {ps : List Q4} {c : Q4} (h : c ∈ cornersOf ps) : c ∈ raw ps ps.length := by
  have := compact_mem h
  simpa [sortP] using this
theorem corners_ok (ps : List Q4) (h : ∀ p ∈ ps, okPl p) : ∀ c ∈ cornersOf ps, nrmCo c := fun c hc => raw_nrm ps h ps.length (Nat.le_refl _) c (corners_mem hc)
theorem compact_len (l : List Q4) : (Lib.compact l).length ≤ l.length := compact_len_le _ _
theorem corners_len (ps : List Q4) (h : ps.length ≤ 64) : (cornersOf ps).length ≤ 262144 := by
  have h1 := compact_len (sortP (raw ps ps.length))
  rw [sortP_len] at h1
  have h2 := raw_len ps ps.length h
  unfold cornersOf
  omega

set_option maxHeartbeats 1000000 in
theorem read_closure (c : Q4) (w : World) (hc : okCo c) : Calls Tryz.prog 200 #[v4 c] w (Ret w (.bool (!inRm c))) := by
  obtain ⟨x, y, z, q⟩ := c
  simp only [okCo] at hc
  have hs := fun W => Lib.hid (inRoom_any x y z q W (by omega))
  generalize inRm (x, y, z, q) = r at *
  go_enter Tryz.func200, Tryz.ntmps200
  go_wp2_with fail
  refine ((hs _).out).mono ?_
  rintro e w1 ⟨rfl, hb1⟩
  go_wp2
  go_ret
  exact ⟨rfl, below_trans (by (repeat (first | exact Below.refl _ _ | assumption | (refine below_trans ?_ (Ext.below _)) | (refine Below.trans ?_ ((Ext.below _).mono (by first | omega | (simp; omega)))) | (refine Below.alloc ?_ (by first | omega | (simp; done) | (simp; omega)) _) | (refine Below.setCell ?_ (by first | omega | (simp; done) | (simp; omega)) _) | (refine Below.drew ?_)))) hb1⟩
theorem eg_read1 : ∀ args w, (callFunc 200 args).run Tryz.prog w = .ok (.enter 200 args) w := enters_of Tryz.func200 (by kernel_rfl) rfl
theorem read_pred (c : Q4) (w : World) (hc : okCo c) : PredIn Tryz.prog 200 #[] w (v4 c) (!inRm c) := fun _ _ => read_closure c _ hc

theorem Q4s.far {w : World} {v : Value} {cs : List Q4} (h : Q4s w v cs) (g i : Nat) (u : Value) (hg : ∀ j k x, w.cell? ⟨g, j, none⟩ ≠ some (.int k x)) : Q4s (w.setCell ⟨g, i, none⟩ u) v cs := by
  obtain ⟨a, n, c, rfl, hn, hc, hx⟩ := h
  refine ⟨a, n, c, rfl, hn, hc, fun h0 => ?_⟩
  obtain ⟨b, off, rfl, hi⟩ := hx h0
  refine ⟨b, off, rfl, fun j hj => ?_⟩
  obtain ⟨h1, h2, h3, h4⟩ := hi j hj
  have hne : g ≠ b := by rintro rfl; exact hg _ _ _ h1
  have key : ∀ o, (w.setCell ⟨g, i, none⟩ u).cell? ⟨b, o, none⟩ = w.cell? ⟨b, o, none⟩ := fun o => World.cell?_setCell_other w ⟨g, i, none⟩ ⟨b, o, none⟩ u (fun e => by cases e; exact hne rfl)
  exact ⟨(key _).trans h1, (key _).trans h2, (key _).trans h3, (key _).trans h4⟩
theorem Q4s.set2 {w : World} {v : Value} {cs : List Q4} {g : Nat} {T : TypeId} {a1 a2 : Option Addr} {n1 c1 n2 c2 : Nat} (h : Q4s w v cs) (hg : w.heap[g]? = some (.cells #[.slice a1 n1 c1, .slice a2 n2 c2] T (0, 0))) (x y : Option Addr × Nat × Nat) :
    Q4s ((w.setCell ⟨g, 0, none⟩ (.slice x.1 x.2.1 x.2.2)).setCell ⟨g, 1, none⟩ (.slice y.1 y.2.1 y.2.2)) v cs := by
  have key : ∀ (w : World) (cs : Array Value), w.heap[g]? = some (.cells cs T (0, 0)) → (∀ z ∈ cs, ∃ a n c, z = .slice a n c) → ∀ j k x, w.cell? ⟨g, j, none⟩ ≠ some (.int k x) := fun w cs hw hz j k x e => by
    rw [blk_cell hw j] at e
    obtain ⟨_, _, _, hh⟩ := hz _ (Array.mem_of_getElem? e)
    cases hh
  refine (h.far g 0 _ (key w _ hg (fun z hz => ?_))).far g 1 _ (key _ _ (blk_set hg 0 _) (fun z hz => ?_))
  · simp at hz; rcases hz with rfl | rfl <;> exact ⟨_, _, _, rfl⟩
  · simp at hz; rcases hz with rfl | rfl <;> exact ⟨_, _, _, rfl⟩

/-- What read gives back. -/
def ReadPost (ps : List Q4) (pv : Value) (w : World) (e : Ending) (w' : World) : Prop :=
  Below w.heap.size w w' ∧ ((cellErr ps = 0 ∧ ∃ cv, e = .returned (.tuple #[.agg #[pv, cv], .int .i64 0]) ∧ Q4s w' cv (cornersOf ps)) ∨
    (cellErr ps ≠ 0 ∧ e = .returned (.tuple #[.agg #[.slice none 0 0, .slice none 0 0], .int .i64 (cellErr ps)])))
theorem ReadPost.err {ps : List Q4} {pv : Value} {w w' : World} {n : Int} (hb : Below w.heap.size w w') (hn : cellErr ps = n) (h0 : n ≠ 0) : ReadPost ps pv w (.returned (.tuple #[.agg #[.slice none 0 0, .slice none 0 0], .int .i64 n])) w' :=
  ⟨hb, .inr ⟨by rw [hn]; exact h0, by rw [hn]⟩⟩

set_option maxRecDepth 100000 in
set_option maxHeartbeats 2000000 in
theorem read_any (ps : List Q4) (pv : Value) (w : World) (hl : ps.length ≤ 1000000000) (hpv : Q4s w pv ps) :
    Calls Tryz.prog 164 #[.agg #[pv]] w (ReadPost ps pv w) := by
  have HPV := Lib.hid hpv
  obtain ⟨a, n, cc, rfl, hn, hnc, hx⟩ := hpv
  by_cases h16 : 16 < n
  · have He : Hid (cellErr ps = 8) := Lib.hid (by unfold cellErr; rw [if_pos (by omega)])
    clear hx
    go_enter Tryz.func164, Tryz.ntmps164
    go_wp2
    refine bodyPost_ret (v := .tuple #[.agg #[.slice none 0 0, .slice none 0 0], .int .i64 8]) (by simp [results, Tryz.results164, go_sem]) rfl (ReadPost.err ?_ He.out (by decide))
    (repeat (first | exact Below.refl _ _ | assumption | (refine below_trans ?_ (Ext.below _)) | (refine Below.trans ?_ ((Ext.below _).mono (by first | omega | (simp; omega)))) | (refine Below.alloc ?_ (by first | omega | (simp; done) | (simp; omega)) _) | (refine Below.setCell ?_ (by first | omega | (simp; done) | (simp; omega)) _) | (refine Below.drew ?_)))
  · have Hc0 : Hid (∀ x, firstErr ps = x → x ≠ 0 → cellErr ps = x) := Lib.hid (fun x h h0 => by unfold cellErr; rw [if_neg (by omega), if_pos (by rw [h]; exact h0), h])
    have Hc1 : Hid (firstErr ps = 0 → boundedB ps = false → cellErr ps = 14) := Lib.hid (fun h h1 => by unfold cellErr; rw [if_neg (by omega), if_neg (by simp [h]), if_pos h1])
    have Hc2 : Hid (firstErr ps = 0 → boundedB ps = true → solidB ps (cornersOf ps) = false → cellErr ps = 13) := Lib.hid (fun h h1 h2 => by unfold cellErr; rw [if_neg (by omega), if_neg (by simp [h]), if_neg (by simp [h1]), if_pos h2])
    have Hc3 : Hid (firstErr ps = 0 → boundedB ps = true → solidB ps (cornersOf ps) = true → roomB (cornersOf ps) = false → cellErr ps = 2) := Lib.hid (fun h h1 h2 h3 => by unfold cellErr; rw [if_neg (by omega), if_neg (by simp [h]), if_neg (by simp [h1]), if_neg (by simp [h2]), if_pos h3])
    have Hc4 : Hid (firstErr ps = 0 → boundedB ps = true → solidB ps (cornersOf ps) = true → roomB (cornersOf ps) = true → cellErr ps = 0) := Lib.hid (fun h h1 h2 h3 => by unfold cellErr; rw [if_neg (by omega), if_neg (by simp [h]), if_neg (by simp [h1]), if_neg (by simp [h2]), if_neg (by simp [h3])])
    have Hhit := Lib.hid (firstErr_hit ps)
    have Hnone := Lib.hid (firstErr_none ps)
    go_enter Tryz.func164, Tryz.ntmps164
    go_wp2
    go_loopw [16] (fun i wr => ∃ k : Nat, k ≤ n ∧ i = .int .i64 k ∧ Below w.heap.size w wr ∧ Hid (wr.heap[w.heap.size]? = some (.cells #[.slice a n cc] 90 (0, 0))) ∧ Hid (wr.heap[w.heap.size + 1]? = some (.cells #[.slice none 0 0, .slice none 0 0] 191 (0, 0))) ∧ Hid (∀ i (h : i < ps.length), i < k → planeErr ps[i] = 0)) (fun i _ => n - (intOf i).toNat)
    case atStart => exact ⟨0, by omega, rfl, by (repeat (first | exact Below.refl _ _ | assumption | (refine below_trans ?_ (Ext.below _)) | (refine Below.trans ?_ ((Ext.below _).mono (by first | omega | (simp; omega)))) | (refine Below.alloc ?_ (by first | omega | (simp; done) | (simp; omega)) _) | (refine Below.setCell ?_ (by first | omega | (simp; done) | (simp; omega)) _) | (refine Below.drew ?_))), Lib.hid ((heap_old (by simp)).trans (heap_new rfl)), Lib.hid (heap_new (by simp)), Lib.hid (fun i _ h => by omega)⟩
    case round =>
      obtain ⟨k, hk, rfl, hb, HB, HC, Hz⟩ := hrel
      have zC := blk_lt HC.out
      have r0 : wr.cell? ⟨w.heap.size + 1, 0, none⟩ = some (.slice none 0 0) := (blk_cell HC.out 0).trans rfl
      have r1 : wr.cell? ⟨w.heap.size + 1, 1, none⟩ = some (.slice none 0 0) := (blk_cell HC.out 1).trans rfl
      by_cases hlt : k < n
      · obtain ⟨b, off, rfl, hi⟩ := hx (by omega)
        obtain ⟨c0, c1, c2, c3⟩ := (hi.below hb) k (by omega)
        have Hhk := Lib.hid (Hhit.out k (by omega) Hz.out)
        obtain ⟨p, Hp⟩ : ∃ p, Hid (ps[k] = p) := ⟨_, Lib.hid rfl⟩
        rw [Hp.out] at c0 c1 c2 c3 Hhk
        have hs := fun W => Lib.hid (CheckPlane_any p.1 p.2.1 p.2.2.1 p.2.2.2 W)
        have Hpe : Hid (planeErr (p.1, p.2.1, p.2.2.1, p.2.2.2) = planeErr p) := Lib.hid rfl
        rw [Hpe.out] at hs
        clear hx hi
        by_cases hpe : planeErr p = 0
        · rw [hpe] at hs
          have He := Lib.hid hpe
          clear hpe
          go_wp2_with fail
          refine ((hs _).out).mono ?_
          rintro e w1 ⟨rfl, hb1⟩
          clear hs
          go_wp2
          go_roundw
          case rel => exact ⟨k + 1, by omega, by go_num, below_trans hb (below_trans (by (repeat (first | exact Below.refl _ _ | assumption | (refine below_trans ?_ (Ext.below _)) | (refine Below.trans ?_ ((Ext.below _).mono (by first | omega | (simp; omega)))) | (refine Below.alloc ?_ (by first | omega | (simp; done) | (simp; omega)) _) | (refine Below.setCell ?_ (by first | omega | (simp; done) | (simp; omega)) _) | (refine Below.drew ?_)))) hb1), Lib.hid ((hb1.block _ (by simp; omega)).trans ((heap_old (by omega)).trans HB.out)), Lib.hid ((hb1.block _ (by simp; omega)).trans ((heap_old zC).trans HC.out)), Lib.hid (fun i hi hik => by
            by_cases e : i = k
            · subst e; rw [Hp.out]; exact He.out
            · exact Hz.out i hi (by omega))⟩
          case measure => simp [intOf]; omega
        · have Hce := Lib.hid (Hc0.out _ (Hhk.out hpe) hpe)
          have hne : (planeErr p != 0) = true := by simpa using hpe
          go_wp2_with fail
          refine ((hs _).out).mono ?_
          rintro e w1 ⟨rfl, hb1⟩
          have HC1 : w1.heap[w.heap.size + 1]? = some (.cells #[.slice none 0 0, .slice none 0 0] 191 (0, 0)) := (hb1.block _ (by simp; omega)).trans ((heap_old zC).trans HC.out)
          have q0 : w1.cell? ⟨w.heap.size + 1, 0, none⟩ = some (.slice none 0 0) := (blk_cell HC1 0).trans rfl
          have q1 : w1.cell? ⟨w.heap.size + 1, 1, none⟩ = some (.slice none 0 0) := (blk_cell HC1 1).trans rfl
          have f0 := blk_free HC1
          have hbw1 : Below w.heap.size w w1 := below_trans hb (below_trans (by (repeat (first | exact Below.refl _ _ | assumption | (refine below_trans ?_ (Ext.below _)) | (refine Below.trans ?_ ((Ext.below _).mono (by first | omega | (simp; omega)))) | (refine Below.alloc ?_ (by first | omega | (simp; done) | (simp; omega)) _) | (refine Below.setCell ?_ (by first | omega | (simp; done) | (simp; omega)) _) | (refine Below.drew ?_)))) hb1)
          clear hs HC1
          generalize planeErr p = pe at *
          go_wp2
          refine bodyPost_ret (v := .tuple #[.agg #[.slice none 0 0, .slice none 0 0], .int .i64 pe]) (by simp [results, Tryz.results164, go_sem, q0, q1]) rfl (ReadPost.err ?_ Hce.out hpe)
          exact (hbw1.setCell (by simp) _).setCell (by simp) _
      · obtain rfl : k = n := by omega
        have hall : ∀ i (h : i < ps.length), planeErr ps[i] = 0 := fun i hi => Hz.out i hi (by omega)
        have HF := Lib.hid (Hnone.out hall)
        have Hok0 : Hid (∀ p ∈ ps, okPl0 p) := Lib.hid (fun p hp => by obtain ⟨i, hi, rfl⟩ := List.getElem_of_mem hp; exact planeErr_zero _ (hall i hi))
        have Hok : Hid (∀ p ∈ ps, okPl p) := Lib.hid (fun p hp => (Hok0.out p hp).1)
        have Hcok := Lib.hid (corners_ok ps Hok.out)
        have Hclen := Lib.hid (corners_len ps (by omega))
        have b0 : wr.cell? ⟨w.heap.size, 0, none⟩ = some (.slice a k cc) := (blk_cell HB.out 0).trans rfl
        clear hall hx
        have hbd := fun W hW => Lib.hid (bounded_any ps (.slice a k cc) W Hok.out (by omega) hW)
        cases hbb : boundedB ps with
        | false =>
          rw [hbb] at hbd
          have He := Lib.hid (Hc1.out HF.out hbb)
          clear hbb
          go_wp2_with fail
          refine ((hbd _ (HPV.out.below hb)).out).mono ?_
          rintro e w1 ⟨rfl, hb1⟩
          have HC1 : w1.heap[w.heap.size + 1]? = some (.cells #[.slice none 0 0, .slice none 0 0] 191 (0, 0)) := (hb1.block _ zC).trans HC.out
          have q0 : w1.cell? ⟨w.heap.size + 1, 0, none⟩ = some (.slice none 0 0) := (blk_cell HC1 0).trans rfl
          have q1 : w1.cell? ⟨w.heap.size + 1, 1, none⟩ = some (.slice none 0 0) := (blk_cell HC1 1).trans rfl
          have f0 := blk_free HC1
          have hbw1 : Below w.heap.size w w1 := below_trans hb hb1
          clear hbd HC1
          go_wp2
          refine bodyPost_ret (v := .tuple #[.agg #[.slice none 0 0, .slice none 0 0], .int .i64 14]) (by simp [results, Tryz.results164, go_sem, q0, q1]) rfl (ReadPost.err ?_ He.out (by decide))
          exact (hbw1.setCell (by simp) _).setCell (by simp) _
        | true =>
          rw [hbb] at hbd
          have HBB := Lib.hid hbb
          clear hbb
          go_wp2_with fail
          refine ((hbd _ (HPV.out.below hb)).out).mono ?_
          rintro e w1 ⟨rfl, hb1⟩
          have HC1 : Hid (w1.heap[w.heap.size + 1]? = some (.cells #[.slice none 0 0, .slice none 0 0] 191 (0, 0))) := Lib.hid ((hb1.block _ zC).trans HC.out)
          have HB1 : Hid (w1.heap[w.heap.size]? = some (.cells #[.slice a k cc] 90 (0, 0))) := Lib.hid ((hb1.block _ (by omega)).trans HB.out)
          have hbw1 : Below w.heap.size w w1 := below_trans hb hb1
          have b1 : w1.cell? ⟨w.heap.size, 0, none⟩ = some (.slice a k cc) := (blk_cell HB1.out 0).trans rfl
          have zC1 := blk_lt HC1.out
          clear hbd HC HB b0 r0 r1 hb hb1 zC
          go_wp2_with fail
          refine (bodyOf_any ps (.slice a k cc) w1 Hok.out (by omega) (HPV.out.below hbw1)).mono ?_
          rintro e w2 ⟨cv, rfl, hb2, hown2⟩
          have HQ := Lib.hid (q4s_own hown2)
          have HC2 : Hid (w2.heap[w.heap.size + 1]? = some (.cells #[.slice none 0 0, .slice none 0 0] 191 (0, 0))) := Lib.hid ((hb2.block _ zC1).trans HC1.out)
          have hbw2 : Below w.heap.size w w2 := below_trans hbw1 hb2
          have zC2 := blk_lt HC2.out
          have Hcvs : ∃ a m c, cv = .slice a m c := by obtain ⟨a, m, c, h, _⟩ := HQ.out; exact ⟨a, m, c, h⟩
          obtain ⟨ca, cm, cc2, rfl⟩ := Hcvs
          clear hown2 HC1 HB1 hbw1 b1 zC1 hb2
          obtain ⟨W, HW⟩ : ∃ W, Hid (w2.alloc (.cells #[.slice a k cc, .slice ca cm cc2] 191) = W) := ⟨_, Lib.hid rfl⟩
          have hbW : Below w2.heap.size w2 W := by rw [← HW.out]; (repeat (first | exact Below.refl _ _ | assumption | (refine below_trans ?_ (Ext.below _)) | (refine Below.trans ?_ ((Ext.below _).mono (by first | omega | (simp; omega)))) | (refine Below.alloc ?_ (by first | omega | (simp; done) | (simp; omega)) _) | (refine Below.setCell ?_ (by first | omega | (simp; done) | (simp; omega)) _) | (refine Below.drew ?_)))
          have hs := Lib.hid (solidly_any ps (cornersOf ps) (.slice a k cc) (.slice ca cm cc2) W Hok.out (fun c hc => (Hcok.out c hc).1) (by omega) (by have := Hclen.out; omega) ((HPV.out.below hbw2).below hbW) (HQ.out.below hbW))
          rw [← HW.out] at hs
          go_wp2_with fail
          refine (hs.out).mono ?_
          rintro e w3 ⟨rfl, hb3⟩
          have HC3 : Hid (w3.heap[w.heap.size + 1]? = some (.cells #[.slice none 0 0, .slice none 0 0] 191 (0, 0))) := Lib.hid ((hb3.block _ (by simp; omega)).trans ((heap_old zC2).trans HC2.out))
          have HD3 : Hid (w3.heap[w2.heap.size]? = some (.cells #[.slice a k cc, .slice ca cm cc2] 191 (0, 0))) := Lib.hid ((hb3.block _ (by simp)).trans (heap_new rfl))
          have hbw3 : Below w2.heap.size w2 w3 := below_trans (by (repeat (first | exact Below.refl _ _ | assumption | (refine below_trans ?_ (Ext.below _)) | (refine Below.trans ?_ ((Ext.below _).mono (by first | omega | (simp; omega)))) | (refine Below.alloc ?_ (by first | omega | (simp; done) | (simp; omega)) _) | (refine Below.setCell ?_ (by first | omega | (simp; done) | (simp; omega)) _) | (refine Below.drew ?_)))) hb3
          have hbw3' : Below w.heap.size w w3 := below_trans hbw2 hbw3
          have HQ3 := Lib.hid (HQ.out.below hbw3)
          have q0 : w3.cell? ⟨w.heap.size + 1, 0, none⟩ = some (.slice none 0 0) := (blk_cell HC3.out 0).trans rfl
          have q1 : w3.cell? ⟨w.heap.size + 1, 1, none⟩ = some (.slice none 0 0) := (blk_cell HC3.out 1).trans rfl
          have f0 := blk_free HC3.out
          clear hs hbW HW HC2 hb3 hbw2 zC2 HQ hbw3
          cases hsb : solidB ps (cornersOf ps) with
          | false =>
            have He := Lib.hid (Hc2.out HF.out HBB.out hsb)
            clear hsb
            go_wp2
            refine bodyPost_ret (v := .tuple #[.agg #[.slice none 0 0, .slice none 0 0], .int .i64 13]) (by simp [results, Tryz.results164, go_sem, q0, q1]) rfl (ReadPost.err ?_ He.out (by decide))
            exact (hbw3'.setCell (by simp) _).setCell (by simp) _
          | true =>
            have HSB := Lib.hid hsb
            clear hsb
            have d0 : w3.cell? ⟨w2.heap.size, 0, none⟩ = some (.slice a k cc) := (blk_cell HD3.out 0).trans rfl
            have d1 : w3.cell? ⟨w2.heap.size, 1, none⟩ = some (.slice ca cm cc2) := (blk_cell HD3.out 1).trans rfl
            have hcf := Lib.hid (containsFunc_corner (.slice ca cm cc2) (cornersOf ps) (fun c => !inRm c) _ _ w3 HQ3.out (by have := Hclen.out; omega) eg_read1 (fun c hc => read_pred c w3 (Hcok.out c hc).1))
            have hany : ((cornersOf ps).any fun c => !inRm c) = !roomB (cornersOf ps) := by simp [roomB]
            rw [hany] at hcf
            clear hany
            cases hrb : roomB (cornersOf ps) with
            | false =>
              have He := Lib.hid (Hc3.out HF.out HBB.out HSB.out hrb)
              rw [hrb] at hcf
              clear hrb
              go_wp2_with fail
              refine (hcf.out).mono ?_
              rintro e w4 ⟨rfl, hb4⟩
              have HC4 := (hb4.block _ (blk_lt HC3.out)).trans HC3.out
              have s0 : w4.cell? ⟨w.heap.size + 1, 0, none⟩ = some (.slice none 0 0) := (blk_cell HC4 0).trans rfl
              have s1 : w4.cell? ⟨w.heap.size + 1, 1, none⟩ = some (.slice none 0 0) := (blk_cell HC4 1).trans rfl
              have f4 := blk_free HC4
              clear HC4 q0 q1 f0 d0 d1 hcf
              go_wp2
              refine bodyPost_ret (v := .tuple #[.agg #[.slice none 0 0, .slice none 0 0], .int .i64 2]) (by simp [results, Tryz.results164, go_sem, s0, s1]) rfl (ReadPost.err ?_ He.out (by decide))
              exact ((below_trans hbw3' hb4).setCell (by simp) _).setCell (by simp) _
            | true =>
              have He := Lib.hid (Hc4.out HF.out HBB.out HSB.out hrb)
              rw [hrb] at hcf
              clear hrb
              go_wp2_with fail
              refine (hcf.out).mono ?_
              rintro e w4 ⟨rfl, hb4⟩
              have HC4 := Lib.hid ((hb4.block _ (blk_lt HC3.out)).trans HC3.out)
              have HD4 := (hb4.block _ (blk_lt HD3.out)).trans HD3.out
              have s0 : w4.cell? ⟨w.heap.size + 1, 0, none⟩ = some (.slice none 0 0) := (blk_cell HC4.out 0).trans rfl
              have s1 : w4.cell? ⟨w.heap.size + 1, 1, none⟩ = some (.slice none 0 0) := (blk_cell HC4.out 1).trans rfl
              have t0 : w4.cell? ⟨w2.heap.size, 0, none⟩ = some (.slice a k cc) := (blk_cell HD4 0).trans rfl
              have t1 : w4.cell? ⟨w2.heap.size, 1, none⟩ = some (.slice ca cm cc2) := (blk_cell HD4 1).trans rfl
              have f4 := blk_free HC4.out
              have HQ4 := Lib.hid (HQ3.out.below hb4)
              clear HD4 q0 q1 f0 d0 d1 hcf
              go_wp2
              refine bodyPost_ret (v := .tuple #[.agg #[.slice a k cc, .slice ca cm cc2], .int .i64 0]) (by simp [results, Tryz.results164, go_sem, s0, s1]) rfl ⟨((below_trans hbw3' hb4).setCell (by simp) _).setCell (by simp) _, .inl ⟨He.out, _, rfl, ?_⟩⟩
              exact HQ4.out.set2 HC4.out (a, k, cc) (ca, cm, cc2)
end Go.Proofs.YtfdgifcllelhiaaGreatDoor
/- solid.Normal. -/
namespace Go.Proofs.YtfdgifcllelhiaaGreatDoor
open Go.RowKit Go.Shelf
attribute [local go_sem] Ext.cell Ext.frozen

theorem cellErr_zero {ps : List Q4} (h : cellErr ps = 0) : ps.length ≤ 16 ∧ firstErr ps = 0 := by
  unfold cellErr at h
  split at h
  · cases h
  · rename_i h1
    split at h
    · rename_i h2; exact absurd h h2
    · rename_i h2; exact ⟨by omega, by simpa using h2⟩
theorem firstErr_all {ps : List Q4} (h : firstErr ps = 0) : ∀ p ∈ ps, okPl0 p := by
  induction ps with
  | nil => simp
  | cons q ps ih =>
    simp only [firstErr] at h
    split at h
    · rename_i h0
      intro p hp
      rcases List.mem_cons.1 hp with rfl | hp
      · exact planeErr_zero _ h0
      · exact ih h p hp
    · rename_i h0; exact absurd h h0
theorem cellErr_ok {ps : List Q4} (h : cellErr ps = 0) : ∀ p ∈ ps, okPl0 p := firstErr_all (cellErr_zero h).2

theorem own_mono {w : World} {base base' : Nat} {e : TypeId} {size n : Nat} {v : Value} {xs : List Value} (h : w.ownsRow base e size v n xs) (hb : base' ≤ base) : w.ownsRow base' e size v n xs :=
  ⟨h.1, h.2.imp id (fun ⟨g, cap, cur, hv, hg, r⟩ => ⟨g, cap, cur, hv, Nat.le_trans hb hg, r⟩)⟩
/-- The normal form of a cell. -/
def normC (ps : List Q4) : List Q4 := normF ps (cornersOf ps)
def NormPost (ps : List Q4) (w : World) (e : Ending) (w' : World) : Prop :=
  Below w.heap.size w w' ∧ ((cellErr ps = 0 ∧ ∃ v, e = .returned (.tuple #[.agg #[v], .int .i64 0]) ∧ w'.ownsRow w.heap.size 92 4 v (normC ps).length ((normC ps).flatMap enc4)) ∨
    (cellErr ps ≠ 0 ∧ e = .returned (.tuple #[.agg #[.slice none 0 0], .int .i64 (cellErr ps)])))

set_option maxRecDepth 100000 in
set_option maxHeartbeats 2000000 in
theorem Normal_any (ps : List Q4) (pv : Value) (w : World) (hl : ps.length ≤ 1000000000) (hpv : Q4s w pv ps) :
    Calls Tryz.prog 105 #[.agg #[pv]] w (NormPost ps w) := by
  have HPV := Lib.hid hpv
  obtain ⟨a, n, cc, rfl, hn, hnc, hx⟩ := hpv
  clear hx
  obtain ⟨W, HW⟩ : ∃ W, Hid ((w.alloc (.cells #[.slice a n cc] 90)).alloc (.cells #[.slice none 0 0] 90) = W) := ⟨_, Lib.hid rfl⟩
  have hbW : Below w.heap.size w W := by rw [← HW.out]; (repeat (first | exact Below.refl _ _ | assumption | (refine below_trans ?_ (Ext.below _)) | (refine Below.trans ?_ ((Ext.below _).mono (by first | omega | (simp; omega)))) | (refine Below.alloc ?_ (by first | omega | (simp; done) | (simp; omega)) _) | (refine Below.setCell ?_ (by first | omega | (simp; done) | (simp; omega)) _) | (refine Below.drew ?_)))
  have hrd := Lib.hid (read_any ps (.slice a n cc) W hl (HPV.out.below hbW))
  have HC : Hid (W.heap[w.heap.size + 1]? = some (.cells #[.slice none 0 0] 90 (0, 0))) := by rw [← HW.out]; exact Lib.hid (heap_new (by simp))
  have zC := blk_lt HC.out
  go_enter Tryz.func105, Tryz.ntmps105
  go_wp2_with fail
  rw [HW.out]
  refine (hrd.out).mono ?_
  rintro e w1 ⟨hb1, ⟨h0, cv, rfl, hq⟩ | ⟨h0, rfl⟩⟩
  · have HQ := Lib.hid hq
    have HE := Lib.hid h0
    have Hok := Lib.hid (cellErr_ok h0)
    have Hlen := Lib.hid (cellErr_zero h0).1
    have Hcok := Lib.hid (corners_ok ps (fun p hp => (Hok.out p hp).1))
    have Hclen := Lib.hid (corners_len ps (by have := Hlen.out; omega))
    obtain ⟨ca, cm, cc2, rfl, _⟩ := hq
    have HC1 : Hid (w1.heap[w.heap.size + 1]? = some (.cells #[.slice none 0 0] 90 (0, 0))) := Lib.hid ((hb1.block _ zC).trans HC.out)
    have hbw1 : Below w.heap.size w w1 := below_trans hbW hb1
    have zC1 := blk_lt HC1.out
    obtain ⟨W2, HW2⟩ : ∃ W, Hid (w1.alloc (.cells #[.slice a n cc, .slice ca cm cc2] 191) = W) := ⟨_, Lib.hid rfl⟩
    have hbW2 : Below w1.heap.size w1 W2 := by rw [← HW2.out]; (repeat (first | exact Below.refl _ _ | assumption | (refine below_trans ?_ (Ext.below _)) | (refine Below.trans ?_ ((Ext.below _).mono (by first | omega | (simp; omega)))) | (refine Below.alloc ?_ (by first | omega | (simp; done) | (simp; omega)) _) | (refine Below.setCell ?_ (by first | omega | (simp; done) | (simp; omega)) _) | (refine Below.drew ?_)))
    have hnf := Lib.hid (normalForm_any ps (cornersOf ps) (.slice a n cc) (.slice ca cm cc2) W2 Hok.out (fun c hc => (Hcok.out c hc).1) (by have := Hlen.out; omega) (by have := Hclen.out; omega) ((HPV.out.below hbw1).below hbW2) (HQ.out.below hbW2))
    rw [← HW2.out] at hnf
    clear hrd HC zC hb1 h0 hbW HW
    go_wp2_with fail
    refine (hnf.out).mono ?_
    rintro e w2 ⟨v, rfl, hb2, hown2⟩
    have HQ2 := Lib.hid (own_mono hown2 (base' := w.heap.size) (by have := hbw1.size; simp; omega))
    have hvs : ∃ a m c, v = .slice a m c := by obtain ⟨a, m, c, h, _⟩ := q4s_own hown2; exact ⟨a, m, c, h⟩
    obtain ⟨va, vm, vc, rfl⟩ := hvs
    have HC2 : Hid (w2.heap[w.heap.size + 1]? = some (.cells #[.slice none 0 0] 90 (0, 0))) := Lib.hid ((hb2.block _ (by simp; omega)).trans ((heap_old zC1).trans HC1.out))
    have s0 : w2.cell? ⟨w.heap.size + 1, 0, none⟩ = some (.slice none 0 0) := (blk_cell HC2.out 0).trans rfl
    have f2 := blk_free HC2.out
    have hbw2 : Below w.heap.size w w2 := below_trans hbw1 (below_trans (by (repeat (first | exact Below.refl _ _ | assumption | (refine below_trans ?_ (Ext.below _)) | (refine Below.trans ?_ ((Ext.below _).mono (by first | omega | (simp; omega)))) | (refine Below.alloc ?_ (by first | omega | (simp; done) | (simp; omega)) _) | (refine Below.setCell ?_ (by first | omega | (simp; done) | (simp; omega)) _) | (refine Below.drew ?_)))) hb2)
    clear hnf hown2 hbW2 HW2 hb2
    go_wp2
    refine bodyPost_ret (v := .tuple #[.agg #[.slice va vm vc], .int .i64 0]) (by simp [results, Tryz.results105, go_sem, s0]) rfl ⟨hbw2.setCell (by simp) _, .inl ⟨HE.out, _, rfl, ?_⟩⟩
    exact own_setCell_far HQ2.out _ _ (fun e => own_blk_ne HQ2.out HC2.out (by decide) e.symm)
  · have HC1 : Hid (w1.heap[w.heap.size + 1]? = some (.cells #[.slice none 0 0] 90 (0, 0))) := Lib.hid ((hb1.block _ zC).trans HC.out)
    have hbw1 : Below w.heap.size w w1 := below_trans hbW hb1
    have s0 : w1.cell? ⟨w.heap.size + 1, 0, none⟩ = some (.slice none 0 0) := (blk_cell HC1.out 0).trans rfl
    have f2 := blk_free HC1.out
    have zC1 := blk_lt HC1.out
    have hne : (cellErr ps != 0) = true := by simpa using h0
    clear hrd HC zC hb1 hbW HW
    have H0 := Lib.hid h0
    clear h0
    obtain ⟨ce, Hce⟩ : ∃ ce, Hid (cellErr ps = ce) := ⟨_, Lib.hid rfl⟩
    rw [Hce.out] at hne
    rw [Hce.out]
    go_wp2
    refine bodyPost_ret (v := .tuple #[.agg #[.slice none 0 0], .int .i64 ce]) (by simp [results, Tryz.results105, go_sem, s0, zC1]) rfl ⟨?_, .inr ⟨H0.out, by rw [Hce.out]⟩⟩
    first | exact (hbw1.alloc (by omega) _).setCell (by simp) _ | exact (hbw1.alloc (by omega) _).setCell (by omega) _ | exact (hbw1.setCell (by simp) _).alloc (by simp; omega) _ | (refine Below.alloc ?_ (by simp; omega) _; exact hbw1.setCell (by simp) _)
end Go.Proofs.YtfdgifcllelhiaaGreatDoor
/- joint: leaves over ints. -/
namespace Go.Proofs.YtfdgifcllelhiaaGreatDoor
open Go.RowKit Go.Shelf
attribute [local go_sem] Ext.cell Ext.frozen

set_option maxHeartbeats 400000 in
theorem isKind_any (k : Int) (w : World) : Calls Tryz.prog 78 #[.int .i64 k] w fun e w' => e = .returned (.bool (decide (0 ≤ k ∧ k ≤ 10))) ∧ w = w' := by
  by_cases h1 : 0 ≤ k
  · by_cases h2 : k ≤ 10
    · go_enter Tryz.func78, Tryz.ntmps78
      go_wp2
      go_ret
      exact ⟨ret_bool (by simp [h1, h2]), rfl⟩
    · go_enter Tryz.func78, Tryz.ntmps78
      go_wp2
      go_ret
      exact ⟨ret_bool (by simp [h2]), rfl⟩
  · go_enter Tryz.func78, Tryz.ntmps78
    go_wp2
    go_ret
    exact ⟨ret_bool (by simp; omega), rfl⟩

def memB (k : Int) : Int := if k = 10 then 3 else 2
set_option maxHeartbeats 400000 in
theorem members_any (k : Int) (w : World) : Calls Tryz.prog 80 #[.int .i64 k] w fun e w' => e = .returned (.int .i64 (memB k)) ∧ w = w' := by
  by_cases h : k = 10
  · subst h
    go_enter Tryz.func80, Tryz.ntmps80
    go_wp2
    go_ret
    exact ⟨rfl, rfl⟩
  · have h' : (k == 10) = false := by simpa using h
    go_enter Tryz.func80, Tryz.ntmps80
    go_wp2
    go_ret
    exact ⟨ret_int (by simp [memB, h]), rfl⟩

set_option maxHeartbeats 400000 in
theorem divides_any (a b : Int) (w : World) (ha : a ≠ 0) : Calls Tryz.prog 130 #[.int .i64 a, .int .i64 b] w fun e w' => e = .returned (.bool (b.tmod a == 0)) ∧ w = w' := by
  have h' : (a == 0) = false := by simpa using ha
  go_enter Tryz.func130, Tryz.ntmps130
  go_wp2
  go_ret
  exact ⟨rfl, rfl⟩

set_option maxHeartbeats 400000 in
theorem size_any (n : Int) (w : World) (hn : -1000000000000000 ≤ n ∧ n ≤ 1000000000000000) : Calls Tryz.prog 91 #[.int .i64 n] w fun e w' => e = .returned (.int .i64 (n.natAbs : Int)) ∧ w = w' := by
  by_cases h : 0 ≤ n
  · go_enter Tryz.func91, Tryz.ntmps91
    go_wp2
    all_goals go_ret
    all_goals exact ⟨ret_int (by omega), rfl⟩
  · go_enter Tryz.func91, Tryz.ntmps91
    go_wp2
    all_goals go_ret
    all_goals exact ⟨ret_int (by omega), rfl⟩

set_option maxHeartbeats 400000 in
theorem turned_any (a b c d : Int) (w : World) (ha : -1000000000 ≤ a ∧ a ≤ 1000000000) (hb : -1000000000 ≤ b ∧ b ≤ 1000000000) (hc : -1000000000 ≤ c ∧ c ≤ 1000000000) (hd : -1000000000 ≤ d ∧ d ≤ 1000000000) :
    Calls Tryz.prog 114 #[V4 a b c d] w (Ret w (V4 (-a) (-b) (-c) (-d))) := by
  go_enter Tryz.func114, Tryz.ntmps114
  go_wp2
  refine bodyPost_ret (v := V4 (-a) (-b) (-c) (-d)) (by simp [results, Tryz.results114, go_sem]) rfl ⟨rfl, ?_⟩
  (repeat (first | exact Below.refl _ _ | assumption | (refine below_trans ?_ (Ext.below _)) | (refine Below.trans ?_ ((Ext.below _).mono (by first | omega | (simp; omega)))) | (refine Below.alloc ?_ (by first | omega | (simp; done) | (simp; omega)) _) | (refine Below.setCell ?_ (by first | omega | (simp; done) | (simp; omega)) _) | (refine Below.drew ?_)))

/-- The plane of an axis: s is 1 or -1. -/
def axP (ax : Nat) (s d : Int) : Q4 := (if ax = 0 then s else 0, if ax = 1 then s else 0, if ax = 2 then s else 0, d)
set_option maxRecDepth 100000 in
set_option maxHeartbeats 1000000 in
theorem most_any (ax : Nat) (n : Int) (w : World) (hx : ax ≤ 2) (_hn : -1000000000 ≤ n ∧ n ≤ 1000000000) : Calls Tryz.prog 108 #[.int .i64 ax, .int .i64 n] w (Ret w (v4 (axP ax 1 (n)))) := by
  rcases (by omega : ax = 0 ∨ ax = 1 ∨ ax = 2) with rfl | rfl | rfl
  · show Calls Tryz.prog 108 #[.int .i64 0, .int .i64 n] w (Ret w (V4 1 0 0 (n)))
    go_enter Tryz.func108, Tryz.ntmps108
    go_wp2
    refine bodyPost_ret (v := V4 1 0 0 (n)) (by simp [results, Tryz.results108, go_sem]) rfl ⟨rfl, ?_⟩
    (repeat (first | exact Below.refl _ _ | assumption | (refine below_trans ?_ (Ext.below _)) | (refine Below.trans ?_ ((Ext.below _).mono (by first | omega | (simp; omega)))) | (refine Below.alloc ?_ (by first | omega | (simp; done) | (simp; omega)) _) | (refine Below.setCell ?_ (by first | omega | (simp; done) | (simp; omega)) _) | (refine Below.drew ?_)))
  · show Calls Tryz.prog 108 #[.int .i64 1, .int .i64 n] w (Ret w (V4 0 1 0 (n)))
    go_enter Tryz.func108, Tryz.ntmps108
    go_wp2
    refine bodyPost_ret (v := V4 0 1 0 (n)) (by simp [results, Tryz.results108, go_sem]) rfl ⟨rfl, ?_⟩
    (repeat (first | exact Below.refl _ _ | assumption | (refine below_trans ?_ (Ext.below _)) | (refine Below.trans ?_ ((Ext.below _).mono (by first | omega | (simp; omega)))) | (refine Below.alloc ?_ (by first | omega | (simp; done) | (simp; omega)) _) | (refine Below.setCell ?_ (by first | omega | (simp; done) | (simp; omega)) _) | (refine Below.drew ?_)))
  · show Calls Tryz.prog 108 #[.int .i64 2, .int .i64 n] w (Ret w (V4 0 0 1 (n)))
    go_enter Tryz.func108, Tryz.ntmps108
    go_wp2
    refine bodyPost_ret (v := V4 0 0 1 (n)) (by simp [results, Tryz.results108, go_sem]) rfl ⟨rfl, ?_⟩
    (repeat (first | exact Below.refl _ _ | assumption | (refine below_trans ?_ (Ext.below _)) | (refine Below.trans ?_ ((Ext.below _).mono (by first | omega | (simp; omega)))) | (refine Below.alloc ?_ (by first | omega | (simp; done) | (simp; omega)) _) | (refine Below.setCell ?_ (by first | omega | (simp; done) | (simp; omega)) _) | (refine Below.drew ?_)))
set_option maxRecDepth 100000 in
set_option maxHeartbeats 1000000 in
theorem least_any (ax : Nat) (n : Int) (w : World) (hx : ax ≤ 2) (hn : -1000000000 ≤ n ∧ n ≤ 1000000000) : Calls Tryz.prog 107 #[.int .i64 ax, .int .i64 n] w (Ret w (v4 (axP ax (-1) (-n)))) := by
  rcases (by omega : ax = 0 ∨ ax = 1 ∨ ax = 2) with rfl | rfl | rfl
  · show Calls Tryz.prog 107 #[.int .i64 0, .int .i64 n] w (Ret w (V4 (-1) 0 0 (-n)))
    go_enter Tryz.func107, Tryz.ntmps107
    go_wp2
    refine bodyPost_ret (v := V4 (-1) 0 0 (-n)) (by simp [results, Tryz.results107, go_sem]) rfl ⟨rfl, ?_⟩
    (repeat (first | exact Below.refl _ _ | assumption | (refine below_trans ?_ (Ext.below _)) | (refine Below.trans ?_ ((Ext.below _).mono (by first | omega | (simp; omega)))) | (refine Below.alloc ?_ (by first | omega | (simp; done) | (simp; omega)) _) | (refine Below.setCell ?_ (by first | omega | (simp; done) | (simp; omega)) _) | (refine Below.drew ?_)))
  · show Calls Tryz.prog 107 #[.int .i64 1, .int .i64 n] w (Ret w (V4 0 (-1) 0 (-n)))
    go_enter Tryz.func107, Tryz.ntmps107
    go_wp2
    refine bodyPost_ret (v := V4 0 (-1) 0 (-n)) (by simp [results, Tryz.results107, go_sem]) rfl ⟨rfl, ?_⟩
    (repeat (first | exact Below.refl _ _ | assumption | (refine below_trans ?_ (Ext.below _)) | (refine Below.trans ?_ ((Ext.below _).mono (by first | omega | (simp; omega)))) | (refine Below.alloc ?_ (by first | omega | (simp; done) | (simp; omega)) _) | (refine Below.setCell ?_ (by first | omega | (simp; done) | (simp; omega)) _) | (refine Below.drew ?_)))
  · show Calls Tryz.prog 107 #[.int .i64 2, .int .i64 n] w (Ret w (V4 0 0 (-1) (-n)))
    go_enter Tryz.func107, Tryz.ntmps107
    go_wp2
    refine bodyPost_ret (v := V4 0 0 (-1) (-n)) (by simp [results, Tryz.results107, go_sem]) rfl ⟨rfl, ?_⟩
    (repeat (first | exact Below.refl _ _ | assumption | (refine below_trans ?_ (Ext.below _)) | (refine Below.trans ?_ ((Ext.below _).mono (by first | omega | (simp; omega)))) | (refine Below.alloc ?_ (by first | omega | (simp; done) | (simp; omega)) _) | (refine Below.setCell ?_ (by first | omega | (simp; done) | (simp; omega)) _) | (refine Below.drew ?_)))
end Go.Proofs.YtfdgifcllelhiaaGreatDoor
/- joint: within, rising, counted. -/
namespace Go.Proofs.YtfdgifcllelhiaaGreatDoor
open Go.RowKit Go.Shelf
attribute [local go_sem] Ext.cell Ext.frozen

set_option maxHeartbeats 1000000 in
theorem within_closure (n lo hi : Int) (b c : Nat) (w : World) (h0 : w.cell? ⟨b, 0, none⟩ = some (.int .i64 lo)) (h1 : w.cell? ⟨c, 0, none⟩ = some (.int .i64 hi)) :
    Calls Tryz.prog 127 #[.int .i64 n, .pointer (some ⟨b, 0, none⟩), .pointer (some ⟨c, 0, none⟩)] w (Ret w (.bool (decide (n < lo ∨ hi < n)))) := by
  by_cases h2 : n < lo
  · go_enter Tryz.func127, Tryz.ntmps127
    go_wp2
    go_ret
    exact ⟨ret_bool (by simp [h2]), Below.refl _ _⟩
  · by_cases h3 : hi < n
    · go_enter Tryz.func127, Tryz.ntmps127
      go_wp2
      go_ret
      exact ⟨ret_bool (by simp), Below.refl _ _⟩
    · go_enter Tryz.func127, Tryz.ntmps127
      go_wp2
      go_ret
      exact ⟨ret_bool (by simp; omega), Below.refl _ _⟩
theorem eg_within1 : ∀ args w, (callFunc 127 args).run Tryz.prog w = .ok (.enter 127 args) w := enters_of Tryz.func127 (by kernel_rfl) rfl

def withinB (lo hi : Int) (xs : List Int) : Bool := !(xs.any fun n => decide (n < lo ∨ hi < n))
theorem withinB_iff (lo hi : Int) (xs : List Int) : withinB lo hi xs = true ↔ ∀ x ∈ xs, lo ≤ x ∧ x ≤ hi := by
  simp only [withinB, Bool.not_eq_true', List.any_eq_false, decide_eq_true_eq]
  exact ⟨fun h x hx => by have := h x hx; omega, fun h x hx => by have := h x hx; omega⟩

set_option maxHeartbeats 1000000 in
theorem within_any (lo hi : Int) (v : Value) (xs : List Int) (w : World) (hx : Ints w v xs) (hm : xs.length ≤ 1000000000) :
    Calls Tryz.prog 76 #[.int .i64 lo, .int .i64 hi, v] w (Ret w (.bool (withinB lo hi xs))) := by
  obtain ⟨W, HW⟩ : ∃ W, Hid ((w.alloc (.cells #[.int .i64 lo] 3)).alloc (.cells #[.int .i64 hi] 3) = W) := ⟨_, Lib.hid rfl⟩
  have hbW : Below w.heap.size w W := by rw [← HW.out]; (repeat (first | exact Below.refl _ _ | assumption | (refine below_trans ?_ (Ext.below _)) | (refine Below.trans ?_ ((Ext.below _).mono (by first | omega | (simp; omega)))) | (refine Below.alloc ?_ (by first | omega | (simp; done) | (simp; omega)) _) | (refine Below.setCell ?_ (by first | omega | (simp; done) | (simp; omega)) _) | (refine Below.drew ?_)))
  have c0 : W.cell? ⟨w.heap.size, 0, none⟩ = some (.int .i64 lo) := by rw [← HW.out]; exact (blk_cell ((heap_old (by simp)).trans (heap_new rfl)) 0).trans rfl
  have c1 : W.cell? ⟨w.heap.size + 1, 0, none⟩ = some (.int .i64 hi) := by rw [← HW.out]; exact (blk_cell (heap_new (by simp)) 0).trans rfl
  have hcon := Lib.hid (containsFunc_int v xs (fun n => decide (n < lo ∨ hi < n)) _ #[.pointer (some ⟨w.heap.size, 0, none⟩), .pointer (some ⟨w.heap.size + 1, 0, none⟩)] W (hx.below hbW) hm eg_within1 (fun x _ w' hb => within_closure x lo hi _ _ w' (below_cell hb c0) (below_cell hb c1)))
  rw [← HW.out] at hcon
  have Hr : Hid ((xs.any fun n => decide (n < lo ∨ hi < n)) = !withinB lo hi xs) := Lib.hid (by simp [withinB])
  rw [Hr.out] at hcon
  clear hx c0 c1 HW hbW
  generalize withinB lo hi xs = r at *
  go_enter Tryz.func76, Tryz.ntmps76
  go_wp2_with fail
  refine (hcon.out).mono ?_
  rintro e w1 ⟨rfl, hb1⟩
  go_wp2
  go_ret
  exact ⟨ret_bool (by simp), below_trans (by (repeat (first | exact Below.refl _ _ | assumption | (refine below_trans ?_ (Ext.below _)) | (refine Below.trans ?_ ((Ext.below _).mono (by first | omega | (simp; omega)))) | (refine Below.alloc ?_ (by first | omega | (simp; done) | (simp; omega)) _) | (refine Below.setCell ?_ (by first | omega | (simp; done) | (simp; omega)) _) | (refine Below.drew ?_)))) hb1⟩

/-- Numbers ascend strictly. -/
def risingB : List Int → Bool
  | x :: y :: l => decide (x < y) && risingB (y :: l)
  | _ => true
theorem risingB_iff : ∀ xs : List Int, risingB xs = true ↔ ∀ i, i + 1 < xs.length → xs.getD i 0 < xs.getD (i + 1) 0
  | [] => by simp [risingB]
  | [x] => by simp [risingB]
  | x :: y :: l => by
    simp only [risingB, Bool.and_eq_true, decide_eq_true_eq, risingB_iff (y :: l)]
    constructor
    · rintro ⟨h1, h2⟩ i hi
      cases i with
      | zero => simpa using h1
      | succ i => have := h2 i (by simpa using hi); simpa using this
    · intro h
      refine ⟨by simpa using h 0 (by simp), fun i hi => ?_⟩
      have := h (i + 1) (by simpa using hi)
      simpa using this
theorem getDI (xs : List Int) (i : Nat) (h : i < xs.length) : xs[i] = xs.getD i 0 := by simp [List.getD, h]

set_option maxHeartbeats 1000000 in
theorem rising_any (v : Value) (xs : List Int) (w : World) (hx : Ints w v xs) (hm : xs.length ≤ 1000000000) :
    Calls Tryz.prog 128 #[v] w (Ret w (.bool (risingB xs))) := by
  obtain ⟨a, n, c, rfl, hn, _, hx⟩ := hx
  have Hyes : Hid ((∀ i, i + 1 < xs.length → xs.getD i 0 < xs.getD (i + 1) 0) → risingB xs = true) := Lib.hid (risingB_iff xs).2
  have Hno : Hid (∀ i, i + 1 < xs.length → ¬ xs.getD i 0 < xs.getD (i + 1) 0 → risingB xs = false) := Lib.hid (fun i hi h => by rw [Bool.eq_false_iff]; exact fun h' => h ((risingB_iff xs).1 h' i hi))
  generalize risingB xs = res at *
  go_enter Tryz.func128, Tryz.ntmps128
  go_wp2
  go_loopw [3] (fun i wr => ∃ k : Nat, 1 ≤ k ∧ (k ≤ n ∨ k = 1) ∧ i = .int .i64 k ∧ Below w.heap.size w wr ∧ Hid (∀ i, i + 1 < k → xs.getD i 0 < xs.getD (i + 1) 0)) (fun i _ => n - (intOf i).toNat)
  case atStart => exact ⟨1, by omega, by omega, rfl, Below.refl _ _, Lib.hid (fun i h => by omega)⟩
  case round =>
    obtain ⟨k, hk1, hk2, rfl, hb, Hz⟩ := hrel
    by_cases hlt : k < n
    · obtain ⟨b, off, rfl, hi⟩ := hx (by omega)
      have c1 := below_cell hb (hi k (by omega))
      have c0 := below_cell hb (hi (k - 1) (by omega))
      have zb := World.block_lt_of_cell? wr _ c1
      simp only at zb
      rw [getDI xs k (by omega)] at c1
      rw [getDI xs (k - 1) (by omega)] at c0
      have Hnk := Lib.hid (Hno.out (k - 1) (by omega))
      rw [show k - 1 + 1 = k by omega] at Hnk
      obtain ⟨x, Hx⟩ : ∃ x, Hid (xs.getD k 0 = x) := ⟨_, Lib.hid rfl⟩
      obtain ⟨y, Hy⟩ : ∃ y, Hid (xs.getD (k - 1) 0 = y) := ⟨_, Lib.hid rfl⟩
      rw [Hx.out] at c1 Hnk
      rw [Hy.out] at c0 Hnk
      clear hx hi
      by_cases hxy : y < x
      · go_wp2
        refine wp_region_quietB (by kernel_rfl) (by kernel_rfl) ?_
        repeat (first | go_big_quiet_step (fail) | quiet_step (fail))
        refine wpQuiet_nil ?_
        rintro _ ⟨u, rfl⟩
        go_wp2
        go_roundw
        case rel => exact ⟨k + 1, by omega, by omega, by go_num, below_trans hb u.below, Lib.hid (fun i hi => by
          by_cases e : i = k - 1
          · subst e; rw [show k - 1 + 1 = k by omega, Hx.out, Hy.out]; exact hxy
          · exact Hz.out i (by omega))⟩
        case measure => simp [intOf]; omega
      · go_wp2
        refine wp_region_quietB (by kernel_rfl) (by kernel_rfl) ?_
        repeat (first | go_big_quiet_step (fail) | quiet_step (fail))
        refine wpQuiet_nil ?_
        rintro _ ⟨u, rfl⟩
        go_wp2
        go_ret
        exact ⟨ret_bool (Hnk.out hxy).symm, below_trans hb u.below⟩
    · have Hy := Lib.hid (Hyes.out (fun i hi => Hz.out i (by omega)))
      clear hx
      go_wp2
      go_ret
      exact ⟨ret_bool Hy.out.symm, hb⟩
end Go.Proofs.YtfdgifcllelhiaaGreatDoor
