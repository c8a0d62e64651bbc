/- texts: W4 W5. -/
import Derived.Test.YtokhkhnofkcalaaGreatDoorGZS33
namespace Go.Proofs.YtokhkhnofkcalaaGreatDoor
set_option maxHeartbeats 8000000
set_option linter.unusedSimpArgs false
set_option linter.unusedVariables false
section
open Go.RowKit Go.Shelf
set_option maxRecDepth 100000
attribute [local go_sem] Ext.cell Ext.frozen
theorem rside_q (p c : Q4) (w : World) (hp : okPl p) (hc : okCo c) : Calls Tryz.prog 129 #[v4 p, v4 c] w (Ret w (.int .i64 (sd p c))) :=
 rside_any _ _ _ _ _ _ _ _ w hp.1 hp.2.1 hp.2.2.1 hp.2.2.2 hc.1 hc.2.1 hc.2.2.1 (by have := hc.2.2.2; omega)
theorem allowed_no {ps : List Q4} {c : Q4} (i : Nat) (h : i < ps.length) (hs : 0 < sd ps[i] c) : allowedB ps c = false := by
 unfold allowedB
 have : (ps.any fun p => decide (0 < sd p c)) = true := List.any_eq_true.2 ⟨ps[i], List.getElem_mem h, by simpa using hs⟩
 rw [this]; rfl
theorem allowed_yes {ps : List Q4} {c : Q4} (h : ∀ i (h : i < ps.length), ¬ 0 < sd ps[i] c) : allowedB ps c = true := by
 unfold allowedB
 have : (ps.any fun p => decide (0 < sd p c)) = false := by
  rw [List.any_eq_false]
  intro p hp
  obtain ⟨i, hi, rfl⟩ := List.getElem_of_mem hp
  simpa using h i hi
 rw [this]; rfl
theorem rallowed_any (ps : List Q4) (c : Q4) (pv : Value) (W : World) (hps : ∀ p ∈ ps, okPl p) (hc : okCo c) (hl : ps.length ≤ 1000000) (hpv : Q4s W pv ps) :
  Calls Tryz.prog 151 #[pv, v4 c] W (Ret W (.bool (allowedB ps c))) := by
 obtain ⟨a, n, cc, rfl, hn, _, hx⟩ := hpv
 have HS := fun i (h : i < ps.length) W' => Lib.hid (rside_q ps[i] c W' (hps _ (List.getElem_mem h)) hc)
 have Hno : Hid (∀ i (h : i < ps.length), 0 < sd ps[i] c → allowedB ps c = false) := Lib.hid (fun i h hs => allowed_no i h hs)
 have Hyes : Hid ((∀ i (h : i < ps.length), ¬ 0 < sd ps[i] c) → allowedB ps c = true) := Lib.hid allowed_yes
 generalize allowedB ps c = res at *
 obtain ⟨c0, c1, c2, c3⟩ := c
 obtain ⟨V, HV⟩ : ∃ V, Hid (W.alloc (.cells #[.int .i64 c0, .int .i64 c1, .int .i64 c2, .int .i64 c3] 143) = V) := ⟨_, Lib.hid rfl⟩
 have hV : Below W.heap.size W V := by rw [← HV.out]; exact bel
 have HC : Hid (V.heap[W.heap.size]? = some (.cells #[.int .i64 c0, .int .i64 c1, .int .i64 c2, .int .i64 c3] 143 (0, 0))) := Lib.hid (by rw [← HV.out]; exact heap_new rfl)
 have HX : Hid (0 < n → ∃ b off, a = some ⟨b, off, none⟩ ∧ Q4At V b off ps) := Lib.hid (fun h => by obtain ⟨b, off, e, h2⟩ := hx h; exact ⟨b, off, e, h2.below hV⟩)
 clear hx hps hc
 go_enter Tryz.func151, Tryz.ntmps151
 go_wp2
 rw [HV.out]
 go_loopw [5] (fun x wr => ∃ i : Nat, i ≤ n ∧ x = .int .i64 i ∧ Below V.heap.size V wr ∧ Hid (∀ j (h : j < ps.length), j < i → ¬ 0 < sd ps[j] (c0, c1, c2, c3))) (fun x _ => n - (intOf x).toNat)
 case atStart => exact ⟨0, by omega, rfl, Below.refl _ _, Lib.hid (fun j _ h => by omega)⟩
 case round =>
  obtain ⟨i, hi, rfl, hb, Hd⟩ := hrel
  by_cases hlt : i < n
  ·have g1 : (i : Int) < (n : Int) := by omega
   have g2 : (0 : Int) ≤ (i : Int) := by omega
   have hil : i < ps.length := by omega
   obtain ⟨b, off, rfl, hi4⟩ := HX.out (by omega)
   obtain ⟨e0, e1, e2, e3⟩ := (hi4.below hb) i hil
   have ze := World.block_lt_of_cell? wr _ e0
   simp only at ze
   have HSi := fun W' => Lib.hid ((HS i hil W').out)
   have HCr := Lib.hid ((hb.block _ (blk_lt HC.out)).trans HC.out)
   have f0 := (blk_cell HCr.out 0).trans rfl
   have f1 := (blk_cell HCr.out 1).trans rfl
   have f2 := (blk_cell HCr.out 2).trans rfl
   have f3 := (blk_cell HCr.out 3).trans rfl
   simp only [List.getElem?_toArray, List.getElem?_cons_zero, List.getElem?_cons_succ] at f0 f1 f2 f3
   have zf := blk_lt HCr.out
   have Hno' := Lib.hid (Hno.out i hil)
   have Hst : Hid (¬ 0 < sd ps[i] (c0, c1, c2, c3) → ∀ j (h : j < ps.length), j < i + 1 → ¬ 0 < sd ps[j] (c0, c1, c2, c3)) := Lib.hid (fun h j hj hji => by
    by_cases e : j = i
    ·subst e; exact h
    ·exact Hd.out j hj (by omega))
   clear HS Hno Hd hi4 HX
   generalize sd ps[i] (c0, c1, c2, c3) = s at *
   generalize ps[i] = p at *
   obtain ⟨p0, p1, p2, p3⟩ := p
   simp only at e0 e1 e2 e3 HSi
   by_cases hs : 0 < s
   ·have hs' : decide (0 < s) = true := decide_eq_true hs
    go_wp2
    refine wqb ?_
    repeat (first | go_big_quiet_step ((go_at_call 129; exact quietB_ret ((HSi _).out))) | quiet_step ((go_at_call 129; exact quietB_ret ((HSi _).out))))
    refine wqn fun u => ?_
    go_wp2
    go_ret
    exact ⟨ret_bool (Hno'.out hs).symm, below_trans hV (below_trans hb u.below)⟩
   ·have hs' : decide (0 < s) = false := decide_eq_false hs
    go_wp2
    refine wqb ?_
    repeat (first | go_big_quiet_step ((go_at_call 129; exact quietB_ret ((HSi _).out))) | quiet_step ((go_at_call 129; exact quietB_ret ((HSi _).out))))
    refine wqn fun u => ?_
    go_wp2
    go_roundw
    case rel => exact ⟨i + 1, by omega, by go_num, below_trans hb u.below, Lib.hid (fun j h hj => by have := Hst.out hs j h hj; omega)⟩
    case measure => first | (simp [intOf]; done) | (simp [intOf]; omega)
  ·obtain rfl : i = n := by omega
   have g1 : ¬ (i : Int) < (i : Int) := by omega
   go_wp2
   go_ret
   exact ⟨ret_bool (Hyes.out (fun j h => Hd.out j h (by omega))).symm, below_trans hV hb⟩
theorem hasCorner_any (cs : List Q4) (c : Q4) (cv : Value) (W : World) (hl : cs.length ≤ 1000000) (hcv : Q4s W cv cs) :
  Calls Tryz.prog 152 #[cv, v4 c] W (Ret W (.bool (decide (c ∈ cs)))) := by
 obtain ⟨a, n, cc, rfl, hn, _, hx⟩ := hcv
 have Hyes : Hid (∀ i (h : i < cs.length), cs[i] = c → decide (c ∈ cs) = true) := Lib.hid (fun i h e => decide_eq_true (by rw [← e]; exact List.getElem_mem h))
 have Hno : Hid ((∀ i (h : i < cs.length), cs[i] ≠ c) → decide (c ∈ cs) = false) := Lib.hid (fun h => decide_eq_false (fun hm => by
  obtain ⟨i, hi, e⟩ := List.getElem_of_mem hm
  exact h i hi e))
 generalize decide (c ∈ cs) = res at *
 obtain ⟨c0, c1, c2, c3⟩ := c
 obtain ⟨V, HV⟩ : ∃ V, Hid (W.alloc (.cells #[.int .i64 c0, .int .i64 c1, .int .i64 c2, .int .i64 c3] 143) = V) := ⟨_, Lib.hid rfl⟩
 have hV : Below W.heap.size W V := by rw [← HV.out]; exact bel
 have HC : Hid (V.heap[W.heap.size]? = some (.cells #[.int .i64 c0, .int .i64 c1, .int .i64 c2, .int .i64 c3] 143 (0, 0))) := Lib.hid (by rw [← HV.out]; exact heap_new rfl)
 have HX : Hid (0 < n → ∃ b off, a = some ⟨b, off, none⟩ ∧ Q4At V b off cs) := Lib.hid (fun h => by obtain ⟨b, off, e, h2⟩ := hx h; exact ⟨b, off, e, h2.below hV⟩)
 clear hx
 go_enter Tryz.func152, Tryz.ntmps152
 go_wp2
 rw [HV.out]
 go_loopw [5] (fun x wr => ∃ i : Nat, i ≤ n ∧ x = .int .i64 i ∧ Below V.heap.size V wr ∧ Hid (∀ j (h : j < cs.length), j < i → cs[j] ≠ (c0, c1, c2, c3))) (fun x _ => n - (intOf x).toNat)
 case atStart => exact ⟨0, by omega, rfl, Below.refl _ _, Lib.hid (fun j _ h => by omega)⟩
 case round =>
  obtain ⟨i, hi, rfl, hb, Hd⟩ := hrel
  by_cases hlt : i < n
  ·have g1 : (i : Int) < (n : Int) := by omega
   have g2 : (0 : Int) ≤ (i : Int) := by omega
   have hil : i < cs.length := by omega
   obtain ⟨b, off, rfl, hi4⟩ := HX.out (by omega)
   obtain ⟨e0, e1, e2, e3⟩ := (hi4.below hb) i hil
   have ze := World.block_lt_of_cell? wr _ e0
   simp only at ze
   have HCr := Lib.hid ((hb.block _ (blk_lt HC.out)).trans HC.out)
   have f0 := (blk_cell HCr.out 0).trans rfl
   have f1 := (blk_cell HCr.out 1).trans rfl
   have f2 := (blk_cell HCr.out 2).trans rfl
   have f3 := (blk_cell HCr.out 3).trans rfl
   simp only [List.getElem?_toArray, List.getElem?_cons_zero, List.getElem?_cons_succ] at f0 f1 f2 f3
   have zf := blk_lt HCr.out
   have Hyes' := Lib.hid (Hyes.out i hil)
   have Hst : Hid (cs[i] ≠ (c0, c1, c2, c3) → ∀ j (h : j < cs.length), j < i + 1 → cs[j] ≠ (c0, c1, c2, c3)) := Lib.hid (fun h j hj hji => by
    by_cases e : j = i
    ·subst e; exact h
    ·exact Hd.out j hj (by omega))
   clear Hyes Hd hi4 HX
   generalize cs[i] = p at *
   obtain ⟨p0, p1, p2, p3⟩ := p
   simp only at e0 e1 e2 e3
   by_cases h0 : p0 = c0
   ·subst h0
    by_cases h1 : p1 = c1
    ·subst h1
     by_cases h2 : p2 = c2
     ·subst h2
      by_cases h3 : p3 = c3
      ·subst h3
       go_wp2
       refine wqb ?_
       repeat (first | go_big_quiet_step (fail) | quiet_step (fail))
       refine wqn fun u => ?_
       go_wp2
       go_ret
       exact ⟨ret_bool (Hyes'.out (by first | trivial | rfl)).symm, below_trans hV (below_trans hb u.below)⟩
      ·go_wp2
       refine wqb ?_
       repeat (first | go_big_quiet_step (fail) | quiet_step (fail))
       refine wqn fun u => ?_
       go_wp2
       go_roundw
       case rel => exact ⟨i + 1, by omega, by go_num, below_trans hb u.below, Lib.hid (Hst.out (fun e => h3 (by cases e; rfl)))⟩
       case measure => first | (simp [intOf]; done) | (simp [intOf]; omega)
     ·go_wp2
      refine wqb ?_
      repeat (first | go_big_quiet_step (fail) | quiet_step (fail))
      refine wqn fun u => ?_
      go_wp2
      go_roundw
      case rel => exact ⟨i + 1, by omega, by go_num, below_trans hb u.below, Lib.hid (Hst.out (fun e => h2 (by cases e; rfl)))⟩
      case measure => first | (simp [intOf]; done) | (simp [intOf]; omega)
    ·go_wp2
     refine wqb ?_
     repeat (first | go_big_quiet_step (fail) | quiet_step (fail))
     refine wqn fun u => ?_
     go_wp2
     go_roundw
     case rel => exact ⟨i + 1, by omega, by go_num, below_trans hb u.below, Lib.hid (Hst.out (fun e => h1 (by cases e; rfl)))⟩
     case measure => first | (simp [intOf]; done) | (simp [intOf]; omega)
   ·go_wp2
    refine wqb ?_
    repeat (first | go_big_quiet_step (fail) | quiet_step (fail))
    refine wqn fun u => ?_
    go_wp2
    go_roundw
    case rel => exact ⟨i + 1, by omega, by go_num, below_trans hb u.below, Lib.hid (Hst.out (fun e => h0 (by cases e; rfl)))⟩
    case measure => first | (simp [intOf]; done) | (simp [intOf]; omega)
  ·obtain rfl : i = n := by omega
   have g1 : ¬ (i : Int) < (i : Int) := by omega
   go_wp2
   go_ret
   exact ⟨ret_bool (Hno.out (fun j h => Hd.out j h (by omega))).symm, below_trans hV hb⟩
def okB (p q r : Q4) : Bool := denP p q r != 0
def rptP (p q r : Q4) : Q4 := if denP p q r = 0 then (0, 0, 0, 0) else meetP p q r (denP p q r)
theorem rpoint_any (p q r : Q4) (w : World) (hp : okPl p) (hq : okPl q) (hr : okPl r) :
  Calls Tryz.prog 150 #[v4 p, v4 q, v4 r] w (Ret w (.tuple #[v4 (rptP p q r), .bool (okB p q r)])) := by
 unfold rptP okB
 by_cases h : denP p q r = 0
 ·rw [if_pos h, h]
  exact rpoint_zero p q r w hp hq hr h
 ·rw [if_neg h, show (denP p q r != 0) = true by simpa using h]
  exact rpoint_some p q r w hp hq hr h
def accP (l : List Q4) : List Q4 := l.foldl addC []
theorem accP_snoc (l : List Q4) (c : Q4) : accP (l ++ [c]) = addC (accP l) c := by simp [accP]
theorem accP_len (l : List Q4) : (accP l).length ≤ l.length := by
 have key : ∀ (l out : List Q4), (l.foldl addC out).length ≤ out.length + l.length := by
  intro l
  induction l with
  | nil => intro out; simp
  | cons c l ih =>
   intro out
   rw [List.foldl_cons]
   have := ih (addC out c)
   have h2 : (addC out c).length ≤ out.length + 1 := by unfold addC; split <;> simp
   simp only [List.length_cons]
   omega
 have := key l []
 unfold accP
 simpa using this
def acc3 (ps : List Q4) (i k m : Nat) : List Q4 := accP (raw ps i ++ rawI ps i k ++ rawK ps i k m)
theorem acc3_m (ps : List Q4) (i k : Nat) : acc3 ps i k k = acc3 ps i (k + 1) 0 := by
 unfold acc3
 rw [rawI_succ, rawK_zero, List.append_nil, List.append_assoc]
theorem acc3_k (ps : List Q4) (i : Nat) : acc3 ps i i 0 = acc3 ps (i + 1) 0 0 := by
 unfold acc3
 simp only [raw_succ, rawK_zero, rawI_zero, List.append_nil]
theorem acc3_no (ps : List Q4) (i k m : Nat) (h : okB (getP ps i) (getP ps k) (getP ps m) = false) : acc3 ps i k (m + 1) = acc3 ps i k m := by
 have h0 : denP (getP ps i) (getP ps k) (getP ps m) = 0 := by simpa [okB] using h
 unfold acc3
 rw [rawK_succ]
 unfold raw1
 rw [if_pos h0, List.append_nil]
theorem acc3_bar (ps : List Q4) (i k m : Nat) (h : okB (getP ps i) (getP ps k) (getP ps m) = true) (ha : allowedB ps (rptP (getP ps i) (getP ps k) (getP ps m)) = false) : acc3 ps i k (m + 1) = acc3 ps i k m := by
 have h0 : denP (getP ps i) (getP ps k) (getP ps m) ≠ 0 := by simpa [okB] using h
 unfold rptP at ha
 rw [if_neg h0] at ha
 unfold acc3
 rw [rawK_succ]
 unfold raw1
 rw [if_neg h0, ha]
 simp
theorem acc3_yes (ps : List Q4) (i k m : Nat) (h : okB (getP ps i) (getP ps k) (getP ps m) = true) (ha : allowedB ps (rptP (getP ps i) (getP ps k) (getP ps m)) = true) : acc3 ps i k (m + 1) = addC (acc3 ps i k m) (rptP (getP ps i) (getP ps k) (getP ps m)) := by
 have h0 : denP (getP ps i) (getP ps k) (getP ps m) ≠ 0 := by simpa [okB] using h
 unfold rptP at ha ⊢
 rw [if_neg h0] at ha ⊢
 unfold acc3
 rw [rawK_succ]
 unfold raw1
 rw [if_neg h0, ha, if_pos rfl, ← List.append_assoc, accP_snoc]
theorem acc3_len (ps : List Q4) (i k m : Nat) (hi : i ≤ 64) (hk : k ≤ 64) (hm : m ≤ 64) : (acc3 ps i k m).length ≤ 300000 := by
 have h1 := accP_len (raw ps i ++ rawI ps i k ++ rawK ps i k m)
 rw [List.length_append, List.length_append] at h1
 have h2 := raw_len ps i hi
 have h3 := rawI_len ps i k hk
 have h4 := rawK_len ps i k m
 unfold acc3
 omega
theorem rptP_ok (p q r : Q4) (hp : okPl p) (hq : okPl q) (hr : okPl r) (h : okB p q r = true) : okCo (rptP p q r) := by
 have h0 : denP p q r ≠ 0 := by simpa [okB] using h
 unfold rptP
 rw [if_neg h0]
 have := den_bd p q r hp hq hr
 exact meetP_ok p q r _ hp hq hr (by omega) h0
theorem put4_below {B : Nat} {w0 w : World} {g : Nat} (h : Below B w0 w) (hg : B ≤ g) (a b c d : Value) : Below B w0 (put4 w g a b c d) := (((h.setCell hg _).setCell hg _).setCell hg _).setCell hg _
theorem rPoints_any (ps : List Q4) (pv : Value) (W : World) (hps : ∀ p ∈ ps, okPl p) (hl : ps.length ≤ 64) (hpv : Q4s W pv ps) :
  Calls Tryz.prog 112 #[pv] W fun e w' => ∃ r, e = .returned r ∧ Below W.heap.size W w' ∧ w'.ownsRow W.heap.size 143 4 r (refPts ps).length ((refPts ps).flatMap enc4) := by
 obtain ⟨i0, hi0, hz0, hz1, hz2⟩ := info_parts info_corner
 have Hi0 := Lib.hid (And.intro hi0 (And.intro hz0 (And.intro hz1 hz2)))
 clear hi0 hz0 hz1 hz2
 have Hpv := Lib.hid hpv
 obtain ⟨a, n, cc, rfl, hn, _, hx⟩ := hpv
 have HX : Hid (0 < n → ∃ b off, a = some ⟨b, off, none⟩ ∧ Q4At W b off ps) := Lib.hid hx
 have Hok := fun i (h : i < ps.length) => Lib.hid (getP_ok hps i h)
 have Hge := fun i (h : i < ps.length) => Lib.hid (getP_eq (ps := ps) i h)
 have HP := fun i j k (hi : i < ps.length) (hj : j < ps.length) (hk : k < ps.length) W' => Lib.hid (rpoint_any (getP ps i) (getP ps j) (getP ps k) W' (Hok i hi).out (Hok j hj).out (Hok k hk).out)
 have HA := fun i j k (hi : i < ps.length) (hj : j < ps.length) (hk : k < ps.length) (h : okB (getP ps i) (getP ps j) (getP ps k) = true) W' hb => Lib.hid (rallowed_any ps (rptP (getP ps i) (getP ps j) (getP ps k)) _ W' hps (rptP_ok _ _ _ (Hok i hi).out (Hok j hj).out (Hok k hk).out h) (by omega) (Hpv.out.below hb))
 have Hno := fun i k m => Lib.hid (acc3_no ps i k m)
 have Hbar := fun i k m => Lib.hid (acc3_bar ps i k m)
 have Hyes := fun i k m => Lib.hid (acc3_yes ps i k m)
 have Hm := fun i k => Lib.hid (acc3_m ps i k)
 have Hk := fun i => Lib.hid (acc3_k ps i)
 have Hln := fun i k m h1 h2 h3 => Lib.hid (acc3_len ps i k m h1 h2 h3)
 have H0 : Hid (acc3 ps 0 0 0 = []) := Lib.hid rfl
 have Hfin : Hid (acc3 ps n 0 0 = refPts ps) := Lib.hid (by
  unfold acc3 refPts accP
  rw [rawI_zero, rawK_zero, List.append_nil, List.append_nil, hn])
 generalize refPts ps = res at *
 generalize acc3 ps = acc at *
 clear hx hps Hok Hpv
 go_enter Tryz.func112, Tryz.ntmps112
 go_wp2
 go_loopw [3, 4] (fun s x wr => ∃ i : Nat, i ≤ n ∧ x = .int .i64 i ∧ Below W.heap.size W wr ∧ Hid (wr.ownsRow W.heap.size 143 4 s (acc i 0 0).length ((acc i 0 0).flatMap enc4))) (fun _ x _ => n - (intOf x).toNat)
 case atStart => exact ⟨0, by omega, rfl, Below.refl _ _, Lib.hid (by rw [H0.out]; exact World.ownsRow_nil _ _ _ _)⟩
 case round =>
  obtain ⟨i, hi, rfl, hb, HO⟩ := hrel
  by_cases hlt : i < n
  ·have g1 : (i : Int) < (n : Int) := by omega
   have g2 : (0 : Int) ≤ (i : Int) := by omega
   have hil : i < ps.length := by omega
   go_wp2
   go_loopw [3, 5] (fun s x wr => ∃ k : Nat, k ≤ i ∧ x = .int .i64 k ∧ Below W.heap.size W wr ∧ Hid (wr.ownsRow W.heap.size 143 4 s (acc i k 0).length ((acc i k 0).flatMap enc4))) (fun _ x _ => i - (intOf x).toNat)
   case atStart => exact ⟨0, by omega, rfl, hb, HO⟩
   case round =>
    clear hb HO
    obtain ⟨k, hk, rfl, hb, HO⟩ := hrel
    by_cases hlk : k < i
    ·have g3 : (k : Int) < (i : Int) := by omega
     have g4 : (0 : Int) ≤ (k : Int) := by omega
     have g4' : (k : Int) < (n : Int) := by omega
     have hkl : k < ps.length := by omega
     go_wp2
     go_loopw [3, 6] (fun s x wr => ∃ m : Nat, m ≤ k ∧ x = .int .i64 m ∧ Below W.heap.size W wr ∧ Hid (wr.ownsRow W.heap.size 143 4 s (acc i k m).length ((acc i k m).flatMap enc4))) (fun _ x _ => k - (intOf x).toNat)
     case atStart => exact ⟨0, by omega, rfl, hb, HO⟩
     case round =>
      clear hb HO
      obtain ⟨m, hm, rfl, hb, HO⟩ := hrel
      by_cases hlm : m < k
      ·have g5 : (m : Int) < (k : Int) := by omega
       have g6 : (0 : Int) ≤ (m : Int) := by omega
       have g6' : (m : Int) < (n : Int) := by omega
       have hml : m < ps.length := by omega
       obtain ⟨b, off, rfl, hi4⟩ := HX.out (by omega)
       obtain ⟨x0, x1, x2, x3⟩ := (hi4.below hb) i hil
       obtain ⟨y0, y1, y2, y3⟩ := (hi4.below hb) k hkl
       obtain ⟨z0, z1, z2, z3⟩ := (hi4.below hb) m hml
       rw [(Hge i hil).out] at x0 x1 x2 x3
       rw [(Hge k hkl).out] at y0 y1 y2 y3
       rw [(Hge m hml).out] at z0 z1 z2 z3
       have zx := World.block_lt_of_cell? wr _ x0
       simp only at zx
       have HPi := fun W' => Lib.hid ((HP i k m hil hkl hml W').out)
       have HAi := fun h W' hb => Lib.hid ((HA i k m hil hkl hml h W' hb).out)
       have Hno' := Lib.hid ((Hno i k m).out)
       have Hbar' := Lib.hid ((Hbar i k m).out)
       have Hyes' := Lib.hid ((Hyes i k m).out)
       have hln := (Hln i k m (by omega) (by omega) (by omega)).out
       have HAcc : Hid (∀ c, addC (acc i k m) c = if c ∈ acc i k m then acc i k m else acc i k m ++ [c]) := Lib.hid (fun c => rfl)
       clear HP HA Hno Hbar Hyes hi4 HX Hge
       generalize allowedB ps (rptP (getP ps i) (getP ps k) (getP ps m)) = al at *
       generalize rptP (getP ps i) (getP ps k) (getP ps m) = R at *
       generalize okB (getP ps i) (getP ps k) (getP ps m) = ok at *
       generalize getP ps i = P at *
       generalize getP ps k = Q at *
       generalize getP ps m = S at *
       generalize acc i k m = A at *
       obtain ⟨P0, P1, P2, P3⟩ := P
       obtain ⟨Q0, Q1, Q2, Q3⟩ := Q
       obtain ⟨S0, S1, S2, S3⟩ := S
       obtain ⟨R0, R1, R2, R3⟩ := R
       simp only at x0 x1 x2 x3 y0 y1 y2 y3 z0 z1 z2 z3
       go_wp2
       refine wp_region_growZ [15] [0, 1, 2, 3, 4, 5, 6, 7, 8, 9, 10, 11, 12, 13, 14, 15, 16] 17 [18] (pick [IsV (.slice (some ⟨b, off, none⟩) n cc), IsV (.int .i64 (i : Int)), IsV (.pointer (some ⟨b, off + i * 4, none⟩)), IsV (v4 (P0, P1, P2, P3)), IsV (.slice (some ⟨b, off, none⟩) n cc), IsV (.int .i64 (k : Int)), IsV (.pointer (some ⟨b, off + k * 4, none⟩)), IsV (v4 (Q0, Q1, Q2, Q3)), IsV (.slice (some ⟨b, off, none⟩) n cc), IsV (.int .i64 (m : Int)), IsV (.pointer (some ⟨b, off + m * 4, none⟩)), IsV (v4 (S0, S1, S2, S3)), IsV (.tuple #[v4 (R0, R1, R2, R3), .bool ok]), IsV (.tuple #[v4 (R0, R1, R2, R3), .bool ok]), IsV (v4 (R0, R1, R2, R3)), IsV (.bool ok), IsBx wr.heap.size 143 #[.int .i64 0, .int .i64 0, .int .i64 0, .int .i64 0]]) (by kernel_rfl) (by kernel_rfl) (Stabs.pick (by repeat (first | exact Stabs.nil | refine Stabs.cons (by first | exact stab_v _ | exact stab_bx _ _ _) ?_))) ?_
       try go_frame
       refine wgn rfl rfl (by simp) (fun w' hb' hR K hK => ?_) (fun o0 => ?_)
       ·clear hR
        go_simp
        exact hK _ _ brf rfl
       try go_frame
       refine wgn rfl rfl (by simp) (fun w' hb' hR K hK => ?_) (fun o1 => ?_)
       ·clear hR
        go_simp
        exact hK _ _ brf rfl
       try go_frame
       refine wgn rfl rfl (by simp) (fun w' hb' hR K hK => ?_) (fun o2 => ?_)
       ·obtain rfl : o0 = .slice (some ⟨b, off, none⟩) n cc := hR 0 (by kernel_rfl)
        obtain rfl : o1 = .int .i64 (i : Int) := hR 1 (by kernel_rfl)
        clear hR
        go_simp
        exact hK _ _ brf rfl
       try go_frame
       refine wgn rfl rfl (by simp) (fun w' hb' hR K hK => ?_) (fun o3 => ?_)
       ·obtain rfl : o2 = .pointer (some ⟨b, off + i * 4, none⟩) := hR 2 (by kernel_rfl)
        clear hR
        have q0 := below_cell hb' x0
        have q1 := below_cell hb' x1
        have q2 := below_cell hb' x2
        have q3 := below_cell hb' x3
        have qz := Nat.lt_of_lt_of_le zx hb'.size
        go_simp
        exact hK _ _ brf rfl
       try go_frame
       refine wgn rfl rfl (by simp) (fun w' hb' hR K hK => ?_) (fun o4 => ?_)
       ·clear hR
        go_simp
        exact hK _ _ brf rfl
       try go_frame
       refine wgn rfl rfl (by simp) (fun w' hb' hR K hK => ?_) (fun o5 => ?_)
       ·clear hR
        go_simp
        exact hK _ _ brf rfl
       try go_frame
       refine wgn rfl rfl (by simp) (fun w' hb' hR K hK => ?_) (fun o6 => ?_)
       ·obtain rfl : o4 = .slice (some ⟨b, off, none⟩) n cc := hR 4 (by kernel_rfl)
        obtain rfl : o5 = .int .i64 (k : Int) := hR 5 (by kernel_rfl)
        clear hR
        go_simp
        exact hK _ _ brf rfl
       try go_frame
       refine wgn rfl rfl (by simp) (fun w' hb' hR K hK => ?_) (fun o7 => ?_)
       ·obtain rfl : o6 = .pointer (some ⟨b, off + k * 4, none⟩) := hR 6 (by kernel_rfl)
        clear hR
        have q0 := below_cell hb' y0
        have q1 := below_cell hb' y1
        have q2 := below_cell hb' y2
        have q3 := below_cell hb' y3
        have qz := Nat.lt_of_lt_of_le zx hb'.size
        go_simp
        exact hK _ _ brf rfl
       try go_frame
       refine wgn rfl rfl (by simp) (fun w' hb' hR K hK => ?_) (fun o8 => ?_)
       ·clear hR
        go_simp
        exact hK _ _ brf rfl
       try go_frame
       refine wgn rfl rfl (by simp) (fun w' hb' hR K hK => ?_) (fun o9 => ?_)
       ·clear hR
        go_simp
        exact hK _ _ brf rfl
       try go_frame
       refine wgn rfl rfl (by simp) (fun w' hb' hR K hK => ?_) (fun o10 => ?_)
       ·obtain rfl : o8 = .slice (some ⟨b, off, none⟩) n cc := hR 8 (by kernel_rfl)
        obtain rfl : o9 = .int .i64 (m : Int) := hR 9 (by kernel_rfl)
        clear hR
        go_simp
        exact hK _ _ brf rfl
       try go_frame
       refine wgn rfl rfl (by simp) (fun w' hb' hR K hK => ?_) (fun o11 => ?_)
       ·obtain rfl : o10 = .pointer (some ⟨b, off + m * 4, none⟩) := hR 10 (by kernel_rfl)
        clear hR
        have q0 := below_cell hb' z0
        have q1 := below_cell hb' z1
        have q2 := below_cell hb' z2
        have q3 := below_cell hb' z3
        have qz := Nat.lt_of_lt_of_le zx hb'.size
        go_simp
        exact hK _ _ brf rfl
       try go_frame
       refine wgn rfl rfl (by simp) (fun w' hb' hR K hK => ?_) (fun o12 => ?_)
       ·obtain rfl : o3 = v4 (P0, P1, P2, P3) := hR 3 (by kernel_rfl)
        obtain rfl : o7 = v4 (Q0, Q1, Q2, Q3) := hR 7 (by kernel_rfl)
        obtain rfl : o11 = v4 (S0, S1, S2, S3) := hR 11 (by kernel_rfl)
        clear hR
        go_simp
        refine ((HPi _).out).mono ?_
        rintro e w1 ⟨rfl, hb1⟩
        exact hK _ _ hb1 rfl
       try go_frame
       refine wgn rfl rfl (by simp) (fun w' hb' hR K hK => ?_) (fun o13 => ?_)
       ·obtain rfl : o12 = .tuple #[v4 (R0, R1, R2, R3), .bool ok] := hR 12 (by kernel_rfl)
        clear hR
        go_simp
        exact hK _ _ brf rfl
       try go_frame
       refine wgn rfl rfl (by simp) (fun w' hb' hR K hK => ?_) (fun o14 => ?_)
       ·obtain rfl : o13 = .tuple #[v4 (R0, R1, R2, R3), .bool ok] := hR 13 (by kernel_rfl)
        clear hR
        go_simp
        exact hK _ _ brf rfl
       try go_frame
       refine wgz rfl rfl (fun w' hb' hR K' hK' => ?_) (fun o15 => ?_)
       ·obtain rfl : o13 = .tuple #[v4 (R0, R1, R2, R3), .bool ok] := hR 13 (by kernel_rfl)
        clear hR
        go_simp
        exact hK' _ (fun _ => rfl)
       try go_frame
       refine wgn rfl rfl (by simp) (fun w' hb' hR K hK => ?_) (fun o16 => ?_)
       ·clear hR
        have zz := hb'.size
        go_simp
        exact hK _ _ bel ⟨_, rfl, zz, heap_new rfl⟩
       try go_frame
       refine wpGZ_nil (fun w' hb' hR => ?_)
       obtain rfl : o14 = v4 (R0, R1, R2, R3) := hR 14 (by simp)
       obtain rfl : o15 = .bool ok := hR 15 (by simp)
       obtain ⟨g, rfl, hg, hB⟩ : IsBx wr.heap.size 143 #[.int .i64 0, .int .i64 0, .int .i64 0, .int .i64 0] o16 w' := hR 16 (by simp)
       have HB := Lib.hid hB
       obtain ⟨c0, c1, c2, c3, cf, cz⟩ := blk4 hB
       obtain ⟨X, HX⟩ : ∃ X, Hid (put4 w' g (.int .i64 R0) (.int .i64 R1) (.int .i64 R2) (.int .i64 R3) = X) := ⟨_, Lib.hid rfl⟩
       have hwX : Below wr.heap.size wr X := by rw [← HX.out]; exact put4_below hb' hg _ _ _ _
       have HBX : Hid (X.heap[g]? = some (.cells #[.int .i64 R0, .int .i64 R1, .int .i64 R2, .int .i64 R3] 143 (0, 0))) := Lib.hid (by rw [← HX.out]; exact put4_blk HB.out _ _ _ _)
       have eX : (((w'.setCell ⟨g, 0, none⟩ (.int .i64 R0)).setCell ⟨g, 1, none⟩ (.int .i64 R1)).setCell ⟨g, 2, none⟩ (.int .i64 R2)).setCell ⟨g, 3, none⟩ (.int .i64 R3) = X := HX.out
       have hbX := below_trans hb hwX
       have HOX := Lib.hid (own_below HO.out hwX)
       clear hR hB x0 x1 x2 x3 y0 y1 y2 y3 z0 z1 z2 z3 zx HPi
       simp only [oas]
       go_wp2
       refine NoPanic.normal ?_
       try rw [eX]
       clear eX HX HB c0 c1 c2 c3 cf cz hb' hwX HO hb
       obtain ⟨c0, c1, c2, c3, cf, cz⟩ := blk4 HBX.out
       cases ok with
       | false =>
        have he := Lib.hid (Hno'.out (by first | trivial | rfl))
        go_wp2
        go_roundw
        case rel => exact ⟨m + 1, by omega, by go_num, hbX, Lib.hid (by rw [he.out]; exact HOX.out)⟩
        case measure => first | (simp [intOf]; done) | (simp [intOf]; omega)
       | true =>
        have HA2 := Lib.hid ((HAi rfl X hbX).out)
        clear HAi
        go_wp2_with fail
        refine (HA2.out).mono ?_
        rintro en w2 ⟨rfl, hb2⟩
        have HO2 := Lib.hid (own_below HOX.out hb2)
        have HB2 := Lib.hid ((hb2.block _ cz).trans HBX.out)
        have hbX := below_trans hbX hb2
        have HOX := HO2
        clear HA2 hb2 HO2 c0 c1 c2 c3 cf cz HBX
        obtain ⟨c0, c1, c2, c3, cf, cz⟩ := blk4 HB2.out
        cases al with
        | false =>
         have he := Lib.hid (Hbar'.out (by first | trivial | rfl) (by first | trivial | rfl))
         go_wp2
         go_roundw
         case rel => exact ⟨m + 1, by omega, by go_num, hbX, Lib.hid (by rw [he.out]; exact HOX.out)⟩
         case measure => first | (simp [intOf]; done) | (simp [intOf]; omega)
        | true =>
         have he := Lib.hid (Hyes'.out (by first | trivial | rfl) (by first | trivial | rfl))
         have HHc := Lib.hid (hasCorner_any A (R0, R1, R2, R3) _ w2 (by omega) (q4s_own HOX.out))
         clear Hno' Hbar' Hyes'
         by_cases hin : (R0, R1, R2, R3) ∈ A
         ·rw [decide_eq_true hin] at HHc
          have he2 := Lib.hid (he.out.trans ((HAcc.out _).trans (if_pos hin)))
          go_wp2_with fail
          refine (HHc.out).mono ?_
          rintro en w3 ⟨rfl, hb3⟩
          have hbX := below_trans hbX hb3
          have HOX := Lib.hid (own_below HOX.out hb3)
          go_wp2
          go_roundw
          case rel => exact ⟨m + 1, by omega, by go_num, hbX, Lib.hid (by rw [he2.out]; exact HOX.out)⟩
          case measure => first | (simp [intOf]; done) | (simp [intOf]; omega)
         ·rw [decide_eq_false hin] at HHc
          have he2 := Lib.hid (he.out.trans ((HAcc.out _).trans (if_neg hin)))
          go_wp2_with fail
          refine (HHc.out).mono ?_
          rintro en w3 ⟨rfl, hb3⟩
          have hbX := below_trans hbX hb3
          have HOX := Lib.hid (own_below HOX.out hb3)
          have HB3 := Lib.hid ((hb3.block _ cz).trans HB2.out)
          clear hb3 HHc he HAcc c0 c1 c2 c3 cf cz HB2
          obtain ⟨c0, c1, c2, c3, cf, cz⟩ := blk4 HB3.out
          go_wp2_with (at_builtin; refine wpList_append_own _ rfl _ _ 139 rfl W.heap.size 143 i0 (v4 (0, 0, 0, 0)) 4 32 und_corners Hi0.out.1 Hi0.out.2.1 Hi0.out.2.2.1 Hi0.out.2.2.2 rfl (by decide) _ A.length _ rfl (HOX.out.alloc _) ⟨w3.heap.size, 0, none⟩ 1 1 (enc4 (R0, R1, R2, R3)) rfl rfl ?c1 ?c2 ?c3 ?c4 ?c5 ?_)
          case c1 =>
           intro jj uu hu
           rw [add0, cell_new rfl jj]
           simpa [enc4] using hu
          case c2 => intro v hv; simp [enc4] at hv; rcases hv with rfl | rfl | rfl | rfl <;> rfl
          case c3 => unfold maxLen; omega
          case c4 => omega
          case c5 => simp; have := hbX.size; omega
          intro v' w4 hown4 hg4 _
          have hb4 : Below W.heap.size W w4 := (hbX.alloc hbX.size _).grown hg4 (by simp; have := hbX.size; omega) (fun z hz => by have := (HOX.out.lt z hz).1; omega)
          have HO4 := Lib.hid hown4
          clear hown4 hg4
          go_wp2
          go_roundw
          case rel => exact ⟨m + 1, by omega, by go_num, hb4, Lib.hid (by rw [he2.out]; simpa using HO4.out)⟩
          case measure => first | (simp [intOf]; done) | (simp [intOf]; omega)
      ·obtain rfl : m = k := by omega
       have g5 : ¬ (m : Int) < (m : Int) := by omega
       go_wp2
       go_roundw
       case rel => exact ⟨m + 1, by omega, by go_num, hb, Lib.hid (by rw [← (Hm i m).out]; exact HO.out)⟩
       case measure => first | (simp [intOf]; done) | (simp [intOf]; omega)
    ·obtain rfl : k = i := by omega
     have g3 : ¬ (k : Int) < (k : Int) := by omega
     go_wp2
     go_roundw
     case rel => exact ⟨k + 1, by omega, by go_num, hb, Lib.hid (by rw [← (Hk k).out]; exact HO.out)⟩
     case measure => first | (simp [intOf]; done) | (simp [intOf]; omega)
  ·obtain rfl : i = n := by omega
   have g1 : ¬ (i : Int) < (i : Int) := by omega
   go_wp2
   go_ret
   exact ⟨_, rfl, hb, by rw [← Hfin.out]; exact HO.out⟩
end
end Go.Proofs.YtokhkhnofkcalaaGreatDoor
