/- texts: V3 C0 R0 D1 G3 G5 GM GB. -/
import Derived.Test.YtokhkhnofkcalaaGreatDoorGZS16
namespace Go.Proofs.YtokhkhnofkcalaaGreatDoor
set_option maxHeartbeats 8000000
set_option linter.unusedSimpArgs false
set_option linter.unusedVariables false
section
open Go.RowKit Go.Sort Go.Lib
theorem compact_pair {le : Q4 → Q4 → Prop} (l : List Q4) (hs : l.Pairwise le) (anti : ∀ x ∈ l, ∀ y ∈ l, le x y → le y x → x = y) : (Lib.compact l).Pairwise (fun x y => le x y ∧ x ≠ y) := by
 rw [List.pairwise_iff_getElem] at hs
 unfold Lib.compact Lib.compactUpTo
 rw [List.pairwise_map, List.pairwise_filter]
 refine List.Pairwise.imp_of_mem ?_ List.pairwise_lt_range
 intro a b ha hb hab _ kb
 have ha' : a < l.length := List.mem_range.1 ha
 have hb' : b < l.length := List.mem_range.1 hb
 simp only [Lib.keeps, decide_eq_true_eq] at kb
 rw [getElem!_pos l.toArray b (by simpa using hb'), getElem!_pos l.toArray (b - 1) (by simp; omega)] at kb
 rw [getElem!_pos l.toArray b (by simpa using hb'), getElem!_pos l.toArray a (by simpa using ha')]
 simp only [List.getElem_toArray] at kb ⊢
 have kb' : l[b] ≠ l[b - 1] := by
  rcases kb with h | h
  ·omega
  ·exact h
 have hab' := hs a b ha' hb' hab
 refine ⟨hab', fun e => kb' ?_⟩
 by_cases h1 : a = b - 1
 ·subst h1; exact e.symm
 ·have h2 := hs a (b - 1) ha' (by omega) (by omega)
  have h3 := hs (b - 1) b (by omega) hb' (by omega)
  rw [← e] at h3
  have := anti _ (List.getElem_mem ha') _ (List.getElem_mem (by omega)) h2 h3
  rw [← e, this]
theorem sortL_pair (ps : List Q4) : (sortL ps).Pairwise (fun x y => ¬ cmpPl y x < 0) := by
 have := List.pairwise_mergeSort (le := fun x y : Q4 => !decide (cmpPl y x < 0))
  (fun a b c h1 h2 => by
   simp only [Bool.not_eq_true', decide_eq_false_iff_not, cmpPl_neg] at *
   omega)
  (fun a b => by
   simp only [Bool.or_eq_true, Bool.not_eq_true', decide_eq_false_iff_not, cmpPl_neg] at *
   omega) ps
 refine List.Pairwise.imp ?_ this
 intro a b h
 simpa using h
theorem pl_anti {x y : Q4} (h1 : ¬ cmpPl y x < 0) (h2 : ¬ cmpPl x y < 0) : x = y := totPl x y (by rw [ltPl]; simpa using h2) (by rw [ltPl]; simpa using h1)
theorem pl_tri {x y : Q4} (h1 : ¬ cmpPl y x < 0) (h2 : x ≠ y) : cmpPl x y < 0 := Classical.byContradiction fun h => h2 (pl_anti h1 h)
theorem normF_sorted (ps cs : List Q4) : (normF ps cs).Pairwise (fun x y => cmpPl x y < 0) := by
 unfold normF
 exact (compact_pair _ (sortL_pair _) (fun x _ y _ h1 h2 => pl_anti h1 h2)).imp (fun h => pl_tri h.1 h.2)
theorem mem_normF (ps cs : List Q4) (x : Q4) : x ∈ normF ps cs ↔ ∃ p ∈ ps, onB cs p = true ∧ x = lowP p := by
 unfold normF
 rw [mem_compact]
 simp only [sortL, List.mem_mergeSort, lowL, List.mem_map, List.mem_filter]
 constructor
 ·rintro ⟨p, ⟨hp, ho⟩, rfl⟩; exact ⟨p, hp, ho, rfl⟩
 ·rintro ⟨p, hp, ho, rfl⟩; exact ⟨p, ⟨hp, ho⟩, rfl⟩
theorem pl_irr (x : Q4) : ¬ cmpPl x x < 0 := by rw [cmpPl_neg]; omega
theorem pl_asymm {x y : Q4} (h : cmpPl x y < 0) : ¬ cmpPl y x < 0 := by rw [cmpPl_neg] at *; omega
theorem pl_trans {x y z : Q4} (h1 : cmpPl x y < 0) (h2 : cmpPl y z < 0) : cmpPl x z < 0 := by rw [cmpPl_neg] at *; omega
theorem sorted_ext : ∀ {l1 l2 : List Q4}, l1.Pairwise (fun x y => cmpPl x y < 0) → l2.Pairwise (fun x y => cmpPl x y < 0) → (∀ x, x ∈ l1 ↔ x ∈ l2) → l1 = l2
 | [], [], _, _, _ => rfl
 | [], b :: l2, _, _, h => by have := (h b).2 (by simp); cases this
 | a :: l1, [], _, _, h => by have := (h a).1 (by simp); cases this
 | a :: l1, b :: l2, h1, h2, h => by
  rw [List.pairwise_cons] at h1 h2
  have e : a = b := by
   rcases List.mem_cons.1 ((h a).1 (by simp)) with e | ha
   ·exact e
   ·rcases List.mem_cons.1 ((h b).2 (by simp)) with e | hb
    ·exact e.symm
    ·exact absurd (h1.1 b hb) (pl_asymm (h2.1 a ha))
  subst e
  rw [sorted_ext h1.2 h2.2 (fun x => ?_)]
  constructor
  ·intro hx
   rcases List.mem_cons.1 ((h x).1 (List.mem_cons_of_mem _ hx)) with e | h3
   ·subst e; exact absurd (h1.1 _ hx) (pl_irr _)
   ·exact h3
  ·intro hx
   rcases List.mem_cons.1 ((h x).2 (List.mem_cons_of_mem _ hx)) with e | h3
   ·subst e; exact absurd (h2.1 _ hx) (pl_irr _)
   ·exact h3
theorem sortP_pair (cs : List Q4) (hcs : ∀ c ∈ cs, nrmCo c) : (sortP cs).Pairwise (fun x y => ¬ cmpPt y x < 0) := by
 have hv : (cs.attachWith nrmCo hcs).map Subtype.val = cs := List.attachWith_map_subtype_val hcs
 have e : (List.mergeSort (cs.attachWith nrmCo hcs) fun x y => !ltOf cfPt y x).map Subtype.val = sortP cs := by
  unfold sortP
  have := List.map_mergeSort (r := fun x y : NCo => !ltOf cfPt y x) (s := fun x y => !decide (cmpPt y x < 0)) (f := Subtype.val) (l := cs.attachWith nrmCo hcs) (fun a _ b _ => rfl)
  rw [this, hv]
 have := List.pairwise_mergeSort (le := fun x y : NCo => !ltOf cfPt y x)
  (fun a b c h1 h2 => by
   simp only [Bool.not_eq_true'] at *
   exact swoPt.ntrans _ _ _ h2 h1)
  (fun a b => by
   simp only [Bool.or_eq_true, Bool.not_eq_true']
   cases h : ltOf cfPt b a with
   | false => exact Or.inl rfl
   | true =>
    right
    cases h2 : ltOf cfPt a b with
    | false => rfl
    | true =>
     have := swoPt.trans _ _ _ h h2
     rw [swoPt.irrefl] at this
     cases this) (cs.attachWith nrmCo hcs)
 rw [← e, List.pairwise_map]
 refine List.Pairwise.imp ?_ this
 intro a b h
 simpa [ltPt] using h
theorem corners_nodup (ps : List Q4) (h : ∀ p ∈ ps, okPl p) : (cornersOf ps).Nodup := by
 unfold cornersOf
 have hn := raw_nrm ps h ps.length (Nat.le_refl _)
 refine (compact_pair _ (sortP_pair _ hn) (fun x hx y hy h1 h2 => ?_)).imp (fun h => h.2)
 have hx' : x ∈ raw ps ps.length := by simpa [sortP] using hx
 have hy' : y ∈ raw ps ps.length := by simpa [sortP] using hy
 have := totPt ⟨x, hn x hx'⟩ ⟨y, hn y hy'⟩ (by rw [ltPt]; simpa using h2) (by rw [ltPt]; simpa using h1)
 exact congrArg Subtype.val this
theorem cntOn_perm {cs ds : List Q4} (hc : cs.Nodup) (hd : ds.Nodup) (h : ∀ x, x ∈ cs ↔ x ∈ ds) (p : Q4) : cntOn p cs = cntOn p ds := by
 unfold cntOn
 exact (((List.perm_ext_iff_of_nodup hc hd).2 h).filter _).length_eq
theorem raw_planes {ps : List Q4} {n : Nat} (hn : n ≤ ps.length) {c : Q4} (h : c ∈ raw ps n) : ∃ p ∈ ps, ∃ q ∈ ps, ∃ r ∈ ps, denP p q r ≠ 0 ∧ c = meetP p q r (denP p q r) := by
 unfold raw rawI rawK at h
 simp only [List.mem_flatMap, List.mem_range] at h
 obtain ⟨i, hi, k, hk, m, hm, h⟩ := h
 unfold raw1 at h
 split at h
 ·cases h
 ·rename_i h0
  split at h
  ·rw [List.mem_singleton] at h
   have g : ∀ j, j < ps.length → getP ps j ∈ ps := fun j hj => by
    have : getP ps j = ps[j] := by simp [getP, List.getD, hj]
    rw [this]; exact List.getElem_mem hj
   exact ⟨_, g i (by omega), _, g k (by omega), _, g m (by omega), h0, h⟩
  ·cases h
theorem meetP_slk (p q r : Q4) (h0 : denP p q r ≠ 0) : slk p (xyz (meetP p q r (denP p q r))) (meetP p q r (denP p q r)).2.2.2 = 0 ∧ slk q (xyz (meetP p q r (denP p q r))) (meetP p q r (denP p q r)).2.2.2 = 0 ∧ slk r (xyz (meetP p q r (denP p q r))) (meetP p q r (denP p q r)).2.2.2 = 0 := by
 unfold meetP
 simp only
 have key : ∀ s : Q4, slk s (comb p.2.2.2 q.2.2.2 r.2.2.2 (crossP (nrm q) (nrm r)) (crossP (nrm r) (nrm p)) (crossP (nrm p) (nrm q))) (denP p q r) = 0 →
   slk s (xyz (ptOf (comb p.2.2.2 q.2.2.2 r.2.2.2 (crossP (nrm q) (nrm r)) (crossP (nrm r) (nrm p)) (crossP (nrm p) (nrm q))).1 (comb p.2.2.2 q.2.2.2 r.2.2.2 (crossP (nrm q) (nrm r)) (crossP (nrm r) (nrm p)) (crossP (nrm p) (nrm q))).2.1 (comb p.2.2.2 q.2.2.2 r.2.2.2 (crossP (nrm q) (nrm r)) (crossP (nrm r) (nrm p)) (crossP (nrm p) (nrm q))).2.2 (denP p q r))) (ptOf (comb p.2.2.2 q.2.2.2 r.2.2.2 (crossP (nrm q) (nrm r)) (crossP (nrm r) (nrm p)) (crossP (nrm p) (nrm q))).1 (comb p.2.2.2 q.2.2.2 r.2.2.2 (crossP (nrm q) (nrm r)) (crossP (nrm r) (nrm p)) (crossP (nrm p) (nrm q))).2.1 (comb p.2.2.2 q.2.2.2 r.2.2.2 (crossP (nrm q) (nrm r)) (crossP (nrm r) (nrm p)) (crossP (nrm p) (nrm q))).2.2 (denP p q r)).2.2.2 = 0 := by
  intro s hs
  generalize comb p.2.2.2 q.2.2.2 r.2.2.2 (crossP (nrm q) (nrm r)) (crossP (nrm r) (nrm p)) (crossP (nrm p) (nrm q)) = v at *
  obtain ⟨g, hg, e1, e2, e3, e4, _⟩ := ptOf_spec v.1 v.2.1 v.2.2 (denP p q r) h0
  generalize ptOf v.1 v.2.1 v.2.2 (denP p q r) = c at *
  refine (Int.mul_eq_zero.1 (?_ : g * _ = 0)).resolve_left hg
  rw [← hs]
  unfold slk dotP xyz nrm
  rw [e4]
  simp only [e1, e2, e3]
  grind
 refine ⟨key p ?_, key q ?_, key r ?_⟩ <;> (unfold slk denP comb dotP crossP nrm; grind)
theorem same_eq {c d : Q4} (hc : nrmCo c) (hd : nrmCo d) (h : SameAt d (xyz c) c.2.2.2) : d = c := by
 obtain ⟨_, h1, h2, h3⟩ := h
 simp only [xyz] at h1 h2 h3
 exact nrm_eq d c hd hc (by grind) (by grind) (by grind)
theorem raw_sub {ps qs : List Q4} (h : ∀ p, p ∈ ps ↔ p ∈ qs) (hp : ∀ p ∈ ps, okPl p) {c : Q4} (hc : c ∈ raw ps ps.length) : c ∈ raw qs qs.length := by
 have hn := raw_nrm ps hp ps.length (Nat.le_refl _) c hc
 have ha := raw_allowed hc
 obtain ⟨p, h1, q, h2, r, h3, h0, e⟩ := raw_planes (Nat.le_refl _) hc
 obtain ⟨z1, z2, z3⟩ := meetP_slk p q r h0
 rw [← e] at z1 z2 z3
 have hq : ∀ p ∈ qs, okPl p := fun p hp' => hp p ((h p).2 hp')
 obtain ⟨d, hd, hs⟩ := corner_of qs p q r ((h p).1 h1) ((h q).1 h2) ((h r).1 h3) (xyz c) c.2.2.2 (by have := hn.1.2.2.2; omega) (fun s hs => allowed_slk ha ((h s).2 hs)) z1 z2 z3 h0
 have := same_eq hn (raw_nrm qs hq qs.length (Nat.le_refl _) d hd) hs
 rw [← this]
 exact hd
theorem normC_congr {ps qs : List Q4} (h : ∀ p, p ∈ ps ↔ p ∈ qs) (hp : ∀ p ∈ ps, okPl p) : normC ps = normC qs := by
 have hq : ∀ p ∈ qs, okPl p := fun p hp' => hp p ((h p).2 hp')
 have hm : ∀ c, c ∈ cornersOf ps ↔ c ∈ cornersOf qs := fun c => by
  rw [corners_iff, corners_iff]
  exact ⟨raw_sub h hp, raw_sub (fun p => (h p).symm) hq⟩
 refine sorted_ext (normF_sorted _ _) (normF_sorted _ _) (fun x => ?_)
 unfold normC
 rw [mem_normF, mem_normF]
 have ho : ∀ p, onB (cornersOf ps) p = onB (cornersOf qs) p := fun p => by
  unfold onB
  rw [cntOn_perm (corners_nodup ps hp) (corners_nodup qs hq) hm p]
 constructor
 ·rintro ⟨p, h1, h2, h3⟩; exact ⟨p, (h p).1 h1, by rw [← ho]; exact h2, h3⟩
 ·rintro ⟨p, h1, h2, h3⟩; exact ⟨p, (h p).2 h1, by rw [ho]; exact h2, h3⟩
def addC (out : List Q4) (c : Q4) : List Q4 := if c ∈ out then out else out ++ [c]
def refPts (ps : List Q4) : List Q4 := (raw ps ps.length).foldl addC []
def insP (out : List Q4) (p : Q4) : List Q4 :=
 if (out.dropWhile (fun q => decide (cmpPl q p < 0))).head? = some p then out else out.takeWhile (fun q => decide (cmpPl q p < 0)) ++ p :: out.dropWhile (fun q => decide (cmpPl q p < 0))
def refStep (cs : List Q4) (out : List Q4) (p : Q4) : List Q4 := if 3 ≤ cntOn (lowP p) cs then insP out (lowP p) else out
def refN (ps : List Q4) : List Q4 := ps.foldl (refStep (refPts ps)) []
theorem addC_spec (l : List Q4) : ∀ out : List Q4, out.Nodup → (l.foldl addC out).Nodup ∧ ∀ x, x ∈ l.foldl addC out ↔ x ∈ out ∨ x ∈ l := by
 induction l with
 | nil => intro out h; exact ⟨h, fun x => by simp⟩
 | cons c l ih =>
  intro out h
  rw [List.foldl_cons]
  by_cases hc : c ∈ out
  ·have e : addC out c = out := by simp [addC, hc]
   rw [e]
   obtain ⟨h1, h2⟩ := ih out h
   refine ⟨h1, fun x => ?_⟩
   rw [h2, List.mem_cons]
   constructor
   ·rintro (h | h)
    ·exact Or.inl h
    ·exact Or.inr (Or.inr h)
   ·rintro (h | rfl | h)
    ·exact Or.inl h
    ·exact Or.inl hc
    ·exact Or.inr h
  ·have e : addC out c = out ++ [c] := by simp [addC, hc]
   rw [e]
   obtain ⟨h1, h2⟩ := ih (out ++ [c]) (by
    rw [List.nodup_append]
    exact ⟨h, by simp, fun a ha b hb => by simp at hb; subst hb; exact fun e => hc (e ▸ ha)⟩)
   refine ⟨h1, fun x => ?_⟩
   rw [h2, List.mem_append, List.mem_singleton, List.mem_cons]
   constructor
   ·rintro ((h | h) | h)
    ·exact Or.inl h
    ·exact Or.inr (Or.inl h)
    ·exact Or.inr (Or.inr h)
   ·rintro (h | h | h)
    ·exact Or.inl (Or.inl h)
    ·exact Or.inl (Or.inr h)
    ·exact Or.inr h
theorem refPts_spec (ps : List Q4) : (refPts ps).Nodup ∧ ∀ x, x ∈ refPts ps ↔ x ∈ raw ps ps.length := by
 obtain ⟨h1, h2⟩ := addC_spec (raw ps ps.length) [] List.nodup_nil
 exact ⟨h1, fun x => by rw [refPts, h2]; simp⟩
theorem insP_spec (out : List Q4) (p : Q4) (h : out.Pairwise (fun x y => cmpPl x y < 0)) : (insP out p).Pairwise (fun x y => cmpPl x y < 0) ∧ ∀ x, x ∈ insP out p ↔ x ∈ out ∨ x = p := by
 have hta : out.takeWhile (fun q => decide (cmpPl q p < 0)) ++ out.dropWhile (fun q => decide (cmpPl q p < 0)) = out := List.takeWhile_append_dropWhile
 have hA : ∀ q ∈ out.takeWhile (fun q => decide (cmpPl q p < 0)), cmpPl q p < 0 := fun q hq => by
  have := List.all_eq_true.1 (List.all_takeWhile (p := fun q => decide (cmpPl q p < 0)) (l := out)) q hq
  simpa using this
 have hH : ∀ b, (out.dropWhile (fun q => decide (cmpPl q p < 0))).head? = some b → ¬ cmpPl b p < 0 := fun b hb => by
  have := List.head?_dropWhile_not (fun q => decide (cmpPl q p < 0)) out
  rw [hb] at this
  simpa using this
 unfold insP
 generalize out.takeWhile (fun q => decide (cmpPl q p < 0)) = A at *
 generalize out.dropWhile (fun q => decide (cmpPl q p < 0)) = B at *
 subst hta
 split
 ·rename_i hp
  refine ⟨h, fun x => ⟨Or.inl, ?_⟩⟩
  rintro (h1 | rfl)
  ·exact h1
  ·exact List.mem_append_right _ (List.mem_of_head? hp)
 ·rename_i hp
  refine ⟨?_, fun x => ?_⟩
  ·rw [List.pairwise_append] at h ⊢
   obtain ⟨h1, h2, h3⟩ := h
   have hB : ∀ b ∈ B, cmpPl p b < 0 := by
    cases B with
    | nil => intro b hb; cases hb
    | cons b0 B =>
     have h0 : cmpPl p b0 < 0 := pl_tri (hH b0 rfl) (fun e => hp (by rw [e]; rfl))
     intro b hb
     rcases List.mem_cons.1 hb with rfl | hb
     ·exact h0
     ·exact pl_trans h0 ((List.pairwise_cons.1 h2).1 b hb)
   refine ⟨h1, List.pairwise_cons.2 ⟨hB, h2⟩, fun a ha b hb => ?_⟩
   rcases List.mem_cons.1 hb with rfl | hb
   ·exact hA a ha
   ·exact h3 a ha b hb
  ·simp only [List.mem_append, List.mem_cons]
   constructor
   ·rintro (h | h | h)
    ·exact Or.inl (Or.inl h)
    ·exact Or.inr h
    ·exact Or.inl (Or.inr h)
   ·rintro ((h | h) | h)
    ·exact Or.inl h
    ·exact Or.inr (Or.inr h)
    ·exact Or.inr (Or.inl h)
theorem refStep_spec (cs : List Q4) (l : List Q4) : ∀ out : List Q4, out.Pairwise (fun x y => cmpPl x y < 0) →
  (l.foldl (refStep cs) out).Pairwise (fun x y => cmpPl x y < 0) ∧ ∀ x, x ∈ l.foldl (refStep cs) out ↔ x ∈ out ∨ ∃ p ∈ l, 3 ≤ cntOn (lowP p) cs ∧ x = lowP p := by
 induction l with
 | nil => intro out h; exact ⟨h, fun x => by simp⟩
 | cons q l ih =>
  intro out h
  rw [List.foldl_cons]
  by_cases hc : 3 ≤ cntOn (lowP q) cs
  ·have e : refStep cs out q = insP out (lowP q) := by simp [refStep, hc]
   rw [e]
   obtain ⟨i1, i2⟩ := insP_spec out (lowP q) h
   obtain ⟨h1, h2⟩ := ih _ i1
   refine ⟨h1, fun x => ?_⟩
   rw [h2, i2]
   constructor
   ·rintro ((h | h) | ⟨p, h3, h4⟩)
    ·exact Or.inl h
    ·exact Or.inr ⟨q, by simp, hc, h⟩
    ·exact Or.inr ⟨p, by simp [h3], h4⟩
   ·rintro (h | ⟨p, h3, h4⟩)
    ·exact Or.inl (Or.inl h)
    ·rcases List.mem_cons.1 h3 with rfl | h3
     ·exact Or.inl (Or.inr h4.2)
     ·exact Or.inr ⟨p, h3, h4⟩
  ·have e : refStep cs out q = out := by simp [refStep, hc]
   rw [e]
   obtain ⟨h1, h2⟩ := ih out h
   refine ⟨h1, fun x => ?_⟩
   rw [h2]
   constructor
   ·rintro (h | ⟨p, h3, h4⟩)
    ·exact Or.inl h
    ·exact Or.inr ⟨p, by simp [h3], h4⟩
   ·rintro (h | ⟨p, h3, h4⟩)
    ·exact Or.inl h
    ·rcases List.mem_cons.1 h3 with rfl | h3
     ·exact absurd h4.1 hc
     ·exact Or.inr ⟨p, h3, h4⟩
theorem sd_low (p c : Q4) (h : okPl0 p) : sd (lowP p) c = 0 ↔ sd p c = 0 := by
 have hp := gcdL4_pos' p.1 p.2.1 p.2.2.1 p.2.2.2 h.2
 have e1 := Int.mul_ediv_cancel' (gcdL_dvd [p.1, p.2.1, p.2.2.1, p.2.2.2] p.1 (by simp))
 have e2 := Int.mul_ediv_cancel' (gcdL_dvd [p.1, p.2.1, p.2.2.1, p.2.2.2] p.2.1 (by simp))
 have e3 := Int.mul_ediv_cancel' (gcdL_dvd [p.1, p.2.1, p.2.2.1, p.2.2.2] p.2.2.1 (by simp))
 have e4 := Int.mul_ediv_cancel' (gcdL_dvd [p.1, p.2.1, p.2.2.1, p.2.2.2] p.2.2.2 (by simp))
 have hs : slk p (xyz c) c.2.2.2 = (gcdL [p.1, p.2.1, p.2.2.1, p.2.2.2] : Int) * slk (lowP p) (xyz c) c.2.2.2 := by
  unfold slk dotP nrm lowP
  simp only
  generalize gcdL [p.1, p.2.1, p.2.2.1, p.2.2.2] = g at *
  generalize p.1 / (g : Int) = a at *
  generalize p.2.1 / (g : Int) = b at *
  generalize p.2.2.1 / (g : Int) = c' at *
  generalize p.2.2.2 / (g : Int) = d at *
  rw [← e1, ← e2, ← e3, ← e4]
  grind
 rw [sd_slk, sd_slk, sgn_zero_iff, sgn_zero_iff, hs]
 have hg : (gcdL [p.1, p.2.1, p.2.2.1, p.2.2.2] : Int) ≠ 0 := by omega
 constructor
 ·intro h; rw [← h]; simp
 ·intro h
  exact ((Int.mul_eq_zero.1 h.symm).resolve_left hg).symm
theorem refN_eq (ps : List Q4) (hp : ∀ p ∈ ps, okPl0 p) : refN ps = normC ps := by
 have hp' : ∀ p ∈ ps, okPl p := fun p h => (hp p h).1
 obtain ⟨h1, h2⟩ := refStep_spec (refPts ps) ps [] List.Pairwise.nil
 obtain ⟨r1, r2⟩ := refPts_spec ps
 refine sorted_ext h1 (normF_sorted _ _) (fun x => ?_)
 unfold normC
 rw [refN, h2, mem_normF]
 have hc : ∀ p ∈ ps, (3 ≤ cntOn (lowP p) (refPts ps) ↔ onB (cornersOf ps) p = true) := fun p hpp => by
  rw [cntOn_perm r1 (corners_nodup ps hp') (fun x => by rw [r2, corners_iff])]
  unfold onB cntOn
  rw [decide_eq_true_eq]
  have : (fun c => decide (sd (lowP p) c = 0)) = (fun c => decide (sd p c = 0)) := by
   funext c
   exact decide_eq_decide.2 (sd_low p c (hp p hpp))
  rw [this]
 constructor
 ·rintro (h | ⟨p, h3, h4, h5⟩)
  ·cases h
  ·exact ⟨p, h3, (hc p h3).1 h4, h5⟩
 ·rintro ⟨p, h3, h4, h5⟩
  exact Or.inr ⟨p, h3, (hc p h3).2 h4, h5⟩
end
section
open Go.RowKit
def dowPrev (n : List Int) (i : Nat) : Int := if i = 0 then -(n.getD 1 0) else n.getD (4 + 2 * i) 0
def dowOK (t : Int) (n : List Int) (i : Nat) : Bool :=
 decide (dowPrev n i + 2 * n.getD 1 0 < n.getD (6 + 2 * i) 0) && decide (n.getD 1 0 < n.getD (7 + 2 * i) 0 ∧ n.getD (7 + 2 * i) 0 < t - n.getD 1 0)
def dowHead (l : Int) (n : List Int) : Bool := risingB [0, n.getD 1 0, n.getD 2 0, 2 * n.getD 1 0] &&
 decide (0 < n.getD 3 0 ∧ 0 < n.getD 4 0 ∧ 0 ≤ n.getD 5 0 ∧ n.getD 4 0 + n.getD 5 0 < n.getD 0 0 ∧ n.getD 0 0 + n.getD 3 0 + n.getD 5 0 < l)
def dowelsB (l w t : Int) (n : List Int) : Bool :=
 dowHead l n && (List.range ((n.length - 6) / 2)).all (dowOK t n) && decide (dowPrev n ((n.length - 6) / 2) + n.getD 1 0 < w)
theorem dowelsB_no1 {l w t : Int} {n : List Int} (h : dowHead l n = false) : dowelsB l w t n = false := by simp [dowelsB, h]
theorem dowelsB_no2 {l w t : Int} {n : List Int} (i : Nat) (hi : i < (n.length - 6) / 2) (h : dowOK t n i = false) : dowelsB l w t n = false := by
 have : (List.range ((n.length - 6) / 2)).all (dowOK t n) = false := by rw [List.all_eq_false]; exact ⟨i, by simpa using hi, by simpa using h⟩
 simp [dowelsB, this]
theorem dowelsB_end {l w t : Int} {n : List Int} (h1 : dowHead l n = true) (h2 : ∀ i, i < (n.length - 6) / 2 → dowOK t n i = true) : dowelsB l w t n = decide (dowPrev n ((n.length - 6) / 2) + n.getD 1 0 < w) := by
 have : (List.range ((n.length - 6) / 2)).all (dowOK t n) = true := by rw [List.all_eq_true]; intro i hi; exact h2 i (by simpa using hi)
 simp [dowelsB, h1, this]
def scarfB (l t : Int) (n : List Int) : Bool :=
 decide (1 ≤ n.getD 1 0 ∧ n.getD 1 0 ≤ 8) && decide (-8 ≤ n.getD 2 0 ∧ n.getD 2 0 ≤ 8) && decide (n.getD 2 0 ≠ 0) && ((n.getD 2 0 * t).tmod (n.getD 1 0) == 0) &&
 withinB 0 l [n.getD 0 0, n.getD 0 0 + (n.getD 2 0 * t).tdiv (n.getD 1 0)]
def splineB (l w t : Int) (n : List Int) : Bool :=
 decide (l = w ∧ 0 < n.getD 1 0 ∧ 0 < n.getD 2 0 ∧ n.getD 1 0 + n.getD 2 0 ≤ n.getD 0 0 ∧ n.getD 0 0 + n.getD 1 0 + n.getD 2 0 ≤ 2 * l) && risingB [0, n.getD 3 0, n.getD 4 0, t]
def depthB (l : Int) (n : List Int) : Bool := decide (0 < n.getD 0 0 ∧ 0 ≤ n.getD 1 0 ∧ n.getD 0 0 + n.getD 1 0 < l)
def rightB (k l w t : Int) (n : List Int) : Bool :=
 if k = 0 then risingB [0, n.getD 0 0, t]
 else if k = 1 then risingB [0, n.getD 0 0, n.getD 1 0, t]
 else if k = 2 then risingB [0, n.getD 0 0, n.getD 1 0, w] && risingB [0, n.getD 2 0, n.getD 3 0, t]
 else if k = 3 then risingB [0, n.getD 2 0, n.getD 3 0, w] && risingB [0, n.getD 4 0, n.getD 5 0, t] && depthB l n
 else if k = 4 then risingB [0, n.getD 2 0, n.getD 3 0, t] && depthB l n
 else if k = 5 then tailsB l w n
 else if k = 6 then scarfB l t n
 else if k = 7 then risingB ([0] ++ n ++ [w])
 else if k = 8 then dowelsB l w t n
 else if k = 9 then splineB l w t n
 else risingB [0, n.getD 0 0, t] && risingB [0, n.getD 1 0, n.getD 2 0, l] && risingB [0, n.getD 3 0, n.getD 4 0, w]
theorem Ints.at' {W : World} {nv : Value} {n : List Int} (h : Ints W nv n) (h0 : 0 < n.length) : ∃ b off c, nv = .slice (some ⟨b, off, none⟩) n.length c ∧ n.length ≤ c ∧ b < W.heap.size ∧ ∀ i, i < n.length → W.cell? ⟨b, off + i, none⟩ = some (.int .i64 (n.getD i 0)) := by
 obtain ⟨a, m, c, rfl, hm, hc, hx⟩ := h
 subst hm
 obtain ⟨b, off, rfl, hi⟩ := hx h0
 refine ⟨b, off, c, rfl, hc, ?_, fun i h => ?_⟩
 ·exact World.block_lt_of_cell? W _ (hi 0 h0)
 ·rw [hi i h, getDI n i h]
end
section
open Go.RowKit Go.Shelf
attribute [local go_sem] Ext.cell Ext.frozen
theorem bwithin_any (n lo hi : Int) (w : World) : Calls Tryz.prog 11 #[.int .i64 n, .int .i64 lo, .int .i64 hi] w fun e w' => e = .returned (.bool (decide (lo ≤ n ∧ n ≤ hi))) ∧ w = w' := by
 by_cases h1 : lo ≤ n
 ·by_cases h2 : n ≤ hi
  ·go_enter Tryz.func11, Tryz.ntmps11
   go_wp2
   go_ret
   exact ⟨ret_bool (by simp [h1, h2]), rfl⟩
  ·go_enter Tryz.func11, Tryz.ntmps11
   go_wp2
   go_ret
   exact ⟨ret_bool (by simp [h2]), rfl⟩
 ·go_enter Tryz.func11, Tryz.ntmps11
  go_wp2
  go_ret
  exact ⟨ret_bool (by simp; omega), rfl⟩
theorem rIsKind_any (k : Int) (w : World) : Calls Tryz.prog 87 #[.int .i64 k] w fun e w' => e = .returned (.bool (decide (0 ≤ k ∧ k ≤ 10))) ∧ w = w' := by
 have h := fun w => Lib.hid (bwithin_any k 0 10 w)
 go_enter Tryz.func87, Tryz.ntmps87
 go_wp2_with fail
 refine ((h _).out).mono ?_
 rintro e w1 ⟨rfl, rfl⟩
 go_wp2
 go_ret
 exact ⟨ret_bool (by simp), rfl⟩
theorem rrising_any (v : Value) (xs : List Int) (w : World) (hx : Ints w v xs) (hm : xs.length ≤ 1000000000) :
  Calls Tryz.prog 88 #[v] w (Ret w (.bool (risingB xs))) := by
 obtain ⟨a, n, c, rfl, hn, _, hx⟩ := hx
 have Hyes : Hid ((∀ i, i + 1 < xs.length → xs.getD i 0 < xs.getD (i + 1) 0) → risingB xs = true) := Lib.hid (risingB_iff xs).2
 have Hno : Hid (∀ i, i + 1 < xs.length → ¬ xs.getD i 0 < xs.getD (i + 1) 0 → risingB xs = false) := Lib.hid (fun i hi h => by rw [Bool.eq_false_iff]; exact fun h' => h ((risingB_iff xs).1 h' i hi))
 generalize risingB xs = res at *
 go_enter Tryz.func88, Tryz.ntmps88
 go_wp2
 go_loopw [3] (fun i wr => ∃ k : Nat, 1 ≤ k ∧ (k ≤ n ∨ k = 1) ∧ i = .int .i64 k ∧ Below w.heap.size w wr ∧ Hid (∀ i, i + 1 < k → xs.getD i 0 < xs.getD (i + 1) 0)) (fun i _ => n - (intOf i).toNat)
 case atStart => exact ⟨1, by omega, by omega, rfl, Below.refl _ _, Lib.hid (fun i h => by omega)⟩
 case round =>
  obtain ⟨k, hk1, hk2, rfl, hb, Hz⟩ := hrel
  by_cases hlt : k < n
  ·obtain ⟨b, off, rfl, hi⟩ := hx (by omega)
   have c1 := below_cell hb (hi k (by omega))
   have c0 := below_cell hb (hi (k - 1) (by omega))
   have zb := World.block_lt_of_cell? wr _ c1
   simp only at zb
   rw [getDI xs k (by omega)] at c1
   rw [getDI xs (k - 1) (by omega)] at c0
   have Hnk := Lib.hid (Hno.out (k - 1) (by omega))
   rw [show k - 1 + 1 = k by omega] at Hnk
   obtain ⟨x, Hx⟩ : ∃ x, Hid (xs.getD k 0 = x) := ⟨_, Lib.hid rfl⟩
   obtain ⟨y, Hy⟩ : ∃ y, Hid (xs.getD (k - 1) 0 = y) := ⟨_, Lib.hid rfl⟩
   rw [Hx.out] at c1 Hnk
   rw [Hy.out] at c0 Hnk
   clear hx hi
   by_cases hxy : y < x
   ·have hxd : ¬ x ≤ y := by omega
    go_wp2
    refine wqb ?_
    repeat (first | go_big_quiet_step (fail) | quiet_step (fail))
    refine wqn fun u => ?_
    go_wp2
    go_roundw
    case rel => exact ⟨k + 1, by omega, by omega, by go_num, below_trans hb u.below, Lib.hid (fun i hi => by
     by_cases e : i = k - 1
     ·subst e; rw [show k - 1 + 1 = k by omega, Hx.out, Hy.out]; exact hxy
     ·exact Hz.out i (by omega))⟩
    case measure => simp [intOf]; omega
   ·have hxd : x ≤ y := by omega
    go_wp2
    refine wqb ?_
    repeat (first | go_big_quiet_step (fail) | quiet_step (fail))
    refine wqn fun u => ?_
    go_wp2
    go_ret
    exact ⟨ret_bool (Hnk.out hxy).symm, below_trans hb u.below⟩
  ·have Hy := Lib.hid (Hyes.out (fun i hi => Hz.out i (by omega)))
   clear hx
   go_wp2
   go_ret
   exact ⟨ret_bool Hy.out.symm, hb⟩
set_option maxRecDepth 100000 in
theorem rfits_0 (n : Int) (w : World) : Calls Tryz.prog 34 #[.int .i64 0, .int .i64 n] w (Ret w (.bool (n == 1))) := by
 go_enter Tryz.func34, Tryz.ntmps34
 go_wp2
 go_ret
 exact ⟨rfl, bel⟩
set_option maxRecDepth 100000 in
theorem rfits_1 (n : Int) (w : World) : Calls Tryz.prog 34 #[.int .i64 1, .int .i64 n] w (Ret w (.bool (n == 2))) := by
 go_enter Tryz.func34, Tryz.ntmps34
 go_wp2
 go_ret
 exact ⟨rfl, bel⟩
set_option maxRecDepth 100000 in
theorem rfits_2 (n : Int) (w : World) : Calls Tryz.prog 34 #[.int .i64 2, .int .i64 n] w (Ret w (.bool (n == 4))) := by
 go_enter Tryz.func34, Tryz.ntmps34
 go_wp2
 go_ret
 exact ⟨rfl, bel⟩
set_option maxRecDepth 100000 in
theorem rfits_3 (n : Int) (w : World) : Calls Tryz.prog 34 #[.int .i64 3, .int .i64 n] w (Ret w (.bool (n == 6))) := by
 go_enter Tryz.func34, Tryz.ntmps34
 go_wp2
 go_ret
 exact ⟨rfl, bel⟩
set_option maxRecDepth 100000 in
theorem rfits_4 (n : Int) (w : World) : Calls Tryz.prog 34 #[.int .i64 4, .int .i64 n] w (Ret w (.bool (n == 4))) := by
 go_enter Tryz.func34, Tryz.ntmps34
 go_wp2
 go_ret
 exact ⟨rfl, bel⟩
set_option maxRecDepth 100000 in
theorem rfits_6 (n : Int) (w : World) : Calls Tryz.prog 34 #[.int .i64 6, .int .i64 n] w (Ret w (.bool (n == 3))) := by
 go_enter Tryz.func34, Tryz.ntmps34
 go_wp2
 go_ret
 exact ⟨rfl, bel⟩
set_option maxRecDepth 100000 in
theorem rfits_9 (n : Int) (w : World) : Calls Tryz.prog 34 #[.int .i64 9, .int .i64 n] w (Ret w (.bool (n == 5))) := by
 go_enter Tryz.func34, Tryz.ntmps34
 go_wp2
 go_ret
 exact ⟨rfl, bel⟩
set_option maxRecDepth 100000 in
theorem rfits_10 (n : Int) (w : World) : Calls Tryz.prog 34 #[.int .i64 10, .int .i64 n] w (Ret w (.bool (n == 5))) := by
 go_enter Tryz.func34, Tryz.ntmps34
 go_wp2
 go_ret
 exact ⟨rfl, bel⟩
set_option maxRecDepth 100000 in
theorem rfits_5 (n : Int) (w : World) : Calls Tryz.prog 34 #[.int .i64 5, .int .i64 n] w (Ret w (.bool (decide (3 ≤ n)))) := by
 go_enter Tryz.func34, Tryz.ntmps34
 go_wp2
 go_ret
 exact ⟨rfl, bel⟩
set_option maxRecDepth 100000 in
theorem rfits_7 (n : Int) (w : World) : Calls Tryz.prog 34 #[.int .i64 7, .int .i64 n] w (Ret w (.bool (decide (1 ≤ n)))) := by
 go_enter Tryz.func34, Tryz.ntmps34
 go_wp2
 go_ret
 exact ⟨rfl, bel⟩
set_option maxRecDepth 100000 in
theorem rfits_8 (n : Int) (w : World) : Calls Tryz.prog 34 #[.int .i64 8, .int .i64 n] w (Ret w (.bool (decide (8 ≤ n) && n.tmod 2 == 0))) := by
 by_cases h : 8 ≤ n
 ·go_enter Tryz.func34, Tryz.ntmps34
  go_wp2
  go_ret
  exact ⟨ret_bool (by rw [Int.tmod_eq_emod_of_nonneg (by omega)]; simp [h]), bel⟩
 ·go_enter Tryz.func34, Tryz.ntmps34
  go_wp2
  go_ret
  exact ⟨ret_bool (by simp; omega), bel⟩
theorem rfits_any (kind n : Int) (w : World) (hk : 0 ≤ kind ∧ kind ≤ 10) : Calls Tryz.prog 34 #[.int .i64 kind, .int .i64 n] w (Ret w (.bool (cntB kind n))) := by
 rcases (by omega : kind = 0 ∨ kind = 1 ∨ kind = 2 ∨ kind = 3 ∨ kind = 4 ∨ kind = 5 ∨ kind = 6 ∨ kind = 7 ∨ kind = 8 ∨ kind = 9 ∨ kind = 10) with rfl | rfl | rfl | rfl | rfl | rfl | rfl | rfl | rfl | rfl | rfl
 ·exact rfits_0 n w
 ·exact rfits_1 n w
 ·exact rfits_2 n w
 ·exact rfits_3 n w
 ·exact rfits_4 n w
 ·exact rfits_5 n w
 ·exact rfits_6 n w
 ·exact rfits_7 n w
 ·exact rfits_8 n w
 ·exact rfits_9 n w
 ·exact rfits_10 n w
theorem Mod_any (n m : Int) (w : World) (hm : 1 ≤ m ∧ m ≤ 1000000000000000) : Calls Tryz.prog 90 #[.int .i64 n, .int .i64 m] w fun e w' => e = .returned (.int .i64 (n % m)) ∧ w = w' := by
 have h0 : (m == 0) = false := by simp; omega
 have hq : n.tmod m = if 0 ≤ n % m ∧ (0 ≤ n ∨ n % m = 0) then n % m else n % m - m := by
  rw [Int.tmod_eq_emod]
  have := Int.emod_nonneg n (show m ≠ 0 by omega)
  by_cases hn : 0 ≤ n
  ·simp [hn, this]
  ·by_cases h1 : m ∣ n
   ·have : n % m = 0 := Int.emod_eq_zero_of_dvd h1
    simp [h1, this]
   ·have h2 : n % m ≠ 0 := fun h => h1 (Int.dvd_of_emod_eq_zero h)
    simp [hn, h1, h2]
    omega
 have e1 := Int.emod_nonneg n (show m ≠ 0 by omega)
 have e2 := Int.emod_lt_of_pos n (show 0 < m by omega)
 have Hq := Lib.hid hq
 generalize n % m = r at *
 generalize hT : n.tmod m = T at *
 have HT := Lib.hid hT
 clear hT hq
 by_cases hneg : T < 0
 ·have hr : Hid (r = T + m) := Lib.hid (by have := Hq.out; split at this <;> omega)
  have e3 : T + m ≤ 1000000000000000 := by have := hr.out; omega
  have e4 : -1000000000000000 ≤ T := by have := hr.out; omega
  have hT := HT.out
  go_enter Tryz.func90, Tryz.ntmps90
  go_wp2
  go_ret
  exact ⟨ret_int hr.out.symm, rfl⟩
 ·have hr : Hid (r = T) := Lib.hid (by have := Hq.out; split at this <;> omega)
  have hT := HT.out
  go_enter Tryz.func90, Tryz.ntmps90
  go_wp2
  go_ret
  exact ⟨ret_int hr.out.symm, rfl⟩
set_option maxRecDepth 100000 in
theorem rCheckSize_any (k l w t : Int) (W : World) :
  Calls Tryz.prog 33 #[.int .i64 k, .agg #[.int .i64 l, .int .i64 w, .int .i64 t]] W (Ret W (.int .i64 (boxE k l w t))) := by
 have hi := fun W' => Lib.hid (rIsKind_any k W')
 by_cases hk : 0 ≤ k ∧ k ≤ 10
 ·rw [show decide (0 ≤ k ∧ k ≤ 10) = true from decide_eq_true hk] at hi
  have hw := fun x W' => Lib.hid (bwithin_any x 1 100000 W')
  have Hbad : Hid (¬ ((1 ≤ l ∧ l ≤ 100000) ∧ (1 ≤ w ∧ w ≤ 100000) ∧ (1 ≤ t ∧ t ≤ 100000)) → boxE k l w t = 2) := Lib.hid (fun h => by
   unfold boxE
   rw [if_neg]
   rintro ⟨_, h2⟩
   rw [withinB_iff] at h2
   exact h ⟨h2 l (by simp), h2 w (by simp), h2 t (by simp)⟩)
  have Hgood : Hid (((1 ≤ l ∧ l ≤ 100000) ∧ (1 ≤ w ∧ w ≤ 100000) ∧ (1 ≤ t ∧ t ≤ 100000)) → boxE k l w t = 0) := Lib.hid (fun h => by
   unfold boxE
   rw [if_pos]
   refine ⟨hk, ?_⟩
   rw [withinB_iff]
   intro x hx
   simp at hx
   rcases hx with rfl | rfl | rfl
   ·exact h.1
   ·exact h.2.1
   ·exact h.2.2)
  generalize boxE k l w t = res at *
  go_enter Tryz.func33, Tryz.ntmps33
  go_wp2_with fail
  refine ((hi _).out).mono ?_
  rintro e w1 ⟨rfl, rfl⟩
  obtain ⟨V, HV⟩ : ∃ V, Hid (W.alloc (.cells #[.int .i64 l, .int .i64 w, .int .i64 t] 22) = V) := ⟨_, Lib.hid rfl⟩
  have hV : Below W.heap.size W V := by rw [← HV.out]; exact bel
  have d0 : V.cell? ⟨W.heap.size, 0, none⟩ = some (.int .i64 l) := by rw [← HV.out]; exact (cell_new rfl 0).trans rfl
  have d1 : V.cell? ⟨W.heap.size, 1, none⟩ = some (.int .i64 w) := by rw [← HV.out]; exact (cell_new rfl 1).trans rfl
  have d2 : V.cell? ⟨W.heap.size, 2, none⟩ = some (.int .i64 t) := by rw [← HV.out]; exact (cell_new rfl 2).trans rfl
  have zV := World.block_lt_of_cell? V _ d0
  simp only at zV
  rw [HV.out]
  clear HV
  go_wp2
  go_loopw [5] (fun i wr => V = wr ∧ ∃ k : Nat, k ≤ 3 ∧ i = .int .i64 k ∧ Hid ((1 ≤ k → 1 ≤ l ∧ l ≤ 100000) ∧ (2 ≤ k → 1 ≤ w ∧ w ≤ 100000) ∧ (3 ≤ k → 1 ≤ t ∧ t ≤ 100000))) (fun i _ => 3 - (intOf i).toNat)
  case atStart => exact ⟨rfl, 0, by omega, rfl, Lib.hid (by omega)⟩
  case round =>
   obtain ⟨rfl, j, hj, rfl, HJ⟩ := hrel
   rcases (by omega : j = 0 ∨ j = 1 ∨ j = 2 ∨ j = 3) with rfl | rfl | rfl | rfl
   ·by_cases hx : 1 ≤ l ∧ l ≤ 100000
    ·have hw' := hw l
     rw [show decide (1 ≤ l ∧ l ≤ 100000) = true from decide_eq_true hx] at hw'
     have HX := Lib.hid hx
     clear hx hw
     go_wp2_with fail
     refine ((hw' _).out).mono ?_
     rintro e w1 ⟨rfl, rfl⟩
     go_wp2
     go_roundw
     case rel => exact ⟨by first | rfl | trivial, 0 + 1, by omega, by first | rfl | go_num, Lib.hid (by have := HJ.out; have := HX.out; omega)⟩
     case measure => first | decide | (simp [intOf]; done)
    ·have hw' := hw l
     rw [show decide (1 ≤ l ∧ l ≤ 100000) = false from decide_eq_false hx] at hw'
     have HB := Lib.hid (Hbad.out (fun h => by omega))
     clear hx hw
     go_wp2_with fail
     refine ((hw' _).out).mono ?_
     rintro e w1 ⟨rfl, rfl⟩
     go_wp2
     go_ret
     exact ⟨ret_int HB.out.symm, hV⟩
   ·by_cases hx : 1 ≤ w ∧ w ≤ 100000
    ·have hw' := hw w
     rw [show decide (1 ≤ w ∧ w ≤ 100000) = true from decide_eq_true hx] at hw'
     have HX := Lib.hid hx
     clear hx hw
     go_wp2_with fail
     refine ((hw' _).out).mono ?_
     rintro e w1 ⟨rfl, rfl⟩
     go_wp2
     go_roundw
     case rel => exact ⟨by first | rfl | trivial, 1 + 1, by omega, by first | rfl | go_num, Lib.hid (by have := HJ.out; have := HX.out; omega)⟩
     case measure => first | decide | (simp [intOf]; done)
    ·have hw' := hw w
     rw [show decide (1 ≤ w ∧ w ≤ 100000) = false from decide_eq_false hx] at hw'
     have HB := Lib.hid (Hbad.out (fun h => by omega))
     clear hx hw
     go_wp2_with fail
     refine ((hw' _).out).mono ?_
     rintro e w1 ⟨rfl, rfl⟩
     go_wp2
     go_ret
     exact ⟨ret_int HB.out.symm, hV⟩
   ·by_cases hx : 1 ≤ t ∧ t ≤ 100000
    ·have hw' := hw t
     rw [show decide (1 ≤ t ∧ t ≤ 100000) = true from decide_eq_true hx] at hw'
     have HX := Lib.hid hx
     clear hx hw
     go_wp2_with fail
     refine ((hw' _).out).mono ?_
     rintro e w1 ⟨rfl, rfl⟩
     go_wp2
     go_roundw
     case rel => exact ⟨by first | rfl | trivial, 2 + 1, by omega, by first | rfl | go_num, Lib.hid (by have := HJ.out; have := HX.out; omega)⟩
     case measure => first | decide | (simp [intOf]; done)
    ·have hw' := hw t
     rw [show decide (1 ≤ t ∧ t ≤ 100000) = false from decide_eq_false hx] at hw'
     have HB := Lib.hid (Hbad.out (fun h => by omega))
     clear hx hw
     go_wp2_with fail
     refine ((hw' _).out).mono ?_
     rintro e w1 ⟨rfl, rfl⟩
     go_wp2
     go_ret
     exact ⟨ret_int HB.out.symm, hV⟩
   ·have Hg := Lib.hid (Hgood.out ⟨HJ.out.1 (by omega), HJ.out.2.1 (by omega), HJ.out.2.2 (by omega)⟩)
    go_wp2
    go_ret
    exact ⟨ret_int Hg.out.symm, hV⟩
 ·rw [show decide (0 ≤ k ∧ k ≤ 10) = false from decide_eq_false hk] at hi
  have He := Lib.hid (show boxE k l w t = 2 by unfold boxE; rw [if_neg (fun h => hk h.1)])
  go_enter Tryz.func33, Tryz.ntmps33
  go_wp2_with fail
  refine ((hi _).out).mono ?_
  rintro e w1 ⟨rfl, rfl⟩
  go_wp2
  go_ret
  exact ⟨ret_int He.out.symm, bel⟩
end
section
open Go.RowKit
def Gd (c : Bool) (P : Value → World → Prop) : Value → World → Prop :=
 match c with
 | true => P
 | false => fun v _ => v = undef
theorem stab_gd {c : Bool} {P : Value → World → Prop} (h : Stab P) : Stab (Gd c P) := by
 cases c
 ·exact fun _ _ _ _ h => h
 ·exact h
def IsL (xs : List Int) : Value → World → Prop := fun v w => Ints w v xs
theorem stab_l (xs : List Int) : Stab (IsL xs) := fun _ _ _ hb h => Ints.below h hb
end
section
open Go.RowKit
section
variable {P : Program} {ops : Array Oper} {md : Region.Mode} {Q : Exit → Act → World → Prop}
def growWB (md : Region.Mode) (ops : Array Oper) (wi ci : List Nat) (t0 : Nat) (ts : List Nat) : Bool :=
 Region.noSelect ops && distB ops && decide ci.Nodup && decide (ci.Pairwise (· < ·)) && ((t0 :: ts).all fun t => decide (t < ops.size)) && decide (ci.length + (ts.length + 1) = ops.size) && sinkL md ops t0 (ci.filter fun i => !wi.contains i) && (wi.all fun i => ci.contains i) && decide wi.Nodup && freeB md ops (fun _ => true) wi (Array.replicate ops.size false) && chainL md ops (t0 :: ts) &&
 (ci.all fun i => !(t0 :: ts).contains i) && ((List.range ops.size).all fun j => ci.contains j || (t0 :: ts).contains j) &&
 (ci.all fun i => match ops[i]? with
  | some o => (o.after.all fun e => !Region.binds md e || (decide (e.on < i) && ci.contains e.on)) &&
    ((List.range ops.size).all fun j => (t0 :: ts).contains j || Region.waitsFor md ops i j || !((dstOf ops j).any fun d => (o.looksAt ops).contains d))
  | none => false) &&
 forcedB md ops (t0 :: ts) (upto ops ci ops.size)
def wpWR (P : Program) (ops : Array Oper) (R : Nat → Value → World → Prop) : List Nat → Act → Prop
 | [], _ => True
 | i :: l, a => ∃ o v, ops[i]? = some o ∧ Yields P ops o v a ∧ (∀ w, R i v w) ∧ wpWR P ops R l (a.put o.dst v)
theorem wpWR_step {R : Nat → Value → World → Prop} {i : Nat} {o : Oper} {l : List Nat} {a : Act} (ho : ops[i]? = some o)
  (h : ∀ K' : Value → Act → Prop, (∀ v a, (∀ w, R i v w) → wpWR P ops R l a → K' v a) → Region.wanted o (yielded ops a.tmps) = true ∧ ∃ v, (∀ w, (execOp a.eval o).run P w = .ok (.value v) w) ∧ K' v (a.put o.dst v)) : wpWR P ops R (i :: l) a := by
 obtain ⟨hw, v, hv, hk⟩ := h (fun v a => (∀ w, R i v w) ∧ wpWR P ops R l a) (fun v a h1 h2 => ⟨h1, h2⟩)
 exact ⟨o, v, ho, .inl ⟨hw, hv⟩, hk.1, hk.2⟩
theorem any_of_growW {wi ci : List Nat} {t0 : Nat} {ts : List Nat} (hB : growWB md ops wi ci t0 ts = true) {R : Nat → Value → World → Prop} {a0 : Act} {w0 : World}
  (hst : ∀ i v w w', Below w.heap.size w w' → R i v w → R i v w')
  (hob : ∀ i ∈ ci, ∀ vals, gOp P md ops R w0 Q i vals (frm ops a0 vals (upto ops ci i)))
  (hfin : ∀ vals w', Below w0.heap.size w0 w' → (∀ i ∈ ci, R i (vals i) w') → wpList P ops (NoPanic Q) (opsAt ops (t0 :: ts)) (frm ops a0 vals (upto ops ci ops.size)) w') :
  ∀ (f : Nat) (listed : Array Bool) (vals : Nat → Value) (w : World), Inv md ops (t0 :: ts) listed → (∀ i ∈ wi, listed.getD i false = true) → (ci.filter fun i => !listed.getD i false).length = f → Below w0.heap.size w0 w →
   (∀ j, listed.getD j false = true → R j (vals j) w) → wpAny P md ops (NoPanic Q) (f + (ts.length + 1)) listed (frm ops a0 vals listed) w := by
 simp only [growWB, Bool.and_eq_true, decide_eq_true_eq] at hB
 obtain ⟨⟨⟨⟨⟨⟨⟨⟨⟨⟨⟨⟨⟨⟨hsel, hd⟩, hnd⟩, _⟩, htl⟩, hsz⟩, hs⟩, _⟩, _⟩, _⟩, hc⟩, hdis⟩, hcov⟩, hop⟩, hfo⟩ := hB
 have hit : ∀ i ∈ ci, i ∉ t0 :: ts := fun i hi => by have := List.all_eq_true.1 hdis i hi; simpa using this
 have hcv : ∀ j, j < ops.size → j ∈ ci ∨ j ∈ t0 :: ts := fun j hj => by have := List.all_eq_true.1 hcov j (List.mem_range.2 hj); simpa using this
 have hops : ∀ i ∈ ci, ∃ o, ops[i]? = some o ∧ (∀ e ∈ o.after, Region.binds md e = true → e.on < i ∧ e.on ∈ ci) ∧ (∀ j, j < ops.size → j ∈ t0 :: ts ∨ Region.waitsFor md ops i j = true ∨ ∀ d, dstOf ops j = some d → d ∉ o.looksAt ops) := fun i hi => by
  have h := List.all_eq_true.1 hop i hi
  cases ho : ops[i]? with
  | none => rw [ho] at h; cases h
  | some o =>
   rw [ho] at h
   simp only [Bool.and_eq_true] at h
   obtain ⟨he, hl⟩ := h
   refine ⟨o, rfl, fun e hem hb => ?_, fun j hj => ?_⟩
   ·have := Array.all_eq_true'.1 he e hem
    simpa [hb] using this
   ·have := List.all_eq_true.1 hl j (List.mem_range.2 hj)
    simp only [Bool.or_eq_true] at this
    rcases this with (h | h) | h
    ·exact .inl (by simpa using h)
    ·exact .inr (.inl h)
    ·refine .inr (.inr fun d hd hm => ?_)
     rw [hd] at h
     simp [hm] at h
 intro f
 induction f with
 | zero =>
  intro listed vals w inv hwi hcnt hb hR
  have hall : ∀ i ∈ ci, listed.getD i false = true := fun i hi => by
   have := List.filter_eq_nil_iff.1 (List.length_eq_zero_iff.1 hcnt) i hi
   simpa using this
  have hL : listed = upto ops ci ops.size := by
   have hsz2 : (upto ops ci ops.size).size = ops.size := by simp [upto]
   apply Array.ext (by rw [inv.size, hsz2])
   intro j h1 h2
   have e1 : listed[j] = listed.getD j false := by simp [Array.getD, h1]
   have e2 : (upto ops ci ops.size)[j] = (upto ops ci ops.size).getD j false := by simp [Array.getD, h2]
   have hj : j < ops.size := by rw [← inv.size]; exact h1
   rw [e1, e2, upto_get]
   rcases hcv j hj with h | h
   ·rw [hall j h]; simp [hj, h]
   ·rw [getD_both (inv.tail j h hj)]
    have : j ∉ ci := fun hh => hit j hh h
    simp [this]
  rw [Nat.zero_add]
  subst hL
  exact any_of_forced (t0 :: ts) _ _ w hfo (hfin vals w hb fun i hi => hR i (hall i hi))
 | succ f ih =>
  intro listed vals w inv hwi hcnt hb hR
  have hlt : ∀ i ∈ ci, i < listed.size := fun i hi => by
   obtain ⟨o, ho, _⟩ := hops i hi
   rw [inv.size]; exact (Array.getElem?_eq_some_iff.1 ho).1
  have hun : ∃ i ∈ ci, listed.getD i true = false := by
   cases hfl : (ci.filter fun i => !listed.getD i false) with
   | nil => rw [hfl] at hcnt; cases hcnt
   | cons i l =>
    have hi : i ∈ ci.filter fun i => !listed.getD i false := by rw [hfl]; simp
    obtain ⟨h1, h2⟩ := List.mem_filter.1 hi
    exact ⟨i, h1, getD_in (hlt i h1) (by simpa using h2)⟩
  have hex : ∀ n i, i ≤ n → i ∈ ci → listed.getD i true = false → ∃ k, k ∈ Region.ready md ops listed := by
   intro n
   induction n with
   | zero =>
    intro i hin hi hu
    obtain ⟨o, ho, he, _⟩ := hops i hi
    exact ⟨i, mem_ready.2 ⟨hu, o, ho, fun e hem hb => by have := (he e hem hb).1; omega⟩⟩
   | succ n ihn =>
    intro i hin hi hu
    obtain ⟨o, ho, he, _⟩ := hops i hi
    by_cases hall : ∀ e ∈ o.after, Region.binds md e = true → listed.getD e.on false = true
    ·exact ⟨i, mem_ready.2 ⟨hu, o, ho, hall⟩⟩
    ·simp only [Classical.not_forall] at hall
     obtain ⟨e, hem, hb, hn⟩ := hall
     obtain ⟨h1, h2⟩ := he e hem hb
     exact ihn e.on (by omega) h2 (getD_in (hlt _ h2) (by simpa using hn))
  obtain ⟨i1, hi1, hu1⟩ := hun
  obtain ⟨k, hk⟩ := hex i1 i1 (Nat.le_refl _) hi1 hu1
  rw [show f + 1 + (ts.length + 1) = (f + (ts.length + 1)) + 1 by omega]
  refine ⟨fun h0 => (by rw [h0] at hk; cases hk), fun i hi => ?_⟩
  have htt : ∀ t ∈ t0 :: ts, listed.getD t true = false := fun t ht => inv.tail t ht (by have := List.all_eq_true.1 htl t ht; simpa using this)
  have hnt : i ∉ t0 :: ts := fun h => by
   rcases List.mem_cons.1 h with rfl | h
   ·exact first_waits inv _ hs ⟨i1, List.mem_filter.2 ⟨hi1, by
     have hnw : i1 ∉ wi := fun hh => by have := hwi i1 hh; rw [getD_both hu1] at this; cases this
     simpa using hnw⟩, hu1⟩ hi
   ·exact chain_waits htt t0 ts (fun _ h => h) hc i h hi
  obtain ⟨hu, o, ho, hall⟩ := mem_ready.1 hi
  have hic : i ∈ ci := by
   rcases hcv i (Array.getElem?_eq_some_iff.1 ho).1 with h | h
   ·exact h
   ·exact absurd h hnt
  obtain ⟨o', ho', he, hlk⟩ := hops i hic
  obtain rfl : o = o' := Option.some.inj (ho.symm.trans ho')
  have hdep : ∀ j, Region.waitsFor md ops i j = true → listed.getD j false = true ∧ j < i ∧ j ∈ ci := fun j hj => by
   obtain ⟨oj, hoj, e, hem, hb', hon⟩ := Region.waitsFor_spec hj
   obtain rfl : o = oj := Option.some.inj (ho.symm.trans hoj)
   subst hon
   exact ⟨hall e hem hb', he e hem hb'⟩
  obtain ⟨o2, d, ho2, hdst, hds, hwp⟩ := hob i hic vals w hb (fun j hj => hR j (hdep j hj).1)
  obtain rfl : o = o2 := Option.some.inj (ho.symm.trans ho2)
  have hag : ∀ d ∈ o.looksAt ops, ∀ j, dstOf ops j = some d → listed.getD j false = (upto ops ci i).getD j false := (fun d hd j hj => by
   have hjs : j < ops.size := by
    rcases Nat.lt_or_ge j ops.size with h | h
    ·exact h
    ·unfold dstOf at hj; rw [Array.getElem?_eq_none h] at hj; cases hj
   rw [upto_get]
   rcases hlk j hjs with h | h | h
   ·rw [getD_both (htt j h)]
    have : j ∉ ci := fun hh => hit j hh h
    simp [this]
   ·obtain ⟨h1, h2, h3⟩ := hdep j h
    rw [h1]; simp [hjs, h2, h3]
   ·exact absurd hd (h d hj))
  have hex2 : execOp (frm ops a0 vals listed).eval o = execOp (frm ops a0 vals (upto ops ci i)).eval o := exec_frm o (fun cs b => Region.noSelect_spec hsel i o cs b ho) hag
  have hwn := wanted_frm (a0 := a0) (vals := vals) o hag
  have hdo : dstOf ops i = o.dst := by simp [dstOf, ho]
  have key : ∀ v w'', Below w.heap.size w w'' → R i v w'' → wpAny P md ops (NoPanic Q) (f + (ts.length + 1)) (listed.setIfInBounds i true) ((frm ops a0 vals listed).put o.dst v) w'' := fun v w'' hbw hRv => by
   rw [← hdo, frm_put hd (hlt i hic)]
   refine ih _ _ w'' (inv.set hi hnt) (fun k hk => by
    by_cases hki : i = k
    ·subst hki
     have := hwi i hk
     rw [getD_both hu] at this; cases this
    ·rw [getD_set_ne false hki]; exact hwi k hk) ?_ (below_trans hb hbw) (fun j hj => ?_)
   ·have := count_set hnd hic hu
    omega
   ·by_cases hji : j = i
    ·subst hji; simpa [upd] using hRv
    ·rw [getD_set_ne false (fun h => hji h.symm)] at hj
     simp only [upd, if_neg hji]
     exact hst j _ _ _ hbw (hR j hj)
  unfold wpOp
  simp only [ho]
  rw [hwn]
  split
  ·rename_i hw
   rw [if_pos hw] at hwp
   refine .inl (Oper.wp_mono ?_ (wp_move hex2 hdst hds hwp))
   rintro x w'' ⟨v, rfl, hbw, hRv⟩
   exact key v w'' hbw hRv
  ·rename_i hw
   rw [if_neg hw] at hwp
   exact key undef w (Below.refl _ _) hwp
theorem any_of_WR {wi : List Nat} {t0 : Nat} {ts : List Nat} (hsel : Region.noSelect ops = true) (hd : distB ops = true) (hQ : ∀ c a w, ¬ Q (.panic c) a w) {R : Nat → Value → World → Prop} {a0 : Act} {w : World} {g : Nat}
  (hit : ∀ i ∈ wi, i ∉ t0 :: ts)
  (hK : ∀ listed vals, Inv md ops (t0 :: ts) listed → (∀ i, listed.getD i false = true ↔ i ∈ wi) → (∀ j, listed.getD j false = true → R j (vals j) w) → wpAny P md ops Q g listed (frm ops a0 vals listed) w) :
  ∀ (l pre : List Nat) (listed : Array Bool) (vals : Nat → Value), wi = pre ++ l → (∀ i, listed.getD i false = true ↔ i ∈ pre) → Inv md ops (t0 :: ts) listed → (∀ j, listed.getD j false = true → R j (vals j) w) →
   freeB md ops (fun _ => true) l listed = true → wpWR P ops R l (frm ops a0 vals listed) → wpAny P md ops Q (l.length + g) listed (frm ops a0 vals listed) w
 | [], pre, listed, vals, he, hl, inv, hR, _, _ => by
  rw [List.append_nil] at he
  subst he
  simpa using hK listed vals inv hl hR
 | i :: l, pre, listed, vals, he, hl, inv, hR, hB, h => by
  simp only [freeB, Bool.and_eq_true] at hB
  obtain ⟨⟨hr, hf⟩, hB'⟩ := hB
  have hr' : i ∈ Region.ready md ops listed := by simpa using hr
  obtain ⟨hu, oi, hoi, _⟩ := mem_ready.1 hr'
  obtain ⟨o, v, ho, hy, hRv, h'⟩ := h
  obtain rfl : oi = o := Option.some.inj (hoi.symm.trans ho)
  have hdo : dstOf ops i = oi.dst := by simp [dstOf, ho]
  have hlt : i < listed.size := by rw [inv.size]; exact (Array.getElem?_eq_some_iff.1 ho).1
  have hitt : i ∉ t0 :: ts := hit i (by rw [he]; simp)
  have hset : (listed.setIfInBounds i true).getD i false = true := by simp [Array.getD, hlt]
  rw [show (i :: l).length + g = (l.length + g) + 1 by simp; omega]
  refine wpAny_first hoi (Region.noSelect_spec hsel) (fun c a w h => absurd h (hQ c _ w)) _ listed _ w (Region.free_spec hoi hf) hr' hy ?_
  rw [← hdo, frm_put hd hlt] at h' ⊢
  refine any_of_WR hsel hd hQ hit hK l (pre ++ [i]) _ _ (by rw [he]; simp) (fun k => ?_) (inv.set hr' hitt) (fun j hj => ?_) hB' h'
  ·by_cases hki : k = i
   ·subst hki; rw [hset]; simp
   ·rw [getD_set_ne false (fun h => hki h.symm), hl k]; simp [hki]
  ·by_cases hji : j = i
   ·subst hji; simpa [upd] using hRv w
   ·rw [getD_set_ne false (fun h => hji h.symm)] at hj
    simp only [upd, if_neg hji]
    exact hR j hj
theorem count_wi {wi ci : List Nat} (hn : ci.Nodup) (hw : wi.Nodup) (hs : ∀ i ∈ wi, i ∈ ci) {listed : Array Bool} (hl : ∀ i, listed.getD i false = true ↔ i ∈ wi) : (ci.filter fun i => !listed.getD i false).length + wi.length = ci.length := by
 have h1 : (ci.filter fun i => listed.getD i false).length = wi.length := by
  refine List.Perm.length_eq ((List.perm_ext_iff_of_nodup (hn.filter _) hw).2 fun x => ?_)
  rw [List.mem_filter, hl x]
  exact ⟨fun h => h.2, fun h => ⟨hs x h, h⟩⟩
 have h2 : ∀ l : List Nat, (l.filter fun i => !listed.getD i false).length + (l.filter fun i => listed.getD i false).length = l.length := by
  intro l
  induction l with
  | nil => rfl
  | cons x l ih =>
   rw [List.filter_cons, List.filter_cons]
   generalize (listed.getD x false) = b
   cases b <;> simp only [Bool.not_false, Bool.not_true, if_true, Bool.false_eq_true, if_false, List.length_cons] <;> omega
 have := h2 ci
 omega
theorem wp_region_growW {id : Nat} {a : Act} {w : World} {l : List Oper} (wi ci : List Nat) (t0 : Nat) (ts : List Nat) (R : Nat → Value → World → Prop) (hm : P.follows .mixedOrders = true) (hB : growWB .any l.toArray wi ci t0 ts = true)
  (hst : ∀ i v w w', Below w.heap.size w w' → R i v w → R i v w')
  (hwr : wpWR P l.toArray R wi a)
  (h : wpG P .any l.toArray R w Q (fun vals a' => ∀ w', Below w.heap.size w w' → (∀ i ∈ ci, R i (vals i) w') → wpList P l.toArray (NoPanic Q) (opsAt l.toArray (t0 :: ts)) a' w') ci (fun _ => undef) a) :
  (Code.region id l.toArray true).wp P Q a w := by
 refine wp_region_noPanic (wp_region_any hm ?_)
 have hB' := hB
 simp only [growWB, Bool.and_eq_true, decide_eq_true_eq] at hB
 obtain ⟨⟨⟨⟨⟨⟨⟨⟨⟨⟨⟨⟨⟨⟨hsel, hd⟩, hnd⟩, hpw⟩, htl⟩, hsz⟩, hs⟩, hwc⟩, hwn⟩, hfr⟩, hc⟩, hdis⟩, hcov⟩, hop⟩, hfo⟩ := hB
 have hlt : ∀ i ∈ ci, i < l.toArray.size := fun i hi => by
  have h := List.all_eq_true.1 hop i hi
  rcases Nat.lt_or_ge i l.toArray.size with h' | h'
  ·exact h'
  ·rw [Array.getElem?_eq_none h'] at h; cases h
 have hdep : ∀ i ∈ ci, ∀ j, Region.waitsFor .any l.toArray i j = true → j < i ∧ j ∈ ci := fun i hi j hj => by
  have h := List.all_eq_true.1 hop i hi
  obtain ⟨o, ho, e, hem, hb, rfl⟩ := Region.waitsFor_spec hj
  rw [ho] at h
  simp only [Bool.and_eq_true] at h
  have := Array.all_eq_true'.1 h.1 e hem
  simpa [hb] using this
 have hnil : ∀ j, (upto l.toArray [] l.toArray.size).getD j false = false := fun j => by rw [upto_get]; simp
 have hobs := obs_of_wpG (P := P) (md := .any) (Q := Q) (R := R) (a0 := a) (w0 := w) hd hpw hlt hdep ci [] (fun _ => undef) rfl (by rw [frm_nil hnil]; exact h)
 have hrep : ∀ j, (Array.replicate l.toArray.size false).getD j false = false := fun j => getD_replicate_false _ _
 have hwc' : ∀ i ∈ wi, i ∈ ci := fun i hi => by have := List.all_eq_true.1 hwc i hi; simpa using this
 have hit : ∀ i ∈ wi, i ∉ t0 :: ts := fun i hi => by have := List.all_eq_true.1 hdis i (hwc' i hi); simpa using this
 have hgo := any_of_growW (P := P) (Q := Q) hB' (a0 := a) (w0 := w) hst (fun i hi vals => hobs.1 i hi vals (by simp)) (fun vals w' hb hR => by
   obtain ⟨vals1, h1, h2⟩ := hobs.2 vals (by simp)
   rw [frm_congr (vals := vals) (vals' := vals1) (fun j hj => h1 j (by rw [upto_get] at hj; simp at hj; exact hj.2))]
   exact h2 w' hb (fun i hi => by rw [← h1 i hi]; exact hR i hi))
 have hb0 : Below w.heap.size w { w with drawn := w.drawn + 1 } := ⟨rfl, rfl, rfl, Nat.le_refl _, fun _ _ => rfl⟩
 have := any_of_WR (P := P) (md := .any) (Q := NoPanic Q) (wi := wi) (t0 := t0) (ts := ts) (R := R) (a0 := a) (w := { w with drawn := w.drawn + 1 }) (g := (ci.length - wi.length) + (ts.length + 1)) hsel hd (fun c a w h => h) hit
  (fun listed vals inv hl hR => hgo (ci.length - wi.length) listed vals _ inv (fun i hi => (hl i).2 hi) (by have := count_wi hnd hwn hwc' hl; omega) hb0 hR)
  wi [] (Array.replicate l.toArray.size false) (fun _ => undef) rfl (fun i => by rw [hrep]; simp) ⟨fun j oj _ hl => (by rw [hrep] at hl; cases hl), fun t _ ht => getD_in (by simpa using ht) (getD_replicate_false _ _), by simp⟩
  (fun j hj => by rw [hrep] at hj; cases hj) hfr (by rw [frm_nil hrep]; exact hwr)
 rw [frm_nil hrep] at this
 have hle : wi.length ≤ ci.length := by
  have h1 := (List.nodup_iff_count.1 hwn)
  have h2 : (ci.filter fun i => wi.contains i).length = wi.length := by
   refine List.Perm.length_eq ((List.perm_ext_iff_of_nodup (hnd.filter _) hwn).2 fun x => ?_)
   rw [List.mem_filter]
   exact ⟨fun h => by simpa using h.2, fun h => ⟨hwc' x h, by simpa using h⟩⟩
  have := List.length_filter_le (fun i => wi.contains i) ci
  omega
 rw [show wi.length + (ci.length - wi.length + (ts.length + 1)) = l.toArray.size by omega] at this
 exact this
end
end
section
open Go.RowKit
section
variable {P : Program} {ops : Array Oper} {md : Region.Mode} {Q : Exit → Act → World → Prop}
theorem any_of_growM {wi ci : List Nat} {t0 f0 : Nat} {fs : List Nat} (hB : growWB md ops wi ci t0 (f0 :: fs) = true) (hB3 : sinkL md ops f0 [t0] = true) (hm0 : t0 ∉ f0 :: fs) {S : World → Prop} {R : Nat → Value → World → Prop} {a0 : Act} {w0 : World}
  (hS : ∀ u : Ext w0, S u.val) (hst : ∀ i v w w', Below w.heap.size w w' → R i v w → R i v w')
  (hob : ∀ i ∈ ci, ∀ vals, gOp P md ops R w0 Q i vals (frm ops a0 vals (upto ops ci i)))
  (hfin : ∀ vals w', Below w0.heap.size w0 w' → (∀ i ∈ ci, R i (vals i) w') → wpList P ops (Mid P ops S Q (opsAt ops (f0 :: fs))) (opsAt ops [t0]) (frm ops a0 vals (upto ops ci ops.size)) w') :
  ∀ (f : Nat) (listed : Array Bool) (vals : Nat → Value) (w : World), Inv md ops (t0 :: f0 :: fs) listed → (∀ i ∈ wi, listed.getD i false = true) → (ci.filter fun i => !listed.getD i false).length = f → Below w0.heap.size w0 w →
   (∀ j, listed.getD j false = true → R j (vals j) w) → anyF P md ops (NoPanic Q) S (f0 :: fs) (f + (1 + (fs.length + 1))) listed (frm ops a0 vals listed) w := by
 simp only [growWB, Bool.and_eq_true, decide_eq_true_eq] at hB
 obtain ⟨⟨⟨⟨⟨⟨⟨⟨⟨⟨⟨⟨⟨⟨hsel, hd⟩, hnd⟩, _⟩, htl⟩, hsz⟩, hs⟩, _⟩, _⟩, _⟩, hc⟩, hdis⟩, hcov⟩, hop⟩, hfo⟩ := hB
 have hit : ∀ i ∈ ci, i ∉ t0 :: f0 :: fs := fun i hi => by have := List.all_eq_true.1 hdis i hi; simpa using this
 have hcv : ∀ j, j < ops.size → j ∈ ci ∨ j ∈ t0 :: f0 :: fs := fun j hj => by have := List.all_eq_true.1 hcov j (List.mem_range.2 hj); simpa using this
 have hops : ∀ i ∈ ci, ∃ o, ops[i]? = some o ∧ (∀ e ∈ o.after, Region.binds md e = true → e.on < i ∧ e.on ∈ ci) ∧ (∀ j, j < ops.size → j ∈ t0 :: f0 :: fs ∨ Region.waitsFor md ops i j = true ∨ ∀ d, dstOf ops j = some d → d ∉ o.looksAt ops) := fun i hi => by
  have h := List.all_eq_true.1 hop i hi
  cases ho : ops[i]? with
  | none => rw [ho] at h; cases h
  | some o =>
   rw [ho] at h
   simp only [Bool.and_eq_true] at h
   obtain ⟨he, hl⟩ := h
   refine ⟨o, rfl, fun e hem hb => ?_, fun j hj => ?_⟩
   ·have := Array.all_eq_true'.1 he e hem
    simpa [hb] using this
   ·have := List.all_eq_true.1 hl j (List.mem_range.2 hj)
    simp only [Bool.or_eq_true] at this
    rcases this with (h | h) | h
    ·exact .inl (by simpa using h)
    ·exact .inr (.inl h)
    ·refine .inr (.inr fun d hd hm => ?_)
     rw [hd] at h
     simp [hm] at h
 intro f
 induction f with
 | zero =>
  intro listed vals w inv hwi hcnt hb hR
  have hall : ∀ i ∈ ci, listed.getD i false = true := fun i hi => by
   have := List.filter_eq_nil_iff.1 (List.length_eq_zero_iff.1 hcnt) i hi
   simpa using this
  have hL : listed = upto ops ci ops.size := by
   have hsz2 : (upto ops ci ops.size).size = ops.size := by simp [upto]
   apply Array.ext (by rw [inv.size, hsz2])
   intro j h1 h2
   have e1 : listed[j] = listed.getD j false := by simp [Array.getD, h1]
   have e2 : (upto ops ci ops.size)[j] = (upto ops ci ops.size).getD j false := by simp [Array.getD, h2]
   have hj : j < ops.size := by rw [← inv.size]; exact h1
   rw [e1, e2, upto_get]
   rcases hcv j hj with h | h
   ·rw [hall j h]; simp [hj, h]
   ·rw [getD_both (inv.tail j h hj)]
    have : j ∉ ci := fun hh => hit j hh h
    simp [this]
  subst hL
  have hcf : chainL md ops (f0 :: fs) = true := by
   simp only [chainL, Bool.and_eq_true] at hc
   simpa only [chainL] using hc.2
  exact anyF_S (Q := NoPanic Q) (m0 := t0) hsel (fun c a w h => h) [] hB3 hcf (fun i hi => by
   have hi : i = t0 := by simpa using hi
   subst hi
   exact hm0) (hS ⟨w, hb⟩) (R := Mid P ops S Q (opsAt ops (f0 :: fs))) (by funext e a w; cases e <;> rfl) [] _ _ (fun _ h => by cases h) ⟨inv.closed, fun t ht => inv.tail t (List.mem_cons_of_mem _ ht), inv.size⟩ hfo (hfin vals w hb fun i hi => hR i (hall i hi))
 | succ f ih =>
  intro listed vals w inv hwi hcnt hb hR
  have hlt : ∀ i ∈ ci, i < listed.size := fun i hi => by
   obtain ⟨o, ho, _⟩ := hops i hi
   rw [inv.size]; exact (Array.getElem?_eq_some_iff.1 ho).1
  have hun : ∃ i ∈ ci, listed.getD i true = false := by
   cases hfl : (ci.filter fun i => !listed.getD i false) with
   | nil => rw [hfl] at hcnt; cases hcnt
   | cons i l =>
    have hi : i ∈ ci.filter fun i => !listed.getD i false := by rw [hfl]; simp
    obtain ⟨h1, h2⟩ := List.mem_filter.1 hi
    exact ⟨i, h1, getD_in (hlt i h1) (by simpa using h2)⟩
  have hex : ∀ n i, i ≤ n → i ∈ ci → listed.getD i true = false → ∃ k, k ∈ Region.ready md ops listed := by
   intro n
   induction n with
   | zero =>
    intro i hin hi hu
    obtain ⟨o, ho, he, _⟩ := hops i hi
    exact ⟨i, mem_ready.2 ⟨hu, o, ho, fun e hem hb => by have := (he e hem hb).1; omega⟩⟩
   | succ n ihn =>
    intro i hin hi hu
    obtain ⟨o, ho, he, _⟩ := hops i hi
    by_cases hall : ∀ e ∈ o.after, Region.binds md e = true → listed.getD e.on false = true
    ·exact ⟨i, mem_ready.2 ⟨hu, o, ho, hall⟩⟩
    ·simp only [Classical.not_forall] at hall
     obtain ⟨e, hem, hb, hn⟩ := hall
     obtain ⟨h1, h2⟩ := he e hem hb
     exact ihn e.on (by omega) h2 (getD_in (hlt _ h2) (by simpa using hn))
  obtain ⟨i1, hi1, hu1⟩ := hun
  obtain ⟨k, hk⟩ := hex i1 i1 (Nat.le_refl _) hi1 hu1
  rw [show f + 1 + (1 + (fs.length + 1)) = (f + (1 + (fs.length + 1))) + 1 by omega]
  refine ⟨fun h0 => (by rw [h0] at hk; cases hk), fun i hi => ?_⟩
  have htt : ∀ t ∈ t0 :: f0 :: fs, listed.getD t true = false := fun t ht => inv.tail t ht (by have := List.all_eq_true.1 htl t ht; simpa using this)
  have hnt : i ∉ t0 :: f0 :: fs := fun h => by
   rcases List.mem_cons.1 h with rfl | h
   ·exact first_waits inv _ hs ⟨i1, List.mem_filter.2 ⟨hi1, by
     have hnw : i1 ∉ wi := fun hh => by have := hwi i1 hh; rw [getD_both hu1] at this; cases this
     simpa using hnw⟩, hu1⟩ hi
   ·exact chain_waits htt t0 (f0 :: fs) (fun _ h => h) hc i h hi
  obtain ⟨hu, o, ho, hall⟩ := mem_ready.1 hi
  have hic : i ∈ ci := by
   rcases hcv i (Array.getElem?_eq_some_iff.1 ho).1 with h | h
   ·exact h
   ·exact absurd h hnt
  obtain ⟨o', ho', he, hlk⟩ := hops i hic
  obtain rfl : o = o' := Option.some.inj (ho.symm.trans ho')
  have hdep : ∀ j, Region.waitsFor md ops i j = true → listed.getD j false = true ∧ j < i ∧ j ∈ ci := fun j hj => by
   obtain ⟨oj, hoj, e, hem, hb', hon⟩ := Region.waitsFor_spec hj
   obtain rfl : o = oj := Option.some.inj (ho.symm.trans hoj)
   subst hon
   exact ⟨hall e hem hb', he e hem hb'⟩
  obtain ⟨o2, d, ho2, hdst, hds, hwp⟩ := hob i hic vals w hb (fun j hj => hR j (hdep j hj).1)
  obtain rfl : o = o2 := Option.some.inj (ho.symm.trans ho2)
  have hag : ∀ d ∈ o.looksAt ops, ∀ j, dstOf ops j = some d → listed.getD j false = (upto ops ci i).getD j false := (fun d hd j hj => by
   have hjs : j < ops.size := by
    rcases Nat.lt_or_ge j ops.size with h | h
    ·exact h
    ·unfold dstOf at hj; rw [Array.getElem?_eq_none h] at hj; cases hj
   rw [upto_get]
   rcases hlk j hjs with h | h | h
   ·rw [getD_both (htt j h)]
    have : j ∉ ci := fun hh => hit j hh h
    simp [this]
   ·obtain ⟨h1, h2, h3⟩ := hdep j h
    rw [h1]; simp [hjs, h2, h3]
   ·exact absurd hd (h d hj))
  have hex2 : execOp (frm ops a0 vals listed).eval o = execOp (frm ops a0 vals (upto ops ci i)).eval o := exec_frm o (fun cs b => Region.noSelect_spec hsel i o cs b ho) hag
  have hwn := wanted_frm (a0 := a0) (vals := vals) o hag
  have hdo : dstOf ops i = o.dst := by simp [dstOf, ho]
  have key : ∀ v w'', Below w.heap.size w w'' → R i v w'' → (i ∉ f0 :: fs → S w'') ∧ anyF P md ops (NoPanic Q) S (f0 :: fs) (f + (1 + (fs.length + 1))) (listed.setIfInBounds i true) ((frm ops a0 vals listed).put o.dst v) w'' := fun v w'' hbw hRv => by
   refine ⟨fun _ => hS ⟨w'', below_trans hb hbw⟩, ?_⟩
   rw [← hdo, frm_put hd (hlt i hic)]
   refine ih _ _ w'' (inv.set hi hnt) (fun k hk => by
    by_cases hki : i = k
    ·subst hki
     have := hwi i hk
     rw [getD_both hu] at this; cases this
    ·rw [getD_set_ne false hki]; exact hwi k hk) ?_ (below_trans hb hbw) (fun j hj => ?_)
   ·have := count_set hnd hic hu
    omega
   ·by_cases hji : j = i
    ·subst hji; simpa [upd] using hRv
    ·rw [getD_set_ne false (fun h => hji h.symm)] at hj
     simp only [upd, if_neg hji]
     exact hst j _ _ _ hbw (hR j hj)
  unfold wpOp
  simp only [ho]
  rw [hwn]
  split
  ·rename_i hw
   rw [if_pos hw] at hwp
   refine .inl (Oper.wp_mono ?_ (wp_move hex2 hdst hds hwp))
   rintro x w'' ⟨v, rfl, hbw, hRv⟩
   exact key v w'' hbw hRv
  ·rename_i hw
   rw [if_neg hw] at hwp
   exact key undef w (Below.refl _ _) hwp
def wpZS (P : Program) (ops : Array Oper) (S : World → Prop) (R : Nat → Value → World → Prop) : List Nat → Act → Prop
 | [], _ => True
 | i :: l, a => ∃ o v, ops[i]? = some o ∧ YieldsIf P ops S o v a ∧ R i = IsV v ∧ wpZS P ops S R l (a.put o.dst v)
theorem zs_nil {S : World → Prop} {R : Nat → Value → World → Prop} {a : Act} : wpZS P ops S R [] a := trivial
theorem zs_step {S : World → Prop} {R : Nat → Value → World → Prop} {i : Nat} {l : List Nat} {a : Act} {o : Oper} (ho : ops[i]? = some o) (hg : o.guard = none)
  (h : ∃ v, (∀ w, S w → (execOp a.eval o).run P w = .ok (.value v) w) ∧ R i = IsV v ∧ wpZS P ops S R l (a.put o.dst v)) : wpZS P ops S R (i :: l) a := by
 obtain ⟨v, h1, h2, h3⟩ := h
 exact ⟨o, v, ho, .inl ⟨by unfold Region.wanted; rw [hg], h1⟩, h2, h3⟩
theorem any_of_ZS {wi ci : List Nat} {t0 f0 : Nat} {fs : List Nat} (hsel : Region.noSelect ops = true) (hd : distB ops = true) {S : World → Prop} {R : Nat → Value → World → Prop} {a0 : Act} {w : World} {g : Nat}
  (hB2 : sinkL md ops f0 (ci ++ [t0]) = true) (hc : chainL md ops (f0 :: fs) = true) (hwc : ∀ i ∈ wi, i ∈ ci) (hit : ∀ i ∈ wi, i ∉ f0 :: fs) (hSw : S w)
  (hK : ∀ listed vals, Inv md ops (f0 :: fs) listed → (∀ i, listed.getD i false = true ↔ i ∈ wi) → (∀ j, listed.getD j false = true → R j (vals j) w) → anyF P md ops (NoPanic Q) S (f0 :: fs) g listed (frm ops a0 vals listed) w) :
  ∀ (l pre : List Nat) (listed : Array Bool) (vals : Nat → Value), wi = pre ++ l → (∀ i, listed.getD i false = true ↔ i ∈ pre) → Inv md ops (f0 :: fs) listed → (∀ j, listed.getD j false = true → R j (vals j) w) →
   freeB md ops (fun _ => true) l listed = true → wpZS P ops S R l (frm ops a0 vals listed) → anyF P md ops (NoPanic Q) S (f0 :: fs) (l.length + g) listed (frm ops a0 vals listed) w
 | [], pre, listed, vals, he, hl, inv, hR, _, _ => by
  rw [List.append_nil] at he
  subst he
  simpa using hK listed vals inv hl hR
 | i :: l, pre, listed, vals, he, hl, inv, hR, hB, h => by
  simp only [freeB, Bool.and_eq_true] at hB
  obtain ⟨⟨hr, hf⟩, hB'⟩ := hB
  have hr' : i ∈ Region.ready md ops listed := by simpa using hr
  obtain ⟨hu, oi, hoi, _⟩ := mem_ready.1 hr'
  obtain ⟨o, v, ho, hy, hRv, h'⟩ := h
  obtain rfl : oi = o := Option.some.inj (hoi.symm.trans ho)
  have hdo : dstOf ops i = oi.dst := by simp [dstOf, ho]
  have hlt : i < listed.size := by rw [inv.size]; exact (Array.getElem?_eq_some_iff.1 ho).1
  have hiw : i ∈ wi := by rw [he]; simp
  have hset : (listed.setIfInBounds i true).getD i false = true := by simp [Array.getD, hlt]
  rw [show (i :: l).length + g = (l.length + g) + 1 by simp; omega]
  refine anyF_first hoi (Region.noSelect_spec hsel) (fun c a w h => h) (ci ++ [t0]) hB2 hc (by simp [hwc i hiw]) _ listed _ w inv (Region.free_spec hoi hf) hr' hy hSw ?_
  rw [← hdo, frm_put hd hlt] at h' ⊢
  refine any_of_ZS hsel hd hB2 hc hwc hit hSw hK l (pre ++ [i]) _ _ (by rw [he]; simp) (fun k => ?_) (inv.set hr' (hit i hiw)) (fun j hj => ?_) hB' h'
  ·by_cases hki : k = i
   ·subst hki; rw [hset]; simp
   ·rw [getD_set_ne false (fun h => hki h.symm), hl k]; simp [hki]
  ·by_cases hji : j = i
   ·subst hji; rw [hRv]; simp [upd, IsV]
   ·rw [getD_set_ne false (fun h => hji h.symm)] at hj
    simp only [upd, if_neg hji]
    exact hR j hj
theorem wkvg {R : Nat → Value → World → Prop} {w0 : World} {F : (Nat → Value) → Act → Prop} {i : Nat} {l : List Nat} {vals : Nat → Value} {a : Act} {o : Oper} {d : Nat} (ho : ops[i]? = some o) (hd : o.dst = some d) (hlt : d < a.tmps.size) (hg : Region.wanted o (yielded ops a.tmps) = true)
  (h : ∃ c, (∀ (u : Ext w0) (K : Act → World → Prop), (∀ w'', Below u.val.heap.size u.val w'' → K (a.put (some d) c) w'') → o.wp P a u.val K (NoPanic Q)) ∧ R i = IsV c ∧ wpK P md ops R w0 Q [] F l (upd vals i c) (a.put (some d) c)) : wpK P md ops R w0 Q [] F (i :: l) vals a := by
 obtain ⟨c, h1, h2, h3⟩ := h
 have e : dstOf ops i = some d := by simp [dstOf, ho, hd]
 refine ⟨fun w' hb _ => ?_, .inl ⟨c, fun v w hv => by rw [h2] at hv; exact hv, by rw [e]; exact h3⟩⟩
 rw [if_neg (by simp)]
 refine ⟨o, d, ho, hd, hlt, ?_⟩
 rw [if_pos hg]
 exact h1 ⟨w', hb⟩ _ fun w'' hb' => ⟨c, by rw [hd], hb', by rw [h2]; rfl⟩
theorem wkug {R : Nat → Value → World → Prop} {w0 : World} {F : (Nat → Value) → Act → Prop} {i : Nat} {l : List Nat} {vals : Nat → Value} {a : Act} {o : Oper} {d : Nat} (ho : ops[i]? = some o) (hd : o.dst = some d) (hlt : d < a.tmps.size) (hg : Region.wanted o (yielded ops a.tmps) = true)
  (h1 : ∀ u : Ext w0, (∀ j, Region.waitsFor md ops i j = true → R j (vals j) u.val) →
   ∀ K : Act → World → Prop, (∀ v w'', Below u.val.heap.size u.val w'' → R i v w'' → K (a.put (some d) v) w'') → o.wp P a u.val K (NoPanic Q))
  (h2 : ∀ v, wpK P md ops R w0 Q [] F l (upd vals i v) (a.put (some d) v)) : wpK P md ops R w0 Q [] F (i :: l) vals a := by
 have e : dstOf ops i = some d := by simp [dstOf, ho, hd]
 refine ⟨fun w' hb hR => ?_, .inr fun v => by rw [e]; exact h2 v⟩
 rw [if_neg (by simp)]
 refine ⟨o, d, ho, hd, hlt, ?_⟩
 rw [if_pos hg]
 exact h1 ⟨w', hb⟩ hR _ fun v w'' hb' hr => ⟨v, by rw [hd], hb', hr⟩
theorem wp_region_growM {id : Nat} {a : Act} {w : World} {l : List Oper} (wi ci : List Nat) (t0 f0 : Nat) (fs : List Nat) (R : List SP) (S : World → Prop) (hm : P.follows .mixedOrders = true) (hB : growWB .any l.toArray wi ci t0 (f0 :: fs) = true)
  (hB2 : (sinkL .any l.toArray f0 (ci ++ [t0]) && sinkL .any l.toArray f0 [t0] && decide (t0 ∉ f0 :: fs)) = true)
  (hS : ∀ u : Ext w, S u.val) (hz : wpZS P l.toArray S (pickS R) wi a)
  (h : wpK P .any l.toArray (pickS R) w Q [] (fun vals a' => ∀ u : Ext w, (∀ i ∈ ci, pickS R i (vals i) u.val) → wpList P l.toArray (Mid P l.toArray S Q (opsAt l.toArray (f0 :: fs))) (opsAt l.toArray [t0]) a' u.val) ci (fun _ => undef) a) :
  (Code.region id l.toArray true).wp P Q a w := by
 refine wp_region_noPanic (wp_region_any hm ?_)
 have hst : ∀ i v w w', Below w.heap.size w w' → pickS R i v w → pickS R i v w' := fun i v w w' hb h => (R.getD i (sv undef)).2 v w w' hb h
 simp only [Bool.and_eq_true, decide_eq_true_eq] at hB2
 obtain ⟨⟨hB2, hB3⟩, hm0⟩ := hB2
 have hB' := hB
 simp only [growWB, Bool.and_eq_true, decide_eq_true_eq] at hB
 obtain ⟨⟨⟨⟨⟨⟨⟨⟨⟨⟨⟨⟨⟨⟨hsel, hd⟩, hnd⟩, hpw⟩, htl⟩, hsz⟩, hs⟩, hwc⟩, hwn⟩, hfr⟩, hc⟩, hdis⟩, hcov⟩, hop⟩, hfo⟩ := hB
 have hlt : ∀ i ∈ ci, i < l.toArray.size := fun i hi => by
  have h := List.all_eq_true.1 hop i hi
  rcases Nat.lt_or_ge i l.toArray.size with h' | h'
  ·exact h'
  ·rw [Array.getElem?_eq_none h'] at h; cases h
 have hdep : ∀ i ∈ ci, ∀ j, Region.waitsFor .any l.toArray i j = true → j < i ∧ j ∈ ci := fun i hi j hj => by
  have h := List.all_eq_true.1 hop i hi
  obtain ⟨o, ho, e, hem, hb, rfl⟩ := Region.waitsFor_spec hj
  rw [ho] at h
  simp only [Bool.and_eq_true] at h
  have := Array.all_eq_true'.1 h.1 e hem
  simpa [hb] using this
 have hlk : ∀ i ∈ ci, ∀ o, l.toArray[i]? = some o → ∀ j ∈ ci, Region.waitsFor .any l.toArray i j = true ∨ ∀ d, dstOf l.toArray j = some d → d ∉ o.looksAt l.toArray := fun i hi o ho j hj => by
  have h := List.all_eq_true.1 hop i hi
  rw [ho] at h
  simp only [Bool.and_eq_true] at h
  have h2 := List.all_eq_true.1 h.2 j (List.mem_range.2 (hlt j hj))
  have hnt : j ∉ t0 :: f0 :: fs := by have := List.all_eq_true.1 hdis j hj; simpa using this
  simp only [Bool.or_eq_true] at h2
  rcases h2 with (h3 | h3) | h3
  ·exact absurd (by simpa using h3) hnt
  ·exact .inl h3
  ·refine .inr fun d hd hm => ?_
   rw [hd] at h3
   simp [hm] at h3
 have hnil : ∀ j, (upto l.toArray [] l.toArray.size).getD j false = false := fun j => by rw [upto_get]; simp
 have hobs := obs_of_wpK (P := P) (md := .any) (Q := Q) (zi := []) (R := pickS R) (a0 := a) (w0 := w) hsel hd hpw hlt hdep hlk ci [] (fun _ => undef) rfl (by rw [frm_nil hnil]; exact h)
 have hrep : ∀ j, (Array.replicate l.toArray.size false).getD j false = false := fun j => getD_replicate_false _ _
 have hwc' : ∀ i ∈ wi, i ∈ ci := fun i hi => by have := List.all_eq_true.1 hwc i hi; simpa using this
 have hcf : chainL .any l.toArray (f0 :: fs) = true := by
  simp only [chainL, Bool.and_eq_true] at hc
  simpa only [chainL] using hc.2
 have hit : ∀ i ∈ wi, i ∉ t0 :: f0 :: fs := fun i hi => by have := List.all_eq_true.1 hdis i (hwc' i hi); simpa using this
 have hgo := any_of_growM (P := P) (Q := Q) hB' hB3 hm0 (a0 := a) (w0 := w) hS hst (fun i hi vals => by
   have h1 := hobs.1 i hi vals (by simp)
   intro w' hb hR
   have h2 := h1 w' hb hR
   simpa using h2) (fun vals w' hb hR => by
   obtain ⟨vals1, h1, h2⟩ := hobs.2 vals (by simp) (fun j hj => ⟨w', hR j hj⟩)
   rw [frm_congr (vals := vals) (vals' := vals1) (fun j hj => h1 j (by rw [upto_get] at hj; simp at hj; exact hj.2))]
   exact h2 ⟨w', hb⟩ (fun i hi => by rw [← h1 i hi]; exact hR i hi))
 have hb0 : Below w.heap.size w { w with drawn := w.drawn + 1 } := ⟨rfl, rfl, rfl, Nat.le_refl _, fun _ _ => rfl⟩
 have htl' : ∀ t ∈ t0 :: f0 :: fs, t < l.toArray.size := fun t ht => by have := List.all_eq_true.1 htl t ht; simpa using this
 have := any_of_ZS (P := P) (md := .any) (Q := Q) (wi := wi) (ci := ci) (t0 := t0) (f0 := f0) (fs := fs) (S := S) (R := pickS R) (a0 := a) (w := { w with drawn := w.drawn + 1 }) (g := (ci.length - wi.length) + (1 + (fs.length + 1))) hsel hd hB2 hcf hwc' (fun i hi h => hit i hi (List.mem_cons_of_mem _ h)) (hS ⟨_, hb0⟩)
  (fun listed vals inv hl hR => hgo (ci.length - wi.length) listed vals _ ⟨inv.closed, fun t ht hts => by
    rcases List.mem_cons.1 ht with rfl | ht
    ·refine getD_in (by rw [inv.size]; exact hts) ?_
     cases hx : listed.getD t false with
     | false => rfl
     | true => exact absurd (List.mem_cons_self) (hit t ((hl t).1 hx))
    ·exact inv.tail t ht hts, inv.size⟩ (fun i hi => (hl i).2 hi) (by have := count_wi hnd hwn hwc' hl; omega) hb0 hR)
  wi [] (Array.replicate l.toArray.size false) (fun _ => undef) rfl (fun i => by rw [hrep]; simp) ⟨fun j oj _ hl => (by rw [hrep] at hl; cases hl), fun t _ ht => getD_in (by simpa using ht) (getD_replicate_false _ _), by simp⟩
  (fun j hj => by rw [hrep] at hj; cases hj) hfr (by rw [frm_nil hrep]; exact hz)
 rw [frm_nil hrep] at this
 have hle : wi.length ≤ ci.length := by
  have h2 : (ci.filter fun i => wi.contains i).length = wi.length := by
   refine List.Perm.length_eq ((List.perm_ext_iff_of_nodup (hnd.filter _) hwn).2 fun x => ?_)
   rw [List.mem_filter]
   exact ⟨fun h => by simpa using h.2, fun h => ⟨hwc' x h, by simpa using h⟩⟩
  have := List.length_filter_le (fun i => wi.contains i) ci
  omega
 have h9 := any_of_anyF _ _ _ _ this
 simp only [List.length_cons] at hsz
 rw [show wi.length + (ci.length - wi.length + (1 + (fs.length + 1))) = l.toArray.size by omega] at h9
 exact h9
end
end
section
open Go.RowKit
def svl (xs : List Int) : SP := ⟨IsL xs, stab_l xs⟩
def svg (b : Bool) (xs : List Int) : SP := ⟨Gd b (IsL xs), stab_gd (stab_l xs)⟩
section
variable {P : Program} {ops : Array Oper} {md : Region.Mode} {Q : Exit → Act → World → Prop} {R : Nat → Value → World → Prop} {w0 : World} {F : (Nat → Value) → Act → Prop} {i : Nat} {l : List Nat} {vals : Nat → Value} {a : Act} {o : Oper} {d : Nat}
theorem wkr (ho : ops[i]? = some o) (hd : o.dst = some d) (hlt : d < a.tmps.size) (hg : Region.wanted o (yielded ops a.tmps) = true)
  (h : ∃ c, (∀ u : Ext w0, (∀ j, Region.waitsFor md ops i j = true → R j (vals j) u.val) → ∀ K : Act → World → Prop, (∀ w'', Below u.val.heap.size u.val w'' → K (a.put (some d) c) w'') → o.wp P a u.val K (NoPanic Q)) ∧ R i = IsV c ∧ wpK P md ops R w0 Q [] F l (upd vals i c) (a.put (some d) c)) : wpK P md ops R w0 Q [] F (i :: l) vals a := by
 obtain ⟨c, h1, h2, h3⟩ := h
 have e : dstOf ops i = some d := by simp [dstOf, ho, hd]
 refine ⟨fun w' hb hR => ?_, .inl ⟨c, fun v w hv => by rw [h2] at hv; exact hv, by rw [e]; exact h3⟩⟩
 rw [if_neg (by simp)]
 refine ⟨o, d, ho, hd, hlt, ?_⟩
 rw [if_pos hg]
 exact h1 ⟨w', hb⟩ hR _ fun w'' hb' => ⟨c, by rw [hd], hb', by rw [h2]; rfl⟩
theorem wkR (h : ∃ c, (∀ u : Ext w0, (∀ j, Region.waitsFor md ops i j = true → R j (vals j) u.val) → ∀ K : Act → World → Prop, (∀ w'', Below u.val.heap.size u.val w'' → K (a.put (some d) c) w'') → o.wp P a u.val K (NoPanic Q)) ∧ R i = IsV c ∧ wpK P md ops R w0 Q [] F l (upd vals i c) (a.put (some d) c))
  (ho : ops[i]? = some o := by rfl) (hd : o.dst = some d := by rfl) (hlt : d < a.tmps.size := by simp) (hg : Region.wanted o (yielded ops a.tmps) = true := by simp [Region.wanted, yielded]) : wpK P md ops R w0 Q [] F (i :: l) vals a := wkr ho hd hlt hg h
theorem wkw {b : Bool} (ho : ops[i]? = some o) (hd : o.dst = some d) (hlt : d < a.tmps.size) (hg : Region.wanted o (yielded ops a.tmps) = b)
  (h : ∃ c, (b = true → ∀ u : Ext w0, (∀ j, Region.waitsFor md ops i j = true → R j (vals j) u.val) → ∀ K : Act → World → Prop, (∀ w'', Below u.val.heap.size u.val w'' → K (a.put (some d) c) w'') → o.wp P a u.val K (NoPanic Q)) ∧ R i = IsV (bif b then c else undef) ∧ wpK P md ops R w0 Q [] F l (upd vals i (bif b then c else undef)) (a.put (some d) (bif b then c else undef))) : wpK P md ops R w0 Q [] F (i :: l) vals a := by
 obtain ⟨c, h1, h2, h3⟩ := h
 have e : dstOf ops i = some d := by simp [dstOf, ho, hd]
 refine ⟨fun w' hb hR => ?_, .inl ⟨bif b then c else undef, fun v w hv => by rw [h2] at hv; exact hv, by rw [e]; exact h3⟩⟩
 rw [if_neg (by simp)]
 refine ⟨o, d, ho, hd, hlt, ?_⟩
 cases b with
 | true =>
  rw [if_pos hg]
  exact h1 rfl ⟨w', hb⟩ hR _ fun w'' hb' => ⟨c, by rw [hd], hb', by rw [h2]; rfl⟩
 | false =>
  rw [if_neg (by rw [hg]; simp), h2]
  rfl
theorem wkx {b : Bool} {p : Value → World → Prop} (ho : ops[i]? = some o) (hd : o.dst = some d) (hlt : d < a.tmps.size) (hg : Region.wanted o (yielded ops a.tmps) = b) (hp : R i = Gd b p)
  (h1 : b = true → ∀ u : Ext w0, (∀ j, Region.waitsFor md ops i j = true → R j (vals j) u.val) →
   ∀ K : Act → World → Prop, (∀ v w'', Below u.val.heap.size u.val w'' → p v w'' → K (a.put (some d) v) w'') → o.wp P a u.val K (NoPanic Q))
  (h2 : ∀ v, wpK P md ops R w0 Q [] F l (upd vals i v) (a.put (some d) v)) : wpK P md ops R w0 Q [] F (i :: l) vals a := by
 have e : dstOf ops i = some d := by simp [dstOf, ho, hd]
 refine ⟨fun w' hb hR => ?_, .inr fun v => by rw [e]; exact h2 v⟩
 rw [if_neg (by simp)]
 refine ⟨o, d, ho, hd, hlt, ?_⟩
 cases b with
 | true =>
  rw [if_pos hg]
  exact h1 rfl ⟨w', hb⟩ hR _ fun v w'' hb' hr => ⟨v, by rw [hd], hb', by rw [hp]; exact hr⟩
 | false =>
  rw [if_neg (by rw [hg]; simp), hp]
  rfl
end
end
end Go.Proofs.YtokhkhnofkcalaaGreatDoor
