/- texts of mine, merged: Grow, G2, J12. -/
import Derived.Test.YtjglkglaogaenaaGreatDoorGA
import Derived.Test.YtjglkglaogaenaaGreatDoorGK
/- A region that draws its order, in which several operations may make memory: each operation i has a predicate R i (its value, the world) that stays as the world grows. Then a forced tail. No program is named here. UNDER WAY. -/
namespace Go.Proofs.YtjglkglaogaenaaGreatDoor
section
open Go.RowKit
section
variable {P : Program} {ops : Array Oper} {md : Region.Mode} {Q : Exit → Act → World → Prop}
def dstOf (ops : Array Oper) (j : Nat) : Option Tmp := (ops[j]?).bind (·.dst)
def ownS (ops : Array Oper) (listed : Array Bool) (d : Nat) : Option Nat := (List.range ops.size).find? fun j => listed.getD j false && (dstOf ops j == some d)
/-- The frame behind the operations listed, with their values. -/
def frm (ops : Array Oper) (a0 : Act) (vals : Nat → Value) (listed : Array Bool) : Act :=
  { a0 with tmps := a0.tmps.mapIdx fun d v => match ownS ops listed d with | some j => vals j | none => v }
def upd (vals : Nat → Value) (i : Nat) (v : Value) : Nat → Value := fun j => if j = i then v else vals j
def distB (ops : Array Oper) : Bool := (List.range ops.size).all fun i => (List.range ops.size).all fun j => i == j || dstOf ops i == none || dstOf ops i != dstOf ops j
theorem distB_spec (h : distB ops = true) {i j d : Nat} (hi : dstOf ops i = some d) (hj : dstOf ops j = some d) : i = j := by
  have lt : ∀ k d, dstOf ops k = some d → k < ops.size := fun k d hk => by
    rcases Nat.lt_or_ge k ops.size with h | h
    · exact h
    · unfold dstOf at hk; rw [Array.getElem?_eq_none h] at hk; cases hk
  have := List.all_eq_true.1 (List.all_eq_true.1 h i (List.mem_range.2 (lt i d hi))) j (List.mem_range.2 (lt j d hj))
  rw [hi, hj] at this
  simpa using this
theorem ownS_some {listed : Array Bool} {d j : Nat} (h : ownS ops listed d = some j) : listed.getD j false = true ∧ dstOf ops j = some d := by
  have := List.find?_some h
  simpa using this
theorem ownS_is (hd : distB ops = true) {listed : Array Bool} {d j : Nat} (hl : listed.getD j false = true) (hj : dstOf ops j = some d) : ownS ops listed d = some j := by
  cases h : ownS ops listed d with
  | some k => rw [distB_spec hd (ownS_some h).2 hj]
  | none =>
    have hlt : j < ops.size := by
      rcases Nat.lt_or_ge j ops.size with h | h
      · exact h
      · unfold dstOf at hj; rw [Array.getElem?_eq_none h] at hj; cases hj
    have := List.find?_eq_none.1 h j (List.mem_range.2 hlt)
    simp [hl, hj] at this
theorem ownS_set {listed : Array Bool} {i d : Nat} (hne : dstOf ops i ≠ some d) : ownS ops (listed.setIfInBounds i true) d = ownS ops listed d := by
  unfold ownS
  congr 1
  funext j
  by_cases h : i = j
  · subst h
    have : (dstOf ops i == some d) = false := by simpa using hne
    rw [this, Bool.and_false, Bool.and_false]
  · rw [getD_set_ne false h]
theorem frm_put (hd : distB ops = true) {a0 : Act} {vals : Nat → Value} {listed : Array Bool} {i : Nat} {v : Value} (hi : i < listed.size) :
    (frm ops a0 vals listed).put (dstOf ops i) v = frm ops a0 (upd vals i v) (listed.setIfInBounds i true) := by
  have hset : (listed.setIfInBounds i true).getD i false = true := by simp [Array.getD, hi]
  have hupd : ∀ d j, dstOf ops i ≠ some d → ownS ops listed d = some j → upd vals i v j = vals j := fun d j hne hj => by
    have : j ≠ i := by rintro rfl; exact hne (ownS_some hj).2
    simp [upd, this]
  cases hdi : dstOf ops i with
  | none =>
    have hne : ∀ d, dstOf ops i ≠ some d := fun d => by rw [hdi]; simp
    show frm ops a0 vals listed = _
    unfold frm
    congr 1
    apply Array.ext (by simp)
    intro d h1 h2
    simp only [Array.getElem_mapIdx]
    rw [ownS_set (hne d)]
    cases h : ownS ops listed d with
    | none => rfl
    | some j => exact (hupd d j (hne d) h).symm
  | some t =>
    show (⟨(frm ops a0 vals listed).tmps.setIfInBounds t v, a0.defers⟩ : Act) = ⟨(frm ops a0 (upd vals i v) (listed.setIfInBounds i true)).tmps, a0.defers⟩
    unfold frm
    simp only
    congr 1
    apply Array.ext (by simp)
    intro d h1 h2
    simp only [Array.getElem_mapIdx]
    by_cases htd : t = d
    · subst htd
      rw [ownS_is hd hset hdi]
      simp [upd]
    · have hne : dstOf ops i ≠ some d := by rw [hdi]; simpa using htd
      rw [Array.getElem_setIfInBounds_ne (by simpa using h2) htd, Array.getElem_mapIdx, ownS_set hne]
      cases h : ownS ops listed d with
      | none => rfl
      | some j => exact (hupd d j hne h).symm
theorem ownS_congr {L1 L2 : Array Bool} {d : Nat} (h : ∀ j, dstOf ops j = some d → L1.getD j false = L2.getD j false) : ownS ops L1 d = ownS ops L2 d := by
  unfold ownS
  congr 1
  funext j
  by_cases hj : dstOf ops j = some d
  · rw [h j hj]
  · have : (dstOf ops j == some d) = false := by simpa using hj
    rw [this, Bool.and_false, Bool.and_false]
theorem exec_frm (o : Oper) (hs : ∀ cs b, o.op ≠ .select cs b) {a0 : Act} {vals : Nat → Value} {L1 L2 : Array Bool}
    (h : ∀ d ∈ o.looksAt ops, ∀ j, dstOf ops j = some d → L1.getD j false = L2.getD j false) : execOp (frm ops a0 vals L1).eval o = execOp (frm ops a0 vals L2).eval o := by
  refine execOp_congr o hs fun x hx => ?_
  cases x with
  | tmp d =>
    have hd : d ∈ o.looksAt ops := List.mem_append_left _ (List.mem_filterMap.2 ⟨.tmp d, by simpa using hx, rfl⟩)
    have := ownS_congr (h d hd)
    simp [Act.eval, frm, this]
  | _ => rfl
theorem wanted_frm (o : Oper) {a0 : Act} {vals : Nat → Value} {L1 L2 : Array Bool} (h : ∀ d ∈ o.looksAt ops, ∀ j, dstOf ops j = some d → L1.getD j false = L2.getD j false) :
    Region.wanted o (yielded ops (frm ops a0 vals L1).tmps) = Region.wanted o (yielded ops (frm ops a0 vals L2).tmps) := by
  unfold Region.wanted
  cases hg : o.guard with
  | none => rfl
  | some gw =>
    obtain ⟨g, want⟩ := gw
    have : yielded ops (frm ops a0 vals L1).tmps g = yielded ops (frm ops a0 vals L2).tmps g := by
      unfold yielded
      cases ho : (ops[g]?).bind (·.dst) with
      | none => rfl
      | some d =>
        have hd : d ∈ o.looksAt ops := List.mem_append_right _ (by simp [hg, ho])
        have := ownS_congr (h d hd)
        simp [frm, this]
    simp only [this]
theorem put_inj {a : Act} {d : Nat} {v v' : Value} (hd : d < a.tmps.size) (h : a.put (some d) v = a.put (some d) v') : v = v' := by
  have h1 : (a.put (some d) v).tmps[d]? = some v := by simp [Act.put, hd]
  have h2 : (a.put (some d) v').tmps[d]? = some v' := by simp [Act.put, hd]
  rw [h, h2] at h1
  exact (Option.some.inj h1).symm
theorem wp_move {o : Oper} {a a' : Act} {w : World} {φ : Value → World → Prop} {d : Nat} (he : execOp a'.eval o = execOp a.eval o) (hd : o.dst = some d) (hs : d < a.tmps.size)
    (h : o.wp P a w (fun x w'' => ∃ v, x = a.put o.dst v ∧ φ v w'') (NoPanic Q)) : o.wp P a' w (fun x w'' => ∃ v, x = a'.put o.dst v ∧ φ v w'') (NoPanic Q) := by
  have back : ∀ v w'', (∃ u, a.put o.dst v = a.put o.dst u ∧ φ u w'') → ∃ u, a'.put o.dst v = a'.put o.dst u ∧ φ u w'' := by
    rintro v w'' ⟨u, hu, hp⟩
    rw [hd] at hu
    have := put_inj hs hu
    subst this
    exact ⟨v, rfl, hp⟩
  unfold Oper.wp at *
  rw [he]
  generalize (execOp a.eval o).run P w = r at *
  cases r with
  | ok n w' =>
    cases n <;> simp only [Oper.upon] at h ⊢
    case value v => exact back _ _ h
    case skip => exact back _ _ h
    case defer dd =>
      obtain ⟨u, hu, _⟩ := h
      rw [hd] at hu
      have := congrArg Act.defers hu
      simp [Act.put] at this
    case enter f args => exact h.mono fun e w'' he => by cases e <;> first | exact back _ _ he | exact he
    case row r args => exact h.mono fun v w'' hv => back _ _ hv
  | halt hh w' => cases hh <;> simp only [Oper.upon] at h ⊢ <;> exact h
/-- The operations of ci before i. -/
def upto (ops : Array Oper) (ci : List Nat) (i : Nat) : Array Bool := ((List.range ops.size).map fun j => decide (j < i) && ci.contains j).toArray
theorem upto_get (ci : List Nat) (i j : Nat) : (upto ops ci i).getD j false = (decide (j < ops.size) && decide (j < i) && ci.contains j) := by
  unfold upto
  by_cases h : j < ops.size
  · simp [Array.getD, h]
  · simp [Array.getD, h]
def growB (md : Region.Mode) (ops : Array Oper) (ci : List Nat) (t0 : Nat) (ts : List Nat) : Bool :=
  Region.noSelect ops && distB ops && decide ci.Nodup && decide (ci.Pairwise (· < ·)) && ((t0 :: ts).all fun t => decide (t < ops.size)) && decide (ci.length + (ts.length + 1) = ops.size) && sinkL md ops t0 ci && chainL md ops (t0 :: ts) &&
  (ci.all fun i => !(t0 :: ts).contains i) && ((List.range ops.size).all fun j => ci.contains j || (t0 :: ts).contains j) &&
  (ci.all fun i => match ops[i]? with
    | some o => (o.after.all fun e => !Region.binds md e || (decide (e.on < i) && ci.contains e.on)) &&
        ((List.range ops.size).all fun j => (t0 :: ts).contains j || Region.waitsFor md ops i j || !((dstOf ops j).any fun d => (o.looksAt ops).contains d))
    | none => false) &&
  forcedB md ops (t0 :: ts) (upto ops ci ops.size)
def gOp (P : Program) (md : Region.Mode) (ops : Array Oper) (R : Nat → Value → World → Prop) (w0 : World) (Q : Exit → Act → World → Prop) (i : Nat) (vals : Nat → Value) (a : Act) : Prop :=
  ∀ w', Below w0.heap.size w0 w' → (∀ j, Region.waitsFor md ops i j = true → R j (vals j) w') →
    ∃ o d, ops[i]? = some o ∧ o.dst = some d ∧ d < a.tmps.size ∧ if Region.wanted o (yielded ops a.tmps) = true then o.wp P a w' (fun x w'' => ∃ v, x = a.put o.dst v ∧ Below w'.heap.size w' w'' ∧ R i v w'') (NoPanic Q) else R i undef w'
theorem count_set {ci : List Nat} (hn : ci.Nodup) {listed : Array Bool} {i : Nat} (hi : i ∈ ci) (hl : listed.getD i true = false) :
    (ci.filter fun j => !(listed.setIfInBounds i true).getD j false).length + 1 = (ci.filter fun j => !listed.getD j false).length := by
  have hlt : i < listed.size := by
    rcases Nat.lt_or_ge i listed.size with h | h
    · exact h
    · simp [Array.getD, Nat.not_lt.2 h] at hl
  induction ci with
  | nil => cases hi
  | cons x l ih =>
    have hx : x ∉ l := (List.nodup_cons.1 hn).1
    have hn' := (List.nodup_cons.1 hn).2
    by_cases hxi : x = i
    · subst hxi
      have h1 : (listed.setIfInBounds x true).getD x false = true := by simp [Array.getD, hlt]
      have h2 : listed.getD x false = false := getD_both hl
      have h3 : (l.filter fun j => !(listed.setIfInBounds x true).getD j false) = l.filter fun j => !listed.getD j false := by
        apply List.filter_congr
        intro j hj
        rw [getD_set_ne false (by rintro rfl; exact hx hj)]
      rw [List.filter_cons, List.filter_cons, h1, h2, h3]
      simp
    · have hil : i ∈ l := by
        rcases List.mem_cons.1 hi with h | h
        · exact absurd h.symm hxi
        · exact h
      have := ih hn' hil
      rw [List.filter_cons, List.filter_cons, getD_set_ne false (fun h => hxi h.symm)]
      split
      · simpa using this
      · exact this
theorem any_of_grow {ci : List Nat} {t0 : Nat} {ts : List Nat} (hB : growB md ops ci t0 ts = true) {R : Nat → Value → World → Prop} {a0 : Act} {w0 : World}
    (hst : ∀ i v w w', Below w.heap.size w w' → R i v w → R i v w')
    (hob : ∀ i ∈ ci, ∀ vals, gOp P md ops R w0 Q i vals (frm ops a0 vals (upto ops ci i)))
    (hfin : ∀ vals w', Below w0.heap.size w0 w' → (∀ i ∈ ci, R i (vals i) w') → wpList P ops (NoPanic Q) (opsAt ops (t0 :: ts)) (frm ops a0 vals (upto ops ci ops.size)) w') :
    ∀ (f : Nat) (listed : Array Bool) (vals : Nat → Value) (w : World), Inv md ops (t0 :: ts) listed → (ci.filter fun i => !listed.getD i false).length = f → Below w0.heap.size w0 w →
      (∀ j, listed.getD j false = true → R j (vals j) w) → wpAny P md ops (NoPanic Q) (f + (ts.length + 1)) listed (frm ops a0 vals listed) w := by
  simp only [growB, Bool.and_eq_true, decide_eq_true_eq] at hB
  obtain ⟨⟨⟨⟨⟨⟨⟨⟨⟨⟨⟨hsel, hd⟩, hnd⟩, _⟩, htl⟩, hsz⟩, hs⟩, hc⟩, hdis⟩, hcov⟩, hop⟩, hfo⟩ := hB
  have hit : ∀ i ∈ ci, i ∉ t0 :: ts := fun i hi => by have := List.all_eq_true.1 hdis i hi; simpa using this
  have hcv : ∀ j, j < ops.size → j ∈ ci ∨ j ∈ t0 :: ts := fun j hj => by have := List.all_eq_true.1 hcov j (List.mem_range.2 hj); simpa using this
  have hops : ∀ i ∈ ci, ∃ o, ops[i]? = some o ∧ (∀ e ∈ o.after, Region.binds md e = true → e.on < i ∧ e.on ∈ ci) ∧ (∀ j, j < ops.size → j ∈ t0 :: ts ∨ Region.waitsFor md ops i j = true ∨ ∀ d, dstOf ops j = some d → d ∉ o.looksAt ops) := fun i hi => by
    have h := List.all_eq_true.1 hop i hi
    cases ho : ops[i]? with
    | none => rw [ho] at h; cases h
    | some o =>
      rw [ho] at h
      simp only [Bool.and_eq_true] at h
      obtain ⟨he, hl⟩ := h
      refine ⟨o, rfl, fun e hem hb => ?_, fun j hj => ?_⟩
      · have := Array.all_eq_true'.1 he e hem
        simpa [hb] using this
      · have := List.all_eq_true.1 hl j (List.mem_range.2 hj)
        simp only [Bool.or_eq_true] at this
        rcases this with (h | h) | h
        · exact .inl (by simpa using h)
        · exact .inr (.inl h)
        · refine .inr (.inr fun d hd hm => ?_)
          rw [hd] at h
          simp [hm] at h
  intro f
  induction f with
  | zero =>
    intro listed vals w inv hcnt hb hR
    have hall : ∀ i ∈ ci, listed.getD i false = true := fun i hi => by
      have := List.filter_eq_nil_iff.1 (List.length_eq_zero_iff.1 hcnt) i hi
      simpa using this
    have hL : listed = upto ops ci ops.size := by
      have hsz2 : (upto ops ci ops.size).size = ops.size := by simp [upto]
      apply Array.ext (by rw [inv.size, hsz2])
      intro j h1 h2
      have e1 : listed[j] = listed.getD j false := by simp [Array.getD, h1]
      have e2 : (upto ops ci ops.size)[j] = (upto ops ci ops.size).getD j false := by simp [Array.getD, h2]
      have hj : j < ops.size := by rw [← inv.size]; exact h1
      rw [e1, e2, upto_get]
      rcases hcv j hj with h | h
      · rw [hall j h]; simp [hj, h]
      · rw [getD_both (inv.tail j h hj)]
        have : j ∉ ci := fun hh => hit j hh h
        simp [this]
    rw [Nat.zero_add]
    subst hL
    exact any_of_forced (t0 :: ts) _ _ w hfo (hfin vals w hb fun i hi => hR i (hall i hi))
  | succ f ih =>
    intro listed vals w inv hcnt hb hR
    have hlt : ∀ i ∈ ci, i < listed.size := fun i hi => by
      obtain ⟨o, ho, _⟩ := hops i hi
      rw [inv.size]; exact (Array.getElem?_eq_some_iff.1 ho).1
    have hun : ∃ i ∈ ci, listed.getD i true = false := by
      cases hfl : (ci.filter fun i => !listed.getD i false) with
      | nil => rw [hfl] at hcnt; cases hcnt
      | cons i l =>
        have hi : i ∈ ci.filter fun i => !listed.getD i false := by rw [hfl]; simp
        obtain ⟨h1, h2⟩ := List.mem_filter.1 hi
        exact ⟨i, h1, getD_in (hlt i h1) (by simpa using h2)⟩
    have hex : ∀ n i, i ≤ n → i ∈ ci → listed.getD i true = false → ∃ k, k ∈ Region.ready md ops listed := by
      intro n
      induction n with
      | zero =>
        intro i hin hi hu
        obtain ⟨o, ho, he, _⟩ := hops i hi
        exact ⟨i, mem_ready.2 ⟨hu, o, ho, fun e hem hb => by have := (he e hem hb).1; omega⟩⟩
      | succ n ihn =>
        intro i hin hi hu
        obtain ⟨o, ho, he, _⟩ := hops i hi
        by_cases hall : ∀ e ∈ o.after, Region.binds md e = true → listed.getD e.on false = true
        · exact ⟨i, mem_ready.2 ⟨hu, o, ho, hall⟩⟩
        · simp only [Classical.not_forall] at hall
          obtain ⟨e, hem, hb, hn⟩ := hall
          obtain ⟨h1, h2⟩ := he e hem hb
          exact ihn e.on (by omega) h2 (getD_in (hlt _ h2) (by simpa using hn))
    obtain ⟨i1, hi1, hu1⟩ := hun
    obtain ⟨k, hk⟩ := hex i1 i1 (Nat.le_refl _) hi1 hu1
    rw [show f + 1 + (ts.length + 1) = (f + (ts.length + 1)) + 1 by omega]
    refine ⟨fun h0 => (by rw [h0] at hk; cases hk), fun i hi => ?_⟩
    have htt : ∀ t ∈ t0 :: ts, listed.getD t true = false := fun t ht => inv.tail t ht (by have := List.all_eq_true.1 htl t ht; simpa using this)
    have hnt : i ∉ t0 :: ts := fun h => by
      rcases List.mem_cons.1 h with rfl | h
      · exact first_waits inv ci hs ⟨i1, hi1, hu1⟩ hi
      · exact chain_waits htt t0 ts (fun _ h => h) hc i h hi
    obtain ⟨hu, o, ho, hall⟩ := mem_ready.1 hi
    have hic : i ∈ ci := by
      rcases hcv i (Array.getElem?_eq_some_iff.1 ho).1 with h | h
      · exact h
      · exact absurd h hnt
    obtain ⟨o', ho', he, hlk⟩ := hops i hic
    obtain rfl : o = o' := Option.some.inj (ho.symm.trans ho')
    have hdep : ∀ j, Region.waitsFor md ops i j = true → listed.getD j false = true ∧ j < i ∧ j ∈ ci := fun j hj => by
      obtain ⟨oj, hoj, e, hem, hb', hon⟩ := Region.waitsFor_spec hj
      obtain rfl : o = oj := Option.some.inj (ho.symm.trans hoj)
      subst hon
      exact ⟨hall e hem hb', he e hem hb'⟩
    obtain ⟨o2, d, ho2, hdst, hds, hwp⟩ := hob i hic vals w hb (fun j hj => hR j (hdep j hj).1)
    obtain rfl : o = o2 := Option.some.inj (ho.symm.trans ho2)
    have hag : ∀ d ∈ o.looksAt ops, ∀ j, dstOf ops j = some d → listed.getD j false = (upto ops ci i).getD j false := (fun d hd j hj => by
      have hjs : j < ops.size := by
        rcases Nat.lt_or_ge j ops.size with h | h
        · exact h
        · unfold dstOf at hj; rw [Array.getElem?_eq_none h] at hj; cases hj
      rw [upto_get]
      rcases hlk j hjs with h | h | h
      · rw [getD_both (htt j h)]
        have : j ∉ ci := fun hh => hit j hh h
        simp [this]
      · obtain ⟨h1, h2, h3⟩ := hdep j h
        rw [h1]; simp [hjs, h2, h3]
      · exact absurd hd (h d hj))
    have hex2 : execOp (frm ops a0 vals listed).eval o = execOp (frm ops a0 vals (upto ops ci i)).eval o := exec_frm o (fun cs b => Region.noSelect_spec hsel i o cs b ho) hag
    have hwn := wanted_frm (a0 := a0) (vals := vals) o hag
    have hdo : dstOf ops i = o.dst := by simp [dstOf, ho]
    have key : ∀ v w'', Below w.heap.size w w'' → R i v w'' → wpAny P md ops (NoPanic Q) (f + (ts.length + 1)) (listed.setIfInBounds i true) ((frm ops a0 vals listed).put o.dst v) w'' := fun v w'' hbw hRv => by
      rw [← hdo, frm_put hd (hlt i hic)]
      refine ih _ _ w'' (inv.set hi hnt) ?_ (below_trans hb hbw) (fun j hj => ?_)
      · have := count_set hnd hic hu
        omega
      · by_cases hji : j = i
        · subst hji; simpa [upd] using hRv
        · rw [getD_set_ne false (fun h => hji h.symm)] at hj
          simp only [upd, if_neg hji]
          exact hst j _ _ _ hbw (hR j hj)
    unfold wpOp
    simp only [ho]
    rw [hwn]
    split
    · rename_i hw
      rw [if_pos hw] at hwp
      refine .inl (Oper.wp_mono ?_ (wp_move hex2 hdst hds hwp))
      rintro x w'' ⟨v, rfl, hbw, hRv⟩
      exact key v w'' hbw hRv
    · rename_i hw
      rw [if_neg hw] at hwp
      exact key undef w (Below.refl _ _) hwp
def wpG (P : Program) (md : Region.Mode) (ops : Array Oper) (R : Nat → Value → World → Prop) (w0 : World) (Q : Exit → Act → World → Prop) (F : (Nat → Value) → Act → Prop) : List Nat → (Nat → Value) → Act → Prop
  | [], vals, a => F vals a
  | i :: l, vals, a => gOp P md ops R w0 Q i vals a ∧ ∀ v, wpG P md ops R w0 Q F l (upd vals i v) (a.put (dstOf ops i) v)
theorem frm_congr {a0 : Act} {vals vals' : Nat → Value} {L : Array Bool} (h : ∀ j, L.getD j false = true → vals j = vals' j) : frm ops a0 vals L = frm ops a0 vals' L := by
  unfold frm
  congr 1
  apply Array.ext (by simp)
  intro d h1 h2
  simp only [Array.getElem_mapIdx]
  cases ho : ownS ops L d with
  | none => rfl
  | some j => exact h j (ownS_some ho).1
theorem arr_ext {A B : Array Bool} (hs : A.size = B.size) (h : ∀ j, A.getD j false = B.getD j false) : A = B := by
  apply Array.ext hs
  intro j h1 h2
  have := h j
  simpa [Array.getD, h1, h2] using this
theorem upto_size (ci : List Nat) (i : Nat) : (upto ops ci i).size = ops.size := by simp [upto]
theorem upto_set {pre : List Nat} {i : Nat} (hi : i < ops.size) : (upto ops pre ops.size).setIfInBounds i true = upto ops (pre ++ [i]) ops.size := by
  apply arr_ext (by simp [upto_size])
  intro j
  by_cases h : i = j
  · subst h
    rw [upto_get]
    simp [Array.getD, upto_size, hi]
  · rw [getD_set_ne false h, upto_get, upto_get]
    have : ¬ j = i := fun e => h e.symm
    simp [this]
theorem upto_pre {pre l : List Nat} {i : Nat} (hp : (pre ++ i :: l).Pairwise (· < ·)) : upto ops (pre ++ i :: l) i = upto ops pre ops.size := by
  apply arr_ext (by simp [upto_size])
  intro j
  rw [upto_get, upto_get]
  obtain ⟨_, h2, h3⟩ := List.pairwise_append.1 hp
  have h4 := (List.pairwise_cons.1 h2).1
  by_cases hj : j < ops.size
  · by_cases hm : j ∈ pre
    · have := h3 j hm i (by simp)
      simp [hj, hm, this]
    · by_cases hji : j < i
      · have : j ∉ i :: l := fun hh => by
          rcases List.mem_cons.1 hh with rfl | hh
          · omega
          · have := h4 j hh; omega
        simp_all
      · simp [hj, hm, hji]
  · simp [hj]
theorem obs_of_wpG {ci : List Nat} {R : Nat → Value → World → Prop} {a0 : Act} {w0 : World} {F : (Nat → Value) → Act → Prop} (hd : distB ops = true) (hp : ci.Pairwise (· < ·)) (hlt : ∀ i ∈ ci, i < ops.size)
    (hdep : ∀ i ∈ ci, ∀ j, Region.waitsFor md ops i j = true → j < i ∧ j ∈ ci) :
    ∀ (l pre : List Nat) (vals0 : Nat → Value), ci = pre ++ l → wpG P md ops R w0 Q F l vals0 (frm ops a0 vals0 (upto ops pre ops.size)) →
      (∀ i ∈ l, ∀ vals : Nat → Value, (∀ j ∈ pre, vals j = vals0 j) → gOp P md ops R w0 Q i vals (frm ops a0 vals (upto ops ci i))) ∧
      (∀ vals : Nat → Value, (∀ j ∈ pre, vals j = vals0 j) → ∃ vals1 : Nat → Value, (∀ j ∈ ci, vals j = vals1 j) ∧ F vals1 (frm ops a0 vals1 (upto ops ci ops.size)))
  | [], pre, vals0, he, h => ⟨(fun i hi => by cases hi), fun vals hv => ⟨vals0, fun j hj => hv j (by simpa [he] using hj), by rw [he, List.append_nil]; exact h⟩⟩
  | i :: l, pre, vals0, he, h => by
    have hpre : ∀ j, (upto ops pre ops.size).getD j false = true → j ∈ pre := fun j hj => by
      rw [upto_get] at hj; simp at hj; exact hj.2
    have hu : upto ops ci i = upto ops pre ops.size := by rw [he]; exact upto_pre (he ▸ hp)
    have hici : i ∈ ci := by rw [he]; simp
    have step : ∀ vals : Nat → Value, (∀ j ∈ pre, vals j = vals0 j) → _ := fun vals hv =>
      obs_of_wpG hd hp hlt hdep l (pre ++ [i]) (upd vals0 i (vals i)) (by rw [he]; simp) (by
        have := h.2 (vals i)
        rw [frm_put hd (by rw [upto_size]; exact hlt i hici), upto_set (hlt i hici)] at this
        exact this)
    have agree : ∀ vals : Nat → Value, (∀ j ∈ pre, vals j = vals0 j) → ∀ j ∈ pre ++ [i], vals j = upd vals0 i (vals i) j := fun vals hv j hj => by
      by_cases hji : j = i
      · subst hji; simp [upd]
      · simp only [upd, if_neg hji]
        exact hv j (by simpa [hji] using hj)
    refine ⟨fun k hk vals hv => ?_, fun vals hv => (step vals hv).2 vals (agree vals hv)⟩
    rcases List.mem_cons.1 hk with rfl | hk
    · rw [hu, frm_congr (vals := vals) (vals' := vals0) (fun j hj => hv j (hpre j hj))]
      intro w' hb hR
      refine h.1 w' hb (fun j hj => ?_)
      obtain ⟨h1, h2⟩ := hdep k hici j hj
      have hjp : j ∈ pre := by
        have h3 : (upto ops ci k).getD j false = true := by rw [upto_get]; simp [hlt j h2, h1, h2]
        rw [hu] at h3
        exact hpre j h3
      rw [← hv j hjp]
      exact hR j hj
    · exact (step vals hv).1 k hk vals (agree vals hv)
theorem frm_nil {a0 : Act} {vals : Nat → Value} {L : Array Bool} (h : ∀ j, L.getD j false = false) : frm ops a0 vals L = a0 := by
  have hn : ∀ d, ownS ops L d = none := fun d => by
    cases ho : ownS ops L d with
    | none => rfl
    | some j => have := (ownS_some ho).1; rw [h j] at this; cases this
  show (⟨a0.tmps.mapIdx fun d v => match ownS ops L d with | some j => vals j | none => v, a0.defers⟩ : Act) = ⟨a0.tmps, a0.defers⟩
  congr 1
  apply Array.ext (by simp)
  intro d h1 h2
  simp only [Array.getElem_mapIdx, hn d]
theorem wp_region_grow {id : Nat} {a : Act} {w : World} {l : List Oper} (ci : List Nat) (t0 : Nat) (ts : List Nat) (R : Nat → Value → World → Prop) (hm : P.follows .mixedOrders = true) (hB : growB .any l.toArray ci t0 ts = true)
    (hst : ∀ i v w w', Below w.heap.size w w' → R i v w → R i v w')
    (h : wpG P .any l.toArray R w Q (fun vals a' => ∀ w', Below w.heap.size w w' → (∀ i ∈ ci, R i (vals i) w') → wpList P l.toArray (NoPanic Q) (opsAt l.toArray (t0 :: ts)) a' w') ci (fun _ => undef) a) :
    (Code.region id l.toArray true).wp P Q a w := by
  refine wp_region_noPanic (wp_region_any hm ?_)
  have hB' := hB
  simp only [growB, Bool.and_eq_true, decide_eq_true_eq] at hB
  obtain ⟨⟨⟨⟨⟨⟨⟨⟨⟨⟨⟨hsel, hd⟩, hnd⟩, hpw⟩, htl⟩, hsz⟩, hs⟩, hc⟩, hdis⟩, hcov⟩, hop⟩, hfo⟩ := hB
  have hlt : ∀ i ∈ ci, i < l.toArray.size := fun i hi => by
    have h := List.all_eq_true.1 hop i hi
    rcases Nat.lt_or_ge i l.toArray.size with h' | h'
    · exact h'
    · rw [Array.getElem?_eq_none h'] at h; cases h
  have hdep : ∀ i ∈ ci, ∀ j, Region.waitsFor .any l.toArray i j = true → j < i ∧ j ∈ ci := fun i hi j hj => by
    have h := List.all_eq_true.1 hop i hi
    obtain ⟨o, ho, e, hem, hb, rfl⟩ := Region.waitsFor_spec hj
    rw [ho] at h
    simp only [Bool.and_eq_true] at h
    have := Array.all_eq_true'.1 h.1 e hem
    simpa [hb] using this
  have hnil : ∀ j, (upto l.toArray [] l.toArray.size).getD j false = false := fun j => by rw [upto_get]; simp
  have hobs := obs_of_wpG (P := P) (md := .any) (Q := Q) (R := R) (a0 := a) (w0 := w) hd hpw hlt hdep ci [] (fun _ => undef) rfl (by rw [frm_nil hnil]; exact h)
  have hrep : ∀ j, (Array.replicate l.toArray.size false).getD j false = false := fun j => getD_replicate_false _ _
  have := any_of_grow (P := P) (Q := Q) hB' (a0 := a) (w0 := w) hst (fun i hi vals => hobs.1 i hi vals (by simp)) (fun vals w' hb hR => by
      obtain ⟨vals1, h1, h2⟩ := hobs.2 vals (by simp)
      rw [frm_congr (vals := vals) (vals' := vals1) (fun j hj => h1 j (by rw [upto_get] at hj; simp at hj; exact hj.2))]
      exact h2 w' hb (fun i hi => by rw [← h1 i hi]; exact hR i hi)) ci.length (Array.replicate l.toArray.size false) (fun _ => undef) { w with drawn := w.drawn + 1 }
    ⟨fun j oj _ hl => (by rw [hrep] at hl; cases hl), fun t _ ht => getD_in (by simpa using ht) (getD_replicate_false _ _), by simp⟩
    (by rw [List.filter_eq_self.2 (fun i _ => by rw [hrep]; rfl)]) ⟨rfl, rfl, rfl, Nat.le_refl _, fun _ _ => rfl⟩ (fun j hj => by rw [hrep] at hj; cases hj)
  rw [frm_nil hrep, hsz] at this
  exact this
end
end
/- Steps through a region in which several operations make memory. No program is named here. -/
section
open Go.RowKit
section
variable {P : Program} {ops : Array Oper} {md : Region.Mode} {Q : Exit → Act → World → Prop} {R : Nat → Value → World → Prop} {w0 : World} {F : (Nat → Value) → Act → Prop}
theorem wpG_nil {vals : Nat → Value} {a : Act} (h : F vals a) : wpG P md ops R w0 Q F [] vals a := h
theorem wpG_step {i : Nat} {l : List Nat} {vals : Nat → Value} {a : Act} (o : Oper) (d : Nat) (ho : ops[i]? = some o) (hd : o.dst = some d) (hlt : d < a.tmps.size)
    (h1 : ∀ w', Below w0.heap.size w0 w' → (∀ j, Region.waitsFor md ops i j = true → R j (vals j) w') →
      ∀ K : Act → World → Prop, (∀ v w'', Below w'.heap.size w' w'' → R i v w'' → K (a.put (some d) v) w'') → o.wp P a w' K (NoPanic Q))
    (h2 : ∀ v, wpG P md ops R w0 Q F l (upd vals i v) (a.put (some d) v)) (hgd : o.guard = none := by rfl) : wpG P md ops R w0 Q F (i :: l) vals a := by
  refine ⟨fun w' hb hR => ⟨o, d, ho, hd, hlt, ?_⟩, fun v => ?_⟩
  · rw [if_pos (by unfold Region.wanted; rw [hgd])]
    exact h1 w' hb hR _ (fun v w'' hb' hr => ⟨v, by rw [hd], hb', hr⟩)
  · have : dstOf ops i = some d := by simp [dstOf, ho, hd]
    rw [this]
    exact h2 v
theorem wgs {i : Nat} {l : List Nat} {vals : Nat → Value} {a : Act} {o : Oper} {d : Nat} (ho : ops[i]? = some o) (hd : o.dst = some d) (hlt : d < a.tmps.size)
    (h1 : ∀ w', Below w0.heap.size w0 w' → (∀ j, Region.waitsFor md ops i j = true → R j (vals j) w') →
      ∀ K : Act → World → Prop, (∀ v w'', Below w'.heap.size w' w'' → R i v w'' → K (a.put (some d) v) w'') → o.wp P a w' K (NoPanic Q))
    (h2 : ∀ v, wpG P md ops R w0 Q F l (upd vals i v) (a.put (some d) v)) (hgd : o.guard = none := by rfl) : wpG P md ops R w0 Q F (i :: l) vals a := wpG_step o d ho hd hlt h1 h2 hgd
theorem ifp {c : Prop} [Decidable c] {A B : Prop} (h : A) (hc : c := by simp [Region.wanted, yielded]) : if c then A else B := by rw [if_pos hc]; exact h
theorem ifn {c : Prop} [Decidable c] {A B : Prop} (h : B) (hc : ¬ c := by simp [Region.wanted, yielded]) : if c then A else B := by rw [if_neg hc]; exact h
/-- A step that a guard may skip. -/
theorem wpG_stepG {i : Nat} {l : List Nat} {vals : Nat → Value} {a : Act} (o : Oper) (d : Nat) (ho : ops[i]? = some o) (hd : o.dst = some d) (hlt : d < a.tmps.size)
    (h1 : ∀ w', Below w0.heap.size w0 w' → (∀ j, Region.waitsFor md ops i j = true → R j (vals j) w') →
      ∀ K : Act → World → Prop, (∀ v w'', Below w'.heap.size w' w'' → R i v w'' → K (a.put (some d) v) w'') → if Region.wanted o (yielded ops a.tmps) = true then o.wp P a w' K (NoPanic Q) else R i undef w')
    (h2 : ∀ v, wpG P md ops R w0 Q F l (upd vals i v) (a.put (some d) v)) : wpG P md ops R w0 Q F (i :: l) vals a := by
  refine ⟨fun w' hb hR => ⟨o, d, ho, hd, hlt, ?_⟩, fun v => ?_⟩
  · exact h1 w' hb hR (fun x w'' => ∃ v, x = a.put o.dst v ∧ Below w'.heap.size w' w'' ∧ R i v w'') (fun v w'' hb' hr => ⟨v, by rw [hd], hb', hr⟩)
  · have : dstOf ops i = some d := by simp [dstOf, ho, hd]
    rw [this]
    exact h2 v
theorem wgg {i : Nat} {l : List Nat} {vals : Nat → Value} {a : Act} {o : Oper} {d : Nat} (ho : ops[i]? = some o) (hd : o.dst = some d) (hlt : d < a.tmps.size)
    (h1 : ∀ w', Below w0.heap.size w0 w' → (∀ j, Region.waitsFor md ops i j = true → R j (vals j) w') →
      ∀ K : Act → World → Prop, (∀ v w'', Below w'.heap.size w' w'' → R i v w'' → K (a.put (some d) v) w'') → if Region.wanted o (yielded ops a.tmps) = true then o.wp P a w' K (NoPanic Q) else R i undef w')
    (h2 : ∀ v, wpG P md ops R w0 Q F l (upd vals i v) (a.put (some d) v)) : wpG P md ops R w0 Q F (i :: l) vals a := wpG_stepG o d ho hd hlt h1 h2
end
/-- What stays as memory grows. -/
def Stab (r : Value → World → Prop) : Prop := ∀ v w w', Below w.heap.size w w' → r v w → r v w'
def Stabs (l : List (Value → World → Prop)) : Prop := ∀ r ∈ l, Stab r
theorem Stabs.nil : Stabs [] := fun _ h => by cases h
theorem Stabs.cons {r : Value → World → Prop} {l : List (Value → World → Prop)} (h : Stab r) (t : Stabs l) : Stabs (r :: l) := fun s hs => by
  rcases List.mem_cons.1 hs with rfl | hs
  · exact h
  · exact t s hs
def IsV (c : Value) : Value → World → Prop := fun v _ => v = c
theorem stab_v (c : Value) : Stab (IsV c) := fun _ _ _ _ h => h
/-- The predicate of an operation, from a list. -/
def pick (l : List (Value → World → Prop)) (i : Nat) (v : Value) (w : World) : Prop := (l.getD i (fun _ _ => True)) v w
theorem Stabs.pick {l : List (Value → World → Prop)} (h : Stabs l) : ∀ i v w w', Below w.heap.size w w' → pick l i v w → pick l i v w' := fun i v w w' hb hp => by
  unfold Go.Proofs.YtjglkglaogaenaaGreatDoor.pick at *
  by_cases hi : i < l.length
  · have e : l.getD i (fun _ _ => True) = l[i] := by simp [List.getD, hi]
    rw [e] at hp ⊢
    exact h _ (List.getElem_mem hi) v w w' hb hp
  · have e : l.getD i (fun _ _ => True) = (fun _ _ => True) := by simp [List.getD, hi]
    rw [e]
    trivial
end
/- joint: between. -/
section
open Go.RowKit Go.Shelf
attribute [local go_sem] Ext.cell Ext.frozen
set_option maxRecDepth 100000 in
set_option maxHeartbeats 1000000 in
theorem between_any (ax : Nat) (lo hi : Int) (W : World) (hx : ax ≤ 2) (hlo : -1000000000 ≤ lo ∧ lo ≤ 1000000000) (hhi : -1000000000 ≤ hi ∧ hi ≤ 1000000000) :
    Calls Tryz.prog 105 #[.int .i64 ax, .int .i64 lo, .int .i64 hi] W fun e w' => ∃ r, e = .returned r ∧ Below W.heap.size W w' ∧ Raw w' 4 r (enc4 (axP ax (-1) (-lo)) ++ enc4 (axP ax 1 hi)) := by
  have h1 := fun W' => Lib.hid (least_any ax lo W' hx hlo)
  have h2 := fun W' => Lib.hid (most_any ax hi W' hx hhi)
  generalize axP ax (-1) (-lo) = p at *
  generalize axP ax 1 hi = q at *
  obtain ⟨p1, p2, p3, p4⟩ := p
  obtain ⟨q1, q2, q3, q4⟩ := q
  go_enter Tryz.func105, Tryz.ntmps105
  go_wp2_with fail
  refine ((h1 _).out).mono ?_
  rintro e w1 ⟨rfl, hb1⟩
  go_wp2_with fail
  refine ((h2 _).out).mono ?_
  rintro e w2 ⟨rfl, hb2⟩
  go_wp2
  go_ret
  refine ⟨_, rfl, below_trans (below_trans hb1 hb2) (by (repeat (first | exact brf | assumption | refine ble ?_ | refine blx ?_ | refine bla ?_ | refine bls ?_ | refine bld ?_))), _, _, _, rfl, rfl, (fun h => by cases h), ?_⟩
  intro ad ha j u hu
  cases ha
  rw [add0, cell_new rfl j]
  simpa [enc4] using hu
end
end Go.Proofs.YtjglkglaogaenaaGreatDoor
