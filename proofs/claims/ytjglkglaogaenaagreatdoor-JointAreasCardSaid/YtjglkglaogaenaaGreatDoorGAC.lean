/- texts of mine, merged: Grow0, P4, P5. -/
import Derived.Test.YtjglkglaogaenaaGreatDoorGL
import Derived.Test.YtjglkglaogaenaaGreatDoorGAB
import Derived.Test.YtjglkglaogaenaaGreatDoorGP
import Derived.Test.YtjglkglaogaenaaGreatDoorGO
/- The same as Grow with no forced tail: all operations come in any order. No program is named here. -/
namespace Go.Proofs.YtjglkglaogaenaaGreatDoor
section
open Go.RowKit
section
variable {P : Program} {ops : Array Oper} {md : Region.Mode} {Q : Exit → Act → World → Prop}
def growB0 (md : Region.Mode) (ops : Array Oper) (ci : List Nat) : Bool :=
  Region.noSelect ops && distB ops && decide ci.Nodup && decide (ci.Pairwise (· < ·)) && decide (ci.length = ops.size) &&
  ((List.range ops.size).all fun j => ci.contains j) &&
  (ci.all fun i => match ops[i]? with
    | some o => (o.after.all fun e => !Region.binds md e || (decide (e.on < i) && ci.contains e.on)) &&
        ((List.range ops.size).all fun j => Region.waitsFor md ops i j || !((dstOf ops j).any fun d => (o.looksAt ops).contains d))
    | none => false) &&
  (Region.ready md ops (upto ops ci ops.size)).isEmpty
theorem any_of_grow0 {ci : List Nat} (hB : growB0 md ops ci = true) {R : Nat → Value → World → Prop} {a0 : Act} {w0 : World}
    (hst : ∀ i v w w', Below w.heap.size w w' → R i v w → R i v w')
    (hob : ∀ i ∈ ci, ∀ vals, gOp P md ops R w0 Q i vals (frm ops a0 vals (upto ops ci i)))
    (hfin : ∀ vals w', Below w0.heap.size w0 w' → (∀ i ∈ ci, R i (vals i) w') → NoPanic Q .normal (frm ops a0 vals (upto ops ci ops.size)) w') :
    ∀ (f : Nat) (listed : Array Bool) (vals : Nat → Value) (w : World), Inv md ops [] listed → (ci.filter fun i => !listed.getD i false).length = f → Below w0.heap.size w0 w →
      (∀ j, listed.getD j false = true → R j (vals j) w) → wpAny P md ops (NoPanic Q) f listed (frm ops a0 vals listed) w := by
  simp only [growB0, Bool.and_eq_true, decide_eq_true_eq] at hB
  obtain ⟨⟨⟨⟨⟨⟨⟨hsel, hd⟩, hnd⟩, _⟩, hsz⟩, hcov⟩, hop⟩, hfo⟩ := hB
  have hcv : ∀ j, j < ops.size → j ∈ ci := fun j hj => by have := List.all_eq_true.1 hcov j (List.mem_range.2 hj); simpa using this
  have hops : ∀ i ∈ ci, ∃ o, ops[i]? = some o ∧ (∀ e ∈ o.after, Region.binds md e = true → e.on < i ∧ e.on ∈ ci) ∧ (∀ j, j < ops.size → Region.waitsFor md ops i j = true ∨ ∀ d, dstOf ops j = some d → d ∉ o.looksAt ops) := fun i hi => by
    have h := List.all_eq_true.1 hop i hi
    cases ho : ops[i]? with
    | none => rw [ho] at h; cases h
    | some o =>
      rw [ho] at h
      simp only [Bool.and_eq_true] at h
      obtain ⟨he, hl⟩ := h
      refine ⟨o, rfl, fun e hem hb => ?_, fun j hj => ?_⟩
      · have := Array.all_eq_true'.1 he e hem
        simpa [hb] using this
      · have := List.all_eq_true.1 hl j (List.mem_range.2 hj)
        simp only [Bool.or_eq_true] at this
        rcases this with h | h
        · exact .inl h
        · refine .inr fun d hd hm => ?_
          rw [hd] at h
          simp [hm] at h
  intro f
  induction f with
  | zero =>
    intro listed vals w inv hcnt hb hR
    have hall : ∀ i ∈ ci, listed.getD i false = true := fun i hi => by
      have := List.filter_eq_nil_iff.1 (List.length_eq_zero_iff.1 hcnt) i hi
      simpa using this
    have hL : listed = upto ops ci ops.size := by
      have hsz2 : (upto ops ci ops.size).size = ops.size := by simp [upto]
      apply Array.ext (by rw [inv.size, hsz2])
      intro j h1 h2
      have e1 : listed[j] = listed.getD j false := by simp [Array.getD, h1]
      have e2 : (upto ops ci ops.size)[j] = (upto ops ci ops.size).getD j false := by simp [Array.getD, h2]
      have hj : j < ops.size := by rw [← inv.size]; exact h1
      rw [e1, e2, upto_get]
      have h := hcv j hj
      rw [hall j h]; simp [hj, h]
    subst hL
    exact ⟨by simpa using hfo, hfin vals w hb fun i hi => hR i (hall i hi)⟩
  | succ f ih =>
    intro listed vals w inv hcnt hb hR
    have hlt : ∀ i ∈ ci, i < listed.size := fun i hi => by
      obtain ⟨o, ho, _⟩ := hops i hi
      rw [inv.size]; exact (Array.getElem?_eq_some_iff.1 ho).1
    have hun : ∃ i ∈ ci, listed.getD i true = false := by
      cases hfl : (ci.filter fun i => !listed.getD i false) with
      | nil => rw [hfl] at hcnt; cases hcnt
      | cons i l =>
        have hi : i ∈ ci.filter fun i => !listed.getD i false := by rw [hfl]; simp
        obtain ⟨h1, h2⟩ := List.mem_filter.1 hi
        exact ⟨i, h1, getD_in (hlt i h1) (by simpa using h2)⟩
    have hex : ∀ n i, i ≤ n → i ∈ ci → listed.getD i true = false → ∃ k, k ∈ Region.ready md ops listed := by
      intro n
      induction n with
      | zero =>
        intro i hin hi hu
        obtain ⟨o, ho, he, _⟩ := hops i hi
        exact ⟨i, mem_ready.2 ⟨hu, o, ho, fun e hem hb => by have := (he e hem hb).1; omega⟩⟩
      | succ n ihn =>
        intro i hin hi hu
        obtain ⟨o, ho, he, _⟩ := hops i hi
        by_cases hall : ∀ e ∈ o.after, Region.binds md e = true → listed.getD e.on false = true
        · exact ⟨i, mem_ready.2 ⟨hu, o, ho, hall⟩⟩
        · simp only [Classical.not_forall] at hall
          obtain ⟨e, hem, hb, hn⟩ := hall
          obtain ⟨h1, h2⟩ := he e hem hb
          exact ihn e.on (by omega) h2 (getD_in (hlt _ h2) (by simpa using hn))
    obtain ⟨i1, hi1, hu1⟩ := hun
    obtain ⟨k, hk⟩ := hex i1 i1 (Nat.le_refl _) hi1 hu1
    refine ⟨fun h0 => (by rw [h0] at hk; cases hk), fun i hi => ?_⟩
    obtain ⟨hu, o, ho, hall⟩ := mem_ready.1 hi
    have hic : i ∈ ci := hcv i (Array.getElem?_eq_some_iff.1 ho).1
    obtain ⟨o', ho', he, hlk⟩ := hops i hic
    obtain rfl : o = o' := Option.some.inj (ho.symm.trans ho')
    have hdep : ∀ j, Region.waitsFor md ops i j = true → listed.getD j false = true ∧ j < i ∧ j ∈ ci := fun j hj => by
      obtain ⟨oj, hoj, e, hem, hb', hon⟩ := Region.waitsFor_spec hj
      obtain rfl : o = oj := Option.some.inj (ho.symm.trans hoj)
      subst hon
      exact ⟨hall e hem hb', he e hem hb'⟩
    obtain ⟨o2, d, ho2, hdst, hds, hwp⟩ := hob i hic vals w hb (fun j hj => hR j (hdep j hj).1)
    obtain rfl : o = o2 := Option.some.inj (ho.symm.trans ho2)
    have hag : ∀ d ∈ o.looksAt ops, ∀ j, dstOf ops j = some d → listed.getD j false = (upto ops ci i).getD j false := (fun d hd j hj => by
      have hjs : j < ops.size := by
        rcases Nat.lt_or_ge j ops.size with h | h
        · exact h
        · unfold dstOf at hj; rw [Array.getElem?_eq_none h] at hj; cases hj
      rw [upto_get]
      rcases hlk j hjs with h | h
      · obtain ⟨h1, h2, h3⟩ := hdep j h
        rw [h1]; simp [hjs, h2, h3]
      · exact absurd hd (h d hj))
    have hex2 : execOp (frm ops a0 vals listed).eval o = execOp (frm ops a0 vals (upto ops ci i)).eval o := exec_frm o (fun cs b => Region.noSelect_spec hsel i o cs b ho) hag
    have hwn := wanted_frm (a0 := a0) (vals := vals) o hag
    have hdo : dstOf ops i = o.dst := by simp [dstOf, ho]
    have key : ∀ v w'', Below w.heap.size w w'' → R i v w'' → wpAny P md ops (NoPanic Q) f (listed.setIfInBounds i true) ((frm ops a0 vals listed).put o.dst v) w'' := fun v w'' hbw hRv => by
      rw [← hdo, frm_put hd (hlt i hic)]
      refine ih _ _ w'' (inv.set hi (by simp)) ?_ (below_trans hb hbw) (fun j hj => ?_)
      · have := count_set hnd hic hu
        omega
      · by_cases hji : j = i
        · subst hji; simpa [upd] using hRv
        · rw [getD_set_ne false (fun h => hji h.symm)] at hj
          simp only [upd, if_neg hji]
          exact hst j _ _ _ hbw (hR j hj)
    unfold wpOp
    simp only [ho]
    rw [hwn]
    split
    · rename_i hw
      rw [if_pos hw] at hwp
      refine .inl (Oper.wp_mono ?_ (wp_move hex2 hdst hds hwp))
      rintro x w'' ⟨v, rfl, hbw, hRv⟩
      exact key v w'' hbw hRv
    · rename_i hw
      rw [if_neg hw] at hwp
      exact key undef w (Below.refl _ _) hwp
theorem wp_region_grow0 {id : Nat} {a : Act} {w : World} {l : List Oper} (ci : List Nat) (R : Nat → Value → World → Prop) (hm : P.follows .mixedOrders = true) (hB : growB0 .any l.toArray ci = true)
    (hst : ∀ i v w w', Below w.heap.size w w' → R i v w → R i v w')
    (h : wpG P .any l.toArray R w Q (fun vals a' => ∀ w', Below w.heap.size w w' → (∀ i ∈ ci, R i (vals i) w') → Q .normal a' w') ci (fun _ => undef) a) :
    (Code.region id l.toArray true).wp P Q a w := by
  refine wp_region_noPanic (wp_region_any hm ?_)
  have hB' := hB
  simp only [growB0, Bool.and_eq_true, decide_eq_true_eq] at hB
  obtain ⟨⟨⟨⟨⟨⟨⟨hsel, hd⟩, hnd⟩, hpw⟩, hsz⟩, hcov⟩, hop⟩, hfo⟩ := hB
  have hlt : ∀ i ∈ ci, i < l.toArray.size := fun i hi => by
    have h := List.all_eq_true.1 hop i hi
    rcases Nat.lt_or_ge i l.toArray.size with h' | h'
    · exact h'
    · rw [Array.getElem?_eq_none h'] at h; cases h
  have hdep : ∀ i ∈ ci, ∀ j, Region.waitsFor .any l.toArray i j = true → j < i ∧ j ∈ ci := fun i hi j hj => by
    have h := List.all_eq_true.1 hop i hi
    obtain ⟨o, ho, e, hem, hb, rfl⟩ := Region.waitsFor_spec hj
    rw [ho] at h
    simp only [Bool.and_eq_true] at h
    have := Array.all_eq_true'.1 h.1 e hem
    simpa [hb] using this
  have hnil : ∀ j, (upto l.toArray [] l.toArray.size).getD j false = false := fun j => by rw [upto_get]; simp
  have hobs := obs_of_wpG (P := P) (md := .any) (Q := Q) (R := R) (a0 := a) (w0 := w) hd hpw hlt hdep ci [] (fun _ => undef) rfl (by rw [frm_nil hnil]; exact h)
  have hrep : ∀ j, (Array.replicate l.toArray.size false).getD j false = false := fun j => getD_replicate_false _ _
  have := any_of_grow0 (P := P) (Q := Q) hB' (a0 := a) (w0 := w) hst (fun i hi vals => hobs.1 i hi vals (by simp)) (fun vals w' hb hR => by
      obtain ⟨vals1, h1, h2⟩ := hobs.2 vals (by simp)
      rw [frm_congr (vals := vals) (vals' := vals1) (fun j hj => h1 j (by rw [upto_get] at hj; simp at hj; exact hj.2))]
      exact NoPanic.normal (h2 w' hb (fun i hi => by rw [← h1 i hi]; exact hR i hi))) ci.length (Array.replicate l.toArray.size false) (fun _ => undef) { w with drawn := w.drawn + 1 }
    ⟨fun j oj _ hl => (by rw [hrep] at hl; cases hl), fun t ht _ => (by cases ht), by simp⟩
    (by rw [List.filter_eq_self.2 (fun i _ => by rw [hrep]; rfl)]) ⟨rfl, rfl, rfl, Nat.le_refl _, fun _ _ => rfl⟩ (fun j hj => by rw [hrep] at hj; cases hj)
  rw [frm_nil hrep, hsz] at this
  exact this
end
end
/- joint: Area at scarf and fingers. -/
section
open Go.RowKit Go.Shelf
attribute [local go_sem] Ext.cell Ext.frozen
set_option maxRecDepth 100000 in
set_option maxHeartbeats 4000000 in
theorem Area_7 (l w t : Int) (nv : Value) (n : List Int) (W : World) (hn : Ints W nv n) (h1 : 1 ≤ n.length) (h24 : n.length ≤ 24) (hl : 1 ≤ l ∧ l ≤ 100000) (ht : 1 ≤ t ∧ t ≤ 100000)
    (hc : ∀ W', Below W.heap.size W W' → Calls Tryz.prog 23 #[vJ 7 l w t nv] W' (Ret W' (.int .i64 0))) :
    Calls Tryz.prog 35 #[vJ 7 l w t nv] W fun e w' => e = retA 0 ((n.length : Int) * l * t) 0 ∧ Below W.heap.size W w' := by
  have Hc := fun W' h => Lib.hid (hc W' h)
  unfold vJ at *
  obtain ⟨b, off, c, rfl, hcc, zb, hi⟩ := hn.at' (by omega)
  generalize n.length = q at *
  clear hi hn hc hcc
  have p1 := mul_bd (a := q) (x := l) (A := 24) (X := 100000) (by omega) (by omega) (by omega) (by omega)
  obtain ⟨m1, Hm1⟩ : ∃ m1, Hid (q * l = m1) := ⟨_, Lib.hid rfl⟩
  rw [Hm1.out] at p1
  have w1 : wrap64 (q * l) = m1 := by rw [Hm1.out]; unfold wrap64; omega
  have v1 : IntKind.i64.wrap (q * l) = m1 := (IntWalk.i64_in _ (by rw [Hm1.out]; omega)).trans Hm1.out
  have p2 := mul_bd (a := m1) (x := t) (A := 2400000) (X := 100000) (by omega) (by omega) (by omega) (by omega)
  obtain ⟨m2, Hm2⟩ : ∃ m2, Hid (m1 * t = m2) := ⟨_, Lib.hid rfl⟩
  rw [Hm2.out] at p2
  have w2 : wrap64 (m1 * t) = m2 := by rw [Hm2.out]; unfold wrap64; omega
  have v2 : IntKind.i64.wrap (m1 * t) = m2 := (IntWalk.i64_in _ (by rw [Hm2.out]; omega)).trans Hm2.out
  -- a is m2
  go_enter Tryz.func35, Tryz.ntmps35
  go_wp2_with fail
  refine ((Hc _ (by (repeat (first | exact brf | assumption | refine ble ?_ | refine blx ?_ | refine bla ?_ | refine bls ?_ | refine bld ?_)))).out).mono ?_
  rintro e w1 ⟨rfl, hb1⟩
  have hw1 := below_trans (show Below W.heap.size W ((W.alloc (.cells #[.int .i64 7, .int .i64 l, .int .i64 w, .int .i64 t, .slice (some ⟨b, off, none⟩) q c] 25)).alloc (.cells #[.int .i64 0, .int .i64 0, .int .i64 0] 22)) by (repeat (first | exact brf | assumption | refine ble ?_ | refine blx ?_ | refine bla ?_ | refine bls ?_ | refine bld ?_))) hb1
  have HJ := Lib.hid ((hb1.block W.heap.size (by simp; omega)).trans ((heap_old (by simp)).trans (heap_new rfl)))
  have HR := Lib.hid ((hb1.block (W.heap.size + 1) (by simp)).trans (heap_new (by simp)))
  have c0 := (blk_cell HJ.out 0).trans rfl
  have c1 := (blk_cell HJ.out 1).trans rfl
  have c2 := (blk_cell HJ.out 2).trans rfl
  have c3 := (blk_cell HJ.out 3).trans rfl
  have c4 := (blk_cell HJ.out 4).trans rfl
  simp only [List.getElem?_toArray, List.getElem?_cons_zero, List.getElem?_cons_succ] at c0 c1 c2 c3 c4
  have zj := blk_lt HJ.out
  clear hb1 Hc
  go_wp2
  refine wp_region_quietB (by kernel_rfl) (by kernel_rfl) ?_
  repeat (first | go_big_quiet_step (fail) | quiet_step (fail))
  refine wpQuiet_nil ?_
  rintro _ ⟨u, rfl⟩
  have HJu := Lib.hid ((u.below.block _ zj).trans HJ.out)
  have HRu := Lib.hid ((u.below.block _ (blk_lt HR.out)).trans HR.out)
  have hwu : Below W.heap.size W u.val := below_trans hw1 u.below
  clear HJ HR c0 c1 c2 c3 c4 zj
  generalize u.val = w9 at *
  clear u
  have c0 := (blk_cell HJu.out 0).trans rfl
  have c4 := (blk_cell HJu.out 4).trans rfl
  have e0 := (blk_cell HRu.out 0).trans rfl
  have e1 := (blk_cell HRu.out 1).trans rfl
  have e2 := (blk_cell HRu.out 2).trans rfl
  have f0 := blk_free HRu.out 0
  have f1 := blk_free HRu.out 1
  have f2 := blk_free HRu.out 2
  have zu := blk_lt HRu.out
  have zju := blk_lt HJu.out
  have zb9 := Nat.lt_of_lt_of_le zb hwu.size
  simp only [List.getElem?_toArray, List.getElem?_cons_zero, List.getElem?_cons_succ] at c0 c4 e0 e1 e2
  go_wp2
  refine bodyPost_ret (v := .tuple #[.agg #[.int .i64 (0), .int .i64 (m2), .int .i64 (0)], .int .i64 0]) (by simp [results, Tryz.results35, go_sem, e0, e1, e2]) rfl ⟨?_, ?_⟩
  · exact retA_eq rfl (by rw [← Hm2.out, ← Hm1.out]) rfl
  · refine Below.setCell (Below.setCell (Below.setCell hwu ?_ _) ?_ _) ?_ _ <;> simp
set_option maxRecDepth 100000 in
set_option maxHeartbeats 4000000 in
theorem Area_6 (l w t : Int) (nv : Value) (n : List Int) (W : World) (hn : Ints W nv n) (hlen : n.length = 3) (hw : 1 ≤ w ∧ w ≤ 100000) (ht : 1 ≤ t ∧ t ≤ 100000) (h1 : 1 ≤ n.getD 1 0 ∧ n.getD 1 0 ≤ 8) (h2 : -8 ≤ n.getD 2 0 ∧ n.getD 2 0 ≤ 8)
    (hc : ∀ W', Below W.heap.size W W' → Calls Tryz.prog 23 #[vJ 6 l w t nv] W' (Ret W' (.int .i64 0))) :
    Calls Tryz.prog 35 #[vJ 6 l w t nv] W fun e w' => e = retA (t * w) 0 ((((n.getD 2 0 * t).tdiv (n.getD 1 0)).natAbs : Int) * w) ∧ Below W.heap.size W w' := by
  have Hc := fun W' h => Lib.hid (hc W' h)
  unfold vJ at *
  obtain ⟨b, off, c, rfl, hcc, zb, hi⟩ := hn.at' (by omega)
  have n1 := hi 1 (by omega)
  have n2 := hi 2 (by omega)
  rw [hlen] at Hc ⊢
  generalize n.getD 1 0 = x1 at *
  generalize n.getD 2 0 = x2 at *
  clear hi hn hc hlen hcc
  have p1 := mul_bd (a := t) (x := w) (A := 100000) (X := 100000) (by omega) (by omega) (by omega) (by omega)
  obtain ⟨m1, Hm1⟩ : ∃ m1, Hid (t * w = m1) := ⟨_, Lib.hid rfl⟩
  rw [Hm1.out] at p1
  have w1 : wrap64 (t * w) = m1 := by rw [Hm1.out]; unfold wrap64; omega
  have v1 : IntKind.i64.wrap (t * w) = m1 := (IntWalk.i64_in _ (by rw [Hm1.out]; omega)).trans Hm1.out
  -- a is m1
  have p2 := mul_bd (a := x2) (x := t) (A := 8) (X := 100000) (by omega) (by omega) (by omega) (by omega)
  obtain ⟨m2, Hm2⟩ : ∃ m2, Hid (x2 * t = m2) := ⟨_, Lib.hid rfl⟩
  rw [Hm2.out] at p2
  have w2 : wrap64 (x2 * t) = m2 := by rw [Hm2.out]; unfold wrap64; omega
  have v2 : IntKind.i64.wrap (x2 * t) = m2 := (IntWalk.i64_in _ (by rw [Hm2.out]; omega)).trans Hm2.out
  -- b is m2
  have bd := tdiv_bd' m2 x1 800000 (by omega)
  have hx0 : ¬ x1 = 0 := by omega
  have hx0' : (x1 == 0) = false := by simp; omega
  have vq : IntKind.i64.wrap (m2.tdiv x1) = m2.tdiv x1 := IntWalk.i64_in _ (by omega)
  have hS := fun W' => Lib.hid (size_any (m2.tdiv x1) W' (by omega))
  obtain ⟨z, Hz⟩ : ∃ z, Hid (((m2.tdiv x1).natAbs : Int) = z) := ⟨_, Lib.hid rfl⟩
  have hzb : 0 ≤ z ∧ z ≤ 800000 := by have := Hz.out; omega
  rw [Hz.out] at hS
  have p9 := mul_bd (a := z) (x := w) (A := 800000) (X := 100000) (by omega) (by omega) (by omega) (by omega)
  obtain ⟨m9, Hm9⟩ : ∃ m9, Hid (z * w = m9) := ⟨_, Lib.hid rfl⟩
  rw [Hm9.out] at p9
  have v9 : IntKind.i64.wrap (z * w) = m9 := (IntWalk.i64_in _ (by rw [Hm9.out]; omega)).trans Hm9.out
  go_enter Tryz.func35, Tryz.ntmps35
  go_wp2_with fail
  refine ((Hc _ (by (repeat (first | exact brf | assumption | refine ble ?_ | refine blx ?_ | refine bla ?_ | refine bls ?_ | refine bld ?_)))).out).mono ?_
  rintro e w1 ⟨rfl, hb1⟩
  have hw1 := below_trans (show Below W.heap.size W ((W.alloc (.cells #[.int .i64 6, .int .i64 l, .int .i64 w, .int .i64 t, .slice (some ⟨b, off, none⟩) 3 c] 25)).alloc (.cells #[.int .i64 0, .int .i64 0, .int .i64 0] 22)) by (repeat (first | exact brf | assumption | refine ble ?_ | refine blx ?_ | refine bla ?_ | refine bls ?_ | refine bld ?_))) hb1
  have HJ := Lib.hid ((hb1.block W.heap.size (by simp; omega)).trans ((heap_old (by simp)).trans (heap_new rfl)))
  have HR := Lib.hid ((hb1.block (W.heap.size + 1) (by simp)).trans (heap_new (by simp)))
  have c0 := (blk_cell HJ.out 0).trans rfl
  have c1 := (blk_cell HJ.out 1).trans rfl
  have c2 := (blk_cell HJ.out 2).trans rfl
  have c3 := (blk_cell HJ.out 3).trans rfl
  have c4 := (blk_cell HJ.out 4).trans rfl
  simp only [List.getElem?_toArray, List.getElem?_cons_zero, List.getElem?_cons_succ] at c0 c1 c2 c3 c4
  have zj := blk_lt HJ.out
  clear hb1 Hc
  go_wp2
  refine wp_region_quietB (by kernel_rfl) (by kernel_rfl) ?_
  repeat (first | go_big_quiet_step (fail) | quiet_step (fail))
  refine wpQuiet_nil ?_
  rintro _ ⟨u, rfl⟩
  have HJu := Lib.hid ((u.below.block _ zj).trans HJ.out)
  have HRu := Lib.hid ((u.below.block _ (blk_lt HR.out)).trans HR.out)
  have hwu : Below W.heap.size W u.val := below_trans hw1 u.below
  clear HJ HR c0 c1 c2 c3 c4 zj
  generalize u.val = w9 at *
  clear u
  have c0 := (blk_cell HJu.out 0).trans rfl
  have c4 := (blk_cell HJu.out 4).trans rfl
  have e0 := (blk_cell HRu.out 0).trans rfl
  have e1 := (blk_cell HRu.out 1).trans rfl
  have e2 := (blk_cell HRu.out 2).trans rfl
  have f0 := blk_free HRu.out 0
  have f1 := blk_free HRu.out 1
  have f2 := blk_free HRu.out 2
  have zu := blk_lt HRu.out
  have zju := blk_lt HJu.out
  have zb9 := Nat.lt_of_lt_of_le zb hwu.size
  simp only [List.getElem?_toArray, List.getElem?_cons_zero, List.getElem?_cons_succ] at c0 c4 e0 e1 e2
  have n1 := below_cell hwu n1
  have n2 := below_cell hwu n2
  go_wp2
  refine wp_region_tailB 16 (by kernel_rfl) (by kernel_rfl) ?_
  simp only [List.take_succ_cons, List.take_zero, List.drop_succ_cons, List.drop_zero]
  repeat (first | go_big_quiet_step (((go_at_call 85; refine ((hS _).out).mono ?_; rintro e w9 ⟨rfl, rfl⟩; exact ⟨rfl, _, rfl⟩))) | quiet_step (((go_at_call 85; refine ((hS _).out).mono ?_; rintro e w9 ⟨rfl, rfl⟩; exact ⟨rfl, _, rfl⟩))))
  refine wpQuiet_nil ?_
  rintro _ ⟨u, rfl⟩
  have HRv := Lib.hid ((u.below.block _ zu).trans HRu.out)
  have HJv := Lib.hid ((u.below.block _ zju).trans HJu.out)
  have hwv : Below W.heap.size W u.val := below_trans hwu u.below
  have hub := u.below
  clear e0 e1 e2 f0 f1 f2 c0 c4 zu zju zb9 HRu HJu hwu
  generalize u.val = w8 at *
  clear u
  have HRu := HRv
  have HJu := HJv
  have hwu := hwv
  clear HRv HJv hwv
  have c0 := (blk_cell HJu.out 0).trans rfl
  have c4 := (blk_cell HJu.out 4).trans rfl
  have e0 := (blk_cell HRu.out 0).trans rfl
  have e1 := (blk_cell HRu.out 1).trans rfl
  have e2 := (blk_cell HRu.out 2).trans rfl
  have f0 := blk_free HRu.out 0
  have f1 := blk_free HRu.out 1
  have f2 := blk_free HRu.out 2
  have zu := blk_lt HRu.out
  have zju := blk_lt HJu.out
  have zb9 := Nat.lt_of_lt_of_le zb hwu.size
  simp only [List.getElem?_toArray, List.getElem?_cons_zero, List.getElem?_cons_succ] at c0 c4 e0 e1 e2
  clear hub
  go_wp2
  refine bodyPost_ret (v := .tuple #[.agg #[.int .i64 (m1), .int .i64 (0), .int .i64 (m9)], .int .i64 0]) (by simp [results, Tryz.results35, go_sem, e0, e1, e2]) rfl ⟨?_, ?_⟩
  · exact retA_eq Hm1.out.symm rfl (by rw [← Hm9.out, ← Hz.out, ← Hm2.out])
  · refine Below.setCell (Below.setCell (Below.setCell hwu ?_ _) ?_ _) ?_ _ <;> simp
end
/- joint: Area at dowels. -/
section
open Go.RowKit Go.Shelf
attribute [local go_sem] Ext.cell Ext.frozen
def IsLn (m : Nat) : Value → World → Prop := fun v _ => ∃ a c, v = .slice a m c
theorem stab_ln (m : Nat) : Stab (IsLn m) := fun _ _ _ _ h => h
theorem len_own {w : World} {base : Nat} {e : TypeId} {size n : Nat} {v : Value} {xs : List Value} (h : w.ownsRow base e size v n xs) : IsLn n v w := by
  rcases h.2 with ⟨rfl, h0⟩ | ⟨g, cap, cur, rfl, _⟩
  · exact ⟨none, 0, by rw [h0]⟩
  · exact ⟨_, _, rfl⟩
theorem tightV_bd (a g B : Int) (h : -B ≤ a ∧ a ≤ B) : -B ≤ tightV a g ∧ tightV a g ≤ B := by unfold tightV; split <;> omega
set_option maxRecDepth 100000 in
set_option maxHeartbeats 8000000 in
theorem Area_8 (l w t : Int) (nv : Value) (n : List Int) (W : World) (kk : Nat) (hn : Ints W nv n) (hlen : n.length = 6 + 2 * kk) (hk1 : 1 ≤ kk) (hk : kk ≤ 24) (hw : 1 ≤ w ∧ w ≤ 100000) (ht : 1 ≤ t ∧ t ≤ 100000) (hb : ∀ i, i < n.length → -100000 ≤ n.getD i 0 ∧ n.getD i 0 ≤ 100000)
    (hc : ∀ W', Below W.heap.size W W' → Calls Tryz.prog 23 #[vJ 8 l w t nv] W' (Ret W' (.int .i64 0))) :
    Calls Tryz.prog 35 #[vJ 8 l w t nv] W fun e w' => e = retA (w * t - (kk : Int) * (4 * n.getD 1 0 * n.getD 1 0 - 2 * (2 * n.getD 1 0 - n.getD 2 0) * (2 * n.getD 1 0 - n.getD 2 0)) + tightV (2 * (kk : Int) * (4 * n.getD 1 0 * n.getD 1 0 - 2 * (2 * n.getD 1 0 - n.getD 2 0) * (2 * n.getD 1 0 - n.getD 2 0))) (n.getD 5 0)) (4 * (kk : Int) * n.getD 1 0 * (n.getD 3 0 + n.getD 4 0)) (4 * (kk : Int) * n.getD 1 0 * (n.getD 3 0 + n.getD 4 0)) ∧ Below W.heap.size W w' := by
  have Hc := fun W' h => Lib.hid (hc W' h)
  have hH := fun W' h => Lib.hid (holes_any nv n W' kk (hn.below (w' := W') h) hlen (by omega))
  unfold vJ at *
  obtain ⟨b, off, c, rfl, hcc, zb, hi⟩ := hn.at' (by omega)
  have n1 := hi 1 (by omega)
  have n2 := hi 2 (by omega)
  have n3 := hi 3 (by omega)
  have n4 := hi 4 (by omega)
  have n5 := hi 5 (by omega)
  have b1 := hb 1 (by omega)
  have b2 := hb 2 (by omega)
  have b3 := hb 3 (by omega)
  have b4 := hb 4 (by omega)
  obtain ⟨q, Hq⟩ : ∃ q, Hid (6 + 2 * kk = q) := ⟨_, Lib.hid rfl⟩
  have q1 : (1 : Int) < (q : Int) := by have := Hq.out; omega
  have q2 : (2 : Int) < (q : Int) := by have := Hq.out; omega
  have q3 : (3 : Int) < (q : Int) := by have := Hq.out; omega
  have q4 : (4 : Int) < (q : Int) := by have := Hq.out; omega
  have q5 : (5 : Int) < (q : Int) := by have := Hq.out; omega
  rw [hlen] at Hc hH ⊢
  rw [Hq.out] at Hc hH ⊢
  generalize n.getD 1 0 = x1 at *
  generalize n.getD 2 0 = x2 at *
  generalize n.getD 3 0 = x3 at *
  generalize n.getD 4 0 = x4 at *
  generalize n.getD 5 0 = x5 at *
  clear hi hn hc hb hlen hcc
  have hT := fun a W' => Lib.hid (tight_any a x5 W')
  have w1 : wrap64 (4 * x1) = 4 * x1 := by unfold wrap64; omega
  have v1 : IntKind.i64.wrap (4 * x1) = 4 * x1 := IntWalk.i64_in _ (by omega)
  have p2 := mul_bd (a := 4 * x1) (x := x1) (A := 400000) (X := 100000) (by omega) (by omega) (by omega) (by omega)
  obtain ⟨m2, Hm2⟩ : ∃ m2, Hid ((4 * x1) * x1 = m2) := ⟨_, Lib.hid rfl⟩
  rw [Hm2.out] at p2
  have w2 : wrap64 ((4 * x1) * x1) = m2 := by rw [Hm2.out]; unfold wrap64; omega
  have v2 : IntKind.i64.wrap ((4 * x1) * x1) = m2 := (IntWalk.i64_in _ (by rw [Hm2.out]; omega)).trans Hm2.out
  have w3 : wrap64 (2 * x1) = 2 * x1 := by unfold wrap64; omega
  have v3 : IntKind.i64.wrap (2 * x1) = 2 * x1 := IntWalk.i64_in _ (by omega)
  have w4 : wrap64 (2 * x1 - x2) = 2 * x1 - x2 := by unfold wrap64; omega
  have v4 : IntKind.i64.wrap (2 * x1 - x2) = 2 * x1 - x2 := IntWalk.i64_in _ (by omega)
  have w5 : wrap64 (2 * (2 * x1 - x2)) = 2 * (2 * x1 - x2) := by unfold wrap64; omega
  have v5 : IntKind.i64.wrap (2 * (2 * x1 - x2)) = 2 * (2 * x1 - x2) := IntWalk.i64_in _ (by omega)
  have p6 := mul_bd (a := 2 * (2 * x1 - x2)) (x := 2 * x1 - x2) (A := 600000) (X := 300000) (by omega) (by omega) (by omega) (by omega)
  obtain ⟨m6, Hm6⟩ : ∃ m6, Hid ((2 * (2 * x1 - x2)) * (2 * x1 - x2) = m6) := ⟨_, Lib.hid rfl⟩
  rw [Hm6.out] at p6
  have w6 : wrap64 ((2 * (2 * x1 - x2)) * (2 * x1 - x2)) = m6 := by rw [Hm6.out]; unfold wrap64; omega
  have v6 : IntKind.i64.wrap ((2 * (2 * x1 - x2)) * (2 * x1 - x2)) = m6 := (IntWalk.i64_in _ (by rw [Hm6.out]; omega)).trans Hm6.out
  have w7 : wrap64 (m2 - m6) = m2 - m6 := by unfold wrap64; omega
  have v7 : IntKind.i64.wrap (m2 - m6) = m2 - m6 := IntWalk.i64_in _ (by omega)
  -- o is m2 - m6
  have w8 : wrap64 (4 * kk) = 4 * kk := by unfold wrap64; omega
  have v8 : IntKind.i64.wrap (4 * kk) = 4 * kk := IntWalk.i64_in _ (by omega)
  have p9 := mul_bd (a := 4 * kk) (x := x1) (A := 96) (X := 100000) (by omega) (by omega) (by omega) (by omega)
  obtain ⟨m9, Hm9⟩ : ∃ m9, Hid ((4 * kk) * x1 = m9) := ⟨_, Lib.hid rfl⟩
  rw [Hm9.out] at p9
  have w9 : wrap64 ((4 * kk) * x1) = m9 := by rw [Hm9.out]; unfold wrap64; omega
  have v9 : IntKind.i64.wrap ((4 * kk) * x1) = m9 := (IntWalk.i64_in _ (by rw [Hm9.out]; omega)).trans Hm9.out
  have w10 : wrap64 (x3 + x4) = x3 + x4 := by unfold wrap64; omega
  have v10 : IntKind.i64.wrap (x3 + x4) = x3 + x4 := IntWalk.i64_in _ (by omega)
  have p11 := mul_bd (a := m9) (x := x3 + x4) (A := 9600000) (X := 200000) (by omega) (by omega) (by omega) (by omega)
  obtain ⟨m11, Hm11⟩ : ∃ m11, Hid (m9 * (x3 + x4) = m11) := ⟨_, Lib.hid rfl⟩
  rw [Hm11.out] at p11
  have w11 : wrap64 (m9 * (x3 + x4)) = m11 := by rw [Hm11.out]; unfold wrap64; omega
  have v11 : IntKind.i64.wrap (m9 * (x3 + x4)) = m11 := (IntWalk.i64_in _ (by rw [Hm11.out]; omega)).trans Hm11.out
  -- s is m11
  have p12 := mul_bd (a := w) (x := t) (A := 100000) (X := 100000) (by omega) (by omega) (by omega) (by omega)
  obtain ⟨m12, Hm12⟩ : ∃ m12, Hid (w * t = m12) := ⟨_, Lib.hid rfl⟩
  rw [Hm12.out] at p12
  have w12 : wrap64 (w * t) = m12 := by rw [Hm12.out]; unfold wrap64; omega
  have v12 : IntKind.i64.wrap (w * t) = m12 := (IntWalk.i64_in _ (by rw [Hm12.out]; omega)).trans Hm12.out
  have p13 := mul_bd (a := kk) (x := m2 - m6) (A := 24) (X := 220000000000) (by omega) (by omega) (by omega) (by omega)
  obtain ⟨m13, Hm13⟩ : ∃ m13, Hid (kk * (m2 - m6) = m13) := ⟨_, Lib.hid rfl⟩
  rw [Hm13.out] at p13
  have w13 : wrap64 (kk * (m2 - m6)) = m13 := by rw [Hm13.out]; unfold wrap64; omega
  have v13 : IntKind.i64.wrap (kk * (m2 - m6)) = m13 := (IntWalk.i64_in _ (by rw [Hm13.out]; omega)).trans Hm13.out
  have w14 : wrap64 (m12 - m13) = m12 - m13 := by unfold wrap64; omega
  have v14 : IntKind.i64.wrap (m12 - m13) = m12 - m13 := IntWalk.i64_in _ (by omega)
  -- a is m12 - m13
  have w15 : wrap64 (2 * kk) = 2 * kk := by unfold wrap64; omega
  have v15 : IntKind.i64.wrap (2 * kk) = 2 * kk := IntWalk.i64_in _ (by omega)
  have p16 := mul_bd (a := 2 * kk) (x := m2 - m6) (A := 48) (X := 220000000000) (by omega) (by omega) (by omega) (by omega)
  obtain ⟨m16, Hm16⟩ : ∃ m16, Hid ((2 * kk) * (m2 - m6) = m16) := ⟨_, Lib.hid rfl⟩
  rw [Hm16.out] at p16
  have w16 : wrap64 ((2 * kk) * (m2 - m6)) = m16 := by rw [Hm16.out]; unfold wrap64; omega
  have v16 : IntKind.i64.wrap ((2 * kk) * (m2 - m6)) = m16 := (IntWalk.i64_in _ (by rw [Hm16.out]; omega)).trans Hm16.out
  -- d is m16
  go_enter Tryz.func35, Tryz.ntmps35
  go_wp2_with fail
  refine ((Hc _ (by (repeat (first | exact brf | assumption | refine ble ?_ | refine blx ?_ | refine bla ?_ | refine bls ?_ | refine bld ?_)))).out).mono ?_
  rintro e w1 ⟨rfl, hb1⟩
  have hw1 := below_trans (show Below W.heap.size W ((W.alloc (.cells #[.int .i64 8, .int .i64 l, .int .i64 w, .int .i64 t, .slice (some ⟨b, off, none⟩) q c] 25)).alloc (.cells #[.int .i64 0, .int .i64 0, .int .i64 0] 22)) by (repeat (first | exact brf | assumption | refine ble ?_ | refine blx ?_ | refine bla ?_ | refine bls ?_ | refine bld ?_))) hb1
  have HJ := Lib.hid ((hb1.block W.heap.size (by simp; omega)).trans ((heap_old (by simp)).trans (heap_new rfl)))
  have HR := Lib.hid ((hb1.block (W.heap.size + 1) (by simp)).trans (heap_new (by simp)))
  have c0 := (blk_cell HJ.out 0).trans rfl
  have c1 := (blk_cell HJ.out 1).trans rfl
  have c2 := (blk_cell HJ.out 2).trans rfl
  have c3 := (blk_cell HJ.out 3).trans rfl
  have c4 := (blk_cell HJ.out 4).trans rfl
  simp only [List.getElem?_toArray, List.getElem?_cons_zero, List.getElem?_cons_succ] at c0 c1 c2 c3 c4
  have zj := blk_lt HJ.out
  clear hb1 Hc
  go_wp2
  refine wp_region_quietB (by kernel_rfl) (by kernel_rfl) ?_
  repeat (first | go_big_quiet_step (fail) | quiet_step (fail))
  refine wpQuiet_nil ?_
  rintro _ ⟨u, rfl⟩
  have HJu := Lib.hid ((u.below.block _ zj).trans HJ.out)
  have HRu := Lib.hid ((u.below.block _ (blk_lt HR.out)).trans HR.out)
  have hwu : Below W.heap.size W u.val := below_trans hw1 u.below
  clear HJ HR c0 c1 c2 c3 c4 zj
  generalize u.val = w9 at *
  clear u
  have c0 := (blk_cell HJu.out 0).trans rfl
  have c4 := (blk_cell HJu.out 4).trans rfl
  have e0 := (blk_cell HRu.out 0).trans rfl
  have e1 := (blk_cell HRu.out 1).trans rfl
  have e2 := (blk_cell HRu.out 2).trans rfl
  have f0 := blk_free HRu.out 0
  have f1 := blk_free HRu.out 1
  have f2 := blk_free HRu.out 2
  have zu := blk_lt HRu.out
  have zju := blk_lt HJu.out
  have zb9 := Nat.lt_of_lt_of_le zb hwu.size
  simp only [List.getElem?_toArray, List.getElem?_cons_zero, List.getElem?_cons_succ] at c0 c4 e0 e1 e2
  have n1 := below_cell hwu n1
  have n2 := below_cell hwu n2
  have n3 := below_cell hwu n3
  have n4 := below_cell hwu n4
  have n5 := below_cell hwu n5
  go_wp2
  refine wp_region_grow0 [0, 1, 2, 3, 4, 5, 6, 7, 8, 9, 10, 11] (pick [IsV (.slice (some ⟨b, off, none⟩) q c), IsV (.pointer (some ⟨b, off + 1, none⟩)), IsV (.int .i64 x1), IsV (.slice (some ⟨b, off, none⟩) q c), IsV (.pointer (some ⟨b, off + 2, none⟩)), IsV (.int .i64 x2), IsV (.slice (some ⟨b, off, none⟩) q c), IsLn kk, IsV (.int .i64 (kk : Int)), IsV (.int .i64 x1), IsV (.int .i64 x2), IsV (.int .i64 (kk : Int))]) (by kernel_rfl) (by kernel_rfl) (Stabs.pick (by repeat (first | exact Stabs.nil | refine Stabs.cons (by first | exact stab_v _ | exact stab_ln _) ?_))) ?_
  try go_frame
  refine wgs rfl rfl (by simp) (fun w' hb' hR K hK => ?_) (fun o0 => ?_)
  · clear hR
    go_simp
    exact hK _ _ (Below.refl _ _) rfl
  try go_frame
  refine wgs rfl rfl (by simp) (fun w' hb' hR K hK => ?_) (fun o1 => ?_)
  · obtain rfl : o0 = .slice (some ⟨b, off, none⟩) q c := hR 0 (by kernel_rfl)
    clear hR
    go_simp
    exact hK _ _ (Below.refl _ _) rfl
  try go_frame
  refine wgs rfl rfl (by simp) (fun w' hb' hR K hK => ?_) (fun o2 => ?_)
  · obtain rfl : o1 = .pointer (some ⟨b, off + 1, none⟩) := hR 1 (by kernel_rfl)
    clear hR
    have cc := below_cell hb' n1
    have zz := World.block_lt_of_cell? w' _ cc
    simp only at zz
    go_simp
    exact hK _ _ (Below.refl _ _) rfl
  try go_frame
  refine wgs rfl rfl (by simp) (fun w' hb' hR K hK => ?_) (fun o3 => ?_)
  · clear hR
    go_simp
    exact hK _ _ (Below.refl _ _) rfl
  try go_frame
  refine wgs rfl rfl (by simp) (fun w' hb' hR K hK => ?_) (fun o4 => ?_)
  · obtain rfl : o3 = .slice (some ⟨b, off, none⟩) q c := hR 3 (by kernel_rfl)
    clear hR
    go_simp
    exact hK _ _ (Below.refl _ _) rfl
  try go_frame
  refine wgs rfl rfl (by simp) (fun w' hb' hR K hK => ?_) (fun o5 => ?_)
  · obtain rfl : o4 = .pointer (some ⟨b, off + 2, none⟩) := hR 4 (by kernel_rfl)
    clear hR
    have cc := below_cell hb' n2
    have zz := World.block_lt_of_cell? w' _ cc
    simp only at zz
    go_simp
    exact hK _ _ (Below.refl _ _) rfl
  try go_frame
  refine wgs rfl rfl (by simp) (fun w' hb' hR K hK => ?_) (fun o6 => ?_)
  · clear hR
    go_simp
    exact hK _ _ (Below.refl _ _) rfl
  try go_frame
  refine wgs rfl rfl (by simp) (fun w' hb' hR K hK => ?_) (fun o7 => ?_)
  · obtain rfl : o6 = .slice (some ⟨b, off, none⟩) q c := hR 6 (by kernel_rfl)
    clear hR
    go_simp
    refine ((hH _ (below_trans hwu hb')).out).mono ?_
    rintro e w7 ⟨r, rfl, hb7, ho⟩
    exact hK _ _ hb7 (len_own ho)
  try go_frame
  refine wgs rfl rfl (by simp) (fun w' hb' hR K hK => ?_) (fun o8 => ?_)
  · have h7 : (IsLn kk) o7 w' := hR 7 (by kernel_rfl)
    clear hR
    obtain ⟨ra, rc, rfl⟩ := h7
    go_simp
    exact hK _ _ (Below.refl _ _) rfl
  try go_frame
  refine wgs rfl rfl (by simp) (fun w' hb' hR K hK => ?_) (fun o9 => ?_)
  · obtain rfl : o2 = .int .i64 x1 := hR 2 (by kernel_rfl)
    clear hR
    go_simp
    exact hK _ _ (Below.refl _ _) rfl
  try go_frame
  refine wgs rfl rfl (by simp) (fun w' hb' hR K hK => ?_) (fun o10 => ?_)
  · obtain rfl : o5 = .int .i64 x2 := hR 5 (by kernel_rfl)
    clear hR
    go_simp
    exact hK _ _ (Below.refl _ _) rfl
  try go_frame
  refine wgs rfl rfl (by simp) (fun w' hb' hR K hK => ?_) (fun o11 => ?_)
  · obtain rfl : o8 = .int .i64 (kk : Int) := hR 8 (by kernel_rfl)
    clear hR
    go_simp
    exact hK _ _ (Below.refl _ _) rfl
  try go_frame
  refine wpG_nil (fun w' hb' hR => ?_)
  obtain rfl : o9 = _ := hR 9 (by simp)
  obtain rfl : o10 = _ := hR 10 (by simp)
  obtain rfl : o11 = _ := hR 11 (by simp)
  clear hR
  have HRv := Lib.hid ((hb'.block _ zu).trans HRu.out)
  have HJv := Lib.hid ((hb'.block _ zju).trans HJu.out)
  have hwv : Below W.heap.size W w' := below_trans hwu hb'
  have n3 := below_cell hb' n3
  have n4 := below_cell hb' n4
  have n5 := below_cell hb' n5
  clear e0 e1 e2 f0 f1 f2 c0 c4 zu zju zb9 HRu HJu hwu n1 n2 hH hb'
  have HRu := HRv
  have HJu := HJv
  have hwu := hwv
  clear HRv HJv hwv
  have zb9 := Nat.lt_of_lt_of_le zb hwu.size
  have zu := blk_lt HRu.out
  have zju := blk_lt HJu.out
  have c0 := (blk_cell HJu.out 0).trans rfl
  have c4 := (blk_cell HJu.out 4).trans rfl
  have e0 := (blk_cell HRu.out 0).trans rfl
  have e1 := (blk_cell HRu.out 1).trans rfl
  have e2 := (blk_cell HRu.out 2).trans rfl
  have f0 := blk_free HRu.out 0
  have f1 := blk_free HRu.out 1
  have f2 := blk_free HRu.out 2
  simp only [List.getElem?_toArray, List.getElem?_cons_zero, List.getElem?_cons_succ] at c0 c4 e0 e1 e2
  have bt := tightV_bd m16 x5 100000000000000 (by omega)
  have hTv := hT m16
  obtain ⟨tv, Htv⟩ : ∃ tv, Hid (tightV m16 x5 = tv) := ⟨_, Lib.hid rfl⟩
  rw [Htv.out] at bt hTv
  have wt : wrap64 (m12 - m13 + tv) = m12 - m13 + tv := by unfold wrap64; omega
  have vt : IntKind.i64.wrap (m12 - m13 + tv) = m12 - m13 + tv := IntWalk.i64_in _ (by omega)
  go_wp2
  refine wp_region_quietB (by kernel_rfl) (by kernel_rfl) ?_
  repeat (first | go_big_quiet_step (fail) | quiet_step (fail))
  refine wpQuiet_nil ?_
  rintro _ ⟨u, rfl⟩
  have HRv := Lib.hid ((u.below.block _ zu).trans HRu.out)
  have HJv := Lib.hid ((u.below.block _ zju).trans HJu.out)
  have hwv : Below W.heap.size W u.val := below_trans hwu u.below
  have hub := u.below
  clear e0 e1 e2 f0 f1 f2 c0 c4 zu zju zb9 HRu HJu hwu
  generalize u.val = w8 at *
  clear u
  have HRu := HRv
  have HJu := HJv
  have hwu := hwv
  clear HRv HJv hwv
  have c0 := (blk_cell HJu.out 0).trans rfl
  have c4 := (blk_cell HJu.out 4).trans rfl
  have e0 := (blk_cell HRu.out 0).trans rfl
  have e1 := (blk_cell HRu.out 1).trans rfl
  have e2 := (blk_cell HRu.out 2).trans rfl
  have f0 := blk_free HRu.out 0
  have f1 := blk_free HRu.out 1
  have f2 := blk_free HRu.out 2
  have zu := blk_lt HRu.out
  have zju := blk_lt HJu.out
  have zb9 := Nat.lt_of_lt_of_le zb hwu.size
  simp only [List.getElem?_toArray, List.getElem?_cons_zero, List.getElem?_cons_succ] at c0 c4 e0 e1 e2
  have n5 := below_cell hub n5
  clear hub
  go_wp2_with fail
  refine ((hTv _).out).mono ?_
  rintro e wT ⟨rfl, rfl⟩
  go_wp2
  refine bodyPost_ret (v := .tuple #[.agg #[.int .i64 (m12 - m13 + tv), .int .i64 (m11), .int .i64 (m11)], .int .i64 0]) (by simp [results, Tryz.results35, go_sem, e0, e1, e2]) rfl ⟨?_, ?_⟩
  · exact retA_eq (by rw [← Htv.out, ← Hm16.out, ← Hm13.out, ← Hm12.out, ← Hm2.out, ← Hm6.out]) (by rw [← Hm11.out, ← Hm9.out]) (by rw [← Hm11.out, ← Hm9.out])
  · refine Below.setCell (Below.setCell (Below.setCell hwu ?_ _) ?_ _) ?_ _ <;> simp
end
end Go.Proofs.YtjglkglaogaenaaGreatDoor
