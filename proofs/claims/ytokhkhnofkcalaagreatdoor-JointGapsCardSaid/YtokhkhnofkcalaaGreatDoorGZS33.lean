/- texts: W1 G4 W2 W3. -/
import Derived.Test.YtokhkhnofkcalaaGreatDoorGZS17
import Derived.Test.YtokhkhnofkcalaaGreatDoorGZS23
namespace Go.Proofs.YtokhkhnofkcalaaGreatDoor
set_option maxHeartbeats 8000000
set_option linter.unusedSimpArgs false
set_option linter.unusedVariables false
section
open Go.RowKit Go.Shelf
attribute [local go_sem] Ext.cell Ext.frozen
theorem bGcd_any (a b : Int) (w : World) (ha : -1000000000000000 ≤ a ∧ a ≤ 1000000000000000) (hb : -1000000000000000 ≤ b ∧ b ≤ 1000000000000000) :
  Calls Tryz.prog 167 #[.int .i64 a, .int .i64 b] w (Ret w (.int .i64 (Nat.gcd a.natAbs b.natAbs : Nat))) := by
 have h1 := fun W' => Lib.hid (abs_any a W' ha)
 have h2 := fun W' => Lib.hid (abs_any b W' hb)
 obtain ⟨m, hm⟩ : ∃ m, a.natAbs = m := ⟨_, rfl⟩
 obtain ⟨n, hn⟩ : ∃ n, b.natAbs = n := ⟨_, rfl⟩
 have hm' : m ≤ 1000000000000000 := by omega
 have hn' : n ≤ 1000000000000000 := by omega
 rw [hm] at h1 ⊢
 rw [hn] at h2 ⊢
 clear hm hn ha hb
 go_enter Tryz.func167, Tryz.ntmps167
 go_wp2_with fail
 refine ((h1 _).out).mono ?_
 rintro e w1 ⟨rfl, rfl⟩
 go_wp2_with fail
 refine ((h2 _).out).mono ?_
 rintro e w2 ⟨rfl, rfl⟩
 go_wp2
 go_loopw [0, 1] (fun x y wr => ∃ p q : Nat, p ≤ 1000000000000000 ∧ q ≤ 1000000000000000 ∧ x = .int .i64 p ∧ y = .int .i64 q ∧ Hid (Nat.gcd m n = Nat.gcd p q) ∧ Below w.heap.size w wr) (fun _ y _ => (intOf y).toNat)
 case atStart => exact ⟨m, n, hm', hn', rfl, rfl, Lib.hid rfl, Below.refl _ _⟩
 case round =>
  obtain ⟨p, q, hp, hq, rfl, rfl, Hr, hb⟩ := hrel
  by_cases hz : 0 < q
  ·go_wp2
   go_quiet (fail)
   go_wp2
   go_roundw
   case rel => exact ⟨q, p % q, hq, by have := Nat.mod_lt p hz; omega, by go_num, by go_num, Lib.hid (by rw [gcd_step]; exact Hr.out), hb.drewN' _⟩
   case measure => simp [intOf]; have := Nat.mod_lt p hz; omega
  ·obtain rfl : q = 0 := by omega
   go_wp2
   go_ret
   exact ⟨ret_int (by rw [Hr.out]; simp), hb⟩
theorem gcd4_eq (a b c d : Int) : Nat.gcd (Int.natAbs ((Nat.gcd a.natAbs b.natAbs : Nat) : Int)) (Int.natAbs ((Nat.gcd c.natAbs d.natAbs : Nat) : Int)) = gcdL [a, b, c, d] := by
 simp [gcdL, Nat.gcd_assoc]
theorem gcd2_le {a b : Int} {B : Nat} (h : b.natAbs ≤ B) (h0 : a.natAbs ≤ B) : Nat.gcd a.natAbs b.natAbs ≤ B := by
 by_cases hz : b.natAbs = 0
 ·rw [hz]; simpa using h0
 ·exact Nat.le_trans (Nat.gcd_le_right _ (by omega)) h
set_option maxRecDepth 100000 in
theorem rLowest_any (a b c d : Int) (w : World) (ha : -10000000 ≤ a ∧ a ≤ 10000000) (hb : -10000000 ≤ b ∧ b ≤ 10000000) (hc : -10000000 ≤ c ∧ c ≤ 10000000) (hd : -10000000 ≤ d ∧ d ≤ 10000000) (h0 : a ≠ 0 ∨ b ≠ 0 ∨ c ≠ 0) :
  Calls Tryz.prog 128 #[V4 a b c d] w (Ret w (V4 (lowP (a, b, c, d)).1 (lowP (a, b, c, d)).2.1 (lowP (a, b, c, d)).2.2.1 (lowP (a, b, c, d)).2.2.2)) := by
 have hp := gcdL4_pos' a b c d h0
 have hle := gcdL4_le 10000000000 a b c d (by omega) (by omega) (by omega) (by omega)
 have e1 := Lib.hid (tdiv_dvd (gcdL_dvd [a, b, c, d] a (by simp)))
 have e2 := Lib.hid (tdiv_dvd (gcdL_dvd [a, b, c, d] b (by simp)))
 have e3 := Lib.hid (tdiv_dvd (gcdL_dvd [a, b, c, d] c (by simp)))
 have e4 := Lib.hid (tdiv_dvd (gcdL_dvd [a, b, c, d] d (by simp)))
 have Hp : Hid (lowP (a, b, c, d) = (a / gcdL [a, b, c, d], b / gcdL [a, b, c, d], c / gcdL [a, b, c, d], d / gcdL [a, b, c, d])) := Lib.hid rfl
 have t1 := tdiv_bd (g := gcdL [a, b, c, d]) ha
 have t2 := tdiv_bd (g := gcdL [a, b, c, d]) hb
 have t3 := tdiv_bd (g := gcdL [a, b, c, d]) hc
 have t4 := tdiv_bd (g := gcdL [a, b, c, d]) hd
 have l1 : Nat.gcd a.natAbs b.natAbs ≤ 10000000 := gcd2_le (by omega) (by omega)
 have l2 : Nat.gcd c.natAbs d.natAbs ≤ 10000000 := gcd2_le (by omega) (by omega)
 have HG : Hid (Nat.gcd (Nat.gcd a.natAbs b.natAbs) (Nat.gcd c.natAbs d.natAbs) = gcdL [a, b, c, d]) := Lib.hid (by simpa using gcd4_eq a b c d)
 generalize lowP (a, b, c, d) = r at *
 generalize gcdL [a, b, c, d] = g at *
 go_enter Tryz.func128, Tryz.ntmps128
 go_wp2
 refine wqb ?_
 repeat (first | go_big_quiet_step ((go_at_call 167; exact quietB_ret (bGcd_any _ _ _ (by omega) (by omega)))) | quiet_step ((go_at_call 167; exact quietB_ret (bGcd_any _ _ _ (by omega) (by omega)))))
 refine wqn fun u => ?_
 simp only [Int.natAbs_natCast]
 rw [HG.out]
 have hw1 : Below w.heap.size w u.val := below_trans bel u.below
 have HA := Lib.hid ((u.below.block w.heap.size (by simp; omega)).trans ((heap_old (by simp)).trans (heap_new rfl)))
 have HB := Lib.hid ((u.below.block (w.heap.size + 1) (by simp)).trans (heap_new (by simp)))
 generalize u.val = w1 at *
 clear u
 have c0 := (blk_cell HA.out 0).trans rfl
 have c1 := (blk_cell HA.out 1).trans rfl
 have c2 := (blk_cell HA.out 2).trans rfl
 have c3 := (blk_cell HA.out 3).trans rfl
 have d0 := (blk_cell HB.out 0).trans rfl
 have d1 := (blk_cell HB.out 1).trans rfl
 have d2 := (blk_cell HB.out 2).trans rfl
 have d3 := (blk_cell HB.out 3).trans rfl
 simp only [List.getElem?_toArray, List.getElem?_cons_zero, List.getElem?_cons_succ] at c0 c1 c2 c3 d0 d1 d2 d3
 have f0 := blk_free HB.out
 have z0 := blk_lt HA.out
 have z1 := blk_lt HB.out
 go_wp2
 refine wp_region_tailB 17 (by kernel_rfl) (by kernel_rfl) ?_
 simp only [List.take_succ_cons, List.take_zero, List.drop_succ_cons, List.drop_zero]
 repeat (first | go_big_quiet_step (fail) | quiet_step (fail))
 refine wpQuiet_nil ?_
 rintro _ ⟨u, rfl⟩
 go_wp2
 refine bodyPost_ret (v := V4 (a.tdiv g) (b.tdiv g) (c.tdiv g) (d.tdiv g)) (by simp [results, Tryz.results128, go_sem, z1, d0, d1, d2, d3]) rfl ⟨?_, ?_⟩
 ·rw [Hp.out, e1.out, e2.out, e3.out, e4.out]
 ·exact bel
theorem lessPlane_any (a b c d a' b' c' d' : Int) (w : World) :
  Calls Tryz.prog 130 #[V4 a b c d, V4 a' b' c' d'] w (Ret w (.bool (decide (cmpPl (a, b, c, d) (a', b', c', d') < 0)))) := by
 have He : Hid (decide (cmpPl (a, b, c, d) (a', b', c', d') < 0) = decide (a < a' ∨ (a = a' ∧ (b < b' ∨ (b = b' ∧ (c < c' ∨ (c = c' ∧ d < d'))))))) := Lib.hid (by
  rw [decide_eq_decide, cmpPl_neg])
 rw [He.out]
 clear He
 by_cases ha : a = a'
 ·subst ha
  by_cases hb : b = b'
  ·subst hb
   by_cases hc : c = c'
   ·subst hc
    go_enter Tryz.func130, Tryz.ntmps130
    go_wp2
    go_ret
    exact ⟨ret_bool (by simp), bel⟩
   ·have hc' : (c != c') = true := by simpa using hc
    go_enter Tryz.func130, Tryz.ntmps130
    go_wp2
    go_ret
    exact ⟨ret_bool (by simp [hc]), bel⟩
  ·have hb' : (b != b') = true := by simpa using hb
   go_enter Tryz.func130, Tryz.ntmps130
   go_wp2
   go_ret
   exact ⟨ret_bool (by simp [hb]), bel⟩
 ·have ha' : (a != a') = true := by simpa using ha
  go_enter Tryz.func130, Tryz.ntmps130
  go_wp2
  go_ret
  exact ⟨ret_bool (by simp [ha]), bel⟩
theorem rnormal_any (a b c d : Int) (w : World) : Calls Tryz.prog 111 #[V4 a b c d] w (Ret w (V3 a b c)) := by
 go_enter Tryz.func111, Tryz.ntmps111
 go_wp2
 refine bodyPost_ret (v := V3 a b c) (by simp [results, Tryz.results111, go_sem]) rfl ⟨rfl, ?_⟩
 exact bel
theorem rcross_any (a b c x y z : Int) (w : World) (ha : -8 ≤ a ∧ a ≤ 8) (hb : -8 ≤ b ∧ b ≤ 8) (hc : -8 ≤ c ∧ c ≤ 8) (hx : -8 ≤ x ∧ x ≤ 8) (hy : -8 ≤ y ∧ y ≤ 8) (hz : -8 ≤ z ∧ z ≤ 8) :
  Calls Tryz.prog 170 #[V3 a b c, V3 x y z] w (Ret w (V3 (b * z - c * y) (c * x - a * z) (a * y - b * x))) := by
 have h1 := mul_bd hb.1 hb.2 hz.1 hz.2
 have h2 := mul_bd hc.1 hc.2 hy.1 hy.2
 have h3 := mul_bd hc.1 hc.2 hx.1 hx.2
 have h4 := mul_bd ha.1 ha.2 hz.1 hz.2
 have h5 := mul_bd ha.1 ha.2 hy.1 hy.2
 have h6 := mul_bd hb.1 hb.2 hx.1 hx.2
 clear ha hb hc hx hy hz
 simp only [Int.reduceMul, Int.reduceNeg] at h1 h2 h3 h4 h5 h6
 go_enter Tryz.func170, Tryz.ntmps170
 go_wp2
 refine bodyPost_ret (v := V3 (b * z - c * y) (c * x - a * z) (a * y - b * x)) (by simp [results, Tryz.results170, go_sem]) rfl ⟨rfl, ?_⟩
 exact bel
theorem rdot_any (a b c x y z : Int) (w : World) (ha : -8 ≤ a ∧ a ≤ 8) (hb : -8 ≤ b ∧ b ≤ 8) (hc : -8 ≤ c ∧ c ≤ 8) (hx : -128 ≤ x ∧ x ≤ 128) (hy : -128 ≤ y ∧ y ≤ 128) (hz : -128 ≤ z ∧ z ≤ 128) :
  Calls Tryz.prog 110 #[V3 a b c, V3 x y z] w (Ret w (.int .i64 (a * x + b * y + c * z))) := by
 have h1 := mul_bd ha.1 ha.2 hx.1 hx.2
 have h2 := mul_bd hb.1 hb.2 hy.1 hy.2
 have h3 := mul_bd hc.1 hc.2 hz.1 hz.2
 clear ha hb hc hx hy hz
 simp only [Int.reduceMul, Int.reduceNeg] at h1 h2 h3
 go_enter Tryz.func110, Tryz.ntmps110
 go_wp2
 go_ret
 exact ⟨rfl, bel⟩
end
section
open Go.RowKit
section
variable {P : Program} {ops : Array Oper} {md : Region.Mode} {Q : Exit → Act → World → Prop}
structure Apart (R : Nat → Value → World → Prop) (Fr : Nat → Value → World → Prop) (S : Nat → Nat → Value → Value → Prop) : Prop where
 sym : ∀ i j v u, S i j v u → S j i u v
 new : ∀ i j v u w, Fr i v w → R j u w → S i j v u
def gOpF (P : Program) (md : Region.Mode) (ops : Array Oper) (R Fr : Nat → Value → World → Prop) (w0 : World) (Q : Exit → Act → World → Prop) (i : Nat) (vals : Nat → Value) (a : Act) : Prop :=
 ∀ w', Below w0.heap.size w0 w' → (∀ j, Region.waitsFor md ops i j = true → R j (vals j) w') →
  ∃ o d, ops[i]? = some o ∧ o.dst = some d ∧ d < a.tmps.size ∧ if Region.wanted o (yielded ops a.tmps) = true then o.wp P a w' (fun x w'' => ∃ v, x = a.put o.dst v ∧ Below w'.heap.size w' w'' ∧ R i v w'' ∧ Fr i v w') (NoPanic Q) else R i undef w' ∧ Fr i undef w'
theorem any_of_growF {ci : List Nat} {t0 : Nat} {ts : List Nat} (hB : growB md ops ci t0 ts = true) {R Fr : Nat → Value → World → Prop} {S : Nat → Nat → Value → Value → Prop} (hap : Apart R Fr S) {a0 : Act} {w0 : World}
  (hst : ∀ i v w w', Below w.heap.size w w' → R i v w → R i v w')
  (hob : ∀ i ∈ ci, ∀ vals, gOpF P md ops R Fr w0 Q i vals (frm ops a0 vals (upto ops ci i)))
  (hfin : ∀ vals w', Below w0.heap.size w0 w' → (∀ i ∈ ci, R i (vals i) w') → (∀ i ∈ ci, ∀ j ∈ ci, i ≠ j → S i j (vals i) (vals j)) → wpList P ops (NoPanic Q) (opsAt ops (t0 :: ts)) (frm ops a0 vals (upto ops ci ops.size)) w') :
  ∀ (f : Nat) (listed : Array Bool) (vals : Nat → Value) (w : World), Inv md ops (t0 :: ts) listed → (ci.filter fun i => !listed.getD i false).length = f → Below w0.heap.size w0 w →
   (∀ j, listed.getD j false = true → R j (vals j) w) → (∀ i j, listed.getD i false = true → listed.getD j false = true → i ≠ j → S i j (vals i) (vals j)) → wpAny P md ops (NoPanic Q) (f + (ts.length + 1)) listed (frm ops a0 vals listed) w := by
 simp only [growB, Bool.and_eq_true, decide_eq_true_eq] at hB
 obtain ⟨⟨⟨⟨⟨⟨⟨⟨⟨⟨⟨hsel, hd⟩, hnd⟩, _⟩, htl⟩, hsz⟩, hs⟩, hc⟩, hdis⟩, hcov⟩, hop⟩, hfo⟩ := hB
 have hit : ∀ i ∈ ci, i ∉ t0 :: ts := fun i hi => by have := List.all_eq_true.1 hdis i hi; simpa using this
 have hcv : ∀ j, j < ops.size → j ∈ ci ∨ j ∈ t0 :: ts := fun j hj => by have := List.all_eq_true.1 hcov j (List.mem_range.2 hj); simpa using this
 have hops : ∀ i ∈ ci, ∃ o, ops[i]? = some o ∧ (∀ e ∈ o.after, Region.binds md e = true → e.on < i ∧ e.on ∈ ci) ∧ (∀ j, j < ops.size → j ∈ t0 :: ts ∨ Region.waitsFor md ops i j = true ∨ ∀ d, dstOf ops j = some d → d ∉ o.looksAt ops) := fun i hi => by
  have h := List.all_eq_true.1 hop i hi
  cases ho : ops[i]? with
  | none => rw [ho] at h; cases h
  | some o =>
   rw [ho] at h
   simp only [Bool.and_eq_true] at h
   obtain ⟨he, hl⟩ := h
   refine ⟨o, rfl, fun e hem hb => ?_, fun j hj => ?_⟩
   ·have := Array.all_eq_true'.1 he e hem
    simpa [hb] using this
   ·have := List.all_eq_true.1 hl j (List.mem_range.2 hj)
    simp only [Bool.or_eq_true] at this
    rcases this with (h | h) | h
    ·exact .inl (by simpa using h)
    ·exact .inr (.inl h)
    ·refine .inr (.inr fun d hd hm => ?_)
     rw [hd] at h
     simp [hm] at h
 intro f
 induction f with
 | zero =>
  intro listed vals w inv hcnt hb hR hS
  have hall : ∀ i ∈ ci, listed.getD i false = true := fun i hi => by
   have := List.filter_eq_nil_iff.1 (List.length_eq_zero_iff.1 hcnt) i hi
   simpa using this
  have hL : listed = upto ops ci ops.size := by
   have hsz2 : (upto ops ci ops.size).size = ops.size := by simp [upto]
   apply Array.ext (by rw [inv.size, hsz2])
   intro j h1 h2
   have e1 : listed[j] = listed.getD j false := by simp [Array.getD, h1]
   have e2 : (upto ops ci ops.size)[j] = (upto ops ci ops.size).getD j false := by simp [Array.getD, h2]
   have hj : j < ops.size := by rw [← inv.size]; exact h1
   rw [e1, e2, upto_get]
   rcases hcv j hj with h | h
   ·rw [hall j h]; simp [hj, h]
   ·rw [getD_both (inv.tail j h hj)]
    have : j ∉ ci := fun hh => hit j hh h
    simp [this]
  rw [Nat.zero_add]
  subst hL
  exact any_of_forced (t0 :: ts) _ _ w hfo (hfin vals w hb (fun i hi => hR i (hall i hi)) (fun i hi j hj hij => hS i j (hall i hi) (hall j hj) hij))
 | succ f ih =>
  intro listed vals w inv hcnt hb hR hS
  have hlt : ∀ i ∈ ci, i < listed.size := fun i hi => by
   obtain ⟨o, ho, _⟩ := hops i hi
   rw [inv.size]; exact (Array.getElem?_eq_some_iff.1 ho).1
  have hun : ∃ i ∈ ci, listed.getD i true = false := by
   cases hfl : (ci.filter fun i => !listed.getD i false) with
   | nil => rw [hfl] at hcnt; cases hcnt
   | cons i l =>
    have hi : i ∈ ci.filter fun i => !listed.getD i false := by rw [hfl]; simp
    obtain ⟨h1, h2⟩ := List.mem_filter.1 hi
    exact ⟨i, h1, getD_in (hlt i h1) (by simpa using h2)⟩
  have hex : ∀ n i, i ≤ n → i ∈ ci → listed.getD i true = false → ∃ k, k ∈ Region.ready md ops listed := by
   intro n
   induction n with
   | zero =>
    intro i hin hi hu
    obtain ⟨o, ho, he, _⟩ := hops i hi
    exact ⟨i, mem_ready.2 ⟨hu, o, ho, fun e hem hb => by have := (he e hem hb).1; omega⟩⟩
   | succ n ihn =>
    intro i hin hi hu
    obtain ⟨o, ho, he, _⟩ := hops i hi
    by_cases hall : ∀ e ∈ o.after, Region.binds md e = true → listed.getD e.on false = true
    ·exact ⟨i, mem_ready.2 ⟨hu, o, ho, hall⟩⟩
    ·simp only [Classical.not_forall] at hall
     obtain ⟨e, hem, hb, hn⟩ := hall
     obtain ⟨h1, h2⟩ := he e hem hb
     exact ihn e.on (by omega) h2 (getD_in (hlt _ h2) (by simpa using hn))
  obtain ⟨i1, hi1, hu1⟩ := hun
  obtain ⟨k, hk⟩ := hex i1 i1 (Nat.le_refl _) hi1 hu1
  rw [show f + 1 + (ts.length + 1) = (f + (ts.length + 1)) + 1 by omega]
  refine ⟨fun h0 => (by rw [h0] at hk; cases hk), fun i hi => ?_⟩
  have htt : ∀ t ∈ t0 :: ts, listed.getD t true = false := fun t ht => inv.tail t ht (by have := List.all_eq_true.1 htl t ht; simpa using this)
  have hnt : i ∉ t0 :: ts := fun h => by
   rcases List.mem_cons.1 h with rfl | h
   ·exact first_waits inv ci hs ⟨i1, hi1, hu1⟩ hi
   ·exact chain_waits htt t0 ts (fun _ h => h) hc i h hi
  obtain ⟨hu, o, ho, hall⟩ := mem_ready.1 hi
  have hic : i ∈ ci := by
   rcases hcv i (Array.getElem?_eq_some_iff.1 ho).1 with h | h
   ·exact h
   ·exact absurd h hnt
  obtain ⟨o', ho', he, hlk⟩ := hops i hic
  obtain rfl : o = o' := Option.some.inj (ho.symm.trans ho')
  have hdep : ∀ j, Region.waitsFor md ops i j = true → listed.getD j false = true ∧ j < i ∧ j ∈ ci := fun j hj => by
   obtain ⟨oj, hoj, e, hem, hb', hon⟩ := Region.waitsFor_spec hj
   obtain rfl : o = oj := Option.some.inj (ho.symm.trans hoj)
   subst hon
   exact ⟨hall e hem hb', he e hem hb'⟩
  obtain ⟨o2, d, ho2, hdst, hds, hwp⟩ := hob i hic vals w hb (fun j hj => hR j (hdep j hj).1)
  obtain rfl : o = o2 := Option.some.inj (ho.symm.trans ho2)
  have hag : ∀ d ∈ o.looksAt ops, ∀ j, dstOf ops j = some d → listed.getD j false = (upto ops ci i).getD j false := (fun d hd j hj => by
   have hjs : j < ops.size := by
    rcases Nat.lt_or_ge j ops.size with h | h
    ·exact h
    ·unfold dstOf at hj; rw [Array.getElem?_eq_none h] at hj; cases hj
   rw [upto_get]
   rcases hlk j hjs with h | h | h
   ·rw [getD_both (htt j h)]
    have : j ∉ ci := fun hh => hit j hh h
    simp [this]
   ·obtain ⟨h1, h2, h3⟩ := hdep j h
    rw [h1]; simp [hjs, h2, h3]
   ·exact absurd hd (h d hj))
  have hex2 : execOp (frm ops a0 vals listed).eval o = execOp (frm ops a0 vals (upto ops ci i)).eval o := exec_frm o (fun cs b => Region.noSelect_spec hsel i o cs b ho) hag
  have hwn := wanted_frm (a0 := a0) (vals := vals) o hag
  have hdo : dstOf ops i = o.dst := by simp [dstOf, ho]
  have key : ∀ v w'', Below w.heap.size w w'' → R i v w'' → Fr i v w → wpAny P md ops (NoPanic Q) (f + (ts.length + 1)) (listed.setIfInBounds i true) ((frm ops a0 vals listed).put o.dst v) w'' := fun v w'' hbw hRv hFr => by
   rw [← hdo, frm_put hd (hlt i hic)]
   have hun : ∀ j, listed.getD j false = true → j ≠ i := fun j hj e => by
    subst e
    rw [getD_both hu] at hj
    cases hj
   refine ih _ _ w'' (inv.set hi hnt) ?_ (below_trans hb hbw) (fun j hj => ?_) (fun x y hx hy hxy => ?_)
   ·have := count_set hnd hic hu
    omega
   ·by_cases hji : j = i
    ·subst hji; simpa [upd] using hRv
    ·rw [getD_set_ne false (fun h => hji h.symm)] at hj
     simp only [upd, if_neg hji]
     exact hst j _ _ _ hbw (hR j hj)
   ·by_cases hxi : x = i
    ·subst hxi
     have hyx : y ≠ x := fun e => hxy e.symm
     rw [getD_set_ne false (fun h => hxy h)] at hy
     simp only [upd, if_neg hyx, if_true]
     exact hap.new x y v (vals y) w hFr (hR y hy)
    ·rw [getD_set_ne false (fun h => hxi h.symm)] at hx
     by_cases hyi : y = i
     ·subst hyi
      simp only [upd, if_neg hxi, if_true]
      exact hap.sym _ _ _ _ (hap.new y x v (vals x) w hFr (hR x hx))
     ·rw [getD_set_ne false (fun h => hyi h.symm)] at hy
      simp only [upd, if_neg hxi, if_neg hyi]
      exact hS x y hx hy hxy
  unfold wpOp
  simp only [ho]
  rw [hwn]
  split
  ·rename_i hw
   rw [if_pos hw] at hwp
   refine .inl (Oper.wp_mono ?_ (wp_move hex2 hdst hds hwp))
   rintro x w'' ⟨v, rfl, hbw, hRv, hFr⟩
   exact key v w'' hbw hRv hFr
  ·rename_i hw
   rw [if_neg hw] at hwp
   exact key undef w (Below.refl _ _) hwp.1 hwp.2
def wpGF (P : Program) (md : Region.Mode) (ops : Array Oper) (R Fr : Nat → Value → World → Prop) (w0 : World) (Q : Exit → Act → World → Prop) (F : (Nat → Value) → Act → Prop) : List Nat → (Nat → Value) → Act → Prop
 | [], vals, a => F vals a
 | i :: l, vals, a => gOpF P md ops R Fr w0 Q i vals a ∧ ∀ v, wpGF P md ops R Fr w0 Q F l (upd vals i v) (a.put (dstOf ops i) v)
theorem obs_of_wpGF {ci : List Nat} {R Fr : Nat → Value → World → Prop} {a0 : Act} {w0 : World} {F : (Nat → Value) → Act → Prop} (hd : distB ops = true) (hp : ci.Pairwise (· < ·)) (hlt : ∀ i ∈ ci, i < ops.size)
  (hdep : ∀ i ∈ ci, ∀ j, Region.waitsFor md ops i j = true → j < i ∧ j ∈ ci) :
  ∀ (l pre : List Nat) (vals0 : Nat → Value), ci = pre ++ l → wpGF P md ops R Fr w0 Q F l vals0 (frm ops a0 vals0 (upto ops pre ops.size)) →
   (∀ i ∈ l, ∀ vals : Nat → Value, (∀ j ∈ pre, vals j = vals0 j) → gOpF P md ops R Fr w0 Q i vals (frm ops a0 vals (upto ops ci i))) ∧
   (∀ vals : Nat → Value, (∀ j ∈ pre, vals j = vals0 j) → ∃ vals1 : Nat → Value, (∀ j ∈ ci, vals j = vals1 j) ∧ F vals1 (frm ops a0 vals1 (upto ops ci ops.size)))
 | [], pre, vals0, he, h => ⟨(fun i hi => by cases hi), fun vals hv => ⟨vals0, fun j hj => hv j (by simpa [he] using hj), by rw [he, List.append_nil]; exact h⟩⟩
 | i :: l, pre, vals0, he, h => by
  have hpre : ∀ j, (upto ops pre ops.size).getD j false = true → j ∈ pre := fun j hj => by
   rw [upto_get] at hj; simp at hj; exact hj.2
  have hu : upto ops ci i = upto ops pre ops.size := by rw [he]; exact upto_pre (he ▸ hp)
  have hici : i ∈ ci := by rw [he]; simp
  have step : ∀ vals : Nat → Value, (∀ j ∈ pre, vals j = vals0 j) → _ := fun vals hv =>
   obs_of_wpGF hd hp hlt hdep l (pre ++ [i]) (upd vals0 i (vals i)) (by rw [he]; simp) (by
    have := h.2 (vals i)
    rw [frm_put hd (by rw [upto_size]; exact hlt i hici), upto_set (hlt i hici)] at this
    exact this)
  have agree : ∀ vals : Nat → Value, (∀ j ∈ pre, vals j = vals0 j) → ∀ j ∈ pre ++ [i], vals j = upd vals0 i (vals i) j := fun vals hv j hj => by
   by_cases hji : j = i
   ·subst hji; simp [upd]
   ·simp only [upd, if_neg hji]
    exact hv j (by simpa [hji] using hj)
  refine ⟨fun k hk vals hv => ?_, fun vals hv => (step vals hv).2 vals (agree vals hv)⟩
  rcases List.mem_cons.1 hk with rfl | hk
  ·rw [hu, frm_congr (vals := vals) (vals' := vals0) (fun j hj => hv j (hpre j hj))]
   intro w' hb hR
   refine h.1 w' hb (fun j hj => ?_)
   obtain ⟨h1, h2⟩ := hdep k hici j hj
   have hjp : j ∈ pre := by
    have h3 : (upto ops ci k).getD j false = true := by rw [upto_get]; simp [hlt j h2, h1, h2]
    rw [hu] at h3
    exact hpre j h3
   rw [← hv j hjp]
   exact hR j hj
  ·exact (step vals hv).1 k hk vals (agree vals hv)
theorem wp_region_growF {id : Nat} {a : Act} {w : World} {l : List Oper} (ci : List Nat) (t0 : Nat) (ts : List Nat) (R Fr : Nat → Value → World → Prop) (S : Nat → Nat → Value → Value → Prop) (hap : Apart R Fr S) (hm : P.follows .mixedOrders = true) (hB : growB .any l.toArray ci t0 ts = true)
  (hst : ∀ i v w w', Below w.heap.size w w' → R i v w → R i v w')
  (h : wpGF P .any l.toArray R Fr w Q (fun vals a' => ∀ w', Below w.heap.size w w' → (∀ i ∈ ci, R i (vals i) w') → (∀ i ∈ ci, ∀ j ∈ ci, i ≠ j → S i j (vals i) (vals j)) → wpList P l.toArray (NoPanic Q) (opsAt l.toArray (t0 :: ts)) a' w') ci (fun _ => undef) a) :
  (Code.region id l.toArray true).wp P Q a w := by
 refine wp_region_noPanic (wp_region_any hm ?_)
 have hB' := hB
 simp only [growB, Bool.and_eq_true, decide_eq_true_eq] at hB
 obtain ⟨⟨⟨⟨⟨⟨⟨⟨⟨⟨⟨hsel, hd⟩, hnd⟩, hpw⟩, htl⟩, hsz⟩, hs⟩, hc⟩, hdis⟩, hcov⟩, hop⟩, hfo⟩ := hB
 have hlt : ∀ i ∈ ci, i < l.toArray.size := fun i hi => by
  have h := List.all_eq_true.1 hop i hi
  rcases Nat.lt_or_ge i l.toArray.size with h' | h'
  ·exact h'
  ·rw [Array.getElem?_eq_none h'] at h; cases h
 have hdep : ∀ i ∈ ci, ∀ j, Region.waitsFor .any l.toArray i j = true → j < i ∧ j ∈ ci := fun i hi j hj => by
  have h := List.all_eq_true.1 hop i hi
  obtain ⟨o, ho, e, hem, hb, rfl⟩ := Region.waitsFor_spec hj
  rw [ho] at h
  simp only [Bool.and_eq_true] at h
  have := Array.all_eq_true'.1 h.1 e hem
  simpa [hb] using this
 have hnil : ∀ j, (upto l.toArray [] l.toArray.size).getD j false = false := fun j => by rw [upto_get]; simp
 have hobs := obs_of_wpGF (P := P) (md := .any) (Q := Q) (R := R) (Fr := Fr) (a0 := a) (w0 := w) hd hpw hlt hdep ci [] (fun _ => undef) rfl (by rw [frm_nil hnil]; exact h)
 have hrep : ∀ j, (Array.replicate l.toArray.size false).getD j false = false := fun j => getD_replicate_false _ _
 have := any_of_growF (P := P) (Q := Q) hB' hap (a0 := a) (w0 := w) hst (fun i hi vals => hobs.1 i hi vals (by simp)) (fun vals w' hb hR hS => by
   obtain ⟨vals1, h1, h2⟩ := hobs.2 vals (by simp)
   rw [frm_congr (vals := vals) (vals' := vals1) (fun j hj => h1 j (by rw [upto_get] at hj; simp at hj; exact hj.2))]
   exact h2 w' hb (fun i hi => by rw [← h1 i hi]; exact hR i hi) (fun i hi j hj hij => by rw [← h1 i hi, ← h1 j hj]; exact hS i hi j hj hij)) ci.length (Array.replicate l.toArray.size false) (fun _ => undef) { w with drawn := w.drawn + 1 }
  ⟨fun j oj _ hl => (by rw [hrep] at hl; cases hl), fun t _ ht => getD_in (by simpa using ht) (getD_replicate_false _ _), by simp⟩
  (by rw [List.filter_eq_self.2 (fun i _ => by rw [hrep]; rfl)]) ⟨rfl, rfl, rfl, Nat.le_refl _, fun _ _ => rfl⟩ (fun j hj => by rw [hrep] at hj; cases hj) (fun i j hi => by rw [hrep] at hi; cases hi)
 rw [frm_nil hrep, hsz] at this
 exact this
section
variable {R Fr : Nat → Value → World → Prop} {w0 : World} {F : (Nat → Value) → Act → Prop}
theorem wpGF_nil {vals : Nat → Value} {a : Act} (h : F vals a) : wpGF P md ops R Fr w0 Q F [] vals a := h
theorem wgf {i : Nat} {l : List Nat} {vals : Nat → Value} {a : Act} {o : Oper} {d : Nat} (ho : ops[i]? = some o) (hd : o.dst = some d) (hlt : d < a.tmps.size)
  (h1 : ∀ w', Below w0.heap.size w0 w' → (∀ j, Region.waitsFor md ops i j = true → R j (vals j) w') →
   ∀ K : Act → World → Prop, (∀ v w'', Below w'.heap.size w' w'' → R i v w'' → Fr i v w' → K (a.put (some d) v) w'') → o.wp P a w' K (NoPanic Q))
  (h2 : ∀ v, wpGF P md ops R Fr w0 Q F l (upd vals i v) (a.put (some d) v)) (hgd : o.guard = none := by rfl) : wpGF P md ops R Fr w0 Q F (i :: l) vals a := by
 refine ⟨fun w' hb hR => ⟨o, d, ho, hd, hlt, ?_⟩, fun v => ?_⟩
 ·rw [if_pos (by unfold Region.wanted; rw [hgd])]
  exact h1 w' hb hR _ (fun v w'' hb' hr hf => ⟨v, by rw [hd], hb', hr, hf⟩)
 ·have : dstOf ops i = some d := by simp [dstOf, ho, hd]
  rw [this]
  exact h2 v
end
end
def NewB (l : List Nat) (i : Nat) (v : Value) (w : World) : Prop := i ∈ l → v = .pointer (some ⟨w.heap.size, 0, none⟩)
def OthB (l : List Nat) (i j : Nat) (v u : Value) : Prop := i ∈ l → j ∈ l → v ≠ u
theorem wgfN {P : Program} {ops : Array Oper} {md : Region.Mode} {Q : Exit → Act → World → Prop} {R : Nat → Value → World → Prop} {l0 : List Nat} {w0 : World} {F : (Nat → Value) → Act → Prop} {i : Nat} {l : List Nat} {vals : Nat → Value} {a : Act} {o : Oper} {d : Nat} (ho : ops[i]? = some o) (hd : o.dst = some d) (hlt : d < a.tmps.size)
  (h1 : ∀ w', Below w0.heap.size w0 w' → (∀ j, Region.waitsFor md ops i j = true → R j (vals j) w') →
   ∀ K : Act → World → Prop, (∀ v w'', Below w'.heap.size w' w'' → R i v w'' → K (a.put (some d) v) w'') → o.wp P a w' K (NoPanic Q))
  (h2 : ∀ v, wpGF P md ops R (NewB l0) w0 Q F l (upd vals i v) (a.put (some d) v)) (hgd : o.guard = none := by rfl) (hn : i ∉ l0 := by decide) : wpGF P md ops R (NewB l0) w0 Q F (i :: l) vals a :=
 wgf ho hd hlt (fun w' hb hR K hK => h1 w' hb hR K (fun v w'' h2 h3 => hK v w'' h2 h3 (fun h => absurd h hn))) h2 hgd
theorem apart_new {l : List Nat} {R : Nat → Value → World → Prop} (h : ∀ j ∈ l, ∀ u w, R j u w → ∃ g, u = .pointer (some ⟨g, 0, none⟩) ∧ g < w.heap.size) : Apart R (NewB l) (OthB l) where
 sym _ _ _ _ hs h1 h2 e := hs h2 h1 e.symm
 new i j v u w hf hr h1 h2 e := by
  obtain ⟨g, hg, hlt⟩ := h j h2 u w hr
  have := hf h1
  rw [← e, this] at hg
  cases hg
  omega
end
section
open Go.RowKit Go.Shelf
set_option maxRecDepth 100000
attribute [local go_sem] Ext.cell Ext.frozen
def put3 (w : World) (g : Nat) (a b c : Value) : World := ((w.setCell ⟨g, 0, none⟩ a).setCell ⟨g, 1, none⟩ b).setCell ⟨g, 2, none⟩ c
theorem put3_blk {w : World} {g : Nat} {x y z : Value} {T : TypeId} (h : w.heap[g]? = some (.cells #[x, y, z] T (0, 0))) (a b c : Value) : (put3 w g a b c).heap[g]? = some (.cells #[a, b, c] T (0, 0)) := by
 have := blk_set (blk_set (blk_set h 0 a) 1 b) 2 c
 unfold put3
 simpa using this
theorem put3_far {w : World} {g k : Nat} (h : k ≠ g) (a b c : Value) : (put3 w g a b c).heap[k]? = w.heap[k]? :=
 (Below.heap_setCell _ _ _ _ h).trans ((Below.heap_setCell _ _ _ _ h).trans (Below.heap_setCell _ _ _ _ h))
theorem put3_below {B : Nat} {w0 w : World} {g : Nat} (h : Below B w0 w) (hg : B ≤ g) (a b c : Value) : Below B w0 (put3 w g a b c) := ((h.setCell hg _).setCell hg _).setCell hg _
theorem put3_size (w : World) (g : Nat) (a b c : Value) : (put3 w g a b c).heap.size = w.heap.size := by simp [put3, World.setCell]
theorem den_eq (p q r : Q4) : p.1 * (q.2.1 * r.2.2.1 - q.2.2.1 * r.2.1) + p.2.1 * (q.2.2.1 * r.1 - q.1 * r.2.2.1) + p.2.2.1 * (q.1 * r.2.1 - q.2.1 * r.1) = denP p q r := by
 unfold denP dotP crossP nrm
 grind
structure PB (N ga gb gc : Nat) (p0 p1 p2 pd q0 q1 q2 qd r0 r1 r2 rd : Int) (X : World) : Prop where
 P : X.heap[N]? = some (.cells #[.int .i64 p0, .int .i64 p1, .int .i64 p2, .int .i64 pd] 69 (0, 0))
 Q : X.heap[N + 1]? = some (.cells #[.int .i64 q0, .int .i64 q1, .int .i64 q2, .int .i64 qd] 69 (0, 0))
 R : X.heap[N + 1 + 1]? = some (.cells #[.int .i64 r0, .int .i64 r1, .int .i64 r2, .int .i64 rd] 69 (0, 0))
 O : X.heap[N + 1 + 1 + 1]? = some (.cells #[.int .i64 0, .int .i64 0, .int .i64 0, .int .i64 0] 143 (0, 0))
 A : X.heap[ga]? = some (.cells #[.int .i64 p0, .int .i64 p1, .int .i64 p2] 22 (0, 0))
 B : X.heap[gb]? = some (.cells #[.int .i64 q0, .int .i64 q1, .int .i64 q2] 22 (0, 0))
 C : X.heap[gc]? = some (.cells #[.int .i64 r0, .int .i64 r1, .int .i64 r2] 22 (0, 0))
theorem PB.below {N ga gb gc : Nat} {p0 p1 p2 pd q0 q1 q2 qd r0 r1 r2 rd : Int} {X Y : World} (h : PB N ga gb gc p0 p1 p2 pd q0 q1 q2 qd r0 r1 r2 rd X) (hb : Below X.heap.size X Y) : PB N ga gb gc p0 p1 p2 pd q0 q1 q2 qd r0 r1 r2 rd Y :=
 ⟨(hb.block _ (blk_lt h.P)).trans h.P, (hb.block _ (blk_lt h.Q)).trans h.Q, (hb.block _ (blk_lt h.R)).trans h.R, (hb.block _ (blk_lt h.O)).trans h.O, (hb.block _ (blk_lt h.A)).trans h.A, (hb.block _ (blk_lt h.B)).trans h.B, (hb.block _ (blk_lt h.C)).trans h.C⟩
theorem rpoint_zero (p q r : Q4) (w : World) (hp : okPl p) (hq : okPl q) (hr : okPl r) (h0 : denP p q r = 0) :
  Calls Tryz.prog 150 #[v4 p, v4 q, v4 r] w (Ret w (.tuple #[v4 (0, 0, 0, 0), .bool false])) := by
 have He := den_eq p q r
 rw [h0] at He
 clear h0
 obtain ⟨p0, p1, p2, pd⟩ := p
 obtain ⟨q0, q1, q2, qd⟩ := q
 obtain ⟨r0, r1, r2, rd⟩ := r
 simp only [okPl] at hp hq hr
 have b0 := cross_bd hq.2.1 hq.2.2.1 hr.2.1 hr.2.2.1
 have b1 := cross_bd hq.2.2.1 hq.1 hr.2.2.1 hr.1
 have b2 := cross_bd hq.1 hq.2.1 hr.1 hr.2.1
 have hC := fun W' => Lib.hid (rcross_any q0 q1 q2 r0 r1 r2 W' (by omega) (by omega) (by omega) (by omega) (by omega) (by omega))
 have hC2 := fun W' => Lib.hid (rcross_any r0 r1 r2 p0 p1 p2 W' (by omega) (by omega) (by omega) (by omega) (by omega) (by omega))
 have hC3 := fun W' => Lib.hid (rcross_any p0 p1 p2 q0 q1 q2 W' (by omega) (by omega) (by omega) (by omega) (by omega) (by omega))
 have hD := fun W' => Lib.hid (rdot_any p0 p1 p2 (q1 * r2 - q2 * r1) (q2 * r0 - q0 * r2) (q0 * r1 - q1 * r0) W' (by omega) (by omega) (by omega) b0 b1 b2)
 simp only at He
 rw [He] at hD
 clear hp hq hr b0 b1 b2 He hC2 hC3
 obtain ⟨V, HV⟩ : ∃ V, Hid ((((w.alloc (.cells #[.int .i64 p0, .int .i64 p1, .int .i64 p2, .int .i64 pd] 69)).alloc (.cells #[.int .i64 q0, .int .i64 q1, .int .i64 q2, .int .i64 qd] 69)).alloc (.cells #[.int .i64 r0, .int .i64 r1, .int .i64 r2, .int .i64 rd] 69)).alloc (.cells #[.int .i64 0, .int .i64 0, .int .i64 0, .int .i64 0] 143) = V) := ⟨_, Lib.hid rfl⟩
 have hV : Below w.heap.size w V := by rw [← HV.out]; exact bel
 have BP : Hid (V.heap[w.heap.size]? = some (.cells #[.int .i64 p0, .int .i64 p1, .int .i64 p2, .int .i64 pd] 69 (0, 0))) := Lib.hid (by rw [← HV.out]; exact (heap_old (by simp <;> omega)).trans ((heap_old (by simp <;> omega)).trans ((heap_old (by simp)).trans (heap_new rfl))))
 have BQ : Hid (V.heap[w.heap.size + 1]? = some (.cells #[.int .i64 q0, .int .i64 q1, .int .i64 q2, .int .i64 qd] 69 (0, 0))) := Lib.hid (by rw [← HV.out]; exact (heap_old (by simp <;> omega)).trans ((heap_old (by simp)).trans (heap_new (by simp))))
 have BR : Hid (V.heap[w.heap.size + 1 + 1]? = some (.cells #[.int .i64 r0, .int .i64 r1, .int .i64 r2, .int .i64 rd] 69 (0, 0))) := Lib.hid (by rw [← HV.out]; exact (heap_old (by simp)).trans (heap_new (by simp)))
 have BO : Hid (V.heap[w.heap.size + 1 + 1 + 1]? = some (.cells #[.int .i64 0, .int .i64 0, .int .i64 0, .int .i64 0] 143 (0, 0))) := Lib.hid (by rw [← HV.out]; exact heap_new (by simp))
 go_enter Tryz.func150, Tryz.ntmps150
 go_wp2
 rw [HV.out]
 clear HV
 have xp0 := (blk_cell BP.out 0).trans rfl
 have xp1 := (blk_cell BP.out 1).trans rfl
 have xp2 := (blk_cell BP.out 2).trans rfl
 have xp3 := (blk_cell BP.out 3).trans rfl
 simp only [List.getElem?_toArray, List.getElem?_cons_zero, List.getElem?_cons_succ] at xp0 xp1 xp2 xp3
 have xpz := blk_lt BP.out
 have xpf := blk_free BP.out
 have xq0 := (blk_cell BQ.out 0).trans rfl
 have xq1 := (blk_cell BQ.out 1).trans rfl
 have xq2 := (blk_cell BQ.out 2).trans rfl
 have xq3 := (blk_cell BQ.out 3).trans rfl
 simp only [List.getElem?_toArray, List.getElem?_cons_zero, List.getElem?_cons_succ] at xq0 xq1 xq2 xq3
 have xqz := blk_lt BQ.out
 have xqf := blk_free BQ.out
 have xr0 := (blk_cell BR.out 0).trans rfl
 have xr1 := (blk_cell BR.out 1).trans rfl
 have xr2 := (blk_cell BR.out 2).trans rfl
 have xr3 := (blk_cell BR.out 3).trans rfl
 simp only [List.getElem?_toArray, List.getElem?_cons_zero, List.getElem?_cons_succ] at xr0 xr1 xr2 xr3
 have xrz := blk_lt BR.out
 have xrf := blk_free BR.out
 refine wp_region_growF [0, 1, 2, 3, 4, 5, 6, 7, 8] 9 [10, 11] (pick [IsV (V4 p0 p1 p2 pd), IsV (V3 p0 p1 p2), IsV (V4 q0 q1 q2 qd), IsV (V3 q0 q1 q2), IsV (V4 r0 r1 r2 rd), IsV (V3 r0 r1 r2), IsBx V.heap.size 22 #[.int .i64 0, .int .i64 0, .int .i64 0], IsBx V.heap.size 22 #[.int .i64 0, .int .i64 0, .int .i64 0], IsBx V.heap.size 22 #[.int .i64 0, .int .i64 0, .int .i64 0]]) (NewB [6, 7, 8]) (OthB [6, 7, 8]) (apart_new (by simp only [List.mem_cons, List.not_mem_nil, or_false, forall_eq_or_imp, forall_eq]; exact ⟨bx_lt, bx_lt, bx_lt⟩)) (by kernel_rfl) (by kernel_rfl) (Stabs.pick (by repeat (first | exact Stabs.nil | refine Stabs.cons (by first | exact stab_v _ | exact stab_bx _ _ _) ?_))) ?_
 try go_frame
 refine wgfN rfl rfl (by simp) (fun w' hb' hR K hK => ?_) (fun o0 => ?_)
 ·clear hR
  have y0 := below_cell hb' xp0
  have y1 := below_cell hb' xp1
  have y2 := below_cell hb' xp2
  have y3 := below_cell hb' xp3
  have yz := Nat.lt_of_lt_of_le xpz hb'.size
  go_simp
  exact hK _ _ brf rfl
 try go_frame
 refine wgfN rfl rfl (by simp) (fun w' hb' hR K hK => ?_) (fun o1 => ?_)
 ·obtain rfl : o0 = V4 p0 p1 p2 pd := hR 0 (by kernel_rfl)
  clear hR
  go_simp
  refine (rnormal_any p0 p1 p2 pd _).mono ?_
  rintro e w1 ⟨rfl, hb1⟩
  exact hK _ _ hb1 rfl
 try go_frame
 refine wgfN rfl rfl (by simp) (fun w' hb' hR K hK => ?_) (fun o2 => ?_)
 ·clear hR
  have y0 := below_cell hb' xq0
  have y1 := below_cell hb' xq1
  have y2 := below_cell hb' xq2
  have y3 := below_cell hb' xq3
  have yz := Nat.lt_of_lt_of_le xqz hb'.size
  go_simp
  exact hK _ _ brf rfl
 try go_frame
 refine wgfN rfl rfl (by simp) (fun w' hb' hR K hK => ?_) (fun o3 => ?_)
 ·obtain rfl : o2 = V4 q0 q1 q2 qd := hR 2 (by kernel_rfl)
  clear hR
  go_simp
  refine (rnormal_any q0 q1 q2 qd _).mono ?_
  rintro e w1 ⟨rfl, hb1⟩
  exact hK _ _ hb1 rfl
 try go_frame
 refine wgfN rfl rfl (by simp) (fun w' hb' hR K hK => ?_) (fun o4 => ?_)
 ·clear hR
  have y0 := below_cell hb' xr0
  have y1 := below_cell hb' xr1
  have y2 := below_cell hb' xr2
  have y3 := below_cell hb' xr3
  have yz := Nat.lt_of_lt_of_le xrz hb'.size
  go_simp
  exact hK _ _ brf rfl
 try go_frame
 refine wgfN rfl rfl (by simp) (fun w' hb' hR K hK => ?_) (fun o5 => ?_)
 ·obtain rfl : o4 = V4 r0 r1 r2 rd := hR 4 (by kernel_rfl)
  clear hR
  go_simp
  refine (rnormal_any r0 r1 r2 rd _).mono ?_
  rintro e w1 ⟨rfl, hb1⟩
  exact hK _ _ hb1 rfl
 try go_frame
 refine wgf rfl rfl (by simp) (fun w' hb' hR K hK => ?_) (fun o6 => ?_)
 ·clear hR
  have zz := hb'.size
  go_simp
  exact hK _ _ bel ⟨_, rfl, zz, heap_new rfl⟩ (fun _ => rfl)
 try go_frame
 refine wgf rfl rfl (by simp) (fun w' hb' hR K hK => ?_) (fun o7 => ?_)
 ·clear hR
  have zz := hb'.size
  go_simp
  exact hK _ _ bel ⟨_, rfl, zz, heap_new rfl⟩ (fun _ => rfl)
 try go_frame
 refine wgf rfl rfl (by simp) (fun w' hb' hR K hK => ?_) (fun o8 => ?_)
 ·clear hR
  have zz := hb'.size
  go_simp
  exact hK _ _ bel ⟨_, rfl, zz, heap_new rfl⟩ (fun _ => rfl)
 try go_frame
 refine wpGF_nil (fun w' hb' hR hS => ?_)
 obtain rfl : o1 = V3 p0 p1 p2 := hR 1 (by simp)
 obtain rfl : o3 = V3 q0 q1 q2 := hR 3 (by simp)
 obtain rfl : o5 = V3 r0 r1 r2 := hR 5 (by simp)
 obtain ⟨ga, rfl, hga, hA⟩ : IsBx V.heap.size 22 #[.int .i64 0, .int .i64 0, .int .i64 0] o6 w' := hR 6 (by simp)
 obtain ⟨gb, rfl, hgb, hB⟩ : IsBx V.heap.size 22 #[.int .i64 0, .int .i64 0, .int .i64 0] o7 w' := hR 7 (by simp)
 obtain ⟨gc, rfl, hgc, hC'⟩ : IsBx V.heap.size 22 #[.int .i64 0, .int .i64 0, .int .i64 0] o8 w' := hR 8 (by simp)
 have nab : ga ≠ gb := fun e => hS 6 (by simp) 7 (by simp) (by decide) (by decide) (by decide) (by rw [e]; rfl)
 have nac : ga ≠ gc := fun e => hS 6 (by simp) 8 (by simp) (by decide) (by decide) (by decide) (by rw [e]; rfl)
 have nbc : gb ≠ gc := fun e => hS 7 (by simp) 8 (by simp) (by decide) (by decide) (by decide) (by rw [e]; rfl)
 have HA := Lib.hid hA
 have HB := Lib.hid hB
 have HC := Lib.hid hC'
 clear hR hS hA hB hC' xp0 xp1 xp2 xp3 xpz xpf xq0 xq1 xq2 xq3 xqz xqf xr0 xr1 xr2 xr3 xrz xrf
 obtain ⟨a0, a1, a2, af, az⟩ := blk3 HA.out
 obtain ⟨b0', b1', b2', bf, bz⟩ := blk3 HB.out
 obtain ⟨c0, c1, c2, cf, cz⟩ := blk3 HC.out
 obtain ⟨X, HX⟩ : ∃ X, Hid (put3 (put3 (put3 w' ga (.int .i64 p0) (.int .i64 p1) (.int .i64 p2)) gb (.int .i64 q0) (.int .i64 q1) (.int .i64 q2)) gc (.int .i64 r0) (.int .i64 r1) (.int .i64 r2) = X) := ⟨_, Lib.hid rfl⟩
 have zV := blk_lt BO.out
 have hVX : Below V.heap.size V X := by
  rw [← HX.out]
  exact put3_below (put3_below (put3_below hb' hga _ _ _) hgb _ _ _) hgc _ _ _
 have HPB : Hid (PB w.heap.size ga gb gc p0 p1 p2 pd q0 q1 q2 qd r0 r1 r2 rd X) := Lib.hid (by
  refine ⟨(hVX.block _ (blk_lt BP.out)).trans BP.out, (hVX.block _ (blk_lt BQ.out)).trans BQ.out, (hVX.block _ (blk_lt BR.out)).trans BR.out, (hVX.block _ (blk_lt BO.out)).trans BO.out, ?_, ?_, ?_⟩
  ·rw [← HX.out]
   exact (put3_far nac _ _ _).trans ((put3_far nab _ _ _).trans (put3_blk HA.out _ _ _))
  ·rw [← HX.out]
   exact (put3_far nbc _ _ _).trans (put3_blk ((put3_far nab.symm _ _ _).trans HB.out) _ _ _)
  ·rw [← HX.out]
   exact put3_blk ((put3_far nbc.symm _ _ _).trans ((put3_far nac.symm _ _ _).trans HC.out)) _ _ _)
 have eX : ((((((((w'.setCell ⟨ga, 0, none⟩ (.int .i64 p0)).setCell ⟨ga, 1, none⟩ (.int .i64 p1)).setCell ⟨ga, 2, none⟩ (.int .i64 p2)).setCell ⟨gb, 0, none⟩ (.int .i64 q0)).setCell ⟨gb, 1, none⟩ (.int .i64 q1)).setCell ⟨gb, 2, none⟩ (.int .i64 q2)).setCell ⟨gc, 0, none⟩ (.int .i64 r0)).setCell ⟨gc, 1, none⟩ (.int .i64 r1)).setCell ⟨gc, 2, none⟩ (.int .i64 r2) = X := HX.out
 simp only [oas]
 go_wp2
 refine NoPanic.normal ?_
 try rw [eX]
 clear eX HX HA HB HC a0 a1 a2 af az b0' b1' b2' bf bz c0 c1 c2 cf cz BP BQ BR BO nab nac nbc hb'
 obtain ⟨a0, a1, a2, _, az⟩ := blk3 HPB.out.A
 obtain ⟨b0', b1', b2', _, bz⟩ := blk3 HPB.out.B
 obtain ⟨c0, c1, c2, _, cz⟩ := blk3 HPB.out.C
 go_wp2
 refine wqb ?_
 repeat (first | go_big_quiet_step ((first | (go_at_call 170; exact quietB_ret ((hC _).out)) | (go_at_call 110; exact quietB_ret ((hD _).out)))) | quiet_step ((first | (go_at_call 170; exact quietB_ret ((hC _).out)) | (go_at_call 110; exact quietB_ret ((hD _).out)))))
 refine wqn fun u => ?_
 have HU := Lib.hid (HPB.out.below u.below)
 have hVu : Below V.heap.size V u.val := below_trans hVX u.below
 clear HPB hVX a0 a1 a2 az b0' b1' b2' bz c0 c1 c2 cz
 generalize u.val = X1 at *
 clear u
 have BO3 := Lib.hid HU.out.O
 have hw : Below w.heap.size w X1 := below_trans hV hVu
 have o0 := (blk_cell BO3.out 0).trans rfl
 have o1 := (blk_cell BO3.out 1).trans rfl
 have o2 := (blk_cell BO3.out 2).trans rfl
 have o3 := (blk_cell BO3.out 3).trans rfl
 simp only [List.getElem?_toArray, List.getElem?_cons_zero, List.getElem?_cons_succ] at o0 o1 o2 o3
 have oz := blk_lt BO3.out
 have of := blk_free BO3.out
 go_wp2
 refine bodyPost_ret (v := .tuple #[v4 (0, 0, 0, 0), .bool false]) (by simp [results, Tryz.results150, go_sem, o0, o1, o2, o3, oz]) rfl ⟨rfl, ?_⟩
 exact Below.setCell (Below.setCell (Below.setCell (Below.setCell hw (by dsimp only; omega) _) (by dsimp only; omega) _) (by dsimp only; omega) _) (by dsimp only; omega) _
structure PX (g N gx gy gz : Nat) (p0 p1 p2 pd q0 q1 q2 qd r0 r1 r2 rd n0 n1 n2 n3 n4 n5 n6 n7 n8 : Int) (X : World) : Prop where
 P : X.heap[N]? = some (.cells #[.int .i64 p0, .int .i64 p1, .int .i64 p2, .int .i64 pd] 69 (0, 0))
 Q : X.heap[N + 1]? = some (.cells #[.int .i64 q0, .int .i64 q1, .int .i64 q2, .int .i64 qd] 69 (0, 0))
 R : X.heap[N + 1 + 1]? = some (.cells #[.int .i64 r0, .int .i64 r1, .int .i64 r2, .int .i64 rd] 69 (0, 0))
 O : X.heap[N + 1 + 1 + 1]? = some (.cells #[.int .i64 0, .int .i64 0, .int .i64 0, .int .i64 0] 143 (0, 0))
 A : X.heap[gx]? = some (.cells #[.int .i64 n0, .int .i64 n1, .int .i64 n2] 22 (0, 0))
 B : X.heap[gy]? = some (.cells #[.int .i64 n3, .int .i64 n4, .int .i64 n5] 22 (0, 0))
 C : X.heap[gz]? = some (.cells #[.int .i64 n6, .int .i64 n7, .int .i64 n8] 22 (0, 0))
 lt : N + 1 + 1 + 1 < g ∧ gx < g ∧ gy < g ∧ gz < g
theorem PX.below {g N gx gy gz : Nat} {p0 p1 p2 pd q0 q1 q2 qd r0 r1 r2 rd n0 n1 n2 n3 n4 n5 n6 n7 n8 : Int} {X Y : World} (h : PX g N gx gy gz p0 p1 p2 pd q0 q1 q2 qd r0 r1 r2 rd n0 n1 n2 n3 n4 n5 n6 n7 n8 X) (hb : Below g X Y) : PX g N gx gy gz p0 p1 p2 pd q0 q1 q2 qd r0 r1 r2 rd n0 n1 n2 n3 n4 n5 n6 n7 n8 Y := by
 have := h.lt
 exact ⟨(hb.block _ (by omega)).trans h.P, (hb.block _ (by omega)).trans h.Q, (hb.block _ (by omega)).trans h.R, (hb.block _ (by omega)).trans h.O, (hb.block _ (by omega)).trans h.A, (hb.block _ (by omega)).trans h.B, (hb.block _ (by omega)).trans h.C, h.lt⟩
theorem rpoint_some (p q r : Q4) (w : World) (hp : okPl p) (hq : okPl q) (hr : okPl r) (h0 : denP p q r ≠ 0) :
  Calls Tryz.prog 150 #[v4 p, v4 q, v4 r] w (Ret w (.tuple #[v4 (meetP p q r (denP p q r)), .bool true])) := by
 have He := den_eq p q r
 have hdb := den_bd p q r hp hq hr
 generalize denP p q r = den at *
 obtain ⟨p0, p1, p2, pd⟩ := p
 obtain ⟨q0, q1, q2, qd⟩ := q
 obtain ⟨r0, r1, r2, rd⟩ := r
 simp only [okPl] at hp hq hr
 simp only at He
 have Hm : Hid (meetP (p0, p1, p2, pd) (q0, q1, q2, qd) (r0, r1, r2, rd) den = ptOf (pd * (q1 * r2 - q2 * r1) + qd * (r1 * p2 - r2 * p1) + rd * (p1 * q2 - p2 * q1)) (pd * (q2 * r0 - q0 * r2) + qd * (r2 * p0 - r0 * p2) + rd * (p2 * q0 - p0 * q2)) (pd * (q0 * r1 - q1 * r0) + qd * (r0 * p1 - r1 * p0) + rd * (p0 * q1 - p1 * q0)) den) := Lib.hid rfl
 have b0 := cross_bd hq.2.1 hq.2.2.1 hr.2.1 hr.2.2.1
 have b1 := cross_bd hq.2.2.1 hq.1 hr.2.2.1 hr.1
 have b2 := cross_bd hq.1 hq.2.1 hr.1 hr.2.1
 have b3 := cross_bd hr.2.1 hr.2.2.1 hp.2.1 hp.2.2.1
 have b4 := cross_bd hr.2.2.1 hr.1 hp.2.2.1 hp.1
 have b5 := cross_bd hr.1 hr.2.1 hp.1 hp.2.1
 have b6 := cross_bd hp.2.1 hp.2.2.1 hq.2.1 hq.2.2.1
 have b7 := cross_bd hp.2.2.1 hp.1 hq.2.2.1 hq.1
 have b8 := cross_bd hp.1 hp.2.1 hq.1 hq.2.1
 have hC := fun W' => Lib.hid (rcross_any q0 q1 q2 r0 r1 r2 W' (by omega) (by omega) (by omega) (by omega) (by omega) (by omega))
 have hC2 := fun W' => Lib.hid (rcross_any r0 r1 r2 p0 p1 p2 W' (by omega) (by omega) (by omega) (by omega) (by omega) (by omega))
 have hC3 := fun W' => Lib.hid (rcross_any p0 p1 p2 q0 q1 q2 W' (by omega) (by omega) (by omega) (by omega) (by omega) (by omega))
 have hD := fun W' => Lib.hid (rdot_any p0 p1 p2 (q1 * r2 - q2 * r1) (q2 * r0 - q0 * r2) (q0 * r1 - q1 * r0) W' (by omega) (by omega) (by omega) b0 b1 b2)
 rw [He] at hD
 clear He
 generalize meetP (p0, p1, p2, pd) (q0, q1, q2, qd) (r0, r1, r2, rd) den = res at *
 generalize q1 * r2 - q2 * r1 = n0 at *
 generalize q2 * r0 - q0 * r2 = n1 at *
 generalize q0 * r1 - q1 * r0 = n2 at *
 generalize r1 * p2 - r2 * p1 = n3 at *
 generalize r2 * p0 - r0 * p2 = n4 at *
 generalize r0 * p1 - r1 * p0 = n5 at *
 generalize p1 * q2 - p2 * q1 = n6 at *
 generalize p2 * q0 - p0 * q2 = n7 at *
 generalize p0 * q1 - p1 * q0 = n8 at *
 have D0 : -1280000000 ≤ pd * n0 ∧ pd * n0 ≤ 1280000000 := mul_bd hp.2.2.2.1 hp.2.2.2.2 b0.1 b0.2
 have D1 : -1280000000 ≤ pd * n1 ∧ pd * n1 ≤ 1280000000 := mul_bd hp.2.2.2.1 hp.2.2.2.2 b1.1 b1.2
 have D2 : -1280000000 ≤ pd * n2 ∧ pd * n2 ≤ 1280000000 := mul_bd hp.2.2.2.1 hp.2.2.2.2 b2.1 b2.2
 have D3 : -1280000000 ≤ qd * n3 ∧ qd * n3 ≤ 1280000000 := mul_bd hq.2.2.2.1 hq.2.2.2.2 b3.1 b3.2
 have D4 : -1280000000 ≤ qd * n4 ∧ qd * n4 ≤ 1280000000 := mul_bd hq.2.2.2.1 hq.2.2.2.2 b4.1 b4.2
 have D5 : -1280000000 ≤ qd * n5 ∧ qd * n5 ≤ 1280000000 := mul_bd hq.2.2.2.1 hq.2.2.2.2 b5.1 b5.2
 have D6 : -1280000000 ≤ rd * n6 ∧ rd * n6 ≤ 1280000000 := mul_bd hr.2.2.2.1 hr.2.2.2.2 b6.1 b6.2
 have D7 : -1280000000 ≤ rd * n7 ∧ rd * n7 ≤ 1280000000 := mul_bd hr.2.2.2.1 hr.2.2.2.2 b7.1 b7.2
 have D8 : -1280000000 ≤ rd * n8 ∧ rd * n8 ≤ 1280000000 := mul_bd hr.2.2.2.1 hr.2.2.2.2 b8.1 b8.2
 clear b0 b1 b2 b3 b4 b5 b6 b7 b8 hp hq hr
 have hne : (den == 0) = false := by simpa using h0
 obtain ⟨V, HV⟩ : ∃ V, Hid ((((w.alloc (.cells #[.int .i64 p0, .int .i64 p1, .int .i64 p2, .int .i64 pd] 69)).alloc (.cells #[.int .i64 q0, .int .i64 q1, .int .i64 q2, .int .i64 qd] 69)).alloc (.cells #[.int .i64 r0, .int .i64 r1, .int .i64 r2, .int .i64 rd] 69)).alloc (.cells #[.int .i64 0, .int .i64 0, .int .i64 0, .int .i64 0] 143) = V) := ⟨_, Lib.hid rfl⟩
 have hV : Below w.heap.size w V := by rw [← HV.out]; exact bel
 have BP : Hid (V.heap[w.heap.size]? = some (.cells #[.int .i64 p0, .int .i64 p1, .int .i64 p2, .int .i64 pd] 69 (0, 0))) := Lib.hid (by rw [← HV.out]; exact (heap_old (by simp <;> omega)).trans ((heap_old (by simp <;> omega)).trans ((heap_old (by simp)).trans (heap_new rfl))))
 have BQ : Hid (V.heap[w.heap.size + 1]? = some (.cells #[.int .i64 q0, .int .i64 q1, .int .i64 q2, .int .i64 qd] 69 (0, 0))) := Lib.hid (by rw [← HV.out]; exact (heap_old (by simp <;> omega)).trans ((heap_old (by simp)).trans (heap_new (by simp))))
 have BR : Hid (V.heap[w.heap.size + 1 + 1]? = some (.cells #[.int .i64 r0, .int .i64 r1, .int .i64 r2, .int .i64 rd] 69 (0, 0))) := Lib.hid (by rw [← HV.out]; exact (heap_old (by simp)).trans (heap_new (by simp)))
 have BO : Hid (V.heap[w.heap.size + 1 + 1 + 1]? = some (.cells #[.int .i64 0, .int .i64 0, .int .i64 0, .int .i64 0] 143 (0, 0))) := Lib.hid (by rw [← HV.out]; exact heap_new (by simp))
 go_enter Tryz.func150, Tryz.ntmps150
 go_wp2
 rw [HV.out]
 clear HV
 have xp0 := (blk_cell BP.out 0).trans rfl
 have xp1 := (blk_cell BP.out 1).trans rfl
 have xp2 := (blk_cell BP.out 2).trans rfl
 have xp3 := (blk_cell BP.out 3).trans rfl
 simp only [List.getElem?_toArray, List.getElem?_cons_zero, List.getElem?_cons_succ] at xp0 xp1 xp2 xp3
 have xpz := blk_lt BP.out
 have xpf := blk_free BP.out
 have xq0 := (blk_cell BQ.out 0).trans rfl
 have xq1 := (blk_cell BQ.out 1).trans rfl
 have xq2 := (blk_cell BQ.out 2).trans rfl
 have xq3 := (blk_cell BQ.out 3).trans rfl
 simp only [List.getElem?_toArray, List.getElem?_cons_zero, List.getElem?_cons_succ] at xq0 xq1 xq2 xq3
 have xqz := blk_lt BQ.out
 have xqf := blk_free BQ.out
 have xr0 := (blk_cell BR.out 0).trans rfl
 have xr1 := (blk_cell BR.out 1).trans rfl
 have xr2 := (blk_cell BR.out 2).trans rfl
 have xr3 := (blk_cell BR.out 3).trans rfl
 simp only [List.getElem?_toArray, List.getElem?_cons_zero, List.getElem?_cons_succ] at xr0 xr1 xr2 xr3
 have xrz := blk_lt BR.out
 have xrf := blk_free BR.out
 refine wp_region_growF [0, 1, 2, 3, 4, 5, 6, 7, 8] 9 [10, 11] (pick [IsV (V4 p0 p1 p2 pd), IsV (V3 p0 p1 p2), IsV (V4 q0 q1 q2 qd), IsV (V3 q0 q1 q2), IsV (V4 r0 r1 r2 rd), IsV (V3 r0 r1 r2), IsBx V.heap.size 22 #[.int .i64 0, .int .i64 0, .int .i64 0], IsBx V.heap.size 22 #[.int .i64 0, .int .i64 0, .int .i64 0], IsBx V.heap.size 22 #[.int .i64 0, .int .i64 0, .int .i64 0]]) (NewB [6, 7, 8]) (OthB [6, 7, 8]) (apart_new (by simp only [List.mem_cons, List.not_mem_nil, or_false, forall_eq_or_imp, forall_eq]; exact ⟨bx_lt, bx_lt, bx_lt⟩)) (by kernel_rfl) (by kernel_rfl) (Stabs.pick (by repeat (first | exact Stabs.nil | refine Stabs.cons (by first | exact stab_v _ | exact stab_bx _ _ _) ?_))) ?_
 try go_frame
 refine wgfN rfl rfl (by simp) (fun w' hb' hR K hK => ?_) (fun o0 => ?_)
 ·clear hR
  have y0 := below_cell hb' xp0
  have y1 := below_cell hb' xp1
  have y2 := below_cell hb' xp2
  have y3 := below_cell hb' xp3
  have yz := Nat.lt_of_lt_of_le xpz hb'.size
  go_simp
  exact hK _ _ brf rfl
 try go_frame
 refine wgfN rfl rfl (by simp) (fun w' hb' hR K hK => ?_) (fun o1 => ?_)
 ·obtain rfl : o0 = V4 p0 p1 p2 pd := hR 0 (by kernel_rfl)
  clear hR
  go_simp
  refine (rnormal_any p0 p1 p2 pd _).mono ?_
  rintro e w1 ⟨rfl, hb1⟩
  exact hK _ _ hb1 rfl
 try go_frame
 refine wgfN rfl rfl (by simp) (fun w' hb' hR K hK => ?_) (fun o2 => ?_)
 ·clear hR
  have y0 := below_cell hb' xq0
  have y1 := below_cell hb' xq1
  have y2 := below_cell hb' xq2
  have y3 := below_cell hb' xq3
  have yz := Nat.lt_of_lt_of_le xqz hb'.size
  go_simp
  exact hK _ _ brf rfl
 try go_frame
 refine wgfN rfl rfl (by simp) (fun w' hb' hR K hK => ?_) (fun o3 => ?_)
 ·obtain rfl : o2 = V4 q0 q1 q2 qd := hR 2 (by kernel_rfl)
  clear hR
  go_simp
  refine (rnormal_any q0 q1 q2 qd _).mono ?_
  rintro e w1 ⟨rfl, hb1⟩
  exact hK _ _ hb1 rfl
 try go_frame
 refine wgfN rfl rfl (by simp) (fun w' hb' hR K hK => ?_) (fun o4 => ?_)
 ·clear hR
  have y0 := below_cell hb' xr0
  have y1 := below_cell hb' xr1
  have y2 := below_cell hb' xr2
  have y3 := below_cell hb' xr3
  have yz := Nat.lt_of_lt_of_le xrz hb'.size
  go_simp
  exact hK _ _ brf rfl
 try go_frame
 refine wgfN rfl rfl (by simp) (fun w' hb' hR K hK => ?_) (fun o5 => ?_)
 ·obtain rfl : o4 = V4 r0 r1 r2 rd := hR 4 (by kernel_rfl)
  clear hR
  go_simp
  refine (rnormal_any r0 r1 r2 rd _).mono ?_
  rintro e w1 ⟨rfl, hb1⟩
  exact hK _ _ hb1 rfl
 try go_frame
 refine wgf rfl rfl (by simp) (fun w' hb' hR K hK => ?_) (fun o6 => ?_)
 ·clear hR
  have zz := hb'.size
  go_simp
  exact hK _ _ bel ⟨_, rfl, zz, heap_new rfl⟩ (fun _ => rfl)
 try go_frame
 refine wgf rfl rfl (by simp) (fun w' hb' hR K hK => ?_) (fun o7 => ?_)
 ·clear hR
  have zz := hb'.size
  go_simp
  exact hK _ _ bel ⟨_, rfl, zz, heap_new rfl⟩ (fun _ => rfl)
 try go_frame
 refine wgf rfl rfl (by simp) (fun w' hb' hR K hK => ?_) (fun o8 => ?_)
 ·clear hR
  have zz := hb'.size
  go_simp
  exact hK _ _ bel ⟨_, rfl, zz, heap_new rfl⟩ (fun _ => rfl)
 try go_frame
 refine wpGF_nil (fun w' hb' hR hS => ?_)
 obtain rfl : o1 = V3 p0 p1 p2 := hR 1 (by simp)
 obtain rfl : o3 = V3 q0 q1 q2 := hR 3 (by simp)
 obtain rfl : o5 = V3 r0 r1 r2 := hR 5 (by simp)
 obtain ⟨ga, rfl, hga, hA⟩ : IsBx V.heap.size 22 #[.int .i64 0, .int .i64 0, .int .i64 0] o6 w' := hR 6 (by simp)
 obtain ⟨gb, rfl, hgb, hB⟩ : IsBx V.heap.size 22 #[.int .i64 0, .int .i64 0, .int .i64 0] o7 w' := hR 7 (by simp)
 obtain ⟨gc, rfl, hgc, hC'⟩ : IsBx V.heap.size 22 #[.int .i64 0, .int .i64 0, .int .i64 0] o8 w' := hR 8 (by simp)
 have nab : ga ≠ gb := fun e => hS 6 (by simp) 7 (by simp) (by decide) (by decide) (by decide) (by rw [e]; rfl)
 have nac : ga ≠ gc := fun e => hS 6 (by simp) 8 (by simp) (by decide) (by decide) (by decide) (by rw [e]; rfl)
 have nbc : gb ≠ gc := fun e => hS 7 (by simp) 8 (by simp) (by decide) (by decide) (by decide) (by rw [e]; rfl)
 have HA := Lib.hid hA
 have HB := Lib.hid hB
 have HC := Lib.hid hC'
 clear hR hS hA hB hC' xp0 xp1 xp2 xp3 xpz xpf xq0 xq1 xq2 xq3 xqz xqf xr0 xr1 xr2 xr3 xrz xrf
 obtain ⟨a0, a1, a2, af, az⟩ := blk3 HA.out
 obtain ⟨b0', b1', b2', bf, bz⟩ := blk3 HB.out
 obtain ⟨c0, c1, c2, cf, cz⟩ := blk3 HC.out
 obtain ⟨X, HX⟩ : ∃ X, Hid (put3 (put3 (put3 w' ga (.int .i64 p0) (.int .i64 p1) (.int .i64 p2)) gb (.int .i64 q0) (.int .i64 q1) (.int .i64 q2)) gc (.int .i64 r0) (.int .i64 r1) (.int .i64 r2) = X) := ⟨_, Lib.hid rfl⟩
 have zV := blk_lt BO.out
 have hVX : Below V.heap.size V X := by
  rw [← HX.out]
  exact put3_below (put3_below (put3_below hb' hga _ _ _) hgb _ _ _) hgc _ _ _
 have HPB : Hid (PB w.heap.size ga gb gc p0 p1 p2 pd q0 q1 q2 qd r0 r1 r2 rd X) := Lib.hid (by
  refine ⟨(hVX.block _ (blk_lt BP.out)).trans BP.out, (hVX.block _ (blk_lt BQ.out)).trans BQ.out, (hVX.block _ (blk_lt BR.out)).trans BR.out, (hVX.block _ (blk_lt BO.out)).trans BO.out, ?_, ?_, ?_⟩
  ·rw [← HX.out]
   exact (put3_far nac _ _ _).trans ((put3_far nab _ _ _).trans (put3_blk HA.out _ _ _))
  ·rw [← HX.out]
   exact (put3_far nbc _ _ _).trans (put3_blk ((put3_far nab.symm _ _ _).trans HB.out) _ _ _)
  ·rw [← HX.out]
   exact put3_blk ((put3_far nbc.symm _ _ _).trans ((put3_far nac.symm _ _ _).trans HC.out)) _ _ _)
 have eX : ((((((((w'.setCell ⟨ga, 0, none⟩ (.int .i64 p0)).setCell ⟨ga, 1, none⟩ (.int .i64 p1)).setCell ⟨ga, 2, none⟩ (.int .i64 p2)).setCell ⟨gb, 0, none⟩ (.int .i64 q0)).setCell ⟨gb, 1, none⟩ (.int .i64 q1)).setCell ⟨gb, 2, none⟩ (.int .i64 q2)).setCell ⟨gc, 0, none⟩ (.int .i64 r0)).setCell ⟨gc, 1, none⟩ (.int .i64 r1)).setCell ⟨gc, 2, none⟩ (.int .i64 r2) = X := HX.out
 simp only [oas]
 go_wp2
 refine NoPanic.normal ?_
 try rw [eX]
 clear eX HX HA HB HC a0 a1 a2 af az b0' b1' b2' bf bz c0 c1 c2 cf cz BP BQ BR BO nab nac nbc hb'
 obtain ⟨a0, a1, a2, _, az⟩ := blk3 HPB.out.A
 obtain ⟨b0', b1', b2', _, bz⟩ := blk3 HPB.out.B
 obtain ⟨c0, c1, c2, _, cz⟩ := blk3 HPB.out.C
 go_wp2
 refine wqb ?_
 repeat (first | go_big_quiet_step ((first | (go_at_call 170; exact quietB_ret ((hC _).out)) | (go_at_call 110; exact quietB_ret ((hD _).out)))) | quiet_step ((first | (go_at_call 170; exact quietB_ret ((hC _).out)) | (go_at_call 110; exact quietB_ret ((hD _).out)))))
 refine wqn fun u => ?_
 have HU := Lib.hid (HPB.out.below u.below)
 have hVu : Below V.heap.size V u.val := below_trans hVX u.below
 clear HPB hVX a0 a1 a2 az b0' b1' b2' bz c0 c1 c2 cz
 generalize u.val = X1 at *
 clear u
 obtain ⟨a0, a1, a2, _, az⟩ := blk3 HU.out.A
 obtain ⟨b0', b1', b2', _, bz⟩ := blk3 HU.out.B
 obtain ⟨c0, c1, c2, _, cz⟩ := blk3 HU.out.C
 go_wp2
 refine wp_region_growF [0, 1, 2, 3, 4, 5, 6, 7, 8, 9, 10, 11] 12 [13, 14] (pick [IsV (V3 q0 q1 q2), IsV (V3 r0 r1 r2), IsV (V3 n0 n1 n2), IsV (V3 r0 r1 r2), IsV (V3 p0 p1 p2), IsV (V3 n3 n4 n5), IsV (V3 p0 p1 p2), IsV (V3 q0 q1 q2), IsV (V3 n6 n7 n8), IsBx X1.heap.size 22 #[.int .i64 0, .int .i64 0, .int .i64 0], IsBx X1.heap.size 22 #[.int .i64 0, .int .i64 0, .int .i64 0], IsBx X1.heap.size 22 #[.int .i64 0, .int .i64 0, .int .i64 0]]) (NewB [9, 10, 11]) (OthB [9, 10, 11]) (apart_new (by simp only [List.mem_cons, List.not_mem_nil, or_false, forall_eq_or_imp, forall_eq]; exact ⟨bx_lt, bx_lt, bx_lt⟩)) (by kernel_rfl) (by kernel_rfl) (Stabs.pick (by repeat (first | exact Stabs.nil | refine Stabs.cons (by first | exact stab_v _ | exact stab_bx _ _ _) ?_))) ?_
 try go_frame
 refine wgfN rfl rfl (by simp) (fun w' hb' hR K hK => ?_) (fun o0 => ?_)
 ·clear hR
  have y0 := below_cell hb' b0'
  have y1 := below_cell hb' b1'
  have y2 := below_cell hb' b2'
  have yz := Nat.lt_of_lt_of_le bz hb'.size
  go_simp
  exact hK _ _ brf rfl
 try go_frame
 refine wgfN rfl rfl (by simp) (fun w' hb' hR K hK => ?_) (fun o1 => ?_)
 ·clear hR
  have y0 := below_cell hb' c0
  have y1 := below_cell hb' c1
  have y2 := below_cell hb' c2
  have yz := Nat.lt_of_lt_of_le cz hb'.size
  go_simp
  exact hK _ _ brf rfl
 try go_frame
 refine wgfN rfl rfl (by simp) (fun w' hb' hR K hK => ?_) (fun o2 => ?_)
 ·obtain rfl : o0 = V3 q0 q1 q2 := hR 0 (by kernel_rfl)
  obtain rfl : o1 = V3 r0 r1 r2 := hR 1 (by kernel_rfl)
  clear hR
  go_simp
  refine ((hC _).out).mono ?_
  rintro e w1 ⟨rfl, hb1⟩
  exact hK _ _ hb1 rfl
 try go_frame
 refine wgfN rfl rfl (by simp) (fun w' hb' hR K hK => ?_) (fun o3 => ?_)
 ·clear hR
  have y0 := below_cell hb' c0
  have y1 := below_cell hb' c1
  have y2 := below_cell hb' c2
  have yz := Nat.lt_of_lt_of_le cz hb'.size
  go_simp
  exact hK _ _ brf rfl
 try go_frame
 refine wgfN rfl rfl (by simp) (fun w' hb' hR K hK => ?_) (fun o4 => ?_)
 ·clear hR
  have y0 := below_cell hb' a0
  have y1 := below_cell hb' a1
  have y2 := below_cell hb' a2
  have yz := Nat.lt_of_lt_of_le az hb'.size
  go_simp
  exact hK _ _ brf rfl
 try go_frame
 refine wgfN rfl rfl (by simp) (fun w' hb' hR K hK => ?_) (fun o5 => ?_)
 ·obtain rfl : o3 = V3 r0 r1 r2 := hR 3 (by kernel_rfl)
  obtain rfl : o4 = V3 p0 p1 p2 := hR 4 (by kernel_rfl)
  clear hR
  go_simp
  refine ((hC2 _).out).mono ?_
  rintro e w1 ⟨rfl, hb1⟩
  exact hK _ _ hb1 rfl
 try go_frame
 refine wgfN rfl rfl (by simp) (fun w' hb' hR K hK => ?_) (fun o6 => ?_)
 ·clear hR
  have y0 := below_cell hb' a0
  have y1 := below_cell hb' a1
  have y2 := below_cell hb' a2
  have yz := Nat.lt_of_lt_of_le az hb'.size
  go_simp
  exact hK _ _ brf rfl
 try go_frame
 refine wgfN rfl rfl (by simp) (fun w' hb' hR K hK => ?_) (fun o7 => ?_)
 ·clear hR
  have y0 := below_cell hb' b0'
  have y1 := below_cell hb' b1'
  have y2 := below_cell hb' b2'
  have yz := Nat.lt_of_lt_of_le bz hb'.size
  go_simp
  exact hK _ _ brf rfl
 try go_frame
 refine wgfN rfl rfl (by simp) (fun w' hb' hR K hK => ?_) (fun o8 => ?_)
 ·obtain rfl : o6 = V3 p0 p1 p2 := hR 6 (by kernel_rfl)
  obtain rfl : o7 = V3 q0 q1 q2 := hR 7 (by kernel_rfl)
  clear hR
  go_simp
  refine ((hC3 _).out).mono ?_
  rintro e w1 ⟨rfl, hb1⟩
  exact hK _ _ hb1 rfl
 try go_frame
 refine wgf rfl rfl (by simp) (fun w' hb' hR K hK => ?_) (fun o9 => ?_)
 ·clear hR
  have zz := hb'.size
  go_simp
  exact hK _ _ bel ⟨_, rfl, zz, heap_new rfl⟩ (fun _ => rfl)
 try go_frame
 refine wgf rfl rfl (by simp) (fun w' hb' hR K hK => ?_) (fun o10 => ?_)
 ·clear hR
  have zz := hb'.size
  go_simp
  exact hK _ _ bel ⟨_, rfl, zz, heap_new rfl⟩ (fun _ => rfl)
 try go_frame
 refine wgf rfl rfl (by simp) (fun w' hb' hR K hK => ?_) (fun o11 => ?_)
 ·clear hR
  have zz := hb'.size
  go_simp
  exact hK _ _ bel ⟨_, rfl, zz, heap_new rfl⟩ (fun _ => rfl)
 try go_frame
 refine wpGF_nil (fun w' hb' hR hS => ?_)
 obtain rfl : o2 = V3 n0 n1 n2 := hR 2 (by simp)
 obtain rfl : o5 = V3 n3 n4 n5 := hR 5 (by simp)
 obtain rfl : o8 = V3 n6 n7 n8 := hR 8 (by simp)
 obtain ⟨gx, rfl, hgx, hA⟩ : IsBx X1.heap.size 22 #[.int .i64 0, .int .i64 0, .int .i64 0] o9 w' := hR 9 (by simp)
 obtain ⟨gy, rfl, hgy, hB⟩ : IsBx X1.heap.size 22 #[.int .i64 0, .int .i64 0, .int .i64 0] o10 w' := hR 10 (by simp)
 obtain ⟨gz, rfl, hgz, hC'⟩ : IsBx X1.heap.size 22 #[.int .i64 0, .int .i64 0, .int .i64 0] o11 w' := hR 11 (by simp)
 have nab : gx ≠ gy := fun e => hS 9 (by simp) 10 (by simp) (by decide) (by decide) (by decide) (by rw [e]; rfl)
 have nac : gx ≠ gz := fun e => hS 9 (by simp) 11 (by simp) (by decide) (by decide) (by decide) (by rw [e]; rfl)
 have nbc : gy ≠ gz := fun e => hS 10 (by simp) 11 (by simp) (by decide) (by decide) (by decide) (by rw [e]; rfl)
 have HA := Lib.hid hA
 have HB := Lib.hid hB
 have HC := Lib.hid hC'
 clear hR hS hA hB hC' a0 a1 a2 az b0' b1' b2' bz c0 c1 c2 cz hC hC2 hC3 hD
 obtain ⟨a0, a1, a2, af, az⟩ := blk3 HA.out
 obtain ⟨b0', b1', b2', bf, bz⟩ := blk3 HB.out
 obtain ⟨c0, c1, c2, cf, cz⟩ := blk3 HC.out
 obtain ⟨X, HX⟩ : ∃ X, Hid (put3 (put3 (put3 w' gx (.int .i64 n0) (.int .i64 n1) (.int .i64 n2)) gy (.int .i64 n3) (.int .i64 n4) (.int .i64 n5)) gz (.int .i64 n6) (.int .i64 n7) (.int .i64 n8) = X) := ⟨_, Lib.hid rfl⟩
 have hVX : Below X1.heap.size X1 X := by
  rw [← HX.out]
  exact put3_below (put3_below (put3_below hb' hgx _ _ _) hgy _ _ _) hgz _ _ _
 have hXs : X.heap.size = w'.heap.size := by rw [← HX.out, put3_size, put3_size, put3_size]
 obtain ⟨g, Hg⟩ : ∃ g, Hid (X.heap.size = g) := ⟨_, Lib.hid rfl⟩
 have zO := blk_lt HU.out.O
 have HPX : Hid (PX g w.heap.size gx gy gz p0 p1 p2 pd q0 q1 q2 qd r0 r1 r2 rd n0 n1 n2 n3 n4 n5 n6 n7 n8 X) := Lib.hid (by
  refine ⟨(hVX.block _ (blk_lt HU.out.P)).trans HU.out.P, (hVX.block _ (blk_lt HU.out.Q)).trans HU.out.Q, (hVX.block _ (blk_lt HU.out.R)).trans HU.out.R, (hVX.block _ (blk_lt HU.out.O)).trans HU.out.O, ?_, ?_, ?_, ?_⟩
  ·rw [← HX.out]
   exact (put3_far nac _ _ _).trans ((put3_far nab _ _ _).trans (put3_blk HA.out _ _ _))
  ·rw [← HX.out]
   exact (put3_far nbc _ _ _).trans (put3_blk ((put3_far nab.symm _ _ _).trans HB.out) _ _ _)
  ·rw [← HX.out]
   exact put3_blk ((put3_far nbc.symm _ _ _).trans ((put3_far nac.symm _ _ _).trans HC.out)) _ _ _
  ·have h1 := hVX.size
   rw [← Hg.out]
   omega)
 have eX : ((((((((w'.setCell ⟨gx, 0, none⟩ (.int .i64 n0)).setCell ⟨gx, 1, none⟩ (.int .i64 n1)).setCell ⟨gx, 2, none⟩ (.int .i64 n2)).setCell ⟨gy, 0, none⟩ (.int .i64 n3)).setCell ⟨gy, 1, none⟩ (.int .i64 n4)).setCell ⟨gy, 2, none⟩ (.int .i64 n5)).setCell ⟨gz, 0, none⟩ (.int .i64 n6)).setCell ⟨gz, 1, none⟩ (.int .i64 n7)).setCell ⟨gz, 2, none⟩ (.int .i64 n8) = X := HX.out
 simp only [oas]
 go_wp2
 refine NoPanic.normal ?_
 try rw [eX]
 have hwX : Below w.heap.size w X := below_trans hV (below_trans hVu hVX)
 clear eX HX HA HB HC a0 a1 a2 af az b0' b1' b2' bf bz c0 c1 c2 cf cz nab nac nbc hb' hVX hVu hV HU hXs zO hgx hgy hgz zV hga hgb hgc
 obtain ⟨Y, HY⟩ : ∃ Y, Hid (X.alloc (.cells #[.int .i64 0, .int .i64 0, .int .i64 0] 22) = Y) := ⟨_, Lib.hid rfl⟩
 have hXY : Below g X Y := by rw [← HY.out, ← Hg.out]; exact bel
 have HV0 : Hid (Y.heap[g]? = some (.cells #[.int .i64 0, .int .i64 0, .int .i64 0] 22 (0, 0))) := Lib.hid (by rw [← HY.out, ← Hg.out]; exact heap_new rfl)
 have HPY := Lib.hid (HPX.out.below hXY)
 have hwY : Below w.heap.size w Y := below_trans hwX (by rw [Hg.out]; exact hXY)
 go_wp2
 rw [HY.out, Hg.out]
 clear HY hXY HPX hwX Hg
 have zg : w.heap.size ≤ g := by have := HPY.out.lt; omega
 go_loopw [16] (fun x wr => ∃ k : Int, 0 ≤ k ∧ k ≤ 3 ∧ x = .int .i64 k ∧ Below g Y wr ∧ Hid (wr.heap[g]? = some (.cells #[.int .i64 (if 1 ≤ k then pd * n0 + qd * n3 + rd * n6 else 0), .int .i64 (if 2 ≤ k then pd * n1 + qd * n4 + rd * n7 else 0), .int .i64 (if 3 ≤ k then pd * n2 + qd * n5 + rd * n8 else 0)] 22 (0, 0)))) (fun x _ => 3 - (intOf x).toNat)
 case atStart => exact ⟨0, by omega, by omega, rfl, Below.refl _ _, Lib.hid (by simpa using HV0.out)⟩
 case round =>
  clear HV0
  obtain ⟨k, hk0, hk, rfl, hb, HVb⟩ := hrel
  have HX := Lib.hid (HPY.out.below hb)
  rcases (by omega : k = 0 ∨ k = 1 ∨ k = 2 ∨ k = 3) with rfl | rfl | rfl | rfl
  ·simp only [show ¬ (1 : Int) ≤ 0 by decide, show ¬ (2 : Int) ≤ 0 by decide, show ¬ (3 : Int) ≤ 0 by decide, if_false] at HVb
   obtain ⟨x0, x1, x2, _, xz⟩ := blk3 HX.out.A
   obtain ⟨y0, y1, y2, _, yz⟩ := blk3 HX.out.B
   obtain ⟨z0, z1, z2, _, zz⟩ := blk3 HX.out.C
   have pP := (blk_cell HX.out.P 3).trans rfl
   have pQ := (blk_cell HX.out.Q 3).trans rfl
   have pR := (blk_cell HX.out.R 3).trans rfl
   simp only [List.getElem?_toArray, List.getElem?_cons_zero, List.getElem?_cons_succ] at pP pQ pR
   have zP := blk_lt HX.out.P
   have zQ := blk_lt HX.out.Q
   have zR := blk_lt HX.out.R
   have vz := blk_lt HVb.out
   have vf := blk_free HVb.out
   go_wp2
   refine wp_region_tailB 22 (by kernel_rfl) (by kernel_rfl) ?_
   simp only [List.take_succ_cons, List.take_zero, List.drop_succ_cons, List.drop_zero]
   repeat (first | go_big_quiet_step (fail) | quiet_step (fail))
   refine wpQuiet_nil ?_
   rintro _ ⟨u, rfl⟩
   have HV2 := Lib.hid ((u.below.block _ vz).trans HVb.out)
   have hb2 : Below g Y u.val := hb.trans (u.below.mono (by omega))
   obtain ⟨vv0, vv1, vv2, vf2, vz2⟩ := blk3 HV2.out
   clear vz vf
   go_wp2
   go_roundw
   case rel => exact ⟨1, by omega, by omega, by first | rfl | go_num, hb2.setCell (Nat.le_refl _) _, Lib.hid (by have := blk_set HV2.out 0 (.int .i64 (pd * n0 + qd * n3 + rd * n6)); simpa using this)⟩
   case measure => first | decide | (simp [intOf]; done) | (simp [intOf]; omega)
  ·simp only [show (1 : Int) ≤ 1 by decide, show ¬ (2 : Int) ≤ 1 by decide, show ¬ (3 : Int) ≤ 1 by decide, if_false, if_true] at HVb
   obtain ⟨x0, x1, x2, _, xz⟩ := blk3 HX.out.A
   obtain ⟨y0, y1, y2, _, yz⟩ := blk3 HX.out.B
   obtain ⟨z0, z1, z2, _, zz⟩ := blk3 HX.out.C
   have pP := (blk_cell HX.out.P 3).trans rfl
   have pQ := (blk_cell HX.out.Q 3).trans rfl
   have pR := (blk_cell HX.out.R 3).trans rfl
   simp only [List.getElem?_toArray, List.getElem?_cons_zero, List.getElem?_cons_succ] at pP pQ pR
   have zP := blk_lt HX.out.P
   have zQ := blk_lt HX.out.Q
   have zR := blk_lt HX.out.R
   have vz := blk_lt HVb.out
   have vf := blk_free HVb.out
   go_wp2
   refine wp_region_tailB 22 (by kernel_rfl) (by kernel_rfl) ?_
   simp only [List.take_succ_cons, List.take_zero, List.drop_succ_cons, List.drop_zero]
   repeat (first | go_big_quiet_step (fail) | quiet_step (fail))
   refine wpQuiet_nil ?_
   rintro _ ⟨u, rfl⟩
   have HV2 := Lib.hid ((u.below.block _ vz).trans HVb.out)
   have hb2 : Below g Y u.val := hb.trans (u.below.mono (by omega))
   obtain ⟨vv0, vv1, vv2, vf2, vz2⟩ := blk3 HV2.out
   clear vz vf
   go_wp2
   go_roundw
   case rel => exact ⟨2, by omega, by omega, by first | rfl | go_num, hb2.setCell (Nat.le_refl _) _, Lib.hid (by have := blk_set HV2.out 1 (.int .i64 (pd * n1 + qd * n4 + rd * n7)); simpa using this)⟩
   case measure => first | decide | (simp [intOf]; done) | (simp [intOf]; omega)
  ·simp only [show (1 : Int) ≤ 2 by decide, show (2 : Int) ≤ 2 by decide, show ¬ (3 : Int) ≤ 2 by decide, if_false, if_true] at HVb
   obtain ⟨x0, x1, x2, _, xz⟩ := blk3 HX.out.A
   obtain ⟨y0, y1, y2, _, yz⟩ := blk3 HX.out.B
   obtain ⟨z0, z1, z2, _, zz⟩ := blk3 HX.out.C
   have pP := (blk_cell HX.out.P 3).trans rfl
   have pQ := (blk_cell HX.out.Q 3).trans rfl
   have pR := (blk_cell HX.out.R 3).trans rfl
   simp only [List.getElem?_toArray, List.getElem?_cons_zero, List.getElem?_cons_succ] at pP pQ pR
   have zP := blk_lt HX.out.P
   have zQ := blk_lt HX.out.Q
   have zR := blk_lt HX.out.R
   have vz := blk_lt HVb.out
   have vf := blk_free HVb.out
   go_wp2
   refine wp_region_tailB 22 (by kernel_rfl) (by kernel_rfl) ?_
   simp only [List.take_succ_cons, List.take_zero, List.drop_succ_cons, List.drop_zero]
   repeat (first | go_big_quiet_step (fail) | quiet_step (fail))
   refine wpQuiet_nil ?_
   rintro _ ⟨u, rfl⟩
   have HV2 := Lib.hid ((u.below.block _ vz).trans HVb.out)
   have hb2 : Below g Y u.val := hb.trans (u.below.mono (by omega))
   obtain ⟨vv0, vv1, vv2, vf2, vz2⟩ := blk3 HV2.out
   clear vz vf
   go_wp2
   go_roundw
   case rel => exact ⟨3, by omega, by omega, by first | rfl | go_num, hb2.setCell (Nat.le_refl _) _, Lib.hid (by have := blk_set HV2.out 2 (.int .i64 (pd * n2 + qd * n5 + rd * n8)); simpa using this)⟩
   case measure => first | decide | (simp [intOf]; done) | (simp [intOf]; omega)
  ·simp only [show (1 : Int) ≤ 3 by decide, show (2 : Int) ≤ 3 by decide, show (3 : Int) ≤ 3 by decide, if_true] at HVb
   have E0 : -10000000000 ≤ pd * n0 + qd * n3 + rd * n6 ∧ pd * n0 + qd * n3 + rd * n6 ≤ 10000000000 := by omega
   have E1 : -10000000000 ≤ pd * n1 + qd * n4 + rd * n7 ∧ pd * n1 + qd * n4 + rd * n7 ≤ 10000000000 := by omega
   have E2 : -10000000000 ≤ pd * n2 + qd * n5 + rd * n8 ∧ pd * n2 + qd * n5 + rd * n8 ≤ 10000000000 := by omega
   clear D0 D1 D2 D3 D4 D5 D6 D7 D8
   generalize pd * n0 + qd * n3 + rd * n6 = s0 at *
   generalize pd * n1 + qd * n4 + rd * n7 = s1 at *
   generalize pd * n2 + qd * n5 + rd * n8 = s2 at *
   have hp := gcdL4_pos s0 s1 s2 den h0
   have hle := gcdL4_le 10000000000 s0 s1 s2 den (by omega) (by omega) (by omega) (by omega)
   have e1 := Lib.hid (tdiv_dvd (gcdL_dvd [s0, s1, s2, den] s0 (by simp)))
   have e2 := Lib.hid (tdiv_dvd (gcdL_dvd [s0, s1, s2, den] s1 (by simp)))
   have e3 := Lib.hid (tdiv_dvd (gcdL_dvd [s0, s1, s2, den] s2 (by simp)))
   have e4 := Lib.hid (tdiv_dvd (gcdL_dvd [s0, s1, s2, den] den (by simp)))
   have Hn : Hid (den < 0 → ptOf s0 s1 s2 den = (-(s0 / gcdL [s0, s1, s2, den]), -(s1 / gcdL [s0, s1, s2, den]), -(s2 / gcdL [s0, s1, s2, den]), -(den / gcdL [s0, s1, s2, den]))) := fun h => if_pos h
   have Hp : Hid (0 ≤ den → ptOf s0 s1 s2 den = (s0 / gcdL [s0, s1, s2, den], s1 / gcdL [s0, s1, s2, den], s2 / gcdL [s0, s1, s2, den], den / gcdL [s0, s1, s2, den])) := fun h => if_neg (by omega)
   have t1 := tdiv_bd (g := gcdL [s0, s1, s2, den]) E0
   have t2 := tdiv_bd (g := gcdL [s0, s1, s2, den]) E1
   have t3 := tdiv_bd (g := gcdL [s0, s1, s2, den]) E2
   have t4 := tdiv_bd (g := gcdL [s0, s1, s2, den]) hdb
   have HG : Hid (Nat.gcd (Nat.gcd s0.natAbs s1.natAbs) (Nat.gcd s2.natAbs den.natAbs) = gcdL [s0, s1, s2, den]) := Lib.hid (by simpa using gcd4_eq s0 s1 s2 den)
   have l1 : Nat.gcd s0.natAbs s1.natAbs ≤ 10000000000 := gcd2_le (by omega) (by omega)
   have l2 : Nat.gcd s2.natAbs den.natAbs ≤ 10000000000 := gcd2_le (by omega) (by omega)
   generalize ptOf s0 s1 s2 den = pt at *
   generalize gcdL [s0, s1, s2, den] = gg at *
   obtain ⟨x0, x1, x2, _, xz⟩ := blk3 HVb.out
   go_wp2
   refine wqb ?_
   repeat (first | go_big_quiet_step ((go_at_call 167; exact quietB_ret (bGcd_any _ _ _ (by omega) (by omega)))) | quiet_step ((go_at_call 167; exact quietB_ret (bGcd_any _ _ _ (by omega) (by omega)))))
   refine wqn fun u => ?_
   simp only [Int.natAbs_natCast]
   rw [HG.out]
   have HV2 := Lib.hid ((u.below.block _ (blk_lt HVb.out)).trans HVb.out)
   have zw := blk_lt HVb.out
   have hbu : Below g Y u.val := hb.trans (u.below.mono (by omega))
   have HXu := Lib.hid (HPY.out.below hbu)
   have HO := Lib.hid HXu.out.O
   have hwu : Below w.heap.size w u.val := hwY.trans (hbu.mono (by omega))
   clear hb x0 x1 x2 xz HX HVb HG l1 l2 HPY hwY
   generalize u.val = w1 at *
   clear u
   obtain ⟨x0, x1, x2, _, xz⟩ := blk3 HV2.out
   have o0 := (blk_cell HO.out 0).trans rfl
   have o1 := (blk_cell HO.out 1).trans rfl
   have o2 := (blk_cell HO.out 2).trans rfl
   have o3 := (blk_cell HO.out 3).trans rfl
   simp only [List.getElem?_toArray, List.getElem?_cons_zero, List.getElem?_cons_succ] at o0 o1 o2 o3
   have oz := blk_lt HO.out
   have of := blk_free HO.out
   by_cases hneg : den < 0
   ·have k1 : ¬ (-(gg : Int) = 0) := by omega
    have hneg' : decide (den < 0) = true := decide_eq_true hneg
    go_wp2
    refine wp_region_tailB 16 (by kernel_rfl) (by kernel_rfl) ?_
    simp only [List.take_succ_cons, List.take_zero, List.drop_succ_cons, List.drop_zero]
    repeat (first | go_big_quiet_step (fail) | quiet_step (fail))
    refine wpQuiet_nil ?_
    rintro _ ⟨u, rfl⟩
    go_wp2
    refine bodyPost_ret (v := .tuple #[V4 (s0.tdiv (-(gg : Int))) (s1.tdiv (-(gg : Int))) (s2.tdiv (-(gg : Int))) (den.tdiv (-(gg : Int))), .bool true]) (by simp [results, Tryz.results150, go_sem, oz, o0, o1, o2, o3]) rfl ⟨?_, ?_⟩
    ·rw [Hm.out, Hn.out hneg]
     simp only [Int.tdiv_neg]
     rw [e1.out, e2.out, e3.out, e4.out]
    ·exact bel
   ·have k1 : ¬ ((gg : Int) = 0) := by omega
    have hneg' : decide (den < 0) = false := decide_eq_false hneg
    go_wp2
    refine wp_region_tailB 16 (by kernel_rfl) (by kernel_rfl) ?_
    simp only [List.take_succ_cons, List.take_zero, List.drop_succ_cons, List.drop_zero]
    repeat (first | go_big_quiet_step (fail) | quiet_step (fail))
    refine wpQuiet_nil ?_
    rintro _ ⟨u, rfl⟩
    go_wp2
    refine bodyPost_ret (v := .tuple #[V4 (s0.tdiv gg) (s1.tdiv gg) (s2.tdiv gg) (den.tdiv gg), .bool true]) (by simp [results, Tryz.results150, go_sem, oz, o0, o1, o2, o3]) rfl ⟨?_, ?_⟩
    ·rw [Hm.out, Hp.out (by omega), e1.out, e2.out, e3.out, e4.out]
    ·exact bel
end
end Go.Proofs.YtokhkhnofkcalaaGreatDoor
