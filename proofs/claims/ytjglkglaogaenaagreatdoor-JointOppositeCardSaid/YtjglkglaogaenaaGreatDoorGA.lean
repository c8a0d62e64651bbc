/- texts of mine, merged: Base, Tail, Perm, App, Float, L1, L2, L3. -/
import Derived.WalkKit
import Derived.WalkSpells
import Derived.WalkLawsBesides
import Derived.Deep.QuietTactic
import Derived.BigQuiet
import Derived.Lib.Hide
import Derived.StillTail
import Derived.Deep.RegionHeld3
import Derived.Test.YtjglkglaogaenaaGreatDoorRows
/- Base: worlds that extend a world below its heap's size; quiet regions over that class. No program is named here. -/
namespace Go.Proofs.YtjglkglaogaenaaGreatDoor
section
open Go.RowKit
/-- A world in which all that lay in w lies as it did. -/
structure Ext (w : World) where
  val : World
  below : Below w.heap.size w val
theorem Ext.cell {w : World} (u : Ext w) {a : Addr} (h : a.block < w.heap.size) : u.val.cell? a = w.cell? a := u.below.cell h
theorem Ext.frozen {w : World} (u : Ext w) {a : Addr} (h : a.block < w.heap.size) : u.val.frozen? a = w.frozen? a := u.below.frozen h
theorem Ext.size {w : World} (u : Ext w) : w.heap.size ≤ u.val.heap.size := u.below.size
def Ext.drew {w : World} : Ext w := ⟨w.drew, (Below.refl _ _).drew⟩
instance (w : World) : Nonempty (Ext w) := ⟨Ext.drew⟩
/-- What a cell holds, in whatever extension. -/
theorem Ext.of_cell {w : World} {a : Addr} {v : Value} (h : w.cell? a = some v) (u : Ext w) : u.val.cell? a = some v :=
  (u.cell (World.block_lt_of_cell? w a h)).trans h
theorem below_trans {w w1 w2 : World} (h : Below w.heap.size w w1) (k : Below w1.heap.size w1 w2) : Below w.heap.size w w2 := h.trans (k.mono h.size)
/-- A cell of the old world in a later one. -/
theorem below_cell {w w1 : World} (h : Below w.heap.size w w1) {a : Addr} {v : Value} (hc : w.cell? a = some v) : w1.cell? a = some v :=
  (h.cell (World.block_lt_of_cell? w a hc)).trans hc
theorem brf {B : Nat} {w : World} : Below B w w := Below.refl _ _
theorem bld {B : Nat} {w w1 : World} (h : Below B w w1) : Below B w w1.drew := h.drew
theorem ble {w w1 : World} {u : Ext w1} (h : Below w.heap.size w w1) : Below w.heap.size w u.val := below_trans h u.below
theorem blx {B : Nat} {w w1 : World} {u : Ext w1} (h : Below B w w1) (hs : B ≤ w1.heap.size := by first | omega | (simp; omega)) : Below B w u.val := h.trans (u.below.mono hs)
theorem bla {B : Nat} {w w1 : World} {o : Obj} (h : Below B w w1) (hs : B ≤ w1.heap.size := by first | omega | (simp; done) | (simp; omega)) : Below B w (w1.alloc o) := h.alloc hs o
theorem bls {B : Nat} {w w1 : World} {p : Addr} {v : Value} (h : Below B w w1) (hs : B ≤ p.block := by first | omega | (simp; done) | (simp; omega)) : Below B w (w1.setCell p v) := h.setCell hs v
theorem wp_region_quietB {P : Program} {id : Nat} {Q : Exit → Act → World → Prop} {a : Act} {w : World} {l : List Oper} (hm : P.follows .mixedOrders = true) (hB : Region.lexB .any l.toArray = true)
    (h : wpQuiet P l.toArray (fun w' => ∃ u : Ext w, w' = u.val) (fun a' => ∀ w', (∃ u : Ext w, w' = u.val) → Q .normal a' w') l a) : (Code.region id l.toArray true).wp P Q a w :=
  wp_region_quiet (C := fun w' => ∃ u : Ext w, w' = u.val) hm hB ⟨Ext.drew, rfl⟩ (by simpa using h)
theorem quietB_of {P : Program} {f : FuncId} {args : Array Value} {w : World} {u : Ext w} {v : Value}
    (h : Calls P f args u.val fun e w' => e = .returned v ∧ Below u.val.heap.size u.val w') : Calls P f args u.val fun e w'' => e = .returned v ∧ ∃ u' : Ext w, w'' = u'.val :=
  h.mono fun _ w' ⟨he, hb⟩ => ⟨he, ⟨w', below_trans u.below hb⟩, rfl⟩
/-- The plain end of a pure function. -/
def Ret (w : World) (v : Value) (e : Ending) (w' : World) : Prop := e = .returned v ∧ Below w.heap.size w w'
theorem quietB_ret {P : Program} {f : FuncId} {args : Array Value} {w : World} {u : Ext w} {v : Value}
    (h : Calls P f args u.val (Ret u.val v)) : Calls P f args u.val fun e w'' => e = .returned v ∧ ∃ u' : Ext w, w'' = u'.val := quietB_of h
/-- Bounds of products. -/
theorem mul_bd {a x A X : Int} (h1 : -A ≤ a) (h2 : a ≤ A) (h3 : -X ≤ x) (h4 : x ≤ X) : -(A * X) ≤ a * x ∧ a * x ≤ A * X := by
  have p1 : 0 ≤ (A - a) * (X + x) := Int.mul_nonneg (by omega) (by omega)
  have p2 : 0 ≤ (A + a) * (X - x) := Int.mul_nonneg (by omega) (by omega)
  have p3 : 0 ≤ (A - a) * (X - x) := Int.mul_nonneg (by omega) (by omega)
  have p4 : 0 ≤ (A + a) * (X + x) := Int.mul_nonneg (by omega) (by omega)
  simp only [Int.sub_mul, Int.add_mul, Int.mul_sub, Int.mul_add] at p1 p2 p3 p4
  omega
theorem _root_.Go.RowKit.Below.drewN' {B : Nat} {a w : World} (h : Below B a w) (n : Nat) : Below B a (w.drewN n) := ⟨h.os, h.tape, h.output, h.size, h.block⟩
def sgn (a b : Int) : Int := if a < b then -1 else if b < a then 1 else 0
theorem sgn_lt {a b : Int} (h : a < b) : sgn a b = -1 := by simp [sgn, h]
theorem sgn_gt {a b : Int} (h : b < a) : sgn a b = 1 := by simp [sgn, h, Int.not_lt.2 (Int.le_of_lt h)]
theorem sgn_eq {a b : Int} (h1 : ¬ a < b) (h2 : ¬ b < a) : sgn a b = 0 := by simp [sgn, h1, h2]
theorem ret_int {k : IntKind} {a b : Int} (h : a = b) : Ending.returned (.int k a) = .returned (.int k b) := by rw [h]
theorem ret_bool {a b : Bool} (h : a = b) : Ending.returned (.bool a) = .returned (.bool b) := by rw [h]
end
/- A region that draws its order: operations that are quiet in a class of worlds, and behind them a tail in one forced order. No program is named here. -/
section
open Go.RowKit
section
variable {P : Program} {ops : Array Oper} {md : Region.Mode} {C : World → Prop}
def anyM (P : Program) (md : Region.Mode) (ops : Array Oper) (C : World → Prop) (n : Nat) (L : Array Bool → Act → Prop) : Nat → Array Bool → Act → Prop
  | 0, listed, a => L listed a
  | f + 1, listed, a => Region.ready md ops listed ≠ [] ∧ ∀ i ∈ Region.ready md ops listed, i < n ∧ qOp P ops C i (anyM P md ops C n L f (listed.setIfInBounds i true)) a
theorem any_of_anyM {n g : Nat} {L : Array Bool → Act → Prop} {Q' : Exit → Act → World → Prop} (hL : ∀ listed a w, C w → L listed a → wpAny P md ops Q' g listed a w) :
    ∀ (f : Nat) (listed : Array Bool) (a : Act) (w : World), C w → anyM P md ops C n L f listed a → wpAny P md ops Q' (f + g) listed a w
  | 0, listed, a, w, hw, h => by rw [Nat.zero_add]; exact hL _ _ _ hw h
  | f + 1, listed, a, w, hw, h => by
    rw [show f + 1 + g = (f + g) + 1 by omega]
    exact ⟨fun h0 => absurd h0 h.1, fun i hi => wpOp_of_qOp hw (fun a' w' hw' h' => any_of_anyM hL f _ a' w' hw' h') (h.2 i hi).2⟩
theorem anyM_first {n i : Nat} {oi : Oper} {v : Value} {L : Array Bool → Act → Prop} (hi : ops[i]? = some oi) (hsel : ∀ (j : Nat) (o : Oper) cs b, ops[j]? = some o → o.op ≠ .select cs b)
    (hs : Region.sinkB md ops n = true) (hc : Region.chainB md ops n = true) (hn : n < ops.size) (hin : i < n)
    (hdone : ∀ listed a, L listed a → ∀ j ∈ Region.ready md ops listed, n ≤ j) :
    ∀ (f : Nat) (listed : Array Bool) (a : Act), HeadInv md ops n listed →
      (∀ j oj, ops[j]? = some oj → j ≠ i → listed.getD j true = false → (∀ e ∈ oj.after, Region.binds md e = true → e.on ≠ i) → oi.apart ops oj = true) →
      i ∈ Region.ready md ops listed → YieldsIn P ops C oi v a →
      anyM P md ops C n L f (listed.setIfInBounds i true) (a.put oi.dst v) → anyM P md ops C n L (f + 1) listed a := by
  intro f
  induction f with
  | zero =>
    intro listed a inv _ hr hy H
    have hun := (mem_ready.1 hr).1
    refine ⟨fun h => (by rw [h] at hr; cases hr), fun j hj => ?_⟩
    have hjn : j < n := by
      rcases Nat.lt_or_ge j n with h | h
      · exact h
      · exact absurd hj (tail_waits hs hc hn inv _ i rfl hin hun j h)
    refine ⟨hjn, ?_⟩
    by_cases hji : j = i
    · subst hji; exact hy.qOp hi H
    · have := hdone _ _ H j (ready_mono hj hji)
      omega
  | succ f ih =>
    intro listed a inv hfree hr hy H
    have hun := (mem_ready.1 hr).1
    refine ⟨fun h => (by rw [h] at hr; cases hr), fun j hj => ?_⟩
    have hjn : j < n := by
      rcases Nat.lt_or_ge j n with h | h
      · exact h
      · exact absurd hj (tail_waits hs hc hn inv _ i rfl hin hun j h)
    refine ⟨hjn, ?_⟩
    by_cases hji : j = i
    · subst hji; exact hy.qOp hi H
    · have h1 := (H.2 j (ready_mono hj hji)).2
      obtain ⟨hjun, oj, hoj, hall⟩ := mem_ready.1 hj
      have hnot : ∀ e ∈ oj.after, Region.binds md e = true → e.on ≠ i := fun e he hb heq => by
        have h1 := hall e he hb
        rw [heq, getD_both hun] at h1
        cases h1
      have h2 := qOp_put hoj (hfree j oj hoj hji hjun hnot) (fun cs b => hsel i oi cs b hi) (fun cs b => hsel j oj cs b hoj) hy h1
      have hfree' : ∀ k ok, ops[k]? = some ok → k ≠ i → (listed.setIfInBounds j true).getD k true = false →
          (∀ e ∈ ok.after, Region.binds md e = true → e.on ≠ i) → oi.apart ops ok = true := fun k ok hk hki hun hno => by
        refine hfree k ok hk hki ?_ hno
        by_cases hjk : j = k
        · subst hjk; exact hjun
        · rw [getD_set_ne true hjk] at hun; exact hun
      refine qOp_mono (fun a' h3 => ih (listed.setIfInBounds j true) a' (inv.set hj hjn) hfree' (ready_mono hr (Ne.symm hji)) h3.1 ?_) h2
      rw [Array.setIfInBounds_comm _ _ hji]
      exact h3.2
theorem anyM_lex {n g : Nat} {Lq : Act → Prop} (hsel : Region.noSelect ops = true) (hs : Region.sinkB md ops n = true) (hc : Region.chainB md ops n = true) (hn : n < ops.size) :
    ∀ (l : List Oper) (k : Nat) (listed : Array Bool) (a : Act), (∀ j, j < l.length → l[j]? = ops[k + j]?) → k + l.length = n → HeadInv md ops n listed →
    Region.lexHead md ops g l.length k listed = true → wpQuiet P ops C Lq l a →
    anyM P md ops C n (fun listed' a' => Region.seqB md ops g n listed' = true ∧ Lq a') l.length listed a
  | [], k, listed, a, _, hk, _, hB, h => by
    have : k = n := by simpa using hk
    subst this
    exact ⟨by simpa [Region.lexHead] using hB, h⟩
  | o :: l, k, listed, a, hl, hk, inv, hB, h => by
    have h0 : ops[k]? = some o := by simpa using (hl 0 (by simp)).symm
    simp only [List.length_cons, Region.lexHead, Bool.and_eq_true] at hB
    obtain ⟨⟨hr, hf⟩, hB'⟩ := hB
    have hkn : k < n := by simp only [List.length_cons] at hk; omega
    have hr' : k ∈ Region.ready md ops listed := by simpa using hr
    have hst : qOp P ops C k (wpQuiet P ops C Lq l) a := by unfold qOp; simp only [h0]; exact h
    obtain ⟨v, hy, hK⟩ := yieldsIn_of_qOp h0 hst
    exact anyM_first h0 (Region.noSelect_spec hsel) hs hc hn hkn (fun listed' a' hL => seqB_ready hL.1) l.length listed a inv (Region.free_spec h0 hf) hr' hy
      (anyM_lex hsel hs hc hn l (k + 1) _ _ (fun j hj => by have := hl (j + 1) (by simp; omega); simpa [Nat.add_assoc, Nat.add_comm 1 j] using this) (by simp only [List.length_cons] at hk; omega) (inv.set hr' hkn) hB' hK)
/-- The head, n operations, is quiet in the class C; the tail is walked in its order in whatever world of the class. -/
theorem wp_region_quiet_tail {id : Nat} {Q : Exit → Act → World → Prop} {a : Act} {w : World} {l : List Oper} (n : Nat) (hm : P.follows .mixedOrders = true) (hB : Region.lexTailB .any l.toArray n = true)
    (hC : C { w with drawn := w.drawn + 1 })
    (h : wpQuiet P l.toArray C (fun a' => ∀ w', C w' → wpList P l.toArray Q (l.drop n) a' w') (l.take n) a) : (Code.region id l.toArray true).wp P Q a w := by
  simp only [Region.lexTailB, Bool.and_eq_true, decide_eq_true_eq] at hB
  obtain ⟨⟨⟨⟨hsel, hn⟩, hs⟩, hc⟩, hlex⟩ := hB
  have hn' : n < l.length := by simpa using hn
  have htl : (l.take n).length = n := by simp; omega
  have hdl : (l.drop n).length = l.toArray.size - n := by simp
  have inv0 : HeadInv .any l.toArray n (Array.replicate l.toArray.size false) :=
    ⟨by simp, fun j oj _ hl => (by rw [getD_replicate_false] at hl; cases hl), fun t _ ht => getD_in (by simpa using ht) (getD_replicate_false _ _)⟩
  have H := anyM_lex (md := .any) (C := C) (g := l.toArray.size - n) hsel hs hc hn (l.take n) 0 _ a (fun j hj => by
    have hj' : j < n := by rw [htl] at hj; exact hj
    simp [hj']) (by simpa using htl) inv0 (by rw [htl]; exact hlex) h
  refine wp_region_any hm ?_
  have := any_of_anyM (Q' := Q) (C := C) (g := l.toArray.size - n) (fun listed a' w' hw' hL => by
    have := wpAny_of_seq (md := .any) (Q' := Q) (l.drop n) n listed a' w' (fun j => by simp [List.getElem?_drop]) (by rw [hdl]; exact hL.1) (hL.2 w' hw')
    rwa [hdl] at this) _ _ _ _ hC H
  rw [htl, show n + (l.toArray.size - n) = l.toArray.size by omega] at this
  exact this
theorem wp_region_tailB {id : Nat} {Q : Exit → Act → World → Prop} {a : Act} {w : World} {l : List Oper} (n : Nat) (hm : P.follows .mixedOrders = true) (hB : Region.lexTailB .any l.toArray n = true)
    (h : wpQuiet P l.toArray (fun w' => ∃ u : Ext w, w' = u.val) (fun a' => ∀ w', (∃ u : Ext w, w' = u.val) → wpList P l.toArray Q (l.drop n) a' w') (l.take n) a) : (Code.region id l.toArray true).wp P Q a w :=
  wp_region_quiet_tail (C := fun w' => ∃ u : Ext w, w' = u.val) n hm hB ⟨Ext.drew, rfl⟩ h
theorem wp_region_tailD {id : Nat} {Q : Exit → Act → World → Prop} {a : Act} {w : World} {l : List Oper} (n : Nat) (hm : P.follows .mixedOrders = true) (hB : Region.lexTailB .any l.toArray n = true)
    (h : wpQuiet P l.toArray (fun w' => ∃ n, w' = w.drewN n) (fun a' => ∀ w', (∃ n, w' = w.drewN n) → wpList P l.toArray Q (l.drop n) a' w') (l.take n) a) : (Code.region id l.toArray true).wp P Q a w :=
  wp_region_quiet_tail (C := fun w' => ∃ n, w' = w.drewN n) n hm hB ⟨1, rfl⟩ h
end
end
/- A region that draws its order, taken in an order of ours: first operations that yield one value in every world, then operations that are quiet in a class of worlds, then a tail in one forced order. No program is named here. -/
section
open Go.RowKit
section
variable {P : Program} {ops : Array Oper} {md : Region.Mode} {C : World → Prop} {Q : Exit → Act → World → Prop}
/-- Operations that yield in every world. -/
def wpW (P : Program) (ops : Array Oper) (K : Act → Prop) : List Oper → Act → Prop
  | [], a => K a
  | o :: l, a => ∃ v, Yields P ops o v a ∧ wpW P ops K l (a.put o.dst v)
theorem wpW_step {K : Act → Prop} {o : Oper} {l : List Oper} {a : Act} (h : ∀ K' : Act → Prop, (∀ a, wpW P ops K l a → K' a) → Region.wanted o (yielded ops a.tmps) = true ∧ ∃ v, (∀ w, (execOp a.eval o).run P w = .ok (.value v) w) ∧ K' (a.put o.dst v)) : wpW P ops K (o :: l) a := by
  obtain ⟨hw, v, hv, hk⟩ := h (wpW P ops K l) (fun _ h => h)
  exact ⟨v, .inl ⟨hw, hv⟩, hk⟩
theorem wpW_nil {K : Act → Prop} {a : Act} (h : K a) : wpW P ops K [] a := h
def opsAt (ops : Array Oper) (l : List Nat) : List Oper := l.filterMap (ops[·]?)
/-- The operations wi, one behind the other, are ready and free. -/
def freeB (md : Region.Mode) (ops : Array Oper) (G : Array Bool → Bool) : List Nat → Array Bool → Bool
  | [], listed => G listed
  | i :: l, listed => (Region.ready md ops listed).contains i && Region.free md ops listed i && freeB md ops G l (listed.setIfInBounds i true)
/-- The tail ti is forced. -/
def forcedB (md : Region.Mode) (ops : Array Oper) : List Nat → Array Bool → Bool
  | [], listed => (Region.ready md ops listed).isEmpty
  | i :: l, listed => decide (Region.ready md ops listed = [i]) && forcedB md ops l (listed.setIfInBounds i true)
/-- Each of ci is waited for by a later one, or by the tail's first; each of the tail but the first waits for the one before. -/
def sinkL (md : Region.Mode) (ops : Array Oper) (t0 : Nat) : List Nat → Bool
  | [] => true
  | i :: l => (l ++ [t0]).any (fun j => Region.waitsFor md ops j i) && sinkL md ops t0 l
def chainL (md : Region.Mode) (ops : Array Oper) : List Nat → Bool
  | [] => true
  | [_] => true
  | i :: j :: l => Region.waitsFor md ops j i && chainL md ops (j :: l)
def permB (md : Region.Mode) (ops : Array Oper) (wi ci : List Nat) (t0 : Nat) (ts : List Nat) : Bool :=
  Region.noSelect ops && decide (wi.length + ci.length + (ts.length + 1) = ops.size) && sinkL md ops t0 ci && chainL md ops (t0 :: ts) &&
  ((wi ++ ci).all fun i => !(t0 :: ts).contains i) &&
  freeB md ops (freeB md ops (forcedB md ops (t0 :: ts)) ci) wi (Array.replicate ops.size false)
structure Inv (md : Region.Mode) (ops : Array Oper) (tl : List Nat) (listed : Array Bool) : Prop where
  closed : ∀ j oj, ops[j]? = some oj → listed.getD j false = true → ∀ e ∈ oj.after, Region.binds md e = true → listed.getD e.on false = true
  tail : ∀ t ∈ tl, t < ops.size → listed.getD t true = false
  size : listed.size = ops.size
theorem Inv.set {tl : List Nat} {i : Nat} {listed : Array Bool} (inv : Inv md ops tl listed) (hi : i ∈ Region.ready md ops listed) (hin : i ∉ tl) : Inv md ops tl (listed.setIfInBounds i true) := by
  obtain ⟨_, oi, hoi, hall⟩ := mem_ready.1 hi
  refine ⟨fun j oj hj hl e he hb => ?_, fun t ht ht' => by rw [getD_set_ne true (by rintro rfl; exact hin ht)]; exact inv.tail t ht ht', by simp [inv.size]⟩
  by_cases hij : i = j
  · subst hij
    have : oj = oi := Option.some.inj (hj.symm.trans hoi)
    subst this
    exact getD_set_true (hall e he hb)
  · rw [getD_set_ne false hij] at hl
    exact getD_set_true (inv.closed j oj hj hl e he hb)
theorem first_waits {t0 : Nat} {tl : List Nat} {listed : Array Bool} (inv : Inv md ops tl listed) :
    ∀ (l : List Nat), sinkL md ops t0 l = true → (∃ i ∈ l, listed.getD i true = false) → t0 ∉ Region.ready md ops listed
  | [], _, h => by obtain ⟨i, hi, _⟩ := h; cases hi
  | i :: l, hs, h => by
    simp only [sinkL, Bool.and_eq_true] at hs
    by_cases hl : ∃ j ∈ l, listed.getD j true = false
    · exact first_waits inv l hs.2 hl
    · obtain ⟨i', hi', hun⟩ := h
      have hii : i' = i := by
        rcases List.mem_cons.1 hi' with h | h
        · exact h
        · exact absurd ⟨i', h, hun⟩ hl
      subst hii
      intro hr
      obtain ⟨j, hj, hw⟩ := List.any_eq_true.1 hs.1
      obtain ⟨oj, hoj, e, he, hb, hon⟩ := Region.waitsFor_spec hw
      rcases List.mem_append.1 hj with hj | hj
      · have hjl : listed.getD j false = true := by
          have hlt : j < listed.size := by rw [inv.size]; exact (Array.getElem?_eq_some_iff.1 hoj).1
          cases hc : listed.getD j false with
          | true => rfl
          | false => exact absurd ⟨j, hj, getD_in hlt hc⟩ hl
        have := inv.closed j oj hoj hjl e he hb
        rw [hon, getD_both hun] at this
        cases this
      · have hjt : j = t0 := by simpa using hj
        subst hjt
        obtain ⟨_, o', ho', hall⟩ := mem_ready.1 hr
        have : oj = o' := Option.some.inj (hoj.symm.trans ho')
        subst this
        have := hall e he hb
        rw [hon, getD_both hun] at this
        cases this
theorem chain_waits {tl : List Nat} {listed : Array Bool} (hlt : ∀ t ∈ tl, listed.getD t true = false) :
    ∀ (t0 : Nat) (ts : List Nat), (∀ t ∈ t0 :: ts, t ∈ tl) → chainL md ops (t0 :: ts) = true → ∀ t ∈ ts, t ∉ Region.ready md ops listed
  | _, [], _, _ => fun t ht => by cases ht
  | t0, t1 :: ts, hin, hc => fun t ht hr => by
    simp only [chainL, Bool.and_eq_true] at hc
    rcases List.mem_cons.1 ht with rfl | ht
    · obtain ⟨oj, hoj, e, he, hb, hon⟩ := Region.waitsFor_spec hc.1
      obtain ⟨_, o', ho', hall⟩ := mem_ready.1 hr
      have : oj = o' := Option.some.inj (hoj.symm.trans ho')
      subst this
      have := hall e he hb
      rw [hon, getD_both (hlt t0 (hin t0 (by simp)))] at this
      cases this
    · exact chain_waits hlt t1 ts (fun x hx => hin x (by simp [hx])) hc.2 t ht hr
theorem forced_ready {tl : List Nat} {listed : Array Bool} (h : forcedB md ops tl listed = true) : ∀ j ∈ Region.ready md ops listed, j ∈ tl := by
  cases tl with
  | nil => intro j hj; simp only [forcedB, List.isEmpty_iff] at h; rw [h] at hj; cases hj
  | cons i l =>
    intro j hj
    simp only [forcedB, Bool.and_eq_true, decide_eq_true_eq] at h
    rw [h.1] at hj
    have : j = i := by simpa using hj
    simp [this]
theorem any_of_forced : ∀ (l : List Nat) (listed : Array Bool) (a : Act) (w : World), forcedB md ops l listed = true → wpList P ops Q (opsAt ops l) a w → wpAny P md ops Q l.length listed a w
  | [], _, _, _, hB, h => ⟨by simpa [forcedB] using hB, h⟩
  | i :: l, listed, a, w, hB, h => by
    simp only [forcedB, Bool.and_eq_true, decide_eq_true_eq] at hB
    have hi : i ∈ Region.ready md ops listed := by rw [hB.1]; simp
    obtain ⟨_, oi, hoi, _⟩ := mem_ready.1 hi
    refine ⟨fun h1 => (by rw [hB.1] at h1; cases h1), fun j hj => ?_⟩
    rw [hB.1] at hj
    have hji : j = i := by simpa using hj
    subst hji
    have hl : opsAt ops (j :: l) = oi :: opsAt ops l := by simp [opsAt, hoi]
    rw [hl] at h
    have hw : wpOp P ops Q j (wpList P ops Q (opsAt ops l)) a w := by unfold wpOp; simp only [hoi]; exact h
    exact wpOp_mono (fun a' w' h' => any_of_forced l _ a' w' hB.2 h') hw
/-- The quiet middle. -/
def anyN (P : Program) (md : Region.Mode) (ops : Array Oper) (C : World → Prop) (tl : List Nat) (L : Array Bool → Act → Prop) : Nat → Array Bool → Act → Prop
  | 0, listed, a => L listed a
  | f + 1, listed, a => Region.ready md ops listed ≠ [] ∧ ∀ i ∈ Region.ready md ops listed, i ∉ tl ∧ qOp P ops C i (anyN P md ops C tl L f (listed.setIfInBounds i true)) a
theorem any_of_anyN {tl : List Nat} {g : Nat} {L : Array Bool → Act → Prop} {Q' : Exit → Act → World → Prop} (hL : ∀ listed a w, C w → L listed a → wpAny P md ops Q' g listed a w) :
    ∀ (f : Nat) (listed : Array Bool) (a : Act) (w : World), C w → anyN P md ops C tl L f listed a → wpAny P md ops Q' (f + g) listed a w
  | 0, listed, a, w, hw, h => by rw [Nat.zero_add]; exact hL _ _ _ hw h
  | f + 1, listed, a, w, hw, h => by
    rw [show f + 1 + g = (f + g) + 1 by omega]
    exact ⟨fun h0 => absurd h0 h.1, fun i hi => wpOp_of_qOp hw (fun a' w' hw' h' => any_of_anyN hL f _ a' w' hw' h') (h.2 i hi).2⟩
theorem anyN_first {t0 : Nat} {ts : List Nat} {i : Nat} {oi : Oper} {v : Value} {L : Array Bool → Act → Prop} (hi : ops[i]? = some oi) (hsel : ∀ (j : Nat) (o : Oper) cs b, ops[j]? = some o → o.op ≠ .select cs b)
    (ci : List Nat) (hs : sinkL md ops t0 ci = true) (hc : chainL md ops (t0 :: ts) = true) (hin : i ∈ ci) (hit : i ∉ t0 :: ts)
    (hdone : ∀ listed a, L listed a → ∀ j ∈ Region.ready md ops listed, j ∈ t0 :: ts) :
    ∀ (f : Nat) (listed : Array Bool) (a : Act), Inv md ops (t0 :: ts) listed →
      (∀ j oj, ops[j]? = some oj → j ≠ i → listed.getD j true = false → (∀ e ∈ oj.after, Region.binds md e = true → e.on ≠ i) → oi.apart ops oj = true) →
      i ∈ Region.ready md ops listed → YieldsIn P ops C oi v a →
      anyN P md ops C (t0 :: ts) L f (listed.setIfInBounds i true) (a.put oi.dst v) → anyN P md ops C (t0 :: ts) L (f + 1) listed a := by
  have hno : ∀ (listed : Array Bool), Inv md ops (t0 :: ts) listed → listed.getD i true = false → ∀ j ∈ Region.ready md ops listed, j ∉ t0 :: ts := by
    intro listed inv hun j hj hjt
    rcases List.mem_cons.1 hjt with rfl | hjt
    · exact first_waits inv ci hs ⟨i, hin, hun⟩ hj
    · have hlt : ∀ t ∈ t0 :: ts, t < ops.size → listed.getD t true = false := inv.tail
      have hall : ∀ t ∈ (t0 :: ts).filter (· < ops.size), listed.getD t true = false := fun t ht => by
        rw [List.mem_filter] at ht
        exact hlt t ht.1 (by simpa using ht.2)
      -- the chain, whose members lie in the region
      have key : ∀ (t0 : Nat) (ts : List Nat), (∀ t ∈ t0 :: ts, t < ops.size → listed.getD t true = false) → chainL md ops (t0 :: ts) = true → ∀ t ∈ ts, t ∉ Region.ready md ops listed := by
        intro t0 ts
        induction ts generalizing t0 with
        | nil => intro _ _ t ht; cases ht
        | cons t1 ts ih =>
          intro hun hc t ht hr
          simp only [chainL, Bool.and_eq_true] at hc
          rcases List.mem_cons.1 ht with rfl | ht
          · obtain ⟨oj, hoj, e, he, hb, hon⟩ := Region.waitsFor_spec hc.1
            obtain ⟨_, o', ho', hall⟩ := mem_ready.1 hr
            have : oj = o' := Option.some.inj (hoj.symm.trans ho')
            subst this
            have h1 := hall e he hb
            rw [hon] at h1
            rcases Nat.lt_or_ge t0 ops.size with h | h
            · rw [getD_both (hun t0 (by simp) h)] at h1; cases h1
            · have : t0 ≥ listed.size := by rw [inv.size]; exact h
              simp [Array.getElem?_eq_none this] at h1
          · exact ih t1 (fun x hx => hun x (by simp [hx])) hc.2 t ht hr
      exact key t0 ts hlt hc j hjt hj
  intro f
  induction f with
  | zero =>
    intro listed a inv _ hr hy H
    have hun := (mem_ready.1 hr).1
    refine ⟨fun h => (by rw [h] at hr; cases hr), fun j hj => ⟨hno listed inv hun j hj, ?_⟩⟩
    by_cases hji : j = i
    · subst hji; exact hy.qOp hi H
    · exact absurd (hdone _ _ H j (ready_mono hj hji)) (hno listed inv hun j hj)
  | succ f ih =>
    intro listed a inv hfree hr hy H
    have hun := (mem_ready.1 hr).1
    refine ⟨fun h => (by rw [h] at hr; cases hr), fun j hj => ⟨hno listed inv hun j hj, ?_⟩⟩
    by_cases hji : j = i
    · subst hji; exact hy.qOp hi H
    · have h1 := (H.2 j (ready_mono hj hji)).2
      obtain ⟨hjun, oj, hoj, hall⟩ := mem_ready.1 hj
      have hnot : ∀ e ∈ oj.after, Region.binds md e = true → e.on ≠ i := fun e he hb heq => by
        have h1 := hall e he hb
        rw [heq, getD_both hun] at h1
        cases h1
      have h2 := qOp_put hoj (hfree j oj hoj hji hjun hnot) (fun cs b => hsel i oi cs b hi) (fun cs b => hsel j oj cs b hoj) hy h1
      have hfree' : ∀ k ok, ops[k]? = some ok → k ≠ i → (listed.setIfInBounds j true).getD k true = false →
          (∀ e ∈ ok.after, Region.binds md e = true → e.on ≠ i) → oi.apart ops ok = true := fun k ok hk hki hun hno => by
        refine hfree k ok hk hki ?_ hno
        by_cases hjk : j = k
        · subst hjk; exact hjun
        · rw [getD_set_ne true hjk] at hun; exact hun
      refine qOp_mono (fun a' h3 => ih (listed.setIfInBounds j true) a' (inv.set hj (hno listed inv hun j hj)) hfree' (ready_mono hr (Ne.symm hji)) h3.1 ?_) h2
      rw [Array.setIfInBounds_comm _ _ hji]
      exact h3.2
theorem anyN_lex {t0 : Nat} {ts : List Nat} {Lq : Act → Prop} (hsel : Region.noSelect ops = true) (ci : List Nat) (hs : sinkL md ops t0 ci = true) (hc : chainL md ops (t0 :: ts) = true) (hit : ∀ i ∈ ci, i ∉ t0 :: ts) :
    ∀ (l : List Nat) (listed : Array Bool) (a : Act), (∀ i ∈ l, i ∈ ci) → Inv md ops (t0 :: ts) listed → freeB md ops (forcedB md ops (t0 :: ts)) l listed = true → wpQuiet P ops C Lq (opsAt ops l) a →
    anyN P md ops C (t0 :: ts) (fun listed' a' => forcedB md ops (t0 :: ts) listed' = true ∧ Lq a') l.length listed a
  | [], listed, a, _, _, hB, h => ⟨hB, h⟩
  | i :: l, listed, a, hl, inv, hB, h => by
    simp only [freeB, Bool.and_eq_true] at hB
    obtain ⟨⟨hr, hf⟩, hB'⟩ := hB
    have hr' : i ∈ Region.ready md ops listed := by simpa using hr
    obtain ⟨_, oi, hoi, _⟩ := mem_ready.1 hr'
    have ho : opsAt ops (i :: l) = oi :: opsAt ops l := by simp [opsAt, hoi]
    rw [ho] at h
    have hst : qOp P ops C i (wpQuiet P ops C Lq (opsAt ops l)) a := by unfold qOp; simp only [hoi]; exact h
    obtain ⟨v, hy, hK⟩ := yieldsIn_of_qOp hoi hst
    exact anyN_first hoi (Region.noSelect_spec hsel) ci hs hc (hl i (by simp)) (hit i (hl i (by simp))) (fun listed' a' hL => forced_ready hL.1) l.length listed a inv (Region.free_spec hoi hf) hr' hy
      (anyN_lex hsel ci hs hc hit l _ _ (fun j hj => hl j (by simp [hj])) (inv.set hr' (hit i (hl i (by simp)))) hB' hK)
/-- The world-free beginning. -/
theorem any_of_W {G : Array Bool → Bool} {g : Nat} (hsel : Region.noSelect ops = true) (hQ : ∀ c a w, ¬ Q (.panic c) a w) {w : World} {K : Act → Prop} (tl : List Nat)
    (hK : ∀ listed a, G listed = true → Inv md ops tl listed → K a → wpAny P md ops Q g listed a w) :
    ∀ (l : List Nat) (listed : Array Bool) (a : Act), (∀ i ∈ l, i ∉ tl) → Inv md ops tl listed → freeB md ops G l listed = true → wpW P ops K (opsAt ops l) a → wpAny P md ops Q (l.length + g) listed a w
  | [], listed, a, _, inv, hB, h => by simpa using hK _ _ hB inv h
  | i :: l, listed, a, hl, inv, hB, h => by
    simp only [freeB, Bool.and_eq_true] at hB
    obtain ⟨⟨hr, hf⟩, hB'⟩ := hB
    have hr' : i ∈ Region.ready md ops listed := by simpa using hr
    obtain ⟨_, oi, hoi, _⟩ := mem_ready.1 hr'
    have ho : opsAt ops (i :: l) = oi :: opsAt ops l := by simp [opsAt, hoi]
    rw [ho] at h
    obtain ⟨v, hy, h'⟩ := h
    have := any_of_W hsel hQ tl hK l _ _ (fun j hj => hl j (by simp [hj])) (inv.set hr' (hl i (by simp))) hB' h'
    rw [show (i :: l).length + g = (l.length + g) + 1 by simp; omega]
    exact wpAny_first hoi (Region.noSelect_spec hsel) (fun c a w h => absurd h (hQ c _ w)) _ listed a w (Region.free_spec hoi hf) hr' hy this
theorem wp_region_perm {id : Nat} {a : Act} {w : World} {l : List Oper} (wi ci : List Nat) (t0 : Nat) (ts : List Nat) (hm : P.follows .mixedOrders = true) (hB : permB .any l.toArray wi ci t0 ts = true)
    (hC : C { w with drawn := w.drawn + 1 })
    (h : wpW P l.toArray (wpQuiet P l.toArray C (fun a' => ∀ w', C w' → wpList P l.toArray (NoPanic Q) (opsAt l.toArray (t0 :: ts)) a' w') (opsAt l.toArray ci)) (opsAt l.toArray wi) a) :
    (Code.region id l.toArray true).wp P Q a w := by
  refine wp_region_noPanic (wp_region_any hm ?_)
  simp only [permB, Bool.and_eq_true, decide_eq_true_eq] at hB
  obtain ⟨⟨⟨⟨⟨hsel, hsz⟩, hs⟩, hc⟩, hd⟩, hf⟩ := hB
  have hit : ∀ i ∈ wi ++ ci, i ∉ t0 :: ts := fun i hi => by
    have := List.all_eq_true.1 hd i hi
    simpa using this
  have inv0 : Inv .any l.toArray (t0 :: ts) (Array.replicate l.toArray.size false) :=
    ⟨fun j oj _ hl => (by rw [getD_replicate_false] at hl; cases hl), fun t _ ht => getD_in (by simpa using ht) (getD_replicate_false _ _), by simp⟩
  have := any_of_W (P := P) (md := .any) (Q := NoPanic Q) (g := ci.length + (ts.length + 1)) (w := { w with drawn := w.drawn + 1 }) hsel (fun c a w h => h) (t0 :: ts)
    (fun listed a' hG inv hq => any_of_anyN (tl := t0 :: ts) (g := ts.length + 1) (fun listed2 a2 w2 hw2 hL => any_of_forced (t0 :: ts) listed2 a2 w2 hL.1 (hL.2 w2 hw2)) ci.length listed a' _ hC
      (anyN_lex hsel ci hs hc (fun i hi => hit i (by simp [hi])) ci listed a' (fun _ h => h) inv hG hq))
    wi _ a (fun i hi => hit i (by simp [hi])) inv0 hf h
  rw [show wi.length + (ci.length + (ts.length + 1)) = l.toArray.size by omega] at this
  exact this
end
end
/- A region that draws its order: world-free operations, loads under a condition S on the world, one operation that keeps S (a new block), and a tail in one forced order. For x = append(x, v). No program is named here. -/
section
open Go.RowKit
section
variable {P : Program} {ops : Array Oper} {md : Region.Mode} {S : World → Prop} {Q : Exit → Act → World → Prop}
/-- Whatever order; till the tail fin begins S is kept. -/
def anyF (P : Program) (md : Region.Mode) (ops : Array Oper) (Q : Exit → Act → World → Prop) (S : World → Prop) (fin : List Nat) : Nat → Array Bool → Act → World → Prop
  | 0, listed, a, w => Region.ready md ops listed = [] ∧ Q .normal a w
  | f + 1, listed, a, w => (Region.ready md ops listed = [] → Q .normal a w) ∧
    ∀ i ∈ Region.ready md ops listed, wpOp P ops Q i (fun a' w' => (i ∉ fin → S w') ∧ anyF P md ops Q S fin f (listed.setIfInBounds i true) a' w') a w
theorem any_of_anyF {fin : List Nat} : ∀ (f : Nat) (listed : Array Bool) (a : Act) (w : World), anyF P md ops Q S fin f listed a w → wpAny P md ops Q f listed a w
  | 0, _, _, _, h => h
  | f + 1, _, _, _, h => ⟨h.1, fun i hi => wpOp_mono (fun a' w' h' => any_of_anyF f _ a' w' h'.2) (h.2 i hi)⟩
theorem tail_idle {tl : List Nat} {listed : Array Bool} (inv : Inv md ops tl listed) : ∀ (t0 : Nat) (ts : List Nat), (∀ t ∈ t0 :: ts, t ∈ tl) → chainL md ops (t0 :: ts) = true → ∀ t ∈ ts, t ∉ Region.ready md ops listed := by
  intro t0 ts
  induction ts generalizing t0 with
  | nil => intro _ _ t ht; cases ht
  | cons t1 ts ih =>
    intro hun hc t ht hr
    simp only [chainL, Bool.and_eq_true] at hc
    rcases List.mem_cons.1 ht with rfl | ht
    · obtain ⟨oj, hoj, e, he, hb, hon⟩ := Region.waitsFor_spec hc.1
      obtain ⟨_, o', ho', hall⟩ := mem_ready.1 hr
      have : oj = o' := Option.some.inj (hoj.symm.trans ho')
      subst this
      have h1 := hall e he hb
      rw [hon] at h1
      rcases Nat.lt_or_ge t0 ops.size with h | h
      · rw [getD_both (inv.tail t0 (hun t0 (by simp)) h)] at h1; cases h1
      · have : t0 ≥ listed.size := by rw [inv.size]; exact h
        simp [Array.getElem?_eq_none this] at h1
    · exact ih t1 (fun x hx => hun x (by simp [hx])) hc.2 t ht hr
theorem anyF_first {f0 : Nat} {fs : List Nat} {i : Nat} {oi : Oper} {v : Value} (hi : ops[i]? = some oi) (hsel : ∀ (j : Nat) (o : Oper) cs b, ops[j]? = some o → o.op ≠ .select cs b)
    (hQ : ∀ c a w, ¬ Q (.panic c) a w) (ci : List Nat) (hs : sinkL md ops f0 ci = true) (hc : chainL md ops (f0 :: fs) = true) (hin : i ∈ ci) :
    ∀ (f : Nat) (listed : Array Bool) (a : Act) (w : World), Inv md ops (f0 :: fs) listed →
      (∀ j oj, ops[j]? = some oj → j ≠ i → listed.getD j true = false → (∀ e ∈ oj.after, Region.binds md e = true → e.on ≠ i) → oi.apart ops oj = true) →
      i ∈ Region.ready md ops listed → YieldsIf P ops S oi v a → S w →
      anyF P md ops Q S (f0 :: fs) f (listed.setIfInBounds i true) (a.put oi.dst v) w → anyF P md ops Q S (f0 :: fs) (f + 1) listed a w := by
  have hno : ∀ (listed : Array Bool), Inv md ops (f0 :: fs) listed → listed.getD i true = false → ∀ j ∈ Region.ready md ops listed, j ∉ f0 :: fs := by
    intro listed inv hun j hj hjt
    rcases List.mem_cons.1 hjt with rfl | hjt
    · exact first_waits inv ci hs ⟨i, hin, hun⟩ hj
    · exact tail_idle inv f0 fs (fun _ h => h) hc j hjt hj
  intro f
  induction f with
  | zero =>
    intro listed a w inv _ hr hy hS H
    refine ⟨fun h => (by rw [h] at hr; cases hr), fun j hj => ?_⟩
    by_cases hji : j = i
    · subst hji; exact hy.wpOp hi hS ⟨fun _ => hS, H⟩
    · have := ready_mono hj hji
      rw [H.1] at this
      cases this
  | succ f ih =>
    intro listed a w inv hfree hr hy hS H
    have hun := (mem_ready.1 hr).1
    refine ⟨fun h => (by rw [h] at hr; cases hr), fun j hj => ?_⟩
    have hjf := hno listed inv hun j hj
    by_cases hji : j = i
    · subst hji; exact hy.wpOp hi hS ⟨fun _ => hS, H⟩
    · have h1 := H.2 j (ready_mono hj hji)
      obtain ⟨hjun, oj, hoj, hall⟩ := mem_ready.1 hj
      have hnot : ∀ e ∈ oj.after, Region.binds md e = true → e.on ≠ i := fun e he hb heq => by
        have h1 := hall e he hb
        rw [heq, getD_both hun] at h1
        cases h1
      have h2 := wpOp_putIf hoj (hfree j oj hoj hji hjun hnot) (fun cs b => hsel i oi cs b hi) (fun cs b => hsel j oj cs b hoj) (fun c a w h => absurd h (hQ c _ w)) hy h1
      have hfree' : ∀ k ok, ops[k]? = some ok → k ≠ i → (listed.setIfInBounds j true).getD k true = false →
          (∀ e ∈ ok.after, Region.binds md e = true → e.on ≠ i) → oi.apart ops ok = true := fun k ok hk hki hun hno => by
        refine hfree k ok hk hki ?_ hno
        by_cases hjk : j = k
        · subst hjk; exact hjun
        · rw [getD_set_ne true hjk] at hun; exact hun
      refine wpOp_mono (fun a' w' h3 => ⟨h3.2.1, ih (listed.setIfInBounds j true) a' w' (inv.set hj hjf) hfree' (ready_mono hr (Ne.symm hji)) h3.1 (h3.2.1 hjf) ?_⟩) h2
      rw [Array.setIfInBounds_comm _ _ hji]
      exact h3.2.2
/-- Loads under S. -/
def wpS (P : Program) (ops : Array Oper) (S : World → Prop) (K : Act → Prop) : List Oper → Act → Prop
  | [], a => K a
  | o :: l, a => ∃ v, YieldsIf P ops S o v a ∧ wpS P ops S K l (a.put o.dst v)
theorem wpS_step {K : Act → Prop} {o : Oper} {l : List Oper} {a : Act} (h : ∀ K' : Act → Prop, (∀ a, wpS P ops S K l a → K' a) → Region.wanted o (yielded ops a.tmps) = true ∧ ∃ v, (∀ w, S w → (execOp a.eval o).run P w = .ok (.value v) w) ∧ K' (a.put o.dst v)) : wpS P ops S K (o :: l) a := by
  obtain ⟨hw, v, hv, hk⟩ := h (wpS P ops S K l) (fun _ h => h)
  exact ⟨v, .inl ⟨hw, hv⟩, hk⟩
theorem wpS_nil {K : Act → Prop} {a : Act} (h : K a) : wpS P ops S K [] a := h
/-- The post behind the one operation that keeps S. -/
def Mid (P : Program) (ops : Array Oper) (S : World → Prop) (Q : Exit → Act → World → Prop) (fin : List Oper) : Exit → Act → World → Prop
  | .normal, a, w => S w ∧ wpList P ops (NoPanic Q) fin a w
  | _, _, _ => False
theorem anyF_forced {fin : List Nat} : ∀ (l : List Nat) (listed : Array Bool) (a : Act) (w : World), (∀ i ∈ l, i ∈ fin) → forcedB md ops l listed = true → wpList P ops Q (opsAt ops l) a w → anyF P md ops Q S fin l.length listed a w
  | [], _, _, _, _, hB, h => ⟨by simpa [forcedB] using hB, h⟩
  | i :: l, listed, a, w, hin, hB, h => by
    simp only [forcedB, Bool.and_eq_true, decide_eq_true_eq] at hB
    have hi : i ∈ Region.ready md ops listed := by rw [hB.1]; simp
    obtain ⟨_, oi, hoi, _⟩ := mem_ready.1 hi
    refine ⟨fun h1 => (by rw [hB.1] at h1; cases h1), fun j hj => ?_⟩
    rw [hB.1] at hj
    have hji : j = i := by simpa using hj
    subst hji
    have hl : opsAt ops (j :: l) = oi :: opsAt ops l := by simp [opsAt, hoi]
    rw [hl] at h
    have hw : wpOp P ops Q j (wpList P ops Q (opsAt ops l)) a w := by unfold wpOp; simp only [hoi]; exact h
    exact wpOp_mono (fun a' w' h' => ⟨fun hn => absurd (hin j (by simp)) hn, anyF_forced l _ a' w' (fun x hx => hin x (by simp [hx])) hB.2 h'⟩) hw
def appB (md : Region.Mode) (ops : Array Oper) (wi ci : List Nat) (m0 f0 : Nat) (fs : List Nat) : Bool :=
  Region.noSelect ops && decide (wi.length + ci.length + 1 + (fs.length + 1) = ops.size) && sinkL md ops f0 (ci ++ [m0]) && chainL md ops (f0 :: fs) &&
  ((wi ++ ci ++ [m0]).all fun i => !(f0 :: fs).contains i) &&
  freeB md ops (freeB md ops (forcedB md ops (m0 :: f0 :: fs)) ci) wi (Array.replicate ops.size false)
theorem wpList_one {R : Exit → Act → World → Prop} {o : Oper} {a : Act} {w : World} (h : wpList P ops R [o] a w) (i : Nat) (ho : ops[i]? = some o) (hR : ∀ e a w, R e a w → e = .normal) :
    wpOp P ops Q i (R .normal) a w := by
  unfold wpOp
  simp only [ho]
  simp only [wpList] at h
  split
  · rename_i hw
    simp only [hw, if_true] at h
    rcases h with h | ⟨h1, a', w', h2⟩
    · refine .inl ?_
      unfold Oper.wp at *
      generalize (execOp a.eval o).run P w = r at *
      cases r with
      | ok n w' =>
        cases n <;> simp only [Oper.upon] at h ⊢
        case value v => exact h
        case skip => exact h
        case defer d => exact h
        case enter f args =>
          refine h.mono (fun e w'' he => ?_)
          cases e with
          | returned v => exact he
          | panicked c => exact absurd (hR _ _ _ he) (by simp)
          | outgrown => obtain ⟨a', w', hq⟩ := he; exact absurd (hR _ _ _ hq) (by simp)
        case row r args => exact h
      | halt x w' =>
        cases x <;> simp only [Oper.upon] at h ⊢
        all_goals first | exact h | exact absurd (hR _ _ _ h) (by simp)
    · exact absurd (hR _ _ _ h2) (by simp)
  · rename_i hw
    simp only [hw] at h
    exact h
theorem anyF_S {f0 m0 : Nat} {fs : List Nat} (hsel : Region.noSelect ops = true) (hQ : ∀ c a w, ¬ Q (.panic c) a w) (ci : List Nat) (hs : sinkL md ops f0 (ci ++ [m0]) = true) (hc : chainL md ops (f0 :: fs) = true)
    (hit : ∀ i ∈ ci ++ [m0], i ∉ f0 :: fs) {w : World} (hS : S w) {R : Exit → Act → World → Prop} (hR : R = fun e a w => match e with | .normal => S w ∧ wpList P ops Q (opsAt ops (f0 :: fs)) a w | _ => False) :
    ∀ (l : List Nat) (listed : Array Bool) (a : Act), (∀ i ∈ l, i ∈ ci) → Inv md ops (f0 :: fs) listed → freeB md ops (forcedB md ops (m0 :: f0 :: fs)) l listed = true →
      wpS P ops S (fun a' => wpList P ops R (opsAt ops [m0]) a' w) (opsAt ops l) a → anyF P md ops Q S (f0 :: fs) (l.length + (1 + (fs.length + 1))) listed a w
  | [], listed, a, _, inv, hB, h => by
    simp only [freeB, forcedB, Bool.and_eq_true, decide_eq_true_eq] at hB
    have hi : m0 ∈ Region.ready md ops listed := by rw [hB.1]; simp
    obtain ⟨_, om, hom, _⟩ := mem_ready.1 hi
    have hl : opsAt ops [m0] = [om] := by simp [opsAt, hom]
    rw [show ([] : List Nat).length + (1 + (fs.length + 1)) = (fs.length + 1) + 1 by simp; omega]
    refine ⟨fun h1 => (by rw [hB.1] at h1; cases h1), fun j hj => ?_⟩
    rw [hB.1] at hj
    have hji : j = m0 := by simpa using hj
    subst hji
    have h' : wpList P ops R [om] a w := by simpa [opsAt, wpS, hom] using h
    have := wpList_one (Q := Q) h' j hom (fun e a w he => by subst hR; cases e <;> first | rfl | exact he.elim)
    refine wpOp_mono (fun a' w' h' => ?_) this
    subst hR
    have hf : forcedB md ops (f0 :: fs) (listed.setIfInBounds j true) = true := by
      simp only [forcedB, Bool.and_eq_true, decide_eq_true_eq]; exact hB.2
    exact ⟨fun _ => h'.1, anyF_forced (f0 :: fs) _ a' w' (fun _ h => h) hf h'.2⟩
  | i :: l, listed, a, hl, inv, hB, h => by
    simp only [freeB, Bool.and_eq_true] at hB
    obtain ⟨⟨hr, hf⟩, hB'⟩ := hB
    have hr' : i ∈ Region.ready md ops listed := by simpa using hr
    obtain ⟨_, oi, hoi, _⟩ := mem_ready.1 hr'
    have ho : opsAt ops (i :: l) = oi :: opsAt ops l := by simp [opsAt, hoi]
    rw [ho] at h
    obtain ⟨v, hy, h'⟩ := h
    have hic : i ∈ ci ++ [m0] := by simp [hl i (by simp)]
    have := anyF_S hsel hQ ci hs hc hit hS hR l _ _ (fun j hj => hl j (by simp [hj])) (inv.set hr' (hit i hic)) hB' h'
    rw [show (i :: l).length + (1 + (fs.length + 1)) = (l.length + (1 + (fs.length + 1))) + 1 by simp; omega]
    exact anyF_first hoi (Region.noSelect_spec hsel) hQ (ci ++ [m0]) hs hc hic _ listed a w inv (Region.free_spec hoi hf) hr' hy hS this
theorem wp_region_app {id : Nat} {a : Act} {w : World} {l : List Oper} (wi ci : List Nat) (m0 f0 : Nat) (fs : List Nat) (hm : P.follows .mixedOrders = true) (hB : appB .any l.toArray wi ci m0 f0 fs = true)
    (S : World → Prop) (hS : S w.drew)
    (h : wpW P l.toArray (wpS P l.toArray S (fun a' => wpList P l.toArray (Mid P l.toArray S Q (opsAt l.toArray (f0 :: fs))) (opsAt l.toArray [m0]) a' w.drew) (opsAt l.toArray ci)) (opsAt l.toArray wi) a) :
    (Code.region id l.toArray true).wp P Q a w := by
  refine wp_region_noPanic (wp_region_any hm ?_)
  simp only [appB, Bool.and_eq_true, decide_eq_true_eq] at hB
  obtain ⟨⟨⟨⟨⟨hsel, hsz⟩, hs⟩, hc⟩, hd⟩, hf⟩ := hB
  have hit : ∀ i ∈ wi ++ ci ++ [m0], i ∉ f0 :: fs := fun i hi => by
    have := List.all_eq_true.1 hd i hi
    simpa using this
  have inv0 : Inv .any l.toArray (f0 :: fs) (Array.replicate l.toArray.size false) :=
    ⟨fun j oj _ hl => (by rw [getD_replicate_false] at hl; cases hl), fun t _ ht => getD_in (by simpa using ht) (getD_replicate_false _ _), by simp⟩
  have := any_of_W (P := P) (md := .any) (Q := NoPanic Q) (g := ci.length + (1 + (fs.length + 1))) (w := w.drew) hsel (fun c a w h => h) (f0 :: fs)
    (fun listed a' hG inv hq => any_of_anyF _ _ _ _ (anyF_S (m0 := m0) hsel (fun c a w h => h) ci hs hc (fun i hi => hit i (by rw [List.append_assoc]; exact List.mem_append_right _ hi)) hS rfl ci listed a' (fun _ h => h) inv hG (by
      have e : (Mid P l.toArray S Q (opsAt l.toArray (f0 :: fs))) = (fun e a w => match e with | .normal => S w ∧ wpList P l.toArray (NoPanic Q) (opsAt l.toArray (f0 :: fs)) a w | _ => False) := by
        funext e a w; cases e <;> rfl
      rw [← e]; exact hq)))
    wi _ a (fun i hi => hit i (by simp [hi])) inv0 hf h
  rw [show wi.length + (ci.length + (1 + (fs.length + 1))) = l.toArray.size by omega] at this
  exact this
end
end
/- A region that draws its order: quiet operations, one new block that may come up anywhere among them, and a tail in one forced order. No program is named here. -/
section
open Go.RowKit
section
variable {P : Program} {ops : Array Oper} {md : Region.Mode} {w : World} {Q : Exit → Act → World → Prop}
/-- One value in every extension of w; a call leaves an extension of the world that it got. -/
def quietX (P : Program) (o : Oper) (a : Act) (w : World) (next : Act → Prop) : Prop :=
  ∃ v, (∀ u : Ext w, Oper.quietUpon P (fun w'' => ∃ u' : Ext u.val, w'' = u'.val) u.val v ((execOp a.eval o).run P u.val)) ∧ next (a.put o.dst v)
def YieldsX (P : Program) (ops : Array Oper) (w : World) (o : Oper) (v : Value) (a : Act) : Prop :=
  (Region.wanted o (yielded ops a.tmps) = true ∧ ∀ u : Ext w, Oper.quietUpon P (fun w'' => ∃ u' : Ext u.val, w'' = u'.val) u.val v ((execOp a.eval o).run P u.val)) ∨
  (Region.wanted o (yielded ops a.tmps) = false ∧ v = undef)
def qOpX (P : Program) (ops : Array Oper) (w : World) (i : Nat) (K : Act → Prop) (a : Act) : Prop :=
  match ops[i]? with
  | none => K a
  | some o => if Region.wanted o (yielded ops a.tmps) then quietX P o a w K else K (a.put o.dst undef)
theorem qOpX_mono {i : Nat} {a : Act} {K K' : Act → Prop} (h : ∀ a, K a → K' a) (hh : qOpX P ops w i K a) : qOpX P ops w i K' a := by
  unfold qOpX at *
  split
  · rename_i ho; simp only [ho] at hh; exact h _ hh
  · rename_i o ho
    simp only [ho] at hh
    split
    · rename_i hw; simp only [hw, if_true] at hh; obtain ⟨v, h1, h2⟩ := hh; exact ⟨v, h1, h _ h2⟩
    · rename_i hw; simp only [hw] at hh; exact h _ hh
theorem YieldsX.qOpX {i : Nat} {o : Oper} {v : Value} {a : Act} (hi : ops[i]? = some o) (hy : YieldsX P ops w o v a) {K : Act → Prop} (h : K (a.put o.dst v)) : qOpX P ops w i K a := by
  unfold Go.Proofs.YtjglkglaogaenaaGreatDoor.qOpX
  simp only [hi]
  rcases hy with ⟨hw, hv⟩ | ⟨hw, rfl⟩
  · simp only [hw, if_true]; exact ⟨v, hv, h⟩
  · simp only [hw, Bool.false_eq_true, if_false]; exact h
theorem YieldsX.of_same {o : Oper} {v : Value} {a a' : Act} (hy : YieldsX P ops w o v a) (he : execOp a'.eval o = execOp a.eval o)
    (hw : Region.wanted o (yielded ops a'.tmps) = Region.wanted o (yielded ops a.tmps)) : YieldsX P ops w o v a' := by
  unfold YieldsX at *
  rw [he, hw]
  exact hy
theorem yieldsX_of_qOpX {i : Nat} {o : Oper} {a : Act} {K : Act → Prop} (hi : ops[i]? = some o) (h : qOpX P ops w i K a) : ∃ v, YieldsX P ops w o v a ∧ K (a.put o.dst v) := by
  unfold qOpX at h
  simp only [hi] at h
  by_cases hw : Region.wanted o (yielded ops a.tmps) = true
  · simp only [hw, if_true] at h
    obtain ⟨v, h1, h2⟩ := h
    exact ⟨v, .inl ⟨hw, h1⟩, h2⟩
  · simp only [hw] at h
    exact ⟨undef, .inr ⟨by simpa using hw, rfl⟩, h⟩
theorem qOpX_put {j : Nat} {oi oj : Oper} {v : Value} (hj : ops[j]? = some oj) (hap : oi.apart ops oj = true)
    (hsi : ∀ cs b, oi.op ≠ .select cs b) (hsj : ∀ cs b, oj.op ≠ .select cs b) {K : Act → Prop} {a : Act}
    (hy : YieldsX P ops w oi v a) (h : qOpX P ops w j K (a.put oi.dst v)) :
    qOpX P ops w j (fun a' => YieldsX P ops w oi v a' ∧ K (a'.put oi.dst v)) a := by
  obtain ⟨h1, h2, h3⟩ := Oper.apart_spec hap
  have keep : ∀ (a : Act), YieldsX P ops w oi v a → ∀ u, YieldsX P ops w oi v (a.put oj.dst u) := fun a hy u =>
    hy.of_same (execOp_put oi hsi a oj.dst u h3) (wanted_put oi a oj.dst u h3)
  unfold qOpX at *
  simp only [hj] at *
  rw [wanted_put oj a oi.dst v h1] at h
  split
  · rename_i hw
    simp only [hw, if_true] at h
    obtain ⟨u, hu, hn⟩ := h
    refine ⟨u, fun x => ?_, keep a hy u, by rw [← Act.put_comm a v u h2]; exact hn⟩
    have := hu x
    rwa [execOp_put oj hsj a oi.dst v h1] at this
  · rename_i hw
    simp only [hw] at h
    exact ⟨keep a hy _, by rw [← Act.put_comm a v undef h2]; exact h⟩
/-- The quiet head, whatever order. -/
def anyZ (P : Program) (md : Region.Mode) (ops : Array Oper) (w : World) (tl : List Nat) (L : Array Bool → Act → Prop) : Nat → Array Bool → Act → Prop
  | 0, listed, a => L listed a
  | f + 1, listed, a => Region.ready md ops listed ≠ [] ∧ ∀ i ∈ Region.ready md ops listed, i ∉ tl ∧ qOpX P ops w i (anyZ P md ops w tl L f (listed.setIfInBounds i true)) a
theorem anyZ_first {t0 : Nat} {ts : List Nat} {i : Nat} {oi : Oper} {v : Value} {L : Array Bool → Act → Prop} (hi : ops[i]? = some oi) (hsel : ∀ (j : Nat) (o : Oper) cs b, ops[j]? = some o → o.op ≠ .select cs b)
    (ci : List Nat) (hs : sinkL md ops t0 ci = true) (hc : chainL md ops (t0 :: ts) = true) (hin : i ∈ ci) 
    (hdone : ∀ listed a, L listed a → ∀ j ∈ Region.ready md ops listed, j ∈ t0 :: ts) :
    ∀ (f : Nat) (listed : Array Bool) (a : Act), Inv md ops (t0 :: ts) listed →
      (∀ j oj, ops[j]? = some oj → j ≠ i → listed.getD j true = false → (∀ e ∈ oj.after, Region.binds md e = true → e.on ≠ i) → oi.apart ops oj = true) →
      i ∈ Region.ready md ops listed → YieldsX P ops w oi v a →
      anyZ P md ops w (t0 :: ts) L f (listed.setIfInBounds i true) (a.put oi.dst v) → anyZ P md ops w (t0 :: ts) L (f + 1) listed a := by
  have hno : ∀ (listed : Array Bool), Inv md ops (t0 :: ts) listed → listed.getD i true = false → ∀ j ∈ Region.ready md ops listed, j ∉ t0 :: ts := by
    intro listed inv hun j hj hjt
    rcases List.mem_cons.1 hjt with rfl | hjt
    · exact first_waits inv ci hs ⟨i, hin, hun⟩ hj
    · exact tail_idle inv t0 ts (fun _ h => h) hc j hjt hj
  intro f
  induction f with
  | zero =>
    intro listed a inv _ hr hy H
    have hun := (mem_ready.1 hr).1
    refine ⟨fun h => (by rw [h] at hr; cases hr), fun j hj => ⟨hno listed inv hun j hj, ?_⟩⟩
    by_cases hji : j = i
    · subst hji; exact hy.qOpX hi H
    · exact absurd (hdone _ _ H j (ready_mono hj hji)) (hno listed inv hun j hj)
  | succ f ih =>
    intro listed a inv hfree hr hy H
    have hun := (mem_ready.1 hr).1
    refine ⟨fun h => (by rw [h] at hr; cases hr), fun j hj => ⟨hno listed inv hun j hj, ?_⟩⟩
    by_cases hji : j = i
    · subst hji; exact hy.qOpX hi H
    · have h1 := (H.2 j (ready_mono hj hji)).2
      obtain ⟨hjun, oj, hoj, hall⟩ := mem_ready.1 hj
      have hnot : ∀ e ∈ oj.after, Region.binds md e = true → e.on ≠ i := fun e he hb heq => by
        have h1 := hall e he hb
        rw [heq, getD_both hun] at h1
        cases h1
      have h2 := qOpX_put hoj (hfree j oj hoj hji hjun hnot) (fun cs b => hsel i oi cs b hi) (fun cs b => hsel j oj cs b hoj) hy h1
      have hfree' : ∀ k ok, ops[k]? = some ok → k ≠ i → (listed.setIfInBounds j true).getD k true = false →
          (∀ e ∈ ok.after, Region.binds md e = true → e.on ≠ i) → oi.apart ops ok = true := fun k ok hk hki hun hno => by
        refine hfree k ok hk hki ?_ hno
        by_cases hjk : j = k
        · subst hjk; exact hjun
        · rw [getD_set_ne true hjk] at hun; exact hun
      refine qOpX_mono (fun a' h3 => ih (listed.setIfInBounds j true) a' (inv.set hj (hno listed inv hun j hj)) hfree' (ready_mono hr (Ne.symm hji)) h3.1 ?_) h2
      rw [Array.setIfInBounds_comm _ _ hji]
      exact h3.2
/-- The lexical walk. -/
def wpX (P : Program) (ops : Array Oper) (w : World) (K : Act → Prop) : List Oper → Act → Prop
  | [], a => K a
  | o :: l, a => if Region.wanted o (yielded ops a.tmps) then quietX P o a w (wpX P ops w K l) else wpX P ops w K l (a.put o.dst undef)
theorem wpX_nil {K : Act → Prop} {a : Act} (h : K a) : wpX P ops w K [] a := h
theorem wpX_step {K : Act → Prop} {o : Oper} {l : List Oper} {a : Act} (h : ∀ K' : Act → Prop, (∀ a, wpX P ops w K l a → K' a) → if Region.wanted o (yielded ops a.tmps) then quietX P o a w K' else K' (a.put o.dst undef)) : wpX P ops w K (o :: l) a :=
  h _ (fun _ h => h)
theorem anyZ_lex {t0 : Nat} {ts : List Nat} {Lq : Act → Prop} (hsel : Region.noSelect ops = true) (ci : List Nat) (hs : sinkL md ops t0 ci = true) (hc : chainL md ops (t0 :: ts) = true) (hit : ∀ i ∈ ci, i ∉ t0 :: ts) :
    ∀ (l : List Nat) (listed : Array Bool) (a : Act), (∀ i ∈ l, i ∈ ci) → Inv md ops (t0 :: ts) listed → freeB md ops (forcedB md ops (t0 :: ts)) l listed = true → wpX P ops w Lq (opsAt ops l) a →
    anyZ P md ops w (t0 :: ts) (fun listed' a' => forcedB md ops (t0 :: ts) listed' = true ∧ Lq a') l.length listed a
  | [], listed, a, _, _, hB, h => ⟨hB, h⟩
  | i :: l, listed, a, hl, inv, hB, h => by
    simp only [freeB, Bool.and_eq_true] at hB
    obtain ⟨⟨hr, hf⟩, hB'⟩ := hB
    have hr' : i ∈ Region.ready md ops listed := by simpa using hr
    obtain ⟨_, oi, hoi, _⟩ := mem_ready.1 hr'
    have ho : opsAt ops (i :: l) = oi :: opsAt ops l := by simp [opsAt, hoi]
    rw [ho] at h
    have hst : qOpX P ops w i (wpX P ops w Lq (opsAt ops l)) a := by unfold qOpX; simp only [hoi]; exact h
    obtain ⟨v, hy, hK⟩ := yieldsX_of_qOpX hoi hst
    exact anyZ_first hoi (Region.noSelect_spec hsel) ci hs hc (hl i (by simp)) (fun listed' a' hL => forced_ready hL.1) l.length listed a inv (Region.free_spec hoi hf) hr' hy
      (anyZ_lex hsel ci hs hc hit l _ _ (fun j hj => hl j (by simp [hj])) (inv.set hr' (hit i (hl i (by simp)))) hB' hK)
theorem wpOp_of_qOpX {G : World → Prop} (hG : ∀ x y : World, Below x.heap.size x y → G x → G y) {i : Nat} {a : Act} {K : Act → Prop} {K' : Act → World → Prop} {Q' : Exit → Act → World → Prop} {w' : World} (hC : Below w.heap.size w w') (hg : G w')
    (h : ∀ a w'', Below w.heap.size w w'' → G w'' → K a → K' a w'') (hh : qOpX P ops w i K a) : wpOp P ops Q' i K' a w' := by
  unfold qOpX at hh
  unfold wpOp
  split
  · rename_i ho; simp only [ho] at hh; exact h _ _ hC hg hh
  · rename_i o ho
    simp only [ho] at hh
    split
    · rename_i hw
      simp only [hw, if_true] at hh
      obtain ⟨v, h1, h2⟩ := hh
      have h3 := h1 ⟨w', hC⟩
      refine .inl ?_
      unfold Oper.wp
      simp only at h3
      generalize (execOp a.eval o).run P w' = r at *
      cases r with
      | ok n x =>
        cases n <;> simp only [Oper.quietUpon] at h3 <;> simp only [Oper.upon]
        case value u => obtain ⟨e1, e2⟩ := h3; rw [e1, e2]; exact h _ _ hC hg h2
        case skip => obtain ⟨e1, e2⟩ := h3; rw [e1, ← e2]; exact h _ _ hC hg h2
        case enter f args =>
          obtain ⟨e1, hc⟩ := h3
          rw [e1]
          exact hc.mono fun e w'' ⟨he, u', hw''⟩ => by subst he hw''; exact h _ _ (below_trans hC u'.below) (hG _ _ u'.below hg) h2
      | halt x y => simp only [Oper.quietUpon] at h3
    · rename_i hw; simp only [hw] at hh; exact h _ _ hC hg hh
/-- The new block is laid: from here on. -/
theorem any_behind {tl : List Nat} {g ia : Nat} {oa : Oper} {T : TypeId} {zs : Array Value} {gb : Nat} {L : Array Bool → Act → Prop} (hsel : Region.noSelect ops = true) (hia : ops[ia]? = some oa) (hap : ∀ j oj, ops[j]? = some oj → j ∉ tl → j ≠ ia → oa.apart ops oj = true)
    (hL : ∀ listed a w', Below w.heap.size w w' → w'.heap[gb]? = some (.cells zs T (0, 0)) → L listed a → wpAny P md ops Q g listed (a.put oa.dst (.pointer (some ⟨gb, 0, none⟩))) w') (hQ : ∀ c a w, ¬ Q (.panic c) a w) :
    ∀ (f : Nat) (listed : Array Bool) (a : Act) (w' : World), listed.getD ia true = true → Below w.heap.size w w' → w'.heap[gb]? = some (.cells zs T (0, 0)) → anyZ P md ops w tl L f listed a → wpAny P md ops Q (f + g) listed (a.put oa.dst (.pointer (some ⟨gb, 0, none⟩))) w'
  | 0, listed, a, w', _, hw, hg, h => by rw [Nat.zero_add]; exact hL _ _ _ hw hg h
  | f + 1, listed, a, w', hl, hw, hg, h => by
    rw [show f + 1 + g = (f + g) + 1 by omega]
    refine ⟨fun h0 => absurd h0 h.1, fun i hi => ?_⟩
    obtain ⟨hit, hq⟩ := h.2 i hi
    have hne : i ≠ ia := by rintro rfl; have := (mem_ready.1 hi).1; rw [hl] at this; cases this
    obtain ⟨_, oi, hoi, _⟩ := mem_ready.1 hi
    obtain ⟨h1, h2, h3⟩ := Oper.apart_spec (hap i oi hoi hit hne)
    have hsj : ∀ cs b, oi.op ≠ .select cs b := fun cs b => Region.noSelect_spec hsel i oi cs b hoi
    -- the operation does not look at the new block's slot
    have hq' : qOpX P ops w i (fun a' => ∃ a0, a' = a0.put oa.dst (.pointer (some ⟨gb, 0, none⟩)) ∧ anyZ P md ops w tl L f (listed.setIfInBounds i true) a0) (a.put oa.dst (.pointer (some ⟨gb, 0, none⟩))) := by
      unfold qOpX at *
      simp only [hoi] at *
      rw [wanted_put oi a oa.dst _ h1]
      split
      · rename_i hw
        simp only [hw, if_true] at hq
        obtain ⟨v, hv, hk⟩ := hq
        refine ⟨v, fun x => ?_, _, (Act.put_comm a _ v h2), hk⟩
        rw [execOp_put oi hsj a oa.dst _ h1]
        exact hv x
      · rename_i hw
        simp only [hw] at hq
        exact ⟨_, (Act.put_comm a _ undef h2), hq⟩
    refine wpOp_of_qOpX (G := fun x => x.heap[gb]? = some (.cells zs T (0, 0))) (fun x y hxy hx => (hxy.block gb (Array.getElem?_eq_some_iff.1 hx).1).trans hx) hw hg ?_ hq'
    rintro a' w'' hw'' hg'' ⟨a0, rfl, hz⟩
    refine any_behind hsel hia hap hL hQ f _ a0 w'' ?_ hw'' hg'' hz
    rw [getD_set_ne true (fun e => hne e)]; exact hl
theorem set_unlisted {listed : Array Bool} {i : Nat} (h : listed.getD i true = false) : (listed.setIfInBounds i true).getD i true = true := by
  rcases Nat.lt_or_ge i listed.size with hl | hl
  · simp [hl]
  · simp [Array.getElem?_eq_none hl] at h
/-- The new block may come up at any time. -/
theorem any_float {t0 : Nat} {ts : List Nat} {g ia : Nat} {oa : Oper} {T : TypeId} {zs : Array Value} {L : Array Bool → Act → Prop} (hsel : Region.noSelect ops = true) (hia : ops[ia]? = some oa)
    (hap : ∀ j oj, ops[j]? = some oj → j ∉ t0 :: ts → j ≠ ia → oa.apart ops oj = true) (hwant : ∀ a : Act, Region.wanted oa (yielded ops a.tmps) = true)
    (hrun : ∀ (a : Act) (w' : World), (execOp a.eval oa).run P w' = .ok (.value (.pointer (some ⟨w'.heap.size, 0, none⟩))) (w'.alloc (.cells zs T)))
    (htw : ∀ t ∈ t0 :: ts, Region.waitsFor md ops t ia = true) (hLt : ∀ listed a, L listed a → ∀ j ∈ Region.ready md ops listed, j ∈ t0 :: ts)
    (hL : ∀ listed a w' gb, w.heap.size ≤ gb → Below w.heap.size w w' → w'.heap[gb]? = some (.cells zs T (0, 0)) → L listed a → wpAny P md ops Q g listed (a.put oa.dst (.pointer (some ⟨gb, 0, none⟩))) w') (hQ : ∀ c a w, ¬ Q (.panic c) a w) :
    ∀ (f : Nat) (listed : Array Bool) (a : Act) (w' : World), ia ∈ Region.ready md ops listed → Below w.heap.size w w' → anyZ P md ops w (t0 :: ts) L f (listed.setIfInBounds ia true) a → wpAny P md ops Q (f + g + 1) listed a w' := by
  intro f
  have hnot : ∀ (listed : Array Bool), listed.getD ia true = false → ∀ t ∈ t0 :: ts, t ∉ Region.ready md ops listed := by
    intro listed hun t ht hr
    obtain ⟨oj, hoj, e, he, hb, hon⟩ := Region.waitsFor_spec (htw t ht)
    obtain ⟨_, o', ho', hall⟩ := mem_ready.1 hr
    have : oj = o' := Option.some.inj (hoj.symm.trans ho')
    subst this
    have h1 := hall e he hb
    rw [hon, getD_both hun] at h1
    cases h1
  have alloc : ∀ (f : Nat) (listed : Array Bool) (a : Act) (w' : World), listed.getD ia true = false → Below w.heap.size w w' → anyZ P md ops w (t0 :: ts) L f (listed.setIfInBounds ia true) a →
      wpOp P ops Q ia (wpAny P md ops Q (f + g) (listed.setIfInBounds ia true)) a w' := by
    intro f listed a w' hun hw h
    unfold wpOp
    simp only [hia, hwant, if_true]
    refine .inl ?_
    unfold Oper.wp
    rw [hrun]
    exact any_behind hsel hia hap (fun l a x h1 h2 h3 => hL l a x _ hw.size h1 h2 h3) hQ f _ a _ (set_unlisted hun) (hw.alloc hw.size _) (heap_alloc_new w' _) h
  induction f with
  | zero =>
    intro listed a w' hr hw h
    have hun := (mem_ready.1 hr).1
    refine ⟨fun h0 => (by rw [h0] at hr; cases hr), fun i hi => ?_⟩
    by_cases hii : i = ia
    · subst hii; exact alloc 0 listed a w' hun hw h
    · exact absurd hi (hnot listed hun i (hLt _ _ h i (ready_mono hi hii)))
  | succ f ih =>
    intro listed a w' hr hw h
    have hun := (mem_ready.1 hr).1
    refine ⟨fun h0 => (by rw [h0] at hr; cases hr), fun i hi => ?_⟩
    by_cases hii : i = ia
    · subst hii; exact alloc (f + 1) listed a w' hun hw h
    · obtain ⟨_, hq⟩ := h.2 i (ready_mono hi hii)
      rw [show f + 1 + g = f + g + 1 by omega]
      refine wpOp_of_qOpX (G := fun _ => True) (fun _ _ _ _ => trivial) hw trivial (fun a' w'' hw'' _ hz => ih _ a' w'' (ready_mono hr (Ne.symm hii)) hw'' ?_) hq
      rw [Array.setIfInBounds_comm _ _ hii]
      exact hz
theorem quietX_ret {f : FuncId} {args : Array Value} {u : Ext w} {v : Value} (h : Calls P f args u.val (Ret u.val v)) : Calls P f args u.val fun e w'' => e = .returned v ∧ ∃ u' : Ext u.val, w'' = u'.val :=
  h.mono fun _ w' ⟨he, hb⟩ => ⟨he, ⟨w', hb⟩, rfl⟩
def floatB (md : Region.Mode) (ops : Array Oper) (ia : Nat) (ci : List Nat) (t0 : Nat) (ts : List Nat) : Bool :=
  Region.noSelect ops && decide (1 + ci.length + (ts.length + 1) = ops.size) && sinkL md ops t0 ci && chainL md ops (t0 :: ts) && (ci.all fun i => !(t0 :: ts).contains i) && !(t0 :: ts).contains ia &&
  (Region.ready md ops (Array.replicate ops.size false)).contains ia && ((t0 :: ts).all fun t => Region.waitsFor md ops t ia) &&
  (match ops[ia]? with
   | some oa => oa.guard == none && (List.range ops.size).all fun j => j == ia || (t0 :: ts).contains j || match ops[j]? with | some oj => oa.apart ops oj | none => true
   | none => false) &&
  freeB md ops (forcedB md ops (t0 :: ts)) ci ((Array.replicate ops.size false).setIfInBounds ia true)
theorem wp_region_float {id : Nat} {a : Act} {l : List Oper} (ia : Nat) (ci : List Nat) (t0 : Nat) (ts : List Nat) (hm : P.follows .mixedOrders = true) (hB : floatB .any l.toArray ia ci t0 ts = true)
    (oa : Oper) (hoa : l.toArray[ia]? = some oa) (T : TypeId) (zs : Array Value)
    (hrun : ∀ (a : Act) (w' : World), (execOp a.eval oa).run P w' = .ok (.value (.pointer (some ⟨w'.heap.size, 0, none⟩))) (w'.alloc (.cells zs T)))
    (h : wpX P l.toArray w (fun a' => ∀ w' gb, w.heap.size ≤ gb → Below w.heap.size w w' → w'.heap[gb]? = some (.cells zs T (0, 0)) → wpList P l.toArray (NoPanic Q) (opsAt l.toArray (t0 :: ts)) (a'.put oa.dst (.pointer (some ⟨gb, 0, none⟩))) w') (opsAt l.toArray ci) a) :
    (Code.region id l.toArray true).wp P Q a w := by
  refine wp_region_noPanic (wp_region_any hm ?_)
  simp only [floatB, Bool.and_eq_true, decide_eq_true_eq] at hB
  obtain ⟨⟨⟨⟨⟨⟨⟨⟨⟨hsel, hsz⟩, hs⟩, hc⟩, hd⟩, hda⟩, hrd⟩, htw⟩, hap⟩, hf⟩ := hB
  simp only [hoa, Bool.and_eq_true] at hap
  obtain ⟨hgd, hap⟩ := hap
  have hgd' : oa.guard = none := by simpa using hgd
  have hit : ∀ i ∈ ci, i ∉ t0 :: ts := fun i hi => by
    have := List.all_eq_true.1 hd i hi
    simpa using this
  have hrd' : ia ∈ Region.ready .any l.toArray (Array.replicate l.toArray.size false) := by simpa using hrd
  have inv0 : Inv .any l.toArray (t0 :: ts) (Array.replicate l.toArray.size false) :=
    ⟨fun j oj _ hl => (by rw [getD_replicate_false] at hl; cases hl), fun t _ ht => getD_in (by simpa using ht) (getD_replicate_false _ _), by simp⟩
  have hz := anyZ_lex (P := P) (md := .any) (w := w) hsel ci hs hc hit ci _ a (fun _ h => h) (inv0.set hrd' (by simpa using hda)) hf h
  have := any_float (Q := NoPanic Q) (g := ts.length + 1) hsel hoa (fun j oj hj hjt hne => by
      have := List.all_eq_true.1 hap j (List.mem_range.2 (Array.getElem?_eq_some_iff.1 hj).1)
      simp only [hj, Bool.or_eq_true, beq_iff_eq, hne, false_or] at this
      rcases this with h | h
      · exact absurd (by simpa using h) hjt
      · exact h) (fun a => by simp [Region.wanted, hgd']) hrun (fun t ht => List.all_eq_true.1 htw t ht) (fun _ _ hL => forced_ready hL.1)
    (fun listed a' w' gb h1 h2 h3 hL => any_of_forced (t0 :: ts) listed _ w' hL.1 (hL.2 w' gb h1 h2 h3)) (fun c a w h => h) ci.length _ a { w with drawn := w.drawn + 1 } hrd' ((Below.refl _ _).drew) hz
  rw [show ci.length + (ts.length + 1) + 1 = l.toArray.size by omega] at this
  exact this
end
end
section
open Go.RowKit
attribute [local go_sem] Ext.cell Ext.frozen
set_option maxHeartbeats 400000 in
theorem rside_any (a b c d x y z q : Int) (w : World) (ha : -8 ≤ a ∧ a ≤ 8) (hb : -8 ≤ b ∧ b ≤ 8) (hc : -8 ≤ c ∧ c ≤ 8) (hd : -10000000 ≤ d ∧ d ≤ 10000000)
    (hx : -10000000000 ≤ x ∧ x ≤ 10000000000) (hy : -10000000000 ≤ y ∧ y ≤ 10000000000) (hz : -10000000000 ≤ z ∧ z ≤ 10000000000) (hq : -1000000 ≤ q ∧ q ≤ 1000000) :
    Calls Tryz.prog 184 #[.agg #[.int .i64 a, .int .i64 b, .int .i64 c, .int .i64 d], .agg #[.int .i64 x, .int .i64 y, .int .i64 z, .int .i64 q]] w (Ret w (.int .i64 (sgn (a*x+b*y+c*z) (d*q)))) := by
  have h1 := mul_bd ha.1 ha.2 hx.1 hx.2
  have h2 := mul_bd hb.1 hb.2 hy.1 hy.2
  have h3 := mul_bd hc.1 hc.2 hz.1 hz.2
  have h4 := mul_bd hd.1 hd.2 hq.1 hq.2
  clear ha hb hc hd hx hy hz hq
  simp only [Int.reduceMul, Int.reduceNeg] at h1 h2 h3 h4
  go_enter Tryz.func184, Tryz.ntmps184
  go_wp2
  refine wp_region_quietB (by kernel_rfl) (by kernel_rfl) ?_
  repeat (first | go_big_quiet_step (fail) | quiet_step (fail))
  refine wpQuiet_nil ?_
  rintro _ ⟨u, rfl⟩
  go_wp2
  all_goals go_ret
  · exact ⟨ret_int (sgn_lt (by assumption)).symm, below_trans ((Below.refl _ _).alloc (Nat.le_refl _) _ |>.alloc (by simp) _) u.below⟩
  · exact ⟨ret_int (sgn_gt (by assumption)).symm, below_trans ((Below.refl _ _).alloc (Nat.le_refl _) _ |>.alloc (by simp) _) u.below⟩
  · exact ⟨ret_int (sgn_eq (by omega) (by omega)).symm, below_trans ((Below.refl _ _).alloc (Nat.le_refl _) _ |>.alloc (by simp) _) u.below⟩
end
/- Leaves of solid: vectors, planes, sides. -/
section
open Go.RowKit
attribute [local go_sem] Ext.cell Ext.frozen
abbrev V3 (a b c : Int) : Value := .agg #[.int .i64 a, .int .i64 b, .int .i64 c]
abbrev V4 (a b c d : Int) : Value := .agg #[.int .i64 a, .int .i64 b, .int .i64 c, .int .i64 d]
set_option maxHeartbeats 400000 in
theorem normal_any (a b c d : Int) (w : World) : Calls Tryz.prog 205 #[V4 a b c d] w (Ret w (V3 a b c)) := by
  go_enter Tryz.func205, Tryz.ntmps205
  go_wp2
  refine bodyPost_ret (v := V3 a b c) (by simp [results, Tryz.results205, go_sem]) rfl ⟨rfl, ?_⟩
  (repeat (first | exact brf | assumption | refine ble ?_ | refine blx ?_ | refine bla ?_ | refine bls ?_ | refine bld ?_))
set_option maxHeartbeats 400000 in
theorem cross_any (a b c x y z : Int) (w : World) (ha : -1000 ≤ a ∧ a ≤ 1000) (hb : -1000 ≤ b ∧ b ≤ 1000) (hc : -1000 ≤ c ∧ c ≤ 1000)
    (hx : -1000 ≤ x ∧ x ≤ 1000) (hy : -1000 ≤ y ∧ y ≤ 1000) (hz : -1000 ≤ z ∧ z ≤ 1000) :
    Calls Tryz.prog 230 #[V3 a b c, V3 x y z] w (Ret w (V3 (b * z - c * y) (c * x - a * z) (a * y - b * x))) := by
  have h1 := mul_bd hb.1 hb.2 hz.1 hz.2
  have h2 := mul_bd hc.1 hc.2 hy.1 hy.2
  have h3 := mul_bd hc.1 hc.2 hx.1 hx.2
  have h4 := mul_bd ha.1 ha.2 hz.1 hz.2
  have h5 := mul_bd ha.1 ha.2 hy.1 hy.2
  have h6 := mul_bd hb.1 hb.2 hx.1 hx.2
  clear ha hb hc hx hy hz
  go_enter Tryz.func230, Tryz.ntmps230
  go_wp2
  refine bodyPost_ret (v := V3 (b * z - c * y) (c * x - a * z) (a * y - b * x)) (by simp [results, Tryz.results230, go_sem]) rfl ⟨rfl, ?_⟩
  (repeat (first | exact brf | assumption | refine ble ?_ | refine blx ?_ | refine bla ?_ | refine bls ?_ | refine bld ?_))
set_option maxHeartbeats 400000 in
theorem dot_any (a b c x y z : Int) (w : World) (ha : -1000 ≤ a ∧ a ≤ 1000) (hb : -1000 ≤ b ∧ b ≤ 1000) (hc : -1000 ≤ c ∧ c ≤ 1000)
    (hx : -10000000000 ≤ x ∧ x ≤ 10000000000) (hy : -10000000000 ≤ y ∧ y ≤ 10000000000) (hz : -10000000000 ≤ z ∧ z ≤ 10000000000) :
    Calls Tryz.prog 208 #[V3 a b c, V3 x y z] w (Ret w (.int .i64 (a * x + b * y + c * z))) := by
  have h1 := mul_bd ha.1 ha.2 hx.1 hx.2
  have h2 := mul_bd hb.1 hb.2 hy.1 hy.2
  have h3 := mul_bd hc.1 hc.2 hz.1 hz.2
  clear ha hb hc hx hy hz
  go_enter Tryz.func208, Tryz.ntmps208
  go_wp2
  go_ret
  refine ⟨rfl, ?_⟩
  (repeat (first | exact brf | assumption | refine ble ?_ | refine blx ?_ | refine bla ?_ | refine bls ?_ | refine bld ?_))
set_option maxHeartbeats 400000 in
theorem isNaN_any (a : Int) (w : World) : Calls Tryz.prog 201 #[.int .i64 a] w fun e w' => e = .returned (.bool false) ∧ w = w' := by
  go_enter Tryz.func201, Tryz.ntmps201
  go_wp2
  go_ret
  exact ⟨rfl, rfl⟩
set_option maxHeartbeats 400000 in
theorem compare_any (a b : Int) (w : World) : Calls Tryz.prog 160 #[.int .i64 a, .int .i64 b] w fun e w' => e = .returned (.int .i64 (sgn a b)) ∧ w = w' := by
  go_enter Tryz.func160, Tryz.ntmps160
  go_wp2_with (go_at_call 201; refine (isNaN_any _ _).mono ?_; rintro e w' ⟨rfl, rfl⟩)
  all_goals go_ret
  · exact ⟨ret_int (sgn_lt (by assumption)).symm, rfl⟩
  · exact ⟨ret_int (sgn_gt (by assumption)).symm, rfl⟩
  · exact ⟨ret_int (sgn_eq (by omega) (by omega)).symm, rfl⟩
theorem compare_ret (a b : Int) (w : World) : Calls Tryz.prog 160 #[.int .i64 a, .int .i64 b] w (Ret w (.int .i64 (sgn a b))) :=
  (compare_any a b w).mono fun _ _ ⟨he, hw⟩ => ⟨he, hw ▸ Below.refl _ _⟩
def sideP (a b c d x y z q : Int) : Int := sgn (a * x + b * y + c * z) (d * q)
set_option maxHeartbeats 400000 in
theorem side_any (a b c d x y z q : Int) (w : World) (ha : -8 ≤ a ∧ a ≤ 8) (hb : -8 ≤ b ∧ b ≤ 8) (hc : -8 ≤ c ∧ c ≤ 8) (hd : -10000000 ≤ d ∧ d ≤ 10000000)
    (hx : -10000000000 ≤ x ∧ x ≤ 10000000000) (hy : -10000000000 ≤ y ∧ y ≤ 10000000000) (hz : -10000000000 ≤ z ∧ z ≤ 10000000000) (hq : -1000000 ≤ q ∧ q ≤ 1000000) :
    Calls Tryz.prog 224 #[V4 a b c d, V4 x y z q] w (Ret w (.int .i64 (sideP a b c d x y z q))) := by
  have h4 := mul_bd hd.1 hd.2 hq.1 hq.2
  go_enter Tryz.func224, Tryz.ntmps224
  go_wp2
  refine wp_region_quietB (by kernel_rfl) (by kernel_rfl) ?_
  repeat (first | go_big_quiet_step ((first | (go_at_call 205; exact quietB_ret (normal_any _ _ _ _ _)) | (go_at_call 208; exact quietB_ret (dot_any _ _ _ _ _ _ _ (by omega) (by omega) (by omega) (by omega) (by omega) (by omega))) | (go_at_call 160; exact quietB_ret (compare_ret _ _ _)))) | quiet_step ((first | (go_at_call 205; exact quietB_ret (normal_any _ _ _ _ _)) | (go_at_call 208; exact quietB_ret (dot_any _ _ _ _ _ _ _ (by omega) (by omega) (by omega) (by omega) (by omega) (by omega))) | (go_at_call 160; exact quietB_ret (compare_ret _ _ _)))))
  refine wpQuiet_nil ?_
  rintro _ ⟨u, rfl⟩
  go_wp2
  go_ret
  refine ⟨rfl, ?_⟩
  (repeat (first | exact brf | assumption | refine ble ?_ | refine blx ?_ | refine bla ?_ | refine bls ?_ | refine bld ?_))
end
/- Leaves of solid: gcd, points, comparisons. -/
section
open Go.RowKit
attribute [local go_sem] Ext.cell Ext.frozen
def IntsAt (w : World) (b off : Nat) (xs : List Int) : Prop := ∀ i (h : i < xs.length), w.cell? ⟨b, off + i, none⟩ = some (.int .i64 xs[i])
theorem IntsAt.below {w w' : World} {b off : Nat} {xs : List Int} (h : IntsAt w b off xs) (hb : Below w.heap.size w w') : IntsAt w' b off xs := fun i hi => below_cell hb (h i hi)
theorem intsAt3 {w : World} {b : Nat} {x0 x1 x2 : Int} (h0 : w.cell? ⟨b, 0, none⟩ = some (.int .i64 x0)) (h1 : w.cell? ⟨b, 1, none⟩ = some (.int .i64 x1)) (h2 : w.cell? ⟨b, 2, none⟩ = some (.int .i64 x2)) : IntsAt w b 0 [x0, x1, x2] := by
  intro i hi
  match i, hi with
  | 0, _ => simpa using h0
  | 1, _ => simpa using h1
  | 2, _ => simpa using h2
theorem intsAt4 {w : World} {b : Nat} {x0 x1 x2 x3 : Int} (h0 : w.cell? ⟨b, 0, none⟩ = some (.int .i64 x0)) (h1 : w.cell? ⟨b, 1, none⟩ = some (.int .i64 x1)) (h2 : w.cell? ⟨b, 2, none⟩ = some (.int .i64 x2)) (h3 : w.cell? ⟨b, 3, none⟩ = some (.int .i64 x3)) : IntsAt w b 0 [x0, x1, x2, x3] := by
  intro i hi
  match i, hi with
  | 0, _ => simpa using h0
  | 1, _ => simpa using h1
  | 2, _ => simpa using h2
  | 3, _ => simpa using h3
theorem cell_new {W : World} {T : TypeId} {cs : Array Value} {g : Nat} (hg : g = W.heap.size) (i : Nat) : (W.alloc (.cells cs T)).cell? ⟨g, i, none⟩ = cs[i]? := by
  subst hg
  exact cell_of_row _ _ i cs T (0, 0) (heap_alloc_new W _)
theorem intsAt3_new {W : World} {T : TypeId} {x0 x1 x2 : Int} {g : Nat} (hg : g = W.heap.size) : IntsAt (W.alloc (.cells #[.int .i64 x0, .int .i64 x1, .int .i64 x2] T)) g 0 [x0, x1, x2] :=
  intsAt3 ((cell_new hg 0).trans rfl) ((cell_new hg 1).trans rfl) ((cell_new hg 2).trans rfl)
theorem intsAt4_new {W : World} {T : TypeId} {x0 x1 x2 x3 : Int} {g : Nat} (hg : g = W.heap.size) : IntsAt (W.alloc (.cells #[.int .i64 x0, .int .i64 x1, .int .i64 x2, .int .i64 x3] T)) g 0 [x0, x1, x2, x3] :=
  intsAt4 ((cell_new hg 0).trans rfl) ((cell_new hg 1).trans rfl) ((cell_new hg 2).trans rfl) ((cell_new hg 3).trans rfl)
/-- The greatest common divisor of a list. -/
def gcdL (xs : List Int) : Nat := xs.foldl (fun g n => Nat.gcd g n.natAbs) 0
theorem gcdL_snoc (xs : List Int) (n : Int) : gcdL (xs ++ [n]) = Nat.gcd (gcdL xs) n.natAbs := by simp [gcdL]
theorem take_snocI (xs : List Int) (k : Nat) (h : k < xs.length) : xs.take (k + 1) = xs.take k ++ [xs[k]] := by
  rw [List.take_succ_eq_append_getElem h]
theorem gcdF_le (B : Nat) : ∀ (xs : List Int) (g : Nat), g ≤ B → (∀ x ∈ xs, -(B : Int) ≤ x ∧ x ≤ B) → xs.foldl (fun g n => Nat.gcd g n.natAbs) g ≤ B
  | [], _, hg, _ => hg
  | x :: xs, g, hg, h => by
    have hx := h x (by simp)
    refine gcdF_le B xs _ ?_ (fun y hy => h y (by simp [hy]))
    show Nat.gcd g x.natAbs ≤ B
    by_cases hz : x.natAbs = 0
    · rw [hz]; simpa using hg
    · exact Nat.le_trans (Nat.gcd_le_right _ (by omega)) (by omega)
theorem gcdL_le (B : Nat) (xs : List Int) (h : ∀ x ∈ xs, -(B : Int) ≤ x ∧ x ≤ B) : gcdL xs ≤ B := gcdF_le B xs 0 (Nat.zero_le _) h
theorem max_abs (n : Int) : max n (-n) = (n.natAbs : Int) := by omega
theorem gcd_step (g n : Nat) : Nat.gcd n (g % n) = Nat.gcd g n := by
  rw [Nat.gcd_comm g n, Nat.gcd_rec n g, Nat.gcd_comm]
set_option maxHeartbeats 1000000 in
theorem gcd_any (b off n c : Nat) (xs : List Int) (w : World) (hn : xs.length = n) (hm : n ≤ 1000) (hx : IntsAt w b off xs) (hB : ∀ x ∈ xs, -1000000000000000 ≤ x ∧ x ≤ 1000000000000000) :
    Calls Tryz.prog 252 #[.slice (some ⟨b, off, none⟩) n c] w (Ret w (.int .i64 (gcdL xs))) := by
  go_enter Tryz.func252, Tryz.ntmps252
  go_wp2
  go_loopw [3, 8] (fun g i wr => ∃ k : Nat, k ≤ n ∧ i = .int .i64 k ∧ g = .int .i64 (gcdL (xs.take k)) ∧ Below w.heap.size w wr) (fun _ i _ => n - (intOf i).toNat)
  case atStart => exact ⟨0, by omega, rfl, rfl, Below.refl _ _⟩
  case round =>
    obtain ⟨k, hk, rfl, rfl, hb⟩ := hrel
    by_cases hlt : k < n
    · have hcell := below_cell hb (hx k (by omega))
      have hbx := hB (xs[k]) (by simp)
      have Hs : gcdL (xs.take (k + 1)) = Nat.gcd (gcdL (xs.take k)) (xs[k]).natAbs := by rw [take_snocI xs k (by omega), gcdL_snoc]
      have hg : gcdL (xs.take k) ≤ 1000000000000000 := gcdL_le _ _ (fun x hx => hB x (List.mem_of_mem_take hx))
      generalize gcdL (xs.take k) = g0 at *
      obtain ⟨g1, Hg1⟩ : ∃ g1, Hid (gcdL (xs.take (k+1)) = g1) := ⟨_, rfl⟩
      rw [Hg1.out] at Hs
      generalize xs[k] = x at *
      clear hx hB
      obtain ⟨m, hm', hxm⟩ : ∃ m : Nat, m ≤ 1000000000000000 ∧ (x = (m : Int) ∨ (x = -(m : Int) ∧ 0 < m)) := ⟨x.natAbs, by omega, by omega⟩
      have Hm : Hid (g1 = g0.gcd m) := by show g1 = g0.gcd m; rcases hxm with rfl | ⟨rfl, _⟩ <;> simpa using Hs
      clear Hs hbx
      rcases hxm with rfl | ⟨rfl, hm0⟩
      all_goals
        go_wp2
        try rw [Int.neg_neg]
        go_loopw [3, 5] (fun g i wr => ∃ g' n' : Nat, g' ≤ 1000000000000000 ∧ n' ≤ 1000000000000000 ∧ i = .int .i64 n' ∧ g = .int .i64 g' ∧ Hid (g1 = g'.gcd n') ∧ Below w.heap.size w wr) (fun _ i _ => (intOf i).toNat)
        case atStart => exact ⟨g0, m, hg, hm', by first | rfl | simp, rfl, Hm, hb⟩
        case round =>
          clear hb
          obtain ⟨g', n', hg', hn', rfl, rfl, Hr, hb⟩ := hrel
          by_cases hz : 0 < n'
          · go_wp2
            go_quiet (fail)
            go_wp2
            go_roundw
            case rel => exact ⟨n', g' % n', hn', by have := Nat.mod_lt g' hz; omega, by go_num, by go_num, by unfold Hid; rw [gcd_step]; exact Hr.out, hb.drewN' _⟩
            case measure => simp [intOf]; have := Nat.mod_lt g' hz; omega
          · obtain rfl : n' = 0 := by omega
            go_wp2
            go_roundw
            case rel => exact ⟨k + 1, by omega, by go_num, by rw [Hg1.out, Hr.out]; simp, hb⟩
            case measure => simp [intOf]; omega
    · go_wp2
      go_ret
      exact ⟨ret_int (by rw [List.take_of_length_le (by omega)]), hb⟩
theorem gcd4_any (W : World) (T : TypeId) (x0 x1 x2 x3 : Int) (g : Nat) (hg : g = W.heap.size) (h0 : -1000000000000000 ≤ x0 ∧ x0 ≤ 1000000000000000) (h1 : -1000000000000000 ≤ x1 ∧ x1 ≤ 1000000000000000) (h2 : -1000000000000000 ≤ x2 ∧ x2 ≤ 1000000000000000) (h3 : -1000000000000000 ≤ x3 ∧ x3 ≤ 1000000000000000) :
    Calls Tryz.prog 252 #[.slice (some ⟨g, 0, none⟩) 4 4] (W.alloc (.cells #[.int .i64 x0, .int .i64 x1, .int .i64 x2, .int .i64 x3] T)) (Ret (W.alloc (.cells #[.int .i64 x0, .int .i64 x1, .int .i64 x2, .int .i64 x3] T)) (.int .i64 (gcdL [x0, x1, x2, x3]))) :=
  gcd_any g 0 4 4 _ _ rfl (by omega) (intsAt4_new hg) (fun x hx => by simp at hx; rcases hx with rfl | rfl | rfl | rfl <;> assumption)
end
end Go.Proofs.YtjglkglaogaenaaGreatDoor
