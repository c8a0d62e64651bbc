/- NamesLaw: texts of mine, merged: Base, L1, L2, Tail, L3, L4, L5, Eq. -/
import Derived.WalkKit
import Derived.WalkSpells
import Derived.WalkLawsBesides
import Derived.Deep.QuietTactic
import Derived.BigQuiet
import Derived.Lib.Hide
import Derived.Test.YtfdgifcllelhiaaGreatDoorRows
import Derived.StillTail
import Derived.Sort.Grow
import Derived.Laws.StructEq
import Derived.ChangeKeysEq
/- Base: worlds that extend a world below its heap's size; quiet regions over that class. No program is named here. -/
namespace Go.Proofs.YtfdgifcllelhiaaGreatDoor
open Go.RowKit

/-- A world in which all that lay in w lies as it did. -/
structure Ext (w : World) where
  val : World
  below : Below w.heap.size w val

theorem Ext.cell {w : World} (u : Ext w) {a : Addr} (h : a.block < w.heap.size) : u.val.cell? a = w.cell? a := u.below.cell h
theorem Ext.frozen {w : World} (u : Ext w) {a : Addr} (h : a.block < w.heap.size) : u.val.frozen? a = w.frozen? a := u.below.frozen h
theorem Ext.size {w : World} (u : Ext w) : w.heap.size ≤ u.val.heap.size := u.below.size
def Ext.drew {w : World} : Ext w := ⟨w.drew, (Below.refl _ _).drew⟩

instance (w : World) : Nonempty (Ext w) := ⟨Ext.drew⟩

/-- What a cell holds, in whatever extension. -/
theorem Ext.of_cell {w : World} {a : Addr} {v : Value} (h : w.cell? a = some v) (u : Ext w) : u.val.cell? a = some v :=
  (u.cell (World.block_lt_of_cell? w a h)).trans h

theorem below_trans {w w1 w2 : World} (h : Below w.heap.size w w1) (k : Below w1.heap.size w1 w2) : Below w.heap.size w w2 := h.trans (k.mono h.size)

/-- A cell of the old world in a later one. -/
theorem below_cell {w w1 : World} (h : Below w.heap.size w w1) {a : Addr} {v : Value} (hc : w.cell? a = some v) : w1.cell? a = some v :=
  (h.cell (World.block_lt_of_cell? w a hc)).trans hc

theorem wp_region_quietB {P : Program} {id : Nat} {Q : Exit → Act → World → Prop} {a : Act} {w : World} {l : List Oper} (hm : P.follows .mixedOrders = true) (hB : Region.lexB .any l.toArray = true)
    (h : wpQuiet P l.toArray (fun w' => ∃ u : Ext w, w' = u.val) (fun a' => ∀ w', (∃ u : Ext w, w' = u.val) → Q .normal a' w') l a) : (Code.region id l.toArray true).wp P Q a w :=
  wp_region_quiet (C := fun w' => ∃ u : Ext w, w' = u.val) hm hB ⟨Ext.drew, rfl⟩ (by simpa using h)

theorem quietB_of {P : Program} {f : FuncId} {args : Array Value} {w : World} {u : Ext w} {v : Value}
    (h : Calls P f args u.val fun e w' => e = .returned v ∧ Below u.val.heap.size u.val w') : Calls P f args u.val fun e w'' => e = .returned v ∧ ∃ u' : Ext w, w'' = u'.val :=
  h.mono fun _ w' ⟨he, hb⟩ => ⟨he, ⟨w', below_trans u.below hb⟩, rfl⟩

/-- The plain end of a pure function. -/
def Ret (w : World) (v : Value) (e : Ending) (w' : World) : Prop := e = .returned v ∧ Below w.heap.size w w'

theorem quietB_ret {P : Program} {f : FuncId} {args : Array Value} {w : World} {u : Ext w} {v : Value}
    (h : Calls P f args u.val (Ret u.val v)) : Calls P f args u.val fun e w'' => e = .returned v ∧ ∃ u' : Ext w, w'' = u'.val := quietB_of h

/-- Bounds of products. -/
theorem mul_bd {a x A X : Int} (h1 : -A ≤ a) (h2 : a ≤ A) (h3 : -X ≤ x) (h4 : x ≤ X) : -(A * X) ≤ a * x ∧ a * x ≤ A * X := by
  have p1 : 0 ≤ (A - a) * (X + x) := Int.mul_nonneg (by omega) (by omega)
  have p2 : 0 ≤ (A + a) * (X - x) := Int.mul_nonneg (by omega) (by omega)
  have p3 : 0 ≤ (A - a) * (X - x) := Int.mul_nonneg (by omega) (by omega)
  have p4 : 0 ≤ (A + a) * (X + x) := Int.mul_nonneg (by omega) (by omega)
  simp only [Int.sub_mul, Int.add_mul, Int.mul_sub, Int.mul_add] at p1 p2 p3 p4
  omega

theorem _root_.Go.RowKit.Below.drewN' {B : Nat} {a w : World} (h : Below B a w) (n : Nat) : Below B a (w.drewN n) := ⟨h.os, h.tape, h.output, h.size, h.block⟩

def sgn (a b : Int) : Int := if a < b then -1 else if b < a then 1 else 0
theorem sgn_lt {a b : Int} (h : a < b) : sgn a b = -1 := by simp [sgn, h]
theorem sgn_gt {a b : Int} (h : b < a) : sgn a b = 1 := by simp [sgn, h, Int.not_lt.2 (Int.le_of_lt h)]
theorem sgn_eq {a b : Int} (h1 : ¬ a < b) (h2 : ¬ b < a) : sgn a b = 0 := by simp [sgn, h1, h2]
theorem ret_int {k : IntKind} {a b : Int} (h : a = b) : Ending.returned (.int k a) = .returned (.int k b) := by rw [h]
theorem ret_bool {a b : Bool} (h : a = b) : Ending.returned (.bool a) = .returned (.bool b) := by rw [h]

end Go.Proofs.YtfdgifcllelhiaaGreatDoor
namespace Go.Proofs.YtfdgifcllelhiaaGreatDoor
open Go.RowKit
attribute [local go_sem] Ext.cell Ext.frozen

set_option maxHeartbeats 400000 in
theorem rside_any (a b c d x y z q : Int) (w : World) (ha : -8 ≤ a ∧ a ≤ 8) (hb : -8 ≤ b ∧ b ≤ 8) (hc : -8 ≤ c ∧ c ≤ 8) (hd : -10000000 ≤ d ∧ d ≤ 10000000)
    (hx : -10000000000 ≤ x ∧ x ≤ 10000000000) (hy : -10000000000 ≤ y ∧ y ≤ 10000000000) (hz : -10000000000 ≤ z ∧ z ≤ 10000000000) (hq : -1000000 ≤ q ∧ q ≤ 1000000) :
    Calls Tryz.prog 174 #[.agg #[.int .i64 a, .int .i64 b, .int .i64 c, .int .i64 d], .agg #[.int .i64 x, .int .i64 y, .int .i64 z, .int .i64 q]] w (Ret w (.int .i64 (sgn (a*x+b*y+c*z) (d*q)))) := by
  have h1 := mul_bd ha.1 ha.2 hx.1 hx.2
  have h2 := mul_bd hb.1 hb.2 hy.1 hy.2
  have h3 := mul_bd hc.1 hc.2 hz.1 hz.2
  have h4 := mul_bd hd.1 hd.2 hq.1 hq.2
  clear ha hb hc hd hx hy hz hq
  simp only [Int.reduceMul, Int.reduceNeg] at h1 h2 h3 h4
  go_enter Tryz.func174, Tryz.ntmps174
  go_wp2
  refine wp_region_quietB (by kernel_rfl) (by kernel_rfl) ?_
  repeat (first | go_big_quiet_step (fail) | quiet_step (fail))
  refine wpQuiet_nil ?_
  rintro _ ⟨u, rfl⟩
  go_wp2
  all_goals go_ret
  · exact ⟨ret_int (sgn_lt (by assumption)).symm, below_trans ((Below.refl _ _).alloc (Nat.le_refl _) _ |>.alloc (by simp) _) u.below⟩
  · exact ⟨ret_int (sgn_gt (by assumption)).symm, below_trans ((Below.refl _ _).alloc (Nat.le_refl _) _ |>.alloc (by simp) _) u.below⟩
  · exact ⟨ret_int (sgn_eq (by omega) (by omega)).symm, below_trans ((Below.refl _ _).alloc (Nat.le_refl _) _ |>.alloc (by simp) _) u.below⟩
end Go.Proofs.YtfdgifcllelhiaaGreatDoor
/- Leaves of solid: vectors, planes, sides. -/
namespace Go.Proofs.YtfdgifcllelhiaaGreatDoor
open Go.RowKit
attribute [local go_sem] Ext.cell Ext.frozen

abbrev V3 (a b c : Int) : Value := .agg #[.int .i64 a, .int .i64 b, .int .i64 c]
abbrev V4 (a b c d : Int) : Value := .agg #[.int .i64 a, .int .i64 b, .int .i64 c, .int .i64 d]

set_option maxHeartbeats 400000 in
theorem normal_any (a b c d : Int) (w : World) : Calls Tryz.prog 223 #[V4 a b c d] w (Ret w (V3 a b c)) := by
  go_enter Tryz.func223, Tryz.ntmps223
  go_wp2
  refine bodyPost_ret (v := V3 a b c) (by simp [results, Tryz.results223, go_sem]) rfl ⟨rfl, ?_⟩
  (repeat (first | exact Below.refl _ _ | assumption | (refine below_trans ?_ (Ext.below _)) | (refine Below.trans ?_ ((Ext.below _).mono (by first | omega | (simp; omega)))) | (refine Below.alloc ?_ (by first | omega | (simp; done) | (simp; omega)) _) | (refine Below.setCell ?_ (by first | omega | (simp; done) | (simp; omega)) _) | (refine Below.drew ?_)))

set_option maxHeartbeats 400000 in
theorem cross_any (a b c x y z : Int) (w : World) (ha : -1000 ≤ a ∧ a ≤ 1000) (hb : -1000 ≤ b ∧ b ≤ 1000) (hc : -1000 ≤ c ∧ c ≤ 1000)
    (hx : -1000 ≤ x ∧ x ≤ 1000) (hy : -1000 ≤ y ∧ y ≤ 1000) (hz : -1000 ≤ z ∧ z ≤ 1000) :
    Calls Tryz.prog 211 #[V3 a b c, V3 x y z] w (Ret w (V3 (b * z - c * y) (c * x - a * z) (a * y - b * x))) := by
  have h1 := mul_bd hb.1 hb.2 hz.1 hz.2
  have h2 := mul_bd hc.1 hc.2 hy.1 hy.2
  have h3 := mul_bd hc.1 hc.2 hx.1 hx.2
  have h4 := mul_bd ha.1 ha.2 hz.1 hz.2
  have h5 := mul_bd ha.1 ha.2 hy.1 hy.2
  have h6 := mul_bd hb.1 hb.2 hx.1 hx.2
  clear ha hb hc hx hy hz
  go_enter Tryz.func211, Tryz.ntmps211
  go_wp2
  refine bodyPost_ret (v := V3 (b * z - c * y) (c * x - a * z) (a * y - b * x)) (by simp [results, Tryz.results211, go_sem]) rfl ⟨rfl, ?_⟩
  (repeat (first | exact Below.refl _ _ | assumption | (refine below_trans ?_ (Ext.below _)) | (refine Below.trans ?_ ((Ext.below _).mono (by first | omega | (simp; omega)))) | (refine Below.alloc ?_ (by first | omega | (simp; done) | (simp; omega)) _) | (refine Below.setCell ?_ (by first | omega | (simp; done) | (simp; omega)) _) | (refine Below.drew ?_)))

set_option maxHeartbeats 400000 in
theorem dot_any (a b c x y z : Int) (w : World) (ha : -1000 ≤ a ∧ a ≤ 1000) (hb : -1000 ≤ b ∧ b ≤ 1000) (hc : -1000 ≤ c ∧ c ≤ 1000)
    (hx : -10000000000 ≤ x ∧ x ≤ 10000000000) (hy : -10000000000 ≤ y ∧ y ≤ 10000000000) (hz : -10000000000 ≤ z ∧ z ≤ 10000000000) :
    Calls Tryz.prog 224 #[V3 a b c, V3 x y z] w (Ret w (.int .i64 (a * x + b * y + c * z))) := by
  have h1 := mul_bd ha.1 ha.2 hx.1 hx.2
  have h2 := mul_bd hb.1 hb.2 hy.1 hy.2
  have h3 := mul_bd hc.1 hc.2 hz.1 hz.2
  clear ha hb hc hx hy hz
  go_enter Tryz.func224, Tryz.ntmps224
  go_wp2
  go_ret
  refine ⟨rfl, ?_⟩
  (repeat (first | exact Below.refl _ _ | assumption | (refine below_trans ?_ (Ext.below _)) | (refine Below.trans ?_ ((Ext.below _).mono (by first | omega | (simp; omega)))) | (refine Below.alloc ?_ (by first | omega | (simp; done) | (simp; omega)) _) | (refine Below.setCell ?_ (by first | omega | (simp; done) | (simp; omega)) _) | (refine Below.drew ?_)))

set_option maxHeartbeats 400000 in
theorem isNaN_any (a : Int) (w : World) : Calls Tryz.prog 191 #[.int .i64 a] w fun e w' => e = .returned (.bool false) ∧ w = w' := by
  go_enter Tryz.func191, Tryz.ntmps191
  go_wp2
  go_ret
  exact ⟨rfl, rfl⟩

set_option maxHeartbeats 400000 in
theorem compare_any (a b : Int) (w : World) : Calls Tryz.prog 157 #[.int .i64 a, .int .i64 b] w fun e w' => e = .returned (.int .i64 (sgn a b)) ∧ w = w' := by
  go_enter Tryz.func157, Tryz.ntmps157
  go_wp2_with (go_at_call 191; refine (isNaN_any _ _).mono ?_; rintro e w' ⟨rfl, rfl⟩)
  all_goals go_ret
  · exact ⟨ret_int (sgn_lt (by assumption)).symm, rfl⟩
  · exact ⟨ret_int (sgn_gt (by assumption)).symm, rfl⟩
  · exact ⟨ret_int (sgn_eq (by omega) (by omega)).symm, rfl⟩

theorem compare_ret (a b : Int) (w : World) : Calls Tryz.prog 157 #[.int .i64 a, .int .i64 b] w (Ret w (.int .i64 (sgn a b))) :=
  (compare_any a b w).mono fun _ _ ⟨he, hw⟩ => ⟨he, hw ▸ Below.refl _ _⟩

def sideP (a b c d x y z q : Int) : Int := sgn (a * x + b * y + c * z) (d * q)

set_option maxHeartbeats 400000 in
theorem side_any (a b c d x y z q : Int) (w : World) (ha : -8 ≤ a ∧ a ≤ 8) (hb : -8 ≤ b ∧ b ≤ 8) (hc : -8 ≤ c ∧ c ≤ 8) (hd : -10000000 ≤ d ∧ d ≤ 10000000)
    (hx : -10000000000 ≤ x ∧ x ≤ 10000000000) (hy : -10000000000 ≤ y ∧ y ≤ 10000000000) (hz : -10000000000 ≤ z ∧ z ≤ 10000000000) (hq : -1000000 ≤ q ∧ q ≤ 1000000) :
    Calls Tryz.prog 202 #[V4 a b c d, V4 x y z q] w (Ret w (.int .i64 (sideP a b c d x y z q))) := by
  have h4 := mul_bd hd.1 hd.2 hq.1 hq.2
  go_enter Tryz.func202, Tryz.ntmps202
  go_wp2
  refine wp_region_quietB (by kernel_rfl) (by kernel_rfl) ?_
  repeat (first | go_big_quiet_step ((first | (go_at_call 223; exact quietB_ret (normal_any _ _ _ _ _)) | (go_at_call 224; exact quietB_ret (dot_any _ _ _ _ _ _ _ (by omega) (by omega) (by omega) (by omega) (by omega) (by omega))) | (go_at_call 157; exact quietB_ret (compare_ret _ _ _)))) | quiet_step ((first | (go_at_call 223; exact quietB_ret (normal_any _ _ _ _ _)) | (go_at_call 224; exact quietB_ret (dot_any _ _ _ _ _ _ _ (by omega) (by omega) (by omega) (by omega) (by omega) (by omega))) | (go_at_call 157; exact quietB_ret (compare_ret _ _ _)))))
  refine wpQuiet_nil ?_
  rintro _ ⟨u, rfl⟩
  go_wp2
  go_ret
  refine ⟨rfl, ?_⟩
  (repeat (first | exact Below.refl _ _ | assumption | (refine below_trans ?_ (Ext.below _)) | (refine Below.trans ?_ ((Ext.below _).mono (by first | omega | (simp; omega)))) | (refine Below.alloc ?_ (by first | omega | (simp; done) | (simp; omega)) _) | (refine Below.setCell ?_ (by first | omega | (simp; done) | (simp; omega)) _) | (refine Below.drew ?_)))
end Go.Proofs.YtfdgifcllelhiaaGreatDoor
/- A region that draws its order: operations that are quiet in a class of worlds, and behind them a tail in one forced order. No program is named here. -/
namespace Go.Proofs.YtfdgifcllelhiaaGreatDoor
open Go.RowKit
section
variable {P : Program} {ops : Array Oper} {md : Region.Mode} {C : World → Prop}

def anyM (P : Program) (md : Region.Mode) (ops : Array Oper) (C : World → Prop) (n : Nat) (L : Array Bool → Act → Prop) : Nat → Array Bool → Act → Prop
  | 0, listed, a => L listed a
  | f + 1, listed, a => Region.ready md ops listed ≠ [] ∧ ∀ i ∈ Region.ready md ops listed, i < n ∧ qOp P ops C i (anyM P md ops C n L f (listed.setIfInBounds i true)) a

theorem any_of_anyM {n g : Nat} {L : Array Bool → Act → Prop} {Q' : Exit → Act → World → Prop} (hL : ∀ listed a w, C w → L listed a → wpAny P md ops Q' g listed a w) :
    ∀ (f : Nat) (listed : Array Bool) (a : Act) (w : World), C w → anyM P md ops C n L f listed a → wpAny P md ops Q' (f + g) listed a w
  | 0, listed, a, w, hw, h => by rw [Nat.zero_add]; exact hL _ _ _ hw h
  | f + 1, listed, a, w, hw, h => by
    rw [show f + 1 + g = (f + g) + 1 by omega]
    exact ⟨fun h0 => absurd h0 h.1, fun i hi => wpOp_of_qOp hw (fun a' w' hw' h' => any_of_anyM hL f _ a' w' hw' h') (h.2 i hi).2⟩

theorem anyM_first {n i : Nat} {oi : Oper} {v : Value} {L : Array Bool → Act → Prop} (hi : ops[i]? = some oi) (hsel : ∀ (j : Nat) (o : Oper) cs b, ops[j]? = some o → o.op ≠ .select cs b)
    (hs : Region.sinkB md ops n = true) (hc : Region.chainB md ops n = true) (hn : n < ops.size) (hin : i < n)
    (hdone : ∀ listed a, L listed a → ∀ j ∈ Region.ready md ops listed, n ≤ j) :
    ∀ (f : Nat) (listed : Array Bool) (a : Act), HeadInv md ops n listed →
      (∀ j oj, ops[j]? = some oj → j ≠ i → listed.getD j true = false → (∀ e ∈ oj.after, Region.binds md e = true → e.on ≠ i) → oi.apart ops oj = true) →
      i ∈ Region.ready md ops listed → YieldsIn P ops C oi v a →
      anyM P md ops C n L f (listed.setIfInBounds i true) (a.put oi.dst v) → anyM P md ops C n L (f + 1) listed a := by
  intro f
  induction f with
  | zero =>
    intro listed a inv _ hr hy H
    have hun := (mem_ready.1 hr).1
    refine ⟨fun h => (by rw [h] at hr; cases hr), fun j hj => ?_⟩
    have hjn : j < n := by
      rcases Nat.lt_or_ge j n with h | h
      · exact h
      · exact absurd hj (tail_waits hs hc hn inv _ i rfl hin hun j h)
    refine ⟨hjn, ?_⟩
    by_cases hji : j = i
    · subst hji; exact hy.qOp hi H
    · have := hdone _ _ H j (ready_mono hj hji)
      omega
  | succ f ih =>
    intro listed a inv hfree hr hy H
    have hun := (mem_ready.1 hr).1
    refine ⟨fun h => (by rw [h] at hr; cases hr), fun j hj => ?_⟩
    have hjn : j < n := by
      rcases Nat.lt_or_ge j n with h | h
      · exact h
      · exact absurd hj (tail_waits hs hc hn inv _ i rfl hin hun j h)
    refine ⟨hjn, ?_⟩
    by_cases hji : j = i
    · subst hji; exact hy.qOp hi H
    · have h1 := (H.2 j (ready_mono hj hji)).2
      obtain ⟨hjun, oj, hoj, hall⟩ := mem_ready.1 hj
      have hnot : ∀ e ∈ oj.after, Region.binds md e = true → e.on ≠ i := fun e he hb heq => by
        have h1 := hall e he hb
        rw [heq, getD_both hun] at h1
        cases h1
      have h2 := qOp_put hoj (hfree j oj hoj hji hjun hnot) (fun cs b => hsel i oi cs b hi) (fun cs b => hsel j oj cs b hoj) hy h1
      have hfree' : ∀ k ok, ops[k]? = some ok → k ≠ i → (listed.setIfInBounds j true).getD k true = false →
          (∀ e ∈ ok.after, Region.binds md e = true → e.on ≠ i) → oi.apart ops ok = true := fun k ok hk hki hun hno => by
        refine hfree k ok hk hki ?_ hno
        by_cases hjk : j = k
        · subst hjk; exact hjun
        · rw [getD_set_ne true hjk] at hun; exact hun
      refine qOp_mono (fun a' h3 => ih (listed.setIfInBounds j true) a' (inv.set hj hjn) hfree' (ready_mono hr (Ne.symm hji)) h3.1 ?_) h2
      rw [Array.setIfInBounds_comm _ _ hji]
      exact h3.2

theorem anyM_lex {n g : Nat} {Lq : Act → Prop} (hsel : Region.noSelect ops = true) (hs : Region.sinkB md ops n = true) (hc : Region.chainB md ops n = true) (hn : n < ops.size) :
    ∀ (l : List Oper) (k : Nat) (listed : Array Bool) (a : Act), (∀ j, j < l.length → l[j]? = ops[k + j]?) → k + l.length = n → HeadInv md ops n listed →
    Region.lexHead md ops g l.length k listed = true → wpQuiet P ops C Lq l a →
    anyM P md ops C n (fun listed' a' => Region.seqB md ops g n listed' = true ∧ Lq a') l.length listed a
  | [], k, listed, a, _, hk, _, hB, h => by
    have : k = n := by simpa using hk
    subst this
    exact ⟨by simpa [Region.lexHead] using hB, h⟩
  | o :: l, k, listed, a, hl, hk, inv, hB, h => by
    have h0 : ops[k]? = some o := by simpa using (hl 0 (by simp)).symm
    simp only [List.length_cons, Region.lexHead, Bool.and_eq_true] at hB
    obtain ⟨⟨hr, hf⟩, hB'⟩ := hB
    have hkn : k < n := by simp only [List.length_cons] at hk; omega
    have hr' : k ∈ Region.ready md ops listed := by simpa using hr
    have hst : qOp P ops C k (wpQuiet P ops C Lq l) a := by unfold qOp; simp only [h0]; exact h
    obtain ⟨v, hy, hK⟩ := yieldsIn_of_qOp h0 hst
    exact anyM_first h0 (Region.noSelect_spec hsel) hs hc hn hkn (fun listed' a' hL => seqB_ready hL.1) l.length listed a inv (Region.free_spec h0 hf) hr' hy
      (anyM_lex hsel hs hc hn l (k + 1) _ _ (fun j hj => by have := hl (j + 1) (by simp; omega); simpa [Nat.add_assoc, Nat.add_comm 1 j] using this) (by simp only [List.length_cons] at hk; omega) (inv.set hr' hkn) hB' hK)

/-- The head, n operations, is quiet in the class C; the tail is walked in its order in whatever world of the class. -/
theorem wp_region_quiet_tail {id : Nat} {Q : Exit → Act → World → Prop} {a : Act} {w : World} {l : List Oper} (n : Nat) (hm : P.follows .mixedOrders = true) (hB : Region.lexTailB .any l.toArray n = true)
    (hC : C { w with drawn := w.drawn + 1 })
    (h : wpQuiet P l.toArray C (fun a' => ∀ w', C w' → wpList P l.toArray Q (l.drop n) a' w') (l.take n) a) : (Code.region id l.toArray true).wp P Q a w := by
  simp only [Region.lexTailB, Bool.and_eq_true, decide_eq_true_eq] at hB
  obtain ⟨⟨⟨⟨hsel, hn⟩, hs⟩, hc⟩, hlex⟩ := hB
  have hn' : n < l.length := by simpa using hn
  have htl : (l.take n).length = n := by simp; omega
  have hdl : (l.drop n).length = l.toArray.size - n := by simp
  have inv0 : HeadInv .any l.toArray n (Array.replicate l.toArray.size false) :=
    ⟨by simp, fun j oj _ hl => (by rw [getD_replicate_false] at hl; cases hl), fun t _ ht => getD_in (by simpa using ht) (getD_replicate_false _ _)⟩
  have H := anyM_lex (md := .any) (C := C) (g := l.toArray.size - n) hsel hs hc hn (l.take n) 0 _ a (fun j hj => by
    have hj' : j < n := by rw [htl] at hj; exact hj
    simp [hj']) (by simpa using htl) inv0 (by rw [htl]; exact hlex) h
  refine wp_region_any hm ?_
  have := any_of_anyM (Q' := Q) (C := C) (g := l.toArray.size - n) (fun listed a' w' hw' hL => by
    have := wpAny_of_seq (md := .any) (Q' := Q) (l.drop n) n listed a' w' (fun j => by simp [List.getElem?_drop]) (by rw [hdl]; exact hL.1) (hL.2 w' hw')
    rwa [hdl] at this) _ _ _ _ hC H
  rw [htl, show n + (l.toArray.size - n) = l.toArray.size by omega] at this
  exact this

theorem wp_region_tailB {id : Nat} {Q : Exit → Act → World → Prop} {a : Act} {w : World} {l : List Oper} (n : Nat) (hm : P.follows .mixedOrders = true) (hB : Region.lexTailB .any l.toArray n = true)
    (h : wpQuiet P l.toArray (fun w' => ∃ u : Ext w, w' = u.val) (fun a' => ∀ w', (∃ u : Ext w, w' = u.val) → wpList P l.toArray Q (l.drop n) a' w') (l.take n) a) : (Code.region id l.toArray true).wp P Q a w :=
  wp_region_quiet_tail (C := fun w' => ∃ u : Ext w, w' = u.val) n hm hB ⟨Ext.drew, rfl⟩ h

theorem wp_region_tailD {id : Nat} {Q : Exit → Act → World → Prop} {a : Act} {w : World} {l : List Oper} (n : Nat) (hm : P.follows .mixedOrders = true) (hB : Region.lexTailB .any l.toArray n = true)
    (h : wpQuiet P l.toArray (fun w' => ∃ n, w' = w.drewN n) (fun a' => ∀ w', (∃ n, w' = w.drewN n) → wpList P l.toArray Q (l.drop n) a' w') (l.take n) a) : (Code.region id l.toArray true).wp P Q a w :=
  wp_region_quiet_tail (C := fun w' => ∃ n, w' = w.drewN n) n hm hB ⟨1, rfl⟩ h
end
end Go.Proofs.YtfdgifcllelhiaaGreatDoor
/- Leaves of solid: gcd, points, comparisons. -/
namespace Go.Proofs.YtfdgifcllelhiaaGreatDoor
open Go.RowKit
attribute [local go_sem] Ext.cell Ext.frozen

def IntsAt (w : World) (b off : Nat) (xs : List Int) : Prop := ∀ i (h : i < xs.length), w.cell? ⟨b, off + i, none⟩ = some (.int .i64 xs[i])
theorem IntsAt.below {w w' : World} {b off : Nat} {xs : List Int} (h : IntsAt w b off xs) (hb : Below w.heap.size w w') : IntsAt w' b off xs := fun i hi => below_cell hb (h i hi)
theorem intsAt3 {w : World} {b : Nat} {x0 x1 x2 : Int} (h0 : w.cell? ⟨b, 0, none⟩ = some (.int .i64 x0)) (h1 : w.cell? ⟨b, 1, none⟩ = some (.int .i64 x1)) (h2 : w.cell? ⟨b, 2, none⟩ = some (.int .i64 x2)) : IntsAt w b 0 [x0, x1, x2] := by
  intro i hi
  match i, hi with
  | 0, _ => simpa using h0
  | 1, _ => simpa using h1
  | 2, _ => simpa using h2
theorem intsAt4 {w : World} {b : Nat} {x0 x1 x2 x3 : Int} (h0 : w.cell? ⟨b, 0, none⟩ = some (.int .i64 x0)) (h1 : w.cell? ⟨b, 1, none⟩ = some (.int .i64 x1)) (h2 : w.cell? ⟨b, 2, none⟩ = some (.int .i64 x2)) (h3 : w.cell? ⟨b, 3, none⟩ = some (.int .i64 x3)) : IntsAt w b 0 [x0, x1, x2, x3] := by
  intro i hi
  match i, hi with
  | 0, _ => simpa using h0
  | 1, _ => simpa using h1
  | 2, _ => simpa using h2
  | 3, _ => simpa using h3

theorem cell_new {W : World} {T : TypeId} {cs : Array Value} {g : Nat} (hg : g = W.heap.size) (i : Nat) : (W.alloc (.cells cs T)).cell? ⟨g, i, none⟩ = cs[i]? := by
  subst hg
  exact cell_of_row _ _ i cs T (0, 0) (heap_alloc_new W _)
theorem intsAt3_new {W : World} {T : TypeId} {x0 x1 x2 : Int} {g : Nat} (hg : g = W.heap.size) : IntsAt (W.alloc (.cells #[.int .i64 x0, .int .i64 x1, .int .i64 x2] T)) g 0 [x0, x1, x2] :=
  intsAt3 ((cell_new hg 0).trans rfl) ((cell_new hg 1).trans rfl) ((cell_new hg 2).trans rfl)
theorem intsAt4_new {W : World} {T : TypeId} {x0 x1 x2 x3 : Int} {g : Nat} (hg : g = W.heap.size) : IntsAt (W.alloc (.cells #[.int .i64 x0, .int .i64 x1, .int .i64 x2, .int .i64 x3] T)) g 0 [x0, x1, x2, x3] :=
  intsAt4 ((cell_new hg 0).trans rfl) ((cell_new hg 1).trans rfl) ((cell_new hg 2).trans rfl) ((cell_new hg 3).trans rfl)

/-- The greatest common divisor of a list. -/
def gcdL (xs : List Int) : Nat := xs.foldl (fun g n => Nat.gcd g n.natAbs) 0
theorem gcdL_snoc (xs : List Int) (n : Int) : gcdL (xs ++ [n]) = Nat.gcd (gcdL xs) n.natAbs := by simp [gcdL]
theorem take_snocI (xs : List Int) (k : Nat) (h : k < xs.length) : xs.take (k + 1) = xs.take k ++ [xs[k]] := by
  rw [List.take_succ_eq_append_getElem h]
theorem gcdF_le (B : Nat) : ∀ (xs : List Int) (g : Nat), g ≤ B → (∀ x ∈ xs, -(B : Int) ≤ x ∧ x ≤ B) → xs.foldl (fun g n => Nat.gcd g n.natAbs) g ≤ B
  | [], _, hg, _ => hg
  | x :: xs, g, hg, h => by
    have hx := h x (by simp)
    refine gcdF_le B xs _ ?_ (fun y hy => h y (by simp [hy]))
    show Nat.gcd g x.natAbs ≤ B
    by_cases hz : x.natAbs = 0
    · rw [hz]; simpa using hg
    · exact Nat.le_trans (Nat.gcd_le_right _ (by omega)) (by omega)
theorem gcdL_le (B : Nat) (xs : List Int) (h : ∀ x ∈ xs, -(B : Int) ≤ x ∧ x ≤ B) : gcdL xs ≤ B := gcdF_le B xs 0 (Nat.zero_le _) h

theorem max_abs (n : Int) : max n (-n) = (n.natAbs : Int) := by omega
theorem gcd_step (g n : Nat) : Nat.gcd n (g % n) = Nat.gcd g n := by
  rw [Nat.gcd_comm g n, Nat.gcd_rec n g, Nat.gcd_comm]

set_option maxHeartbeats 1000000 in
theorem gcd_any (b off n c : Nat) (xs : List Int) (w : World) (hn : xs.length = n) (hm : n ≤ 1000) (hx : IntsAt w b off xs) (hB : ∀ x ∈ xs, -1000000000000000 ≤ x ∧ x ≤ 1000000000000000) :
    Calls Tryz.prog 232 #[.slice (some ⟨b, off, none⟩) n c] w (Ret w (.int .i64 (gcdL xs))) := by
  go_enter Tryz.func232, Tryz.ntmps232
  go_wp2
  go_loopw [3, 8] (fun g i wr => ∃ k : Nat, k ≤ n ∧ i = .int .i64 k ∧ g = .int .i64 (gcdL (xs.take k)) ∧ Below w.heap.size w wr) (fun _ i _ => n - (intOf i).toNat)
  case atStart => exact ⟨0, by omega, rfl, rfl, Below.refl _ _⟩
  case round =>
    obtain ⟨k, hk, rfl, rfl, hb⟩ := hrel
    by_cases hlt : k < n
    · have hcell := below_cell hb (hx k (by omega))
      have hbx := hB (xs[k]) (by simp)
      have Hs : gcdL (xs.take (k + 1)) = Nat.gcd (gcdL (xs.take k)) (xs[k]).natAbs := by rw [take_snocI xs k (by omega), gcdL_snoc]
      have hg : gcdL (xs.take k) ≤ 1000000000000000 := gcdL_le _ _ (fun x hx => hB x (List.mem_of_mem_take hx))
      generalize gcdL (xs.take k) = g0 at *
      obtain ⟨g1, Hg1⟩ : ∃ g1, Hid (gcdL (xs.take (k+1)) = g1) := ⟨_, rfl⟩
      rw [Hg1.out] at Hs
      generalize xs[k] = x at *
      clear hx hB
      obtain ⟨m, hm', hxm⟩ : ∃ m : Nat, m ≤ 1000000000000000 ∧ (x = (m : Int) ∨ (x = -(m : Int) ∧ 0 < m)) := ⟨x.natAbs, by omega, by omega⟩
      have Hm : Hid (g1 = g0.gcd m) := by show g1 = g0.gcd m; rcases hxm with rfl | ⟨rfl, _⟩ <;> simpa using Hs
      clear Hs hbx
      rcases hxm with rfl | ⟨rfl, hm0⟩
      all_goals
        go_wp2
        try rw [Int.neg_neg]
        go_loopw [3, 5] (fun g i wr => ∃ g' n' : Nat, g' ≤ 1000000000000000 ∧ n' ≤ 1000000000000000 ∧ i = .int .i64 n' ∧ g = .int .i64 g' ∧ Hid (g1 = g'.gcd n') ∧ Below w.heap.size w wr) (fun _ i _ => (intOf i).toNat)
        case atStart => exact ⟨g0, m, hg, hm', by first | rfl | simp, rfl, Hm, hb⟩
        case round =>
          clear hb
          obtain ⟨g', n', hg', hn', rfl, rfl, Hr, hb⟩ := hrel
          by_cases hz : 0 < n'
          · go_wp2
            go_quiet (fail)
            go_wp2
            go_roundw
            case rel => exact ⟨n', g' % n', hn', by have := Nat.mod_lt g' hz; omega, by go_num, by go_num, by unfold Hid; rw [gcd_step]; exact Hr.out, hb.drewN' _⟩
            case measure => simp [intOf]; have := Nat.mod_lt g' hz; omega
          · obtain rfl : n' = 0 := by omega
            go_wp2
            go_roundw
            case rel => exact ⟨k + 1, by omega, by go_num, by rw [Hg1.out, Hr.out]; simp, hb⟩
            case measure => simp [intOf]; omega
    · go_wp2
      go_ret
      exact ⟨ret_int (by rw [List.take_of_length_le (by omega)]), hb⟩

theorem gcd4_any (W : World) (T : TypeId) (x0 x1 x2 x3 : Int) (g : Nat) (hg : g = W.heap.size) (h0 : -1000000000000000 ≤ x0 ∧ x0 ≤ 1000000000000000) (h1 : -1000000000000000 ≤ x1 ∧ x1 ≤ 1000000000000000) (h2 : -1000000000000000 ≤ x2 ∧ x2 ≤ 1000000000000000) (h3 : -1000000000000000 ≤ x3 ∧ x3 ≤ 1000000000000000) :
    Calls Tryz.prog 232 #[.slice (some ⟨g, 0, none⟩) 4 4] (W.alloc (.cells #[.int .i64 x0, .int .i64 x1, .int .i64 x2, .int .i64 x3] T)) (Ret (W.alloc (.cells #[.int .i64 x0, .int .i64 x1, .int .i64 x2, .int .i64 x3] T)) (.int .i64 (gcdL [x0, x1, x2, x3]))) :=
  gcd_any g 0 4 4 _ _ rfl (by omega) (intsAt4_new hg) (fun x hx => by simp at hx; rcases hx with rfl | rfl | rfl | rfl <;> assumption)
end Go.Proofs.YtfdgifcllelhiaaGreatDoor
/- Leaves of solid: cmp.Or and the comparisons. -/
namespace Go.Proofs.YtfdgifcllelhiaaGreatDoor
open Go.RowKit
attribute [local go_sem] Ext.cell Ext.frozen

def orL : List Int → Int
  | [] => 0
  | x :: xs => if x = 0 then orL xs else x
theorem orL_take_zero (xs : List Int) : ∀ k, k ≤ xs.length → (∀ i (h : i < xs.length), i < k → xs[i] = 0) → orL xs = orL (xs.drop k) := by
  induction xs with
  | nil => intro k _ _; simp
  | cons x xs ih =>
    intro k hk h
    cases k with
    | zero => rfl
    | succ k =>
      have h0 : x = 0 := h 0 (by simp) (by omega)
      simp only [orL, h0, if_true, List.drop_succ_cons]
      exact ih k (by simpa using hk) (fun i hi hik => by have := h (i + 1) (by simp; omega) (by omega); simpa using this)
theorem orL_hit (xs : List Int) (k : Nat) (hk : k < xs.length) (hx : xs[k] ≠ 0) (h : ∀ i (h : i < xs.length), i < k → xs[i] = 0) : orL xs = xs[k] := by
  rw [orL_take_zero xs k (by omega) h, List.drop_eq_getElem_cons hk]
  simp [orL, hx]
theorem orL_none (xs : List Int) (h : ∀ i (h : i < xs.length), xs[i] = 0) : orL xs = 0 := by
  rw [orL_take_zero xs xs.length (Nat.le_refl _) (fun i hi _ => h i hi)]; simp [orL]

set_option maxHeartbeats 1000000 in
theorem or_any (b off n c : Nat) (xs : List Int) (w : World) (hn : xs.length = n) (hm : n ≤ 1000) (hx : IntsAt w b off xs) :
    Calls Tryz.prog 156 #[.slice (some ⟨b, off, none⟩) n c] w fun e w' => e = .returned (.int .i64 (orL xs)) ∧ w = w' := by
  go_enter Tryz.func156, Tryz.ntmps156
  go_wp2
  go_loop [8] (fun i => ∃ k : Nat, k ≤ n ∧ i = .int .i64 k ∧ Hid (∀ i (h : i < xs.length), i < k → xs[i] = 0)) (fun i => n - (intOf i).toNat)
  case atStart => exact ⟨0, by omega, rfl, fun i _ h => by omega⟩
  case round =>
    obtain ⟨k, hk, rfl, Hz⟩ := hrel
    by_cases hlt : k < n
    · have hcell := hx k (by omega)
      have Hh := Lib.hid (orL_hit xs k (by omega))
      obtain ⟨x, Hxx⟩ : ∃ x, Hid (xs[k] = x) := ⟨xs[k], Lib.hid rfl⟩
      rw [Hxx.out] at hcell
      clear hx
      by_cases h0 : x = 0
      · subst h0
        go_wp2
        go_round
        case rel => exact ⟨k + 1, by omega, by go_num, fun i hi hik => by
          by_cases e : i = k
          · subst e; exact Hxx.out
          · exact Hz.out i hi (by omega)⟩
        case measure => simp [intOf]; omega
      · have hb : (x != 0) = true := by simpa using h0
        go_wp2
        go_ret
        exact ⟨ret_int (by rw [Hh.out (by rw [Hxx.out]; exact h0) Hz.out, Hxx.out]), rfl⟩
    · have Hn := Lib.hid (orL_none xs (fun i hi => Hz.out i hi (by omega)))
      go_wp2
      go_ret
      exact ⟨ret_int (by rw [Hn.out]), rfl⟩

theorem or3_any (W : World) (T : TypeId) (x0 x1 x2 : Int) (g : Nat) (hg : g = W.heap.size) :
    Calls Tryz.prog 156 #[.slice (some ⟨g, 0, none⟩) 3 3] (W.alloc (.cells #[.int .i64 x0, .int .i64 x1, .int .i64 x2] T)) fun e w' => e = .returned (.int .i64 (orL [x0, x1, x2])) ∧ W.alloc (.cells #[.int .i64 x0, .int .i64 x1, .int .i64 x2] T) = w' :=
  or_any g 0 3 3 _ _ rfl (by omega) (intsAt3_new hg)
theorem or4_any (W : World) (T : TypeId) (x0 x1 x2 x3 : Int) (g : Nat) (hg : g = W.heap.size) :
    Calls Tryz.prog 156 #[.slice (some ⟨g, 0, none⟩) 4 4] (W.alloc (.cells #[.int .i64 x0, .int .i64 x1, .int .i64 x2, .int .i64 x3] T)) fun e w' => e = .returned (.int .i64 (orL [x0, x1, x2, x3])) ∧ W.alloc (.cells #[.int .i64 x0, .int .i64 x1, .int .i64 x2, .int .i64 x3] T) = w' :=
  or_any g 0 4 4 _ _ rfl (by omega) (intsAt4_new hg)

/-- The comparison of two points. -/
def cmpPt (a b : Int × Int × Int × Int) : Int := orL [sgn (a.1 * b.2.2.2) (b.1 * a.2.2.2), sgn (a.2.1 * b.2.2.2) (b.2.1 * a.2.2.2), sgn (a.2.2.1 * b.2.2.2) (b.2.2.1 * a.2.2.2)]
def cmpPl (p q : Int × Int × Int × Int) : Int := orL [sgn p.1 q.1, sgn p.2.1 q.2.1, sgn p.2.2.1 q.2.2.1, sgn p.2.2.2 q.2.2.2]

theorem grow3 (w : World) (o1 o2 o3 : Obj) (n : Nat) : (((w.alloc o1).alloc o2).drewN n).alloc o3 = Go.Sort.grow (w.drewN n) #[o1, o2, o3] := by
  rw [Go.Sort.alloc_eq_grow, Go.Sort.alloc_eq_grow, Go.Sort.alloc_eq_grow, Go.Sort.grow_grow]
  show Go.Sort.grow (Go.Sort.grow (w.drewN n) _) _ = _
  rw [Go.Sort.grow_grow]; rfl

set_option maxHeartbeats 1000000 in
theorem comparePoints_any (x y z q x' y' z' q' : Int) (w : World)
    (hx : -10000000000 ≤ x ∧ x ≤ 10000000000) (hy : -10000000000 ≤ y ∧ y ≤ 10000000000) (hz : -10000000000 ≤ z ∧ z ≤ 10000000000) (hq : -1000000 ≤ q ∧ q ≤ 1000000)
    (hx' : -10000000000 ≤ x' ∧ x' ≤ 10000000000) (hy' : -10000000000 ≤ y' ∧ y' ≤ 10000000000) (hz' : -10000000000 ≤ z' ∧ z' ≤ 10000000000) (hq' : -1000000 ≤ q' ∧ q' ≤ 1000000) :
    Calls Tryz.prog 228 #[V4 x y z q, V4 x' y' z' q'] w fun e w' => e = .returned (.int .i64 (cmpPt (x, y, z, q) (x', y', z', q'))) ∧ ∃ n os, w' = Go.Sort.grow (w.drewN n) os := by
  have h1 := mul_bd hx.1 hx.2 hq'.1 hq'.2
  have h2 := mul_bd hx'.1 hx'.2 hq.1 hq.2
  have h3 := mul_bd hy.1 hy.2 hq'.1 hq'.2
  have h4 := mul_bd hy'.1 hy'.2 hq.1 hq.2
  have h5 := mul_bd hz.1 hz.2 hq'.1 hq'.2
  have h6 := mul_bd hz'.1 hz'.2 hq.1 hq.2
  clear hx hy hz hq hx' hy' hz' hq'
  go_enter Tryz.func228, Tryz.ntmps228
  go_wp2
  refine wp_region_tailD 33 (by kernel_rfl) (by kernel_rfl) ?_
  simp only [List.take_succ_cons, List.take_zero, List.drop_succ_cons, List.drop_zero]
  repeat (first | go_big_quiet_step ((go_at_call 157; exact Calls.quiet_of_same ((compare_any _ _ _).mono fun _ _ ⟨h, k⟩ => ⟨h, k.symm⟩))) | quiet_step ((go_at_call 157; exact Calls.quiet_of_same ((compare_any _ _ _).mono fun _ _ ⟨h, k⟩ => ⟨h, k.symm⟩))))
  refine wpQuiet_nil ?_
  rintro _ ⟨nq, rfl⟩
  go_wp2_with fail
  refine (or3_any _ _ _ _ _ _ (by simp)).mono ?_
  rintro e w' ⟨rfl, rfl⟩
  go_wp2
  go_ret
  exact ⟨rfl, nq, _, grow3 _ _ _ _ _⟩

set_option maxHeartbeats 1000000 in
theorem comparePlanes_any (x y z q x' y' z' q' : Int) (w : World) :
    Calls Tryz.prog 205 #[V4 x y z q, V4 x' y' z' q'] w fun e w' => e = .returned (.int .i64 (cmpPl (x, y, z, q) (x', y', z', q'))) ∧ ∃ n os, w' = Go.Sort.grow (w.drewN n) os := by
  go_enter Tryz.func205, Tryz.ntmps205
  go_wp2
  refine wp_region_tailD 20 (by kernel_rfl) (by kernel_rfl) ?_
  simp only [List.take_succ_cons, List.take_zero, List.drop_succ_cons, List.drop_zero]
  repeat (first | go_big_quiet_step ((go_at_call 157; exact Calls.quiet_of_same ((compare_any _ _ _).mono fun _ _ ⟨h, k⟩ => ⟨h, k.symm⟩))) | quiet_step ((go_at_call 157; exact Calls.quiet_of_same ((compare_any _ _ _).mono fun _ _ ⟨h, k⟩ => ⟨h, k.symm⟩))))
  refine wpQuiet_nil ?_
  rintro _ ⟨nq, rfl⟩
  go_wp2_with fail
  refine (or4_any _ _ _ _ _ _ _ (by simp)).mono ?_
  rintro e w' ⟨rfl, rfl⟩
  go_wp2
  go_ret
  exact ⟨rfl, nq, _, grow3 _ _ _ _ _⟩
end Go.Proofs.YtfdgifcllelhiaaGreatDoor
/- Leaves of solid: points, lowest forms, checks of planes and rooms. -/
namespace Go.Proofs.YtfdgifcllelhiaaGreatDoor
open Go.RowKit
attribute [local go_sem] Ext.cell Ext.frozen

theorem gcdL4_pos (a b c d : Int) (h : d ≠ 0) : 0 < gcdL [a, b, c, d] := by
  simp only [gcdL, List.foldl]
  exact Nat.gcd_pos_of_pos_right _ (by omega)
theorem gcdL4_le (B : Nat) (a b c d : Int) (ha : -(B:Int) ≤ a ∧ a ≤ B) (hb : -(B:Int) ≤ b ∧ b ≤ B) (hc : -(B:Int) ≤ c ∧ c ≤ B) (hd : -(B:Int) ≤ d ∧ d ≤ B) : gcdL [a, b, c, d] ≤ B :=
  gcdL_le B _ (fun x hx => by simp at hx; rcases hx with rfl | rfl | rfl | rfl <;> assumption)

theorem gcdF_dvd : ∀ (xs : List Int) (g : Nat), xs.foldl (fun g n => Nat.gcd g n.natAbs) g ∣ g ∧ ∀ x ∈ xs, xs.foldl (fun g n => Nat.gcd g n.natAbs) g ∣ x.natAbs
  | [], g => ⟨Nat.dvd_refl _, by simp⟩
  | x :: xs, g => by
    obtain ⟨h1, h2⟩ := gcdF_dvd xs (Nat.gcd g x.natAbs)
    refine ⟨Nat.dvd_trans h1 (Nat.gcd_dvd_left _ _), fun y hy => ?_⟩
    rcases List.mem_cons.1 hy with rfl | hy
    · exact Nat.dvd_trans h1 (Nat.gcd_dvd_right _ _)
    · exact h2 y hy
theorem gcdL_dvd (xs : List Int) (x : Int) (h : x ∈ xs) : ((gcdL xs : Nat) : Int) ∣ x := by
  have := (gcdF_dvd xs 0).2 x h
  exact Int.ofNat_dvd_left.2 this
theorem tdiv_dvd {a g : Int} (h : g ∣ a) : a.tdiv g = a / g := by
  obtain ⟨k, rfl⟩ := h
  by_cases h0 : g = 0
  · subst h0; simp
  · rw [Int.mul_tdiv_cancel_left _ h0, Int.mul_ediv_cancel_left _ h0]
theorem tdiv_bd {a B : Int} {g : Nat} (h : -B ≤ a ∧ a ≤ B) : -B ≤ a.tdiv g ∧ a.tdiv g ≤ B := by
  have h1 : (a.tdiv g).natAbs ≤ a.natAbs := by rw [Int.natAbs_tdiv]; exact Nat.div_le_self _ _
  omega

/-- A point in lowest form, its denominator positive. -/
def ptOf (a b c den : Int) : Int × Int × Int × Int :=
  if den < 0 then (-(a / gcdL [a, b, c, den]), -(b / gcdL [a, b, c, den]), -(c / gcdL [a, b, c, den]), -(den / gcdL [a, b, c, den]))
  else (a / gcdL [a, b, c, den], b / gcdL [a, b, c, den], c / gcdL [a, b, c, den], den / gcdL [a, b, c, den])

set_option maxHeartbeats 1000000 in
theorem point_any (a b c den : Int) (w : World) (ha : -10000000000 ≤ a ∧ a ≤ 10000000000) (hb : -10000000000 ≤ b ∧ b ≤ 10000000000) (hc : -10000000000 ≤ c ∧ c ≤ 10000000000)
    (hd : -1000000 ≤ den ∧ den ≤ 1000000) (h0 : den ≠ 0) :
    Calls Tryz.prog 244 #[V3 a b c, .int .i64 den] w (Ret w (V4 (ptOf a b c den).1 (ptOf a b c den).2.1 (ptOf a b c den).2.2.1 (ptOf a b c den).2.2.2)) := by
  have hp := gcdL4_pos a b c den h0
  have hle := gcdL4_le 10000000000 a b c den (by omega) (by omega) (by omega) (by omega)
  have e1 := Lib.hid (tdiv_dvd (gcdL_dvd [a, b, c, den] a (by simp)))
  have e2 := Lib.hid (tdiv_dvd (gcdL_dvd [a, b, c, den] b (by simp)))
  have e3 := Lib.hid (tdiv_dvd (gcdL_dvd [a, b, c, den] c (by simp)))
  have e4 := Lib.hid (tdiv_dvd (gcdL_dvd [a, b, c, den] den (by simp)))
  have Hn : Hid (den < 0 → ptOf a b c den = (-(a / gcdL [a, b, c, den]), -(b / gcdL [a, b, c, den]), -(c / gcdL [a, b, c, den]), -(den / gcdL [a, b, c, den]))) := fun h => if_pos h
  have Hp : Hid (0 ≤ den → ptOf a b c den = (a / gcdL [a, b, c, den], b / gcdL [a, b, c, den], c / gcdL [a, b, c, den], den / gcdL [a, b, c, den])) := fun h => if_neg (by omega)
  have t1 := tdiv_bd (g := gcdL [a, b, c, den]) ha
  have t2 := tdiv_bd (g := gcdL [a, b, c, den]) hb
  have t3 := tdiv_bd (g := gcdL [a, b, c, den]) hc
  have t4 := tdiv_bd (g := gcdL [a, b, c, den]) hd
  generalize ptOf a b c den = r at *
  go_enter Tryz.func244, Tryz.ntmps244
  go_wp2_with (go_at_call 232; refine (gcd4_any _ _ _ _ _ _ _ (by simp) (by omega) (by omega) (by omega) (by omega)).mono ?_; rintro e w1 ⟨rfl, hb1⟩)
  all_goals
    have hw1 : Below w.heap.size w w1 := by
      refine Below.trans ?_ (hb1.mono (by simp; omega))
      (repeat (first | exact Below.refl _ _ | assumption | (refine below_trans ?_ (Ext.below _)) | (refine Below.trans ?_ ((Ext.below _).mono (by first | omega | (simp; omega)))) | (refine Below.alloc ?_ (by first | omega | (simp; done) | (simp; omega)) _) | (refine Below.setCell ?_ (by first | omega | (simp; done) | (simp; omega)) _) | (refine Below.drew ?_)))
    have c0 : w1.cell? ⟨w.heap.size, 0, none⟩ = some (.int .i64 a) := below_cell hb1 (by go_simp)
    have c1 : w1.cell? ⟨w.heap.size, 1, none⟩ = some (.int .i64 b) := below_cell hb1 (by go_simp)
    have c2 : w1.cell? ⟨w.heap.size, 2, none⟩ = some (.int .i64 c) := below_cell hb1 (by go_simp)
    have d0 : w1.cell? ⟨w.heap.size + 1, 0, none⟩ = some (.int .i64 0) := below_cell hb1 (by go_simp)
    have d1 : w1.cell? ⟨w.heap.size + 1, 1, none⟩ = some (.int .i64 0) := below_cell hb1 (by go_simp)
    have d2 : w1.cell? ⟨w.heap.size + 1, 2, none⟩ = some (.int .i64 0) := below_cell hb1 (by go_simp)
    have d3 : w1.cell? ⟨w.heap.size + 1, 3, none⟩ = some (.int .i64 0) := below_cell hb1 (by go_simp)
    have f0 : ∀ i, w1.frozen? ⟨w.heap.size + 1, i, none⟩ = false := fun i => (hb1.frozen (by simp)).trans (by go_simp)
    have z0 : w.heap.size < w1.heap.size := by have := hb1.size; simp at this; omega
    have z1 : w.heap.size + 1 < w1.heap.size := by have := hb1.size; simp at this; omega
    clear hb1
    generalize gcdL [a, b, c, den] = g at *
    refine wp_region_tailB 15 (by kernel_rfl) (by kernel_rfl) ?_
    simp only [List.take_succ_cons, List.take_zero, List.drop_succ_cons, List.drop_zero]
    repeat (first | go_big_quiet_step (fail) | quiet_step (fail))
    refine wpQuiet_nil ?_
    rintro _ ⟨u, rfl⟩
    go_wp2
  · have hneg : den < 0 := by assumption
    refine bodyPost_ret (v := V4 (-(a.tdiv g)) (-(b.tdiv g)) (-(c.tdiv g)) (-(den.tdiv g))) (by simp [results, Tryz.results244, go_sem, z1, d0, d1, d2, d3]) rfl ⟨?_, ?_⟩
    · rw [Hn.out hneg, e1.out, e2.out, e3.out, e4.out]
    · (repeat (first | exact Below.refl _ _ | assumption | (refine below_trans ?_ (Ext.below _)) | (refine Below.trans ?_ ((Ext.below _).mono (by first | omega | (simp; omega)))) | (refine Below.alloc ?_ (by first | omega | (simp; done) | (simp; omega)) _) | (refine Below.setCell ?_ (by first | omega | (simp; done) | (simp; omega)) _) | (refine Below.drew ?_)))
  · have hpos : 0 ≤ den := by assumption
    refine bodyPost_ret (v := V4 (a.tdiv g) (b.tdiv g) (c.tdiv g) (den.tdiv g)) (by simp [results, Tryz.results244, go_sem, z1, d0, d1, d2, d3]) rfl ⟨?_, ?_⟩
    · rw [Hp.out hpos, e1.out, e2.out, e3.out, e4.out]
    · (repeat (first | exact Below.refl _ _ | assumption | (refine below_trans ?_ (Ext.below _)) | (refine Below.trans ?_ ((Ext.below _).mono (by first | omega | (simp; omega)))) | (refine Below.alloc ?_ (by first | omega | (simp; done) | (simp; omega)) _) | (refine Below.setCell ?_ (by first | omega | (simp; done) | (simp; omega)) _) | (refine Below.drew ?_)))

/-- The lowest form of a plane. -/
def lowP (p : Int × Int × Int × Int) : Int × Int × Int × Int :=
  (p.1 / gcdL [p.1, p.2.1, p.2.2.1, p.2.2.2], p.2.1 / gcdL [p.1, p.2.1, p.2.2.1, p.2.2.2], p.2.2.1 / gcdL [p.1, p.2.1, p.2.2.1, p.2.2.2], p.2.2.2 / gcdL [p.1, p.2.1, p.2.2.1, p.2.2.2])

theorem gcdL4_pos' (a b c d : Int) (h : a ≠ 0 ∨ b ≠ 0 ∨ c ≠ 0) : 0 < gcdL [a, b, c, d] := by
  rcases Nat.eq_zero_or_pos (gcdL [a, b, c, d]) with h0 | h0
  · have h1 := gcdL_dvd [a, b, c, d] a (by simp)
    have h2 := gcdL_dvd [a, b, c, d] b (by simp)
    have h3 := gcdL_dvd [a, b, c, d] c (by simp)
    rw [h0] at h1 h2 h3
    simp at h1 h2 h3
    omega
  · exact h0

set_option maxHeartbeats 1000000 in
theorem lowest_any (a b c d : Int) (w : World) (ha : -10000000 ≤ a ∧ a ≤ 10000000) (hb : -10000000 ≤ b ∧ b ≤ 10000000) (hc : -10000000 ≤ c ∧ c ≤ 10000000) (hd : -10000000 ≤ d ∧ d ≤ 10000000) (h0 : a ≠ 0 ∨ b ≠ 0 ∨ c ≠ 0) :
    Calls Tryz.prog 203 #[V4 a b c d] w (Ret w (V4 (lowP (a, b, c, d)).1 (lowP (a, b, c, d)).2.1 (lowP (a, b, c, d)).2.2.1 (lowP (a, b, c, d)).2.2.2)) := by
  have hp := gcdL4_pos' a b c d h0
  have hle := gcdL4_le 10000000000 a b c d (by omega) (by omega) (by omega) (by omega)
  have e1 := Lib.hid (tdiv_dvd (gcdL_dvd [a, b, c, d] a (by simp)))
  have e2 := Lib.hid (tdiv_dvd (gcdL_dvd [a, b, c, d] b (by simp)))
  have e3 := Lib.hid (tdiv_dvd (gcdL_dvd [a, b, c, d] c (by simp)))
  have e4 := Lib.hid (tdiv_dvd (gcdL_dvd [a, b, c, d] d (by simp)))
  have Hp : Hid (lowP (a, b, c, d) = (a / gcdL [a, b, c, d], b / gcdL [a, b, c, d], c / gcdL [a, b, c, d], d / gcdL [a, b, c, d])) := Lib.hid rfl
  have t1 := tdiv_bd (g := gcdL [a, b, c, d]) ha
  have t2 := tdiv_bd (g := gcdL [a, b, c, d]) hb
  have t3 := tdiv_bd (g := gcdL [a, b, c, d]) hc
  have t4 := tdiv_bd (g := gcdL [a, b, c, d]) hd
  generalize lowP (a, b, c, d) = r at *
  go_enter Tryz.func203, Tryz.ntmps203
  go_wp2_with (go_at_call 232; refine (gcd4_any _ _ _ _ _ _ _ (by simp) (by omega) (by omega) (by omega) (by omega)).mono ?_; rintro e w1 ⟨rfl, hb1⟩)
  have hw1 : Below w.heap.size w w1 := by
    refine Below.trans ?_ (hb1.mono (by simp; omega))
    (repeat (first | exact Below.refl _ _ | assumption | (refine below_trans ?_ (Ext.below _)) | (refine Below.trans ?_ ((Ext.below _).mono (by first | omega | (simp; omega)))) | (refine Below.alloc ?_ (by first | omega | (simp; done) | (simp; omega)) _) | (refine Below.setCell ?_ (by first | omega | (simp; done) | (simp; omega)) _) | (refine Below.drew ?_)))
  have c0 : w1.cell? ⟨w.heap.size, 0, none⟩ = some (.int .i64 a) := below_cell hb1 (by go_simp)
  have c1 : w1.cell? ⟨w.heap.size, 1, none⟩ = some (.int .i64 b) := below_cell hb1 (by go_simp)
  have c2 : w1.cell? ⟨w.heap.size, 2, none⟩ = some (.int .i64 c) := below_cell hb1 (by go_simp)
  have c3 : w1.cell? ⟨w.heap.size, 3, none⟩ = some (.int .i64 d) := below_cell hb1 (by go_simp)
  have d0 : w1.cell? ⟨w.heap.size + 1, 0, none⟩ = some (.int .i64 0) := below_cell hb1 (by go_simp)
  have d1 : w1.cell? ⟨w.heap.size + 1, 1, none⟩ = some (.int .i64 0) := below_cell hb1 (by go_simp)
  have d2 : w1.cell? ⟨w.heap.size + 1, 2, none⟩ = some (.int .i64 0) := below_cell hb1 (by go_simp)
  have d3 : w1.cell? ⟨w.heap.size + 1, 3, none⟩ = some (.int .i64 0) := below_cell hb1 (by go_simp)
  have f0 : ∀ i, w1.frozen? ⟨w.heap.size + 1, i, none⟩ = false := fun i => (hb1.frozen (by simp)).trans (by go_simp)
  have z0 : w.heap.size < w1.heap.size := by have := hb1.size; simp at this; omega
  have z1 : w.heap.size + 1 < w1.heap.size := by have := hb1.size; simp at this; omega
  clear hb1
  generalize gcdL [a, b, c, d] = g at *
  refine wp_region_tailB 16 (by kernel_rfl) (by kernel_rfl) ?_
  simp only [List.take_succ_cons, List.take_zero, List.drop_succ_cons, List.drop_zero]
  repeat (first | go_big_quiet_step (fail) | quiet_step (fail))
  refine wpQuiet_nil ?_
  rintro _ ⟨u, rfl⟩
  go_wp2
  refine bodyPost_ret (v := V4 (a.tdiv g) (b.tdiv g) (c.tdiv g) (d.tdiv g)) (by simp [results, Tryz.results203, go_sem, z1, d0, d1, d2, d3]) rfl ⟨?_, ?_⟩
  · rw [Hp.out, e1.out, e2.out, e3.out, e4.out]
  · (repeat (first | exact Below.refl _ _ | assumption | (refine below_trans ?_ (Ext.below _)) | (refine Below.trans ?_ ((Ext.below _).mono (by first | omega | (simp; omega)))) | (refine Below.alloc ?_ (by first | omega | (simp; done) | (simp; omega)) _) | (refine Below.setCell ?_ (by first | omega | (simp; done) | (simp; omega)) _) | (refine Below.drew ?_)))

def okPl (p : Int × Int × Int × Int) : Prop := (-8 ≤ p.1 ∧ p.1 ≤ 8) ∧ (-8 ≤ p.2.1 ∧ p.2.1 ≤ 8) ∧ (-8 ≤ p.2.2.1 ∧ p.2.2.1 ≤ 8) ∧ (-10000000 ≤ p.2.2.2 ∧ p.2.2.2 ≤ 10000000)
def okCo (p : Int × Int × Int × Int) : Prop := (-10000000000 ≤ p.1 ∧ p.1 ≤ 10000000000) ∧ (-10000000000 ≤ p.2.1 ∧ p.2.1 ≤ 10000000000) ∧ (-10000000000 ≤ p.2.2.1 ∧ p.2.2.1 ≤ 10000000000) ∧ (1 ≤ p.2.2.2 ∧ p.2.2.2 ≤ 1000000)

/-- The error of a plane. -/
def planeErr (p : Int × Int × Int × Int) : Int :=
  if p.1 < -8 ∨ 8 < p.1 ∨ p.2.1 < -8 ∨ 8 < p.2.1 ∨ p.2.2.1 < -8 ∨ 8 < p.2.2.1 ∨ p.2.2.2 < -10000000 ∨ 10000000 < p.2.2.2 then 2 else if p.1 = 0 ∧ p.2.1 = 0 ∧ p.2.2.1 = 0 then 11 else 0

end Go.Proofs.YtfdgifcllelhiaaGreatDoor
namespace Go.Proofs.YtfdgifcllelhiaaGreatDoor
open Go.RowKit
theorem und_arr3 : Tryz.prog.underlying 22 = some (.array 3 3) := by kernel_rfl
theorem und_vec : Tryz.prog.underlying 161 = some (.array 3 3) := by kernel_rfl
theorem und_int : Tryz.prog.underlying 3 = some (.int .i64) := by kernel_rfl
theorem cells_int : Tryz.prog.cellsOf 3 = 1 := by kernel_rfl
theorem info_int : ∃ i, Tryz.prog.info? 3 = some i := Option.isSome_iff_exists.1 (by kernel_rfl)
theorem part3_0 (x y z : Value) (w : World) : (part 3 #[x, y, z] 0).run Tryz.prog w = .ok x w := by kernel_rfl
theorem part3_1 (x y z : Value) (w : World) : (part 3 #[x, y, z] 1).run Tryz.prog w = .ok y w := by kernel_rfl
theorem part3_2 (x y z : Value) (w : World) : (part 3 #[x, y, z] 2).run Tryz.prog w = .ok z w := by kernel_rfl
theorem eqItems3 (d : Nat) (a b c x y z : Int) (w : World) : (Op.eqItems (d + 1) 3 1 #[.int .i64 a, .int .i64 b, .int .i64 c] #[.int .i64 x, .int .i64 y, .int .i64 z] [0, 1, 2]).run Tryz.prog w = .ok (a == x && b == y && c == z) w := by
  have h0 := fun p q => run_equalIn_int w d _ .i64 _ p q und_int
  simp [Op.eqItems, part3_0, part3_1, part3_2, h0]
  by_cases h1 : a = x <;> by_cases h2 : b = y <;> by_cases h3 : c = z <;> simp [h1, h2, h3]
theorem eql_arr3 (a b c x y z : Int) (w : World) : (binOp .eql 22 (V3 a b c) (V3 x y z)).run Tryz.prog w = .ok (.bool (a == x && b == y && c == z)) w := by
  obtain ⟨i, hi⟩ := info_int
  rw [run_eql_struct, run_equalIn_array w 9999 _ _ und_arr3 hi, cells_int]
  rw [show List.range 3 = [0, 1, 2] from rfl, eqItems3 9998]
  rfl
theorem eql_vec (a b c x y z : Int) (w : World) : (binOp .eql 161 (V3 a b c) (V3 x y z)).run Tryz.prog w = .ok (.bool (a == x && b == y && c == z)) w := by
  obtain ⟨i, hi⟩ := info_int
  rw [run_eql_struct, run_equalIn_array w 9999 _ _ und_vec hi, cells_int]
  rw [show List.range 3 = [0, 1, 2] from rfl, eqItems3 9998]
  rfl
theorem equalIn_vec (a b c x y z : Int) (w : World) : (Op.equalIn 10000 161 (.agg #[.int .i64 a, .int .i64 b, .int .i64 c]) (.agg #[.int .i64 x, .int .i64 y, .int .i64 z])).run Tryz.prog w = .ok (a == x && b == y && c == z) w := by
  obtain ⟨i, hi⟩ := info_int
  rw [run_equalIn_array w 9999 _ _ und_vec hi, cells_int]
  rw [show List.range 3 = [0, 1, 2] from rfl, eqItems3 9998]
theorem equalIn_arr3 (a b c x y z : Int) (w : World) : (Op.equalIn 10000 22 (.agg #[.int .i64 a, .int .i64 b, .int .i64 c]) (.agg #[.int .i64 x, .int .i64 y, .int .i64 z])).run Tryz.prog w = .ok (a == x && b == y && c == z) w := by
  obtain ⟨i, hi⟩ := info_int
  rw [run_equalIn_array w 9999 _ _ und_arr3 hi, cells_int]
  rw [show List.range 3 = [0, 1, 2] from rfl, eqItems3 9998]
end Go.Proofs.YtfdgifcllelhiaaGreatDoor
