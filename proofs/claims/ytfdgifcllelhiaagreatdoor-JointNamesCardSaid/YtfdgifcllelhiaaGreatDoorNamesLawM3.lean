/- NamesLaw: texts of mine, merged: App, L9. -/
import Derived.Test.YtfdgifcllelhiaaGreatDoorNamesLawM2
/- A region that draws its order: world-free operations, loads under a condition S on the world, one operation that keeps S (a new block), and a tail in one forced order. For x = append(x, v). No program is named here. -/
namespace Go.Proofs.YtfdgifcllelhiaaGreatDoor
open Go.RowKit
section
variable {P : Program} {ops : Array Oper} {md : Region.Mode} {S : World → Prop} {Q : Exit → Act → World → Prop}

/-- Whatever order; till the tail fin begins S is kept. -/
def anyF (P : Program) (md : Region.Mode) (ops : Array Oper) (Q : Exit → Act → World → Prop) (S : World → Prop) (fin : List Nat) : Nat → Array Bool → Act → World → Prop
  | 0, listed, a, w => Region.ready md ops listed = [] ∧ Q .normal a w
  | f + 1, listed, a, w => (Region.ready md ops listed = [] → Q .normal a w) ∧
    ∀ i ∈ Region.ready md ops listed, wpOp P ops Q i (fun a' w' => (i ∉ fin → S w') ∧ anyF P md ops Q S fin f (listed.setIfInBounds i true) a' w') a w

theorem any_of_anyF {fin : List Nat} : ∀ (f : Nat) (listed : Array Bool) (a : Act) (w : World), anyF P md ops Q S fin f listed a w → wpAny P md ops Q f listed a w
  | 0, _, _, _, h => h
  | f + 1, _, _, _, h => ⟨h.1, fun i hi => wpOp_mono (fun a' w' h' => any_of_anyF f _ a' w' h'.2) (h.2 i hi)⟩

theorem tail_idle {tl : List Nat} {listed : Array Bool} (inv : Inv md ops tl listed) : ∀ (t0 : Nat) (ts : List Nat), (∀ t ∈ t0 :: ts, t ∈ tl) → chainL md ops (t0 :: ts) = true → ∀ t ∈ ts, t ∉ Region.ready md ops listed := by
  intro t0 ts
  induction ts generalizing t0 with
  | nil => intro _ _ t ht; cases ht
  | cons t1 ts ih =>
    intro hun hc t ht hr
    simp only [chainL, Bool.and_eq_true] at hc
    rcases List.mem_cons.1 ht with rfl | ht
    · obtain ⟨oj, hoj, e, he, hb, hon⟩ := Region.waitsFor_spec hc.1
      obtain ⟨_, o', ho', hall⟩ := mem_ready.1 hr
      have : oj = o' := Option.some.inj (hoj.symm.trans ho')
      subst this
      have h1 := hall e he hb
      rw [hon] at h1
      rcases Nat.lt_or_ge t0 ops.size with h | h
      · rw [getD_both (inv.tail t0 (hun t0 (by simp)) h)] at h1; cases h1
      · have : t0 ≥ listed.size := by rw [inv.size]; exact h
        simp [Array.getElem?_eq_none this] at h1
    · exact ih t1 (fun x hx => hun x (by simp [hx])) hc.2 t ht hr

theorem anyF_first {f0 : Nat} {fs : List Nat} {i : Nat} {oi : Oper} {v : Value} (hi : ops[i]? = some oi) (hsel : ∀ (j : Nat) (o : Oper) cs b, ops[j]? = some o → o.op ≠ .select cs b)
    (hQ : ∀ c a w, ¬ Q (.panic c) a w) (ci : List Nat) (hs : sinkL md ops f0 ci = true) (hc : chainL md ops (f0 :: fs) = true) (hin : i ∈ ci) :
    ∀ (f : Nat) (listed : Array Bool) (a : Act) (w : World), Inv md ops (f0 :: fs) listed →
      (∀ j oj, ops[j]? = some oj → j ≠ i → listed.getD j true = false → (∀ e ∈ oj.after, Region.binds md e = true → e.on ≠ i) → oi.apart ops oj = true) →
      i ∈ Region.ready md ops listed → YieldsIf P ops S oi v a → S w →
      anyF P md ops Q S (f0 :: fs) f (listed.setIfInBounds i true) (a.put oi.dst v) w → anyF P md ops Q S (f0 :: fs) (f + 1) listed a w := by
  have hno : ∀ (listed : Array Bool), Inv md ops (f0 :: fs) listed → listed.getD i true = false → ∀ j ∈ Region.ready md ops listed, j ∉ f0 :: fs := by
    intro listed inv hun j hj hjt
    rcases List.mem_cons.1 hjt with rfl | hjt
    · exact first_waits inv ci hs ⟨i, hin, hun⟩ hj
    · exact tail_idle inv f0 fs (fun _ h => h) hc j hjt hj
  intro f
  induction f with
  | zero =>
    intro listed a w inv _ hr hy hS H
    refine ⟨fun h => (by rw [h] at hr; cases hr), fun j hj => ?_⟩
    by_cases hji : j = i
    · subst hji; exact hy.wpOp hi hS ⟨fun _ => hS, H⟩
    · have := ready_mono hj hji
      rw [H.1] at this
      cases this
  | succ f ih =>
    intro listed a w inv hfree hr hy hS H
    have hun := (mem_ready.1 hr).1
    refine ⟨fun h => (by rw [h] at hr; cases hr), fun j hj => ?_⟩
    have hjf := hno listed inv hun j hj
    by_cases hji : j = i
    · subst hji; exact hy.wpOp hi hS ⟨fun _ => hS, H⟩
    · have h1 := H.2 j (ready_mono hj hji)
      obtain ⟨hjun, oj, hoj, hall⟩ := mem_ready.1 hj
      have hnot : ∀ e ∈ oj.after, Region.binds md e = true → e.on ≠ i := fun e he hb heq => by
        have h1 := hall e he hb
        rw [heq, getD_both hun] at h1
        cases h1
      have h2 := wpOp_putIf hoj (hfree j oj hoj hji hjun hnot) (fun cs b => hsel i oi cs b hi) (fun cs b => hsel j oj cs b hoj) (fun c a w h => absurd h (hQ c _ w)) hy h1
      have hfree' : ∀ k ok, ops[k]? = some ok → k ≠ i → (listed.setIfInBounds j true).getD k true = false →
          (∀ e ∈ ok.after, Region.binds md e = true → e.on ≠ i) → oi.apart ops ok = true := fun k ok hk hki hun hno => by
        refine hfree k ok hk hki ?_ hno
        by_cases hjk : j = k
        · subst hjk; exact hjun
        · rw [getD_set_ne true hjk] at hun; exact hun
      refine wpOp_mono (fun a' w' h3 => ⟨h3.2.1, ih (listed.setIfInBounds j true) a' w' (inv.set hj hjf) hfree' (ready_mono hr (Ne.symm hji)) h3.1 (h3.2.1 hjf) ?_⟩) h2
      rw [Array.setIfInBounds_comm _ _ hji]
      exact h3.2.2

/-- Loads under S. -/
def wpS (P : Program) (ops : Array Oper) (S : World → Prop) (K : Act → Prop) : List Oper → Act → Prop
  | [], a => K a
  | o :: l, a => ∃ v, YieldsIf P ops S o v a ∧ wpS P ops S K l (a.put o.dst v)
theorem wpS_step {K : Act → Prop} {o : Oper} {l : List Oper} {a : Act} (h : ∀ K' : Act → Prop, (∀ a, wpS P ops S K l a → K' a) → Region.wanted o (yielded ops a.tmps) = true ∧ ∃ v, (∀ w, S w → (execOp a.eval o).run P w = .ok (.value v) w) ∧ K' (a.put o.dst v)) : wpS P ops S K (o :: l) a := by
  obtain ⟨hw, v, hv, hk⟩ := h (wpS P ops S K l) (fun _ h => h)
  exact ⟨v, .inl ⟨hw, hv⟩, hk⟩
theorem wpS_nil {K : Act → Prop} {a : Act} (h : K a) : wpS P ops S K [] a := h

/-- The post behind the one operation that keeps S. -/
def Mid (P : Program) (ops : Array Oper) (S : World → Prop) (Q : Exit → Act → World → Prop) (fin : List Oper) : Exit → Act → World → Prop
  | .normal, a, w => S w ∧ wpList P ops (NoPanic Q) fin a w
  | _, _, _ => False

theorem anyF_forced {fin : List Nat} : ∀ (l : List Nat) (listed : Array Bool) (a : Act) (w : World), (∀ i ∈ l, i ∈ fin) → forcedB md ops l listed = true → wpList P ops Q (opsAt ops l) a w → anyF P md ops Q S fin l.length listed a w
  | [], _, _, _, _, hB, h => ⟨by simpa [forcedB] using hB, h⟩
  | i :: l, listed, a, w, hin, hB, h => by
    simp only [forcedB, Bool.and_eq_true, decide_eq_true_eq] at hB
    have hi : i ∈ Region.ready md ops listed := by rw [hB.1]; simp
    obtain ⟨_, oi, hoi, _⟩ := mem_ready.1 hi
    refine ⟨fun h1 => (by rw [hB.1] at h1; cases h1), fun j hj => ?_⟩
    rw [hB.1] at hj
    have hji : j = i := by simpa using hj
    subst hji
    have hl : opsAt ops (j :: l) = oi :: opsAt ops l := by simp [opsAt, hoi]
    rw [hl] at h
    have hw : wpOp P ops Q j (wpList P ops Q (opsAt ops l)) a w := by unfold wpOp; simp only [hoi]; exact h
    exact wpOp_mono (fun a' w' h' => ⟨fun hn => absurd (hin j (by simp)) hn, anyF_forced l _ a' w' (fun x hx => hin x (by simp [hx])) hB.2 h'⟩) hw

def appB (md : Region.Mode) (ops : Array Oper) (wi ci : List Nat) (m0 f0 : Nat) (fs : List Nat) : Bool :=
  Region.noSelect ops && decide (wi.length + ci.length + 1 + (fs.length + 1) = ops.size) && sinkL md ops f0 (ci ++ [m0]) && chainL md ops (f0 :: fs) &&
  ((wi ++ ci ++ [m0]).all fun i => !(f0 :: fs).contains i) &&
  freeB md ops (freeB md ops (forcedB md ops (m0 :: f0 :: fs)) ci) wi (Array.replicate ops.size false)

theorem wpList_one {R : Exit → Act → World → Prop} {o : Oper} {a : Act} {w : World} (h : wpList P ops R [o] a w) (i : Nat) (ho : ops[i]? = some o) (hR : ∀ e a w, R e a w → e = .normal) :
    wpOp P ops Q i (R .normal) a w := by
  unfold wpOp
  simp only [ho]
  simp only [wpList] at h
  split
  · rename_i hw
    simp only [hw, if_true] at h
    rcases h with h | ⟨h1, a', w', h2⟩
    · refine .inl ?_
      unfold Oper.wp at *
      generalize (execOp a.eval o).run P w = r at *
      cases r with
      | ok n w' =>
        cases n <;> simp only [Oper.upon] at h ⊢
        case value v => exact h
        case skip => exact h
        case defer d => exact h
        case enter f args =>
          refine h.mono (fun e w'' he => ?_)
          cases e with
          | returned v => exact he
          | panicked c => exact absurd (hR _ _ _ he) (by simp)
          | outgrown => obtain ⟨a', w', hq⟩ := he; exact absurd (hR _ _ _ hq) (by simp)
        case row r args => exact h
      | halt x w' =>
        cases x <;> simp only [Oper.upon] at h ⊢
        all_goals first | exact h | exact absurd (hR _ _ _ h) (by simp)
    · exact absurd (hR _ _ _ h2) (by simp)
  · rename_i hw
    simp only [hw] at h
    exact h

theorem anyF_S {f0 m0 : Nat} {fs : List Nat} (hsel : Region.noSelect ops = true) (hQ : ∀ c a w, ¬ Q (.panic c) a w) (ci : List Nat) (hs : sinkL md ops f0 (ci ++ [m0]) = true) (hc : chainL md ops (f0 :: fs) = true)
    (hit : ∀ i ∈ ci ++ [m0], i ∉ f0 :: fs) {w : World} (hS : S w) {R : Exit → Act → World → Prop} (hR : R = fun e a w => match e with | .normal => S w ∧ wpList P ops Q (opsAt ops (f0 :: fs)) a w | _ => False) :
    ∀ (l : List Nat) (listed : Array Bool) (a : Act), (∀ i ∈ l, i ∈ ci) → Inv md ops (f0 :: fs) listed → freeB md ops (forcedB md ops (m0 :: f0 :: fs)) l listed = true →
      wpS P ops S (fun a' => wpList P ops R (opsAt ops [m0]) a' w) (opsAt ops l) a → anyF P md ops Q S (f0 :: fs) (l.length + (1 + (fs.length + 1))) listed a w
  | [], listed, a, _, inv, hB, h => by
    simp only [freeB, forcedB, Bool.and_eq_true, decide_eq_true_eq] at hB
    have hi : m0 ∈ Region.ready md ops listed := by rw [hB.1]; simp
    obtain ⟨_, om, hom, _⟩ := mem_ready.1 hi
    have hl : opsAt ops [m0] = [om] := by simp [opsAt, hom]
    rw [show ([] : List Nat).length + (1 + (fs.length + 1)) = (fs.length + 1) + 1 by simp; omega]
    refine ⟨fun h1 => (by rw [hB.1] at h1; cases h1), fun j hj => ?_⟩
    rw [hB.1] at hj
    have hji : j = m0 := by simpa using hj
    subst hji
    have h' : wpList P ops R [om] a w := by simpa [opsAt, wpS, hom] using h
    have := wpList_one (Q := Q) h' j hom (fun e a w he => by subst hR; cases e <;> first | rfl | exact he.elim)
    refine wpOp_mono (fun a' w' h' => ?_) this
    subst hR
    have hf : forcedB md ops (f0 :: fs) (listed.setIfInBounds j true) = true := by
      simp only [forcedB, Bool.and_eq_true, decide_eq_true_eq]; exact hB.2
    exact ⟨fun _ => h'.1, anyF_forced (f0 :: fs) _ a' w' (fun _ h => h) hf h'.2⟩
  | i :: l, listed, a, hl, inv, hB, h => by
    simp only [freeB, Bool.and_eq_true] at hB
    obtain ⟨⟨hr, hf⟩, hB'⟩ := hB
    have hr' : i ∈ Region.ready md ops listed := by simpa using hr
    obtain ⟨_, oi, hoi, _⟩ := mem_ready.1 hr'
    have ho : opsAt ops (i :: l) = oi :: opsAt ops l := by simp [opsAt, hoi]
    rw [ho] at h
    obtain ⟨v, hy, h'⟩ := h
    have hic : i ∈ ci ++ [m0] := by simp [hl i (by simp)]
    have := anyF_S hsel hQ ci hs hc hit hS hR l _ _ (fun j hj => hl j (by simp [hj])) (inv.set hr' (hit i hic)) hB' h'
    rw [show (i :: l).length + (1 + (fs.length + 1)) = (l.length + (1 + (fs.length + 1))) + 1 by simp; omega]
    exact anyF_first hoi (Region.noSelect_spec hsel) hQ (ci ++ [m0]) hs hc hic _ listed a w inv (Region.free_spec hoi hf) hr' hy hS this

theorem wp_region_app {id : Nat} {a : Act} {w : World} {l : List Oper} (wi ci : List Nat) (m0 f0 : Nat) (fs : List Nat) (hm : P.follows .mixedOrders = true) (hB : appB .any l.toArray wi ci m0 f0 fs = true)
    (S : World → Prop) (hS : S w.drew)
    (h : wpW P l.toArray (wpS P l.toArray S (fun a' => wpList P l.toArray (Mid P l.toArray S Q (opsAt l.toArray (f0 :: fs))) (opsAt l.toArray [m0]) a' w.drew) (opsAt l.toArray ci)) (opsAt l.toArray wi) a) :
    (Code.region id l.toArray true).wp P Q a w := by
  refine wp_region_noPanic (wp_region_any hm ?_)
  simp only [appB, Bool.and_eq_true, decide_eq_true_eq] at hB
  obtain ⟨⟨⟨⟨⟨hsel, hsz⟩, hs⟩, hc⟩, hd⟩, hf⟩ := hB
  have hit : ∀ i ∈ wi ++ ci ++ [m0], i ∉ f0 :: fs := fun i hi => by
    have := List.all_eq_true.1 hd i hi
    simpa using this
  have inv0 : Inv .any l.toArray (f0 :: fs) (Array.replicate l.toArray.size false) :=
    ⟨fun j oj _ hl => (by rw [getD_replicate_false] at hl; cases hl), fun t _ ht => getD_in (by simpa using ht) (getD_replicate_false _ _), by simp⟩
  have := any_of_W (P := P) (md := .any) (Q := NoPanic Q) (g := ci.length + (1 + (fs.length + 1))) (w := w.drew) hsel (fun c a w h => h) (f0 :: fs)
    (fun listed a' hG inv hq => any_of_anyF _ _ _ _ (anyF_S (m0 := m0) hsel (fun c a w h => h) ci hs hc (fun i hi => hit i (by rw [List.append_assoc]; exact List.mem_append_right _ hi)) hS rfl ci listed a' (fun _ h => h) inv hG (by
      have e : (Mid P l.toArray S Q (opsAt l.toArray (f0 :: fs))) = (fun e a w => match e with | .normal => S w ∧ wpList P l.toArray (NoPanic Q) (opsAt l.toArray (f0 :: fs)) a w | _ => False) := by
        funext e a w; cases e <;> rfl
      rw [← e]; exact hq)))
    wi _ a (fun i hi => hit i (by simp [hi])) inv0 hf h
  rw [show wi.length + (ci.length + (1 + (fs.length + 1))) = l.toArray.size by omega] at this
  exact this
end
end Go.Proofs.YtfdgifcllelhiaaGreatDoor
/- solid.body: add. -/
namespace Go.Proofs.YtfdgifcllelhiaaGreatDoor
open Go.RowKit Go.Shelf
attribute [local go_sem] Ext.cell Ext.frozen

/-- Where a point lies at a plane. -/
def sd (p c : Q4) : Int := sideP p.1 p.2.1 p.2.2.1 p.2.2.2 c.1 c.2.1 c.2.2.1 c.2.2.2
theorem side_q (p c : Q4) (w : World) (hp : okPl p) (hc : okCo c) : Calls Tryz.prog 202 #[v4 p, v4 c] w (Ret w (.int .i64 (sd p c))) :=
  side_any _ _ _ _ _ _ _ _ w hp.1 hp.2.1 hp.2.2.1 hp.2.2.2 hc.1 hc.2.1 hc.2.2.1 (by have := hc.2.2.2; omega)

set_option maxHeartbeats 1000000 in
theorem add_closure (p c : Q4) (b : Nat) (w : World) (hp : okPl p) (hc : okCo c) (h0 : w.cell? ⟨b, 0, none⟩ = some (.int .i64 c.1)) (h1 : w.cell? ⟨b, 1, none⟩ = some (.int .i64 c.2.1)) (h2 : w.cell? ⟨b, 2, none⟩ = some (.int .i64 c.2.2.1)) (h3 : w.cell? ⟨b, 3, none⟩ = some (.int .i64 c.2.2.2)) :
    Calls Tryz.prog 243 #[v4 p, .pointer (some ⟨b, 0, none⟩)] w (Ret w (.bool (decide (0 < sd p c)))) := by
  have hs := fun W => Lib.hid (side_q p c W hp hc)
  have hlt := World.block_lt_of_cell? w _ h0
  go_enter Tryz.func243, Tryz.ntmps243
  go_wp2_with fail
  refine ((hs _).out).mono ?_
  rintro e w1 ⟨rfl, hb1⟩
  go_wp2
  go_ret
  exact ⟨rfl, below_trans (by (repeat (first | exact Below.refl _ _ | assumption | (refine below_trans ?_ (Ext.below _)) | (refine Below.trans ?_ ((Ext.below _).mono (by first | omega | (simp; omega)))) | (refine Below.alloc ?_ (by first | omega | (simp; done) | (simp; omega)) _) | (refine Below.setCell ?_ (by first | omega | (simp; done) | (simp; omega)) _) | (refine Below.drew ?_)))) hb1⟩

theorem eg_add1 : ∀ args w, (callFunc 243 args).run Tryz.prog w = .ok (.enter 243 args) w := enters_of Tryz.func243 (by kernel_rfl) rfl

theorem add_pred (p c : Q4) (b : Nat) (w : World) (hp : okPl p) (hc : okCo c) (h0 : w.cell? ⟨b, 0, none⟩ = some (.int .i64 c.1)) (h1 : w.cell? ⟨b, 1, none⟩ = some (.int .i64 c.2.1)) (h2 : w.cell? ⟨b, 2, none⟩ = some (.int .i64 c.2.2.1)) (h3 : w.cell? ⟨b, 3, none⟩ = some (.int .i64 c.2.2.2)) :
    PredIn Tryz.prog 243 #[.pointer (some ⟨b, 0, none⟩)] w (v4 p) (decide (0 < sd p c)) :=
  fun _ hb => add_closure p c b _ hp hc (below_cell hb h0) (below_cell hb h1) (below_cell hb h2) (below_cell hb h3)

theorem own_below {w w1 : World} {base : Nat} {e : TypeId} {size n : Nat} {v : Value} {xs : List Value} (h : w.ownsRow base e size v n xs) (hb : Below w.heap.size w w1) : w1.ownsRow base e size v n xs := by
  refine ⟨h.1, ?_⟩
  rcases h.2 with h | ⟨g, cap, cur, hv, hg, hh, r⟩
  · exact .inl h
  · exact .inr ⟨g, cap, cur, hv, hg, (hb.block g (Array.getElem?_eq_some_iff.1 hh).1).trans hh, r⟩

theorem info_corner : (Tryz.prog.info? 203).map (fun i => (i.zero, i.size, i.bytes)) = some (some (v4 (0, 0, 0, 0)), 4, 32) := by kernel_rfl
theorem und_corners : Tryz.prog.underlying 189 = some (.slice 203) := by kernel_rfl

theorem own_form {w : World} {base : Nat} {e : TypeId} {size n : Nat} {v : Value} {xs : List Value} (h : w.ownsRow base e size v n xs) (hn : 0 < n) : ∃ g cap, v = .slice (some ⟨g, 0, none⟩) n cap ∧ base ≤ g ∧ g < w.heap.size := by
  rcases h.2 with ⟨rfl, h0⟩ | ⟨g, cap, cur, rfl, hb, hh, _⟩
  · omega
  · exact ⟨g, cap, rfl, hb, (Array.getElem?_eq_some_iff.1 hh).1⟩
theorem add0 (b j : Nat) : (⟨b, 0, none⟩ : Addr).add j = ⟨b, j, none⟩ := by
  unfold Addr.add
  by_cases h : j = 0 <;> simp [h]
theorem own_setCell_far {w : World} {base : Nat} {e : TypeId} {size n : Nat} {v : Value} {xs : List Value} (h : w.ownsRow base e size v n xs) (p : Addr) (u : Value) (hp : some p.block ≠ v.ownBlock) : (w.setCell p u).ownsRow base e size v n xs := by
  refine ⟨h.1, ?_⟩
  rcases h.2 with h | ⟨g, cap, cur, rfl, hb, hh, r⟩
  · exact .inl h
  · exact .inr ⟨g, cap, cur, rfl, hb, (Below.heap_setCell w p u g (by rintro rfl; exact hp rfl)).trans hh, r⟩
theorem own_blk_ne {w : World} {g : Nat} {t : TypeId} {cs : Array Value} {base : Nat} {e : TypeId} {size n : Nat} {v : Value} {xs : List Value} (h : w.ownsRow base e size v n xs) (hg : w.heap[g]? = some (.cells cs t (0, 0))) (hne : e ≠ t) : v.ownBlock ≠ some g := by
  rcases h.2 with ⟨rfl, _⟩ | ⟨g', cap, cur, rfl, _, hh, _⟩
  · simp [Value.ownBlock]
  · intro he
    have : g' = g := by simpa [Value.ownBlock] using he
    subst this
    rw [hg] at hh
    injection hh with hh
    injection hh with _ ht
    exact hne ht.symm

/-- No plane has the point beyond. -/
def allowedB (ps : List Q4) (c : Q4) : Bool := !(ps.any fun p => decide (0 < sd p c))

/-- All but block bb and one row is as it was. -/
structure Kept2 (w w' : World) (bb : Nat) (row : Option Nat) : Prop where
  os : w'.os = w.os
  tape : w'.tape = w.tape
  output : w'.output = w.output
  size : w.heap.size ≤ w'.heap.size
  block : ∀ k, k < w.heap.size → k ≠ bb → some k ≠ row → w'.heap[k]? = w.heap[k]?
theorem Kept2.of_below {w w' : World} {bb : Nat} {row : Option Nat} (h : Below w.heap.size w w') : Kept2 w w' bb row := ⟨h.os, h.tape, h.output, h.size, fun k hk _ _ => h.block k hk⟩
theorem Kept2.set {w w' : World} {bb : Nat} {row : Option Nat} (h : Kept2 w w' bb row) (i : Nat) (u : Value) : Kept2 w (w'.setCell ⟨bb, i, none⟩ u) bb row :=
  ⟨h.os, h.tape, h.output, by simpa [World.setCell] using h.size, fun k hk h1 h2 => (Below.heap_setCell _ _ _ _ h1).trans (h.block k hk h1 h2)⟩
theorem Kept2.below {w w' : World} {bb : Nat} {row : Option Nat} {B : Nat} (h : Kept2 w w' bb row) (hB : B ≤ w.heap.size) (h1 : B ≤ bb) (h2 : ∀ k, row = some k → B ≤ k) : Below B w w' :=
  ⟨h.os, h.tape, h.output, h.size, fun k hk => h.block k (by omega) (by omega) (fun e => by have := h2 k e.symm; omega)⟩

set_option maxHeartbeats 1000000 in
theorem add_yes (ps : List Q4) (c : Q4) (pv cv : Value) (bb n base : Nat) (cells : List Value) (w : World) (hps : ∀ p ∈ ps, okPl p) (hc : okCo c) (hl : ps.length ≤ 1000000) (hn : n ≤ 1000000)
    (hB : w.heap[bb]? = some (.cells #[pv, cv] 191 (0, 0))) (hpv : Q4s w pv ps) (hown : w.ownsRow base 203 4 cv n cells) (hbs : base ≤ w.heap.size) (ha : allowedB ps c = true) :
    Calls Tryz.prog 225 #[.pointer (some ⟨bb, 0, none⟩), v4 c] w fun e w' => e = .returned (.tuple #[]) ∧ Kept2 w w' bb cv.ownBlock ∧
      ∃ cv', w'.heap[bb]? = some (.cells #[pv, cv'] 191 (0, 0)) ∧ w'.ownsRow base 203 4 cv' (n + 1) (cells ++ [.int .i64 c.1, .int .i64 c.2.1, .int .i64 c.2.2.1, .int .i64 c.2.2.2]) := by
  have hany : (ps.any fun p => decide (0 < sd p c)) = false := by simpa [allowedB] using ha
  have hlt : bb < w.heap.size := (Array.getElem?_eq_some_iff.1 hB).1
  have k0 : w.cell? ⟨bb, 0, none⟩ = some pv := cell_of_row w bb 0 _ _ _ hB
  have k1 : w.cell? ⟨bb, 1, none⟩ = some cv := cell_of_row w bb 1 _ _ _ hB
  obtain ⟨W, HW⟩ : ∃ W, Hid (W = w.alloc (.cells #[.int .i64 c.1, .int .i64 c.2.1, .int .i64 c.2.2.1, .int .i64 c.2.2.2] 203)) := ⟨_, Lib.hid rfl⟩
  have hbW : Below w.heap.size w W := by rw [HW.out]; (repeat (first | exact Below.refl _ _ | assumption | (refine below_trans ?_ (Ext.below _)) | (refine Below.trans ?_ ((Ext.below _).mono (by first | omega | (simp; omega)))) | (refine Below.alloc ?_ (by first | omega | (simp; done) | (simp; omega)) _) | (refine Below.setCell ?_ (by first | omega | (simp; done) | (simp; omega)) _) | (refine Below.drew ?_)))
  have m0 : W.cell? ⟨w.heap.size, 0, none⟩ = some (.int .i64 c.1) := by rw [HW.out]; exact cell_new rfl 0
  have m1 : W.cell? ⟨w.heap.size, 1, none⟩ = some (.int .i64 c.2.1) := by rw [HW.out]; exact cell_new rfl 1
  have m2 : W.cell? ⟨w.heap.size, 2, none⟩ = some (.int .i64 c.2.2.1) := by rw [HW.out]; exact cell_new rfl 2
  have m3 : W.cell? ⟨w.heap.size, 3, none⟩ = some (.int .i64 c.2.2.2) := by rw [HW.out]; exact cell_new rfl 3
  have hcon := containsFunc_plane pv ps (fun p => decide (0 < sd p c)) _ _ W (hpv.below hbW) (by omega) eg_add1 (fun p hp => add_pred p c w.heap.size W (hps p hp) hc m0 m1 m2 m3)
  rw [hany, HW.out] at hcon
  have Hcon := Lib.hid hcon
  clear hcon
  go_enter Tryz.func225, Tryz.ntmps225
  go_wp2_with fail
  refine (Hcon.out).mono ?_
  rintro e w1 ⟨rfl, hb1⟩
  go_wp2
  have hw1 : Below w.heap.size w w1 := below_trans (by (repeat (first | exact Below.refl _ _ | assumption | (refine below_trans ?_ (Ext.below _)) | (refine Below.trans ?_ ((Ext.below _).mono (by first | omega | (simp; omega)))) | (refine Below.alloc ?_ (by first | omega | (simp; done) | (simp; omega)) _) | (refine Below.setCell ?_ (by first | omega | (simp; done) | (simp; omega)) _) | (refine Below.drew ?_)))) hb1
  have q1 : w1.cell? ⟨bb, 1, none⟩ = some cv := below_cell hw1 k1
  have m0' : w1.cell? ⟨w.heap.size, 0, none⟩ = some (.int .i64 c.1) := below_cell hb1 (cell_new rfl 0)
  have m1' : w1.cell? ⟨w.heap.size, 1, none⟩ = some (.int .i64 c.2.1) := below_cell hb1 (cell_new rfl 1)
  have m2' : w1.cell? ⟨w.heap.size, 2, none⟩ = some (.int .i64 c.2.2.1) := below_cell hb1 (cell_new rfl 2)
  have m3' : w1.cell? ⟨w.heap.size, 3, none⟩ = some (.int .i64 c.2.2.2) := below_cell hb1 (cell_new rfl 3)
  have z0 : w.heap.size < w1.heap.size := by have := hb1.size; simp at this; omega
  have z1 : bb < w1.heap.size := by omega
  have hB' : w1.heap[bb]? = some (.cells #[pv, cv] 191 (0, 0)) := (hw1.block bb hlt).trans hB
  have hown1 : w1.ownsRow base 203 4 cv n cells := own_below hown hw1
  clear hb1 m0 m1 m2 m3 hbW HW Hcon k0 k1 hB hpv hown
  refine wp_region_app [0, 1, 2, 3] [4, 5] 6 7 [8, 9, 10] (by kernel_rfl) (by kernel_rfl) (fun w' => ∃ u : Ext _, w' = u.val) ⟨Ext.drew, rfl⟩ ?_
  simp only [opsAt, List.filterMap_cons, List.filterMap_nil, List.getElem?_toArray, List.getElem?_cons_zero, List.getElem?_cons_succ]
  repeat (refine wpW_step (fun K' hK' => ?_); go_simp; refine hK' _ ?_; clear hK' K')
  refine wpW_nil ?_
  repeat (refine wpS_step (fun K' hK' => ?_); go_simp; refine hK' _ ?_; clear hK' K')
  refine wpS_nil ?_
  refine wpList_step (fun K hK => ?_)
  go_simp
  refine hK _ _ ?_
  clear hK K
  refine ⟨⟨⟨_, by (repeat (first | exact Below.refl _ _ | assumption | (refine below_trans ?_ (Ext.below _)) | (refine Below.trans ?_ ((Ext.below _).mono (by first | omega | (simp; omega)))) | (refine Below.alloc ?_ (by first | omega | (simp; done) | (simp; omega)) _) | (refine Below.setCell ?_ (by first | omega | (simp; done) | (simp; omega)) _) | (refine Below.drew ?_)))⟩, rfl⟩, ?_⟩
  obtain ⟨i0, hi, hz0, hz1, hz2⟩ := info_parts info_corner
  refine wpList_append_own _ rfl _ _ 189 rfl base 203 i0 (v4 (0, 0, 0, 0)) 4 32 und_corners hi hz0 hz1 hz2 rfl (by decide) cv n cells rfl ((hown1.alloc _).drew) ⟨w1.heap.size, 0, none⟩ 1 1 [.int .i64 c.1, .int .i64 c.2.1, .int .i64 c.2.2.1, .int .i64 c.2.2.2] rfl rfl ?c1 ?c2 ?c3 ?c4 ?c5 ?_
  case c1 =>
    intro j u hu
    have : (w1.alloc (.cells #[.int .i64 c.1, .int .i64 c.2.1, .int .i64 c.2.2.1, .int .i64 c.2.2.2] 203)).cell? ⟨w1.heap.size, j, none⟩ = some u := by rw [cell_new rfl j]; simpa using hu
    rw [add0]; exact this
  case c2 => intro u hu; simp at hu; rcases hu with rfl | rfl | rfl | rfl <;> rfl
  case c3 => unfold maxLen; omega
  case c4 => omega
  case c5 => simp; omega
  intro v' w2 hown2 hg2 _
  have hne : some bb ≠ cv.ownBlock := fun e => own_blk_ne hown1 hB' (by decide) e.symm
  have hBk : w2.heap[bb]? = some (.cells #[pv, cv] 191 (0, 0)) := (hg2.block bb (by simp; omega) hne).trans ((Below.heap_alloc w1 _ bb z1).trans hB')
  have k1 : w2.cell? ⟨bb, 1, none⟩ = some cv := cell_of_row w2 bb 1 _ _ _ hBk
  have kf : w2.frozen? ⟨bb, 1, none⟩ = false := by simp [World.frozen?, hBk]
  have hbw2 : Kept2 w w2 bb cv.ownBlock := by
    refine ⟨hg2.os.trans hw1.os, hg2.tape.trans hw1.tape, hg2.output.trans hw1.output, ?_, fun k hk h1 h2 => ?_⟩
    · have := hg2.size; simp at this; omega
    · exact (hg2.block k (by simp; omega) h2).trans ((Below.heap_alloc w1 _ k (by omega)).trans (hw1.block k hk))
  clear hg2 hown1 q1 m0' m1' m2' m3' hB' hi hz0 hz1 hz2
  obtain ⟨g, cap, rfl, hg, hglt⟩ := own_form hown2 (by omega)
  have hbg : g ≠ bb := fun e => own_blk_ne hown2 hBk (by decide) (by rw [e]; rfl)
  have Hown2 := Lib.hid hown2
  clear hown2
  go_frame
  iterate 3 (refine wpList_step (fun K hK => ?_); go_simp; refine hK _ _ ?_; clear hK K)
  refine NoPanic.normal ?_
  go_wp2
  go_end0
  refine ⟨rfl, hbw2.set _ _, _, ?_, own_setCell_far Hown2.out _ _ (fun e => hbg (by simpa [Value.ownBlock] using e.symm))⟩
  simp [World.setCell, Array.getElem?_modify, hBk]

set_option maxHeartbeats 1000000 in
theorem add_no (ps : List Q4) (c : Q4) (pv cv : Value) (bb : Nat) (w : World) (hps : ∀ p ∈ ps, okPl p) (hc : okCo c) (hl : ps.length ≤ 1000000)
    (hB : w.heap[bb]? = some (.cells #[pv, cv] 191 (0, 0))) (hpv : Q4s w pv ps) (ha : allowedB ps c = false) :
    Calls Tryz.prog 225 #[.pointer (some ⟨bb, 0, none⟩), v4 c] w fun e w' => e = .returned (.tuple #[]) ∧ Below w.heap.size w w' := by
  have hany : (ps.any fun p => decide (0 < sd p c)) = true := by simpa [allowedB] using ha
  have hlt : bb < w.heap.size := (Array.getElem?_eq_some_iff.1 hB).1
  have k0 : w.cell? ⟨bb, 0, none⟩ = some pv := cell_of_row w bb 0 _ _ _ hB
  obtain ⟨W, HW⟩ : ∃ W, Hid (W = w.alloc (.cells #[.int .i64 c.1, .int .i64 c.2.1, .int .i64 c.2.2.1, .int .i64 c.2.2.2] 203)) := ⟨_, Lib.hid rfl⟩
  have hbW : Below w.heap.size w W := by rw [HW.out]; (repeat (first | exact Below.refl _ _ | assumption | (refine below_trans ?_ (Ext.below _)) | (refine Below.trans ?_ ((Ext.below _).mono (by first | omega | (simp; omega)))) | (refine Below.alloc ?_ (by first | omega | (simp; done) | (simp; omega)) _) | (refine Below.setCell ?_ (by first | omega | (simp; done) | (simp; omega)) _) | (refine Below.drew ?_)))
  have m0 : W.cell? ⟨w.heap.size, 0, none⟩ = some (.int .i64 c.1) := by rw [HW.out]; exact cell_new rfl 0
  have m1 : W.cell? ⟨w.heap.size, 1, none⟩ = some (.int .i64 c.2.1) := by rw [HW.out]; exact cell_new rfl 1
  have m2 : W.cell? ⟨w.heap.size, 2, none⟩ = some (.int .i64 c.2.2.1) := by rw [HW.out]; exact cell_new rfl 2
  have m3 : W.cell? ⟨w.heap.size, 3, none⟩ = some (.int .i64 c.2.2.2) := by rw [HW.out]; exact cell_new rfl 3
  have hcon := containsFunc_plane pv ps (fun p => decide (0 < sd p c)) _ _ W (hpv.below hbW) (by omega) eg_add1 (fun p hp => add_pred p c w.heap.size W (hps p hp) hc m0 m1 m2 m3)
  rw [hany, HW.out] at hcon
  have Hcon := Lib.hid hcon
  clear hcon
  go_enter Tryz.func225, Tryz.ntmps225
  go_wp2_with fail
  refine (Hcon.out).mono ?_
  rintro e w1 ⟨rfl, hb1⟩
  go_wp2
  go_end0
  exact ⟨rfl, below_trans (by (repeat (first | exact Below.refl _ _ | assumption | (refine below_trans ?_ (Ext.below _)) | (refine Below.trans ?_ ((Ext.below _).mono (by first | omega | (simp; omega)))) | (refine Below.alloc ?_ (by first | omega | (simp; done) | (simp; omega)) _) | (refine Below.setCell ?_ (by first | omega | (simp; done) | (simp; omega)) _) | (refine Below.drew ?_)))) hb1⟩
end Go.Proofs.YtfdgifcllelhiaaGreatDoor
