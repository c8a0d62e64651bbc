/- NamesLaw: texts of mine, merged: Srt2, Srt3, Float, Cmp, Cmp2. -/
import Derived.Test.YtfdgifcllelhiaaGreatDoorNamesLawM4
import Derived.Test.YtfdgifcllelhiaaGreatDoorNamesLawM3
import Derived.Lib.SlicesCompact
import Derived.Lib.SliceRun
/- The order of points in lowest form, and of planes; the sort's contract over them. -/
namespace Go.Proofs.YtfdgifcllelhiaaGreatDoor
open Go.RowKit Go.Shelf Go.Sort Go.Lib

theorem sgn_neg_iff (a b : Int) : sgn a b < 0 ↔ a < b := by unfold sgn; split <;> (try split) <;> omega
theorem sgn_zero_iff (a b : Int) : sgn a b = 0 ↔ a = b := by unfold sgn; split <;> (try split) <;> omega
theorem sgn_pos_iff (a b : Int) : 0 < sgn a b ↔ b < a := by unfold sgn; split <;> (try split) <;> omega
theorem orL3_neg (a b c : Int) : orL [a, b, c] < 0 ↔ a < 0 ∨ (a = 0 ∧ (b < 0 ∨ (b = 0 ∧ c < 0))) := by
  simp only [orL]; split <;> (try split) <;> (try split) <;> omega
theorem orL4_neg (a b c d : Int) : orL [a, b, c, d] < 0 ↔ a < 0 ∨ (a = 0 ∧ (b < 0 ∨ (b = 0 ∧ (c < 0 ∨ (c = 0 ∧ d < 0))))) := by
  simp only [orL]; split <;> (try split) <;> (try split) <;> (try split) <;> omega

theorem comb_sign {a b c p q r : Int} (hp : 0 < p) (hq : 0 < q) (hr : 0 < r) (h : c * q = a * r + b * p) :
    (a < 0 → b ≤ 0 → c < 0) ∧ (a ≤ 0 → b < 0 → c < 0) ∧ (a = 0 → b = 0 → c = 0) ∧ (0 < a → 0 ≤ b → 0 < c) ∧ (0 ≤ a → 0 < b → 0 < c) := by
  have ha : ∀ x : Int, x < 0 → x * r < 0 := fun x hx => Int.mul_neg_of_neg_of_pos hx hr
  have hb : ∀ x : Int, x < 0 → x * p < 0 := fun x hx => Int.mul_neg_of_neg_of_pos hx hp
  have ha' : ∀ x : Int, 0 < x → 0 < x * r := fun x hx => Int.mul_pos hx hr
  have hb' : ∀ x : Int, 0 < x → 0 < x * p := fun x hx => Int.mul_pos hx hp
  have la : ∀ x : Int, x ≤ 0 → x * r ≤ 0 := fun x hx => Int.mul_nonpos_of_nonpos_of_nonneg hx (Int.le_of_lt hr)
  have lb : ∀ x : Int, x ≤ 0 → x * p ≤ 0 := fun x hx => Int.mul_nonpos_of_nonpos_of_nonneg hx (Int.le_of_lt hp)
  have ga : ∀ x : Int, 0 ≤ x → 0 ≤ x * r := fun x hx => Int.mul_nonneg hx (Int.le_of_lt hr)
  have gb : ∀ x : Int, 0 ≤ x → 0 ≤ x * p := fun x hx => Int.mul_nonneg hx (Int.le_of_lt hp)
  have neg : c * q < 0 → c < 0 := fun h => by
    rcases Int.lt_or_le c 0 with h' | h'
    · exact h'
    · have := Int.mul_nonneg h' (Int.le_of_lt hq); omega
  have pos : 0 < c * q → 0 < c := fun h => by
    rcases Int.lt_or_le 0 c with h' | h'
    · exact h'
    · have := Int.mul_nonpos_of_nonpos_of_nonneg h' (Int.le_of_lt hq); omega
  refine ⟨fun h1 h2 => neg ?_, fun h1 h2 => neg ?_, fun h1 h2 => ?_, fun h1 h2 => pos ?_, fun h1 h2 => pos ?_⟩
  · have := ha a h1; have := lb b h2; omega
  · have := la a h1; have := hb b h2; omega
  · subst h1 h2
    have : c * q = 0 := by simpa using h
    rcases Int.mul_eq_zero.1 this with h | h <;> omega
  · have := ha' a h1; have := gb b h2; omega
  · have := ga a h1; have := hb' b h2; omega

/-- The difference of a coordinate. -/
def dif (a p b q : Int) : Int := a * q - b * p
theorem dif_comb (a p b q c r : Int) : dif a p c r * q = dif a p b q * r + dif b q c r * p := by
  unfold dif
  simp only [Int.sub_mul]
  rw [Int.mul_right_comm a r q, Int.mul_right_comm b p r, Int.mul_right_comm c p q, Int.mul_right_comm b r p, Int.mul_right_comm c q p]
  have e1 : c * p * q = c * q * p := Int.mul_right_comm c p q
  have e2 : b * p * r = b * r * p := Int.mul_right_comm b p r
  omega

theorem cmpPt_neg (x y : Q4) : cmpPt x y < 0 ↔ dif x.1 x.2.2.2 y.1 y.2.2.2 < 0 ∨ (dif x.1 x.2.2.2 y.1 y.2.2.2 = 0 ∧ (dif x.2.1 x.2.2.2 y.2.1 y.2.2.2 < 0 ∨ (dif x.2.1 x.2.2.2 y.2.1 y.2.2.2 = 0 ∧ dif x.2.2.1 x.2.2.2 y.2.2.1 y.2.2.2 < 0))) := by
  unfold cmpPt
  rw [orL3_neg, sgn_neg_iff, sgn_zero_iff, sgn_neg_iff, sgn_zero_iff, sgn_neg_iff]
  unfold dif
  omega
theorem dif_anti (a p b q : Int) : dif b q a p = - dif a p b q := by unfold dif; omega

theorem dvd_gcdF (k : Nat) : ∀ (xs : List Int) (g : Nat), k ∣ g → (∀ x ∈ xs, k ∣ x.natAbs) → k ∣ xs.foldl (fun g n => Nat.gcd g n.natAbs) g
  | [], _, hg, _ => hg
  | x :: xs, g, hg, h => dvd_gcdF k xs _ (Nat.dvd_gcd hg (h x (by simp))) (fun y hy => h y (by simp [hy]))
theorem dvd_gcdL (k : Nat) (xs : List Int) (h : ∀ x ∈ xs, (k : Int) ∣ x) : k ∣ gcdL xs :=
  dvd_gcdF k xs 0 (Nat.dvd_zero _) (fun x hx => Int.ofNat_dvd_left.1 (h x hx))

/-- In lowest form, with a positive denominator. -/
def nrmCo (c : Q4) : Prop := okCo c ∧ gcdL [c.1, c.2.1, c.2.2.1, c.2.2.2] = 1

theorem nrm_eq (x y : Q4) (hx : nrmCo x) (hy : nrmCo y) (h1 : x.1 * y.2.2.2 = y.1 * x.2.2.2) (h2 : x.2.1 * y.2.2.2 = y.2.1 * x.2.2.2) (h3 : x.2.2.1 * y.2.2.2 = y.2.2.1 * x.2.2.2) : x = y := by
  obtain ⟨a, b, c, q⟩ := x
  obtain ⟨a', b', c', q'⟩ := y
  simp only at h1 h2 h3
  have hq : 0 < q := by have := hx.1.2.2.2.1; simp only at this; omega
  have hq' : 0 < q' := by have := hy.1.2.2.2.1; simp only at this; omega
  -- q divides q'
  have key : ∀ (a b c q a' b' c' q' : Int), 0 < q → 0 < q' → gcdL [a, b, c, q] = 1 → a * q' = a' * q → b * q' = b' * q → c * q' = c' * q → q ∣ q' := by
    intro a b c q a' b' c' q' hq hq' hg e1 e2 e3
    -- gcd (a q') (b q') (c q') (q q') = q'
    have hd : (q.natAbs) ∣ gcdL [a * q', b * q', c * q', q * q'] := dvd_gcdL _ _ (fun x hx => by
      have hn : ((q.natAbs : Nat) : Int) = q := by omega
      rw [hn]
      simp at hx
      rcases hx with rfl | rfl | rfl | rfl
      · exact ⟨a', by rw [e1, Int.mul_comm]⟩
      · exact ⟨b', by rw [e2, Int.mul_comm]⟩
      · exact ⟨c', by rw [e3, Int.mul_comm]⟩
      · exact ⟨q', rfl⟩)
    have hm : ∀ (xs : List Int) (g : Nat), (xs.map (· * q')).foldl (fun g n => Nat.gcd g n.natAbs) (g * q'.natAbs) = xs.foldl (fun g n => Nat.gcd g n.natAbs) g * q'.natAbs := by
      intro xs
      induction xs with
      | nil => intro g; rfl
      | cons x xs ih =>
        intro g
        simp only [List.map_cons, List.foldl_cons]
        rw [Int.natAbs_mul, Nat.gcd_mul_right]
        exact ih _
    have he : gcdL [a * q', b * q', c * q', q * q'] = gcdL [a, b, c, q] * q'.natAbs := by
      have := hm [a, b, c, q] 0
      simpa [gcdL] using this
    rw [he, hg, Nat.one_mul] at hd
    have := Int.ofNat_dvd.2 hd
    rwa [show ((q.natAbs : Nat) : Int) = q by omega, show ((q'.natAbs : Nat) : Int) = q' by omega] at this
  have d1 := key a b c q a' b' c' q' hq hq' hx.2 h1 h2 h3
  have d2 := key a' b' c' q' a b c q hq' hq hy.2 h1.symm h2.symm h3.symm
  have hqq : q = q' := Int.dvd_antisymm (Int.le_of_lt hq) (Int.le_of_lt hq') d1 d2
  subst hqq
  have c1 := Int.eq_of_mul_eq_mul_right (by omega) h1
  have c2 := Int.eq_of_mul_eq_mul_right (by omega) h2
  have c3 := Int.eq_of_mul_eq_mul_right (by omega) h3
  subst c1 c2 c3
  rfl

abbrev NCo := { c : Q4 // nrmCo c }
instance : Inhabited NCo := ⟨⟨(0, 0, 0, 1), ⟨by unfold okCo; decide, by decide⟩⟩⟩
def cfPt (x y : NCo) : Int := cmpPt x.1 y.1
theorem ltPt (x y : NCo) : ltOf cfPt x y = decide (cmpPt x.1 y.1 < 0) := rfl
theorem qpos (x : NCo) : 0 < x.1.2.2.2 := by have := x.2.1.2.2.2.1; omega

/-- Signs of a sum of two differences. -/
def Sg (a b c : Int) : Prop := (a < 0 → b ≤ 0 → c < 0) ∧ (a ≤ 0 → b < 0 → c < 0) ∧ (a = 0 → b = 0 → c = 0) ∧ (0 < a → 0 ≤ b → 0 < c) ∧ (0 ≤ a → 0 < b → 0 < c)
theorem lex1 {a b c : Int} {A B C : Prop} (e : Sg a b c) (k : A → B → C) (h1 : a < 0 ∨ (a = 0 ∧ A)) (h2 : b < 0 ∨ (b = 0 ∧ B)) : c < 0 ∨ (c = 0 ∧ C) := by
  rcases h1 with h1 | ⟨h1, x⟩ <;> rcases h2 with h2 | ⟨h2, y⟩
  · exact .inl (e.1 h1 (Int.le_of_lt h2))
  · exact .inl (e.1 h1 (by omega))
  · exact .inl (e.2.1 (by omega) h2)
  · exact .inr ⟨e.2.2.1 h1 h2, k x y⟩
theorem lex0 {a b c : Int} (e : Sg a b c) (h1 : a < 0) (h2 : b < 0) : c < 0 := e.1 h1 (Int.le_of_lt h2)
theorem lexn1 {a b c : Int} {A B C : Prop} (e : Sg a b c) (k : ¬ A → ¬ B → ¬ C) (h1 : ¬ (a < 0 ∨ (a = 0 ∧ A))) (h2 : ¬ (b < 0 ∨ (b = 0 ∧ B))) : ¬ (c < 0 ∨ (c = 0 ∧ C)) := by
  have a0 : 0 ≤ a := by rcases Int.lt_or_le a 0 with h | h; exact absurd (.inl h) h1; exact h
  have b0 : 0 ≤ b := by rcases Int.lt_or_le b 0 with h | h; exact absurd (.inl h) h2; exact h
  rcases Int.lt_or_eq_of_le a0 with ha | ha
  · have := e.2.2.2.1 ha b0; rintro (h | ⟨h, _⟩) <;> omega
  · rcases Int.lt_or_eq_of_le b0 with hb | hb
    · have := e.2.2.2.2 a0 hb; rintro (h | ⟨h, _⟩) <;> omega
    · have hc := e.2.2.1 ha.symm hb.symm
      rintro (h | ⟨_, h⟩)
      · omega
      · exact k (fun x => h1 (.inr ⟨ha.symm, x⟩)) (fun x => h2 (.inr ⟨hb.symm, x⟩)) h
theorem lexn0 {a b c : Int} (e : Sg a b c) (h1 : ¬ a < 0) (h2 : ¬ b < 0) : ¬ c < 0 := by
  rcases Int.lt_or_eq_of_le (Int.not_lt.1 h1) with ha | ha
  · have := e.2.2.2.1 ha (by omega); omega
  · rcases Int.lt_or_eq_of_le (Int.not_lt.1 h2) with hb | hb
    · have := e.2.2.2.2 (by omega) hb; omega
    · have := e.2.2.1 ha.symm hb.symm; omega

theorem sg_dif {a p b q c r : Int} (hp : 0 < p) (hq : 0 < q) (hr : 0 < r) : Sg (dif a p b q) (dif b q c r) (dif a p c r) := comb_sign hp hq hr (dif_comb a p b q c r)

theorem swoPt : SWO (ltOf cfPt) where
  irrefl x := by rw [ltPt]; simp only [decide_eq_false_iff_not, cmpPt_neg, dif]; omega
  trans x y z h1 h2 := by
    rw [ltPt, decide_eq_true_eq, cmpPt_neg] at *
    exact lex1 (sg_dif (qpos x) (qpos y) (qpos z)) (lex1 (sg_dif (qpos x) (qpos y) (qpos z)) (lex0 (sg_dif (qpos x) (qpos y) (qpos z)))) h1 h2
  ntrans x y z h1 h2 := by
    rw [ltPt, decide_eq_false_iff_not, cmpPt_neg] at *
    exact lexn1 (sg_dif (qpos x) (qpos y) (qpos z)) (lexn1 (sg_dif (qpos x) (qpos y) (qpos z)) (lexn0 (sg_dif (qpos x) (qpos y) (qpos z)))) h1 h2

theorem totPt (x y : NCo) (h1 : ltOf cfPt x y = false) (h2 : ltOf cfPt y x = false) : x = y := by
  rw [ltPt, decide_eq_false_iff_not, cmpPt_neg] at h1 h2
  have a1 := dif_anti x.1.1 x.1.2.2.2 y.1.1 y.1.2.2.2
  have a2 := dif_anti x.1.2.1 x.1.2.2.2 y.1.2.1 y.1.2.2.2
  have a3 := dif_anti x.1.2.2.1 x.1.2.2.2 y.1.2.2.1 y.1.2.2.2
  have : dif x.1.1 x.1.2.2.2 y.1.1 y.1.2.2.2 = 0 ∧ dif x.1.2.1 x.1.2.2.2 y.1.2.1 y.1.2.2.2 = 0 ∧ dif x.1.2.2.1 x.1.2.2.2 y.1.2.2.1 y.1.2.2.2 = 0 := by omega
  unfold dif at this
  exact Subtype.ext (nrm_eq x.1 y.1 x.2 y.2 (by omega) (by omega) (by omega))
end Go.Proofs.YtfdgifcllelhiaaGreatDoor
/- slices.SortFunc at the corners. -/
namespace Go.Proofs.YtfdgifcllelhiaaGreatDoor
open Go.RowKit Go.Shelf Go.Sort Go.Lib

def encN (x : NCo) : List Value := enc4 x.1
theorem encN_len (x : NCo) : (encN x).length = 4 := rfl
theorem encN_one (x : NCo) : ∀ v ∈ encN x, v.oneCell' = true := fun v hv => by simp [encN, enc4] at hv; rcases hv with rfl | rfl | rfl | rfl <;> rfl
theorem isAgg_corner : ∀ w, (isAgg 203).run Tryz.prog w = .ok true w := fun _ => by kernel_rfl
theorem sizeOf_corner : ∀ w, (Go.sizeOf 203).run Tryz.prog w = .ok 4 w := fun _ => by kernel_rfl
theorem eg_cmpPt : ∀ args w, (callFunc 228 args).run Tryz.prog w = .ok (.enter 228 args) w := enters_of Tryz.func228 (by kernel_rfl) rfl
theorem cmpLays_pt (blk off size : Nat) (w : World) : CmpLays Tryz.prog 228 #[] encN 4 cfPt blk off size w := fun _ _ _ _ x y => by
  obtain ⟨⟨x0, x1, x2, x3⟩, hx⟩ := x
  obtain ⟨⟨y0, y1, y2, y3⟩, hy⟩ := y
  have ox := hx.1
  have oy := hy.1
  simp only [okCo] at ox oy
  exact comparePoints_any x0 x1 x2 x3 y0 y1 y2 y3 _ ox.1 ox.2.1 ox.2.2.1 (by omega) oy.1 oy.2.1 oy.2.2.1 (by omega)

/-- Points in their order. -/
def sortP (cs : List Q4) : List Q4 := cs.mergeSort (fun x y => !decide (cmpPt y x < 0))

theorem sortCorners (cs : List Q4) (hcs : ∀ c ∈ cs, nrmCo c) (base g n cap : Nat) (w : World) (hn : cs.length = n) (hs : n < 4611686018427387904)
    (hown : w.ownsRow base 203 4 (.slice (some ⟨g, 0, none⟩) n cap) n (cs.flatMap enc4)) :
    Calls Tryz.prog 227 #[.slice (some ⟨g, 0, none⟩) n cap, .func (.func 228) #[] #[]] w fun e w' =>
      e = .returned (.tuple #[]) ∧ w'.ownsRow base 203 4 (.slice (some ⟨g, 0, none⟩) n cap) n ((sortP cs).flatMap enc4) ∧ w.grownBy w' (some g) := by
  have hfl : ∀ l : List NCo, l.flatMap encN = (l.map Subtype.val).flatMap enc4 := fun l => by rw [List.flatMap_map]; rfl
  have hd : (cs.attachWith nrmCo hcs).toArray.size = n := by simp [hn]
  have hv : (cs.attachWith nrmCo hcs).map Subtype.val = cs := List.attachWith_map_subtype_val hcs
  have hown' : w.ownsRow base 203 4 (.slice (some ⟨g, 0, none⟩) n cap) n ((cs.attachWith nrmCo hcs).toArray.toList.flatMap encN) := by
    rw [hfl, List.toList_toArray, hv]; exact hown
  have hg : g < w.heap.size := by
    rcases hown.2 with ⟨h, _⟩ | ⟨g', cap', cur, h, _, hh, _⟩
    · cases h
    · injection h with h1; injection h1 with h1; injection h1 with h1; subst h1; exact blk_lt hh
  have hcon := AnyQ.slices_SortFunc_total Tryz.sortCorner 4 isAgg_corner sizeOf_corner encN encN_len encN_one cfPt swoPt 228 #[] g 0 cap (cs.attachWith nrmCo hcs).toArray w eg_cmpPt (cmpLays_pt _ _ _ _)
    (own_holdsK encN (by decide) encN_len _ hd hown') hg (by rw [hd]; exact hs) totPt
  rw [hd] at hcon
  refine Calls.mono (show Calls Tryz.prog 227 _ _ _ from hcon) ?_
  rintro e w' ⟨rfl, m, os, rfl⟩
  have hsz : (List.mergeSort (cs.attachWith nrmCo hcs) fun x y => !ltOf cfPt y x).toArray.size = n := by simp [hn]
  obtain ⟨h1, h2⟩ := own_sorted (m := m) (os := os) encN (by decide) encN_len _ hsz hown'
  refine ⟨rfl, ?_, h2⟩
  rw [hfl] at h1
  have e : (List.mergeSort (cs.attachWith nrmCo hcs) fun x y => !ltOf cfPt y x).map Subtype.val = sortP cs := by
    unfold sortP
    have := List.map_mergeSort (r := fun x y : NCo => !ltOf cfPt y x) (s := fun x y => !decide (cmpPt y x < 0)) (f := Subtype.val) (l := cs.attachWith nrmCo hcs) (fun a _ b _ => rfl)
    rw [this, hv]
  simp only at h1
  rw [e] at h1
  exact h1
end Go.Proofs.YtfdgifcllelhiaaGreatDoor
/- A region that draws its order: quiet operations, one new block that may come up anywhere among them, and a tail in one forced order. No program is named here. -/
namespace Go.Proofs.YtfdgifcllelhiaaGreatDoor
open Go.RowKit
section
variable {P : Program} {ops : Array Oper} {md : Region.Mode} {w : World} {Q : Exit → Act → World → Prop}

/-- One value in every extension of w; a call leaves an extension of the world that it got. -/
def quietX (P : Program) (o : Oper) (a : Act) (w : World) (next : Act → Prop) : Prop :=
  ∃ v, (∀ u : Ext w, Oper.quietUpon P (fun w'' => ∃ u' : Ext u.val, w'' = u'.val) u.val v ((execOp a.eval o).run P u.val)) ∧ next (a.put o.dst v)
def YieldsX (P : Program) (ops : Array Oper) (w : World) (o : Oper) (v : Value) (a : Act) : Prop :=
  (Region.wanted o (yielded ops a.tmps) = true ∧ ∀ u : Ext w, Oper.quietUpon P (fun w'' => ∃ u' : Ext u.val, w'' = u'.val) u.val v ((execOp a.eval o).run P u.val)) ∨
  (Region.wanted o (yielded ops a.tmps) = false ∧ v = undef)
def qOpX (P : Program) (ops : Array Oper) (w : World) (i : Nat) (K : Act → Prop) (a : Act) : Prop :=
  match ops[i]? with
  | none => K a
  | some o => if Region.wanted o (yielded ops a.tmps) then quietX P o a w K else K (a.put o.dst undef)

theorem qOpX_mono {i : Nat} {a : Act} {K K' : Act → Prop} (h : ∀ a, K a → K' a) (hh : qOpX P ops w i K a) : qOpX P ops w i K' a := by
  unfold qOpX at *
  split
  · rename_i ho; simp only [ho] at hh; exact h _ hh
  · rename_i o ho
    simp only [ho] at hh
    split
    · rename_i hw; simp only [hw, if_true] at hh; obtain ⟨v, h1, h2⟩ := hh; exact ⟨v, h1, h _ h2⟩
    · rename_i hw; simp only [hw] at hh; exact h _ hh
theorem YieldsX.qOpX {i : Nat} {o : Oper} {v : Value} {a : Act} (hi : ops[i]? = some o) (hy : YieldsX P ops w o v a) {K : Act → Prop} (h : K (a.put o.dst v)) : qOpX P ops w i K a := by
  unfold Go.Proofs.YtfdgifcllelhiaaGreatDoor.qOpX
  simp only [hi]
  rcases hy with ⟨hw, hv⟩ | ⟨hw, rfl⟩
  · simp only [hw, if_true]; exact ⟨v, hv, h⟩
  · simp only [hw, Bool.false_eq_true, if_false]; exact h
theorem YieldsX.of_same {o : Oper} {v : Value} {a a' : Act} (hy : YieldsX P ops w o v a) (he : execOp a'.eval o = execOp a.eval o)
    (hw : Region.wanted o (yielded ops a'.tmps) = Region.wanted o (yielded ops a.tmps)) : YieldsX P ops w o v a' := by
  unfold YieldsX at *
  rw [he, hw]
  exact hy
theorem yieldsX_of_qOpX {i : Nat} {o : Oper} {a : Act} {K : Act → Prop} (hi : ops[i]? = some o) (h : qOpX P ops w i K a) : ∃ v, YieldsX P ops w o v a ∧ K (a.put o.dst v) := by
  unfold qOpX at h
  simp only [hi] at h
  by_cases hw : Region.wanted o (yielded ops a.tmps) = true
  · simp only [hw, if_true] at h
    obtain ⟨v, h1, h2⟩ := h
    exact ⟨v, .inl ⟨hw, h1⟩, h2⟩
  · simp only [hw] at h
    exact ⟨undef, .inr ⟨by simpa using hw, rfl⟩, h⟩
theorem qOpX_put {j : Nat} {oi oj : Oper} {v : Value} (hj : ops[j]? = some oj) (hap : oi.apart ops oj = true)
    (hsi : ∀ cs b, oi.op ≠ .select cs b) (hsj : ∀ cs b, oj.op ≠ .select cs b) {K : Act → Prop} {a : Act}
    (hy : YieldsX P ops w oi v a) (h : qOpX P ops w j K (a.put oi.dst v)) :
    qOpX P ops w j (fun a' => YieldsX P ops w oi v a' ∧ K (a'.put oi.dst v)) a := by
  obtain ⟨h1, h2, h3⟩ := Oper.apart_spec hap
  have keep : ∀ (a : Act), YieldsX P ops w oi v a → ∀ u, YieldsX P ops w oi v (a.put oj.dst u) := fun a hy u =>
    hy.of_same (execOp_put oi hsi a oj.dst u h3) (wanted_put oi a oj.dst u h3)
  unfold qOpX at *
  simp only [hj] at *
  rw [wanted_put oj a oi.dst v h1] at h
  split
  · rename_i hw
    simp only [hw, if_true] at h
    obtain ⟨u, hu, hn⟩ := h
    refine ⟨u, fun x => ?_, keep a hy u, by rw [← Act.put_comm a v u h2]; exact hn⟩
    have := hu x
    rwa [execOp_put oj hsj a oi.dst v h1] at this
  · rename_i hw
    simp only [hw] at h
    exact ⟨keep a hy _, by rw [← Act.put_comm a v undef h2]; exact h⟩

/-- The quiet head, whatever order. -/
def anyZ (P : Program) (md : Region.Mode) (ops : Array Oper) (w : World) (tl : List Nat) (L : Array Bool → Act → Prop) : Nat → Array Bool → Act → Prop
  | 0, listed, a => L listed a
  | f + 1, listed, a => Region.ready md ops listed ≠ [] ∧ ∀ i ∈ Region.ready md ops listed, i ∉ tl ∧ qOpX P ops w i (anyZ P md ops w tl L f (listed.setIfInBounds i true)) a

theorem anyZ_first {t0 : Nat} {ts : List Nat} {i : Nat} {oi : Oper} {v : Value} {L : Array Bool → Act → Prop} (hi : ops[i]? = some oi) (hsel : ∀ (j : Nat) (o : Oper) cs b, ops[j]? = some o → o.op ≠ .select cs b)
    (ci : List Nat) (hs : sinkL md ops t0 ci = true) (hc : chainL md ops (t0 :: ts) = true) (hin : i ∈ ci) 
    (hdone : ∀ listed a, L listed a → ∀ j ∈ Region.ready md ops listed, j ∈ t0 :: ts) :
    ∀ (f : Nat) (listed : Array Bool) (a : Act), Inv md ops (t0 :: ts) listed →
      (∀ j oj, ops[j]? = some oj → j ≠ i → listed.getD j true = false → (∀ e ∈ oj.after, Region.binds md e = true → e.on ≠ i) → oi.apart ops oj = true) →
      i ∈ Region.ready md ops listed → YieldsX P ops w oi v a →
      anyZ P md ops w (t0 :: ts) L f (listed.setIfInBounds i true) (a.put oi.dst v) → anyZ P md ops w (t0 :: ts) L (f + 1) listed a := by
  have hno : ∀ (listed : Array Bool), Inv md ops (t0 :: ts) listed → listed.getD i true = false → ∀ j ∈ Region.ready md ops listed, j ∉ t0 :: ts := by
    intro listed inv hun j hj hjt
    rcases List.mem_cons.1 hjt with rfl | hjt
    · exact first_waits inv ci hs ⟨i, hin, hun⟩ hj
    · exact tail_idle inv t0 ts (fun _ h => h) hc j hjt hj
  intro f
  induction f with
  | zero =>
    intro listed a inv _ hr hy H
    have hun := (mem_ready.1 hr).1
    refine ⟨fun h => (by rw [h] at hr; cases hr), fun j hj => ⟨hno listed inv hun j hj, ?_⟩⟩
    by_cases hji : j = i
    · subst hji; exact hy.qOpX hi H
    · exact absurd (hdone _ _ H j (ready_mono hj hji)) (hno listed inv hun j hj)
  | succ f ih =>
    intro listed a inv hfree hr hy H
    have hun := (mem_ready.1 hr).1
    refine ⟨fun h => (by rw [h] at hr; cases hr), fun j hj => ⟨hno listed inv hun j hj, ?_⟩⟩
    by_cases hji : j = i
    · subst hji; exact hy.qOpX hi H
    · have h1 := (H.2 j (ready_mono hj hji)).2
      obtain ⟨hjun, oj, hoj, hall⟩ := mem_ready.1 hj
      have hnot : ∀ e ∈ oj.after, Region.binds md e = true → e.on ≠ i := fun e he hb heq => by
        have h1 := hall e he hb
        rw [heq, getD_both hun] at h1
        cases h1
      have h2 := qOpX_put hoj (hfree j oj hoj hji hjun hnot) (fun cs b => hsel i oi cs b hi) (fun cs b => hsel j oj cs b hoj) hy h1
      have hfree' : ∀ k ok, ops[k]? = some ok → k ≠ i → (listed.setIfInBounds j true).getD k true = false →
          (∀ e ∈ ok.after, Region.binds md e = true → e.on ≠ i) → oi.apart ops ok = true := fun k ok hk hki hun hno => by
        refine hfree k ok hk hki ?_ hno
        by_cases hjk : j = k
        · subst hjk; exact hjun
        · rw [getD_set_ne true hjk] at hun; exact hun
      refine qOpX_mono (fun a' h3 => ih (listed.setIfInBounds j true) a' (inv.set hj (hno listed inv hun j hj)) hfree' (ready_mono hr (Ne.symm hji)) h3.1 ?_) h2
      rw [Array.setIfInBounds_comm _ _ hji]
      exact h3.2

/-- The lexical walk. -/
def wpX (P : Program) (ops : Array Oper) (w : World) (K : Act → Prop) : List Oper → Act → Prop
  | [], a => K a
  | o :: l, a => if Region.wanted o (yielded ops a.tmps) then quietX P o a w (wpX P ops w K l) else wpX P ops w K l (a.put o.dst undef)
theorem wpX_nil {K : Act → Prop} {a : Act} (h : K a) : wpX P ops w K [] a := h
theorem wpX_step {K : Act → Prop} {o : Oper} {l : List Oper} {a : Act} (h : ∀ K' : Act → Prop, (∀ a, wpX P ops w K l a → K' a) → if Region.wanted o (yielded ops a.tmps) then quietX P o a w K' else K' (a.put o.dst undef)) : wpX P ops w K (o :: l) a :=
  h _ (fun _ h => h)

theorem anyZ_lex {t0 : Nat} {ts : List Nat} {Lq : Act → Prop} (hsel : Region.noSelect ops = true) (ci : List Nat) (hs : sinkL md ops t0 ci = true) (hc : chainL md ops (t0 :: ts) = true) (hit : ∀ i ∈ ci, i ∉ t0 :: ts) :
    ∀ (l : List Nat) (listed : Array Bool) (a : Act), (∀ i ∈ l, i ∈ ci) → Inv md ops (t0 :: ts) listed → freeB md ops (forcedB md ops (t0 :: ts)) l listed = true → wpX P ops w Lq (opsAt ops l) a →
    anyZ P md ops w (t0 :: ts) (fun listed' a' => forcedB md ops (t0 :: ts) listed' = true ∧ Lq a') l.length listed a
  | [], listed, a, _, _, hB, h => ⟨hB, h⟩
  | i :: l, listed, a, hl, inv, hB, h => by
    simp only [freeB, Bool.and_eq_true] at hB
    obtain ⟨⟨hr, hf⟩, hB'⟩ := hB
    have hr' : i ∈ Region.ready md ops listed := by simpa using hr
    obtain ⟨_, oi, hoi, _⟩ := mem_ready.1 hr'
    have ho : opsAt ops (i :: l) = oi :: opsAt ops l := by simp [opsAt, hoi]
    rw [ho] at h
    have hst : qOpX P ops w i (wpX P ops w Lq (opsAt ops l)) a := by unfold qOpX; simp only [hoi]; exact h
    obtain ⟨v, hy, hK⟩ := yieldsX_of_qOpX hoi hst
    exact anyZ_first hoi (Region.noSelect_spec hsel) ci hs hc (hl i (by simp)) (fun listed' a' hL => forced_ready hL.1) l.length listed a inv (Region.free_spec hoi hf) hr' hy
      (anyZ_lex hsel ci hs hc hit l _ _ (fun j hj => hl j (by simp [hj])) (inv.set hr' (hit i (hl i (by simp)))) hB' hK)

theorem wpOp_of_qOpX {G : World → Prop} (hG : ∀ x y : World, Below x.heap.size x y → G x → G y) {i : Nat} {a : Act} {K : Act → Prop} {K' : Act → World → Prop} {Q' : Exit → Act → World → Prop} {w' : World} (hC : Below w.heap.size w w') (hg : G w')
    (h : ∀ a w'', Below w.heap.size w w'' → G w'' → K a → K' a w'') (hh : qOpX P ops w i K a) : wpOp P ops Q' i K' a w' := by
  unfold qOpX at hh
  unfold wpOp
  split
  · rename_i ho; simp only [ho] at hh; exact h _ _ hC hg hh
  · rename_i o ho
    simp only [ho] at hh
    split
    · rename_i hw
      simp only [hw, if_true] at hh
      obtain ⟨v, h1, h2⟩ := hh
      have h3 := h1 ⟨w', hC⟩
      refine .inl ?_
      unfold Oper.wp
      simp only at h3
      generalize (execOp a.eval o).run P w' = r at *
      cases r with
      | ok n x =>
        cases n <;> simp only [Oper.quietUpon] at h3 <;> simp only [Oper.upon]
        case value u => obtain ⟨e1, e2⟩ := h3; rw [e1, e2]; exact h _ _ hC hg h2
        case skip => obtain ⟨e1, e2⟩ := h3; rw [e1, ← e2]; exact h _ _ hC hg h2
        case enter f args =>
          obtain ⟨e1, hc⟩ := h3
          rw [e1]
          exact hc.mono fun e w'' ⟨he, u', hw''⟩ => by subst he hw''; exact h _ _ (below_trans hC u'.below) (hG _ _ u'.below hg) h2
      | halt x y => simp only [Oper.quietUpon] at h3
    · rename_i hw; simp only [hw] at hh; exact h _ _ hC hg hh

/-- The new block is laid: from here on. -/
theorem any_behind {tl : List Nat} {g ia : Nat} {oa : Oper} {T : TypeId} {zs : Array Value} {gb : Nat} {L : Array Bool → Act → Prop} (hsel : Region.noSelect ops = true) (hia : ops[ia]? = some oa) (hap : ∀ j oj, ops[j]? = some oj → j ∉ tl → j ≠ ia → oa.apart ops oj = true)
    (hL : ∀ listed a w', Below w.heap.size w w' → w'.heap[gb]? = some (.cells zs T (0, 0)) → L listed a → wpAny P md ops Q g listed (a.put oa.dst (.pointer (some ⟨gb, 0, none⟩))) w') (hQ : ∀ c a w, ¬ Q (.panic c) a w) :
    ∀ (f : Nat) (listed : Array Bool) (a : Act) (w' : World), listed.getD ia true = true → Below w.heap.size w w' → w'.heap[gb]? = some (.cells zs T (0, 0)) → anyZ P md ops w tl L f listed a → wpAny P md ops Q (f + g) listed (a.put oa.dst (.pointer (some ⟨gb, 0, none⟩))) w'
  | 0, listed, a, w', _, hw, hg, h => by rw [Nat.zero_add]; exact hL _ _ _ hw hg h
  | f + 1, listed, a, w', hl, hw, hg, h => by
    rw [show f + 1 + g = (f + g) + 1 by omega]
    refine ⟨fun h0 => absurd h0 h.1, fun i hi => ?_⟩
    obtain ⟨hit, hq⟩ := h.2 i hi
    have hne : i ≠ ia := by rintro rfl; have := (mem_ready.1 hi).1; rw [hl] at this; cases this
    obtain ⟨_, oi, hoi, _⟩ := mem_ready.1 hi
    obtain ⟨h1, h2, h3⟩ := Oper.apart_spec (hap i oi hoi hit hne)
    have hsj : ∀ cs b, oi.op ≠ .select cs b := fun cs b => Region.noSelect_spec hsel i oi cs b hoi
    -- the operation does not look at the new block's slot
    have hq' : qOpX P ops w i (fun a' => ∃ a0, a' = a0.put oa.dst (.pointer (some ⟨gb, 0, none⟩)) ∧ anyZ P md ops w tl L f (listed.setIfInBounds i true) a0) (a.put oa.dst (.pointer (some ⟨gb, 0, none⟩))) := by
      unfold qOpX at *
      simp only [hoi] at *
      rw [wanted_put oi a oa.dst _ h1]
      split
      · rename_i hw
        simp only [hw, if_true] at hq
        obtain ⟨v, hv, hk⟩ := hq
        refine ⟨v, fun x => ?_, _, (Act.put_comm a _ v h2), hk⟩
        rw [execOp_put oi hsj a oa.dst _ h1]
        exact hv x
      · rename_i hw
        simp only [hw] at hq
        exact ⟨_, (Act.put_comm a _ undef h2), hq⟩
    refine wpOp_of_qOpX (G := fun x => x.heap[gb]? = some (.cells zs T (0, 0))) (fun x y hxy hx => (hxy.block gb (Array.getElem?_eq_some_iff.1 hx).1).trans hx) hw hg ?_ hq'
    rintro a' w'' hw'' hg'' ⟨a0, rfl, hz⟩
    refine any_behind hsel hia hap hL hQ f _ a0 w'' ?_ hw'' hg'' hz
    rw [getD_set_ne true (fun e => hne e)]; exact hl

theorem set_unlisted {listed : Array Bool} {i : Nat} (h : listed.getD i true = false) : (listed.setIfInBounds i true).getD i true = true := by
  rcases Nat.lt_or_ge i listed.size with hl | hl
  · simp [hl]
  · simp [Array.getElem?_eq_none hl] at h

/-- The new block may come up at any time. -/
theorem any_float {t0 : Nat} {ts : List Nat} {g ia : Nat} {oa : Oper} {T : TypeId} {zs : Array Value} {L : Array Bool → Act → Prop} (hsel : Region.noSelect ops = true) (hia : ops[ia]? = some oa)
    (hap : ∀ j oj, ops[j]? = some oj → j ∉ t0 :: ts → j ≠ ia → oa.apart ops oj = true) (hwant : ∀ a : Act, Region.wanted oa (yielded ops a.tmps) = true)
    (hrun : ∀ (a : Act) (w' : World), (execOp a.eval oa).run P w' = .ok (.value (.pointer (some ⟨w'.heap.size, 0, none⟩))) (w'.alloc (.cells zs T)))
    (htw : ∀ t ∈ t0 :: ts, Region.waitsFor md ops t ia = true) (hLt : ∀ listed a, L listed a → ∀ j ∈ Region.ready md ops listed, j ∈ t0 :: ts)
    (hL : ∀ listed a w' gb, w.heap.size ≤ gb → Below w.heap.size w w' → w'.heap[gb]? = some (.cells zs T (0, 0)) → L listed a → wpAny P md ops Q g listed (a.put oa.dst (.pointer (some ⟨gb, 0, none⟩))) w') (hQ : ∀ c a w, ¬ Q (.panic c) a w) :
    ∀ (f : Nat) (listed : Array Bool) (a : Act) (w' : World), ia ∈ Region.ready md ops listed → Below w.heap.size w w' → anyZ P md ops w (t0 :: ts) L f (listed.setIfInBounds ia true) a → wpAny P md ops Q (f + g + 1) listed a w' := by
  intro f
  have hnot : ∀ (listed : Array Bool), listed.getD ia true = false → ∀ t ∈ t0 :: ts, t ∉ Region.ready md ops listed := by
    intro listed hun t ht hr
    obtain ⟨oj, hoj, e, he, hb, hon⟩ := Region.waitsFor_spec (htw t ht)
    obtain ⟨_, o', ho', hall⟩ := mem_ready.1 hr
    have : oj = o' := Option.some.inj (hoj.symm.trans ho')
    subst this
    have h1 := hall e he hb
    rw [hon, getD_both hun] at h1
    cases h1
  have alloc : ∀ (f : Nat) (listed : Array Bool) (a : Act) (w' : World), listed.getD ia true = false → Below w.heap.size w w' → anyZ P md ops w (t0 :: ts) L f (listed.setIfInBounds ia true) a →
      wpOp P ops Q ia (wpAny P md ops Q (f + g) (listed.setIfInBounds ia true)) a w' := by
    intro f listed a w' hun hw h
    unfold wpOp
    simp only [hia, hwant, if_true]
    refine .inl ?_
    unfold Oper.wp
    rw [hrun]
    exact any_behind hsel hia hap (fun l a x h1 h2 h3 => hL l a x _ hw.size h1 h2 h3) hQ f _ a _ (set_unlisted hun) (hw.alloc hw.size _) (heap_alloc_new w' _) h
  induction f with
  | zero =>
    intro listed a w' hr hw h
    have hun := (mem_ready.1 hr).1
    refine ⟨fun h0 => (by rw [h0] at hr; cases hr), fun i hi => ?_⟩
    by_cases hii : i = ia
    · subst hii; exact alloc 0 listed a w' hun hw h
    · exact absurd hi (hnot listed hun i (hLt _ _ h i (ready_mono hi hii)))
  | succ f ih =>
    intro listed a w' hr hw h
    have hun := (mem_ready.1 hr).1
    refine ⟨fun h0 => (by rw [h0] at hr; cases hr), fun i hi => ?_⟩
    by_cases hii : i = ia
    · subst hii; exact alloc (f + 1) listed a w' hun hw h
    · obtain ⟨_, hq⟩ := h.2 i (ready_mono hi hii)
      rw [show f + 1 + g = f + g + 1 by omega]
      refine wpOp_of_qOpX (G := fun _ => True) (fun _ _ _ _ => trivial) hw trivial (fun a' w'' hw'' _ hz => ih _ a' w'' (ready_mono hr (Ne.symm hii)) hw'' ?_) hq
      rw [Array.setIfInBounds_comm _ _ hii]
      exact hz

theorem quietX_ret {f : FuncId} {args : Array Value} {u : Ext w} {v : Value} (h : Calls P f args u.val (Ret u.val v)) : Calls P f args u.val fun e w'' => e = .returned v ∧ ∃ u' : Ext u.val, w'' = u'.val :=
  h.mono fun _ w' ⟨he, hb⟩ => ⟨he, ⟨w', hb⟩, rfl⟩

def floatB (md : Region.Mode) (ops : Array Oper) (ia : Nat) (ci : List Nat) (t0 : Nat) (ts : List Nat) : Bool :=
  Region.noSelect ops && decide (1 + ci.length + (ts.length + 1) = ops.size) && sinkL md ops t0 ci && chainL md ops (t0 :: ts) && (ci.all fun i => !(t0 :: ts).contains i) && !(t0 :: ts).contains ia &&
  (Region.ready md ops (Array.replicate ops.size false)).contains ia && ((t0 :: ts).all fun t => Region.waitsFor md ops t ia) &&
  (match ops[ia]? with
   | some oa => oa.guard == none && (List.range ops.size).all fun j => j == ia || (t0 :: ts).contains j || match ops[j]? with | some oj => oa.apart ops oj | none => true
   | none => false) &&
  freeB md ops (forcedB md ops (t0 :: ts)) ci ((Array.replicate ops.size false).setIfInBounds ia true)

theorem wp_region_float {id : Nat} {a : Act} {l : List Oper} (ia : Nat) (ci : List Nat) (t0 : Nat) (ts : List Nat) (hm : P.follows .mixedOrders = true) (hB : floatB .any l.toArray ia ci t0 ts = true)
    (oa : Oper) (hoa : l.toArray[ia]? = some oa) (T : TypeId) (zs : Array Value)
    (hrun : ∀ (a : Act) (w' : World), (execOp a.eval oa).run P w' = .ok (.value (.pointer (some ⟨w'.heap.size, 0, none⟩))) (w'.alloc (.cells zs T)))
    (h : wpX P l.toArray w (fun a' => ∀ w' gb, w.heap.size ≤ gb → Below w.heap.size w w' → w'.heap[gb]? = some (.cells zs T (0, 0)) → wpList P l.toArray (NoPanic Q) (opsAt l.toArray (t0 :: ts)) (a'.put oa.dst (.pointer (some ⟨gb, 0, none⟩))) w') (opsAt l.toArray ci) a) :
    (Code.region id l.toArray true).wp P Q a w := by
  refine wp_region_noPanic (wp_region_any hm ?_)
  simp only [floatB, Bool.and_eq_true, decide_eq_true_eq] at hB
  obtain ⟨⟨⟨⟨⟨⟨⟨⟨⟨hsel, hsz⟩, hs⟩, hc⟩, hd⟩, hda⟩, hrd⟩, htw⟩, hap⟩, hf⟩ := hB
  simp only [hoa, Bool.and_eq_true] at hap
  obtain ⟨hgd, hap⟩ := hap
  have hgd' : oa.guard = none := by simpa using hgd
  have hit : ∀ i ∈ ci, i ∉ t0 :: ts := fun i hi => by
    have := List.all_eq_true.1 hd i hi
    simpa using this
  have hrd' : ia ∈ Region.ready .any l.toArray (Array.replicate l.toArray.size false) := by simpa using hrd
  have inv0 : Inv .any l.toArray (t0 :: ts) (Array.replicate l.toArray.size false) :=
    ⟨fun j oj _ hl => (by rw [getD_replicate_false] at hl; cases hl), fun t _ ht => getD_in (by simpa using ht) (getD_replicate_false _ _), by simp⟩
  have hz := anyZ_lex (P := P) (md := .any) (w := w) hsel ci hs hc hit ci _ a (fun _ h => h) (inv0.set hrd' (by simpa using hda)) hf h
  have := any_float (Q := NoPanic Q) (g := ts.length + 1) hsel hoa (fun j oj hj hjt hne => by
      have := List.all_eq_true.1 hap j (List.mem_range.2 (Array.getElem?_eq_some_iff.1 hj).1)
      simp only [hj, Bool.or_eq_true, beq_iff_eq, hne, false_or] at this
      rcases this with h | h
      · exact absurd (by simpa using h) hjt
      · exact h) (fun a => by simp [Region.wanted, hgd']) hrun (fun t ht => List.all_eq_true.1 htw t ht) (fun _ _ hL => forced_ready hL.1)
    (fun listed a' w' gb h1 h2 h3 hL => any_of_forced (t0 :: ts) listed _ w' hL.1 (hL.2 w' gb h1 h2 h3)) (fun c a w h => h) ci.length _ a { w with drawn := w.drawn + 1 } hrd' ((Below.refl _ _).drew) hz
  rw [show ci.length + (ts.length + 1) + 1 = l.toArray.size by omega] at this
  exact this
end
end Go.Proofs.YtfdgifcllelhiaaGreatDoor
/- Rows of structs of four ints: reading, storing, clearing. == on such structs. -/
namespace Go.Proofs.YtfdgifcllelhiaaGreatDoor
open Go.RowKit Go.Shelf Go.Sort Go.Lib

def RowQ (w : World) (g : Nat) (T : TypeId) (d : Array Q4) (sp : List Value) : Prop := w.heap[g]? = some (.cells (d.toList.flatMap enc4 ++ sp).toArray T (0, 0))
theorem enc4_len (x : Q4) : (enc4 x).length = 4 := rfl
theorem RowQ.get {w : World} {g : Nat} {T : TypeId} {d : Array Q4} {sp : List Value} (h : RowQ w g T d sp) (i : Nat) (hi : i < d.size) :
    w.cell? ⟨g, i * 4, none⟩ = some (.int .i64 d[i]!.1) ∧ w.cell? ⟨g, i * 4 + 1, none⟩ = some (.int .i64 d[i]!.2.1) ∧ w.cell? ⟨g, i * 4 + 2, none⟩ = some (.int .i64 d[i]!.2.2.1) ∧ w.cell? ⟨g, i * 4 + 3, none⟩ = some (.int .i64 d[i]!.2.2.2) := by
  have hl : (d.toList.flatMap enc4).length = d.size * 4 := by rw [flat_len enc4 4 enc4_len]; simp
  have key : ∀ j, j < 4 → w.cell? ⟨g, i * 4 + j, none⟩ = (enc4 d[i]!)[j]? := fun j hj => by
    rw [blk_cell h, List.getElem?_toArray, List.getElem?_append_left (by rw [hl]; omega), flat_get enc4 4 enc4_len d.toList i (by simpa using hi) j hj, getElem!_pos d i hi]
    simp
  exact ⟨key 0 (by omega), key 1 (by omega), key 2 (by omega), key 3 (by omega)⟩
theorem RowQ.free {w : World} {g : Nat} {T : TypeId} {d : Array Q4} {sp : List Value} (h : RowQ w g T d sp) (i : Nat) : w.frozen? ⟨g, i, none⟩ = false := blk_free h i

theorem flat_set (l : List Q4) (i : Nat) (hi : i < l.length) (x : Q4) (sp : List Value) :
    ((((l.flatMap enc4 ++ sp).set (i * 4) (.int .i64 x.1)).set (i * 4 + 1) (.int .i64 x.2.1)).set (i * 4 + 2) (.int .i64 x.2.2.1)).set (i * 4 + 3) (.int .i64 x.2.2.2) = (l.set i x).flatMap enc4 ++ sp := by
  induction l generalizing i with
  | nil => simp at hi
  | cons y l ih =>
    cases i with
    | zero => simp [enc4]
    | succ i =>
      have := ih i (by simpa using hi)
      simp only [List.flatMap_cons, List.set_cons_succ, List.append_assoc, enc4] at this ⊢
      rw [show (i + 1) * 4 = i * 4 + 4 by omega]
      simp only [List.cons_append, List.nil_append, List.set_cons_succ]
      rw [this]

theorem RowQ.set {w : World} {g : Nat} {T : TypeId} {d : Array Q4} {sp : List Value} (h : RowQ w g T d sp) (i : Nat) (hi : i < d.size) (x : Q4) :
    RowQ ((((w.setCell ⟨g, i * 4, none⟩ (.int .i64 x.1)).setCell ⟨g, i * 4 + 1, none⟩ (.int .i64 x.2.1)).setCell ⟨g, i * 4 + 2, none⟩ (.int .i64 x.2.2.1)).setCell ⟨g, i * 4 + 3, none⟩ (.int .i64 x.2.2.2)) g T (d.setIfInBounds i x) sp := by
  have := blk_set (blk_set (blk_set (blk_set h (i * 4) (.int .i64 x.1)) (i * 4 + 1) (.int .i64 x.2.1)) (i * 4 + 2) (.int .i64 x.2.2.1)) (i * 4 + 3) (.int .i64 x.2.2.2)
  unfold RowQ
  rw [this]
  simp only [List.setIfInBounds_toArray, Array.toList_setIfInBounds]
  rw [flat_set _ _ (by simpa using hi)]

theorem RowQ.keep {w w' : World} {g : Nat} {T : TypeId} {d : Array Q4} {sp : List Value} (h : RowQ w g T d sp) (hb : Below w.heap.size w w') : RowQ w' g T d sp := (hb.block g (blk_lt h)).trans h

theorem grown_below {w w1 w2 : World} {row : Option Nat} (h : w.grownBy w1 row) (hb : Below w1.heap.size w1 w2) : w.grownBy w2 row :=
  ⟨hb.os.trans h.os, hb.tape.trans h.tape, hb.output.trans h.output, Nat.le_trans h.size hb.size, fun k hk hne => (hb.block k (Nat.lt_of_lt_of_le hk h.size)).trans (h.block k hk hne)⟩
theorem grown_set {w w1 : World} {g : Nat} (h : w.grownBy w1 (some g)) (i : Nat) (v : Value) : w.grownBy (w1.setCell ⟨g, i, none⟩ v) (some g) :=
  ⟨h.os, h.tape, h.output, by simpa [World.setCell] using h.size, fun k hk hne => (Below.heap_setCell _ _ _ _ (fun e => hne (by rw [e]))).trans (h.block k hk hne)⟩

theorem own_rowq {w : World} {base g n cap : Nat} {T : TypeId} (d : Array Q4) (h : w.ownsRow base T 4 (.slice (some ⟨g, 0, none⟩) n cap) n (d.toList.flatMap enc4)) : ∃ sp, RowQ w g T d sp ∧ base ≤ g ∧ cap ≤ maxLen ∧ n ≤ cap ∧ n * 4 + sp.length = cap * 4 := by
  rcases h.2 with ⟨h0, _⟩ | ⟨g', cap', cur, hv, hb, hh, hc, hm, hcs, ht⟩
  · cases h0
  · injection hv with h1 h2 h3
    injection h1 with h1
    injection h1 with h1
    subst h1 h3
    refine ⟨cur.toList.drop (n * 4), ?_, hb, hm, hc, ?_⟩
    · unfold RowQ
      rw [← ht, List.take_append_drop]
      simpa using hh
    · have := Nat.mul_le_mul_right 4 hc
      simp; omega
theorem rowq_own {w : World} {base g n m cap : Nat} {T : TypeId} {d : Array Q4} {sp : List Value} (h : RowQ w g T d sp) (hb : base ≤ g) (hm : cap ≤ maxLen) (hd : d.size = n) (hs : n * 4 + sp.length = cap * 4) (hle : m ≤ n) :
    w.ownsRow base T 4 (.slice (some ⟨g, 0, none⟩) m cap) m ((d.toList.take m).flatMap enc4) := by
  have hl : (d.toList.flatMap enc4).length = n * 4 := by rw [flat_len enc4 4 enc4_len]; simp [hd]
  have ht : ∀ (l : List Q4) (m : Nat), (l.flatMap enc4).take (m * 4) = (l.take m).flatMap enc4 := by
    intro l
    induction l with
    | nil => simp
    | cons x l ih =>
      intro m
      cases m with
      | zero => simp
      | succ m =>
        simp only [List.flatMap_cons, List.take_succ_cons]
        rw [List.take_append, List.take_of_length_le (by rw [enc4_len]; omega), enc4_len, show (m + 1) * 4 - 4 = m * 4 by omega, ih]
  refine ⟨by rw [flat_len enc4 4 enc4_len]; simp; omega, .inr ⟨g, cap, _, rfl, hb, h, by omega, hm, by simp only [List.size_toArray, List.length_append]; omega, ?_⟩⟩
  simp only
  rw [List.take_append_of_le_length (by rw [hl]; omega), ht]

theorem und_Corner : ∀ w, (zeroValue 203).run Tryz.prog w = .ok (v4 (0, 0, 0, 0)) w := fun _ => by kernel_rfl
theorem und_Plane : ∀ w, (zeroValue 92).run Tryz.prog w = .ok (v4 (0, 0, 0, 0)) w := fun _ => by kernel_rfl

/-- clear at structs of four ints. -/
theorem run_clear4 {P : Program} (w : World) (t e ty : TypeId) (ht : P.underlying t = some (.slice e)) (hv : ∀ w, (zeroValue e).run P w = .ok (v4 (0, 0, 0, 0)) w) (b o n c : Nat) (hn : 0 < n)
    (hc : ∀ j, j < n * 4 → (w.cell? ⟨b, o + j, none⟩).isSome = true) (hf : ∀ j, j < n * 4 → w.frozen? ⟨b, o + j, none⟩ = false) :
    (Builtin.clear_ #[t] ty #[.slice (some ⟨b, o, none⟩) n c]).run P w = .ok (.tuple #[]) (w.setCells b o (List.replicate (n * 4) (.int .i64 0))) := by
  have hzc : (Builtin.zeroCells (v4 (0, 0, 0, 0)).cells n).toList = List.replicate (n * 4) (.int .i64 0) := by
    apply List.ext_getElem
    · simp [Builtin.zeroCells, Value.cells]
    · intro i h1 h2
      simp [Builtin.zeroCells, Value.cells]
      have : i % 4 = 0 ∨ i % 4 = 1 ∨ i % 4 = 2 ∨ i % 4 = 3 := by omega
      rcases this with h | h | h | h <;> simp [h]
  have hst := run_storeCells_cells (P := P) b o (List.replicate (n * 4) (.int .i64 0)) 0 w (by simpa using hc) (by simpa using hf) (by intro v hv'; rw [List.eq_of_mem_replicate hv']; rfl)
  simp only [Nat.add_zero] at hst
  obtain ⟨m, rfl⟩ : ∃ m, n = m + 1 := ⟨n - 1, by omega⟩
  simp [Builtin.clear_, run_underlying ht, hv, hzc, hst]
theorem setCells_blk (g : Nat) (T : TypeId) : ∀ (vs : List Value) (o : Nat) (w : World) (cur : Array Value), w.heap[g]? = some (.cells cur T (0, 0)) →
    ∃ cur', (w.setCells g o vs).heap[g]? = some (.cells cur' T (0, 0)) ∧ cur'.size = cur.size ∧ ∀ i, i < o → cur'[i]? = cur[i]?
  | [], _, _, cur, h => ⟨cur, h, rfl, fun _ _ => rfl⟩
  | v :: r, o, w, cur, h => by
    obtain ⟨cur', h1, h2, h3⟩ := setCells_blk g T r (o + 1) (w.setCell ⟨g, o, none⟩ v) _ (blk_set h o v)
    refine ⟨cur', h1, by rw [h2]; simp, fun i hi => ?_⟩
    rw [h3 i (by omega), Array.getElem?_setIfInBounds_ne (by omega)]
theorem grown_setCells {w : World} {g : Nat} : ∀ (vs : List Value) (o : Nat) (w1 : World), w.grownBy w1 (some g) → w.grownBy (w1.setCells g o vs) (some g)
  | [], _, _, h => h
  | v :: r, o, _, h => grown_setCells r (o + 1) _ (grown_set h o v)

theorem eqF (d : Nat) (a x : Int) (w : World) : (Op.equalIn (d + 1) 3 (.int .i64 a) (.int .i64 x)).run Tryz.prog w = .ok (a == x) w := run_equalIn_int w d _ .i64 _ a x und_int
end Go.Proofs.YtfdgifcllelhiaaGreatDoor
/- == on corners and planes. -/
namespace Go.Proofs.YtfdgifcllelhiaaGreatDoor
open Go.RowKit Go.Shelf Go.Sort Go.Lib
theorem part4_0 (x y z q : Value) (w : World) : (part 3 #[x, y, z, q] 0).run Tryz.prog w = .ok x w := by kernel_rfl
theorem part4_1 (x y z q : Value) (w : World) : (part 3 #[x, y, z, q] 1).run Tryz.prog w = .ok y w := by kernel_rfl
theorem part4_2 (x y z q : Value) (w : World) : (part 3 #[x, y, z, q] 2).run Tryz.prog w = .ok z w := by kernel_rfl
theorem part4_3 (x y z q : Value) (w : World) : (part 3 #[x, y, z, q] 3).run Tryz.prog w = .ok q w := by kernel_rfl
theorem und_co : Tryz.prog.underlying 203 = some (.struct (Tryz.prog.fieldsOf 203)) := by kernel_rfl
theorem und_pl : Tryz.prog.underlying 92 = some (.struct (Tryz.prog.fieldsOf 92)) := by kernel_rfl
theorem fields_co : (Tryz.prog.fieldsOf 203).toList.map (fun f => (f.type, f.offset, decide (f.name ≠ "_"))) = [(3, 0, true), (3, 1, true), (3, 2, true), (3, 3, true)] := by kernel_rfl
theorem fields_pl : (Tryz.prog.fieldsOf 92).toList.map (fun f => (f.type, f.offset, decide (f.name ≠ "_"))) = [(3, 0, true), (3, 1, true), (3, 2, true), (3, 3, true)] := by kernel_rfl

theorem eqFields4 (d : Nat) (fs : List Field) (hf : fs.map (fun f => (f.type, f.offset, decide (f.name ≠ "_"))) = [(3, 0, true), (3, 1, true), (3, 2, true), (3, 3, true)]) (a b c e x y z q : Int) (w : World) :
    (Op.eqFields (d + 1) #[.int .i64 a, .int .i64 b, .int .i64 c, .int .i64 e] #[.int .i64 x, .int .i64 y, .int .i64 z, .int .i64 q] fs).run Tryz.prog w = .ok (a == x && b == y && c == z && e == q) w := by
  have hlen : fs.length = 4 := by simpa using congrArg List.length hf
  match fs, hlen, hf with
  | [f0, f1, f2, f3], _, hf =>
    simp only [List.map_cons, List.map_nil, List.cons.injEq, Prod.mk.injEq, and_true, decide_eq_true_eq] at hf
    obtain ⟨⟨a0, o0, n0⟩, ⟨a1, o1, n1⟩, ⟨a2, o2, n2⟩, ⟨a3, o3, n3⟩⟩ := hf
    simp [Op.eqFields, a0, o0, n0, a1, o1, n1, a2, o2, n2, a3, o3, n3, part4_0, part4_1, part4_2, part4_3, eqF]
    by_cases h1 : a = x <;> by_cases h2 : b = y <;> by_cases h3 : c = z <;> by_cases h4 : e = q <;> simp [h1, h2, h3, h4]

theorem equalIn_co (a b c e x y z q : Int) (w : World) : (Op.equalIn 10000 203 (v4 (a, b, c, e)) (v4 (x, y, z, q))).run Tryz.prog w = .ok (a == x && b == y && c == z && e == q) w := by
  rw [run_equalIn_struct w 9999 _ _ _ und_co (by kernel_rfl), eqFields4 9998 _ fields_co]
theorem equalIn_pl (a b c e x y z q : Int) (w : World) : (Op.equalIn 10000 92 (v4 (a, b, c, e)) (v4 (x, y, z, q))).run Tryz.prog w = .ok (a == x && b == y && c == z && e == q) w := by
  rw [run_equalIn_struct w 9999 _ _ _ und_pl (by kernel_rfl), eqFields4 9998 _ fields_pl]
theorem beqQ (x y : Q4) : (x.1 == y.1 && x.2.1 == y.2.1 && x.2.2.1 == y.2.2.1 && x.2.2.2 == y.2.2.2) = decide (x = y) := by
  obtain ⟨a, b, c, d⟩ := x
  obtain ⟨a', b', c', d'⟩ := y
  rw [Bool.eq_iff_iff]
  simp [Prod.ext_iff, and_assoc]
theorem eq_co (x y : Q4) (w : World) : (Op.equalIn 10000 203 (.agg #[.int .i64 x.1, .int .i64 x.2.1, .int .i64 x.2.2.1, .int .i64 x.2.2.2]) (.agg #[.int .i64 y.1, .int .i64 y.2.1, .int .i64 y.2.2.1, .int .i64 y.2.2.2])).run Tryz.prog w = .ok (decide (x = y)) w := by
  rw [← beqQ]; exact equalIn_co _ _ _ _ _ _ _ _ w
theorem eq_pl (x y : Q4) (w : World) : (Op.equalIn 10000 92 (.agg #[.int .i64 x.1, .int .i64 x.2.1, .int .i64 x.2.2.1, .int .i64 x.2.2.2]) (.agg #[.int .i64 y.1, .int .i64 y.2.1, .int .i64 y.2.2.1, .int .i64 y.2.2.2])).run Tryz.prog w = .ok (decide (x = y)) w := by
  rw [← beqQ]; exact equalIn_pl _ _ _ _ _ _ _ _ w
end Go.Proofs.YtfdgifcllelhiaaGreatDoor
