/- texts of mine, merged: Srt, Srt2, Srt3, Cmp, Cmp2, Cmp3, B3, Srt4. -/
import Derived.Test.YtjglkglaogaenaaGreatDoorGD
import Derived.Test.YtjglkglaogaenaaGreatDoorSort
import Derived.Lib.SlicesCompact
import Derived.Lib.SliceRun
import Derived.Test.YtjglkglaogaenaaGreatDoorGA
/- slices.SortFunc over corners and planes that the call owns. -/
namespace Go.Proofs.YtjglkglaogaenaaGreatDoor
section
open Go.RowKit Go.Shelf Go.Sort Go.Lib
theorem flat_get {α : Type} (enc : α → List Value) (k : Nat) (hk : ∀ x, (enc x).length = k) : ∀ (l : List α) (t : Nat) (h : t < l.length), ∀ j, j < k → (l.flatMap enc)[t * k + j]? = (enc l[t])[j]?
  | [], t, h, _, _ => absurd h (by simp)
  | x :: l, 0, _, j, hj => by
    simp only [List.flatMap_cons, Nat.zero_mul, Nat.zero_add, List.getElem_cons_zero]
    rw [List.getElem?_append_left (by rw [hk]; exact hj)]
  | x :: l, t + 1, h, j, hj => by
    simp only [List.flatMap_cons, List.getElem_cons_succ]
    rw [List.getElem?_append_right (by rw [hk, Nat.add_mul]; omega), hk, show (t + 1) * k + j - k = t * k + j by rw [Nat.add_mul]; omega]
    exact flat_get enc k hk l t (by simpa using h) j hj
theorem flat_len {α : Type} (enc : α → List Value) (k : Nat) (hk : ∀ x, (enc x).length = k) (l : List α) : (l.flatMap enc).length = l.length * k := by
  induction l with
  | nil => simp
  | cons x l ih => simp only [List.flatMap_cons, List.length_append, hk, ih, List.length_cons, Nat.add_mul]; omega
theorem flatK_get {α : Type} [Inhabited α] (enc : α → List Value) (k : Nat) (hk0 : 0 < k) (hk : ∀ x, (enc x).length = k) (d : Array α) (t : Nat) (h : t < d.size * k) : (d.toList.flatMap enc)[t]? = some (flatK enc k d)[t]! := by
  rw [get_flatK enc k d t h]
  have h1 : t / k < d.size := Nat.div_lt_of_lt_mul (by rw [Nat.mul_comm]; exact h)
  have h2 : t % k < k := Nat.mod_lt _ hk0
  have e := flat_get enc k hk d.toList (t / k) (by simpa using h1) (t % k) h2
  rw [show t / k * k + t % k = t by rw [Nat.mul_comm]; exact Nat.div_add_mod t k] at e
  rw [e, getElem!_pos d (t / k) h1, getElem!_pos _ (t % k) (by rw [hk]; exact h2)]
  simp
/-- An owned row, as the sort's contract wants it. -/
theorem own_holdsK {α : Type} [Inhabited α] {w : World} {base g k n cap : Nat} {T : TypeId} (enc : α → List Value) (hk0 : 0 < k) (hk : ∀ x, (enc x).length = k) (d : Array α) (hd : d.size = n)
    (h : w.ownsRow base T k (.slice (some ⟨g, 0, none⟩) n cap) n (d.toList.flatMap enc)) : HoldsK enc k w g 0 d := by
  rcases h.2 with ⟨h0, _⟩ | ⟨g', cap', cur, hv, _, hh, hc, hm, hcs, ht⟩
  · cases h0
  · injection hv with h1 h2 h3
    injection h1 with h1
    injection h1 with h1
    subst h1
    intro j hj
    rw [size_flatK, hd] at hj
    have e := flatK_get enc k hk0 hk d j (by rw [hd]; exact hj)
    rw [← ht] at e
    have hj' : (cur.toList.take (n * k))[j]? = cur[j]? := by rw [List.getElem?_take_of_lt hj]; simp
    rw [hj'] at e
    refine ⟨?_, by simp [World.frozen?, hh]⟩
    rw [Nat.zero_add, blk_cell hh j, e]
    rfl
theorem put_take (F cur : Array Value) (h : F.size ≤ cur.size) : (putCells id 0 F cur).toList.take F.size = F.toList := by
  apply List.ext_getElem?
  intro i
  by_cases hi : i < F.size
  · rw [List.getElem?_take_of_lt hi]
    simp only [putCells, Array.getElem?_toList, Array.getElem?_mapIdx]
    rw [Array.getElem?_eq_getElem (by omega : i < cur.size)]
    simp [hi]
  · rw [List.getElem?_eq_none (by simp; omega), List.getElem?_eq_none (by simp; omega)]
/-- The row behind the sort. -/
theorem own_sorted {α : Type} [Inhabited α] {w : World} {base g k n cap m : Nat} {T : TypeId} {os : Array Obj} {xs : List Value} (enc : α → List Value) (hk0 : 0 < k) (hk : ∀ x, (enc x).length = k) (d : Array α) (hd : d.size = n)
    (h : w.ownsRow base T k (.slice (some ⟨g, 0, none⟩) n cap) n xs) :
    (sortWorldK enc k w g 0 m d os).ownsRow base T k (.slice (some ⟨g, 0, none⟩) n cap) n (d.toList.flatMap enc) ∧ w.grownBy (sortWorldK enc k w g 0 m d os) (some g) := by
  rcases h.2 with ⟨h0, _⟩ | ⟨g', cap', cur, hv, hb, hh, hc, hm, hcs, ht⟩
  · cases h0
  · have hv' := hv
    injection hv with h1 h2 h3
    injection h1 with h1
    injection h1 with h1
    subst h1 h3
    have hlt : g < w.heap.size := blk_lt hh
    have hb' : (sortWorldK enc k w g 0 m d os).heap[g]? = some (.cells (putCells id 0 (flatK enc k d) cur) T (0, 0)) := by
      unfold sortWorldK
      rw [heap_grow_old _ _ (by simp [putRowK, putRow, mapBlock, Sort.ahead]; exact hlt)]
      simp [putRowK, putRow, mapBlock, Sort.ahead, Array.getElem?_modify, hh, onCells]
    have hF : (flatK enc k d).size = n * k := by rw [size_flatK, hd]
    have hle : n * k ≤ cur.size := by rw [hcs]; exact Nat.mul_le_mul_right _ hc
    have hl : (d.toList.flatMap enc) = (flatK enc k d).toList := by
      apply List.ext_getElem?
      intro i
      by_cases hi : i < d.size * k
      · rw [flatK_get enc k hk0 hk d i hi, Array.getElem?_toList, Array.getElem?_eq_getElem (by rw [size_flatK]; exact hi), getElem!_pos _ i (by rw [size_flatK]; exact hi)]
      · rw [List.getElem?_eq_none (by rw [flat_len enc k hk]; simpa using hi), List.getElem?_eq_none (by simpa using hi)]
    refine ⟨⟨by rw [flat_len enc k hk]; simp [hd], .inr ⟨g, cap, _, rfl, hb, hb', hc, hm, by simp [putCells, hcs], ?_⟩⟩, ?_⟩
    · rw [hl, ← hF]
      exact put_take _ _ (by rw [hF]; exact hle)
    · refine ⟨rfl, rfl, rfl, by simp [sortWorldK, putRowK, putRow, mapBlock, Sort.ahead], fun j hj hne => ?_⟩
      unfold sortWorldK
      rw [heap_grow_old _ _ (by simp [putRowK, putRow, mapBlock, Sort.ahead]; exact hj)]
      have : g ≠ j := fun e => hne (by rw [e])
      simp [putRowK, putRow, mapBlock, Sort.ahead, Array.getElem?_modify, this]
end
/- The order of points in lowest form, and of planes; the sort's contract over them. -/
section
open Go.RowKit Go.Shelf Go.Sort Go.Lib
theorem sgn_neg_iff (a b : Int) : sgn a b < 0 ↔ a < b := by unfold sgn; split <;> (try split) <;> omega
theorem sgn_zero_iff (a b : Int) : sgn a b = 0 ↔ a = b := by unfold sgn; split <;> (try split) <;> omega
theorem sgn_pos_iff (a b : Int) : 0 < sgn a b ↔ b < a := by unfold sgn; split <;> (try split) <;> omega
theorem orL3_neg (a b c : Int) : orL [a, b, c] < 0 ↔ a < 0 ∨ (a = 0 ∧ (b < 0 ∨ (b = 0 ∧ c < 0))) := by
  simp only [orL]; split <;> (try split) <;> (try split) <;> omega
theorem orL4_neg (a b c d : Int) : orL [a, b, c, d] < 0 ↔ a < 0 ∨ (a = 0 ∧ (b < 0 ∨ (b = 0 ∧ (c < 0 ∨ (c = 0 ∧ d < 0))))) := by
  simp only [orL]; split <;> (try split) <;> (try split) <;> (try split) <;> omega
theorem comb_sign {a b c p q r : Int} (hp : 0 < p) (hq : 0 < q) (hr : 0 < r) (h : c * q = a * r + b * p) :
    (a < 0 → b ≤ 0 → c < 0) ∧ (a ≤ 0 → b < 0 → c < 0) ∧ (a = 0 → b = 0 → c = 0) ∧ (0 < a → 0 ≤ b → 0 < c) ∧ (0 ≤ a → 0 < b → 0 < c) := by
  have ha : ∀ x : Int, x < 0 → x * r < 0 := fun x hx => Int.mul_neg_of_neg_of_pos hx hr
  have hb : ∀ x : Int, x < 0 → x * p < 0 := fun x hx => Int.mul_neg_of_neg_of_pos hx hp
  have ha' : ∀ x : Int, 0 < x → 0 < x * r := fun x hx => Int.mul_pos hx hr
  have hb' : ∀ x : Int, 0 < x → 0 < x * p := fun x hx => Int.mul_pos hx hp
  have la : ∀ x : Int, x ≤ 0 → x * r ≤ 0 := fun x hx => Int.mul_nonpos_of_nonpos_of_nonneg hx (Int.le_of_lt hr)
  have lb : ∀ x : Int, x ≤ 0 → x * p ≤ 0 := fun x hx => Int.mul_nonpos_of_nonpos_of_nonneg hx (Int.le_of_lt hp)
  have ga : ∀ x : Int, 0 ≤ x → 0 ≤ x * r := fun x hx => Int.mul_nonneg hx (Int.le_of_lt hr)
  have gb : ∀ x : Int, 0 ≤ x → 0 ≤ x * p := fun x hx => Int.mul_nonneg hx (Int.le_of_lt hp)
  have neg : c * q < 0 → c < 0 := fun h => by
    rcases Int.lt_or_le c 0 with h' | h'
    · exact h'
    · have := Int.mul_nonneg h' (Int.le_of_lt hq); omega
  have pos : 0 < c * q → 0 < c := fun h => by
    rcases Int.lt_or_le 0 c with h' | h'
    · exact h'
    · have := Int.mul_nonpos_of_nonpos_of_nonneg h' (Int.le_of_lt hq); omega
  refine ⟨fun h1 h2 => neg ?_, fun h1 h2 => neg ?_, fun h1 h2 => ?_, fun h1 h2 => pos ?_, fun h1 h2 => pos ?_⟩
  · have := ha a h1; have := lb b h2; omega
  · have := la a h1; have := hb b h2; omega
  · subst h1 h2
    have : c * q = 0 := by simpa using h
    rcases Int.mul_eq_zero.1 this with h | h <;> omega
  · have := ha' a h1; have := gb b h2; omega
  · have := ga a h1; have := hb' b h2; omega
/-- The difference of a coordinate. -/
def dif (a p b q : Int) : Int := a * q - b * p
theorem dif_comb (a p b q c r : Int) : dif a p c r * q = dif a p b q * r + dif b q c r * p := by
  unfold dif
  simp only [Int.sub_mul]
  rw [Int.mul_right_comm a r q, Int.mul_right_comm b p r, Int.mul_right_comm c p q, Int.mul_right_comm b r p, Int.mul_right_comm c q p]
  have e1 : c * p * q = c * q * p := Int.mul_right_comm c p q
  have e2 : b * p * r = b * r * p := Int.mul_right_comm b p r
  omega
theorem cmpPt_neg (x y : Q4) : cmpPt x y < 0 ↔ dif x.1 x.2.2.2 y.1 y.2.2.2 < 0 ∨ (dif x.1 x.2.2.2 y.1 y.2.2.2 = 0 ∧ (dif x.2.1 x.2.2.2 y.2.1 y.2.2.2 < 0 ∨ (dif x.2.1 x.2.2.2 y.2.1 y.2.2.2 = 0 ∧ dif x.2.2.1 x.2.2.2 y.2.2.1 y.2.2.2 < 0))) := by
  unfold cmpPt
  rw [orL3_neg, sgn_neg_iff, sgn_zero_iff, sgn_neg_iff, sgn_zero_iff, sgn_neg_iff]
  unfold dif
  omega
theorem dif_anti (a p b q : Int) : dif b q a p = - dif a p b q := by unfold dif; omega
theorem dvd_gcdF (k : Nat) : ∀ (xs : List Int) (g : Nat), k ∣ g → (∀ x ∈ xs, k ∣ x.natAbs) → k ∣ xs.foldl (fun g n => Nat.gcd g n.natAbs) g
  | [], _, hg, _ => hg
  | x :: xs, g, hg, h => dvd_gcdF k xs _ (Nat.dvd_gcd hg (h x (by simp))) (fun y hy => h y (by simp [hy]))
theorem dvd_gcdL (k : Nat) (xs : List Int) (h : ∀ x ∈ xs, (k : Int) ∣ x) : k ∣ gcdL xs :=
  dvd_gcdF k xs 0 (Nat.dvd_zero _) (fun x hx => Int.ofNat_dvd_left.1 (h x hx))
/-- In lowest form, with a positive denominator. -/
def nrmCo (c : Q4) : Prop := okCo c ∧ gcdL [c.1, c.2.1, c.2.2.1, c.2.2.2] = 1
theorem nrm_eq (x y : Q4) (hx : nrmCo x) (hy : nrmCo y) (h1 : x.1 * y.2.2.2 = y.1 * x.2.2.2) (h2 : x.2.1 * y.2.2.2 = y.2.1 * x.2.2.2) (h3 : x.2.2.1 * y.2.2.2 = y.2.2.1 * x.2.2.2) : x = y := by
  obtain ⟨a, b, c, q⟩ := x
  obtain ⟨a', b', c', q'⟩ := y
  simp only at h1 h2 h3
  have hq : 0 < q := by have := hx.1.2.2.2.1; simp only at this; omega
  have hq' : 0 < q' := by have := hy.1.2.2.2.1; simp only at this; omega
  -- q divides q'
  have key : ∀ (a b c q a' b' c' q' : Int), 0 < q → 0 < q' → gcdL [a, b, c, q] = 1 → a * q' = a' * q → b * q' = b' * q → c * q' = c' * q → q ∣ q' := by
    intro a b c q a' b' c' q' hq hq' hg e1 e2 e3
    -- gcd (a q') (b q') (c q') (q q') = q'
    have hd : (q.natAbs) ∣ gcdL [a * q', b * q', c * q', q * q'] := dvd_gcdL _ _ (fun x hx => by
      have hn : ((q.natAbs : Nat) : Int) = q := by omega
      rw [hn]
      simp at hx
      rcases hx with rfl | rfl | rfl | rfl
      · exact ⟨a', by rw [e1, Int.mul_comm]⟩
      · exact ⟨b', by rw [e2, Int.mul_comm]⟩
      · exact ⟨c', by rw [e3, Int.mul_comm]⟩
      · exact ⟨q', rfl⟩)
    have hm : ∀ (xs : List Int) (g : Nat), (xs.map (· * q')).foldl (fun g n => Nat.gcd g n.natAbs) (g * q'.natAbs) = xs.foldl (fun g n => Nat.gcd g n.natAbs) g * q'.natAbs := by
      intro xs
      induction xs with
      | nil => intro g; rfl
      | cons x xs ih =>
        intro g
        simp only [List.map_cons, List.foldl_cons]
        rw [Int.natAbs_mul, Nat.gcd_mul_right]
        exact ih _
    have he : gcdL [a * q', b * q', c * q', q * q'] = gcdL [a, b, c, q] * q'.natAbs := by
      have := hm [a, b, c, q] 0
      simpa [gcdL] using this
    rw [he, hg, Nat.one_mul] at hd
    have := Int.ofNat_dvd.2 hd
    rwa [show ((q.natAbs : Nat) : Int) = q by omega, show ((q'.natAbs : Nat) : Int) = q' by omega] at this
  have d1 := key a b c q a' b' c' q' hq hq' hx.2 h1 h2 h3
  have d2 := key a' b' c' q' a b c q hq' hq hy.2 h1.symm h2.symm h3.symm
  have hqq : q = q' := Int.dvd_antisymm (Int.le_of_lt hq) (Int.le_of_lt hq') d1 d2
  subst hqq
  have c1 := Int.eq_of_mul_eq_mul_right (by omega) h1
  have c2 := Int.eq_of_mul_eq_mul_right (by omega) h2
  have c3 := Int.eq_of_mul_eq_mul_right (by omega) h3
  subst c1 c2 c3
  rfl
abbrev NCo := { c : Q4 // nrmCo c }
instance : Inhabited NCo := ⟨⟨(0, 0, 0, 1), ⟨by unfold okCo; decide, by decide⟩⟩⟩
def cfPt (x y : NCo) : Int := cmpPt x.1 y.1
theorem ltPt (x y : NCo) : ltOf cfPt x y = decide (cmpPt x.1 y.1 < 0) := rfl
theorem qpos (x : NCo) : 0 < x.1.2.2.2 := by have := x.2.1.2.2.2.1; omega
/-- Signs of a sum of two differences. -/
def Sg (a b c : Int) : Prop := (a < 0 → b ≤ 0 → c < 0) ∧ (a ≤ 0 → b < 0 → c < 0) ∧ (a = 0 → b = 0 → c = 0) ∧ (0 < a → 0 ≤ b → 0 < c) ∧ (0 ≤ a → 0 < b → 0 < c)
theorem lex1 {a b c : Int} {A B C : Prop} (e : Sg a b c) (k : A → B → C) (h1 : a < 0 ∨ (a = 0 ∧ A)) (h2 : b < 0 ∨ (b = 0 ∧ B)) : c < 0 ∨ (c = 0 ∧ C) := by
  rcases h1 with h1 | ⟨h1, x⟩ <;> rcases h2 with h2 | ⟨h2, y⟩
  · exact .inl (e.1 h1 (Int.le_of_lt h2))
  · exact .inl (e.1 h1 (by omega))
  · exact .inl (e.2.1 (by omega) h2)
  · exact .inr ⟨e.2.2.1 h1 h2, k x y⟩
theorem lex0 {a b c : Int} (e : Sg a b c) (h1 : a < 0) (h2 : b < 0) : c < 0 := e.1 h1 (Int.le_of_lt h2)
theorem lexn1 {a b c : Int} {A B C : Prop} (e : Sg a b c) (k : ¬ A → ¬ B → ¬ C) (h1 : ¬ (a < 0 ∨ (a = 0 ∧ A))) (h2 : ¬ (b < 0 ∨ (b = 0 ∧ B))) : ¬ (c < 0 ∨ (c = 0 ∧ C)) := by
  have a0 : 0 ≤ a := by rcases Int.lt_or_le a 0 with h | h; exact absurd (.inl h) h1; exact h
  have b0 : 0 ≤ b := by rcases Int.lt_or_le b 0 with h | h; exact absurd (.inl h) h2; exact h
  rcases Int.lt_or_eq_of_le a0 with ha | ha
  · have := e.2.2.2.1 ha b0; rintro (h | ⟨h, _⟩) <;> omega
  · rcases Int.lt_or_eq_of_le b0 with hb | hb
    · have := e.2.2.2.2 a0 hb; rintro (h | ⟨h, _⟩) <;> omega
    · have hc := e.2.2.1 ha.symm hb.symm
      rintro (h | ⟨_, h⟩)
      · omega
      · exact k (fun x => h1 (.inr ⟨ha.symm, x⟩)) (fun x => h2 (.inr ⟨hb.symm, x⟩)) h
theorem lexn0 {a b c : Int} (e : Sg a b c) (h1 : ¬ a < 0) (h2 : ¬ b < 0) : ¬ c < 0 := by
  rcases Int.lt_or_eq_of_le (Int.not_lt.1 h1) with ha | ha
  · have := e.2.2.2.1 ha (by omega); omega
  · rcases Int.lt_or_eq_of_le (Int.not_lt.1 h2) with hb | hb
    · have := e.2.2.2.2 (by omega) hb; omega
    · have := e.2.2.1 ha.symm hb.symm; omega
theorem sg_dif {a p b q c r : Int} (hp : 0 < p) (hq : 0 < q) (hr : 0 < r) : Sg (dif a p b q) (dif b q c r) (dif a p c r) := comb_sign hp hq hr (dif_comb a p b q c r)
theorem swoPt : SWO (ltOf cfPt) where
  irrefl x := by rw [ltPt]; simp only [decide_eq_false_iff_not, cmpPt_neg, dif]; omega
  trans x y z h1 h2 := by
    rw [ltPt, decide_eq_true_eq, cmpPt_neg] at *
    exact lex1 (sg_dif (qpos x) (qpos y) (qpos z)) (lex1 (sg_dif (qpos x) (qpos y) (qpos z)) (lex0 (sg_dif (qpos x) (qpos y) (qpos z)))) h1 h2
  ntrans x y z h1 h2 := by
    rw [ltPt, decide_eq_false_iff_not, cmpPt_neg] at *
    exact lexn1 (sg_dif (qpos x) (qpos y) (qpos z)) (lexn1 (sg_dif (qpos x) (qpos y) (qpos z)) (lexn0 (sg_dif (qpos x) (qpos y) (qpos z)))) h1 h2
theorem totPt (x y : NCo) (h1 : ltOf cfPt x y = false) (h2 : ltOf cfPt y x = false) : x = y := by
  rw [ltPt, decide_eq_false_iff_not, cmpPt_neg] at h1 h2
  have a1 := dif_anti x.1.1 x.1.2.2.2 y.1.1 y.1.2.2.2
  have a2 := dif_anti x.1.2.1 x.1.2.2.2 y.1.2.1 y.1.2.2.2
  have a3 := dif_anti x.1.2.2.1 x.1.2.2.2 y.1.2.2.1 y.1.2.2.2
  have : dif x.1.1 x.1.2.2.2 y.1.1 y.1.2.2.2 = 0 ∧ dif x.1.2.1 x.1.2.2.2 y.1.2.1 y.1.2.2.2 = 0 ∧ dif x.1.2.2.1 x.1.2.2.2 y.1.2.2.1 y.1.2.2.2 = 0 := by omega
  unfold dif at this
  exact Subtype.ext (nrm_eq x.1 y.1 x.2 y.2 (by omega) (by omega) (by omega))
end
/- slices.SortFunc at the corners. -/
section
open Go.RowKit Go.Shelf Go.Sort Go.Lib
def encN (x : NCo) : List Value := enc4 x.1
theorem encN_len (x : NCo) : (encN x).length = 4 := rfl
theorem encN_one (x : NCo) : ∀ v ∈ encN x, v.oneCell' = true := fun v hv => by simp [encN, enc4] at hv; rcases hv with rfl | rfl | rfl | rfl <;> rfl
theorem isAgg_corner : ∀ w, (isAgg 193).run Tryz.prog w = .ok true w := fun _ => by kernel_rfl
theorem sizeOf_corner : ∀ w, (Go.sizeOf 193).run Tryz.prog w = .ok 4 w := fun _ => by kernel_rfl
theorem eg_cmpPt : ∀ args w, (callFunc 248 args).run Tryz.prog w = .ok (.enter 248 args) w := enters_of Tryz.func248 (by kernel_rfl) rfl
theorem cmpLays_pt (blk off size : Nat) (w : World) : CmpLays Tryz.prog 248 #[] encN 4 cfPt blk off size w := fun _ _ _ _ x y => by
  obtain ⟨⟨x0, x1, x2, x3⟩, hx⟩ := x
  obtain ⟨⟨y0, y1, y2, y3⟩, hy⟩ := y
  have ox := hx.1
  have oy := hy.1
  simp only [okCo] at ox oy
  exact comparePoints_any x0 x1 x2 x3 y0 y1 y2 y3 _ ox.1 ox.2.1 ox.2.2.1 (by omega) oy.1 oy.2.1 oy.2.2.1 (by omega)
/-- Points in their order. -/
def sortP (cs : List Q4) : List Q4 := cs.mergeSort (fun x y => !decide (cmpPt y x < 0))
theorem sortCorners (cs : List Q4) (hcs : ∀ c ∈ cs, nrmCo c) (base g n cap : Nat) (w : World) (hn : cs.length = n) (hs : n < 4611686018427387904)
    (hown : w.ownsRow base 193 4 (.slice (some ⟨g, 0, none⟩) n cap) n (cs.flatMap enc4)) :
    Calls Tryz.prog 247 #[.slice (some ⟨g, 0, none⟩) n cap, .func (.func 248) #[] #[]] w fun e w' =>
      e = .returned (.tuple #[]) ∧ w'.ownsRow base 193 4 (.slice (some ⟨g, 0, none⟩) n cap) n ((sortP cs).flatMap enc4) ∧ w.grownBy w' (some g) := by
  have hfl : ∀ l : List NCo, l.flatMap encN = (l.map Subtype.val).flatMap enc4 := fun l => by rw [List.flatMap_map]; rfl
  have hd : (cs.attachWith nrmCo hcs).toArray.size = n := by simp [hn]
  have hv : (cs.attachWith nrmCo hcs).map Subtype.val = cs := List.attachWith_map_subtype_val hcs
  have hown' : w.ownsRow base 193 4 (.slice (some ⟨g, 0, none⟩) n cap) n ((cs.attachWith nrmCo hcs).toArray.toList.flatMap encN) := by
    rw [hfl, List.toList_toArray, hv]; exact hown
  have hg : g < w.heap.size := by
    rcases hown.2 with ⟨h, _⟩ | ⟨g', cap', cur, h, _, hh, _⟩
    · cases h
    · injection h with h1; injection h1 with h1; injection h1 with h1; subst h1; exact blk_lt hh
  have hcon := AnyQ.slices_SortFunc_total Tryz.sortCorner 4 isAgg_corner sizeOf_corner encN encN_len encN_one cfPt swoPt 248 #[] g 0 cap (cs.attachWith nrmCo hcs).toArray w eg_cmpPt (cmpLays_pt _ _ _ _)
    (own_holdsK encN (by decide) encN_len _ hd hown') hg (by rw [hd]; exact hs) totPt
  rw [hd] at hcon
  refine Calls.mono (show Calls Tryz.prog 247 _ _ _ from hcon) ?_
  rintro e w' ⟨rfl, m, os, rfl⟩
  have hsz : (List.mergeSort (cs.attachWith nrmCo hcs) fun x y => !ltOf cfPt y x).toArray.size = n := by simp [hn]
  obtain ⟨h1, h2⟩ := own_sorted (m := m) (os := os) encN (by decide) encN_len _ hsz hown'
  refine ⟨rfl, ?_, h2⟩
  rw [hfl] at h1
  have e : (List.mergeSort (cs.attachWith nrmCo hcs) fun x y => !ltOf cfPt y x).map Subtype.val = sortP cs := by
    unfold sortP
    have := List.map_mergeSort (r := fun x y : NCo => !ltOf cfPt y x) (s := fun x y => !decide (cmpPt y x < 0)) (f := Subtype.val) (l := cs.attachWith nrmCo hcs) (fun a _ b _ => rfl)
    rw [this, hv]
  simp only at h1
  rw [e] at h1
  exact h1
end
/- Rows of structs of four ints: reading, storing, clearing. == on such structs. -/
section
open Go.RowKit Go.Shelf Go.Sort Go.Lib
def RowQ (w : World) (g : Nat) (T : TypeId) (d : Array Q4) (sp : List Value) : Prop := w.heap[g]? = some (.cells (d.toList.flatMap enc4 ++ sp).toArray T (0, 0))
theorem enc4_len (x : Q4) : (enc4 x).length = 4 := rfl
theorem RowQ.get {w : World} {g : Nat} {T : TypeId} {d : Array Q4} {sp : List Value} (h : RowQ w g T d sp) (i : Nat) (hi : i < d.size) :
    w.cell? ⟨g, i * 4, none⟩ = some (.int .i64 d[i]!.1) ∧ w.cell? ⟨g, i * 4 + 1, none⟩ = some (.int .i64 d[i]!.2.1) ∧ w.cell? ⟨g, i * 4 + 2, none⟩ = some (.int .i64 d[i]!.2.2.1) ∧ w.cell? ⟨g, i * 4 + 3, none⟩ = some (.int .i64 d[i]!.2.2.2) := by
  have hl : (d.toList.flatMap enc4).length = d.size * 4 := by rw [flat_len enc4 4 enc4_len]; simp
  have key : ∀ j, j < 4 → w.cell? ⟨g, i * 4 + j, none⟩ = (enc4 d[i]!)[j]? := fun j hj => by
    rw [blk_cell h, List.getElem?_toArray, List.getElem?_append_left (by rw [hl]; omega), flat_get enc4 4 enc4_len d.toList i (by simpa using hi) j hj, getElem!_pos d i hi]
    simp
  exact ⟨key 0 (by omega), key 1 (by omega), key 2 (by omega), key 3 (by omega)⟩
theorem RowQ.free {w : World} {g : Nat} {T : TypeId} {d : Array Q4} {sp : List Value} (h : RowQ w g T d sp) (i : Nat) : w.frozen? ⟨g, i, none⟩ = false := blk_free h i
theorem flat_set (l : List Q4) (i : Nat) (hi : i < l.length) (x : Q4) (sp : List Value) :
    ((((l.flatMap enc4 ++ sp).set (i * 4) (.int .i64 x.1)).set (i * 4 + 1) (.int .i64 x.2.1)).set (i * 4 + 2) (.int .i64 x.2.2.1)).set (i * 4 + 3) (.int .i64 x.2.2.2) = (l.set i x).flatMap enc4 ++ sp := by
  induction l generalizing i with
  | nil => simp at hi
  | cons y l ih =>
    cases i with
    | zero => simp [enc4]
    | succ i =>
      have := ih i (by simpa using hi)
      simp only [List.flatMap_cons, List.set_cons_succ, List.append_assoc, enc4] at this ⊢
      rw [show (i + 1) * 4 = i * 4 + 4 by omega]
      simp only [List.cons_append, List.nil_append, List.set_cons_succ]
      rw [this]
theorem RowQ.set {w : World} {g : Nat} {T : TypeId} {d : Array Q4} {sp : List Value} (h : RowQ w g T d sp) (i : Nat) (hi : i < d.size) (x : Q4) :
    RowQ ((((w.setCell ⟨g, i * 4, none⟩ (.int .i64 x.1)).setCell ⟨g, i * 4 + 1, none⟩ (.int .i64 x.2.1)).setCell ⟨g, i * 4 + 2, none⟩ (.int .i64 x.2.2.1)).setCell ⟨g, i * 4 + 3, none⟩ (.int .i64 x.2.2.2)) g T (d.setIfInBounds i x) sp := by
  have := blk_set (blk_set (blk_set (blk_set h (i * 4) (.int .i64 x.1)) (i * 4 + 1) (.int .i64 x.2.1)) (i * 4 + 2) (.int .i64 x.2.2.1)) (i * 4 + 3) (.int .i64 x.2.2.2)
  unfold RowQ
  rw [this]
  simp only [List.setIfInBounds_toArray, Array.toList_setIfInBounds]
  rw [flat_set _ _ (by simpa using hi)]
theorem RowQ.keep {w w' : World} {g : Nat} {T : TypeId} {d : Array Q4} {sp : List Value} (h : RowQ w g T d sp) (hb : Below w.heap.size w w') : RowQ w' g T d sp := (hb.block g (blk_lt h)).trans h
theorem grown_below {w w1 w2 : World} {row : Option Nat} (h : w.grownBy w1 row) (hb : Below w1.heap.size w1 w2) : w.grownBy w2 row :=
  ⟨hb.os.trans h.os, hb.tape.trans h.tape, hb.output.trans h.output, Nat.le_trans h.size hb.size, fun k hk hne => (hb.block k (Nat.lt_of_lt_of_le hk h.size)).trans (h.block k hk hne)⟩
theorem grown_set {w w1 : World} {g : Nat} (h : w.grownBy w1 (some g)) (i : Nat) (v : Value) : w.grownBy (w1.setCell ⟨g, i, none⟩ v) (some g) :=
  ⟨h.os, h.tape, h.output, by simpa [World.setCell] using h.size, fun k hk hne => (Below.heap_setCell _ _ _ _ (fun e => hne (by rw [e]))).trans (h.block k hk hne)⟩
theorem own_rowq {w : World} {base g n cap : Nat} {T : TypeId} (d : Array Q4) (h : w.ownsRow base T 4 (.slice (some ⟨g, 0, none⟩) n cap) n (d.toList.flatMap enc4)) : ∃ sp, RowQ w g T d sp ∧ base ≤ g ∧ cap ≤ maxLen ∧ n ≤ cap ∧ n * 4 + sp.length = cap * 4 := by
  rcases h.2 with ⟨h0, _⟩ | ⟨g', cap', cur, hv, hb, hh, hc, hm, hcs, ht⟩
  · cases h0
  · injection hv with h1 h2 h3
    injection h1 with h1
    injection h1 with h1
    subst h1 h3
    refine ⟨cur.toList.drop (n * 4), ?_, hb, hm, hc, ?_⟩
    · unfold RowQ
      rw [← ht, List.take_append_drop]
      simpa using hh
    · have := Nat.mul_le_mul_right 4 hc
      simp; omega
theorem rowq_own {w : World} {base g n m cap : Nat} {T : TypeId} {d : Array Q4} {sp : List Value} (h : RowQ w g T d sp) (hb : base ≤ g) (hm : cap ≤ maxLen) (hd : d.size = n) (hs : n * 4 + sp.length = cap * 4) (hle : m ≤ n) :
    w.ownsRow base T 4 (.slice (some ⟨g, 0, none⟩) m cap) m ((d.toList.take m).flatMap enc4) := by
  have hl : (d.toList.flatMap enc4).length = n * 4 := by rw [flat_len enc4 4 enc4_len]; simp [hd]
  have ht : ∀ (l : List Q4) (m : Nat), (l.flatMap enc4).take (m * 4) = (l.take m).flatMap enc4 := by
    intro l
    induction l with
    | nil => simp
    | cons x l ih =>
      intro m
      cases m with
      | zero => simp
      | succ m =>
        simp only [List.flatMap_cons, List.take_succ_cons]
        rw [List.take_append, List.take_of_length_le (by rw [enc4_len]; omega), enc4_len, show (m + 1) * 4 - 4 = m * 4 by omega, ih]
  refine ⟨by rw [flat_len enc4 4 enc4_len]; simp; omega, .inr ⟨g, cap, _, rfl, hb, h, by omega, hm, by simp only [List.size_toArray, List.length_append]; omega, ?_⟩⟩
  simp only
  rw [List.take_append_of_le_length (by rw [hl]; omega), ht]
theorem und_Corner : ∀ w, (zeroValue 193).run Tryz.prog w = .ok (v4 (0, 0, 0, 0)) w := fun _ => by kernel_rfl
theorem und_Plane : ∀ w, (zeroValue 95).run Tryz.prog w = .ok (v4 (0, 0, 0, 0)) w := fun _ => by kernel_rfl
/-- clear at structs of four ints. -/
theorem run_clear4 {P : Program} (w : World) (t e ty : TypeId) (ht : P.underlying t = some (.slice e)) (hv : ∀ w, (zeroValue e).run P w = .ok (v4 (0, 0, 0, 0)) w) (b o n c : Nat) (hn : 0 < n)
    (hc : ∀ j, j < n * 4 → (w.cell? ⟨b, o + j, none⟩).isSome = true) (hf : ∀ j, j < n * 4 → w.frozen? ⟨b, o + j, none⟩ = false) :
    (Builtin.clear_ #[t] ty #[.slice (some ⟨b, o, none⟩) n c]).run P w = .ok (.tuple #[]) (w.setCells b o (List.replicate (n * 4) (.int .i64 0))) := by
  have hzc : (Builtin.zeroCells (v4 (0, 0, 0, 0)).cells n).toList = List.replicate (n * 4) (.int .i64 0) := by
    apply List.ext_getElem
    · simp [Builtin.zeroCells, Value.cells]
    · intro i h1 h2
      simp [Builtin.zeroCells, Value.cells]
      have : i % 4 = 0 ∨ i % 4 = 1 ∨ i % 4 = 2 ∨ i % 4 = 3 := by omega
      rcases this with h | h | h | h <;> simp [h]
  have hst := run_storeCells_cells (P := P) b o (List.replicate (n * 4) (.int .i64 0)) 0 w (by simpa using hc) (by simpa using hf) (by intro v hv'; rw [List.eq_of_mem_replicate hv']; rfl)
  simp only [Nat.add_zero] at hst
  obtain ⟨m, rfl⟩ : ∃ m, n = m + 1 := ⟨n - 1, by omega⟩
  simp [Builtin.clear_, run_underlying ht, hv, hzc, hst]
theorem setCells_blk (g : Nat) (T : TypeId) : ∀ (vs : List Value) (o : Nat) (w : World) (cur : Array Value), w.heap[g]? = some (.cells cur T (0, 0)) →
    ∃ cur', (w.setCells g o vs).heap[g]? = some (.cells cur' T (0, 0)) ∧ cur'.size = cur.size ∧ ∀ i, i < o → cur'[i]? = cur[i]?
  | [], _, _, cur, h => ⟨cur, h, rfl, fun _ _ => rfl⟩
  | v :: r, o, w, cur, h => by
    obtain ⟨cur', h1, h2, h3⟩ := setCells_blk g T r (o + 1) (w.setCell ⟨g, o, none⟩ v) _ (blk_set h o v)
    refine ⟨cur', h1, by rw [h2]; simp, fun i hi => ?_⟩
    rw [h3 i (by omega), Array.getElem?_setIfInBounds_ne (by omega)]
theorem grown_setCells {w : World} {g : Nat} : ∀ (vs : List Value) (o : Nat) (w1 : World), w.grownBy w1 (some g) → w.grownBy (w1.setCells g o vs) (some g)
  | [], _, _, h => h
  | v :: r, o, _, h => grown_setCells r (o + 1) _ (grown_set h o v)
theorem eqF (d : Nat) (a x : Int) (w : World) : (Op.equalIn (d + 1) 3 (.int .i64 a) (.int .i64 x)).run Tryz.prog w = .ok (a == x) w := run_equalIn_int w d _ .i64 _ a x und_int
end
/- == on corners and planes. -/
section
open Go.RowKit Go.Shelf Go.Sort Go.Lib
theorem part4_0 (x y z q : Value) (w : World) : (part 3 #[x, y, z, q] 0).run Tryz.prog w = .ok x w := by kernel_rfl
theorem part4_1 (x y z q : Value) (w : World) : (part 3 #[x, y, z, q] 1).run Tryz.prog w = .ok y w := by kernel_rfl
theorem part4_2 (x y z q : Value) (w : World) : (part 3 #[x, y, z, q] 2).run Tryz.prog w = .ok z w := by kernel_rfl
theorem part4_3 (x y z q : Value) (w : World) : (part 3 #[x, y, z, q] 3).run Tryz.prog w = .ok q w := by kernel_rfl
theorem und_co : Tryz.prog.underlying 193 = some (.struct (Tryz.prog.fieldsOf 193)) := by kernel_rfl
theorem und_pl : Tryz.prog.underlying 95 = some (.struct (Tryz.prog.fieldsOf 95)) := by kernel_rfl
theorem fields_co : (Tryz.prog.fieldsOf 193).toList.map (fun f => (f.type, f.offset, decide (f.name ≠ "_"))) = [(3, 0, true), (3, 1, true), (3, 2, true), (3, 3, true)] := by kernel_rfl
theorem fields_pl : (Tryz.prog.fieldsOf 95).toList.map (fun f => (f.type, f.offset, decide (f.name ≠ "_"))) = [(3, 0, true), (3, 1, true), (3, 2, true), (3, 3, true)] := by kernel_rfl
theorem eqFields4 (d : Nat) (fs : List Field) (hf : fs.map (fun f => (f.type, f.offset, decide (f.name ≠ "_"))) = [(3, 0, true), (3, 1, true), (3, 2, true), (3, 3, true)]) (a b c e x y z q : Int) (w : World) :
    (Op.eqFields (d + 1) #[.int .i64 a, .int .i64 b, .int .i64 c, .int .i64 e] #[.int .i64 x, .int .i64 y, .int .i64 z, .int .i64 q] fs).run Tryz.prog w = .ok (a == x && b == y && c == z && e == q) w := by
  have hlen : fs.length = 4 := by simpa using congrArg List.length hf
  match fs, hlen, hf with
  | [f0, f1, f2, f3], _, hf =>
    simp only [List.map_cons, List.map_nil, List.cons.injEq, Prod.mk.injEq, and_true, decide_eq_true_eq] at hf
    obtain ⟨⟨a0, o0, n0⟩, ⟨a1, o1, n1⟩, ⟨a2, o2, n2⟩, ⟨a3, o3, n3⟩⟩ := hf
    simp [Op.eqFields, a0, o0, n0, a1, o1, n1, a2, o2, n2, a3, o3, n3, part4_0, part4_1, part4_2, part4_3, eqF]
    by_cases h1 : a = x <;> by_cases h2 : b = y <;> by_cases h3 : c = z <;> by_cases h4 : e = q <;> simp [h1, h2, h3, h4]
theorem equalIn_co (a b c e x y z q : Int) (w : World) : (Op.equalIn 10000 193 (v4 (a, b, c, e)) (v4 (x, y, z, q))).run Tryz.prog w = .ok (a == x && b == y && c == z && e == q) w := by
  rw [run_equalIn_struct w 9999 _ _ _ und_co (by kernel_rfl), eqFields4 9998 _ fields_co]
theorem equalIn_pl (a b c e x y z q : Int) (w : World) : (Op.equalIn 10000 95 (v4 (a, b, c, e)) (v4 (x, y, z, q))).run Tryz.prog w = .ok (a == x && b == y && c == z && e == q) w := by
  rw [run_equalIn_struct w 9999 _ _ _ und_pl (by kernel_rfl), eqFields4 9998 _ fields_pl]
theorem beqQ (x y : Q4) : (x.1 == y.1 && x.2.1 == y.2.1 && x.2.2.1 == y.2.2.1 && x.2.2.2 == y.2.2.2) = decide (x = y) := by
  obtain ⟨a, b, c, d⟩ := x
  obtain ⟨a', b', c', d'⟩ := y
  rw [Bool.eq_iff_iff]
  simp [Prod.ext_iff, and_assoc]
theorem eq_co (x y : Q4) (w : World) : (Op.equalIn 10000 193 (.agg #[.int .i64 x.1, .int .i64 x.2.1, .int .i64 x.2.2.1, .int .i64 x.2.2.2]) (.agg #[.int .i64 y.1, .int .i64 y.2.1, .int .i64 y.2.2.1, .int .i64 y.2.2.2])).run Tryz.prog w = .ok (decide (x = y)) w := by
  rw [← beqQ]; exact equalIn_co _ _ _ _ _ _ _ _ w
theorem eq_pl (x y : Q4) (w : World) : (Op.equalIn 10000 95 (.agg #[.int .i64 x.1, .int .i64 x.2.1, .int .i64 x.2.2.1, .int .i64 x.2.2.2]) (.agg #[.int .i64 y.1, .int .i64 y.2.1, .int .i64 y.2.2.1, .int .i64 y.2.2.2])).run Tryz.prog w = .ok (decide (x = y)) w := by
  rw [← beqQ]; exact equalIn_pl _ _ _ _ _ _ _ _ w
end
/- slices.Compact at corners, planes and cells of a joint, over a row that the call owns. -/
section
open Go.RowKit Go.Shelf Go.Sort Go.Lib
attribute [local go_sem] Ext.cell Ext.frozen
theorem compact_len_le (d : Array Q4) (m : Nat) : (compactUpTo d m).length ≤ m := by
  unfold compactUpTo
  rw [List.length_map]
  exact Nat.le_trans (List.length_filter_le _ _) (by simp)
theorem und_corners' : Tryz.prog.underlying 189 = some (.slice 193) := by kernel_rfl
theorem und_planes' : Tryz.prog.underlying 91 = some (.slice 95) := by kernel_rfl
set_option maxRecDepth 100000 in
set_option maxHeartbeats 2000000 in
theorem compact_corner (d : Array Q4) (g n cap base : Nat) (w : World) (hd : d.size = n) (hn : n ≤ 10000000) (h2 : 2 ≤ n) (hown : w.ownsRow base 193 4 (.slice (some ⟨g, 0, none⟩) n cap) n (d.toList.flatMap enc4)) :
    Calls Tryz.prog 249 #[.slice (some ⟨g, 0, none⟩) n cap] w fun e w' => e = .returned (.slice (some ⟨g, 0, none⟩) (compactUpTo d n).length cap) ∧ w.grownBy w' (some g) ∧
      w'.ownsRow base 193 4 (.slice (some ⟨g, 0, none⟩) (compactUpTo d n).length cap) (compactUpTo d n).length ((compactUpTo d n).flatMap enc4) := by
  obtain ⟨sp, hrow, hbase, hcap, hnc, hsp⟩ := own_rowq d hown
  have HR := Lib.hid hrow
  clear hown hrow
  go_enter Tryz.func249, Tryz.ntmps249
  go_wp2
  go_loopw [3] (fun i wr => ∃ k : Nat, 1 ≤ k ∧ k ≤ n ∧ i = .int .i64 k ∧ w.grownBy wr (some g) ∧ Hid (RowQ wr g 193 d sp) ∧ Hid (∀ j, j < k → keeps d j = true)) (fun i _ => n - (intOf i).toNat)
  case atStart => exact ⟨1, by omega, by omega, rfl, ⟨rfl, rfl, rfl, Nat.le_refl _, fun _ _ _ => rfl⟩, HR, Lib.hid (keeps_lt_one d)⟩
  case round =>
    clear HR
    obtain ⟨k, hk1, hk, rfl, hgr, HR, Ha⟩ := hrel
    by_cases hlt : k < n
    · obtain ⟨c0, c1, c2, c3⟩ := HR.out.get k (by omega)
      obtain ⟨e0, e1, e2, e3⟩ := HR.out.get (k - 1) (by omega)
      have zg := blk_lt HR.out
      obtain ⟨x, Hx⟩ : ∃ x, Hid (d[k]! = x) := ⟨_, Lib.hid rfl⟩
      obtain ⟨y, Hy⟩ : ∃ y, Hid (d[k - 1]! = y) := ⟨_, Lib.hid rfl⟩
      rw [Hx.out] at c0 c1 c2 c3
      rw [Hy.out] at e0 e1 e2 e3
      have hq := eq_co x y
      by_cases hxy : x = y
      · have Hxy := Lib.hid hxy
        rw [decide_eq_true hxy] at hq
        clear hxy
        go_wp2
        refine wp_region_quietB (by kernel_rfl) (by kernel_rfl) ?_
        repeat (first | go_big_quiet_step (fail) | quiet_step (fail))
        refine wpQuiet_nil ?_
        rintro _ ⟨u, rfl⟩
        have HR1 : Hid (RowQ u.val g 193 d sp) := Lib.hid (HR.out.keep u.below)
        have hgr1 := grown_below hgr u.below
        clear c0 c1 c2 c3 e0 e1 e2 e3 hq HR hgr
        go_wp2
        go_loopw [3, 5] (fun s3 s5 wr => ∃ (kk k2 : Nat) (dk : Array Q4), s3 = .int .i64 kk ∧ s5 = .int .i64 k2 ∧ 1 ≤ k2 ∧ k + k2 ≤ n ∧ w.grownBy wr (some g) ∧ Hid (RowQ wr g 193 dk sp) ∧ Hid (CompInv d (k + k2) kk dk)) (fun _ i _ => n - (intOf i).toNat)
        case atStart => exact ⟨k, 1, d, rfl, rfl, Nat.le_refl _, by omega, hgr1, HR1, Lib.hid (CompInv.start Ha.out (keeps_neg (by omega) (by rw [Hx.out, Hy.out]; exact Hxy.out)))⟩
        case round =>
          clear HR1 hgr1
          obtain ⟨kk, k2, dk, rfl, rfl, h1, hle, hgr, HR, HI⟩ := hrel
          have hkk := HI.out.lt
          have hds := HI.out.size
          have zg := blk_lt HR.out
          have fz := HR.out.free
          by_cases hlt2 : k + k2 < n
          · obtain ⟨c0, c1, c2, c3⟩ := HR.out.get (k + k2) (by omega)
            obtain ⟨e0, e1, e2, e3⟩ := HR.out.get (k + k2 - 1) (by omega)
            obtain ⟨d0, d1, d2, d3⟩ := HR.out.get kk (by omega)
            rw [HI.out.high (k + k2) (by omega), show (k + k2) * 4 = k * 4 + k2 * 4 by omega] at c0 c1 c2 c3
            rw [HI.out.high (k + k2 - 1) (by omega), show (k + k2 - 1) * 4 = k * 4 + (k2 - 1) * 4 by omega] at e0 e1 e2 e3
            obtain ⟨x2, Hx2⟩ : ∃ x, Hid (d[k + k2]! = x) := ⟨_, Lib.hid rfl⟩
            obtain ⟨y2, Hy2⟩ : ∃ y, Hid (d[k + k2 - 1]! = y) := ⟨_, Lib.hid rfl⟩
            rw [Hx2.out] at c0 c1 c2 c3
            rw [Hy2.out] at e0 e1 e2 e3
            have hq := eq_co x2 y2
            have Hds := Lib.hid hds
            clear hds
            by_cases hxy2 : x2 = y2
            · have Hxy2 := Lib.hid hxy2
              rw [decide_eq_true hxy2] at hq
              clear hxy2
              go_wp2
              refine wp_region_quietB (by kernel_rfl) (by kernel_rfl) ?_
              repeat (first | go_big_quiet_step (fail) | quiet_step (fail))
              refine wpQuiet_nil ?_
              rintro _ ⟨u, rfl⟩
              have HR1 : Hid (RowQ u.val g 193 dk sp) := Lib.hid (HR.out.keep u.below)
              have hgr1 := grown_below hgr u.below
              clear c0 c1 c2 c3 e0 e1 e2 e3 d0 d1 d2 d3 hq HR hgr
              go_wp2
              go_roundw
              case rel => exact ⟨kk, k2 + 1, dk, rfl, by go_num, by omega, by omega, hgr1, HR1, Lib.hid (HI.out.skip (keeps_neg (by omega) (by rw [Hx2.out, Hy2.out]; exact Hxy2.out)))⟩
              case measure => simp [intOf]; omega
            · have Hxy2 := Lib.hid hxy2
              rw [decide_eq_false hxy2] at hq
              clear hxy2
              go_wp2
              refine wp_region_quietB (by kernel_rfl) (by kernel_rfl) ?_
              repeat (first | go_big_quiet_step (fail) | quiet_step (fail))
              refine wpQuiet_nil ?_
              rintro _ ⟨u, rfl⟩
              have HR1 : Hid (RowQ u.val g 193 dk sp) := Lib.hid (HR.out.keep u.below)
              have hgr1 := grown_below hgr u.below
              have zu : g < u.val.heap.size := blk_lt HR1.out
              go_wp2
              go_roundw
              case rel =>
                refine ⟨kk + 1, k2 + 1, dk.setIfInBounds kk x2, by go_num, by go_num, by omega, by omega, grown_set (grown_set (grown_set (grown_set hgr1 _ _) _ _) _ _) _ _, Lib.hid (HR1.out.set kk (by have := Hds.out; omega) x2), Lib.hid ?_⟩
                have := HI.out.keep (by omega) (keeps_pos (by rw [Hx2.out, Hy2.out]; exact Hxy2.out))
                rw [Hx2.out] at this
                exact this
              case measure => simp [intOf]; omega
          · have hend : k + k2 = n := by omega
            have hcl : ∀ ty, (Builtin.clear_ #[189] ty #[.slice (some ⟨g, kk * 4, none⟩) (n - kk) (cap - kk)]).run Tryz.prog wr = .ok (.tuple #[]) (wr.setCells g (kk * 4) (List.replicate ((n - kk) * 4) (.int .i64 0))) := fun ty =>
              run_clear4 wr _ _ ty und_corners' und_Corner g (kk * 4) _ _ (by omega) (fun j hj => by
                rw [blk_cell HR.out]
                have hl : (dk.toList.flatMap enc4).length = n * 4 := by rw [flat_len enc4 4 enc4_len]; simp; omega
                have hlt : kk * 4 + j < (dk.toList.flatMap enc4 ++ sp).toArray.size := by simp only [List.size_toArray, List.length_append, hl]; omega
                rw [Array.getElem?_eq_getElem hlt]; rfl) (fun j _ => fz _)
            have Hend := Lib.hid hend
            have Hds := Lib.hid hds
            clear hds hend fz
            go_wp2
            go_ret
            have hlen : (compactUpTo d n).length = kk := by have := HI.out.len; rwa [Hend.out] at this
            rw [hlen]
            refine ⟨rfl, grown_setCells _ _ _ hgr, ?_⟩
            have hlow : compactUpTo d n = dk.toList.take kk := by
              apply List.ext_getElem?
              intro i
              by_cases hi : i < kk
              · have := HI.out.low i hi
                rw [Hend.out] at this
                rw [this, List.getElem?_take_of_lt hi, Array.getElem?_toList, Array.getElem?_eq_getElem (by have := Hds.out; omega), getElem!_pos _ i (by have := Hds.out; omega)]
              · rw [List.getElem?_eq_none (by omega), List.getElem?_eq_none (by simp; omega)]
            obtain ⟨cur', hb', hs', hsame⟩ := setCells_blk g 193 (List.replicate ((n - kk) * 4) (.int .i64 0)) (kk * 4) wr _ HR.out
            have hown0 := rowq_own (m := kk) (n := n) HR.out hbase hcap (by have := Hds.out; omega) hsp (by omega)
            rw [hlow]
            refine ⟨hown0.1, .inr ⟨g, cap, cur', rfl, hbase, hb', by omega, hcap, ?_, ?_⟩⟩
            · rw [hs']; simp only [List.size_toArray, List.length_append]; rw [flat_len enc4 4 enc4_len]; simp; have := Hds.out; omega
            · rcases hown0.2 with ⟨h0, _⟩ | ⟨g', cap', cur, hv, _, hh, _, _, _, ht⟩
              · cases h0
              · injection hv with h1 h2 h3
                injection h1 with h1
                injection h1 with h1
                subst h1
                rw [HR.out] at hh
                injection hh with hh
                injection hh with hh
                subst hh
                rw [← ht]
                apply List.ext_getElem?
                intro i
                by_cases hi : i < kk * 4
                · rw [List.getElem?_take_of_lt hi, List.getElem?_take_of_lt hi]
                  simpa using hsame i hi
                · rw [List.getElem?_eq_none (by simp; omega), List.getElem?_eq_none (by simp; omega)]
      · have Hxy := Lib.hid hxy
        rw [decide_eq_false hxy] at hq
        clear hxy
        go_wp2
        refine wp_region_quietB (by kernel_rfl) (by kernel_rfl) ?_
        repeat (first | go_big_quiet_step (fail) | quiet_step (fail))
        refine wpQuiet_nil ?_
        rintro _ ⟨u, rfl⟩
        have HR1 : Hid (RowQ u.val g 193 d sp) := Lib.hid (HR.out.keep u.below)
        have hgr1 := grown_below hgr u.below
        clear c0 c1 c2 c3 e0 e1 e2 e3 hq HR hgr
        go_wp2
        go_roundw
        case rel => exact ⟨k + 1, by omega, by omega, by go_num, hgr1, HR1, Lib.hid (fun j hj => by
          by_cases e : j = k
          · subst e; exact keeps_pos (by rw [Hx.out, Hy.out]; exact Hxy.out)
          · exact Ha.out j (by omega))⟩
        case measure => simp [intOf]; omega
    · obtain rfl : k = n := by omega
      go_wp2
      go_ret
      have e : compactUpTo d k = d.toList := by rw [compactUpTo_all d _ Ha.out, ← hd, range_map_get]
      have hl : (compactUpTo d k).length = k := by rw [e]; simpa using hd
      rw [hl]
      refine ⟨rfl, hgr, ?_⟩
      have := rowq_own (m := k) HR.out hbase hcap hd hsp (Nat.le_refl _)
      rw [e]
      rwa [List.take_of_length_le (by simp [hd])] at this
set_option maxRecDepth 100000 in
set_option maxHeartbeats 2000000 in
theorem compact_plane (d : Array Q4) (g n cap base : Nat) (w : World) (hd : d.size = n) (hn : n ≤ 10000000) (h2 : 2 ≤ n) (hown : w.ownsRow base 95 4 (.slice (some ⟨g, 0, none⟩) n cap) n (d.toList.flatMap enc4)) :
    Calls Tryz.prog 228 #[.slice (some ⟨g, 0, none⟩) n cap] w fun e w' => e = .returned (.slice (some ⟨g, 0, none⟩) (compactUpTo d n).length cap) ∧ w.grownBy w' (some g) ∧
      w'.ownsRow base 95 4 (.slice (some ⟨g, 0, none⟩) (compactUpTo d n).length cap) (compactUpTo d n).length ((compactUpTo d n).flatMap enc4) := by
  obtain ⟨sp, hrow, hbase, hcap, hnc, hsp⟩ := own_rowq d hown
  have HR := Lib.hid hrow
  clear hown hrow
  go_enter Tryz.func228, Tryz.ntmps228
  go_wp2
  go_loopw [3] (fun i wr => ∃ k : Nat, 1 ≤ k ∧ k ≤ n ∧ i = .int .i64 k ∧ w.grownBy wr (some g) ∧ Hid (RowQ wr g 95 d sp) ∧ Hid (∀ j, j < k → keeps d j = true)) (fun i _ => n - (intOf i).toNat)
  case atStart => exact ⟨1, by omega, by omega, rfl, ⟨rfl, rfl, rfl, Nat.le_refl _, fun _ _ _ => rfl⟩, HR, Lib.hid (keeps_lt_one d)⟩
  case round =>
    clear HR
    obtain ⟨k, hk1, hk, rfl, hgr, HR, Ha⟩ := hrel
    by_cases hlt : k < n
    · obtain ⟨c0, c1, c2, c3⟩ := HR.out.get k (by omega)
      obtain ⟨e0, e1, e2, e3⟩ := HR.out.get (k - 1) (by omega)
      have zg := blk_lt HR.out
      obtain ⟨x, Hx⟩ : ∃ x, Hid (d[k]! = x) := ⟨_, Lib.hid rfl⟩
      obtain ⟨y, Hy⟩ : ∃ y, Hid (d[k - 1]! = y) := ⟨_, Lib.hid rfl⟩
      rw [Hx.out] at c0 c1 c2 c3
      rw [Hy.out] at e0 e1 e2 e3
      have hq := eq_pl x y
      by_cases hxy : x = y
      · have Hxy := Lib.hid hxy
        rw [decide_eq_true hxy] at hq
        clear hxy
        go_wp2
        refine wp_region_quietB (by kernel_rfl) (by kernel_rfl) ?_
        repeat (first | go_big_quiet_step (fail) | quiet_step (fail))
        refine wpQuiet_nil ?_
        rintro _ ⟨u, rfl⟩
        have HR1 : Hid (RowQ u.val g 95 d sp) := Lib.hid (HR.out.keep u.below)
        have hgr1 := grown_below hgr u.below
        clear c0 c1 c2 c3 e0 e1 e2 e3 hq HR hgr
        go_wp2
        go_loopw [3, 5] (fun s3 s5 wr => ∃ (kk k2 : Nat) (dk : Array Q4), s3 = .int .i64 kk ∧ s5 = .int .i64 k2 ∧ 1 ≤ k2 ∧ k + k2 ≤ n ∧ w.grownBy wr (some g) ∧ Hid (RowQ wr g 95 dk sp) ∧ Hid (CompInv d (k + k2) kk dk)) (fun _ i _ => n - (intOf i).toNat)
        case atStart => exact ⟨k, 1, d, rfl, rfl, Nat.le_refl _, by omega, hgr1, HR1, Lib.hid (CompInv.start Ha.out (keeps_neg (by omega) (by rw [Hx.out, Hy.out]; exact Hxy.out)))⟩
        case round =>
          clear HR1 hgr1
          obtain ⟨kk, k2, dk, rfl, rfl, h1, hle, hgr, HR, HI⟩ := hrel
          have hkk := HI.out.lt
          have hds := HI.out.size
          have zg := blk_lt HR.out
          have fz := HR.out.free
          by_cases hlt2 : k + k2 < n
          · obtain ⟨c0, c1, c2, c3⟩ := HR.out.get (k + k2) (by omega)
            obtain ⟨e0, e1, e2, e3⟩ := HR.out.get (k + k2 - 1) (by omega)
            obtain ⟨d0, d1, d2, d3⟩ := HR.out.get kk (by omega)
            rw [HI.out.high (k + k2) (by omega), show (k + k2) * 4 = k * 4 + k2 * 4 by omega] at c0 c1 c2 c3
            rw [HI.out.high (k + k2 - 1) (by omega), show (k + k2 - 1) * 4 = k * 4 + (k2 - 1) * 4 by omega] at e0 e1 e2 e3
            obtain ⟨x2, Hx2⟩ : ∃ x, Hid (d[k + k2]! = x) := ⟨_, Lib.hid rfl⟩
            obtain ⟨y2, Hy2⟩ : ∃ y, Hid (d[k + k2 - 1]! = y) := ⟨_, Lib.hid rfl⟩
            rw [Hx2.out] at c0 c1 c2 c3
            rw [Hy2.out] at e0 e1 e2 e3
            have hq := eq_pl x2 y2
            have Hds := Lib.hid hds
            clear hds
            by_cases hxy2 : x2 = y2
            · have Hxy2 := Lib.hid hxy2
              rw [decide_eq_true hxy2] at hq
              clear hxy2
              go_wp2
              refine wp_region_quietB (by kernel_rfl) (by kernel_rfl) ?_
              repeat (first | go_big_quiet_step (fail) | quiet_step (fail))
              refine wpQuiet_nil ?_
              rintro _ ⟨u, rfl⟩
              have HR1 : Hid (RowQ u.val g 95 dk sp) := Lib.hid (HR.out.keep u.below)
              have hgr1 := grown_below hgr u.below
              clear c0 c1 c2 c3 e0 e1 e2 e3 d0 d1 d2 d3 hq HR hgr
              go_wp2
              go_roundw
              case rel => exact ⟨kk, k2 + 1, dk, rfl, by go_num, by omega, by omega, hgr1, HR1, Lib.hid (HI.out.skip (keeps_neg (by omega) (by rw [Hx2.out, Hy2.out]; exact Hxy2.out)))⟩
              case measure => simp [intOf]; omega
            · have Hxy2 := Lib.hid hxy2
              rw [decide_eq_false hxy2] at hq
              clear hxy2
              go_wp2
              refine wp_region_quietB (by kernel_rfl) (by kernel_rfl) ?_
              repeat (first | go_big_quiet_step (fail) | quiet_step (fail))
              refine wpQuiet_nil ?_
              rintro _ ⟨u, rfl⟩
              have HR1 : Hid (RowQ u.val g 95 dk sp) := Lib.hid (HR.out.keep u.below)
              have hgr1 := grown_below hgr u.below
              have zu : g < u.val.heap.size := blk_lt HR1.out
              go_wp2
              go_roundw
              case rel =>
                refine ⟨kk + 1, k2 + 1, dk.setIfInBounds kk x2, by go_num, by go_num, by omega, by omega, grown_set (grown_set (grown_set (grown_set hgr1 _ _) _ _) _ _) _ _, Lib.hid (HR1.out.set kk (by have := Hds.out; omega) x2), Lib.hid ?_⟩
                have := HI.out.keep (by omega) (keeps_pos (by rw [Hx2.out, Hy2.out]; exact Hxy2.out))
                rw [Hx2.out] at this
                exact this
              case measure => simp [intOf]; omega
          · have hend : k + k2 = n := by omega
            have hcl : ∀ ty, (Builtin.clear_ #[91] ty #[.slice (some ⟨g, kk * 4, none⟩) (n - kk) (cap - kk)]).run Tryz.prog wr = .ok (.tuple #[]) (wr.setCells g (kk * 4) (List.replicate ((n - kk) * 4) (.int .i64 0))) := fun ty =>
              run_clear4 wr _ _ ty und_planes' und_Plane g (kk * 4) _ _ (by omega) (fun j hj => by
                rw [blk_cell HR.out]
                have hl : (dk.toList.flatMap enc4).length = n * 4 := by rw [flat_len enc4 4 enc4_len]; simp; omega
                have hlt : kk * 4 + j < (dk.toList.flatMap enc4 ++ sp).toArray.size := by simp only [List.size_toArray, List.length_append, hl]; omega
                rw [Array.getElem?_eq_getElem hlt]; rfl) (fun j _ => fz _)
            have Hend := Lib.hid hend
            have Hds := Lib.hid hds
            clear hds hend fz
            go_wp2
            go_ret
            have hlen : (compactUpTo d n).length = kk := by have := HI.out.len; rwa [Hend.out] at this
            rw [hlen]
            refine ⟨rfl, grown_setCells _ _ _ hgr, ?_⟩
            have hlow : compactUpTo d n = dk.toList.take kk := by
              apply List.ext_getElem?
              intro i
              by_cases hi : i < kk
              · have := HI.out.low i hi
                rw [Hend.out] at this
                rw [this, List.getElem?_take_of_lt hi, Array.getElem?_toList, Array.getElem?_eq_getElem (by have := Hds.out; omega), getElem!_pos _ i (by have := Hds.out; omega)]
              · rw [List.getElem?_eq_none (by omega), List.getElem?_eq_none (by simp; omega)]
            obtain ⟨cur', hb', hs', hsame⟩ := setCells_blk g 95 (List.replicate ((n - kk) * 4) (.int .i64 0)) (kk * 4) wr _ HR.out
            have hown0 := rowq_own (m := kk) (n := n) HR.out hbase hcap (by have := Hds.out; omega) hsp (by omega)
            rw [hlow]
            refine ⟨hown0.1, .inr ⟨g, cap, cur', rfl, hbase, hb', by omega, hcap, ?_, ?_⟩⟩
            · rw [hs']; simp only [List.size_toArray, List.length_append]; rw [flat_len enc4 4 enc4_len]; simp; have := Hds.out; omega
            · rcases hown0.2 with ⟨h0, _⟩ | ⟨g', cap', cur, hv, _, hh, _, _, _, ht⟩
              · cases h0
              · injection hv with h1 h2 h3
                injection h1 with h1
                injection h1 with h1
                subst h1
                rw [HR.out] at hh
                injection hh with hh
                injection hh with hh
                subst hh
                rw [← ht]
                apply List.ext_getElem?
                intro i
                by_cases hi : i < kk * 4
                · rw [List.getElem?_take_of_lt hi, List.getElem?_take_of_lt hi]
                  simpa using hsame i hi
                · rw [List.getElem?_eq_none (by simp; omega), List.getElem?_eq_none (by simp; omega)]
      · have Hxy := Lib.hid hxy
        rw [decide_eq_false hxy] at hq
        clear hxy
        go_wp2
        refine wp_region_quietB (by kernel_rfl) (by kernel_rfl) ?_
        repeat (first | go_big_quiet_step (fail) | quiet_step (fail))
        refine wpQuiet_nil ?_
        rintro _ ⟨u, rfl⟩
        have HR1 : Hid (RowQ u.val g 95 d sp) := Lib.hid (HR.out.keep u.below)
        have hgr1 := grown_below hgr u.below
        clear c0 c1 c2 c3 e0 e1 e2 e3 hq HR hgr
        go_wp2
        go_roundw
        case rel => exact ⟨k + 1, by omega, by omega, by go_num, hgr1, HR1, Lib.hid (fun j hj => by
          by_cases e : j = k
          · subst e; exact keeps_pos (by rw [Hx.out, Hy.out]; exact Hxy.out)
          · exact Ha.out j (by omega))⟩
        case measure => simp [intOf]; omega
    · obtain rfl : k = n := by omega
      go_wp2
      go_ret
      have e : compactUpTo d k = d.toList := by rw [compactUpTo_all d _ Ha.out, ← hd, range_map_get]
      have hl : (compactUpTo d k).length = k := by rw [e]; simpa using hd
      rw [hl]
      refine ⟨rfl, hgr, ?_⟩
      have := rowq_own (m := k) HR.out hbase hcap hd hsp (Nat.le_refl _)
      rw [e]
      rwa [List.take_of_length_le (by simp [hd])] at this
theorem und_cells' : Tryz.prog.underlying 136 = some (.slice 95) := by kernel_rfl
set_option maxRecDepth 100000 in
set_option maxHeartbeats 2000000 in
theorem compact_cell (d : Array Q4) (g n cap base : Nat) (w : World) (hd : d.size = n) (hn : n ≤ 10000000) (h2 : 2 ≤ n) (hown : w.ownsRow base 95 4 (.slice (some ⟨g, 0, none⟩) n cap) n (d.toList.flatMap enc4)) :
    Calls Tryz.prog 107 #[.slice (some ⟨g, 0, none⟩) n cap] w fun e w' => e = .returned (.slice (some ⟨g, 0, none⟩) (compactUpTo d n).length cap) ∧ w.grownBy w' (some g) ∧
      w'.ownsRow base 95 4 (.slice (some ⟨g, 0, none⟩) (compactUpTo d n).length cap) (compactUpTo d n).length ((compactUpTo d n).flatMap enc4) := by
  obtain ⟨sp, hrow, hbase, hcap, hnc, hsp⟩ := own_rowq d hown
  have HR := Lib.hid hrow
  clear hown hrow
  go_enter Tryz.func107, Tryz.ntmps107
  go_wp2
  go_loopw [3] (fun i wr => ∃ k : Nat, 1 ≤ k ∧ k ≤ n ∧ i = .int .i64 k ∧ w.grownBy wr (some g) ∧ Hid (RowQ wr g 95 d sp) ∧ Hid (∀ j, j < k → keeps d j = true)) (fun i _ => n - (intOf i).toNat)
  case atStart => exact ⟨1, by omega, by omega, rfl, ⟨rfl, rfl, rfl, Nat.le_refl _, fun _ _ _ => rfl⟩, HR, Lib.hid (keeps_lt_one d)⟩
  case round =>
    clear HR
    obtain ⟨k, hk1, hk, rfl, hgr, HR, Ha⟩ := hrel
    by_cases hlt : k < n
    · obtain ⟨c0, c1, c2, c3⟩ := HR.out.get k (by omega)
      obtain ⟨e0, e1, e2, e3⟩ := HR.out.get (k - 1) (by omega)
      have zg := blk_lt HR.out
      obtain ⟨x, Hx⟩ : ∃ x, Hid (d[k]! = x) := ⟨_, Lib.hid rfl⟩
      obtain ⟨y, Hy⟩ : ∃ y, Hid (d[k - 1]! = y) := ⟨_, Lib.hid rfl⟩
      rw [Hx.out] at c0 c1 c2 c3
      rw [Hy.out] at e0 e1 e2 e3
      have hq := eq_pl x y
      by_cases hxy : x = y
      · have Hxy := Lib.hid hxy
        rw [decide_eq_true hxy] at hq
        clear hxy
        go_wp2
        refine wp_region_quietB (by kernel_rfl) (by kernel_rfl) ?_
        repeat (first | go_big_quiet_step (fail) | quiet_step (fail))
        refine wpQuiet_nil ?_
        rintro _ ⟨u, rfl⟩
        have HR1 : Hid (RowQ u.val g 95 d sp) := Lib.hid (HR.out.keep u.below)
        have hgr1 := grown_below hgr u.below
        clear c0 c1 c2 c3 e0 e1 e2 e3 hq HR hgr
        go_wp2
        go_loopw [3, 5] (fun s3 s5 wr => ∃ (kk k2 : Nat) (dk : Array Q4), s3 = .int .i64 kk ∧ s5 = .int .i64 k2 ∧ 1 ≤ k2 ∧ k + k2 ≤ n ∧ w.grownBy wr (some g) ∧ Hid (RowQ wr g 95 dk sp) ∧ Hid (CompInv d (k + k2) kk dk)) (fun _ i _ => n - (intOf i).toNat)
        case atStart => exact ⟨k, 1, d, rfl, rfl, Nat.le_refl _, by omega, hgr1, HR1, Lib.hid (CompInv.start Ha.out (keeps_neg (by omega) (by rw [Hx.out, Hy.out]; exact Hxy.out)))⟩
        case round =>
          clear HR1 hgr1
          obtain ⟨kk, k2, dk, rfl, rfl, h1, hle, hgr, HR, HI⟩ := hrel
          have hkk := HI.out.lt
          have hds := HI.out.size
          have zg := blk_lt HR.out
          have fz := HR.out.free
          by_cases hlt2 : k + k2 < n
          · obtain ⟨c0, c1, c2, c3⟩ := HR.out.get (k + k2) (by omega)
            obtain ⟨e0, e1, e2, e3⟩ := HR.out.get (k + k2 - 1) (by omega)
            obtain ⟨d0, d1, d2, d3⟩ := HR.out.get kk (by omega)
            rw [HI.out.high (k + k2) (by omega), show (k + k2) * 4 = k * 4 + k2 * 4 by omega] at c0 c1 c2 c3
            rw [HI.out.high (k + k2 - 1) (by omega), show (k + k2 - 1) * 4 = k * 4 + (k2 - 1) * 4 by omega] at e0 e1 e2 e3
            obtain ⟨x2, Hx2⟩ : ∃ x, Hid (d[k + k2]! = x) := ⟨_, Lib.hid rfl⟩
            obtain ⟨y2, Hy2⟩ : ∃ y, Hid (d[k + k2 - 1]! = y) := ⟨_, Lib.hid rfl⟩
            rw [Hx2.out] at c0 c1 c2 c3
            rw [Hy2.out] at e0 e1 e2 e3
            have hq := eq_pl x2 y2
            have Hds := Lib.hid hds
            clear hds
            by_cases hxy2 : x2 = y2
            · have Hxy2 := Lib.hid hxy2
              rw [decide_eq_true hxy2] at hq
              clear hxy2
              go_wp2
              refine wp_region_quietB (by kernel_rfl) (by kernel_rfl) ?_
              repeat (first | go_big_quiet_step (fail) | quiet_step (fail))
              refine wpQuiet_nil ?_
              rintro _ ⟨u, rfl⟩
              have HR1 : Hid (RowQ u.val g 95 dk sp) := Lib.hid (HR.out.keep u.below)
              have hgr1 := grown_below hgr u.below
              clear c0 c1 c2 c3 e0 e1 e2 e3 d0 d1 d2 d3 hq HR hgr
              go_wp2
              go_roundw
              case rel => exact ⟨kk, k2 + 1, dk, rfl, by go_num, by omega, by omega, hgr1, HR1, Lib.hid (HI.out.skip (keeps_neg (by omega) (by rw [Hx2.out, Hy2.out]; exact Hxy2.out)))⟩
              case measure => simp [intOf]; omega
            · have Hxy2 := Lib.hid hxy2
              rw [decide_eq_false hxy2] at hq
              clear hxy2
              go_wp2
              refine wp_region_quietB (by kernel_rfl) (by kernel_rfl) ?_
              repeat (first | go_big_quiet_step (fail) | quiet_step (fail))
              refine wpQuiet_nil ?_
              rintro _ ⟨u, rfl⟩
              have HR1 : Hid (RowQ u.val g 95 dk sp) := Lib.hid (HR.out.keep u.below)
              have hgr1 := grown_below hgr u.below
              have zu : g < u.val.heap.size := blk_lt HR1.out
              go_wp2
              go_roundw
              case rel =>
                refine ⟨kk + 1, k2 + 1, dk.setIfInBounds kk x2, by go_num, by go_num, by omega, by omega, grown_set (grown_set (grown_set (grown_set hgr1 _ _) _ _) _ _) _ _, Lib.hid (HR1.out.set kk (by have := Hds.out; omega) x2), Lib.hid ?_⟩
                have := HI.out.keep (by omega) (keeps_pos (by rw [Hx2.out, Hy2.out]; exact Hxy2.out))
                rw [Hx2.out] at this
                exact this
              case measure => simp [intOf]; omega
          · have hend : k + k2 = n := by omega
            have hcl : ∀ ty, (Builtin.clear_ #[136] ty #[.slice (some ⟨g, kk * 4, none⟩) (n - kk) (cap - kk)]).run Tryz.prog wr = .ok (.tuple #[]) (wr.setCells g (kk * 4) (List.replicate ((n - kk) * 4) (.int .i64 0))) := fun ty =>
              run_clear4 wr _ _ ty und_cells' und_Plane g (kk * 4) _ _ (by omega) (fun j hj => by
                rw [blk_cell HR.out]
                have hl : (dk.toList.flatMap enc4).length = n * 4 := by rw [flat_len enc4 4 enc4_len]; simp; omega
                have hlt : kk * 4 + j < (dk.toList.flatMap enc4 ++ sp).toArray.size := by simp only [List.size_toArray, List.length_append, hl]; omega
                rw [Array.getElem?_eq_getElem hlt]; rfl) (fun j _ => fz _)
            have Hend := Lib.hid hend
            have Hds := Lib.hid hds
            clear hds hend fz
            go_wp2
            go_ret
            have hlen : (compactUpTo d n).length = kk := by have := HI.out.len; rwa [Hend.out] at this
            rw [hlen]
            refine ⟨rfl, grown_setCells _ _ _ hgr, ?_⟩
            have hlow : compactUpTo d n = dk.toList.take kk := by
              apply List.ext_getElem?
              intro i
              by_cases hi : i < kk
              · have := HI.out.low i hi
                rw [Hend.out] at this
                rw [this, List.getElem?_take_of_lt hi, Array.getElem?_toList, Array.getElem?_eq_getElem (by have := Hds.out; omega), getElem!_pos _ i (by have := Hds.out; omega)]
              · rw [List.getElem?_eq_none (by omega), List.getElem?_eq_none (by simp; omega)]
            obtain ⟨cur', hb', hs', hsame⟩ := setCells_blk g 95 (List.replicate ((n - kk) * 4) (.int .i64 0)) (kk * 4) wr _ HR.out
            have hown0 := rowq_own (m := kk) (n := n) HR.out hbase hcap (by have := Hds.out; omega) hsp (by omega)
            rw [hlow]
            refine ⟨hown0.1, .inr ⟨g, cap, cur', rfl, hbase, hb', by omega, hcap, ?_, ?_⟩⟩
            · rw [hs']; simp only [List.size_toArray, List.length_append]; rw [flat_len enc4 4 enc4_len]; simp; have := Hds.out; omega
            · rcases hown0.2 with ⟨h0, _⟩ | ⟨g', cap', cur, hv, _, hh, _, _, _, ht⟩
              · cases h0
              · injection hv with h1 h2 h3
                injection h1 with h1
                injection h1 with h1
                subst h1
                rw [HR.out] at hh
                injection hh with hh
                injection hh with hh
                subst hh
                rw [← ht]
                apply List.ext_getElem?
                intro i
                by_cases hi : i < kk * 4
                · rw [List.getElem?_take_of_lt hi, List.getElem?_take_of_lt hi]
                  simpa using hsame i hi
                · rw [List.getElem?_eq_none (by simp; omega), List.getElem?_eq_none (by simp; omega)]
      · have Hxy := Lib.hid hxy
        rw [decide_eq_false hxy] at hq
        clear hxy
        go_wp2
        refine wp_region_quietB (by kernel_rfl) (by kernel_rfl) ?_
        repeat (first | go_big_quiet_step (fail) | quiet_step (fail))
        refine wpQuiet_nil ?_
        rintro _ ⟨u, rfl⟩
        have HR1 : Hid (RowQ u.val g 95 d sp) := Lib.hid (HR.out.keep u.below)
        have hgr1 := grown_below hgr u.below
        clear c0 c1 c2 c3 e0 e1 e2 e3 hq HR hgr
        go_wp2
        go_roundw
        case rel => exact ⟨k + 1, by omega, by omega, by go_num, hgr1, HR1, Lib.hid (fun j hj => by
          by_cases e : j = k
          · subst e; exact keeps_pos (by rw [Hx.out, Hy.out]; exact Hxy.out)
          · exact Ha.out j (by omega))⟩
        case measure => simp [intOf]; omega
    · obtain rfl : k = n := by omega
      go_wp2
      go_ret
      have e : compactUpTo d k = d.toList := by rw [compactUpTo_all d _ Ha.out, ← hd, range_map_get]
      have hl : (compactUpTo d k).length = k := by rw [e]; simpa using hd
      rw [hl]
      refine ⟨rfl, hgr, ?_⟩
      have := rowq_own (m := k) HR.out hbase hcap hd hsp (Nat.le_refl _)
      rw [e]
      rwa [List.take_of_length_le (by simp [hd])] at this
set_option maxHeartbeats 1000000 in
theorem compact_corner_small (a : Option Addr) (n c : Nat) (w : World) (h : n < 2) : Calls Tryz.prog 249 #[.slice a n c] w fun e w' => e = .returned (.slice a n c) ∧ w = w' := by
  go_enter Tryz.func249, Tryz.ntmps249
  go_wp2
  go_ret
  exact ⟨rfl, rfl⟩
set_option maxHeartbeats 1000000 in
theorem compact_plane_small (a : Option Addr) (n c : Nat) (w : World) (h : n < 2) : Calls Tryz.prog 228 #[.slice a n c] w fun e w' => e = .returned (.slice a n c) ∧ w = w' := by
  go_enter Tryz.func228, Tryz.ntmps228
  go_wp2
  go_ret
  exact ⟨rfl, rfl⟩
set_option maxHeartbeats 1000000 in
theorem compact_cell_small (a : Option Addr) (n c : Nat) (w : World) (h : n < 2) : Calls Tryz.prog 107 #[.slice a n c] w fun e w' => e = .returned (.slice a n c) ∧ w = w' := by
  go_enter Tryz.func107, Tryz.ntmps107
  go_wp2
  go_ret
  exact ⟨rfl, rfl⟩
end
/- The corners of planes: sorted, each once. -/
section
open Go.RowKit Go.Shelf Go.Sort Go.Lib
theorem gcdL_neg4 (a b c d : Int) : gcdL [-a, -b, -c, -d] = gcdL [a, b, c, d] := by simp [gcdL]
theorem gcdL_div (a b c d : Int) (hp : 0 < gcdL [a, b, c, d]) : gcdL [a / gcdL [a, b, c, d], b / gcdL [a, b, c, d], c / gcdL [a, b, c, d], d / gcdL [a, b, c, d]] = 1 := by
  have key : ∀ x ∈ [a, b, c, d], x = (gcdL [a, b, c, d] : Int) * (x / gcdL [a, b, c, d]) := fun x hx => (Int.mul_ediv_cancel' (gcdL_dvd _ x hx)).symm
  have h1 : gcdL [a / gcdL [a, b, c, d], b / gcdL [a, b, c, d], c / gcdL [a, b, c, d], d / gcdL [a, b, c, d]] * gcdL [a, b, c, d] ∣ gcdL [a, b, c, d] := by
    apply dvd_gcdL
    intro x hx
    rw [key x hx, Int.natCast_mul, Int.mul_comm]
    apply Int.mul_dvd_mul_left
    simp only [List.mem_cons, List.not_mem_nil, or_false] at hx
    apply gcdL_dvd
    rcases hx with rfl | rfl | rfl | rfl <;> simp
  obtain ⟨k, hk⟩ := h1
  have h2 : gcdL [a, b, c, d] * 1 = gcdL [a, b, c, d] * (gcdL [a / gcdL [a, b, c, d], b / gcdL [a, b, c, d], c / gcdL [a, b, c, d], d / gcdL [a, b, c, d]] * k) := by
    rw [Nat.mul_one, ← Nat.mul_assoc, Nat.mul_comm (gcdL [a, b, c, d]) (gcdL [_, _, _, _])]; exact hk
  have h3 := Nat.eq_of_mul_eq_mul_left hp h2
  exact Nat.eq_one_of_mul_eq_one_right h3.symm
theorem ptOf_nrm (a b c den : Int) (ha : -10000000000 ≤ a ∧ a ≤ 10000000000) (hb : -10000000000 ≤ b ∧ b ≤ 10000000000) (hc : -10000000000 ≤ c ∧ c ≤ 10000000000)
    (hd : -1000000 ≤ den ∧ den ≤ 1000000) (h0 : den ≠ 0) : nrmCo (ptOf a b c den) := by
  refine ⟨ptOf_ok a b c den ha hb hc hd h0, ?_⟩
  have hp := gcdL4_pos a b c den h0
  unfold ptOf
  split
  · exact (gcdL_neg4 _ _ _ _).trans (gcdL_div a b c den hp)
  · exact gcdL_div a b c den hp
theorem meetP_nrm (p q r : Q4) (den : Int) (hp : okPl p) (hq : okPl q) (hr : okPl r) (hd : -1000000 ≤ den ∧ den ≤ 1000000) (h0 : den ≠ 0) : nrmCo (meetP p q r den) := by
  simp only [okPl] at hp hq hr
  refine ptOf_nrm _ _ _ _ ?_ ?_ ?_ hd h0
  · exact comb_bd hp.2.2.2 hq.2.2.2 hr.2.2.2 (cross_bd hq.2.1 hq.2.2.1 hr.2.1 hr.2.2.1) (cross_bd hr.2.1 hr.2.2.1 hp.2.1 hp.2.2.1) (cross_bd hp.2.1 hp.2.2.1 hq.2.1 hq.2.2.1)
  · exact comb_bd hp.2.2.2 hq.2.2.2 hr.2.2.2 (cross_bd hq.2.2.1 hq.1 hr.2.2.1 hr.1) (cross_bd hr.2.2.1 hr.1 hp.2.2.1 hp.1) (cross_bd hp.2.2.1 hp.1 hq.2.2.1 hq.1)
  · exact comb_bd hp.2.2.2 hq.2.2.2 hr.2.2.2 (cross_bd hq.1 hq.2.1 hr.1 hr.2.1) (cross_bd hr.1 hr.2.1 hp.1 hp.2.1) (cross_bd hp.1 hp.2.1 hq.1 hq.2.1)
theorem raw_nrm (ps : List Q4) (h : ∀ p ∈ ps, okPl p) (n : Nat) (hn : n ≤ ps.length) : ∀ c ∈ raw ps n, nrmCo c := by
  intro c hc
  simp only [raw, rawI, rawK, List.mem_flatMap, List.mem_range] at hc
  obtain ⟨i, hi, k, hk, m, hm, hc⟩ := hc
  unfold raw1 at hc
  split at hc
  · cases hc
  · rename_i h0
    split at hc
    · rw [List.mem_singleton] at hc
      subst hc
      have b := den_bd _ _ _ (getP_ok h i (by omega)) (getP_ok h k (by omega)) (getP_ok h m (by omega))
      exact meetP_nrm _ _ _ _ (getP_ok h i (by omega)) (getP_ok h k (by omega)) (getP_ok h m (by omega)) (by omega) h0
    · cases hc
/-- The corners of planes. -/
def cornersOf (ps : List Q4) : List Q4 := Lib.compact (sortP (raw ps ps.length))
theorem sortP_len (cs : List Q4) : (sortP cs).length = cs.length := by simp [sortP]
theorem sort_any (cs : List Q4) (hcs : ∀ c ∈ cs, nrmCo c) (base n : Nat) (cv : Value) (w : World) (hn : cs.length = n) (hs : n < 4611686018427387904)
    (hown : w.ownsRow base 193 4 cv n (cs.flatMap enc4)) :
    Calls Tryz.prog 247 #[cv, .func (.func 248) #[] #[]] w fun e w' =>
      e = .returned (.tuple #[]) ∧ w'.ownsRow base 193 4 cv n ((sortP cs).flatMap enc4) ∧ w.grownBy w' cv.ownBlock := by
  by_cases h0 : 0 < n
  · obtain ⟨g, cap, rfl, _, _⟩ := own_form hown h0
    exact sortCorners cs hcs base g n cap w hn hs hown
  · obtain rfl : n = 0 := by omega
    have hnil : cs = [] := List.length_eq_zero_iff.1 hn
    subst hnil
    have hf : ∃ a cap, cv = .slice a 0 cap := by
      rcases hown.2 with ⟨rfl, _⟩ | ⟨g, cap, cur, rfl, _⟩
      · exact ⟨_, _, rfl⟩
      · exact ⟨_, _, rfl⟩
    obtain ⟨a, cap, rfl⟩ := hf
    refine Calls.mono (show Calls Tryz.prog 247 _ _ _ from AnyF.slices_SortFunc_none Tryz.sortCorner a cap _ w) ?_
    rintro e w' ⟨rfl, rfl⟩
    exact ⟨rfl, by simpa [sortP] using hown, ⟨rfl, rfl, rfl, Nat.le_refl _, fun _ _ _ => rfl⟩⟩
theorem compact_any (cs : List Q4) (base n : Nat) (cv : Value) (w : World) (hn : cs.length = n) (hs : n ≤ 10000000) (hown : w.ownsRow base 193 4 cv n (cs.flatMap enc4)) :
    Calls Tryz.prog 249 #[cv] w fun e w' => ∃ cv', e = .returned cv' ∧ w.grownBy w' cv.ownBlock ∧ (∃ a m c, cv' = .slice a m c) ∧
      w'.ownsRow base 193 4 cv' (Lib.compact cs).length ((Lib.compact cs).flatMap enc4) := by
  by_cases h2 : 2 ≤ n
  · obtain ⟨g, cap, rfl, _, _⟩ := own_form hown (by omega)
    refine (compact_corner cs.toArray g n cap base w (by simpa using hn) hs h2 (by simpa using hown)).mono ?_
    rintro e w' ⟨rfl, hg, ho⟩
    have e : compactUpTo cs.toArray n = Lib.compact cs := by unfold Lib.compact; rw [hn]
    rw [e] at ho ⊢
    exact ⟨_, rfl, hg, ⟨_, _, _, rfl⟩, ho⟩
  · have hf : ∃ a cap, cv = .slice a n cap := by
      rcases hown.2 with ⟨rfl, h⟩ | ⟨g, cap, cur, rfl, _⟩
      · exact ⟨_, _, by rw [h]⟩
      · exact ⟨_, _, rfl⟩
    obtain ⟨a, cap, rfl⟩ := hf
    refine (compact_corner_small a n cap w (by omega)).mono ?_
    rintro e w' ⟨rfl, rfl⟩
    have e : Lib.compact cs = cs := compact_all cs (fun j hj => keeps_lt_one _ j (by omega))
    rw [e, hn]
    exact ⟨_, rfl, ⟨rfl, rfl, rfl, Nat.le_refl _, fun _ _ _ => rfl⟩, ⟨_, _, _, rfl⟩, hown⟩
/-- An owned row of structs of four ints reads as a list. -/
theorem q4s_own {w : World} {base : Nat} {T : TypeId} {v : Value} {cs : List Q4} (h : w.ownsRow base T 4 v cs.length (cs.flatMap enc4)) : Q4s w v cs := by
  rcases h.2 with ⟨rfl, h0⟩ | ⟨g, cap, cur, rfl, hb, hh, hc, hm, hcs, ht⟩
  · exact ⟨none, 0, 0, rfl, h0, Nat.le_refl _, fun h => absurd h (by omega)⟩
  · refine ⟨some ⟨g, 0, none⟩, cs.length, cap, rfl, rfl, hc, fun _ => ⟨g, 0, rfl, fun i hi => ?_⟩⟩
    have key : ∀ j, j < 4 → w.cell? ⟨g, i * 4 + j, none⟩ = (enc4 cs[i])[j]? := fun j hj => by
      rw [blk_cell hh, ← flat_get enc4 4 enc4_len cs i hi j hj, ← ht, List.getElem?_take_of_lt (by omega), Array.getElem?_toList]
    simp only [Nat.zero_add]
    exact ⟨key 0 (by omega), key 1 (by omega), key 2 (by omega), key 3 (by omega)⟩
end
/- slices.SortFunc and slices.Compact at the planes. -/
section
open Go.RowKit Go.Shelf Go.Sort Go.Lib
theorem cmpPl_neg (p q : Q4) : cmpPl p q < 0 ↔ p.1 < q.1 ∨ (p.1 = q.1 ∧ (p.2.1 < q.2.1 ∨ (p.2.1 = q.2.1 ∧ (p.2.2.1 < q.2.2.1 ∨ (p.2.2.1 = q.2.2.1 ∧ p.2.2.2 < q.2.2.2))))) := by
  unfold cmpPl
  rw [orL4_neg, sgn_neg_iff, sgn_zero_iff, sgn_neg_iff, sgn_zero_iff, sgn_neg_iff, sgn_zero_iff, sgn_neg_iff]
theorem ltPl (x y : Q4) : ltOf cmpPl x y = decide (cmpPl x y < 0) := rfl
theorem swoPl : SWO (ltOf cmpPl) where
  irrefl x := by rw [ltPl, decide_eq_false_iff_not, cmpPl_neg]; omega
  trans x y z h1 h2 := by
    rw [ltPl, decide_eq_true_eq, cmpPl_neg] at *
    omega
  ntrans x y z h1 h2 := by
    rw [ltPl, decide_eq_false_iff_not, cmpPl_neg] at *
    omega
theorem totPl (x y : Q4) (h1 : ltOf cmpPl x y = false) (h2 : ltOf cmpPl y x = false) : x = y := by
  rw [ltPl, decide_eq_false_iff_not, cmpPl_neg] at h1 h2
  obtain ⟨a, b, c, d⟩ := x
  obtain ⟨a', b', c', d'⟩ := y
  simp only at h1 h2
  have : a = a' ∧ b = b' ∧ c = c' ∧ d = d' := by omega
  obtain ⟨rfl, rfl, rfl, rfl⟩ := this
  rfl
theorem enc4_one (x : Q4) : ∀ v ∈ enc4 x, v.oneCell' = true := fun v hv => by simp [enc4] at hv; rcases hv with rfl | rfl | rfl | rfl <;> rfl
theorem isAgg_plane : ∀ w, (isAgg 95).run Tryz.prog w = .ok true w := fun _ => by kernel_rfl
theorem sizeOf_plane : ∀ w, (Go.sizeOf 95).run Tryz.prog w = .ok 4 w := fun _ => by kernel_rfl
theorem eg_cmpPl : ∀ args w, (callFunc 227 args).run Tryz.prog w = .ok (.enter 227 args) w := enters_of Tryz.func227 (by kernel_rfl) rfl
theorem cmpLays_pl (blk off size : Nat) (w : World) : CmpLays Tryz.prog 227 #[] enc4 4 cmpPl blk off size w := fun _ _ _ _ x y => by
  obtain ⟨x0, x1, x2, x3⟩ := x
  obtain ⟨y0, y1, y2, y3⟩ := y
  exact comparePlanes_any x0 x1 x2 x3 y0 y1 y2 y3 _
/-- Planes in their order. -/
def sortL (ps : List Q4) : List Q4 := ps.mergeSort (fun x y => !decide (cmpPl y x < 0))
theorem sortL_len (ps : List Q4) : (sortL ps).length = ps.length := by simp [sortL]
theorem sortPlanes_any (ps : List Q4) (base n : Nat) (v : Value) (w : World) (hn : ps.length = n) (hs : n < 4611686018427387904)
    (hown : w.ownsRow base 95 4 v n (ps.flatMap enc4)) :
    Calls Tryz.prog 226 #[v, .func (.func 227) #[] #[]] w fun e w' =>
      e = .returned (.tuple #[]) ∧ w'.ownsRow base 95 4 v n ((sortL ps).flatMap enc4) ∧ w.grownBy w' v.ownBlock := by
  by_cases h0 : 0 < n
  · obtain ⟨g, cap, rfl, _, hg⟩ := own_form hown h0
    have hd : ps.toArray.size = n := by simp [hn]
    have hcon := AnyQ.slices_SortFunc_total Tryz.sortPlane 4 isAgg_plane sizeOf_plane enc4 enc4_len enc4_one cmpPl swoPl 227 #[] g 0 cap ps.toArray w eg_cmpPl (cmpLays_pl _ _ _ _)
      (own_holdsK enc4 (by decide) enc4_len _ hd (by simpa using hown)) hg (by rw [hd]; exact hs) totPl
    rw [hd] at hcon
    refine Calls.mono (show Calls Tryz.prog 226 _ _ _ from hcon) ?_
    rintro e w' ⟨rfl, m, os, rfl⟩
    have hsz : (List.mergeSort ps fun x y => !ltOf cmpPl y x).toArray.size = n := by simp [hn]
    obtain ⟨h1, h2⟩ := own_sorted (m := m) (os := os) enc4 (by decide) enc4_len _ hsz hown
    exact ⟨rfl, h1, h2⟩
  · obtain rfl : n = 0 := by omega
    have hnil : ps = [] := List.length_eq_zero_iff.1 hn
    subst hnil
    have hf : ∃ a cap, v = .slice a 0 cap := by
      rcases hown.2 with ⟨rfl, _⟩ | ⟨g, cap, cur, rfl, _⟩
      · exact ⟨_, _, rfl⟩
      · exact ⟨_, _, rfl⟩
    obtain ⟨a, cap, rfl⟩ := hf
    refine Calls.mono (show Calls Tryz.prog 226 _ _ _ from AnyF.slices_SortFunc_none Tryz.sortPlane a cap _ w) ?_
    rintro e w' ⟨rfl, rfl⟩
    exact ⟨rfl, by simpa [sortL] using hown, ⟨rfl, rfl, rfl, Nat.le_refl _, fun _ _ _ => rfl⟩⟩
theorem compactPlanes_any (cs : List Q4) (base n : Nat) (cv : Value) (w : World) (hn : cs.length = n) (hs : n ≤ 10000000) (hown : w.ownsRow base 95 4 cv n (cs.flatMap enc4)) :
    Calls Tryz.prog 228 #[cv] w fun e w' => ∃ cv', e = .returned cv' ∧ w.grownBy w' cv.ownBlock ∧ (∃ a m c, cv' = .slice a m c) ∧
      w'.ownsRow base 95 4 cv' (Lib.compact cs).length ((Lib.compact cs).flatMap enc4) := by
  by_cases h2 : 2 ≤ n
  · obtain ⟨g, cap, rfl, _, _⟩ := own_form hown (by omega)
    refine (compact_plane cs.toArray g n cap base w (by simpa using hn) hs h2 (by simpa using hown)).mono ?_
    rintro e w' ⟨rfl, hg, ho⟩
    have e : compactUpTo cs.toArray n = Lib.compact cs := by unfold Lib.compact; rw [hn]
    rw [e] at ho ⊢
    exact ⟨_, rfl, hg, ⟨_, _, _, rfl⟩, ho⟩
  · have hf : ∃ a cap, cv = .slice a n cap := by
      rcases hown.2 with ⟨rfl, h⟩ | ⟨g, cap, cur, rfl, _⟩
      · exact ⟨_, _, by rw [h]⟩
      · exact ⟨_, _, rfl⟩
    obtain ⟨a, cap, rfl⟩ := hf
    refine (compact_plane_small a n cap w (by omega)).mono ?_
    rintro e w' ⟨rfl, rfl⟩
    have e : Lib.compact cs = cs := compact_all cs (fun j hj => keeps_lt_one _ j (by omega))
    rw [e, hn]
    exact ⟨_, rfl, ⟨rfl, rfl, rfl, Nat.le_refl _, fun _ _ _ => rfl⟩, ⟨_, _, _, rfl⟩, hown⟩
theorem compactCells_any (cs : List Q4) (base n : Nat) (cv : Value) (w : World) (hn : cs.length = n) (hs : n ≤ 10000000) (hown : w.ownsRow base 95 4 cv n (cs.flatMap enc4)) :
    Calls Tryz.prog 107 #[cv] w fun e w' => ∃ cv', e = .returned cv' ∧ w.grownBy w' cv.ownBlock ∧ (∃ a m c, cv' = .slice a m c) ∧
      w'.ownsRow base 95 4 cv' (Lib.compact cs).length ((Lib.compact cs).flatMap enc4) := by
  by_cases h2 : 2 ≤ n
  · obtain ⟨g, cap, rfl, _, _⟩ := own_form hown (by omega)
    refine (compact_cell cs.toArray g n cap base w (by simpa using hn) hs h2 (by simpa using hown)).mono ?_
    rintro e w' ⟨rfl, hg, ho⟩
    have e : compactUpTo cs.toArray n = Lib.compact cs := by unfold Lib.compact; rw [hn]
    rw [e] at ho ⊢
    exact ⟨_, rfl, hg, ⟨_, _, _, rfl⟩, ho⟩
  · have hf : ∃ a cap, cv = .slice a n cap := by
      rcases hown.2 with ⟨rfl, h⟩ | ⟨g, cap, cur, rfl, _⟩
      · exact ⟨_, _, by rw [h]⟩
      · exact ⟨_, _, rfl⟩
    obtain ⟨a, cap, rfl⟩ := hf
    refine (compact_cell_small a n cap w (by omega)).mono ?_
    rintro e w' ⟨rfl, rfl⟩
    have e : Lib.compact cs = cs := compact_all cs (fun j hj => keeps_lt_one _ j (by omega))
    rw [e, hn]
    exact ⟨_, rfl, ⟨rfl, rfl, rfl, Nat.le_refl _, fun _ _ _ => rfl⟩, ⟨_, _, _, rfl⟩, hown⟩
end
end Go.Proofs.YtjglkglaogaenaaGreatDoor
