/- texts: Srt Srt2 Srt3. -/
import Derived.Test.YtokhkhnofkcalaaGreatDoorGZS9
import Derived.Test.YtokhkhnofkcalaaGreatDoorSort
namespace Go.Proofs.YtokhkhnofkcalaaGreatDoor
set_option maxHeartbeats 8000000
set_option linter.unusedSimpArgs false
set_option linter.unusedVariables false
section
open Go.RowKit Go.Shelf Go.Sort Go.Lib
theorem flat_get {α : Type} (enc : α → List Value) (k : Nat) (hk : ∀ x, (enc x).length = k) : ∀ (l : List α) (t : Nat) (h : t < l.length), ∀ j, j < k → (l.flatMap enc)[t * k + j]? = (enc l[t])[j]?
 | [], t, h, _, _ => absurd h (by simp)
 | x :: l, 0, _, j, hj => by
  simp only [List.flatMap_cons, Nat.zero_mul, Nat.zero_add, List.getElem_cons_zero]
  rw [List.getElem?_append_left (by rw [hk]; exact hj)]
 | x :: l, t + 1, h, j, hj => by
  simp only [List.flatMap_cons, List.getElem_cons_succ]
  rw [List.getElem?_append_right (by rw [hk, Nat.add_mul]; omega), hk, show (t + 1) * k + j - k = t * k + j by rw [Nat.add_mul]; omega]
  exact flat_get enc k hk l t (by simpa using h) j hj
theorem flat_len {α : Type} (enc : α → List Value) (k : Nat) (hk : ∀ x, (enc x).length = k) (l : List α) : (l.flatMap enc).length = l.length * k := by
 induction l with
 | nil => simp
 | cons x l ih => simp only [List.flatMap_cons, List.length_append, hk, ih, List.length_cons, Nat.add_mul]; omega
theorem flatK_get {α : Type} [Inhabited α] (enc : α → List Value) (k : Nat) (hk0 : 0 < k) (hk : ∀ x, (enc x).length = k) (d : Array α) (t : Nat) (h : t < d.size * k) : (d.toList.flatMap enc)[t]? = some (flatK enc k d)[t]! := by
 rw [get_flatK enc k d t h]
 have h1 : t / k < d.size := Nat.div_lt_of_lt_mul (by rw [Nat.mul_comm]; exact h)
 have h2 : t % k < k := Nat.mod_lt _ hk0
 have e := flat_get enc k hk d.toList (t / k) (by simpa using h1) (t % k) h2
 rw [show t / k * k + t % k = t by rw [Nat.mul_comm]; exact Nat.div_add_mod t k] at e
 rw [e, getElem!_pos d (t / k) h1, getElem!_pos _ (t % k) (by rw [hk]; exact h2)]
 simp
theorem own_holdsK {α : Type} [Inhabited α] {w : World} {base g k n cap : Nat} {T : TypeId} (enc : α → List Value) (hk0 : 0 < k) (hk : ∀ x, (enc x).length = k) (d : Array α) (hd : d.size = n)
  (h : w.ownsRow base T k (.slice (some ⟨g, 0, none⟩) n cap) n (d.toList.flatMap enc)) : HoldsK enc k w g 0 d := by
 rcases h.2 with ⟨h0, _⟩ | ⟨g', cap', cur, hv, _, hh, hc, hm, hcs, ht⟩
 ·cases h0
 ·injection hv with h1 h2 h3
  injection h1 with h1
  injection h1 with h1
  subst h1
  intro j hj
  rw [size_flatK, hd] at hj
  have e := flatK_get enc k hk0 hk d j (by rw [hd]; exact hj)
  rw [← ht] at e
  have hj' : (cur.toList.take (n * k))[j]? = cur[j]? := by rw [List.getElem?_take_of_lt hj]; simp
  rw [hj'] at e
  refine ⟨?_, by simp [World.frozen?, hh]⟩
  rw [Nat.zero_add, blk_cell hh j, e]
  rfl
theorem put_take (F cur : Array Value) (h : F.size ≤ cur.size) : (putCells id 0 F cur).toList.take F.size = F.toList := by
 apply List.ext_getElem?
 intro i
 by_cases hi : i < F.size
 ·rw [List.getElem?_take_of_lt hi]
  simp only [putCells, Array.getElem?_toList, Array.getElem?_mapIdx]
  rw [Array.getElem?_eq_getElem (by omega : i < cur.size)]
  simp [hi]
 ·rw [List.getElem?_eq_none (by simp; omega), List.getElem?_eq_none (by simp; omega)]
theorem own_sorted {α : Type} [Inhabited α] {w : World} {base g k n cap m : Nat} {T : TypeId} {os : Array Obj} {xs : List Value} (enc : α → List Value) (hk0 : 0 < k) (hk : ∀ x, (enc x).length = k) (d : Array α) (hd : d.size = n)
  (h : w.ownsRow base T k (.slice (some ⟨g, 0, none⟩) n cap) n xs) :
  (sortWorldK enc k w g 0 m d os).ownsRow base T k (.slice (some ⟨g, 0, none⟩) n cap) n (d.toList.flatMap enc) ∧ w.grownBy (sortWorldK enc k w g 0 m d os) (some g) := by
 rcases h.2 with ⟨h0, _⟩ | ⟨g', cap', cur, hv, hb, hh, hc, hm, hcs, ht⟩
 ·cases h0
 ·have hv' := hv
  injection hv with h1 h2 h3
  injection h1 with h1
  injection h1 with h1
  subst h1 h3
  have hlt : g < w.heap.size := blk_lt hh
  have hb' : (sortWorldK enc k w g 0 m d os).heap[g]? = some (.cells (putCells id 0 (flatK enc k d) cur) T (0, 0)) := by
   unfold sortWorldK
   rw [heap_grow_old _ _ (by simp [putRowK, putRow, mapBlock, Sort.ahead]; exact hlt)]
   simp [putRowK, putRow, mapBlock, Sort.ahead, Array.getElem?_modify, hh, onCells]
  have hF : (flatK enc k d).size = n * k := by rw [size_flatK, hd]
  have hle : n * k ≤ cur.size := by rw [hcs]; exact Nat.mul_le_mul_right _ hc
  have hl : (d.toList.flatMap enc) = (flatK enc k d).toList := by
   apply List.ext_getElem?
   intro i
   by_cases hi : i < d.size * k
   ·rw [flatK_get enc k hk0 hk d i hi, Array.getElem?_toList, Array.getElem?_eq_getElem (by rw [size_flatK]; exact hi), getElem!_pos _ i (by rw [size_flatK]; exact hi)]
   ·rw [List.getElem?_eq_none (by rw [flat_len enc k hk]; simpa using hi), List.getElem?_eq_none (by simpa using hi)]
  refine ⟨⟨by rw [flat_len enc k hk]; simp [hd], .inr ⟨g, cap, _, rfl, hb, hb', hc, hm, by simp [putCells, hcs], ?_⟩⟩, ?_⟩
  ·rw [hl, ← hF]
   exact put_take _ _ (by rw [hF]; exact hle)
  ·refine ⟨rfl, rfl, rfl, by simp [sortWorldK, putRowK, putRow, mapBlock, Sort.ahead], fun j hj hne => ?_⟩
   unfold sortWorldK
   rw [heap_grow_old _ _ (by simp [putRowK, putRow, mapBlock, Sort.ahead]; exact hj)]
   have : g ≠ j := fun e => hne (by rw [e])
   simp [putRowK, putRow, mapBlock, Sort.ahead, Array.getElem?_modify, this]
theorem sgn_neg_iff (a b : Int) : sgn a b < 0 ↔ a < b := by unfold sgn; split <;> (try split) <;> omega
theorem sgn_zero_iff (a b : Int) : sgn a b = 0 ↔ a = b := by unfold sgn; split <;> (try split) <;> omega
theorem sgn_pos_iff (a b : Int) : 0 < sgn a b ↔ b < a := by unfold sgn; split <;> (try split) <;> omega
theorem orL3_neg (a b c : Int) : orL [a, b, c] < 0 ↔ a < 0 ∨ (a = 0 ∧ (b < 0 ∨ (b = 0 ∧ c < 0))) := by
 simp only [orL]; split <;> (try split) <;> (try split) <;> omega
theorem orL4_neg (a b c d : Int) : orL [a, b, c, d] < 0 ↔ a < 0 ∨ (a = 0 ∧ (b < 0 ∨ (b = 0 ∧ (c < 0 ∨ (c = 0 ∧ d < 0))))) := by
 simp only [orL]; split <;> (try split) <;> (try split) <;> (try split) <;> omega
theorem comb_sign {a b c p q r : Int} (hp : 0 < p) (hq : 0 < q) (hr : 0 < r) (h : c * q = a * r + b * p) :
  (a < 0 → b ≤ 0 → c < 0) ∧ (a ≤ 0 → b < 0 → c < 0) ∧ (a = 0 → b = 0 → c = 0) ∧ (0 < a → 0 ≤ b → 0 < c) ∧ (0 ≤ a → 0 < b → 0 < c) := by
 have ha : ∀ x : Int, x < 0 → x * r < 0 := fun x hx => Int.mul_neg_of_neg_of_pos hx hr
 have hb : ∀ x : Int, x < 0 → x * p < 0 := fun x hx => Int.mul_neg_of_neg_of_pos hx hp
 have ha' : ∀ x : Int, 0 < x → 0 < x * r := fun x hx => Int.mul_pos hx hr
 have hb' : ∀ x : Int, 0 < x → 0 < x * p := fun x hx => Int.mul_pos hx hp
 have la : ∀ x : Int, x ≤ 0 → x * r ≤ 0 := fun x hx => Int.mul_nonpos_of_nonpos_of_nonneg hx (Int.le_of_lt hr)
 have lb : ∀ x : Int, x ≤ 0 → x * p ≤ 0 := fun x hx => Int.mul_nonpos_of_nonpos_of_nonneg hx (Int.le_of_lt hp)
 have ga : ∀ x : Int, 0 ≤ x → 0 ≤ x * r := fun x hx => Int.mul_nonneg hx (Int.le_of_lt hr)
 have gb : ∀ x : Int, 0 ≤ x → 0 ≤ x * p := fun x hx => Int.mul_nonneg hx (Int.le_of_lt hp)
 have neg : c * q < 0 → c < 0 := fun h => by
  rcases Int.lt_or_le c 0 with h' | h'
  ·exact h'
  ·have := Int.mul_nonneg h' (Int.le_of_lt hq); omega
 have pos : 0 < c * q → 0 < c := fun h => by
  rcases Int.lt_or_le 0 c with h' | h'
  ·exact h'
  ·have := Int.mul_nonpos_of_nonpos_of_nonneg h' (Int.le_of_lt hq); omega
 refine ⟨fun h1 h2 => neg ?_, fun h1 h2 => neg ?_, fun h1 h2 => ?_, fun h1 h2 => pos ?_, fun h1 h2 => pos ?_⟩
 ·have := ha a h1; have := lb b h2; omega
 ·have := la a h1; have := hb b h2; omega
 ·subst h1 h2
  have : c * q = 0 := by simpa using h
  rcases Int.mul_eq_zero.1 this with h | h <;> omega
 ·have := ha' a h1; have := gb b h2; omega
 ·have := ga a h1; have := hb' b h2; omega
def dif (a p b q : Int) : Int := a * q - b * p
theorem dif_comb (a p b q c r : Int) : dif a p c r * q = dif a p b q * r + dif b q c r * p := by
 unfold dif
 simp only [Int.sub_mul]
 rw [Int.mul_right_comm a r q, Int.mul_right_comm b p r, Int.mul_right_comm c p q, Int.mul_right_comm b r p, Int.mul_right_comm c q p]
 have e1 : c * p * q = c * q * p := Int.mul_right_comm c p q
 have e2 : b * p * r = b * r * p := Int.mul_right_comm b p r
 omega
theorem cmpPt_neg (x y : Q4) : cmpPt x y < 0 ↔ dif x.1 x.2.2.2 y.1 y.2.2.2 < 0 ∨ (dif x.1 x.2.2.2 y.1 y.2.2.2 = 0 ∧ (dif x.2.1 x.2.2.2 y.2.1 y.2.2.2 < 0 ∨ (dif x.2.1 x.2.2.2 y.2.1 y.2.2.2 = 0 ∧ dif x.2.2.1 x.2.2.2 y.2.2.1 y.2.2.2 < 0))) := by
 unfold cmpPt
 rw [orL3_neg, sgn_neg_iff, sgn_zero_iff, sgn_neg_iff, sgn_zero_iff, sgn_neg_iff]
 unfold dif
 omega
theorem dif_anti (a p b q : Int) : dif b q a p = - dif a p b q := by unfold dif; omega
theorem dvd_gcdF (k : Nat) : ∀ (xs : List Int) (g : Nat), k ∣ g → (∀ x ∈ xs, k ∣ x.natAbs) → k ∣ xs.foldl (fun g n => Nat.gcd g n.natAbs) g
 | [], _, hg, _ => hg
 | x :: xs, g, hg, h => dvd_gcdF k xs _ (Nat.dvd_gcd hg (h x (by simp))) (fun y hy => h y (by simp [hy]))
theorem dvd_gcdL (k : Nat) (xs : List Int) (h : ∀ x ∈ xs, (k : Int) ∣ x) : k ∣ gcdL xs :=
 dvd_gcdF k xs 0 (Nat.dvd_zero _) (fun x hx => Int.ofNat_dvd_left.1 (h x hx))
def nrmCo (c : Q4) : Prop := okCo c ∧ gcdL [c.1, c.2.1, c.2.2.1, c.2.2.2] = 1
theorem nrm_eq (x y : Q4) (hx : nrmCo x) (hy : nrmCo y) (h1 : x.1 * y.2.2.2 = y.1 * x.2.2.2) (h2 : x.2.1 * y.2.2.2 = y.2.1 * x.2.2.2) (h3 : x.2.2.1 * y.2.2.2 = y.2.2.1 * x.2.2.2) : x = y := by
 obtain ⟨a, b, c, q⟩ := x
 obtain ⟨a', b', c', q'⟩ := y
 simp only at h1 h2 h3
 have hq : 0 < q := by have := hx.1.2.2.2.1; simp only at this; omega
 have hq' : 0 < q' := by have := hy.1.2.2.2.1; simp only at this; omega
 have key : ∀ (a b c q a' b' c' q' : Int), 0 < q → 0 < q' → gcdL [a, b, c, q] = 1 → a * q' = a' * q → b * q' = b' * q → c * q' = c' * q → q ∣ q' := by
  intro a b c q a' b' c' q' hq hq' hg e1 e2 e3
  have hd : (q.natAbs) ∣ gcdL [a * q', b * q', c * q', q * q'] := dvd_gcdL _ _ (fun x hx => by
   have hn : ((q.natAbs : Nat) : Int) = q := by omega
   rw [hn]
   simp at hx
   rcases hx with rfl | rfl | rfl | rfl
   ·exact ⟨a', by rw [e1, Int.mul_comm]⟩
   ·exact ⟨b', by rw [e2, Int.mul_comm]⟩
   ·exact ⟨c', by rw [e3, Int.mul_comm]⟩
   ·exact ⟨q', rfl⟩)
  have hm : ∀ (xs : List Int) (g : Nat), (xs.map (· * q')).foldl (fun g n => Nat.gcd g n.natAbs) (g * q'.natAbs) = xs.foldl (fun g n => Nat.gcd g n.natAbs) g * q'.natAbs := by
   intro xs
   induction xs with
   | nil => intro g; rfl
   | cons x xs ih =>
    intro g
    simp only [List.map_cons, List.foldl_cons]
    rw [Int.natAbs_mul, Nat.gcd_mul_right]
    exact ih _
  have he : gcdL [a * q', b * q', c * q', q * q'] = gcdL [a, b, c, q] * q'.natAbs := by
   have := hm [a, b, c, q] 0
   simpa [gcdL] using this
  rw [he, hg, Nat.one_mul] at hd
  have := Int.ofNat_dvd.2 hd
  rwa [show ((q.natAbs : Nat) : Int) = q by omega, show ((q'.natAbs : Nat) : Int) = q' by omega] at this
 have d1 := key a b c q a' b' c' q' hq hq' hx.2 h1 h2 h3
 have d2 := key a' b' c' q' a b c q hq' hq hy.2 h1.symm h2.symm h3.symm
 have hqq : q = q' := Int.dvd_antisymm (Int.le_of_lt hq) (Int.le_of_lt hq') d1 d2
 subst hqq
 have c1 := Int.eq_of_mul_eq_mul_right (by omega) h1
 have c2 := Int.eq_of_mul_eq_mul_right (by omega) h2
 have c3 := Int.eq_of_mul_eq_mul_right (by omega) h3
 subst c1 c2 c3
 rfl
abbrev NCo := { c : Q4 // nrmCo c }
instance : Inhabited NCo := ⟨⟨(0, 0, 0, 1), ⟨by unfold okCo; decide, by decide⟩⟩⟩
def cfPt (x y : NCo) : Int := cmpPt x.1 y.1
theorem ltPt (x y : NCo) : ltOf cfPt x y = decide (cmpPt x.1 y.1 < 0) := rfl
theorem qpos (x : NCo) : 0 < x.1.2.2.2 := by have := x.2.1.2.2.2.1; omega
def Sg (a b c : Int) : Prop := (a < 0 → b ≤ 0 → c < 0) ∧ (a ≤ 0 → b < 0 → c < 0) ∧ (a = 0 → b = 0 → c = 0) ∧ (0 < a → 0 ≤ b → 0 < c) ∧ (0 ≤ a → 0 < b → 0 < c)
theorem lex1 {a b c : Int} {A B C : Prop} (e : Sg a b c) (k : A → B → C) (h1 : a < 0 ∨ (a = 0 ∧ A)) (h2 : b < 0 ∨ (b = 0 ∧ B)) : c < 0 ∨ (c = 0 ∧ C) := by
 rcases h1 with h1 | ⟨h1, x⟩ <;> rcases h2 with h2 | ⟨h2, y⟩
 ·exact .inl (e.1 h1 (Int.le_of_lt h2))
 ·exact .inl (e.1 h1 (by omega))
 ·exact .inl (e.2.1 (by omega) h2)
 ·exact .inr ⟨e.2.2.1 h1 h2, k x y⟩
theorem lex0 {a b c : Int} (e : Sg a b c) (h1 : a < 0) (h2 : b < 0) : c < 0 := e.1 h1 (Int.le_of_lt h2)
theorem lexn1 {a b c : Int} {A B C : Prop} (e : Sg a b c) (k : ¬ A → ¬ B → ¬ C) (h1 : ¬ (a < 0 ∨ (a = 0 ∧ A))) (h2 : ¬ (b < 0 ∨ (b = 0 ∧ B))) : ¬ (c < 0 ∨ (c = 0 ∧ C)) := by
 have a0 : 0 ≤ a := by rcases Int.lt_or_le a 0 with h | h; exact absurd (.inl h) h1; exact h
 have b0 : 0 ≤ b := by rcases Int.lt_or_le b 0 with h | h; exact absurd (.inl h) h2; exact h
 rcases Int.lt_or_eq_of_le a0 with ha | ha
 ·have := e.2.2.2.1 ha b0; rintro (h | ⟨h, _⟩) <;> omega
 ·rcases Int.lt_or_eq_of_le b0 with hb | hb
  ·have := e.2.2.2.2 a0 hb; rintro (h | ⟨h, _⟩) <;> omega
  ·have hc := e.2.2.1 ha.symm hb.symm
   rintro (h | ⟨_, h⟩)
   ·omega
   ·exact k (fun x => h1 (.inr ⟨ha.symm, x⟩)) (fun x => h2 (.inr ⟨hb.symm, x⟩)) h
theorem lexn0 {a b c : Int} (e : Sg a b c) (h1 : ¬ a < 0) (h2 : ¬ b < 0) : ¬ c < 0 := by
 rcases Int.lt_or_eq_of_le (Int.not_lt.1 h1) with ha | ha
 ·have := e.2.2.2.1 ha (by omega); omega
 ·rcases Int.lt_or_eq_of_le (Int.not_lt.1 h2) with hb | hb
  ·have := e.2.2.2.2 (by omega) hb; omega
  ·have := e.2.2.1 ha.symm hb.symm; omega
theorem sg_dif {a p b q c r : Int} (hp : 0 < p) (hq : 0 < q) (hr : 0 < r) : Sg (dif a p b q) (dif b q c r) (dif a p c r) := comb_sign hp hq hr (dif_comb a p b q c r)
theorem swoPt : SWO (ltOf cfPt) where
 irrefl x := by rw [ltPt]; simp only [decide_eq_false_iff_not, cmpPt_neg, dif]; omega
 trans x y z h1 h2 := by
  rw [ltPt, decide_eq_true_eq, cmpPt_neg] at *
  exact lex1 (sg_dif (qpos x) (qpos y) (qpos z)) (lex1 (sg_dif (qpos x) (qpos y) (qpos z)) (lex0 (sg_dif (qpos x) (qpos y) (qpos z)))) h1 h2
 ntrans x y z h1 h2 := by
  rw [ltPt, decide_eq_false_iff_not, cmpPt_neg] at *
  exact lexn1 (sg_dif (qpos x) (qpos y) (qpos z)) (lexn1 (sg_dif (qpos x) (qpos y) (qpos z)) (lexn0 (sg_dif (qpos x) (qpos y) (qpos z)))) h1 h2
theorem totPt (x y : NCo) (h1 : ltOf cfPt x y = false) (h2 : ltOf cfPt y x = false) : x = y := by
 rw [ltPt, decide_eq_false_iff_not, cmpPt_neg] at h1 h2
 have a1 := dif_anti x.1.1 x.1.2.2.2 y.1.1 y.1.2.2.2
 have a2 := dif_anti x.1.2.1 x.1.2.2.2 y.1.2.1 y.1.2.2.2
 have a3 := dif_anti x.1.2.2.1 x.1.2.2.2 y.1.2.2.1 y.1.2.2.2
 have : dif x.1.1 x.1.2.2.2 y.1.1 y.1.2.2.2 = 0 ∧ dif x.1.2.1 x.1.2.2.2 y.1.2.1 y.1.2.2.2 = 0 ∧ dif x.1.2.2.1 x.1.2.2.2 y.1.2.2.1 y.1.2.2.2 = 0 := by omega
 unfold dif at this
 exact Subtype.ext (nrm_eq x.1 y.1 x.2 y.2 (by omega) (by omega) (by omega))
def encN (x : NCo) : List Value := enc4 x.1
theorem encN_len (x : NCo) : (encN x).length = 4 := rfl
theorem encN_one (x : NCo) : ∀ v ∈ encN x, v.oneCell' = true := fun v hv => by simp [encN, enc4] at hv; rcases hv with rfl | rfl | rfl | rfl <;> rfl
theorem isAgg_corner : ∀ w, (isAgg 143).run Tryz.prog w = .ok true w := fun _ => by kernel_rfl
theorem sizeOf_corner : ∀ w, (Go.sizeOf 143).run Tryz.prog w = .ok 4 w := fun _ => by kernel_rfl
theorem eg_cmpPt : ∀ args w, (callFunc 181 args).run Tryz.prog w = .ok (.enter 181 args) w := enters_of Tryz.func181 (by kernel_rfl) rfl
theorem cmpLays_pt (blk off size : Nat) (w : World) : CmpLays Tryz.prog 181 #[] encN 4 cfPt blk off size w := fun _ _ _ _ x y => by
 obtain ⟨⟨x0, x1, x2, x3⟩, hx⟩ := x
 obtain ⟨⟨y0, y1, y2, y3⟩, hy⟩ := y
 have ox := hx.1
 have oy := hy.1
 simp only [okCo] at ox oy
 exact comparePoints_any x0 x1 x2 x3 y0 y1 y2 y3 _ ox.1 ox.2.1 ox.2.2.1 (by omega) oy.1 oy.2.1 oy.2.2.1 (by omega)
def sortP (cs : List Q4) : List Q4 := cs.mergeSort (fun x y => !decide (cmpPt y x < 0))
theorem sortCorners (cs : List Q4) (hcs : ∀ c ∈ cs, nrmCo c) (base g n cap : Nat) (w : World) (hn : cs.length = n) (hs : n < 4611686018427387904)
  (hown : w.ownsRow base 143 4 (.slice (some ⟨g, 0, none⟩) n cap) n (cs.flatMap enc4)) :
  Calls Tryz.prog 180 #[.slice (some ⟨g, 0, none⟩) n cap, .func (.func 181) #[] #[]] w fun e w' =>
   e = .returned (.tuple #[]) ∧ w'.ownsRow base 143 4 (.slice (some ⟨g, 0, none⟩) n cap) n ((sortP cs).flatMap enc4) ∧ w.grownBy w' (some g) := by
 have hfl : ∀ l : List NCo, l.flatMap encN = (l.map Subtype.val).flatMap enc4 := fun l => by rw [List.flatMap_map]; rfl
 have hd : (cs.attachWith nrmCo hcs).toArray.size = n := by simp [hn]
 have hv : (cs.attachWith nrmCo hcs).map Subtype.val = cs := List.attachWith_map_subtype_val hcs
 have hown' : w.ownsRow base 143 4 (.slice (some ⟨g, 0, none⟩) n cap) n ((cs.attachWith nrmCo hcs).toArray.toList.flatMap encN) := by
  rw [hfl, List.toList_toArray, hv]; exact hown
 have hg : g < w.heap.size := by
  rcases hown.2 with ⟨h, _⟩ | ⟨g', cap', cur, h, _, hh, _⟩
  ·cases h
  ·injection h with h1; injection h1 with h1; injection h1 with h1; subst h1; exact blk_lt hh
 have hcon := AnyQ.slices_SortFunc_total Tryz.sortCorner 4 isAgg_corner sizeOf_corner encN encN_len encN_one cfPt swoPt 181 #[] g 0 cap (cs.attachWith nrmCo hcs).toArray w eg_cmpPt (cmpLays_pt _ _ _ _)
  (own_holdsK encN (by decide) encN_len _ hd hown') hg (by rw [hd]; exact hs) totPt
 rw [hd] at hcon
 refine Calls.mono (show Calls Tryz.prog 180 _ _ _ from hcon) ?_
 rintro e w' ⟨rfl, m, os, rfl⟩
 have hsz : (List.mergeSort (cs.attachWith nrmCo hcs) fun x y => !ltOf cfPt y x).toArray.size = n := by simp [hn]
 obtain ⟨h1, h2⟩ := own_sorted (m := m) (os := os) encN (by decide) encN_len _ hsz hown'
 refine ⟨rfl, ?_, h2⟩
 rw [hfl] at h1
 have e : (List.mergeSort (cs.attachWith nrmCo hcs) fun x y => !ltOf cfPt y x).map Subtype.val = sortP cs := by
  unfold sortP
  have := List.map_mergeSort (r := fun x y : NCo => !ltOf cfPt y x) (s := fun x y => !decide (cmpPt y x < 0)) (f := Subtype.val) (l := cs.attachWith nrmCo hcs) (fun a _ b _ => rfl)
  rw [this, hv]
 simp only at h1
 rw [e] at h1
 exact h1
end
end Go.Proofs.YtokhkhnofkcalaaGreatDoor
