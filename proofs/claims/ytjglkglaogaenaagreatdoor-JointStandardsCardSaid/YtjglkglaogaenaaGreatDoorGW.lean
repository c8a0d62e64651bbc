/- texts of mine, merged: S0, S1, S2. -/
import Derived.Test.YtjglkglaogaenaaGreatDoorGP
import Derived.Test.YtjglkglaogaenaaGreatDoorGQ
/- Plain: the numbers of a standard joint. -/
namespace Go.Proofs.YtjglkglaogaenaaGreatDoor
open Go.RowKit

def stdS (l : Int) : Int := if l.tmod 8 = 0 then 8 else if l.tmod 7 = 0 then 7 else if l.tmod 6 = 0 then 6 else if l.tmod 5 = 0 then 5 else if l.tmod 4 = 0 then 4 else if l.tmod 3 = 0 then 3 else if l.tmod 2 = 0 then 2 else 1
theorem stdS_of {l s : Int} (h : 1 ≤ s ∧ s ≤ 8) (h0 : l.tmod s = 0) (hno : ∀ q, s < q → q ≤ 8 → l.tmod q ≠ 0) : stdS l = s := by
  have e1 : l.tmod 1 = 0 := by simp
  rcases (by omega : s = 1 ∨ s = 2 ∨ s = 3 ∨ s = 4 ∨ s = 5 ∨ s = 6 ∨ s = 7 ∨ s = 8) with rfl | rfl | rfl | rfl | rfl | rfl | rfl | rfl
  · simp [stdS, hno 8 (by omega) (by omega), hno 7 (by omega) (by omega), hno 6 (by omega) (by omega), hno 5 (by omega) (by omega), hno 4 (by omega) (by omega), hno 3 (by omega) (by omega), hno 2 (by omega) (by omega)]
  · simp [stdS, hno 8 (by omega) (by omega), hno 7 (by omega) (by omega), hno 6 (by omega) (by omega), hno 5 (by omega) (by omega), hno 4 (by omega) (by omega), hno 3 (by omega) (by omega), h0]
  · simp [stdS, hno 8 (by omega) (by omega), hno 7 (by omega) (by omega), hno 6 (by omega) (by omega), hno 5 (by omega) (by omega), hno 4 (by omega) (by omega), h0]
  · simp [stdS, hno 8 (by omega) (by omega), hno 7 (by omega) (by omega), hno 6 (by omega) (by omega), hno 5 (by omega) (by omega), h0]
  · simp [stdS, hno 8 (by omega) (by omega), hno 7 (by omega) (by omega), hno 6 (by omega) (by omega), h0]
  · simp [stdS, hno 8 (by omega) (by omega), hno 7 (by omega) (by omega), h0]
  · simp [stdS, hno 8 (by omega) (by omega), h0]
  · simp [stdS, h0]
theorem stdS_bd (l : Int) : 1 ≤ stdS l ∧ stdS l ≤ 8 := by
  unfold stdS
  repeat' split
  all_goals omega
def stdU (l t : Int) : Int := t + 2 * l / stdS l + t / 2
def stdC (l w t : Int) : Int := min ((w - t / 2) / stdU l t) 8
def stdF (l w t : Int) : Int := (w - (stdC l w t - 1) * stdU l t - t) / 2
def tailsTo (l w t : Int) (k : Nat) : List Int := [stdS l, t] ++ (List.range k).map (fun i : Nat => stdF l w t + (i : Int) * stdU l t)
def stdTails (l w t : Int) : List Int := tailsTo l w t (stdC l w t).toNat
theorem tailsTo_succ (l w t : Int) (k : Nat) : tailsTo l w t (k + 1) = tailsTo l w t k ++ [stdF l w t + (k : Int) * stdU l t] := by simp [tailsTo, List.range_succ]
theorem tailsTo_len (l w t : Int) (k : Nat) : (tailsTo l w t k).length = k + 2 := by simp [tailsTo]
def fingTo (t : Int) (k : Nat) : List Int := (List.range k).map (fun i : Nat => ((i : Int) + 1) * t)
theorem fingTo_succ (t : Int) (k : Nat) : fingTo t (k + 1) = fingTo t k ++ [((k : Int) + 1) * t] := by simp [fingTo, List.range_succ]
theorem fingTo_len (t : Int) (k : Nat) : (fingTo t k).length = k := by simp [fingTo]
/-- How many standard fingers there are: the least k with 24 ≤ k or w ≤ (k + 1) t. -/
def fingN (w t : Int) : Nat := if 24 * t < w then 24 else ((w - 1) / t).toNat
theorem fingN_of {w t : Int} {k : Nat} (hw : 1 ≤ w) (ht : 1 ≤ t) (hk : k ≤ 24) (h1 : ∀ i : Nat, i < k → ((i : Int) + 1) * t < w) (h2 : k = 24 ∨ ¬ ((k : Int) + 1) * t < w) : fingN w t = k := by
  unfold fingN
  by_cases h24 : 24 * t < w
  · rw [if_pos h24]
    rcases h2 with h2 | h2
    · exact h2.symm
    · rcases (by omega : k = 24 ∨ k < 24) with h3 | h3
      · exact h3.symm
      · have : ((k : Int) + 1) * t ≤ 24 * t := Int.mul_le_mul_of_nonneg_right (by omega) (by omega)
        omega
  · rw [if_neg h24]
    have hk2 : k < 24 := by
      rcases (by omega : k = 24 ∨ k < 24) with rfl | h3
      · have := h1 23 (by omega)
        simp at this
        omega
      · exact h3
    have h3 : ¬ ((k : Int) + 1) * t < w := h2.resolve_left (by omega)
    have h4 : (k : Int) * t < w := by
      cases k with
      | zero => simp; omega
      | succ k => have := h1 k (by omega); simpa using this
    have : (w - 1) / t = k := by
      rw [Int.ediv_eq_iff_of_pos (by omega)]
      rw [Int.add_mul] at h3
      omega
    rw [this]
    simp
/-- The numbers of a standard joint. -/
def stdN (k l w t : Int) : List Int :=
  if k = 0 then [t / 2]
  else if k = 1 then [t / 3, t - t / 3]
  else if k = 2 then [w / 6, w - w / 6, t / 3, t - t / 3]
  else if k = 3 then [2 * l / 3, l / 24, w / 6, w - w / 6, t / 3, t - t / 3]
  else if k = 4 then [l / 2, l / 24, t / 3, t - t / 3]
  else if k = 5 then stdTails l w t
  else if k = 6 then [(l - 6 * t) / 2, 1, 6]
  else if k = 7 then fingTo t (fingN w t)
  else if k = 8 then [l / 2, t / 6, 7 * (t / 6) / 5, l / 3, l / 3, l / 24, w / 4, t / 2, w - w / 4, t / 2]
  else if k = 9 then [l, l / 8, l / 4, t / 4, t - t / 4]
  else [t / 2, l / 3, l - l / 3, w / 3, w - w / 3]
theorem stdN_len (k l w t : Int) (ht : 1 ≤ t) : (stdN k l w t).length ≤ 100 := by
  have h1 : (stdTails l w t).length ≤ 100 := by
    unfold stdTails
    rw [tailsTo_len]
    have : stdC l w t ≤ 8 := Int.min_le_right _ _
    omega
  have h2 : (fingTo t (fingN w t)).length ≤ 100 := by
    rw [fingTo_len]
    unfold fingN
    split
    · omega
    · rename_i h
      have : (w - 1) / t ≤ 24 := by
        have h4 : (w - 1) / t * t ≤ w - 1 := Int.ediv_mul_le _ (by omega)
        rcases Int.lt_or_le 24 ((w - 1) / t) with h5 | h5
        · have : 25 * t ≤ (w - 1) / t * t := Int.mul_le_mul_of_nonneg_right (by omega) (by omega)
          omega
        · exact h5
      omega
  unfold stdN
  repeat' split
  all_goals first | exact h1 | exact h2 | simp
end Go.Proofs.YtjglkglaogaenaaGreatDoor
/- joint: half, standardTails, standardFingers; base.Floor. -/
namespace Go.Proofs.YtjglkglaogaenaaGreatDoor
open Go.RowKit Go.Shelf
attribute [local go_sem] Ext.cell Ext.frozen

/-- nil is nil, and what is not lies in a row of ints. -/
def OkV (w : World) (v : Value) : Prop := NilV v ∧ ∀ b off m c, v = .slice (some ⟨b, off, none⟩) m c → ∃ cs, w.heap[b]? = some (.cells cs 3 (0, 0))
theorem ok_own {w : World} {base n s : Nat} {v : Value} {vs : List Value} (h : w.ownsRow base 3 s v n vs) : OkV w v := by
  refine ⟨nil_own h, fun b off m c e => ?_⟩
  rcases h.2 with ⟨rfl, _⟩ | ⟨g, cap, cur, rfl, _, hh, _⟩
  · cases e
  · cases e; exact ⟨cur, hh⟩
theorem ok_new {W : World} {cs : Array Value} {g off m c : Nat} (hg : g = W.heap.size) : OkV (W.alloc (.cells cs 3)) (.slice (some ⟨g, off, none⟩) m c) :=
  ⟨(fun _ _ e => by cases e), fun b _ _ _ e => by cases e; exact ⟨cs, heap_new hg⟩⟩
theorem OkV.below {w w' : World} {v : Value} (h : OkV w v) (hb : Below w.heap.size w w') : OkV w' v :=
  ⟨h.1, fun b off m c e => by obtain ⟨cs, hh⟩ := h.2 b off m c e; exact ⟨cs, (hb.block _ (blk_lt hh)).trans hh⟩⟩
/-- A list of ints is returned. -/
def RetL (W : World) (xs : List Int) (e : Ending) (w' : World) : Prop := ∃ r, e = .returned r ∧ Below W.heap.size W w' ∧ Ints w' r xs ∧ OkV w' r
theorem nil_some {a : Addr} {m c : Nat} : NilV (.slice (some a) m c) := fun _ _ e => by cases e

set_option maxHeartbeats 400000 in
theorem half_any (n : Int) (W : World) : Calls Tryz.prog 136 #[.int .i64 n] W fun e w' => e = .returned (.int .i64 (n / 2)) ∧ W = w' := by
  go_enter Tryz.func136, Tryz.ntmps136
  go_wp2
  go_ret
  exact ⟨ret_int (by first | rfl | (simp [Int.shiftRight_eq_div_pow]; done) | omega), rfl⟩

set_option maxHeartbeats 400000 in
theorem Floor_any (a b : Int) (W : World) (hb : 1 ≤ b ∧ b ≤ 1000000000000) (ha : -1000000000000 ≤ a ∧ a ≤ 1000000000000) : Calls Tryz.prog 139 #[.int .i64 a, .int .i64 b] W fun e w' => e = .returned (.int .i64 (a / b)) ∧ W = w' := by
  have h1 := fun w => Lib.hid (Mod_any a b w (by omega))
  have e1 := Int.emod_nonneg a (show b ≠ 0 by omega)
  have e2 := Int.emod_lt_of_pos a (show 0 < b by omega)
  have He : Hid ((a - a % b).tdiv b = a / b) := Lib.hid (by
    have : a - a % b = b * (a / b) := by have := Int.mul_ediv_add_emod a b; omega
    rw [this, Int.mul_tdiv_cancel_left _ (by omega)])
  generalize a % b = r at *
  have hb0 : (b == 0) = false := by simp; omega
  have hbn : ¬ b = 0 := by omega
  go_enter Tryz.func139, Tryz.ntmps139
  go_wp2_with fail
  refine ((h1 _).out).mono ?_
  rintro e w1 ⟨rfl, rfl⟩
  go_wp2
  go_ret
  exact ⟨ret_int (by first | exact He.out | skip), rfl⟩

theorem own_newL {W : World} {T : TypeId} (xs : List Int) (h : xs.length ≤ maxLen) : (W.alloc (.cells (xs.map (Value.int .i64)).toArray T)).ownsRow W.heap.size T 1 (.slice (some ⟨W.heap.size, 0, none⟩) xs.length xs.length) xs.length (xs.map (Value.int .i64)) :=
  ⟨by simp, .inr ⟨W.heap.size, xs.length, (xs.map (Value.int .i64)).toArray, rfl, Nat.le_refl _, heap_alloc_new W _, Nat.le_refl _, h, by simp, by simp [List.take_of_length_le]⟩⟩
theorem own_sliceI {w : World} {base : Nat} {e : TypeId} {size n : Nat} {v : Value} {xs : List Value} (h : w.ownsRow base e size v n xs) : ∃ a c, v = .slice a n c := by
  rcases h.2 with ⟨rfl, h0⟩ | ⟨g, cap, cur, rfl, _⟩
  · exact ⟨none, 0, by rw [h0]⟩
  · exact ⟨_, _, rfl⟩
/-- s, t and k tails. -/
def tailL (q t F u : Int) (k : Nat) : List Int := [q, t] ++ (List.range k).map (fun i : Nat => F + (i : Int) * u)
theorem tailL_succ (q t F u : Int) (k : Nat) : tailL q t F u (k + 1) = tailL q t F u k ++ [F + (k : Int) * u] := by simp [tailL, List.range_succ]
theorem tailL_len (q t F u : Int) (k : Nat) : (tailL q t F u k).length = k + 2 := by simp [tailL]
set_option maxRecDepth 100000 in
set_option maxHeartbeats 4000000 in
theorem standardTails_any (l w t : Int) (W : World) (hl : 1 ≤ l ∧ l ≤ 100000) (hw : 1 ≤ w ∧ w ≤ 100000) (ht : 1 ≤ t ∧ t ≤ 100000) :
    Calls Tryz.prog 135 #[.int .i64 l, .int .i64 w, .int .i64 t] W (RetL W (stdTails l w t)) := by
  obtain ⟨i0, hi0, hz0, hz1, hz2⟩ := info_parts info_intz
  have Hi0 := Lib.hid (And.intro hi0 (And.intro hz0 (And.intro hz1 hz2)))
  clear hi0 hz0 hz1 hz2
  have hdv := fun q W' (h : q ≠ 0) => Lib.hid (divides_any q l W' h)
  go_enter Tryz.func135, Tryz.ntmps135
  go_wp2
  go_loopw [7] (fun s wr => W = wr ∧ ∃ q : Int, (1 ≤ q ∧ q ≤ 8) ∧ s = .int .i64 q ∧ Hid (∀ p, q < p → p ≤ 8 → l.tmod p ≠ 0)) (fun s _ => (intOf s).toNat)
  case atStart => exact ⟨rfl, 8, by omega, rfl, Lib.hid (fun p h1 h2 => by omega)⟩
  case round =>
    obtain ⟨rfl, q, hq, rfl, HN⟩ := hrel
    have hq0 : q ≠ 0 := by omega
    have hd := fun W' => hdv q W' hq0
    cases hdd : (l.tmod q == 0) with
    | false =>
      rw [hdd] at hd
      have h0 : l.tmod q ≠ 0 := by simpa using hdd
      have hq1 : q ≠ 1 := fun e => h0 (by rw [e]; simp)
      have HN2 : Hid (∀ p, q - 1 < p → p ≤ 8 → l.tmod p ≠ 0) := Lib.hid (fun p h1 h2 => by
        rcases (by omega : p = q ∨ q < p) with rfl | h3
        · exact h0
        · exact HN.out p h3 h2)
      clear hdd h0 HN hdv
      go_wp2_with fail
      refine ((hd _).out).mono ?_
      rintro e w1 ⟨rfl, rfl⟩
      go_wp2
      go_roundw
      case rel => exact ⟨by first | rfl | trivial, q - 1, by omega, rfl, HN2⟩
      case measure => simp [intOf]; omega
    | true =>
      rw [hdd] at hd
      have HS : Hid (stdS l = q) := Lib.hid (stdS_of hq (by simpa using hdd) HN.out)
      obtain ⟨u, Hu⟩ : ∃ u, Hid (t + 2 * l / q + t / 2 = u) := ⟨_, Lib.hid rfl⟩
      have HU : Hid (stdU l t = u) := Lib.hid (by unfold stdU; rw [HS.out]; exact Hu.out)
      have hd2 : 0 ≤ 2 * l / q ∧ 2 * l / q ≤ 200000 := ⟨Int.ediv_nonneg (by omega) (by omega), Int.le_trans (Int.ediv_le_self _ (by omega)) (by omega)⟩
      have hub : 1 ≤ u ∧ u ≤ 400000 := by have := Hu.out; omega
      have hu0 : ¬ u = 0 := by omega
      clear hdd hdv HN
      go_wp2_with fail
      refine ((hd _).out).mono ?_
      rintro e w1 ⟨rfl, rfl⟩
      have hue := Hu.out
      have hdt := tdiv_bd' (w - t / 2) u 100000 (by omega)
      obtain ⟨C, HC⟩ : ∃ C, Hid (min ((w - t / 2).tdiv u) 8 = C) := ⟨_, Lib.hid rfl⟩
      have hCb : -100000 ≤ C ∧ C ≤ 8 := by have := HC.out; omega
      have hCe := HC.out
      have hMb := mul_bd (a := C - 1) (x := u) (A := 100001) (X := 400000) (by omega) (by omega) (by omega) (by omega)
      obtain ⟨M, HM⟩ : ∃ M, Hid ((C - 1) * u = M) := ⟨_, Lib.hid rfl⟩
      rw [HM.out] at hMb
      have hMw : wrap64 ((C - 1) * u) = M := by rw [HM.out]; unfold wrap64; omega
      have hfin : Hid (tailL q t ((w - M - t) / 2) u C.toNat = stdTails l w t) := Lib.hid (by
        unfold stdTails tailsTo tailL stdF
        rw [HS.out, HU.out]
        by_cases hn : 0 ≤ w - t / 2
        · have : stdC l w t = C := by
            unfold stdC
            rw [HU.out, ← HC.out, Int.tdiv_eq_ediv_of_nonneg hn]
          rw [this, HM.out]
        · have h1 : C.toNat = 0 := by
            have h2 : (w - t / 2).tdiv u ≤ 0 := by
              have h3 : 0 ≤ (-(w - t / 2)).tdiv u := Int.tdiv_nonneg (by omega) (by omega)
              rw [Int.neg_tdiv] at h3
              omega
            have := HC.out
            omega
          have h2 : (stdC l w t).toNat = 0 := by
            have h3 : (w - t / 2) / u < 0 := Int.ediv_neg_of_neg_of_pos (by omega) (by omega)
            unfold stdC
            rw [HU.out]
            omega
          rw [h1, h2]; rfl)
      go_wp2_with fail
      refine (half_any _ _).mono ?_
      rintro e w1 ⟨rfl, rfl⟩
      have hO := own_newL (W := W) (T := 3) [q, t] (by simp [maxLen])
      obtain ⟨V, HV⟩ : ∃ V, Hid (W.alloc (.cells (List.map (Value.int .i64) [q, t]).toArray 3) = V) := ⟨_, Lib.hid rfl⟩
      have hV : Below W.heap.size W V := by rw [← HV.out]; (repeat (first | exact Below.refl _ _ | assumption | (refine below_trans ?_ (Ext.below _)) | (refine Below.trans ?_ ((Ext.below _).mono (by first | omega | (simp; omega)))) | (refine Below.alloc ?_ (by first | omega | (simp; done) | (simp; omega)) _) | (refine Below.setCell ?_ (by first | omega | (simp; done) | (simp; omega)) _) | (refine Below.drew ?_)))
      rw [HV.out] at hO
      have HO := Lib.hid hO
      rw [show W.alloc (.cells #[.int .i64 q, .int .i64 t] 3) = V from HV.out]
      clear hO HV hue hCe hMw hd
      obtain ⟨F, HF⟩ : ∃ F, Hid ((w - M - t) / 2 = F) := ⟨_, Lib.hid rfl⟩
      have hFb : -30000000000 ≤ F ∧ F ≤ 30000000000 := by have := HF.out; omega
      have hFe := HF.out
      rw [HF.out] at hfin
      go_wp2
      obtain ⟨K, HK⟩ : ∃ K, Hid (C.toNat = K) := ⟨_, Lib.hid rfl⟩
      clear hFe
      have hK8 : K ≤ 8 := by have := HK.out; omega
      have HKC : Hid (max C 0 = (K : Int)) := Lib.hid (by have := HK.out; omega)
      rw [HK.out] at hfin
      go_loopw [49, 10] (fun i s wr => ∃ k : Nat, k ≤ K ∧ i = .int .i64 k ∧ Below W.heap.size W wr ∧ Hid (wr.ownsRow W.heap.size 3 1 s (k + 2) ((tailL q t F u k).map (Value.int .i64)))) (fun i _ _ => K - (intOf i).toNat)
      case atStart => exact ⟨0, by omega, rfl, hV, HO⟩
      case round =>
        clear HO hV
        obtain ⟨k, hk, rfl, hbk, HO⟩ := hrel
        by_cases hlt : k < K
        · have hPb := mul_bd (a := (k : Int)) (x := u) (A := 8) (X := 400000) (by omega) (by omega) (by omega) (by omega)
          obtain ⟨P, HP⟩ : ∃ P, Hid ((k : Int) * u = P) := ⟨_, Lib.hid rfl⟩
          rw [HP.out] at hPb
          have hPw : wrap64 ((k : Int) * u) = P := by rw [HP.out]; unfold wrap64; omega
          have hkK : (k : Int) < max C 0 := by have := HKC.out; omega
          have Hsn := Lib.hid (tailL_succ q t F u k)
          rw [HP.out] at Hsn
          go_wp2_with (at_builtin; refine wpList_append_own _ rfl _ _ 23 rfl W.heap.size 3 i0 (.int .i64 0) 1 8 und_ints Hi0.out.1 Hi0.out.2.1 Hi0.out.2.2.1 Hi0.out.2.2.2 rfl (by decide) _ (k + 2) _ rfl (HO.out.alloc _) ⟨wr.heap.size, 0, none⟩ 1 1 [.int .i64 (F + P)] rfl rfl ?c1 ?c2 ?c3 ?c4 ?c5 ?_)
          case c1 =>
            intro jj uu hu
            rw [add0, cell_new rfl jj]
            simpa using hu
          case c2 => intro v hv; simp at hv; subst hv; rfl
          case c3 => unfold maxLen; omega
          case c4 => omega
          case c5 => simp; have := hbk.size; omega
          intro v' w2 hown2 hg2 _
          have hb2 : Below W.heap.size W w2 := (hbk.alloc hbk.size _).grown hg2 (by simp; have := hbk.size; omega) (fun z hz => by have := (HO.out.lt z hz).1; omega)
          have HO2 := Lib.hid hown2
          clear hown2 hg2
          go_wp2
          go_roundw
          case rel => exact ⟨k + 1, by omega, by go_num, hb2, Lib.hid (by rw [Hsn.out]; simpa using HO2.out)⟩
          case measure => simp [intOf]; omega
        · obtain rfl : k = K := by omega
          have hkK : ¬ (k : Int) < max C 0 := by have := HKC.out; omega
          go_wp2
          go_ret
          refine ⟨_, rfl, hbk, ?_, ok_own HO.out⟩
          rw [← hfin.out]
          exact ints_own (by rw [tailL_len]; exact HO.out)
end Go.Proofs.YtjglkglaogaenaaGreatDoor
/- joint: standardFingers; the reference's standardTails. -/
namespace Go.Proofs.YtjglkglaogaenaaGreatDoor
open Go.RowKit Go.Shelf
attribute [local go_sem] Ext.cell Ext.frozen

set_option maxRecDepth 100000 in
set_option maxHeartbeats 4000000 in
theorem standardFingers_any (w t : Int) (W : World) (hw : 1 ≤ w ∧ w ≤ 100000) (ht : 1 ≤ t ∧ t ≤ 100000) :
    Calls Tryz.prog 137 #[.int .i64 w, .int .i64 t] W (RetL W (fingTo t (fingN w t))) := by
  obtain ⟨i0, hi0, hz0, hz1, hz2⟩ := info_parts info_intz
  have Hi0 := Lib.hid (And.intro hi0 (And.intro hz0 (And.intro hz1 hz2)))
  clear hi0 hz0 hz1 hz2
  have Hfin : Hid (∀ k : Nat, k ≤ 24 → (∀ i : Nat, i < k → ((i : Int) + 1) * t < w) → (k = 24 ∨ ¬ ((k : Int) + 1) * t < w) → fingN w t = k) := Lib.hid (fun k h1 h2 h3 => fingN_of hw.1 ht.1 h1 h2 h3)
  go_enter Tryz.func137, Tryz.ntmps137
  go_wp2
  go_loopw [5, 6] (fun s y wr => ∃ k : Nat, k ≤ 24 ∧ (∃ Y : Int, y = .int .i64 Y ∧ Hid (((k : Int) + 1) * t = Y)) ∧ Below W.heap.size W wr ∧ Hid (wr.ownsRow W.heap.size 3 1 s k ((fingTo t k).map (Value.int .i64))) ∧ Hid (∀ i : Nat, i < k → ((i : Int) + 1) * t < w)) (fun s _ _ => 24 - (match s with | .slice _ n _ => n | _ => 0))
  case atStart => exact ⟨0, by omega, ⟨t, rfl, Lib.hid (by simp)⟩, Below.refl _ _, Lib.hid (World.ownsRow_nil _ _ _ _), Lib.hid (fun i h => by omega)⟩
  case round =>
    obtain ⟨k, hk, ⟨Y, rfl, HY⟩, hbk, HO, HZ⟩ := hrel
    have hYb := mul_bd (a := (k : Int) + 1) (x := t) (A := 25) (X := 100000) (by omega) (by omega) (by omega) (by omega)
    rw [HY.out] at hYb
    obtain ⟨sa, sc, rfl⟩ := own_sliceI HO.out
    by_cases hlt : k < 24
    · by_cases hy : Y < w
      · have Hsn := Lib.hid (fingTo_succ t k)
        rw [HY.out] at Hsn
        go_wp2_with (at_builtin; refine wpList_append_own _ rfl _ _ 23 rfl W.heap.size 3 i0 (.int .i64 0) 1 8 und_ints Hi0.out.1 Hi0.out.2.1 Hi0.out.2.2.1 Hi0.out.2.2.2 rfl (by decide) _ k _ rfl (HO.out.alloc _) ⟨wr.heap.size, 0, none⟩ 1 1 [.int .i64 Y] rfl rfl ?c1 ?c2 ?c3 ?c4 ?c5 ?_)
        case c1 =>
          intro jj uu hu
          rw [add0, cell_new rfl jj]
          simpa using hu
        case c2 => intro v hv; simp at hv; subst hv; rfl
        case c3 => unfold maxLen; omega
        case c4 => omega
        case c5 => simp; have := hbk.size; omega
        intro v' w2 hown2 hg2 _
        have hb2 : Below W.heap.size W w2 := (hbk.alloc hbk.size _).grown hg2 (by simp; have := hbk.size; omega) (fun z hz => by have := (HO.out.lt z hz).1; omega)
        have HO2 := Lib.hid hown2
        obtain ⟨va, vc, rfl⟩ := own_sliceI hown2
        clear hown2 hg2
        go_wp2
        go_roundw
        case rel => exact ⟨k + 1, by omega, ⟨Y + t, rfl, Lib.hid (by rw [← HY.out]; simp [Int.add_mul])⟩, hb2, Lib.hid (by rw [Hsn.out]; simpa using HO2.out), Lib.hid (fun i hi => by
          by_cases e : i = k
          · subst e; rw [HY.out]; exact hy
          · exact HZ.out i (by omega))⟩
        case measure => simp; omega
      · have He := Lib.hid (Hfin.out k hk HZ.out (Or.inr (by rw [HY.out]; omega)))
        go_wp2
        go_ret
        refine ⟨_, rfl, hbk, ?_, ok_own HO.out⟩
        rw [He.out]
        exact ints_own (by rw [fingTo_len]; exact HO.out)
    · obtain rfl : k = 24 := by omega
      have He := Lib.hid (Hfin.out 24 hk HZ.out (Or.inl rfl))
      by_cases hy : Y < w
      · go_wp2
        go_ret
        refine ⟨_, rfl, hbk, ?_, ok_own HO.out⟩
        rw [He.out]
        exact ints_own (by rw [fingTo_len]; exact HO.out)
      · go_wp2
        go_ret
        refine ⟨_, rfl, hbk, ?_, ok_own HO.out⟩
        rw [He.out]
        exact ints_own (by rw [fingTo_len]; exact HO.out)

set_option maxRecDepth 100000 in
set_option maxHeartbeats 4000000 in
theorem rstandardTails_any (l w t : Int) (W : World) (hl : 1 ≤ l ∧ l ≤ 100000) (hw : 1 ≤ w ∧ w ≤ 100000) (ht : 1 ≤ t ∧ t ≤ 100000) :
    Calls Tryz.prog 138 #[.agg #[.int .i64 l, .int .i64 w, .int .i64 t]] W (RetL W (stdTails l w t)) := by
  obtain ⟨i0, hi0, hz0, hz1, hz2⟩ := info_parts info_intz
  have Hi0 := Lib.hid (And.intro hi0 (And.intro hz0 (And.intro hz1 hz2)))
  clear hi0 hz0 hz1 hz2
  go_enter Tryz.func138, Tryz.ntmps138
  go_wp2
  refine wp_region_quietB (by kernel_rfl) (by kernel_rfl) ?_
  repeat (first | go_big_quiet_step (fail) | quiet_step (fail))
  refine wpQuiet_nil ?_
  rintro _ ⟨u, rfl⟩
  have hbu : Below W.heap.size W u.val := by (repeat (first | exact Below.refl _ _ | assumption | (refine below_trans ?_ (Ext.below _)) | (refine Below.trans ?_ ((Ext.below _).mono (by first | omega | (simp; omega)))) | (refine Below.alloc ?_ (by first | omega | (simp; done) | (simp; omega)) _) | (refine Below.setCell ?_ (by first | omega | (simp; done) | (simp; omega)) _) | (refine Below.drew ?_)))
  generalize u.val = W0 at *
  clear u
  go_wp2
  go_loopw [6] (fun s wr => W0 = wr ∧ ∃ q : Int, (1 ≤ q ∧ q ≤ 8) ∧ s = .int .i64 q ∧ Hid (∀ p, q < p → p ≤ 8 → l.tmod p ≠ 0)) (fun s _ => (intOf s).toNat)
  case atStart => exact ⟨rfl, 8, by omega, rfl, Lib.hid (fun p h1 h2 => by omega)⟩
  case round =>
    obtain ⟨rfl, q, hq, rfl, HN⟩ := hrel
    have hq0 : ¬ q = 0 := by omega
    have hqe : (q == 0) = false := by simp; omega
    have hte : l.tmod q = l % q := Int.tmod_eq_emod_of_nonneg (by omega)
    by_cases h0 : l % q = 0
    · have HS : Hid (stdS l = q) := Lib.hid (stdS_of hq (hte.trans h0) HN.out)
      have hdm : (l % q != 0) = false := by simp [h0]
      obtain ⟨u, Hu⟩ : ∃ u, Hid (t + 2 * l / q + t / 2 = u) := ⟨_, Lib.hid rfl⟩
      have HU : Hid (stdU l t = u) := Lib.hid (by unfold stdU; rw [HS.out]; exact Hu.out)
      have hd2 : 0 ≤ 2 * l / q ∧ 2 * l / q ≤ 200000 := ⟨Int.ediv_nonneg (by omega) (by omega), Int.le_trans (Int.ediv_le_self _ (by omega)) (by omega)⟩
      have hub : 1 ≤ u ∧ u ≤ 400000 := by have := Hu.out; omega
      clear HN hte h0
      have hue := Hu.out
      have hF1 := fun W' => Lib.hid (Floor_any (w - t / 2) u W' (by omega) (by omega))
      have hdt : -100000 ≤ (w - t / 2) / u ∧ (w - t / 2) / u ≤ 100000 := by
        have h1 : (w - t / 2) / u ≤ 100000 := by
          rcases Int.lt_or_le (w - t / 2) 0 with h | h
          · have := Int.ediv_neg_of_neg_of_pos h (show 0 < u by omega); omega
          · exact Int.le_trans (Int.ediv_le_self _ h) (by omega)
        refine ⟨?_, h1⟩
        rw [Int.le_ediv_iff_mul_le (by omega)]
        have : -100000 * u ≤ -100000 * 1 := Int.mul_le_mul_of_nonpos_left (by omega) (by omega)
        omega
      go_wp2_with fail
      refine ((hF1 _).out).mono ?_
      rintro e w1 ⟨rfl, rfl⟩
      obtain ⟨D, HD⟩ : ∃ D, Hid ((w - t / 2) / u = D) := ⟨_, Lib.hid rfl⟩
      rw [HD.out] at hdt ⊢
      obtain ⟨C, HC⟩ : ∃ C, Hid (min 8 D = C) := ⟨_, Lib.hid rfl⟩
      have hCb : -100000 ≤ C ∧ C ≤ 8 := by have := HC.out; omega
      have hCe := HC.out
      have HSC : Hid (stdC l w t = C) := Lib.hid (by unfold stdC; rw [HU.out, HD.out, ← HC.out]; omega)
      have hMb := mul_bd (a := C - 1) (x := u) (A := 100001) (X := 400000) (by omega) (by omega) (by omega) (by omega)
      obtain ⟨M, HM⟩ : ∃ M, Hid ((C - 1) * u = M) := ⟨_, Lib.hid rfl⟩
      rw [HM.out] at hMb
      have hMw : wrap64 ((C - 1) * u) = M := by rw [HM.out]; unfold wrap64; omega
      have hfin : Hid (tailL q t ((w - M - t) / 2) u C.toNat = stdTails l w t) := Lib.hid (by
        unfold stdTails tailsTo tailL stdF
        rw [HS.out, HU.out, HSC.out, HM.out])
      have hF2 := fun W' => Lib.hid (Floor_any (w - M - t) 2 W' (by omega) (by omega))
      go_wp2_with fail
      refine ((hF2 _).out).mono ?_
      rintro e w1 ⟨rfl, rfl⟩
      have hO := own_newL (W := W0) (T := 3) [q, t] (by simp [maxLen])
      obtain ⟨V, HV⟩ : ∃ V, Hid (W0.alloc (.cells (List.map (Value.int .i64) [q, t]).toArray 3) = V) := ⟨_, Lib.hid rfl⟩
      have hV : Below W0.heap.size W0 V := by rw [← HV.out]; (repeat (first | exact Below.refl _ _ | assumption | (refine below_trans ?_ (Ext.below _)) | (refine Below.trans ?_ ((Ext.below _).mono (by first | omega | (simp; omega)))) | (refine Below.alloc ?_ (by first | omega | (simp; done) | (simp; omega)) _) | (refine Below.setCell ?_ (by first | omega | (simp; done) | (simp; omega)) _) | (refine Below.drew ?_)))
      rw [HV.out] at hO
      have HO := Lib.hid hO
      rw [show W0.alloc (.cells #[.int .i64 q, .int .i64 t] 3) = V from HV.out]
      clear hO HV hue hCe hMw hF1 hF2
      obtain ⟨F, HF⟩ : ∃ F, Hid ((w - M - t) / 2 = F) := ⟨_, Lib.hid rfl⟩
      have hFb : -30000000000 ≤ F ∧ F ≤ 30000000000 := by have := HF.out; omega
      rw [HF.out] at hfin ⊢
      go_wp2
      obtain ⟨K, HK⟩ : ∃ K, Hid (C.toNat = K) := ⟨_, Lib.hid rfl⟩
      have hK8 : K ≤ 8 := by have := HK.out; omega
      rw [HK.out] at hfin
      go_loopw [11, 9] (fun i s wr => ∃ k : Nat, k ≤ K ∧ i = .int .i64 k ∧ Below W0.heap.size W0 wr ∧ Hid (wr.ownsRow W0.heap.size 3 1 s (k + 2) ((tailL q t F u k).map (Value.int .i64)))) (fun i _ _ => K - (intOf i).toNat)
      case atStart => exact ⟨0, by omega, rfl, hV, HO⟩
      case round =>
        clear HO hV
        obtain ⟨k, hk, rfl, hbk, HO⟩ := hrel
        by_cases hlt : k < K
        · have hPb := mul_bd (a := (k : Int)) (x := u) (A := 8) (X := 400000) (by omega) (by omega) (by omega) (by omega)
          obtain ⟨P, HP⟩ : ∃ P, Hid ((k : Int) * u = P) := ⟨_, Lib.hid rfl⟩
          rw [HP.out] at hPb
          have hPw : wrap64 ((k : Int) * u) = P := by rw [HP.out]; unfold wrap64; omega
          have hkK : (k : Int) < C := by have := HK.out; omega
          have Hsn := Lib.hid (tailL_succ q t F u k)
          rw [HP.out] at Hsn
          go_wp2_with (at_builtin; refine wpList_append_own _ rfl _ _ 23 rfl W0.heap.size 3 i0 (.int .i64 0) 1 8 und_ints Hi0.out.1 Hi0.out.2.1 Hi0.out.2.2.1 Hi0.out.2.2.2 rfl (by decide) _ (k + 2) _ rfl (HO.out.alloc _) ⟨wr.heap.size, 0, none⟩ 1 1 [.int .i64 (F + P)] rfl rfl ?c1 ?c2 ?c3 ?c4 ?c5 ?_)
          case c1 =>
            intro jj uu hu
            rw [add0, cell_new rfl jj]
            simpa using hu
          case c2 => intro v hv; simp at hv; subst hv; rfl
          case c3 => unfold maxLen; omega
          case c4 => omega
          case c5 => simp; have := hbk.size; omega
          intro v' w2 hown2 hg2 _
          have hb2 : Below W0.heap.size W0 w2 := (hbk.alloc hbk.size _).grown hg2 (by simp; have := hbk.size; omega) (fun z hz => by have := (HO.out.lt z hz).1; omega)
          have HO2 := Lib.hid hown2
          clear hown2 hg2
          go_wp2
          go_roundw
          case rel => exact ⟨k + 1, by omega, by go_num, hb2, Lib.hid (by rw [Hsn.out]; simpa using HO2.out)⟩
          case measure => simp [intOf]; omega
        · obtain rfl : k = K := by omega
          have hkK : ¬ (k : Int) < C := by have := HK.out; omega
          go_wp2
          go_ret
          refine ⟨_, rfl, below_trans hbu hbk, ?_, ok_own HO.out⟩
          rw [← hfin.out]
          exact ints_own (by rw [tailL_len]; exact HO.out)
    · have hdm : (l % q != 0) = true := by simpa using h0
      have hq1 : q ≠ 1 := fun e => h0 (by rw [e]; simp)
      have HN2 : Hid (∀ p, q - 1 < p → p ≤ 8 → l.tmod p ≠ 0) := Lib.hid (fun p h1 h2 => by
        rcases (by omega : p = q ∨ q < p) with rfl | h3
        · rw [hte]; exact h0
        · exact HN.out p h3 h2)
      clear HN hte h0
      go_wp2
      go_roundw
      case rel => exact ⟨by first | rfl | trivial, q - 1, by omega, rfl, HN2⟩
      case measure => simp [intOf]; omega
end Go.Proofs.YtjglkglaogaenaaGreatDoor
