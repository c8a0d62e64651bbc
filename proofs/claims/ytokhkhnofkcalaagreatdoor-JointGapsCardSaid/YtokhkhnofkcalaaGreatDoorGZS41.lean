/- texts: Ms. -/
import Derived.WalkKit
namespace Go.Proofs.YtokhkhnofkcalaaGreatDoor
set_option maxHeartbeats 8000000
set_option linter.unusedSimpArgs false
set_option linter.unusedVariables false
section
section
variable {α : Type} (le : α → α → Bool)
def mgF : Nat → List α → List α → List α
 | 0, xs, ys => xs ++ ys
 | _ + 1, [], ys => ys
 | _ + 1, xs, [] => xs
 | f + 1, x :: xs, y :: ys => if le x y then x :: mgF f xs (y :: ys) else y :: mgF f (x :: xs) ys
theorem mgF_eq : ∀ (f : Nat) (xs ys : List α), xs.length + ys.length ≤ f → List.merge xs ys le = mgF le f xs ys
 | 0, xs, ys, h => by
  obtain rfl : xs = [] := List.length_eq_zero_iff.1 (by omega)
  obtain rfl : ys = [] := List.length_eq_zero_iff.1 (by omega)
  simp [mgF]
 | f + 1, [], ys, _ => by simp [mgF]
 | f + 1, x :: xs, [], _ => by simp [mgF]
 | f + 1, x :: xs, y :: ys, h => by
  rw [List.cons_merge_cons]
  simp only [mgF]
  split
  ·rw [mgF_eq f xs (y :: ys) (by simp at h ⊢; omega)]
  ·rw [mgF_eq f (x :: xs) ys (by simp at h ⊢; omega)]
def msF : Nat → List α → List α
 | 0, l => l
 | _ + 1, [] => []
 | _ + 1, [a] => [a]
 | f + 1, a :: b :: xs => let l := a :: b :: xs; mgF le l.length (msF f (l.take ((l.length + 1) / 2))) (msF f (l.drop ((l.length + 1) / 2)))
theorem msF_len : ∀ (f : Nat) (l : List α), l.length ≤ f → l.mergeSort le = msF le f l
 | 0, l, h => by
  obtain rfl : l = [] := List.length_eq_zero_iff.1 (by omega)
  simp [msF]
 | f + 1, [], _ => by simp [msF]
 | f + 1, [a], _ => by simp [msF]
 | f + 1, a :: b :: xs, h => by
  rw [List.mergeSort]
  simp only [msF, List.MergeSort.Internal.splitInTwo_fst, List.MergeSort.Internal.splitInTwo_snd]
  have h1 : ((a :: b :: xs).take (((a :: b :: xs).length + 1) / 2)).length ≤ f := by simp at h ⊢; omega
  have h2 : ((a :: b :: xs).drop (((a :: b :: xs).length + 1) / 2)).length ≤ f := by simp at h ⊢; omega
  rw [← msF_len f _ h1, ← msF_len f _ h2, ← mgF_eq le _ _ _ (by simp; omega)]
end
end
end Go.Proofs.YtokhkhnofkcalaaGreatDoor
