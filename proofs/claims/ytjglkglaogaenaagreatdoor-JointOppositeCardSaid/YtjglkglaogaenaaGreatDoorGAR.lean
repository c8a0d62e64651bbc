/- texts of mine, merged: F0. -/
import Derived.Test.YtjglkglaogaenaaGreatDoorGS
/- Plain: the ways, and in which of them a member is free. -/
namespace Go.Proofs.YtjglkglaogaenaaGreatDoor
open Go.RowKit

def ways26 : List Q3 := [(-1, -1, -1), (-1, -1, 0), (-1, -1, 1), (-1, 0, -1), (-1, 0, 0), (-1, 0, 1), (-1, 1, -1), (-1, 1, 0), (-1, 1, 1), (0, -1, -1), (0, -1, 0), (0, -1, 1), (0, 0, -1), (0, 0, 1), (0, 1, -1), (0, 1, 0), (0, 1, 1), (1, -1, -1), (1, -1, 0), (1, -1, 1), (1, 0, -1), (1, 0, 0), (1, 0, 1), (1, 1, -1), (1, 1, 0), (1, 1, 1)]
def neg3 (v : Q3) : Q3 := (-v.1, -v.2.1, -v.2.2)
/-- In which ways the member A is free. -/
def freeAB (k w : Int) (n : List Int) (v : Q3) : Bool :=
  if k = 0 then decide (0 ≤ v.2.2)
  else if k = 1 then v.2.2 == 0
  else if k = 2 then v.2.1 == 0 && v.2.2 == 0
  else if k = 3 ∨ k = 8 then v.1 == 1 && (v.2.1 == 0 && v.2.2 == 0)
  else if k = 4 then v.2.2 == 0 && (decide (0 ≤ v.1) || (v.2.1 != 0 && decide (w ≤ n.getD 1 0)))
  else if k = 5 then (v.2.1 == 0 && decide (v.1 ≤ 0)) || (n.getD 0 0 == 1 && v.1 == -1)
  else if k = 6 then decide (0 ≤ n.getD 1 0 * v.1 - n.getD 2 0 * v.2.2)
  else if k = 7 then v.2.1 == 0 || (decide (v.2.1 < 0) && n.length == 1)
  else if k = 9 then v.1 == 1 && (v.2.1 == -1 && v.2.2 == 0)
  else v.1 == 0 && (v.2.1 == 0 && v.2.2 == 1)
/-- In which ways a member is free. -/
def freeMB (k w : Int) (n : List Int) (m : Int) (v : Q3) : Bool :=
  if m = 0 then freeAB k w n v else if m = 1 then freeAB k w n (neg3 v) else if m < memB k then v.1 == 0 && v.2.1 == 0 else false
def freeL (k w : Int) (n : List Int) (m : Int) : List Q3 := ways26.filter (freeMB k w n m)
/-- The same as the reference has it. -/
def firstB (k w : Int) (n : List Int) (v : Q3) : Bool :=
  if k = 5 then (v.1 == -1 && (v.2.1 == 0 || n.getD 0 0 == 1)) || (v.1 == 0 && v.2.1 == 0) else freeAB k w n v
def isFreeB (k w : Int) (n : List Int) (m : Int) (v : Q3) : Bool :=
  if memB k ≤ m then false else if m = 0 then firstB k w n v else if m = 1 then firstB k w n (neg3 v) else firstB k w n v || firstB k w n (neg3 v)
theorem ways_bd : ∀ v ∈ ways26, (v.1 = -1 ∨ v.1 = 0 ∨ v.1 = 1) ∧ (v.2.1 = -1 ∨ v.2.1 = 0 ∨ v.2.1 = 1) ∧ (v.2.2 = -1 ∨ v.2.2 = 0 ∨ v.2.2 = 1) ∧ ¬ (v.1 = 0 ∧ v.2.1 = 0 ∧ v.2.2 = 0) := by decide
theorem first_eq {k w : Int} {n : List Int} {v : Q3} (h : v.1 = -1 ∨ v.1 = 0 ∨ v.1 = 1) : firstB k w n v = freeAB k w n v := by
  by_cases hk : k = 5
  · subst hk
    simp only [firstB, freeAB]
    rcases h with h | h | h <;> simp [h]
  · simp [firstB, hk]
theorem isFree_eq {k w : Int} {n : List Int} {m : Int} (hk : 0 ≤ k ∧ k ≤ 10) (hm : 0 ≤ m) {v : Q3} (h : v ∈ ways26) : isFreeB k w n m v = freeMB k w n m v := by
  obtain ⟨h1, h2, h3, h4⟩ := ways_bd v h
  have h1' : (neg3 v).1 = -1 ∨ (neg3 v).1 = 0 ∨ (neg3 v).1 = 1 := by simp only [neg3]; omega
  unfold isFreeB freeMB
  rw [first_eq h1, first_eq h1']
  by_cases h10 : k = 10
  · subst h10
    simp only [memB, if_true]
    by_cases m3 : 3 ≤ m
    · rw [if_pos m3, if_neg (by omega), if_neg (by omega), if_neg (by omega)]
    · rw [if_neg m3]
      by_cases m0 : m = 0
      · rw [if_pos m0, if_pos m0]
      · rw [if_neg m0, if_neg m0]
        by_cases m1 : m = 1
        · rw [if_pos m1, if_pos m1]
        · rw [if_neg m1, if_neg m1, if_pos (by omega)]
          obtain ⟨x, y, z⟩ := v
          simp only [freeAB, neg3] at *
          rcases h1 with rfl | rfl | rfl <;> rcases h2 with rfl | rfl | rfl <;> rcases h3 with rfl | rfl | rfl <;> first | rfl | (exfalso; exact h4 ⟨rfl, rfl, rfl⟩)
  · simp only [memB, if_neg h10]
    by_cases m2 : 2 ≤ m
    · rw [if_pos m2, if_neg (by omega), if_neg (by omega), if_neg (by omega)]
    · rw [if_neg m2]
      by_cases m0 : m = 0
      · rw [if_pos m0, if_pos m0]
      · rw [if_neg m0, if_neg m0, if_pos (by omega), if_pos (by omega)]
theorem freeL_eq {k w : Int} {n : List Int} {m : Int} (hk : 0 ≤ k ∧ k ≤ 10) (hm : 0 ≤ m) : ways26.filter (isFreeB k w n m) = freeL k w n m :=
  List.filter_congr fun _ h => isFree_eq hk hm h
end Go.Proofs.YtjglkglaogaenaaGreatDoor
