/- texts: Pl. -/
import Derived.Test.YtokhkhnofkcalaaGreatDoorGZS16
namespace Go.Proofs.YtokhkhnofkcalaaGreatDoor
set_option maxHeartbeats 8000000
set_option linter.unusedSimpArgs false
set_option linter.unusedVariables false
section
open Go.RowKit Go.Shelf
theorem planes_own {B : Nat} {w : World} {v : Value} {ps : List Q4} {n : Nat} (h : w.ownsRow B 69 4 v n (ps.flatMap enc4)) : PlanesV 0 w v ps := by
 have hl := h.1
 rcases h.2 with ⟨rfl, h0⟩ | ⟨g, cap, cur, rfl, hb, hh, hnc, hcm, hcs, htk⟩
 ·subst h0
  exact ⟨⟨none, 0, 0, rfl, hl, fun _ => ⟨rfl, rfl⟩, fun ad h => by cases h⟩, fun a m c _ => Nat.zero_le _⟩
 ·refine ⟨⟨some ⟨g, 0, none⟩, n, cap, rfl, hl, fun h => (by cases h), fun ad had j u hu => ?_⟩, fun a m c _ => Nat.zero_le _⟩
  cases had
  rw [add0, blk_cell hh]
  have hj := (List.getElem?_eq_some_iff.1 hu).1
  rw [← htk, List.getElem?_take] at hu
  split at hu
  ·rw [← hu]; simp
  ·cases hu
theorem blk4 {w : World} {g : Nat} {x0 x1 x2 x3 : Value} {t : TypeId} (h : w.heap[g]? = some (.cells #[x0, x1, x2, x3] t (0, 0))) : w.cell? ⟨g, 0, none⟩ = some x0 ∧ w.cell? ⟨g, 1, none⟩ = some x1 ∧ w.cell? ⟨g, 2, none⟩ = some x2 ∧ w.cell? ⟨g, 3, none⟩ = some x3 ∧ (∀ i, w.frozen? ⟨g, i, none⟩ = false) ∧ g < w.heap.size :=
 ⟨(blk_cell h 0).trans rfl, (blk_cell h 1).trans rfl, (blk_cell h 2).trans rfl, (blk_cell h 3).trans rfl, blk_free h, blk_lt h⟩
def put4 (w : World) (g : Nat) (a b c d : Value) : World := (((w.setCell ⟨g, 0, none⟩ a).setCell ⟨g, 1, none⟩ b).setCell ⟨g, 2, none⟩ c).setCell ⟨g, 3, none⟩ d
theorem put4_blk {w : World} {g : Nat} {x y z u : Value} {T : TypeId} (h : w.heap[g]? = some (.cells #[x, y, z, u] T (0, 0))) (a b c d : Value) : (put4 w g a b c d).heap[g]? = some (.cells #[a, b, c, d] T (0, 0)) := by
 have := blk_set (blk_set (blk_set (blk_set h 0 a) 1 b) 2 c) 3 d
 unfold put4
 simpa using this
theorem bx_lt {B : Nat} {T : TypeId} {cs : Array Value} : ∀ (u : Value) (w : World), IsBx B T cs u w → ∃ g, u = .pointer (some ⟨g, 0, none⟩) ∧ g < w.heap.size := fun _ _ ⟨g, h1, _, h3⟩ => ⟨g, h1, blk_lt h3⟩
end
end Go.Proofs.YtokhkhnofkcalaaGreatDoor
