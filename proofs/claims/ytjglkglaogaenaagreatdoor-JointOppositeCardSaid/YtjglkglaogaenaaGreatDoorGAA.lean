/- texts of mine, merged: E2. -/
import Derived.Test.YtjglkglaogaenaaGreatDoorGT
import Derived.Lib.SmallJoins
/- Arguments that came in, opened: an array of three ints, a setting, a way. -/
namespace Go.Proofs.YtjglkglaogaenaaGreatDoor
open Go.ChangeShapes Go.WideShapes Go.ChangeAt Go.WideMaps Go.WideElems Go.RowKit

theorem laidOut : laidOutB Tryz.prog = true := by kernel_rfl
def wf3 (a b c : Int) : Prop := (Lit.int .i64 a).wf = true ∧ (Lit.int .i64 b).wf = true ∧ (Lit.int .i64 c).wf = true
theorem trod_arr3 {H : Type} {enc : TypeId × Value → H} {W : World} {fuel : Nat} {c0 c1 c2 : Value} {y : DataW H × List MemPlace} (h : DataW.trod enc Tryz.prog W 0 (fun _ => true) true fuel 22 [c0, c1, c2] = some y) :
    ∃ a b c, c0 = .int .i64 a ∧ c1 = .int .i64 b ∧ c2 = .int .i64 c ∧ wf3 a b c := by
  obtain ⟨xs, q, _, _, _, hl, hel⟩ := DataW.trod_array und_arr3 h
  have e0 := hel 0 (by omega)
  have e1 := hel 1 (by omega)
  have e2 := hel 2 (by omega)
  simp [cells_int] at e0 e1 e2
  rw [List.getElem?_eq_getElem (by omega)] at e0 e1 e2
  obtain ⟨a0, ha0, _, w0⟩ := DataW.trod_int und_int e0
  obtain ⟨a1, ha1, _, w1⟩ := DataW.trod_int und_int e1
  obtain ⟨a2, ha2, _, w2⟩ := DataW.trod_int und_int e2
  simp only [List.cons.injEq, and_true] at ha0 ha1 ha2
  exact ⟨a0, a1, a2, ha0, ha1, ha2, w0, w1, w2⟩
theorem okWide_arr {P : Program} {W : World} {r : Reach} {b0 : Nat} {t e : TypeId} {n : Nat} {v : Value} (ht : P.underlying t = some (.array n e)) (h : Value.okWide P W r b0 t v) : ∃ cs, v = .agg cs ∧ cs.size = P.cellsOf t := by
  unfold Value.okWide at h
  rw [ht] at h
  cases v <;> simp_all
set_option maxRecDepth 100000 in
theorem open_arr3 {H : Type} {enc : TypeId × Value → H} {W : World} {base : Nat} {v : Value} {d : DataW H} {p : List MemPlace}
    (hv : Value.okWide Tryz.prog W .any base 22 v) (h : DataW.Trod enc Tryz.prog W 0 (fun _ => true) true 22 v d p) : ∃ a b c, v = .agg #[.int .i64 a, .int .i64 b, .int .i64 c] ∧ wf3 a b c := by
  obtain ⟨cs, rfl, hsz⟩ := okWide_arr und_arr3 hv
  obtain ⟨c0, c1, c2, rfl⟩ := Go.Joins.array3 (hsz.trans cells_arr3)
  obtain ⟨fuel, hf⟩ := h
  simp [Value.cells] at hf
  obtain ⟨a, b, c, rfl, rfl, rfl, hw⟩ := trod_arr3 hf
  exact ⟨a, b, c, rfl, hw⟩
end Go.Proofs.YtjglkglaogaenaaGreatDoor
