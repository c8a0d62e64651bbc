/- texts of mine, merged: E3. -/
import Derived.Test.YtjglkglaogaenaaGreatDoorGAA
/- Arguments that came in, opened: a way, a setting. -/
namespace Go.Proofs.YtjglkglaogaenaaGreatDoor
open Go.ChangeShapes Go.WideShapes Go.ChangeAt Go.WideMaps Go.WideElems Go.RowKit

theorem array4 {α : Type} {cs : Array α} (h : cs.size = 4) : ∃ c0 c1 c2 c3, cs = #[c0, c1, c2, c3] := by
  obtain ⟨l⟩ := cs
  match l, h with
  | [c0, c1, c2, c3], _ => exact ⟨c0, c1, c2, c3, rfl⟩
theorem cells_way : Tryz.prog.cellsOf 69 = 3 := by kernel_rfl
theorem cells_setting : Tryz.prog.cellsOf 67 = 4 := by kernel_rfl
def wf4 (a b c e : Int) : Prop := wf3 a b c ∧ (Lit.int .i64 e).wf = true
set_option maxRecDepth 100000 in
theorem open_way {H : Type} {enc : TypeId × Value → H} {W : World} {base : Nat} {v : Value} {d : DataW H} {p : List MemPlace}
    (hv : Value.okWide Tryz.prog W .any base 69 v) (h : DataW.Trod enc Tryz.prog W 0 (fun _ => true) true 69 v d p) : ∃ a b c, v = .agg #[.int .i64 a, .int .i64 b, .int .i64 c] ∧ wf3 a b c := by
  obtain ⟨cs, rfl, hsz⟩ := okWide_struct Tryz.underlying69 hv
  obtain ⟨c0, c1, c2, rfl⟩ := Go.Joins.array3 (hsz.trans cells_way)
  obtain ⟨fuel, hf⟩ := h
  obtain ⟨y0, y1, y2, m, hx, _, h0, h1, h2⟩ := Deep.trod_struct3 Tryz.underlying69 hf
  simp [Value.cells, cells_int] at h0 h1 h2
  obtain ⟨a0, ha0, _, w0⟩ := DataW.trod_int und_int h0
  obtain ⟨a1, ha1, _, w1⟩ := DataW.trod_int und_int h1
  obtain ⟨a2, ha2, _, w2⟩ := DataW.trod_int und_int h2
  simp only [List.cons.injEq, and_true] at ha0 ha1 ha2
  subst ha0 ha1 ha2
  exact ⟨a0, a1, a2, rfl, w0, w1, w2⟩
set_option maxRecDepth 100000 in
theorem open_setting {H : Type} {enc : TypeId × Value → H} {W : World} {base : Nat} {v : Value} {d : DataW H} {p : List MemPlace}
    (hv : Value.okWide Tryz.prog W .any base 67 v) (h : DataW.Trod enc Tryz.prog W 0 (fun _ => true) true 67 v d p) : ∃ a b c e, v = .agg #[.int .i64 a, .int .i64 b, .int .i64 c, .int .i64 e] ∧ wf4 a b c e := by
  obtain ⟨cs, rfl, hsz⟩ := okWide_struct Tryz.underlying67 hv
  obtain ⟨c0, c1, c2, c3, rfl⟩ := array4 (hsz.trans cells_setting)
  obtain ⟨fuel, hf⟩ := h
  obtain ⟨y0, y1, m, hx, _, h0, h1⟩ := trod_struct2 Tryz.underlying67 hf
  simp [Value.cells, cells_int, cells_arr3] at h0 h1
  obtain ⟨a0, a1, a2, rfl, rfl, rfl, hw⟩ := trod_arr3 h0
  obtain ⟨a3, ha3, _, w3⟩ := DataW.trod_int und_int h1
  simp only [List.cons.injEq, and_true] at ha3
  subst ha3
  exact ⟨a0, a1, a2, a3, rfl, hw, w3⟩
end Go.Proofs.YtjglkglaogaenaaGreatDoor
