/- texts of mine, merged: E0, E1. -/
import Derived.Test.YtjglkglaogaenaaGreatDoorTie
import Derived.Test.YtjglkglaogaenaaGreatDoorGN
import Derived.ProofKit
import Derived.LaidMore
import Derived.OpenShut
import Derived.Stop.Joined
import Derived.Stop.LaidErr
import Derived.Lib.LaidTab
import Derived.SevenTiedAt
import Derived.Test.YtjglkglaogaenaaGreatDoorGP
import Derived.Deep.Strs
/- The ends of the rows: the listed table, the door's heap, what a law leaves. -/
namespace Go.Proofs.YtjglkglaogaenaaGreatDoor
section
open Go.ChangeShapes Go.WideShapes Go.ChangeAt Go.WideMaps Go.WideElems Go.RowKit
theorem own : ownKnob Tryz.prog.godebug = none := by kernel_rfl
def laid3 : List (String × DataW Unit) := [("math/bits.deBruijn32tab", Rows.laid_math_bits_deBruijn32tab), ("math/bits.deBruijn64tab", Rows.laid_math_bits_deBruijn64tab), ("internal/strconv.uint64pow10", Rows.laid_internal_strconv_uint64pow10)]
set_option maxRecDepth 100000 in
theorem door_met (os : Os) (args : Array Value) : laidMetH Tryz.prog laid3 ((World.doorLaid Tryz.prog 400 os).forCall (fun _ _ => 0) ⟨#[], args, []⟩).memory :=
  laidMetH_of_parts3 (fuel := 8) (laidMet_of_run' 8 (by kernel_rfl) (by kernel_rfl)) (by kernel_rfl) (by kernel_rfl)
theorem und_bool : Tryz.prog.underlying 4 = some .bool := by kernel_rfl
theorem und_str : Tryz.prog.underlying 9 = some .string := by kernel_rfl
theorem tab_of_laid {W : World} (h : laidMetH Tryz.prog laid3 W) : Lib.TabIs Tryz.prog W "internal/strconv.uint64pow10" .u64 Lib.pow10Tab := by
  rw [MakeChecks.laidMetH_plain _ _ _ (by kernel_rfl)] at h
  exact Lib.tabIs_of_head (rest := []) (g := 0) (t := 286) (e := 235) (n := 20) (by kernel_rfl) (by kernel_rfl) (by kernel_rfl) (by kernel_rfl) (by kernel_rfl) (by kernel_rfl) h.tail.tail
/-- What a law leaves: true, and the arguments as they read. -/
theorem post_law {H : Type} {enc : TypeId × Value → H} {f : Func} {s : ChangeSpec} {W W' : World} {args : Array Value} {ds : List (DataW H)} {before : List MemPlace}
    (hW : DataW.Whole enc Tryz.prog f.params.toList s.vars false W args.toList ds [] before) (hv : s.vars = []) (hb : Below W.heap.size W W') (hr : f.resultTypes = #[4])
    (hfn : s.fn H (ds ++ []) = { results := [.lit (.bool true)], args := ds })
    (hargs : DataW.TrodAll enc Tryz.prog W' 0 (fun b => decide (b < W.heap.size)) true f.params.toList args.toList ds before) :
    s.post enc Tryz.prog f false true false false W args (.bool true) W' := by
  refine ⟨ds, [], before, [], before, [], hW, ?_, by rw [hfn]; exact hargs, by rw [hv, hfn]; first | rfl | trivial | exact ⟨rfl, rfl⟩, hb.frame _, fun h => by cases h⟩
  rw [hfn, hr]
  exact trodAll_mk1 (shut_bool und_bool _)
end
/- A joint that came in, opened. -/
section
open Go.ChangeShapes Go.WideShapes Go.ChangeAt Go.WideMaps Go.WideElems Go.RowKit
theorem array5 {α : Type} {cs : Array α} (h : cs.size = 5) : ∃ c0 c1 c2 c3 c4, cs = #[c0, c1, c2, c3, c4] := by
  obtain ⟨l⟩ := cs
  match l, h with
  | [c0, c1, c2, c3, c4], _ => exact ⟨c0, c1, c2, c3, c4, rfl⟩
theorem cells_joint : Tryz.prog.cellsOf 25 = 5 := by kernel_rfl
theorem cells_arr3 : Tryz.prog.cellsOf 22 = 3 := by kernel_rfl
theorem cells_ints : Tryz.prog.cellsOf 23 = 1 := by kernel_rfl
/-- A slice of ints that came in. -/
theorem open_intsV {H : Type} {enc : TypeId × Value → H} {W : World} {fuel : Nat} {v : Value} {y : DataW H × List MemPlace} (h : DataW.trod enc Tryz.prog W 0 (fun _ => true) true fuel 23 [v] = some y) :
    ∃ n : List Int, Ints W v n ∧ n.length ≤ maxLen ∧ (∀ x ∈ n, (Lit.int .i64 x).wf = true) ∧ NilV v ∧ (y.1 = .nil ∨ ∃ sp, y.1 = .slice (lits .i64 n) sp) := by
  rcases open_ints und_ints und_int cells_int h with ⟨hcs, hx⟩ | ⟨a, len, cap, zs, hcs, _, hl, hm, hz, hx, hcell, hwz⟩
  · simp only [List.cons.injEq, and_true] at hcs
    subst hcs
    exact ⟨[], ⟨none, 0, 0, rfl, rfl, Nat.le_refl _, fun h => by omega⟩, by simp, (fun _ h => by cases h), (fun m c e => by cases e; exact ⟨rfl, rfl⟩), Or.inl (by rw [hx])⟩
  · simp only [List.cons.injEq, and_true] at hcs
    subst hcs
    simp only [if_true] at hz
    refine ⟨zs.take len, ⟨some a, len, cap, rfl, by simp; omega, hl, fun h0 => ?_⟩, by simp; omega, fun x hx => hwz x (List.mem_of_mem_take hx), (fun m c e => by cases e), Or.inr ⟨_, by rw [hx]⟩⟩
    obtain ⟨b, off, spot⟩ := a
    have hspot : spot = none := by simpa [Addr.add] using World.cell?_spot (hcell 0 (by omega))
    subst hspot
    refine ⟨b, off, rfl, fun i hi => ?_⟩
    have hi' : i < len := by simp at hi; omega
    have := hcell i (by omega)
    rw [addO] at this
    rw [this]
    simp [List.getD, (by omega : i < zs.length)]
set_option maxRecDepth 100000 in
theorem open_joint {H : Type} {enc : TypeId × Value → H} {W : World} {base : Nat} {v : Value} {d : DataW H} {p : List MemPlace}
    (hv : Value.okWide Tryz.prog W .any base 25 v) (h : DataW.Trod enc Tryz.prog W 0 (fun _ => true) true 25 v d p) :
    ∃ k l w t nv n, v = vJ k l w t nv ∧ Ints W nv n ∧ NilV nv ∧ n.length ≤ maxLen ∧ ((Lit.int .i64 k).wf = true ∧ (Lit.int .i64 l).wf = true ∧ (Lit.int .i64 w).wf = true ∧ (Lit.int .i64 t).wf = true ∧ ∀ x ∈ n, (Lit.int .i64 x).wf = true) ∧
      ∃ d0 d1 d2, d = .agg [d0, d1, d2] ∧ (d2 = .nil ∨ ∃ sp, d2 = .slice (lits .i64 n) sp) := by
  obtain ⟨cs, rfl, hsz⟩ := okWide_struct Tryz.underlying25 hv
  obtain ⟨c0, c1, c2, c3, c4, rfl⟩ := array5 (hsz.trans cells_joint)
  obtain ⟨fuel, hf⟩ := h
  obtain ⟨y0, y1, y2, m, hx, _, h0, h1, h2⟩ := Deep.trod_struct3 Tryz.underlying25 hf
  simp only [Prod.mk.injEq] at hx
  simp [Value.cells, cells_int, cells_arr3, cells_ints] at h0 h1 h2
  obtain ⟨k, hk, _, wk⟩ := DataW.trod_int und_int h0
  obtain ⟨xs, q, _, _, _, hl, hel⟩ := DataW.trod_array und_arr3 h1
  have e0 := hel 0 (by omega)
  have e1 := hel 1 (by omega)
  have e2 := hel 2 (by omega)
  simp [cells_int] at e0 e1 e2
  rw [List.getElem?_eq_getElem (by omega)] at e0 e1 e2
  obtain ⟨a0, ha0, _, w0⟩ := DataW.trod_int und_int e0
  obtain ⟨a1, ha1, _, w1⟩ := DataW.trod_int und_int e1
  obtain ⟨a2, ha2, _, w2⟩ := DataW.trod_int und_int e2
  obtain ⟨n, hn, hln, hwn, hnil, hd⟩ := open_intsV h2
  simp only [List.cons.injEq, and_true] at hk ha0 ha1 ha2
  subst hk ha0 ha1 ha2
  exact ⟨k, a0, a1, a2, c4, n, rfl, hn, hnil, hln, ⟨wk, w0, w1, w2, hwn⟩, _, _, _, hx.1, hd⟩
end
end Go.Proofs.YtjglkglaogaenaaGreatDoor
