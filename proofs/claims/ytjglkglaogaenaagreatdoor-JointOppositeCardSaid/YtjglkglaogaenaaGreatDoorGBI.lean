/- texts of mine, merged: E4. -/
import Derived.Test.YtjglkglaogaenaaGreatDoorGAA
import Derived.SizedLaws
/- A joint that came in, opened: what its numbers weigh. -/
namespace Go.Proofs.YtjglkglaogaenaaGreatDoor
open Go.ChangeShapes Go.WideShapes Go.ChangeAt Go.WideMaps Go.WideElems Go.RowKit

theorem bytes_int : Tryz.prog.bytesOf 3 = 8 := by kernel_rfl
/-- A slice of ints that came in: nil, or what was read. -/
theorem open_intsN {H : Type} {enc : TypeId × Value → H} {W : World} {fuel : Nat} {v : Value} {y : DataW H × List MemPlace} (h : DataW.trod enc Tryz.prog W 0 (fun _ => true) true fuel 23 [v] = some y) :
    (∃ c, v = .slice none 0 c) ∨ ∃ (n sp : List (DataW H)) (a : Addr) (c : Nat), v = .slice (some a) n.length c ∧ y.1 = .slice n sp := by
  rcases open_ints und_ints und_int cells_int h with ⟨hcs, hx⟩ | ⟨a, len, cap, zs, hcs, _, hl, hm, hz, hx, hcell, hwz⟩
  · simp only [List.cons.injEq, and_true] at hcs
    exact Or.inl ⟨_, hcs⟩
  · simp only [List.cons.injEq, and_true] at hcs
    have hzl : len ≤ zs.length := by rw [hz]; split <;> omega
    have e : (lits (H := H) .i64 (zs.take len)).length = len := by simp [lits]; omega
    exact Or.inr ⟨lits .i64 (zs.take len), _, a, cap, by rw [hcs, e], by rw [hx]⟩
set_option maxRecDepth 100000 in
theorem joint_len {H : Type} {enc : TypeId × Value → H} {W : World} {k l w t : Int} {nv : Value} {n : List Int} {d : DataW H} {p : List MemPlace} {ts : List TypeId} {ds : List (DataW H)}
    (h : DataW.Trod enc Tryz.prog W 0 (fun _ => true) true 25 (vJ k l w t nv) d p) (hn : Ints W nv n)
    (hz : (DataW.weightsEach Tryz.prog ts ds).all (· ≤ reachBytes) = true) (ht : ts[0]? = some 25) (hd : ds[0]? = some d) : n.length * 8 ≤ 140737488355328 := by
  obtain ⟨fuel, hf⟩ := h
  unfold vJ at hf
  obtain ⟨y0, y1, y2, m, hx, _, h0, h1, h2⟩ := Deep.trod_struct3 Tryz.underlying25 hf
  simp only [Prod.mk.injEq] at hx
  simp [Value.cells, cells_ints] at h2
  obtain ⟨a, q, c, rfl, hl, _, _⟩ := hn
  rcases open_intsN h2 with ⟨c', e⟩ | ⟨ns, sp, a', c', e, hy⟩
  · cases e
    omega
  · cases e
    have hw := List.all_eq_true.1 hz ((ns.length + sp.length) * 8) (DataW.weights_mem_each ht hd _ (by
      rw [hx.1, hy]
      simp [DataW.weights, DataW.weightsEach, Tryz.underlying25, bytes_int]))
    have hw2 : (ns.length + sp.length) * 8 ≤ reachBytes := by simpa using hw
    unfold reachBytes at hw2
    omega
end Go.Proofs.YtjglkglaogaenaaGreatDoor
