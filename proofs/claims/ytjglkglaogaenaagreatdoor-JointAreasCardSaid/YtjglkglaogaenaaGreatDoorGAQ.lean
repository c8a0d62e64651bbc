/- texts of mine, merged: S1a, S7. -/
import Derived.Test.YtjglkglaogaenaaGreatDoorGQ
import Derived.Test.YtjglkglaogaenaaGreatDoorGP
/- Lists of ints that are returned. -/
namespace Go.Proofs.YtjglkglaogaenaaGreatDoor
section
open Go.RowKit Go.Shelf
/-- nil is nil, and what is not lies in a row of ints. -/
def OkV (w : World) (v : Value) : Prop := NilV v ∧ ∀ b off m c, v = .slice (some ⟨b, off, none⟩) m c → ∃ cs, w.heap[b]? = some (.cells cs 3 (0, 0))
theorem ok_own {w : World} {base n s : Nat} {v : Value} {vs : List Value} (h : w.ownsRow base 3 s v n vs) : OkV w v := by
  refine ⟨nil_own h, fun b off m c e => ?_⟩
  rcases h.2 with ⟨rfl, _⟩ | ⟨g, cap, cur, rfl, _, hh, _⟩
  · cases e
  · cases e; exact ⟨cur, hh⟩
theorem ok_new {W : World} {cs : Array Value} {g off m c : Nat} (hg : g = W.heap.size) : OkV (W.alloc (.cells cs 3)) (.slice (some ⟨g, off, none⟩) m c) :=
  ⟨(fun _ _ e => by cases e), fun b _ _ _ e => by cases e; exact ⟨cs, heap_new hg⟩⟩
theorem OkV.below {w w' : World} {v : Value} (h : OkV w v) (hb : Below w.heap.size w w') : OkV w' v :=
  ⟨h.1, fun b off m c e => by obtain ⟨cs, hh⟩ := h.2 b off m c e; exact ⟨cs, (hb.block _ (blk_lt hh)).trans hh⟩⟩
/-- A list of ints is returned. -/
def RetL (W : World) (xs : List Int) (e : Ending) (w' : World) : Prop := ∃ r, e = .returned r ∧ Below W.heap.size W w' ∧ Ints w' r xs ∧ OkV w' r
theorem nil_some {a : Addr} {m c : Nat} : NilV (.slice (some a) m c) := fun _ _ e => by cases e
theorem own_sliceI {w : World} {base : Nat} {e : TypeId} {size n : Nat} {v : Value} {xs : List Value} (h : w.ownsRow base e size v n xs) : ∃ a c, v = .slice a n c := by
  rcases h.2 with ⟨rfl, h0⟩ | ⟨g, cap, cur, rfl, _⟩
  · exact ⟨none, 0, by rw [h0]⟩
  · exact ⟨_, _, rfl⟩
end
/- base.Ints, SameJoint. -/
section
open Go.RowKit Go.Shelf
attribute [local go_sem] Ext.cell Ext.frozen
set_option maxHeartbeats 2000000 in
theorem bInts_same (v v2 : Value) (xs : List Int) (W : World) (hx : Ints W v xs) (hy : Ints W v2 xs) (hm : xs.length ≤ 1000000) : Calls Tryz.prog 38 #[v, v2] W (Ret W (.bool true)) := by
  obtain ⟨a, n, c, rfl, hn, _, hx⟩ := hx
  obtain ⟨a2, n2, c2, rfl, hn2, _, hy⟩ := hy
  obtain rfl : n = n2 := by omega
  go_enter Tryz.func38, Tryz.ntmps38
  go_wp2
  go_loopw [5] (fun i wr => ∃ k : Nat, k ≤ n ∧ i = .int .i64 k ∧ Below W.heap.size W wr) (fun i _ => n - (intOf i).toNat)
  case atStart => exact ⟨0, by omega, rfl, Below.refl _ _⟩
  case round =>
    obtain ⟨k, hk, rfl, hb⟩ := hrel
    by_cases hlt : k < n
    · obtain ⟨b, off, rfl, hi⟩ := hx (by omega)
      obtain ⟨b2, off2, rfl, hi2⟩ := hy (by omega)
      have c0 := below_cell hb (hi k (by omega))
      have c1 := below_cell hb (hi2 k (by omega))
      have z0 := World.block_lt_of_cell? wr _ c0
      have z1 := World.block_lt_of_cell? wr _ c1
      simp only at z0 z1
      rw [getDI xs k (by omega)] at c0 c1
      generalize xs.getD k 0 = x at *
      have q1 : (k : Int) < (n : Int) := by omega
      have q2 : (0 : Int) ≤ (k : Int) := by omega
      clear hx hy hi hi2
      go_wp2
      refine wp_region_quietB (by kernel_rfl) (by kernel_rfl) ?_
      repeat (first | go_big_quiet_step (fail) | quiet_step (fail))
      refine wpQuiet_nil ?_
      rintro _ ⟨u, rfl⟩
      go_wp2
      go_roundw
      case rel => exact ⟨k + 1, by omega, by go_num, below_trans hb u.below⟩
      case measure => simp [intOf]; omega
    · clear hx hy
      go_wp2
      go_ret
      exact ⟨rfl, hb⟩
set_option maxRecDepth 100000 in
set_option maxHeartbeats 2000000 in
theorem SameJoint_same (k l w t : Int) (v v2 : Value) (xs : List Int) (W : World) (hx : Ints W v xs) (hy : Ints W v2 xs) (hm : xs.length ≤ 1000000) : Calls Tryz.prog 29 #[vJ k l w t v, vJ k l w t v2] W (Ret W (.bool true)) := by
  have h := fun W' h => Lib.hid (bInts_same v v2 xs W' (hx.below (w' := W') h) (hy.below h) hm)
  have hE := fun W' => equalIn_arr3 l w t l w t W'
  simp only [beq_self_eq_true, Bool.and_self] at hE
  unfold vJ
  obtain ⟨a, n, c, rfl, _⟩ := hx
  obtain ⟨a2, n2, c2, rfl, _⟩ := hy
  clear hm
  go_enter Tryz.func29, Tryz.ntmps29
  go_wp2_with fail
  refine ((h _ (by (repeat (first | exact brf | assumption | refine ble ?_ | refine blx ?_ | refine bla ?_ | refine bls ?_ | refine bld ?_)))).out).mono ?_
  rintro e w1 ⟨rfl, hb1⟩
  go_wp2
  go_ret
  exact ⟨ret_bool (by simp), below_trans (by (repeat (first | exact brf | assumption | refine ble ?_ | refine blx ?_ | refine bla ?_ | refine bls ?_ | refine bld ?_))) hb1⟩
end
end Go.Proofs.YtjglkglaogaenaaGreatDoor
