/- texts of mine, merged: QB, QC. -/
import Derived.Test.YtjglkglaogaenaaGreatDoorGAD
import Derived.Test.YtjglkglaogaenaaGreatDoorGAK
import Derived.Test.YtjglkglaogaenaaGreatDoorGAJ
import Derived.Test.YtjglkglaogaenaaGreatDoorGAL
import Derived.Test.YtjglkglaogaenaaGreatDoorGAM
import Derived.Test.YtjglkglaogaenaaGreatDoorGAG
import Derived.Test.YtjglkglaogaenaaGreatDoorGAF
/- joint: Proportions over a contract of broken. -/
namespace Go.Proofs.YtjglkglaogaenaaGreatDoor
section
open Go.RowKit Go.Shelf
attribute [local go_sem] Ext.cell Ext.frozen
def agg8 (b : Nat → Bool) : Value := .agg #[.bool (b 0), .bool (b 1), .bool (b 2), .bool (b 3), .bool (b 4), .bool (b 5), .bool (b 6), .bool (b 7)]
theorem idx8 (b : Nat → Bool) (j : Nat) (hj : j < 8) (w : World) : (Instr.index 120 (.agg #[.bool (b 0), .bool (b 1), .bool (b 2), .bool (b 3), .bool (b 4), .bool (b 5), .bool (b 6), .bool (b 7)]) (.int .i64 (j : Int))).run Tryz.prog w = .ok (.bool (b j)) w := by
  rcases (by omega : j = 0 ∨ j = 1 ∨ j = 2 ∨ j = 3 ∨ j = 4 ∨ j = 5 ∨ j = 6 ∨ j = 7) with rfl | rfl | rfl | rfl | rfl | rfl | rfl | rfl
  all_goals kernel_rfl
def RetLE (W : World) (xs : List Int) (ce : Int) (e : Ending) (w' : World) : Prop := ∃ r, e = .returned (.tuple #[r, .int .i64 ce]) ∧ Below W.heap.size W w' ∧ Ints w' r xs
set_option maxRecDepth 100000 in
set_option maxHeartbeats 2000000 in
theorem Proportions_ok (k l w t : Int) (nv : Value) (n : List Int) (W : World) (hn : Ints W nv n)
    (hc : ∀ W', Below W.heap.size W W' → Calls Tryz.prog 23 #[vJ k l w t nv] W' (Ret W' (.int .i64 0)))
    (hB : ∀ W', Below W.heap.size W W' → Calls Tryz.prog 87 #[vJ k l w t nv] W' (Ret W' (agg8 (brkB k l w t n)))) :
    Calls Tryz.prog 36 #[vJ k l w t nv] W (RetLE W (brkTo k l w t n 8) 0) := by
  obtain ⟨i0, hi0, hz0, hz1, hz2⟩ := info_parts info_intz
  have Hi0 := Lib.hid (And.intro hi0 (And.intro hz0 (And.intro hz1 hz2)))
  clear hi0 hz0 hz1 hz2
  have Hc := fun W' h => Lib.hid (hc W' h)
  have HB := fun W' h => Lib.hid (hB W' h)
  have HS : Hid (∀ j, brkTo k l w t n (j + 1) = brkTo k l w t n j ++ if brkB k l w t n j then [(j : Int)] else []) := Lib.hid (fun j => brkTo_succ k l w t n j)
  have H0 : Hid (brkTo k l w t n 0 = []) := Lib.hid (by simp [brkTo])
  have HX : Hid (∀ j : Nat, j < 8 → ∀ W', (Instr.index 120 (agg8 (brkB k l w t n)) (.int .i64 (j : Int))).run Tryz.prog W' = .ok (.bool (brkB k l w t n j)) W') := Lib.hid (fun j hj W' => idx8 _ j hj W')
  generalize brkB k l w t n = bB at *
  generalize brkTo k l w t n = bT at *
  unfold agg8 at HB HX
  unfold vJ at *
  obtain ⟨a, m, c, rfl, hlen, hcc, hx⟩ := hn
  clear hx hlen hcc hc hB
  obtain ⟨V, HV⟩ : ∃ V, Hid (W.alloc (.cells #[.int .i64 k, .int .i64 l, .int .i64 w, .int .i64 t, .slice a m c] 25) = V) := ⟨_, Lib.hid rfl⟩
  have hV : Below W.heap.size W V := by rw [← HV.out]; (repeat (first | exact brf | assumption | refine ble ?_ | refine blx ?_ | refine bla ?_ | refine bls ?_ | refine bld ?_))
  have HJ : Hid (V.heap[W.heap.size]? = some (.cells #[.int .i64 k, .int .i64 l, .int .i64 w, .int .i64 t, .slice a m c] 25 (0, 0))) := Lib.hid (by rw [← HV.out]; exact heap_new rfl)
  go_enter Tryz.func36, Tryz.ntmps36
  go_wp2_with fail
  rw [HV.out]
  refine ((Hc _ hV).out).mono ?_
  rintro e w1 ⟨rfl, hb1⟩
  have HJ1 := Lib.hid ((hb1.block _ (blk_lt HJ.out)).trans HJ.out)
  have c0 := (blk_cell HJ1.out 0).trans rfl
  have c1 := (blk_cell HJ1.out 1).trans rfl
  have c2 := (blk_cell HJ1.out 2).trans rfl
  have c3 := (blk_cell HJ1.out 3).trans rfl
  have c4 := (blk_cell HJ1.out 4).trans rfl
  simp only [List.getElem?_toArray, List.getElem?_cons_zero, List.getElem?_cons_succ] at c0 c1 c2 c3 c4
  have zj := blk_lt HJ1.out
  have hw1 := below_trans hV hb1
  go_wp2_with fail
  refine ((HB _ hw1).out).mono ?_
  rintro e w5 ⟨rfl, hb5⟩
  have hw5 := below_trans hw1 hb5
  clear c0 c1 c2 c3 c4 zj HJ1 hb1 hb5 hw1 Hc HB HJ
  go_wp2
  go_loopw [5, 15] (fun s i wr => ∃ j q : Nat, j ≤ 8 ∧ q ≤ j ∧ i = .int .i64 j ∧ Below w5.heap.size w5 wr ∧ Hid (q = (bT j).length) ∧ Hid (wr.ownsRow w5.heap.size 3 1 s q ((bT j).map (Value.int .i64)))) (fun _ i _ => 8 - (intOf i).toNat)
  case atStart => exact ⟨0, 0, by omega, by omega, rfl, Below.refl _ _, Lib.hid (by rw [H0.out]; rfl), Lib.hid (by rw [H0.out]; exact World.ownsRow_nil _ _ _ _)⟩
  case round =>
    obtain ⟨j, q, hj, hq, rfl, hbj, HQ, HO⟩ := hrel
    obtain ⟨sa, sc, rfl⟩ := own_sliceI HO.out
    by_cases hlt : j < 8
    · have hX := HX.out j hlt
      have Hs := Lib.hid (HS.out j)
      obtain ⟨bj, Hbj⟩ : ∃ bj, Hid (bB j = bj) := ⟨_, Lib.hid rfl⟩
      rw [Hbj.out] at hX Hs
      cases bj
      · go_wp2
        go_roundw
        case rel => exact ⟨j + 1, q, by omega, by omega, by go_num, hbj, Lib.hid (by rw [Hs.out, HQ.out]; simp), Lib.hid (by rw [Hs.out]; simpa using HO.out)⟩
        case measure => simp [intOf]; omega
      · go_wp2_with (at_builtin; refine wpList_append_own _ rfl _ _ 23 rfl w5.heap.size 3 i0 (.int .i64 0) 1 8 und_ints Hi0.out.1 Hi0.out.2.1 Hi0.out.2.2.1 Hi0.out.2.2.2 rfl (by decide) _ q _ rfl (HO.out.alloc _) ⟨(wr).heap.size, 0, none⟩ 1 1 [.int .i64 ((j : Int))] rfl rfl ?c1 ?c2 ?c3 ?c4 ?c5 ?_)
        try (case c1 =>
          intro jj uu hu
          rw [add0, cell_new rfl jj]
          simpa using hu)
        case c2 => first | (intro v hv; simp at hv; subst hv; rfl) | rfl
        case c3 => unfold maxLen; omega
        case c4 => omega
        case c5 => (try simp); have := hbj.size; omega
        intro v' w2 hown2 hg2 _
        have hb2 : Below w5.heap.size w5 w2 := (hbj.alloc hbj.size _).grown hg2 (by simp; have := hbj.size; omega) (fun z hz => by have := (HO.out.lt z hz).1; omega)
        have HO2 := Lib.hid hown2
        obtain ⟨va, vc, rfl⟩ := own_sliceI hown2
        clear hown2 hg2
        go_wp2
        go_roundw
        case rel => exact ⟨j + 1, q + 1, by omega, by omega, by go_num, hb2, Lib.hid (by rw [Hs.out, HQ.out]; simp), Lib.hid (by rw [Hs.out]; simpa using HO2.out)⟩
        case measure => simp [intOf]; omega
    · obtain rfl : j = 8 := by omega
      go_wp2
      refine bodyPost_ret (v := .tuple #[.slice sa q sc, .int .i64 0]) (by simp [results, Tryz.results36, go_sem]) rfl ?_
      refine ⟨_, rfl, below_trans hw5 hbj, ?_⟩
      refine ints_own (base := w5.heap.size) (T := 3) ?_
      rw [← HQ.out]
      exact HO.out
theorem Proportions_bad (k l w t : Int) (nv : Value) (n : List Int) (W : World) (hn : Ints W nv n) (hm : n.length ≤ 1000000) (h0 : chkE k l w t n ≠ 0) :
    Calls Tryz.prog 36 #[vJ k l w t nv] W (RetLE W [] (chkE k l w t n)) := by
  have Hc := fun W' h => Lib.hid (Check_all k l w t nv n W' (hn.below (w' := W') h) hm)
  generalize chkE k l w t n = ce at *
  have hne : (ce != 0) = true := by simpa using h0
  unfold vJ at *
  obtain ⟨a, m, c, rfl, hlen, hc, hx⟩ := hn
  clear hlen hc hx hm
  go_enter Tryz.func36, Tryz.ntmps36
  go_wp2_with fail
  refine ((Hc _ (by (repeat (first | exact brf | assumption | refine ble ?_ | refine blx ?_ | refine bla ?_ | refine bls ?_ | refine bld ?_)))).out).mono ?_
  rintro e w1 ⟨rfl, hb1⟩
  go_wp2
  refine bodyPost_ret (v := .tuple #[.slice none 0 0, .int .i64 ce]) (by simp [results, Tryz.results36, go_sem]) rfl ?_
  refine ⟨_, rfl, below_trans (by (repeat (first | exact brf | assumption | refine ble ?_ | refine blx ?_ | refine bla ?_ | refine bls ?_ | refine bld ?_))) hb1, none, 0, 0, rfl, rfl, Nat.le_refl _, fun h => by omega⟩
end
/- joint: broken and Proportions of every joint; the reference: Area of every joint. -/
section
open Go.RowKit Go.Shelf
theorem broken_any (k l w t : Int) (nv : Value) (n : List Int) (W : World) (hn : Ints W nv n) (g : Good k l w t n) :
    Calls Tryz.prog 87 #[vJ k l w t nv] W (Ret W (agg8 (brkB k l w t n))) := by
  obtain ⟨hl, hw, ht⟩ := g.dims
  have hb := g.bd
  have h24 := g.len
  have h1 := g.ge1
  obtain ⟨a0, a1, a2, a3, a4, a5, a6, a7, a8, a9, a10⟩ := cnt_of g.cnt g.kind
  have hk := g.kind
  rcases (by omega : k = 0 ∨ k = 1 ∨ k = 2 ∨ k = 3 ∨ k = 4 ∨ k = 5 ∨ k = 6 ∨ k = 7 ∨ k = 8 ∨ k = 9 ∨ k = 10) with rfl | rfl | rfl | rfl | rfl | rfl | rfl | rfl | rfl | rfl | rfl
  · exact broken_0 l w t nv n W hn (a0 rfl) hl hw ht hb
  · exact broken_1 l w t nv n W hn (a1 rfl) hl hw ht hb
  · exact broken_2 l w t nv n W hn (a2 rfl) hl hw ht hb
  · exact broken_3 l w t nv n W hn (a3 rfl) hl hw ht hb
  · exact broken_4 l w t nv n W hn (a4 rfl) hl hw ht hb
  · exact broken_5 l w t nv n W hn (a5 rfl) h24 hl hw ht hb g.tails
  · exact broken_6 l w t nv n W hn (a6 rfl) hl hw ht hb g.scarf.1 g.scarf.2
  · exact broken_7 l w t nv n W hn (a7 rfl) hl hw ht hb
  · have := a8 rfl
    exact broken_8 l w t nv n W hn (dowN n) (by unfold dowN; omega) (by unfold dowN; omega) (by unfold dowN; omega) hl hw ht hb
  · exact broken_9 l w t nv n W hn (a9 rfl) hl hw ht hb
  · exact broken_10 l w t nv n W hn (a10 rfl) hl hw ht hb
theorem Proportions_good (k l w t : Int) (nv : Value) (n : List Int) (W : World) (hn : Ints W nv n) (h0 : chkE k l w t n = 0) :
    Calls Tryz.prog 36 #[vJ k l w t nv] W (RetLE W (brkTo k l w t n 8) 0) := by
  have g := good_of h0
  refine Proportions_ok k l w t nv n W hn (fun W' h => ?_) (fun W' h => broken_any k l w t nv n W' (hn.below h) g)
  have := Check_all k l w t nv n W' (hn.below (w' := W') h) (by have := g.len; omega)
  rwa [h0] at this
theorem rArea_any (k l w t : Int) (nv : Value) (n : List Int) (W : World) (hn : Ints W nv n) (g : Good k l w t n) :
    Calls Tryz.prog 37 #[vJ k l w t nv] W (Ret W (areaV (areaL k l w t n))) := by
  obtain ⟨hl, hw, ht⟩ := g.dims
  have hb := g.bd
  have h24 := g.len
  obtain ⟨a0, a1, a2, a3, a4, a5, a6, a7, a8, a9, a10⟩ := cnt_of g.cnt g.kind
  have hk := g.kind
  rcases (by omega : k = 0 ∨ k = 1 ∨ k = 2 ∨ k = 3 ∨ k = 4 ∨ k = 5 ∨ k = 6 ∨ k = 7 ∨ k = 8 ∨ k = 9 ∨ k = 10) with rfl | rfl | rfl | rfl | rfl | rfl | rfl | rfl | rfl | rfl | rfl
  · exact rArea_0 l w t nv n W hn (a0 rfl) hl hw ht hb
  · exact rArea_1 l w t nv n W hn (a1 rfl) hl hw ht hb
  · exact rArea_2 l w t nv n W hn (a2 rfl) hl hw ht hb
  · exact rArea_3 l w t nv n W hn (a3 rfl) hl hw ht hb
  · exact rArea_4 l w t nv n W hn (a4 rfl) hl hw ht hb
  · exact rArea_5 l w t nv n W hn (a5 rfl) h24 hl hw ht hb g.tails
  · exact rArea_6 l w t nv n W hn (a6 rfl) hl hw ht hb g.scarf.1 g.scarf.2
  · exact rArea_7 l w t nv n W hn (a7 rfl) h24 hl hw ht hb
  · have := a8 rfl
    exact rArea_8 l w t nv n W hn (dowN n) (by unfold dowN; omega) (by unfold dowN; omega) (by unfold dowN; omega) hl hw ht hb
  · exact rArea_9 l w t nv n W hn (a9 rfl) hl hw ht hb
  · exact rArea_10 l w t nv n W hn (a10 rfl) hl hw ht hb
end
end Go.Proofs.YtjglkglaogaenaaGreatDoor
