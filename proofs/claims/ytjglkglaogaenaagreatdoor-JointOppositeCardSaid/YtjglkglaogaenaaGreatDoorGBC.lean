/- texts of mine, merged: HG. -/
import Derived.Test.YtjglkglaogaenaaGreatDoorGBB
/- joint: FreeAt where all is right. -/
namespace Go.Proofs.YtjglkglaogaenaaGreatDoor
open Go.RowKit Go.Shelf
set_option linter.unusedSimpArgs false
attribute [local go_sem] Ext.cell Ext.frozen

/-- The row of ways behind i rounds. -/
def turnedTo (tt : T6) (xs : List Q3) (i : Nat) : List Q3 := (xs.take i).map (ofT tt) ++ xs.drop i
theorem turnedTo_len (tt : T6) (xs : List Q3) (i : Nat) : (turnedTo tt xs i).length = xs.length := by simp [turnedTo]; omega
theorem turnedTo_0 (tt : T6) (xs : List Q3) : turnedTo tt xs 0 = xs := by simp [turnedTo]
theorem turnedTo_all (tt : T6) (xs : List Q3) : turnedTo tt xs xs.length = xs.map (ofT tt) := by simp [turnedTo]
theorem turnedTo_get (tt : T6) (xs : List Q3) (i : Nat) (h : i < xs.length) (h' : i < (turnedTo tt xs i).length) : (turnedTo tt xs i)[i] = xs[i] := by
  have e : (turnedTo tt xs i)[i]? = some xs[i] := by
    unfold turnedTo
    rw [List.getElem?_append_right (by simp; omega)]
    simp [Nat.min_eq_left (Nat.le_of_lt h), h]
  rw [List.getElem?_eq_getElem h'] at e
  exact Option.some.inj e
theorem turnedTo_succ (tt : T6) (xs : List Q3) (i : Nat) (h : i < xs.length) : turnedTo tt xs (i + 1) = (turnedTo tt xs i).set i (ofT tt xs[i]) := by
  refine List.ext_getElem? fun j => ?_
  unfold turnedTo
  rw [List.getElem?_set]
  by_cases hj : i = j
  · subst hj
    rw [if_pos rfl, if_pos (by simp; omega), List.getElem?_append_left (by simp; omega)]
    simp [h]
  · rw [if_neg hj]
    by_cases hlt : j < i
    · rw [List.getElem?_append_left (by simp; omega), List.getElem?_append_left (by simp; omega)]
      simp only [List.getElem?_map]
      rw [List.getElem?_take_of_lt (by omega), List.getElem?_take_of_lt hlt]
    · rw [List.getElem?_append_right (by simp; omega), List.getElem?_append_right (by simp; omega)]
      simp only [List.length_map, List.length_take, List.getElem?_drop]
      congr 1
      omega
theorem turnN_mem {n : Int} (hn : 0 ≤ n ∧ n < 48) : turnN n ∈ all48 := by
  unfold turnN
  have : n.toNat < all48.length := by rw [all_len]; omega
  rw [List.getD_eq_getElem?_getD, List.getElem?_eq_getElem this]
  exact List.getElem_mem this
theorem jT_way {n x y z : Int} (hn : 0 ≤ n ∧ n < 48) (hv : ((x, y, z) : Q3) ∈ ways26) : jTurnE n x y z = 0 := by
  obtain ⟨h1, h2, h3, h4⟩ := ways_bd _ hv
  simp only at h1 h2 h3 h4
  unfold jTurnE
  rw [if_pos ⟨(withinB_iff _ _ _).2 (by simp only [List.forall_mem_cons, List.not_mem_nil, false_implies, implies_true, and_true]; omega), hn⟩, if_neg h4]
theorem jTurned_way {n : Int} (hn : 0 ≤ n ∧ n < 48) {v : Q3} (hv : v ∈ ways26) (W : World) : Calls Tryz.prog 40 #[vW v, .int .i64 n] W (Ret W (.tuple #[vW (ofT (turnN n) v), .int .i64 0])) := by
  obtain ⟨x, y, z⟩ := v
  have h := jTurned_any x y z n W
  have e := jT_way hn hv
  simp only [jTurnV, e, if_true] at h
  exact h
theorem own_at {w : World} {base g n cap : Nat} {T : TypeId} {size : Nat} {xs : List Value} (h : w.ownsRow base T size (.slice (some ⟨g, 0, none⟩) n cap) n xs) : ∃ cur, w.heap[g]? = some (.cells cur T (0, 0)) := by
  rcases h.2 with ⟨h, _⟩ | ⟨g', cap', cur, h, hb, hh, _⟩
  · cases h
  · cases h; exact ⟨cur, hh⟩

set_option maxRecDepth 100000 in
set_option maxHeartbeats 4000000 in
theorem FreeAt_good (k l w t m a b c n : Int) (nv : Value) (ns : List Int) (W : World) (hn : Ints W nv ns) (h0 : chkE k l w t ns = 0) (hm : memE 0 k m ns = 0) (ht : 0 ≤ n ∧ n < 48) :
    Calls Tryz.prog 44 #[vJ k l w t nv, .int .i64 m, vS a b c n] W fun e w' => ∃ r, e = .returned (.tuple #[r, .int .i64 0]) ∧ Below W.heap.size W w' ∧
      w'.ownsRow W.heap.size 69 3 r (atL (turnN n) (freeMB k w ns m)).length ((atL (turnN n) (freeMB k w ns m)).flatMap enc3) := by
  have H1 := fun W' h => Lib.hid (Free_ok k l w t m nv ns W' (hn.below (w' := W') h) h0 hm)
  have HT := fun W' => Lib.hid (jTurned_way ht (show ((1, 0, 0) : Q3) ∈ ways26 by decide) W')
  have HR := fun v (hv : v ∈ ways26) W' => Lib.hid (jTurned_way ht hv W')
  have Hsort : Hid (sortW ((freeL k w ns m).map (ofT (turnN n))) = atL (turnN n) (freeMB k w ns m)) := Lib.hid (sort_at (turnN_mem ht) (freeMB k w ns m))
  have Hmem : Hid (∀ i (h : i < (freeL k w ns m).length), (freeL k w ns m)[i] ∈ ways26) := Lib.hid (fun i h => (List.mem_filter.1 (List.getElem_mem h)).1)
  have hl26 : (freeL k w ns m).length ≤ 26 := List.length_filter_le _ _
  generalize atL (turnN n) (freeMB k w ns m) = res at *
  generalize freeL k w ns m = xs at *
  generalize turnN n = tt at *
  generalize ofT tt (1, 0, 0) = r1 at *
  obtain ⟨r10, r11, r12⟩ := r1
  obtain ⟨ad, q, cc, rfl, _, _, _⟩ := hn
  clear h0 hm ht
  unfold vJ vS at *
  simp only [vW] at HT
  go_enter Tryz.func44, Tryz.ntmps44
  go_wp2_with fail
  refine ((H1 _ (by (repeat (first | exact brf | assumption | refine ble ?_ | refine blx ?_ | refine bla ?_ | refine bls ?_ | refine bld ?_)))).out).mono ?_
  rintro e w1 ⟨r, rfl, hb1, ho⟩
  have HS := Lib.hid ((hb1.block (W.heap.size + 1) (by simp)).trans (heap_new (by simp)))
  have s0 := (blk_cell HS.out 0).trans rfl
  have s1 := (blk_cell HS.out 1).trans rfl
  have s2 := (blk_cell HS.out 2).trans rfl
  have s3 := (blk_cell HS.out 3).trans rfl
  simp only [List.getElem?_toArray, List.getElem?_cons_zero, List.getElem?_cons_succ] at s0 s1 s2 s3
  have zs := blk_lt HS.out
  have hw1 : Below W.heap.size W w1 := (show Below W.heap.size W _ by (repeat (first | exact brf | assumption | refine ble ?_ | refine blx ?_ | refine bla ?_ | refine bls ?_ | refine bld ?_))).trans (hb1.mono (by simp; omega))
  have HO1 := Lib.hid (own_mono (base' := W.heap.size) ho (by simp; omega))
  obtain ⟨ra, rn, rc, rfl, hrl, hrc, _⟩ := q3s_own ho
  clear ho hb1 H1
  go_wp2_with fail
  refine ((HT _).out).mono ?_
  rintro e w2 ⟨rfl, hb2⟩
  have HO2 := Lib.hid (own_below HO1.out hb2)
  have HS2 := Lib.hid ((hb2.block _ zs).trans HS.out)
  have hw2 := below_trans hw1 hb2
  clear HS HO1 hb2 hw1 HT s0 s1 s2 s3 zs
  go_wp2
  go_loopw [35] (fun x wr => ∃ i : Nat, i ≤ rn ∧ x = .int .i64 i ∧ Below W.heap.size W wr ∧ Hid (wr.heap[W.heap.size + 1]? = some (.cells #[.int .i64 a, .int .i64 b, .int .i64 c, .int .i64 n] 67 (0, 0))) ∧ Hid (wr.ownsRow W.heap.size 69 3 (.slice ra rn rc) rn ((turnedTo tt xs i).flatMap enc3))) (fun x _ => rn - (intOf x).toNat)
  case atStart =>
    exact ⟨0, by omega, rfl, hw2.alloc hw2.size _, Lib.hid ((heap_old (blk_lt HS2.out)).trans HS2.out), Lib.hid (by rw [turnedTo_0, ← hrl]; rw [← hrl] at HO2; exact HO2.out.alloc _)⟩
  case round =>
    obtain ⟨i, hi, rfl, hb, HS, HO⟩ := hrel
    clear HO2 HS2 hw2
    by_cases hlt : i < rn
    · have hil : i < xs.length := by omega
      have t1 : (i : Int) < (rn : Int) := by omega
      have t1' : (0 : Int) ≤ (i : Int) := by omega
      obtain ⟨g, cap, e, hge, hgl⟩ := own_form HO.out (by omega)
      cases e
      have hmem := Hmem.out i hil
      have hlen := turnedTo_len tt xs i
      have Hs := Lib.hid (turnedTo_succ tt xs i hil)
      obtain ⟨_, _, _, e, _, _, hx⟩ := q3s_own (cs := turnedTo tt xs i) (by rw [hlen, hrl]; exact HO.out)
      cases e
      obtain ⟨_, _, e, hx⟩ := hx (by omega)
      cases e
      obtain ⟨c0, c1, c2⟩ := hx i (by omega)
      rw [turnedTo_get tt xs i hil] at c0 c1 c2
      simp only [Nat.zero_add] at c0 c1 c2
      have HRx := fun W' => Lib.hid ((HR _ hmem W').out)
      have Hset := fun (w9 : World) (h : w9.ownsRow W.heap.size 69 3 (.slice (some ⟨g, 0, none⟩) rn rc) rn ((turnedTo tt xs i).flatMap enc3)) a b c => Lib.hid (own_set3 (xs := turnedTo tt xs i) (by rw [hlen, hrl]; exact h) (by omega : i < (turnedTo tt xs i).length) a b c)
      simp only [hlen, hrl] at Hset
      rw [← hrl] at *
      generalize ofT tt xs[i] = rr at *
      generalize xs[i] = x at *
      obtain ⟨x0, x1, x2⟩ := x
      obtain ⟨r0, r1, r2⟩ := rr
      simp only [vW] at HRx c0 c1 c2
      obtain ⟨s0, s1, s2, s3⟩ : wr.cell? ⟨W.heap.size + 1, 0, none⟩ = some (.int .i64 a) ∧ wr.cell? ⟨W.heap.size + 1, 1, none⟩ = some (.int .i64 b) ∧ wr.cell? ⟨W.heap.size + 1, 2, none⟩ = some (.int .i64 c) ∧ wr.cell? ⟨W.heap.size + 1, 3, none⟩ = some (.int .i64 n) := ⟨(blk_cell HS.out 0).trans rfl, (blk_cell HS.out 1).trans rfl, (blk_cell HS.out 2).trans rfl, (blk_cell HS.out 3).trans rfl⟩
      have zs := blk_lt HS.out
      clear hx HR Hmem
      go_wp2_with fail
      refine ((HRx _).out).mono ?_
      rintro e w3 ⟨rfl, hb3⟩
      have hb34 : Below wr.heap.size wr w3 := below_trans (by (repeat (first | exact brf | assumption | refine ble ?_ | refine blx ?_ | refine bla ?_ | refine bls ?_ | refine bld ?_))) hb3
      have HO3 := Lib.hid (own_below HO.out hb34)
      have HS3 := Lib.hid ((hb34.block _ zs).trans HS.out)
      have hw3 := below_trans hb hb34
      obtain ⟨cur, hcur⟩ := own_at HO3.out
      have f0 := blk_free hcur (i * 3)
      have f1 := blk_free hcur (i * 3 + 1)
      have f2 := blk_free hcur (i * 3 + 2)
      have d0 := below_cell hb34 c0
      have d1 := below_cell hb34 c1
      have d2 := below_cell hb34 c2
      have zg := blk_lt hcur
      have hne : W.heap.size + 1 ≠ g := fun e => own_blk_ne HO3.out HS3.out (by decide) (by rw [← e]; rfl)
      clear HO HS hb hb3 hb34 HRx c0 c1 c2 s0 s1 s2 s3 zs hcur
      go_wp2
      go_roundw
      case rel =>
        refine ⟨i + 1, by omega, by go_num, ((hw3.setCell hge _).setCell hge _).setCell hge _, Lib.hid ?_, Lib.hid ?_⟩
        · exact (Below.heap_setCell _ _ _ _ hne).trans ((Below.heap_setCell _ _ _ _ hne).trans ((Below.heap_setCell _ _ _ _ hne).trans HS3.out))
        · rw [Hs.out]
          exact (Hset _ HO3.out r0 r1 r2).out
      case measure => first | (simp [intOf]; done) | (simp [intOf]; omega)
    · obtain rfl : i = rn := by omega
      have t1 : ¬ (i : Int) < (i : Int) := by omega
      have hown : wr.ownsRow W.heap.size 69 3 (.slice ra i rc) i ((xs.map (ofT tt)).flatMap enc3) := by
        rw [← turnedTo_all, hrl]
        exact HO.out
      have HSo := Lib.hid (sortWays_any (xs.map (ofT tt)) W.heap.size i (.slice ra i rc) wr (by simpa using hrl) (by omega) hown)
      have hlr : res.length = i := by rw [← Hsort.out, sortW_len]; simpa using hrl
      rw [Hsort.out] at HSo
      clear HO HR Hmem Hsort
      go_wp2_with fail
      refine (HSo.out).mono ?_
      rintro e w3 ⟨rfl, ho3, hg3⟩
      have hb3 : Below W.heap.size W w3 := hb.grown hg3 hb.size (fun z hz => (hown.lt z hz).1)
      go_wp2
      refine bodyPost_ret (v := .tuple #[.slice ra i rc, .int .i64 0]) (by simp [results, Tryz.results44, go_sem]) rfl ⟨_, rfl, hb3, ?_⟩
      rw [hlr]
      exact ho3
end Go.Proofs.YtjglkglaogaenaaGreatDoor
