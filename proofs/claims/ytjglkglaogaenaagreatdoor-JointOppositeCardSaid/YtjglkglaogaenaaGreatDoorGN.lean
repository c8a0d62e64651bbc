/- texts of mine, merged: J15, J16, J17, Ms, A0, A1. -/
import Derived.Test.YtjglkglaogaenaaGreatDoorGM
import Derived.WalkKit
/- joint: checkMember, Keeps. -/
namespace Go.Proofs.YtjglkglaogaenaaGreatDoor
section
open Go.RowKit Go.Shelf
attribute [local go_sem] Ext.cell Ext.frozen
def memE (ce k member : Int) (n : List Int) : Int := if ce ≠ 0 then ce else if member < 0 ∨ memB k + looseN k n ≤ member then 6 else 0
theorem memB_bd (k : Int) : 2 ≤ memB k ∧ memB k ≤ 3 := by unfold memB; split <;> omega
theorem looseN_bd (k : Int) (n : List Int) : looseN k n ≤ n.length + 1 := by by_cases h : k = 8 <;> by_cases h9 : k = 9 <;> simp [looseN, h, h9] <;> omega
set_option maxRecDepth 100000 in
set_option maxHeartbeats 2000000 in
theorem checkMember_any (k l w t member ce : Int) (nv : Value) (n : List Int) (W : World) (hn : Ints W nv n) (hm : n.length ≤ 1000000)
    (hc : ∀ W', Below W.heap.size W W' → Calls Tryz.prog 23 #[vJ k l w t nv] W' (Ret W' (.int .i64 ce))) (h8 : ce = 0 → k = 8 → 8 ≤ n.length ∧ n.length % 2 = 0) :
    Calls Tryz.prog 52 #[vJ k l w t nv, .int .i64 member] W (Ret W (.int .i64 (memE ce k member n))) := by
  have HL := fun W' h h0 => Lib.hid (loose_any k l w t nv n W' (hn.below (w' := W') h) hm (h8 h0))
  have HM := fun W' => Lib.hid (members_any k W')
  have hmb := memB_bd k
  have hlb := looseN_bd k n
  have He := Lib.hid (show memE ce k member n = if ce ≠ 0 then ce else if member < 0 ∨ memB k + looseN k n ≤ member then 6 else 0 from rfl)
  have Hc := fun W' h => Lib.hid (hc W' h)
  unfold vJ at *
  obtain ⟨a, m, c, rfl, hm', hcc, hx⟩ := hn
  clear hc hx h8
  generalize memE ce k member n = res at *
  generalize memB k = mk at *
  generalize looseN k n = lk at *
  have hlk : lk ≤ 1000001 := by omega
  clear hlb hm hm'
  by_cases h0 : ce = 0
  · subst h0
    have HL' := fun W' h => HL W' h rfl
    clear HL
    rw [if_neg (by simp)] at He
    by_cases hneg : member < 0
    · rw [if_pos (Or.inl hneg)] at He
      clear HL'
      go_enter Tryz.func52, Tryz.ntmps52
      go_wp2_with fail
      refine ((Hc _ (by (repeat (first | exact brf | assumption | refine ble ?_ | refine blx ?_ | refine bla ?_ | refine bls ?_ | refine bld ?_)))).out).mono ?_
      rintro e w1 ⟨rfl, hb1⟩
      have hw1 := below_trans (show Below W.heap.size W (W.alloc (.cells #[.int .i64 k, .int .i64 l, .int .i64 w, .int .i64 t, .slice a m c] 25)) by (repeat (first | exact brf | assumption | refine ble ?_ | refine blx ?_ | refine bla ?_ | refine bls ?_ | refine bld ?_))) hb1
      have c0 := below_cell hb1 ((cell_new rfl 0).trans rfl : _ = some (.int .i64 k))
      have c4 := below_cell hb1 ((cell_new rfl 4).trans rfl : _ = some (.slice a m c))
      have c1 := below_cell hb1 ((cell_new rfl 1).trans rfl : _ = some (.int .i64 l))
      have c2 := below_cell hb1 ((cell_new rfl 2).trans rfl : _ = some (.int .i64 w))
      have c3 := below_cell hb1 ((cell_new rfl 3).trans rfl : _ = some (.int .i64 t))
      go_wp2
      refine wp_region_quietB (by kernel_rfl) (by kernel_rfl) ?_
      repeat (first | go_big_quiet_step (fail) | quiet_step (fail))
      refine wpQuiet_nil ?_
      rintro _ ⟨u, rfl⟩
      go_wp2
      go_ret
      exact ⟨ret_int He.out.symm, below_trans hw1 u.below⟩
    · by_cases hge : mk + lk ≤ member
      · rw [if_pos (Or.inr hge)] at He
        go_enter Tryz.func52, Tryz.ntmps52
        go_wp2_with fail
        refine ((Hc _ (by (repeat (first | exact brf | assumption | refine ble ?_ | refine blx ?_ | refine bla ?_ | refine bls ?_ | refine bld ?_)))).out).mono ?_
        rintro e w1 ⟨rfl, hb1⟩
        have hw1 := below_trans (show Below W.heap.size W (W.alloc (.cells #[.int .i64 k, .int .i64 l, .int .i64 w, .int .i64 t, .slice a m c] 25)) by (repeat (first | exact brf | assumption | refine ble ?_ | refine blx ?_ | refine bla ?_ | refine bls ?_ | refine bld ?_))) hb1
        have c0 := below_cell hb1 ((cell_new rfl 0).trans rfl : _ = some (.int .i64 k))
        have c4 := below_cell hb1 ((cell_new rfl 4).trans rfl : _ = some (.slice a m c))
        have c1 := below_cell hb1 ((cell_new rfl 1).trans rfl : _ = some (.int .i64 l))
        have c2 := below_cell hb1 ((cell_new rfl 2).trans rfl : _ = some (.int .i64 w))
        have c3 := below_cell hb1 ((cell_new rfl 3).trans rfl : _ = some (.int .i64 t))
        have z1 := World.block_lt_of_cell? w1 _ c0
        simp only at z1
        go_wp2
        refine wp_region_quietB (by kernel_rfl) (by kernel_rfl) ?_
        repeat (first | go_big_quiet_step ((first | (go_at_call 103; refine ((HM _).out).mono ?_; rintro e w9 ⟨rfl, rfl⟩; exact ⟨rfl, _, rfl⟩) | (go_at_call 71; exact quietB_ret ((HL' _ (below_trans hw1 (Ext.below _))).out)))) | quiet_step ((first | (go_at_call 103; refine ((HM _).out).mono ?_; rintro e w9 ⟨rfl, rfl⟩; exact ⟨rfl, _, rfl⟩) | (go_at_call 71; exact quietB_ret ((HL' _ (below_trans hw1 (Ext.below _))).out)))))
        refine wpQuiet_nil ?_
        rintro _ ⟨u, rfl⟩
        go_wp2
        go_ret
        exact ⟨ret_int He.out.symm, below_trans hw1 u.below⟩
      · rw [if_neg (by omega)] at He
        go_enter Tryz.func52, Tryz.ntmps52
        go_wp2_with fail
        refine ((Hc _ (by (repeat (first | exact brf | assumption | refine ble ?_ | refine blx ?_ | refine bla ?_ | refine bls ?_ | refine bld ?_)))).out).mono ?_
        rintro e w1 ⟨rfl, hb1⟩
        have hw1 := below_trans (show Below W.heap.size W (W.alloc (.cells #[.int .i64 k, .int .i64 l, .int .i64 w, .int .i64 t, .slice a m c] 25)) by (repeat (first | exact brf | assumption | refine ble ?_ | refine blx ?_ | refine bla ?_ | refine bls ?_ | refine bld ?_))) hb1
        have c0 := below_cell hb1 ((cell_new rfl 0).trans rfl : _ = some (.int .i64 k))
        have c4 := below_cell hb1 ((cell_new rfl 4).trans rfl : _ = some (.slice a m c))
        have c1 := below_cell hb1 ((cell_new rfl 1).trans rfl : _ = some (.int .i64 l))
        have c2 := below_cell hb1 ((cell_new rfl 2).trans rfl : _ = some (.int .i64 w))
        have c3 := below_cell hb1 ((cell_new rfl 3).trans rfl : _ = some (.int .i64 t))
        have z1 := World.block_lt_of_cell? w1 _ c0
        simp only at z1
        go_wp2
        refine wp_region_quietB (by kernel_rfl) (by kernel_rfl) ?_
        repeat (first | go_big_quiet_step ((first | (go_at_call 103; refine ((HM _).out).mono ?_; rintro e w9 ⟨rfl, rfl⟩; exact ⟨rfl, _, rfl⟩) | (go_at_call 71; exact quietB_ret ((HL' _ (below_trans hw1 (Ext.below _))).out)))) | quiet_step ((first | (go_at_call 103; refine ((HM _).out).mono ?_; rintro e w9 ⟨rfl, rfl⟩; exact ⟨rfl, _, rfl⟩) | (go_at_call 71; exact quietB_ret ((HL' _ (below_trans hw1 (Ext.below _))).out)))))
        refine wpQuiet_nil ?_
        rintro _ ⟨u, rfl⟩
        go_wp2
        go_ret
        exact ⟨ret_int He.out.symm, below_trans hw1 u.below⟩
  · rw [if_pos h0] at He
    have hne : (ce != 0) = true := by simpa using h0
    clear HL
    go_enter Tryz.func52, Tryz.ntmps52
    go_wp2_with fail
    refine ((Hc _ (by (repeat (first | exact brf | assumption | refine ble ?_ | refine blx ?_ | refine bla ?_ | refine bls ?_ | refine bld ?_)))).out).mono ?_
    rintro e w1 ⟨rfl, hb1⟩
    go_wp2
    go_ret
    exact ⟨ret_int He.out.symm, below_trans (by (repeat (first | exact brf | assumption | refine ble ?_ | refine blx ?_ | refine bla ?_ | refine bls ?_ | refine bld ?_))) hb1⟩
end
/- base.SameCell. -/
section
open Go.RowKit Go.Shelf
attribute [local go_sem] Ext.cell Ext.frozen
theorem getQ {ps : List Q4} {i : Nat} (h : i < ps.length) : ps[i]? = some ps[i] := List.getElem?_eq_getElem h
theorem same_no {ps qs : List Q4} (k : Nat) (h1 : k < ps.length) (h2 : k < qs.length) (hne : ps[k] ≠ qs[k]) : decide (ps = qs) = false := decide_eq_false (fun e => by subst e; exact hne rfl)
theorem same_len {ps qs : List Q4} (h : ps.length ≠ qs.length) : decide (ps = qs) = false := decide_eq_false (fun e => by subst e; exact h rfl)
theorem same_yes {ps qs : List Q4} (hl : ps.length = qs.length) (h : ∀ i (h1 : i < ps.length) (h2 : i < qs.length), ps[i] = qs[i]) : decide (ps = qs) = true := decide_eq_true (List.ext_getElem hl h)
set_option maxRecDepth 100000 in
set_option maxHeartbeats 2000000 in
theorem SameCell_any (pv qv : Value) (ps qs : List Q4) (w : World) (hp : Q4s w pv ps) (hq : Q4s w qv qs) (hl : ps.length ≤ 1000000) :
    Calls Tryz.prog 51 #[.agg #[pv], .agg #[qv]] w (Ret w (.bool (decide (ps = qs)))) := by
  obtain ⟨a, n, c, rfl, hn, hc, hx⟩ := hp
  obtain ⟨a', n', c', rfl, hn', hc', hx'⟩ := hq
  have HX := Lib.hid hx
  have HX' := Lib.hid hx'
  have Hno := Lib.hid (@same_no ps qs)
  have Hln := Lib.hid (@same_len ps qs)
  have Hyes := Lib.hid (@same_yes ps qs)
  generalize decide (ps = qs) = res at *
  clear hx hx'
  by_cases hnn : n = n'
  · subst hnn
    have Hn := Lib.hid hn
    have Hn' := Lib.hid hn'
    rw [hn] at hl
    clear hn hn' Hln
    go_enter Tryz.func51, Tryz.ntmps51
    go_wp2
    go_loopw [5] (fun i wr => ∃ k : Nat, k ≤ n ∧ i = .int .i64 k ∧ Below w.heap.size w wr ∧ Hid (wr.heap[w.heap.size]? = some (.cells #[.slice a n c] 93 (0, 0))) ∧ Hid (wr.heap[w.heap.size + 1]? = some (.cells #[.slice a' n c'] 93 (0, 0))) ∧ Hid (∀ i (h1 : i < ps.length) (h2 : i < qs.length), i < k → ps[i] = qs[i])) (fun i _ => n - (intOf i).toNat)
    case atStart => exact ⟨0, by omega, rfl, by (repeat (first | exact brf | assumption | refine ble ?_ | refine blx ?_ | refine bla ?_ | refine bls ?_ | refine bld ?_)), Lib.hid ((heap_old (by simp)).trans (heap_new rfl)), Lib.hid (heap_new (by simp)), Lib.hid (fun i _ _ h => by omega)⟩
    case round =>
      obtain ⟨k, hk, rfl, hb, HA, HB, Hz⟩ := hrel
      have b0 : wr.cell? ⟨w.heap.size, 0, none⟩ = some (.slice a n c) := (blk_cell HA.out 0).trans rfl
      have b1 : wr.cell? ⟨w.heap.size + 1, 0, none⟩ = some (.slice a' n c') := (blk_cell HB.out 0).trans rfl
      have zA := blk_lt HA.out
      have zB := blk_lt HB.out
      by_cases hlt : k < n
      · obtain ⟨b, off, rfl, hi⟩ := HX.out (by omega)
        obtain ⟨b', off', rfl, hi'⟩ := HX'.out (by omega)
        have hk1 : k < ps.length := by have := Hn.out; omega
        have hk2 : k < qs.length := by have := Hn'.out; omega
        obtain ⟨x1, x2, x3, x4⟩ := hi k hk1
        obtain ⟨y1, y2, y3, y4⟩ := hi' k hk2
        have x1 := below_cell hb x1
        have x2 := below_cell hb x2
        have x3 := below_cell hb x3
        have x4 := below_cell hb x4
        have y1 := below_cell hb y1
        have y2 := below_cell hb y2
        have y3 := below_cell hb y3
        have y4 := below_cell hb y4
        have zx := World.block_lt_of_cell? wr _ x1
        have zy := World.block_lt_of_cell? wr _ y1
        simp only at zx zy
        have he := fun W' => eq_pl ps[k] qs[k] W'
        have Hk := Lib.hid (Hno.out k hk1 hk2)
        have Hz' : Hid (ps[k] = qs[k] → ∀ i (h1 : i < ps.length) (h2 : i < qs.length), i < k + 1 → ps[i] = qs[i]) := Lib.hid (fun e i h1 h2 h => by
          by_cases e' : i = k
          · subst e'; exact e
          · exact Hz.out i h1 h2 (by omega))
        generalize ps[k] = x at *
        generalize qs[k] = y at *
        obtain ⟨xa, xb, xc, xd⟩ := x
        obtain ⟨ya, yb, yc, yd⟩ := y
        simp only at x1 x2 x3 x4 y1 y2 y3 y4 he
        clear hi hi' hk1 hk2
        by_cases hxy : ((xa, xb, xc, xd) : Q4) = (ya, yb, yc, yd)
        · have Hxy := Lib.hid hxy
          have hd := decide_eq_true hxy
          simp only [hd] at he
          clear hxy hd
          go_wp2
          refine wp_region_quietB (by kernel_rfl) (by kernel_rfl) ?_
          repeat (first | go_big_quiet_step (fail) | quiet_step (fail))
          refine wpQuiet_nil ?_
          rintro _ ⟨u, rfl⟩
          go_wp2
          go_roundw
          case rel => exact ⟨k + 1, by omega, by go_num, below_trans hb u.below, Lib.hid ((u.below.block _ zA).trans HA.out), Lib.hid ((u.below.block _ zB).trans HB.out), Lib.hid (Hz'.out Hxy.out)⟩
          case measure => simp [intOf]; omega
        · have Hxy := Lib.hid hxy
          have hd := decide_eq_false hxy
          simp only [hd] at he
          clear hxy hd
          go_wp2
          refine wp_region_quietB (by kernel_rfl) (by kernel_rfl) ?_
          repeat (first | go_big_quiet_step (fail) | quiet_step (fail))
          refine wpQuiet_nil ?_
          rintro _ ⟨u, rfl⟩
          go_wp2
          go_ret
          exact ⟨ret_bool (Hk.out Hxy.out).symm, below_trans hb u.below⟩
      · have Hy := Lib.hid (Hyes.out (by rw [Hn.out, Hn'.out]) (fun i h1 h2 => Hz.out i h1 h2 (by have := Hn.out; omega)))
        go_wp2
        go_ret
        exact ⟨ret_bool Hy.out.symm, hb⟩
  · have hne : (n : Int) ≠ (n' : Int) := by omega
    have Hr := Lib.hid (Hln.out (by omega))
    go_enter Tryz.func51, Tryz.ntmps51
    go_wp2
    go_ret
    exact ⟨ret_bool Hr.out.symm, by (repeat (first | exact brf | assumption | refine ble ?_ | refine blx ?_ | refine bla ?_ | refine bls ?_ | refine bld ?_))⟩
end
/- joint: Keeps. -/
section
open Go.RowKit Go.Shelf
attribute [local go_sem] Ext.cell Ext.frozen
def IsKG2 (ks : List (List (List Q4))) : Value → World → Prop := fun v w => ∃ u a m c, v = .agg #[u, .slice a m c] ∧ PartsV 0 w u ks
theorem stab_kg2 (ks : List (List (List Q4))) : Stab (IsKG2 ks) := fun _ _ _ hb ⟨u, a, m, c, h, k⟩ => ⟨u, a, m, c, h, PartsV.below k hb⟩
def IsPt (cs : List (List Q4)) : Value → World → Prop := fun v w => ∃ b off u, v = .pointer (some ⟨b, off, none⟩) ∧ w.cell? ⟨b, off, none⟩ = some u ∧ CellsV 0 w u cs
theorem stab_pt (cs : List (List Q4)) : Stab (IsPt cs) := fun _ _ _ hb ⟨b, off, u, h, k, l⟩ => ⟨b, off, u, h, below_cell hb k, l.below hb⟩
def IsS (B : Nat) (css : List (List Q4)) : Value → World → Prop := fun v w => ∃ s vs, v = .agg #[s] ∧ w.ownsRow B 93 1 s css.length vs ∧ RowsV w B vs css
theorem stab_s (B : Nat) (css : List (List Q4)) : Stab (IsS B css) := fun _ _ _ hb ⟨s, vs, h, k, l⟩ => ⟨s, vs, h, own_below k hb, l.below hb⟩
set_option maxRecDepth 100000 in
set_option maxHeartbeats 4000000 in
theorem Keeps_ok (k l w t : Int) (member : Nat) (nv : Value) (n : List Int) (ks : List (List (List Q4))) (W : World) (hmem : member < ks.length)
    (hl : -1000000 ≤ l ∧ l ≤ 1000000) (hw : -1000000 ≤ w ∧ w ≤ 1000000) (ht : -1000000 ≤ t ∧ t ≤ 1000000) (hkn : ks.length ≤ 1000000)
    (hcs : ks[member].length ≤ 1000000) (hps : ∀ c ∈ ks[member], c.length ≤ 1000) (hn : Ints W nv n)
    (hc : ∀ W', Below W.heap.size W W' → Calls Tryz.prog 52 #[vJ k l w t nv, .int .i64 member] W' (Ret W' (.int .i64 0)))
    (hp : ∀ W', Below W.heap.size W W' → Calls Tryz.prog 54 #[vJ k l w t nv] W' fun e w' => ∃ v, e = .returned v ∧ Below W'.heap.size W' w' ∧ IsKG2 ks v w') :
    Calls Tryz.prog 14 #[vJ k l w t nv, .int .i64 member] W fun e w' => ∃ s vs, e = .returned (.tuple #[.agg #[s], .int .i64 0]) ∧ Below W.heap.size W w' ∧
      w'.ownsRow W.heap.size 93 1 s ks[member].length vs ∧ RowsV w' W.heap.size vs (ks[member].map (inBoxC l w t)) := by
  have Hc := fun W' h => Lib.hid (hc W' h)
  have Hp := fun W' h => Lib.hid (hp W' h)
  have HIB := fun cv W' (h : CellsV 0 W' cv ks[member]) => Lib.hid (inBox_any l w t cv ks[member] W' hl hw ht 0 h hcs hps)
  have HKS : Hid (∀ w' v, PartsV 0 w' v ks → ∃ b off c, v = .slice (some ⟨b, off, none⟩) ks.length c ∧ ∃ u, w'.cell? ⟨b, off + member, none⟩ = some u ∧ CellsV 0 w' u ks[member]) := Lib.hid (fun w' v h => by
    obtain ⟨⟨a, m, c, rfl, hm, hcc, hx⟩, _⟩ := h
    obtain ⟨b, off, rfl, hi⟩ := hx (by omega)
    subst hm
    exact ⟨b, off, c, rfl, hi member hmem⟩)
  generalize ks[member] = kc at *
  clear hc hp hcs hps
  unfold vJ at *
  obtain ⟨a, m, c, rfl, hm', hcc, hx⟩ := hn
  clear hx hm'
  obtain ⟨K, HK⟩ : ∃ K, Hid (ks.length = K) := ⟨_, Lib.hid rfl⟩
  have mK : (member : Int) < (K : Int) := by have := HK.out; omega
  have m0 : (0 : Int) ≤ (member : Int) := by omega
  have hK6 : K ≤ 1000000 := by have := HK.out; omega
  rw [HK.out] at HKS
  clear hmem hkn
  go_enter Tryz.func14, Tryz.ntmps14
  go_wp2_with fail
  refine ((Hc _ (by (repeat (first | exact brf | assumption | refine ble ?_ | refine blx ?_ | refine bla ?_ | refine bls ?_ | refine bld ?_)))).out).mono ?_
  rintro e w1 ⟨rfl, hb1⟩
  have hw1 := below_trans (show Below W.heap.size W ((W.alloc (.cells #[.int .i64 k, .int .i64 l, .int .i64 w, .int .i64 t, .slice a m c] 25)).alloc (.cells #[.slice none 0 0] 30)) by (repeat (first | exact brf | assumption | refine ble ?_ | refine blx ?_ | refine bla ?_ | refine bls ?_ | refine bld ?_))) hb1
  have HJ := Lib.hid ((hb1.block W.heap.size (by simp; omega)).trans ((heap_old (by simp)).trans (heap_new rfl)))
  have HR := Lib.hid ((hb1.block (W.heap.size + 1) (by simp)).trans (heap_new (by simp)))
  have c0 : w1.cell? ⟨W.heap.size, 0, none⟩ = some (.int .i64 k) := (blk_cell HJ.out 0).trans rfl
  have c1 : w1.cell? ⟨W.heap.size, 1, none⟩ = some (.int .i64 l) := (blk_cell HJ.out 1).trans rfl
  have c2 : w1.cell? ⟨W.heap.size, 2, none⟩ = some (.int .i64 w) := (blk_cell HJ.out 2).trans rfl
  have c3 : w1.cell? ⟨W.heap.size, 3, none⟩ = some (.int .i64 t) := (blk_cell HJ.out 3).trans rfl
  have c4 : w1.cell? ⟨W.heap.size, 4, none⟩ = some (.slice a m c) := (blk_cell HJ.out 4).trans rfl
  have zj := blk_lt HJ.out
  have zr := blk_lt HR.out
  clear Hc hb1 HJ
  go_wp2
  refine wp_region_grow [0, 1, 2, 3, 4, 5, 6, 7, 8] 9 [10] (pick [
    IsV (.pointer (some ⟨W.heap.size, 1, none⟩)), IsV (.agg #[.int .i64 l, .int .i64 w, .int .i64 t]), IsV (.agg #[.int .i64 k, .int .i64 l, .int .i64 w, .int .i64 t, .slice a m c]), IsKG2 ks, IsK 0 ks,
    IsV (.int .i64 member), IsPt kc, IsC 0 kc, IsS w1.heap.size (kc.map (inBoxC l w t))]) (by kernel_rfl) (by kernel_rfl) (Stabs.pick (by repeat (first | exact Stabs.nil | refine Stabs.cons (by first | exact stab_v _ | exact stab_p _ _ | exact stab_c _ _ | exact stab_k _ _ | exact stab_kg2 _ | exact stab_pt _ | exact stab_s _ _ | exact stab_o _ _ _) ?_))) ?_
  try go_frame
  refine wpG_step _ _ rfl rfl (by simp) (fun w' hb' hR K hK => ?_) (fun v0 => ?_)
  · clear hR
    have z := hb'.size
    go_simp
    exact hK _ _ (Below.refl _ _) rfl
  try go_frame
  refine wpG_step _ _ rfl rfl (by simp) (fun w' hb' hR K hK => ?_) (fun v1 => ?_)
  · obtain rfl : v0 = _ := hR 0 (by kernel_rfl)
    have d1 := below_cell hb' c1
    have d2 := below_cell hb' c2
    have d3 := below_cell hb' c3
    have z := hb'.size
    clear hR
    go_simp
    exact hK _ _ (Below.refl _ _) rfl
  try go_frame
  refine wpG_step _ _ rfl rfl (by simp) (fun w' hb' hR K hK => ?_) (fun v2 => ?_)
  · have d0 := below_cell hb' c0
    have d1 := below_cell hb' c1
    have d2 := below_cell hb' c2
    have d3 := below_cell hb' c3
    have d4 := below_cell hb' c4
    have z := hb'.size
    clear hR
    go_simp
    exact hK _ _ (Below.refl _ _) rfl
  try go_frame
  refine wpG_step _ _ rfl rfl (by simp) (fun w' hb' hR K hK => ?_) (fun v3 => ?_)
  · obtain rfl : v2 = _ := hR 2 (by kernel_rfl)
    clear hR
    go_simp
    refine ((Hp _ (below_trans hw1 hb')).out).mono ?_
    rintro e w1 ⟨v, rfl, hb1, hv⟩
    exact hK _ _ hb1 hv
  try go_frame
  refine wpG_step _ _ rfl rfl (by simp) (fun w' hb' hR K hK => ?_) (fun v4 => ?_)
  · obtain ⟨u, pa, pm, pc, rfl, hpu⟩ : IsKG2 ks v3 w' := hR 3 (by kernel_rfl)
    have HPU := Lib.hid hpu
    obtain ⟨⟨ua, um, uc, rfl, _⟩, _⟩ := hpu
    clear hR
    go_simp
    exact hK _ _ (Below.refl _ _) HPU.out
  try go_frame
  refine wpG_step _ _ rfl rfl (by simp) (fun w' hb' hR K hK => ?_) (fun v5 => ?_)
  · clear hR
    go_simp
    exact hK _ _ (Below.refl _ _) rfl
  try go_frame
  refine wpG_step _ _ rfl rfl (by simp) (fun w' hb' hR K hK => ?_) (fun v6 => ?_)
  · have hpu : PartsV 0 w' v4 ks := hR 4 (by kernel_rfl)
    obtain rfl : v5 = _ := hR 5 (by kernel_rfl)
    obtain ⟨b, off, uc, rfl, u, hu, hcu⟩ := HKS.out _ _ hpu
    have HCU := Lib.hid hcu
    have HU := Lib.hid hu
    clear hR hpu hcu hu
    go_simp
    exact hK _ _ (Below.refl _ _) ⟨_, _, _, rfl, HU.out, HCU.out⟩
  try go_frame
  refine wpG_step _ _ rfl rfl (by simp) (fun w' hb' hR K hK => ?_) (fun v7 => ?_)
  · obtain ⟨b, off, u, rfl, hu, hcu⟩ : IsPt kc v6 w' := hR 6 (by kernel_rfl)
    have HCU := Lib.hid hcu
    obtain ⟨⟨ua, um, uc, rfl, _⟩, _⟩ := hcu
    have z := World.block_lt_of_cell? w' _ hu
    simp only at z
    clear hR
    go_simp
    exact hK _ _ (Below.refl _ _) HCU.out
  try go_frame
  refine wpG_step _ _ rfl rfl (by simp) (fun w' hb' hR K hK => ?_) (fun v8 => ?_)
  · obtain rfl : v1 = _ := hR 1 (by kernel_rfl)
    have hcu : CellsV 0 w' v7 kc := hR 7 (by kernel_rfl)
    have HC9 := Lib.hid ((HIB _ _ hcu).out)
    have z := Lib.hid hb'.size
    clear hR
    go_simp
    refine (HC9.out).mono ?_
    rintro e w1 ⟨v, vs, rfl, hb1, ho, hr⟩
    exact hK _ _ hb1 ⟨_, _, rfl, own_mono (by simpa using ho) z.out, hr.mono z.out⟩
  go_frame
  refine wpG_nil (fun w' hb' hR => ?_)
  obtain ⟨s, vs, rfl, ho, hrs⟩ : IsS w1.heap.size (kc.map (inBoxC l w t)) v8 w' := hR 8 (by simp)
  have HO := Lib.hid ho
  have HS := Lib.hid hrs
  obtain ⟨sa, sc, rfl⟩ := own_slice ho
  have HR' : Hid (w'.heap[W.heap.size + 1]? = _) := Lib.hid ((hb'.block _ zr).trans HR.out)
  have r0 : w'.cell? ⟨W.heap.size + 1, 0, none⟩ = some (.slice none 0 0) := (blk_cell HR'.out 0).trans rfl
  have rf := blk_free HR'.out 0
  have zr' := blk_lt HR'.out
  clear hR ho hrs
  simp only [opsAt, List.filterMap_cons, List.filterMap_nil, List.getElem?_toArray, List.getElem?_cons_zero, List.getElem?_cons_succ]
  go_wp2
  refine NoPanic.normal ?_
  go_wp2
  refine bodyPost_ret (v := .tuple #[.agg #[.slice sa (kc.map (inBoxC l w t)).length sc], .int .i64 0]) (by simp [results, Tryz.results14, go_sem, r0]) rfl ⟨_, vs, rfl, (below_trans hw1 hb').setCell (by simp) _, ?_, ?_⟩
  · have := own_mono (own_setCell_far HO.out ⟨W.heap.size + 1, 0, none⟩ (.slice sa (kc.map (inBoxC l w t)).length sc) (fun e => own_blk_ne HO.out HR'.out (by decide) e.symm)) (base' := W.heap.size) hw1.size
    simpa using this
  · exact (HS.out.set HR'.out (by decide)).mono hw1.size
end
/- mergeSort, in a form that the kernel runs. No program is named here. -/
section
section
variable {α : Type} (le : α → α → Bool)
def mgF : Nat → List α → List α → List α
  | 0, xs, ys => xs ++ ys
  | _ + 1, [], ys => ys
  | _ + 1, xs, [] => xs
  | f + 1, x :: xs, y :: ys => if le x y then x :: mgF f xs (y :: ys) else y :: mgF f (x :: xs) ys
theorem mgF_eq : ∀ (f : Nat) (xs ys : List α), xs.length + ys.length ≤ f → List.merge xs ys le = mgF le f xs ys
  | 0, xs, ys, h => by
    obtain rfl : xs = [] := List.length_eq_zero_iff.1 (by omega)
    obtain rfl : ys = [] := List.length_eq_zero_iff.1 (by omega)
    simp [mgF]
  | f + 1, [], ys, _ => by simp [mgF]
  | f + 1, x :: xs, [], _ => by simp [mgF]
  | f + 1, x :: xs, y :: ys, h => by
    rw [List.cons_merge_cons]
    simp only [mgF]
    split
    · rw [mgF_eq f xs (y :: ys) (by simp at h ⊢; omega)]
    · rw [mgF_eq f (x :: xs) ys (by simp at h ⊢; omega)]
def msF : Nat → List α → List α
  | 0, l => l
  | _ + 1, [] => []
  | _ + 1, [a] => [a]
  | f + 1, a :: b :: xs => let l := a :: b :: xs; mgF le l.length (msF f (l.take ((l.length + 1) / 2))) (msF f (l.drop ((l.length + 1) / 2)))
theorem msF_len : ∀ (f : Nat) (l : List α), l.length ≤ f → l.mergeSort le = msF le f l
  | 0, l, h => by
    obtain rfl : l = [] := List.length_eq_zero_iff.1 (by omega)
    simp [msF]
  | f + 1, [], _ => by simp [msF]
  | f + 1, [a], _ => by simp [msF]
  | f + 1, a :: b :: xs, h => by
    rw [List.mergeSort]
    simp only [msF, List.MergeSort.Internal.splitInTwo_fst, List.MergeSort.Internal.splitInTwo_snd]
    have h1 : ((a :: b :: xs).take (((a :: b :: xs).length + 1) / 2)).length ≤ f := by simp at h ⊢; omega
    have h2 : ((a :: b :: xs).drop (((a :: b :: xs).length + 1) / 2)).length ≤ f := by simp at h ⊢; omega
    rw [← msF_len f _ h1, ← msF_len f _ h2, ← mgF_eq le _ _ _ (by simp; omega)]
end
end
/- Plain facts of the law's examples. -/
section
open Go.RowKit
set_option maxRecDepth 100000
theorem sortP_run (cs : List Q4) : sortP cs = msF (fun x y => !decide (cmpPt y x < 0)) cs.length cs := msF_len _ _ _ (Nat.le_refl _)
theorem sortL_run (cs : List Q4) : sortL cs = msF (fun x y => !decide (cmpPl y x < 0)) cs.length cs := msF_len _ _ _ (Nat.le_refl _)
theorem keeps_lap : inBoxC 4000 4000 2000 [axP 2 (-1) (-1000)] = [(-1, 0, 0, 0), (0, -1, 0, 0), (0, 0, -1, -1000), (0, 0, 1, 2000), (0, 1, 0, 4000), (1, 0, 0, 4000)] := by
  simp only [inBoxC, normN, cellErr, normC, normF, cornersOf, sortP_run, sortL_run]
  kernel_rfl
theorem print_lap : printS 0 4000 4000 2000 [1000] = ⟨#[108, 97, 112, 32, 52, 48, 48, 48, 32, 52, 48, 48, 48, 32, 50, 48, 48, 48, 32, 49, 48, 48, 48]⟩ := by kernel_rfl
theorem print_len : (Lib.join ((printW 0 4000 4000 2000 [1000]).map (·.data.toList)) [32]).length ≤ 1000000 := by
  have : (Lib.join ((printW 0 4000 4000 2000 [1000]).map (·.data.toList)) [32]).length = 23 := by kernel_rfl
  omega
theorem tails_ex : tailsB 1200 6000 [6, 2000, 2000] = true := by kernel_rfl
end
/- The law's examples hold: awake. -/
section
open Go.RowKit Go.Shelf
attribute [local go_sem] Ext.cell Ext.frozen
theorem check_lap (W : World) (nv : Value) (hn : Ints W nv [1000]) : Calls Tryz.prog 23 #[vJ 0 4000 4000 2000 nv] W (Ret W (.int .i64 0)) :=
  Check_any 0 4000 4000 2000 nv [1000] true W hn (by decide) (fun _ _ _ _ _ W' hb => right_0 4000 4000 2000 nv [1000] W' (hn.below hb) rfl)
theorem check_tail (W : World) (nv : Value) (hn : Ints W nv [6, 2000, 2000]) : Calls Tryz.prog 23 #[vJ 5 1200 6000 2000 nv] W (Ret W (.int .i64 0)) :=
  Check_any 5 1200 6000 2000 nv [6, 2000, 2000] true W hn (by decide) (fun _ _ _ _ _ W' hb => (by
    have := right_5 1200 6000 2000 nv [6, 2000, 2000] W' (hn.below hb) (by decide) (by decide) (by decide) (by decide)
    rwa [tails_ex] at this))
theorem own_one {w : World} {base : Nat} {e : TypeId} {v : Value} {vs : List Value} (h : w.ownsRow base e 1 v 1 vs) : ∃ g c x, v = .slice (some ⟨g, 0, none⟩) 1 c ∧ vs = [x] ∧ g < w.heap.size ∧ w.cell? ⟨g, 0, none⟩ = some x := by
  obtain ⟨x, rfl⟩ : ∃ x, vs = [x] := List.length_eq_one_iff.1 (by have := h.1; omega)
  rcases h.2 with ⟨_, h1⟩ | ⟨g, cap, cur, rfl, _, hh, _, _, _, ht⟩
  · omega
  · refine ⟨g, cap, x, rfl, rfl, blk_lt hh, ?_⟩
    rw [blk_cell hh]
    have h2 : (cur.toList.take 1)[0]? = some x := by rw [show (1 : Nat) = 1 * 1 from rfl, ht]; rfl
    rw [List.getElem?_take_of_lt (by omega)] at h2
    simpa using h2
theorem enc4s_get : ∀ (ps : List Q4) (i : Nat) (hi : i < ps.length) (j : Nat), j < 4 → (ps.flatMap enc4)[i * 4 + j]? = (enc4 ps[i])[j]?
  | p :: ps, 0, _, j, hj => by
    rw [List.flatMap_cons, List.getElem?_append_left (by simp [enc4]; omega)]
    simp
  | p :: ps, i + 1, hi, j, hj => by
    rw [List.flatMap_cons, List.getElem?_append_right (by simp [enc4]; omega), show (i + 1) * 4 + j - (enc4 p).length = i * 4 + j by simp [enc4]; omega]
    simpa using enc4s_get ps i (by simpa using hi) j hj
theorem q4s_new {W : World} {T : TypeId} (ps : List Q4) {n g : Nat} (hg : g = W.heap.size) (hn : n = ps.length) : Q4s (W.alloc (.cells (ps.flatMap enc4).toArray T)) (.slice (some ⟨g, 0, none⟩) n n) ps := by
  subst hn
  refine ⟨_, _, _, rfl, rfl, Nat.le_refl _, fun _ => ⟨g, 0, rfl, fun i hi => ?_⟩⟩
  have key : ∀ j, j < 4 → (W.alloc (.cells (ps.flatMap enc4).toArray T)).cell? ⟨g, i * 4 + j, none⟩ = (enc4 ps[i])[j]? := fun j hj => by
    rw [cell_new hg]
    simp only [List.getElem?_toArray]
    exact enc4s_get ps i hi j hj
  rw [Nat.zero_add]
  exact ⟨(key 0 (by omega)).trans rfl, (key 1 (by omega)).trans rfl, (key 2 (by omega)).trans rfl, (key 3 (by omega)).trans rfl⟩
set_option maxRecDepth 100000 in
set_option maxHeartbeats 4000000 in
theorem awake_any (W : World) (htab : Lib.TabIs Tryz.prog W "internal/strconv.uint64pow10" .u64 Lib.pow10Tab) : Calls Tryz.prog 12 #[] W (Ret W (.bool true)) := by
  obtain ⟨W1, HW1⟩ : ∃ W1, Hid ((W.alloc (.cells #[.int .i64 1000] 3)).alloc (.cells #[.int .i64 0, .int .i64 4000, .int .i64 4000, .int .i64 2000, .slice (some ⟨W.heap.size, 0, none⟩) 1 1] 25) = W1) := ⟨_, Lib.hid rfl⟩
  have hW1 : Below W.heap.size W W1 := by rw [← HW1.out]; (repeat (first | exact brf | assumption | refine ble ?_ | refine blx ?_ | refine bla ?_ | refine bls ?_ | refine bld ?_))
  have hI1 : Ints W1 (.slice (some ⟨W.heap.size, 0, none⟩) 1 1) [1000] := by
    rw [← HW1.out]; exact (ints_newL (T := 3) [1000] rfl).below (by (repeat (first | exact brf | assumption | refine ble ?_ | refine blx ?_ | refine bla ?_ | refine bls ?_ | refine bld ?_)))
  have HB1 : Hid (W1.heap[W.heap.size + 1]? = some (.cells #[.int .i64 0, .int .i64 4000, .int .i64 4000, .int .i64 2000, .slice (some ⟨W.heap.size, 0, none⟩) 1 1] 25 (0, 0))) := Lib.hid (by rw [← HW1.out]; exact heap_new (by simp))
  have hP := Lib.hid (Print_ok 0 4000 4000 2000 _ [1000] W1 hI1 (by decide) (by decide) (by decide) (by decide) (tab_below htab hW1) (fun W' hb => check_lap W' _ (hI1.below hb)) print_len)
  rw [print_lap] at hP
  have HI1 := Lib.hid hI1
  clear hI1 htab
  go_enter Tryz.func12, Tryz.ntmps12
  go_wp2_with fail
  rw [HW1.out]
  refine (hP.out).mono ?_
  rintro e w2 ⟨rfl, hb2⟩
  clear hP
  have hW2 := below_trans hW1 hb2
  have HI2 := Lib.hid (HI1.out.below hb2)
  have HB2 : Hid (w2.heap[W.heap.size + 1]? = _) := Lib.hid ((hb2.block _ (blk_lt HB1.out)).trans HB1.out)
  have hA := Lib.hid (Area_5 1200 6000 2000 _ [6, 2000, 2000] (w2.alloc (.cells #[.int .i64 6, .int .i64 2000, .int .i64 2000] 3)) (ints_newL (T := 3) [6, 2000, 2000] rfl) (by decide) (by decide) (by decide) (by decide) (by decide) (fun W' hb => check_tail W' _ ((ints_newL (T := 3) [6, 2000, 2000] rfl).below hb)))
  rw [show (2 * (((([6, 2000, 2000] : List Int).length - 2 : Nat)) : Int) * (1200 / ([6, 2000, 2000] : List Int).getD 0 0) * 2000) = 800000 by decide, show (2 * (((([6, 2000, 2000] : List Int).length - 2 : Nat)) : Int) * 1200 * 2000) = 4800000 by decide] at hA
  clear HI1 HB1 HW1 hb2 hW1
  go_wp2_with fail
  refine (hA.out).mono ?_
  rintro e w3 ⟨rfl, hb3⟩
  clear hA
  have hb23 : Below w2.heap.size w2 w3 := below_trans (by (repeat (first | exact brf | assumption | refine ble ?_ | refine blx ?_ | refine bla ?_ | refine bls ?_ | refine bld ?_))) hb3
  have hW3 := below_trans hW2 hb23
  have HB3 : Hid (w3.heap[W.heap.size + 1]? = _) := Lib.hid ((hb23.block _ (blk_lt HB2.out)).trans HB2.out)
  obtain ⟨w4, HW4⟩ : ∃ w4, Hid (w3.alloc (.cells #[.int .i64 800000, .int .i64 4800000, .int .i64 0] 22) = w4) := ⟨_, Lib.hid rfl⟩
  have hb34 : Below w3.heap.size w3 w4 := by rw [← HW4.out]; (repeat (first | exact brf | assumption | refine ble ?_ | refine blx ?_ | refine bla ?_ | refine bls ?_ | refine bld ?_))
  have HI4 := Lib.hid ((HI2.out.below hb23).below hb34)
  have HB4 : Hid (w4.heap[W.heap.size + 1]? = _) := Lib.hid ((hb34.block _ (blk_lt HB3.out)).trans HB3.out)
  have HA4 : Hid (w4.heap[w3.heap.size]? = some (.cells #[.int .i64 800000, .int .i64 4800000, .int .i64 0] 22 (0, 0))) := Lib.hid (by rw [← HW4.out]; exact heap_new rfl)
  have hW4 := below_trans hW3 hb34
  have hK := Lib.hid (Keeps_ok 0 4000 4000 2000 0 _ [1000] [[[axP 2 (-1) (-1000)]], [[axP 2 1 1000]]] w4 (by decide) (by decide) (by decide) (by decide) (by decide) (by decide) (by decide) HI4.out
    (fun W' hb => checkMember_any 0 4000 4000 2000 0 0 _ [1000] W' (HI4.out.below hb) (by decide) (fun W'' hb' => check_lap W'' _ ((HI4.out.below hb).below hb')) (by decide))
    (fun W' hb => (partsOf_0 4000 4000 2000 _ [1000] W' (HI4.out.below hb) rfl (by decide)).mono (fun e w' ⟨u, he, hb', hp⟩ => ⟨_, he, hb', u, _, _, _, rfl, hp.mono (Nat.zero_le _)⟩)))
  have b0 := (blk_cell HB3.out 0).trans rfl
  have b1 := (blk_cell HB3.out 1).trans rfl
  have b2 := (blk_cell HB3.out 2).trans rfl
  have b3 := (blk_cell HB3.out 3).trans rfl
  have b4 := (blk_cell HB3.out 4).trans rfl
  simp only [List.getElem?_toArray, List.getElem?_cons_zero, List.getElem?_cons_succ] at b0 b1 b2 b3 b4
  have z3 := blk_lt HB3.out
  go_wp2_with fail
  rw [HW4.out]
  refine (hK.out).mono ?_
  rintro e w5 ⟨s, vs, rfl, hb5, ho5, hr5⟩
  clear hK
  obtain ⟨g, cap, x, rfl, rfl, zg, cg⟩ := own_one ho5
  have hq := q4s_own (hr5.2 0 (by simp) (by simp))
  simp only [List.map_cons, List.map_nil, List.getElem_cons_zero] at hq
  rw [keeps_lap] at hq
  have HQ := Lib.hid hq
  have HA5 := Lib.hid ((hb5.block _ (blk_lt HA4.out)).trans HA4.out)
  have hW5 := below_trans hW4 hb5
  obtain ⟨xa, xm, xc, rfl, _⟩ := hq
  clear ho5 hr5 hb5 HI4 HB4 HA4 hW4 hb34 HW4 b0 b1 b2 b3 b4 z3 HB3 hW3 hb23 hb3 HI2 HB2 hW2
  have a0 := (blk_cell HA5.out 0).trans rfl
  have a1 := (blk_cell HA5.out 1).trans rfl
  have a2 := (blk_cell HA5.out 2).trans rfl
  simp only [List.getElem?_toArray, List.getElem?_cons_zero, List.getElem?_cons_succ] at a0 a1 a2
  have za := blk_lt HA5.out
  have hE := fun w => equalIn_arr3 800000 4800000 0 800000 4800000 0 w
  simp only [beq_self_eq_true, Bool.and_self] at hE
  obtain ⟨ps, Hps⟩ : ∃ ps : List Q4, Hid ([(-1, 0, 0, 0), (0, -1, 0, 0), (0, 0, -1, -1000), (0, 0, 1, 2000), (0, 1, 0, 4000), (1, 0, 0, 4000)] = ps) := ⟨_, Lib.hid rfl⟩
  go_wp2_with fail
  refine (SameCell_any _ _ ps ps _ ((by rw [← Hps.out]; exact HQ.out : Q4s w5 (.slice xa xm xc) ps).below (by (repeat (first | exact brf | assumption | refine ble ?_ | refine blx ?_ | refine bla ?_ | refine bls ?_ | refine bld ?_)))) (by rw [← Hps.out]; exact q4s_new [(-1, 0, 0, 0), (0, -1, 0, 0), (0, 0, -1, -1000), (0, 0, 1, 2000), (0, 1, 0, 4000), (1, 0, 0, 4000)] (by simp) rfl) (by rw [← Hps.out]; decide)).mono ?_
  rintro e w6 ⟨rfl, hb6⟩
  clear HQ
  have h6 := below_trans (show Below W.heap.size W _ from below_trans hW5 (by (repeat (first | exact brf | assumption | refine ble ?_ | refine blx ?_ | refine bla ?_ | refine bls ?_ | refine bld ?_)))) hb6
  go_wp2
  go_ret
  exact ⟨ret_bool (by simp), h6⟩
end
end Go.Proofs.YtjglkglaogaenaaGreatDoor
