/- texts of mine, merged: HL, HM. -/
import Derived.Test.YtjglkglaogaenaaGreatDoorGBD
/- JointOpposite: plain facts; Check and Free where the numbers are too many. -/
namespace Go.Proofs.YtjglkglaogaenaaGreatDoor
section
open Go.RowKit Go.Shelf
attribute [local go_sem] Ext.cell Ext.frozen
set_option maxRecDepth 100000 in
set_option maxHeartbeats 2000000 in
theorem Check_long (k l w t : Int) (nv : Value) (n : List Int) (W : World) (hn : Ints W nv n) (h24 : 24 < n.length) :
    Calls Tryz.prog 23 #[vJ k l w t nv] W (Ret W (.int .i64 (chkE k l w t n))) := by
  have h1 := fun W' => Lib.hid (checkBox_any k l w t W')
  obtain ⟨a, m, c, rfl, hm', hc, hx⟩ := hn
  have m24 : (24 : Int) < (m : Int) := by omega
  have m24' : 24 < m := by omega
  have He : Hid (chkE k l w t n = if boxE k l w t ≠ 0 then 2 else 8) := Lib.hid (by unfold chkE checkE; rw [if_pos h24])
  clear hx
  unfold vJ
  by_cases hbx : boxE k l w t = 0
  · rw [if_neg (by simpa using hbx)] at He
    rw [hbx] at h1
    go_enter Tryz.func23, Tryz.ntmps23
    go_wp2_with fail
    refine ((h1 _).out).mono ?_
    rintro e w1 ⟨rfl, hb1⟩
    have hw1 := below_trans (show Below W.heap.size W (W.alloc (.cells #[.int .i64 k, .int .i64 l, .int .i64 w, .int .i64 t, .slice a m c] 25)) by (repeat (first | exact brf | assumption | refine ble ?_ | refine blx ?_ | refine bla ?_ | refine bls ?_ | refine bld ?_))) hb1
    have c0 := below_cell hb1 ((cell_new rfl 0).trans rfl : _ = some (.int .i64 k))
    have c4 := below_cell hb1 ((cell_new rfl 4).trans rfl : _ = some (.slice a m c))
    have c1 := below_cell hb1 ((cell_new rfl 1).trans rfl : _ = some (.int .i64 l))
    have c2 := below_cell hb1 ((cell_new rfl 2).trans rfl : _ = some (.int .i64 w))
    have c3 := below_cell hb1 ((cell_new rfl 3).trans rfl : _ = some (.int .i64 t))
    go_wp2
    go_ret
    exact ⟨ret_int He.out.symm, hw1⟩
  · rw [if_pos hbx] at He
    have : boxE k l w t = 2 := by unfold boxE at hbx ⊢; split at hbx <;> simp_all
    rw [this] at h1
    go_enter Tryz.func23, Tryz.ntmps23
    go_wp2_with fail
    refine ((h1 _).out).mono ?_
    rintro e w1 ⟨rfl, hb1⟩
    have hw1 := below_trans (show Below W.heap.size W (W.alloc (.cells #[.int .i64 k, .int .i64 l, .int .i64 w, .int .i64 t, .slice a m c] 25)) by (repeat (first | exact brf | assumption | refine ble ?_ | refine blx ?_ | refine bla ?_ | refine bls ?_ | refine bld ?_))) hb1
    go_wp2
    go_ret
    exact ⟨ret_int He.out.symm, hw1⟩
theorem chkE_long {k l w t : Int} {n : List Int} (h24 : 24 < n.length) : chkE k l w t n ≠ 0 := by
  unfold chkE checkE
  rw [if_pos h24]
  split <;> simp
theorem Check_ever (k l w t : Int) (nv : Value) (n : List Int) (W : World) (hn : Ints W nv n) :
    Calls Tryz.prog 23 #[vJ k l w t nv] W (Ret W (.int .i64 (chkE k l w t n))) := by
  by_cases h : n.length ≤ 1000000
  · exact Check_all k l w t nv n W hn h
  · exact Check_long k l w t nv n W hn (by omega)
set_option maxRecDepth 100000 in
set_option maxHeartbeats 2000000 in
theorem Free_err (k l w t m : Int) (nv : Value) (n : List Int) (W : World) (hn : Ints W nv n) (h0 : chkE k l w t n ≠ 0) :
    Calls Tryz.prog 32 #[vJ k l w t nv, .int .i64 m] W (Ret W (.tuple #[.slice none 0 0, .int .i64 (chkE k l w t n)])) := by
  have H1 := fun W' h => Lib.hid (Check_ever k l w t nv n W' (hn.below (w' := W') h))
  have hM : ∀ W', Below W.heap.size W W' → Calls Tryz.prog 52 #[vJ k l w t nv, .int .i64 m] W' (Ret W' (.int .i64 (chkE k l w t n))) := by
    intro W1 hW1
    generalize chkE k l w t n = ce at *
    have hne : (ce != 0) = true := by simpa using h0
    obtain ⟨a, q, c, rfl, _, _, _⟩ := hn
    unfold vJ at *
    go_enter Tryz.func52, Tryz.ntmps52
    go_wp2_with fail
    refine ((H1 _ (below_trans hW1 (by (repeat (first | exact brf | assumption | refine ble ?_ | refine blx ?_ | refine bla ?_ | refine bls ?_ | refine bld ?_))))).out).mono ?_
    rintro e w1 ⟨rfl, hb1⟩
    go_wp2
    go_ret
    exact ⟨rfl, below_trans (by (repeat (first | exact brf | assumption | refine ble ?_ | refine blx ?_ | refine bla ?_ | refine bls ?_ | refine bld ?_))) hb1⟩
  have H2 := fun W' h => Lib.hid (hM W' h)
  clear hM H1
  generalize chkE k l w t n = ce at *
  have hne : (ce != 0) = true := by simpa using h0
  obtain ⟨a, q, c, rfl, _, _, _⟩ := hn
  unfold vJ at *
  go_enter Tryz.func32, Tryz.ntmps32
  go_wp2_with fail
  refine ((H2 _ (by (repeat (first | exact brf | assumption | refine ble ?_ | refine blx ?_ | refine bla ?_ | refine bls ?_ | refine bld ?_)))).out).mono ?_
  rintro e w1 ⟨rfl, hb1⟩
  go_wp2
  refine bodyPost_ret (v := .tuple #[.slice none 0 0, .int .i64 ce]) (by simp [results, Tryz.results32, go_sem]) rfl ⟨rfl, ?_⟩
  exact below_trans (by (repeat (first | exact brf | assumption | refine ble ?_ | refine blx ?_ | refine bla ?_ | refine bls ?_ | refine bld ?_))) hb1
theorem neg3_neg3 (v : Q3) : neg3 (neg3 v) = v := by obtain ⟨a, b, c⟩ := v; simp [neg3]
theorem ways_neg : ways26.reverse.map neg3 = ways26 := by decide
/-- B is free just where A is free in the opposite way. -/
theorem free_opp (k w : Int) (n : List Int) : freeL k w n 1 = ((freeL k w n 0).reverse).map neg3 := by
  have h : freeMB k w n 1 = fun v => freeMB k w n 0 (neg3 v) := by funext v; simp [freeMB]
  unfold freeL
  rw [h]
  conv => lhs; rw [← ways_neg]
  rw [List.filter_map]
  have e : ((fun v => freeMB k w n 0 (neg3 v)) ∘ neg3) = freeMB k w n 0 := by funext v; simp [neg3_neg3]
  rw [e, List.filter_reverse]
theorem free_len (k w : Int) (n : List Int) : (freeL k w n 1).length = (freeL k w n 0).length := by rw [free_opp]; simp
theorem free_at (k w : Int) (n : List Int) (i : Nat) (h : i < (freeL k w n 0).length) (h' : (freeL k w n 1).length - 1 - i < (freeL k w n 1).length) : (freeL k w n 0)[i] = neg3 ((freeL k w n 1)[(freeL k w n 1).length - 1 - i]) := by
  have e := free_opp k w n
  generalize freeL k w n 1 = b at *
  generalize freeL k w n 0 = a at *
  subst e
  simp only [List.length_map, List.length_reverse, List.getElem_map, List.getElem_reverse, neg3_neg3] at *
  congr 1
  omega
theorem free_ne {k w : Int} {n : List Int} (hk : 0 ≤ k ∧ k ≤ 10) : (freeL k w n 0).length ≠ 0 := by
  have key : ∀ v ∈ ways26, freeAB k w n v = true → (freeL k w n 0).length ≠ 0 := fun v hv h e => by
    have hm : v ∈ freeL k w n 0 := List.mem_filter.2 ⟨hv, by simpa [freeMB] using h⟩
    rw [List.length_eq_zero_iff.1 e] at hm
    cases hm
  rcases (by omega : k = 0 ∨ k = 1 ∨ k = 2 ∨ k = 3 ∨ k = 4 ∨ k = 5 ∨ k = 6 ∨ k = 7 ∨ k = 8 ∨ k = 9 ∨ k = 10) with rfl | rfl | rfl | rfl | rfl | rfl | rfl | rfl | rfl | rfl | rfl
  · exact key (0, 0, 1) (by decide) (by simp [freeAB])
  · exact key (1, 0, 0) (by decide) (by simp [freeAB])
  · exact key (1, 0, 0) (by decide) (by simp [freeAB])
  · exact key (1, 0, 0) (by decide) (by simp [freeAB])
  · exact key (1, 0, 0) (by decide) (by simp [freeAB])
  · exact key (-1, 0, 0) (by decide) (by simp [freeAB])
  · exact key (0, 1, 0) (by decide) (by simp [freeAB])
  · exact key (1, 0, 0) (by decide) (by simp [freeAB])
  · exact key (1, 0, 0) (by decide) (by simp [freeAB])
  · exact key (1, -1, 0) (by decide) (by simp [freeAB])
  · exact key (0, 0, 1) (by decide) (by simp [freeAB])
theorem at_len {tt : T6} (ht : tt ∈ all48) (k w : Int) (n : List Int) : (atL tt (freeMB k w n 0)).length = (freeL k w n 0).length := by
  rw [← sort_at ht, sortW_len, List.length_map]
  rfl
theorem at_mem {tt : T6} (ht : tt ∈ all48) (k w : Int) (n : List Int) (i : Nat) (h : i < (freeL k w n 0).length) : ofT tt (freeL k w n 0)[i] ∈ atL tt (freeMB k w n 0) := by
  rw [← sort_at ht]
  unfold sortW
  rw [List.mem_mergeSort, List.mem_map]
  exact ⟨(freeL k w n 0)[i], List.getElem_mem h, rfl⟩
/-- Whether a way is among the first of a list. -/
def inTo (x : Q3) (l : List Q3) (j : Nat) : Bool := (l.take j).any (fun v => v == x)
theorem inTo_succ (x : Q3) (l : List Q3) (j : Nat) (h : j < l.length) : inTo x l (j + 1) = (inTo x l j || l[j] == x) := by
  unfold inTo
  rw [List.take_succ_eq_append_getElem h, List.any_append]
  simp
theorem inTo_all {x : Q3} {l : List Q3} (h : x ∈ l) : inTo x l l.length = true := by
  unfold inTo
  rw [List.take_length, List.any_eq_true]
  exact ⟨x, h, by simp⟩
end
/- The law JointOpposite, walked. -/
section
open Go.RowKit Go.Shelf
set_option linter.unusedSimpArgs false
attribute [local go_sem] Ext.cell Ext.frozen
set_option maxRecDepth 100000 in
set_option maxHeartbeats 8000000 in
theorem JointOpposite_any (k l w t : Int) (nv : Value) (n : List Int) (tn : Int) (W : World) (hn : Ints W nv n) (hnil : NilV nv) (hm : n.length * 8 ≤ 140737488355328) (htab : Lib.TabIs Tryz.prog W "internal/strconv.uint64pow10" .u64 Lib.pow10Tab) :
    Calls Tryz.prog 10 #[vJ k l w t nv, .int .i64 tn] W (Ret W (.bool true)) := by
  obtain ⟨ad, q, cc, rfl, hlen, hc, hx⟩ := id hn
  obtain ⟨V, HV⟩ : ∃ V, Hid (W.alloc (.cells #[.int .i64 k, .int .i64 l, .int .i64 w, .int .i64 t, .slice ad q cc] 25) = V) := ⟨_, Lib.hid rfl⟩
  have hV : Below W.heap.size W V := by rw [← HV.out]; (repeat (first | exact brf | assumption | refine ble ?_ | refine blx ?_ | refine bla ?_ | refine bls ?_ | refine bld ?_))
  have hA := Lib.hid (awake_any V (tab_below htab hV))
  have hF := fun W' => Lib.hid (Few_any k l w t ad q cc W')
  have v0 : V.cell? ⟨W.heap.size, 0, none⟩ = some (.int .i64 k) := by rw [← HV.out]; exact (cell_new rfl 0).trans rfl
  have v1 : V.cell? ⟨W.heap.size, 1, none⟩ = some (.int .i64 l) := by rw [← HV.out]; exact (cell_new rfl 1).trans rfl
  have v2 : V.cell? ⟨W.heap.size, 2, none⟩ = some (.int .i64 w) := by rw [← HV.out]; exact (cell_new rfl 2).trans rfl
  have v3 : V.cell? ⟨W.heap.size, 3, none⟩ = some (.int .i64 t) := by rw [← HV.out]; exact (cell_new rfl 3).trans rfl
  have v4 : V.cell? ⟨W.heap.size, 4, none⟩ = some (.slice ad q cc) := by rw [← HV.out]; exact (cell_new rfl 4).trans rfl
  have zV := World.block_lt_of_cell? V _ v0
  simp only at zV
  clear htab hx
  have HK := fun W' h => Lib.hid (copied_any k l w t _ n W' (hn.below (w' := W') h) hnil hm)
  by_cases h0 : q ≤ 30 ∧ chkE k l w t n = 0
  · obtain ⟨h30, h0⟩ := h0
    have g := good_of h0
    have hmb := memB_bd k
    rw [show decide (q ≤ 30) = true from decide_eq_true h30] at hF
    have HC := fun W' h => Lib.hid (rCheck_all k l w t _ n W' (hn.below (w' := W') h) (by omega))
    have hm0 : memE 0 k 0 n = 0 := by unfold memE; rw [if_neg (by simp), if_neg (by omega)]
    have hm1 : memE 0 k 1 n = 0 := by unfold memE; rw [if_neg (by simp), if_neg (by omega)]
    have HA0 := fun r W' (h : Ints W' r n) => Lib.hid (Free_ok k l w t 0 r n W' h h0 hm0)
    have HA1 := fun r W' (h : Ints W' r n) => Lib.hid (Free_ok k l w t 1 r n W' h h0 hm1)
    have HT := fun r W' (h : Ints W' r n) => Lib.hid (FreeAt_any k l w t 0 0 0 0 tn r n W' h (by omega))
    have HI := fun W' => Lib.hid (rIsTurn_any tn W')
    have HE : Hid (fatE 0 k 0 tn n = if 0 ≤ tn ∧ tn < 48 then 0 else 2) := Lib.hid (by unfold fatE; rw [if_neg (by simpa using hm0)])
    have HLs : Hid (fatE 0 k 0 tn n = 0 → fatL 0 k w 0 tn n = atL (turnN tn) (freeMB k w n 0)) := Lib.hid (fun h => by unfold fatL; rw [if_pos h])
    have Hln : Hid (0 ≤ tn ∧ tn < 48 → (atL (turnN tn) (freeMB k w n 0)).length = (freeL k w n 0).length) := Lib.hid (fun h => at_len (turnN_mem h) k w n)
    have Hmm : Hid (0 ≤ tn ∧ tn < 48 → ∀ i (h : i < (freeL k w n 0).length), ofT (turnN tn) (freeL k w n 0)[i] ∈ atL (turnN tn) (freeMB k w n 0)) := Lib.hid (fun h i hi => at_mem (turnN_mem h) k w n i hi)
    have HTw : Hid (∀ (_ : 0 ≤ tn ∧ tn < 48) i (h : i < (freeL k w n 0).length) W', Calls Tryz.prog 40 #[vW (freeL k w n 0)[i], .int .i64 tn] W' (Ret W' (.tuple #[vW (ofT (turnN tn) (freeL k w n 0)[i]), .int .i64 0]))) := Lib.hid (fun ht i h W' => jTurned_way ht (List.mem_filter.1 (List.getElem_mem h)).1 W')
    have Hne : Hid ((freeL k w n 0).length ≠ 0) := Lib.hid (free_ne g.kind)
    have Hbl : Hid ((freeL k w n 1).length = (freeL k w n 0).length) := Lib.hid (free_len k w n)
    have Hop : Hid (∀ i j (h : i < (freeL k w n 0).length) (h' : j < (freeL k w n 1).length), j = (freeL k w n 1).length - 1 - i → (freeL k w n 0)[i] = neg3 ((freeL k w n 1)[j])) := Lib.hid (fun i j h h' e => by subst e; exact free_at k w n i h h')
    have Hbd : Hid (∀ j (h : j < (freeL k w n 1).length), (-1 ≤ (freeL k w n 1)[j].1 ∧ (freeL k w n 1)[j].1 ≤ 1) ∧ (-1 ≤ (freeL k w n 1)[j].2.1 ∧ (freeL k w n 1)[j].2.1 ≤ 1) ∧ (-1 ≤ (freeL k w n 1)[j].2.2 ∧ (freeL k w n 1)[j].2.2 ≤ 1)) := Lib.hid (fun j h => by
      obtain ⟨h1, h2, h3, _⟩ := ways_bd _ (List.mem_filter.1 (List.getElem_mem h)).1
      exact ⟨by omega, by omega, by omega⟩)
    have hal26 : (freeL k w n 0).length ≤ 26 := List.length_filter_le _ _
    rw [h0] at HC HT
    generalize fatE 0 k 0 tn n = fe at *
    generalize fatL 0 k w 0 tn n = fl at *
    generalize atL (turnN tn) (freeMB k w n 0) = fx at *
    generalize freeL k w n 0 = xa at *
    generalize freeL k w n 1 = xb at *
    generalize ofT (turnN tn) = tt at *
    clear hnil h0 g hmb hm0 hm1
    unfold vJ vS at *
    simp only [vW] at HTw
    go_enter Tryz.func10, Tryz.ntmps10
    go_wp2_with fail
    rw [HV.out]
    refine (hA.out).mono ?_
    rintro en w1 ⟨rfl, hb1⟩
    have d0 := below_cell hb1 v0
    have d1 := below_cell hb1 v1
    have d2 := below_cell hb1 v2
    have d3 := below_cell hb1 v3
    have d4 := below_cell hb1 v4
    have zd := Nat.lt_of_lt_of_le zV (hb1).size
    go_wp2_with fail
    refine ((HK _ (below_trans hV hb1)).out).mono ?_
    rintro en w2 ⟨r, rfl, hb2, ho⟩
    have hI := ints_own ho
    have hb12 := below_trans hb1 hb2
    clear d0 d1 d2 d3 d4 zd ho
    go_wp2_with fail
    refine ((HA0 _ _ hI).out).mono ?_
    rintro en w3 ⟨r3, rfl, hb3, ho3⟩
    have hb13 := below_trans hb12 hb3
    have hQa := q3s_own ho3
    obtain ⟨aa, an, ac, rfl, hal, _, hax⟩ := q3s_own ho3
    have HXa := Lib.hid hax
    clear hb3 hb12 ho3 hQa hax
    clear hI
    have d0 := below_cell hb13 v0
    have d1 := below_cell hb13 v1
    have d2 := below_cell hb13 v2
    have d3 := below_cell hb13 v3
    have d4 := below_cell hb13 v4
    have zd := Nat.lt_of_lt_of_le zV (hb13).size
    go_wp2_with fail
    refine ((HK _ (below_trans hV hb13)).out).mono ?_
    rintro en w4 ⟨r, rfl, hb4, ho⟩
    have hI := ints_own ho
    have hb14 := below_trans hb13 hb4
    clear d0 d1 d2 d3 d4 zd ho
    go_wp2_with fail
    refine ((HA1 _ _ hI).out).mono ?_
    rintro en w5 ⟨r5, rfl, hb5, ho5⟩
    have hb15 := below_trans hb14 hb5
    obtain ⟨ba, bn, bc, rfl, hbl, _, hbx⟩ := q3s_own ho5
    have HXb := Lib.hid hbx
    clear ho5 hbx hI HA0 HA1
    have hab : bn = an := by have := Hbl.out; omega
    subst hab
    have hn1 : bn ≠ 0 := by have := Hne.out; omega
    have hn2 : ((bn : Int) == 0) = false := by simpa using hn1
    have hn3 : bn ≤ 26 := by omega
    have d0 := below_cell hb15 v0
    have d1 := below_cell hb15 v1
    have d2 := below_cell hb15 v2
    have d3 := below_cell hb15 v3
    have d4 := below_cell hb15 v4
    have zd := Nat.lt_of_lt_of_le zV (hb15).size
    go_wp2_with fail
    refine ((hF _).out).mono ?_
    rintro en w6 ⟨rfl, hb6⟩
    have hb16 := below_trans hb15 hb6
    clear d0 d1 d2 d3 d4 zd
    have d0 := below_cell hb16 v0
    have d1 := below_cell hb16 v1
    have d2 := below_cell hb16 v2
    have d3 := below_cell hb16 v3
    have d4 := below_cell hb16 v4
    have zd := Nat.lt_of_lt_of_le zV (hb16).size
    go_wp2_with fail
    refine ((HC _ (below_trans hV hb16)).out).mono ?_
    rintro en w7 ⟨rfl, hb7⟩
    have hb37 : Below w3.heap.size w3 w7 := below_trans hb4 (below_trans hb5 (below_trans hb6 hb7))
    have hb57 : Below w5.heap.size w5 w7 := below_trans hb6 hb7
    have hb17 := below_trans hb16 hb7
    have HXa7 : Hid (0 < bn → ∃ b off, aa = some ⟨b, off, none⟩ ∧ Q3At w7 b off xa) := Lib.hid (fun h => by obtain ⟨b, off, e, h2⟩ := HXa.out h; exact ⟨b, off, e, h2.below hb37⟩)
    have HXb7 : Hid (0 < bn → ∃ b off, ba = some ⟨b, off, none⟩ ∧ Q3At w7 b off xb) := Lib.hid (fun h => by obtain ⟨b, off, e, h2⟩ := HXb.out h; exact ⟨b, off, e, h2.below hb57⟩)
    clear HXa HXb hb37 hb57 hb4 hb5 hb6 hb7 hb13 hb14 hb15 hb16 d0 d1 d2 d3 d4 zd hb1 hb2 hA hF HC
    obtain ⟨gb, go, rfl, hqb⟩ := HXb7.out (by omega)
    obtain ⟨ga, gq, rfl, hqa⟩ := HXa7.out (by omega)
    have HQa := Lib.hid hqa
    have HQb := Lib.hid hqb
    clear hqa hqb HXa7 HXb7
    go_wp2
    go_loopw [9] (fun x wr => ∃ i : Nat, i ≤ bn ∧ x = .int .i64 i ∧ Below w7.heap.size w7 wr) (fun x _ => bn - (intOf x).toNat)
    case atStart => exact ⟨0, by omega, rfl, Below.refl _ _⟩
    case round =>
      obtain ⟨i, hi, rfl, hb⟩ := hrel
      by_cases hlt : i < bn
      · have g1 : (i : Int) < (bn : Int) := by omega
        have g2 : (0 : Int) ≤ (i : Int) := by omega
        have hjl : bn - 1 - i < xb.length := by omega
        have hil : i < xa.length := by omega
        obtain ⟨c0, c1, c2⟩ := HQb.out.below hb (bn - 1 - i) hjl
        obtain ⟨e0, e1, e2⟩ := HQa.out.below hb i hil
        have ee := Hop.out i (bn - 1 - i) hil hjl (by omega)
        obtain ⟨bd0, bd1, bd2⟩ := Hbd.out (bn - 1 - i) hjl
        rw [ee] at e0 e1 e2
        clear ee
        generalize xb[bn - 1 - i] = u9 at *
        obtain ⟨y0, y1, y2⟩ := u9
        simp only [neg3] at c0 c1 c2 e0 e1 e2 bd0 bd1 bd2
        have zc := World.block_lt_of_cell? wr _ c0
        have ze := World.block_lt_of_cell? wr _ e0
        simp only at zc ze
        obtain ⟨X, HX⟩ : ∃ X, Hid (wr.alloc (.cells #[.int .i64 y0, .int .i64 y1, .int .i64 y2] 69) = X) := ⟨_, Lib.hid rfl⟩
        have hbX : Below wr.heap.size wr X := by rw [← HX.out]; (repeat (first | exact brf | assumption | refine ble ?_ | refine blx ?_ | refine bla ?_ | refine bls ?_ | refine bld ?_))
        have HXc : Hid (X.heap[wr.heap.size]? = some (.cells #[.int .i64 y0, .int .i64 y1, .int .i64 y2] 69 (0, 0))) := Lib.hid (by rw [← HX.out]; exact heap_new rfl)
        go_wp2
        rw [HX.out]
        obtain ⟨f0, f1, f2, _, zf⟩ := blk3 HXc.out
        have e0 := below_cell hbX e0
        have e1 := below_cell hbX e1
        have e2 := below_cell hbX e2
        have ze := Nat.lt_of_lt_of_le ze hbX.size
        clear c0 c1 c2 zc
        refine wp_region_quietB (by kernel_rfl) (by kernel_rfl) ?_
        repeat (first | go_big_quiet_step (fail) | quiet_step (fail))
        refine wpQuiet_nil ?_
        rintro _ ⟨u, rfl⟩
        go_wp2
        go_roundw
        case rel => exact ⟨i + 1, by omega, by go_num, below_trans hb (below_trans hbX u.below)⟩
        case measure => first | (simp [intOf]; done) | (simp [intOf]; omega)
      · obtain rfl : i = bn := by omega
        have g1 : ¬ (i : Int) < (i : Int) := by omega
        have hb18 := below_trans hb17 hb
        have HQa8 := Lib.hid (HQa.out.below hb)
        clear HQb Hop Hbd hb HQa hb17
        have d0 := below_cell hb18 v0
        have d1 := below_cell hb18 v1
        have d2 := below_cell hb18 v2
        have d3 := below_cell hb18 v3
        have d4 := below_cell hb18 v4
        have zd := Nat.lt_of_lt_of_le zV (hb18).size
        go_wp2_with fail
        refine ((HK _ (below_trans hV hb18)).out).mono ?_
        rintro en w9 ⟨r, rfl, hb9, ho⟩
        have hI := ints_own ho
        have hb19 := below_trans hb18 hb9
        clear d0 d1 d2 d3 d4 zd ho
        go_wp2_with fail
        refine ((HT _ _ hI).out).mono ?_
        rintro en w10 ⟨r10, rfl, hb10, hq10⟩
        have HQ10 := Lib.hid hq10
        obtain ⟨ta, tm, tc, rfl, htm, _, htx⟩ := hq10
        have HXt := Lib.hid htx
        have HQa10 := Lib.hid ((HQa8.out.below hb9).below hb10)
        have hb110 := below_trans hb19 hb10
        clear htx hI hb9 hb10 hb18 hb19 HK HQa8 HQ10
        by_cases ht : 0 ≤ tn ∧ tn < 48
        · rw [decide_eq_true (by omega : 0 ≤ tn ∧ tn ≤ 47)] at HI
          rw [if_pos ht] at HE
          have hfe : fe = 0 := HE.out
          subst hfe
          have hfl := HLs.out rfl
          subst hfl
          have hlf := Hln.out ht
          have Hm2 := Lib.hid (Hmm.out ht)
          have HTx := fun i h W' => Lib.hid (HTw.out ht i h W')
          obtain rfl : tm = i := by omega
          obtain ⟨gt, gs, rfl, hqt⟩ := HXt.out (by omega)
          have HQt := Lib.hid hqt
          clear HE HLs Hln Hmm HTw hqt HXt
          go_wp2_with fail
          refine ((HI _).out).mono ?_
          rintro en w11 ⟨rfl, rfl⟩
          go_wp2
          go_loopw [13] (fun x wr => ∃ i : Nat, i ≤ tm ∧ x = .int .i64 i ∧ Below w10.heap.size w10 wr) (fun x _ => tm - (intOf x).toNat)
          case atStart => exact ⟨0, by omega, rfl, by (repeat (first | exact brf | assumption | refine ble ?_ | refine blx ?_ | refine bla ?_ | refine bls ?_ | refine bld ?_))⟩
          case round =>
            obtain ⟨i, hi, rfl, hb⟩ := hrel
            by_cases hlt : i < tm
            · have g1 : (i : Int) < (tm : Int) := by omega
              have g2 : (0 : Int) ≤ (i : Int) := by omega
              have hil : i < xa.length := by omega
              obtain ⟨e0, e1, e2⟩ := HQa10.out.below hb i hil
              have HTi := fun W' => Lib.hid ((HTx i hil W').out)
              have hin := inTo_all (Hm2.out i hil)
              generalize tt xa[i] = rr at *
              generalize xa[i] = u9 at *
              obtain ⟨y0, y1, y2⟩ := u9
              obtain ⟨r0, r1, r2⟩ := rr
              simp only at HTi e0 e1 e2
              have Hin := Lib.hid hin
              have Hsucc := Lib.hid (fun j h => inTo_succ (r0, r1, r2) fl j h)
              have Hz : Hid (inTo (r0, r1, r2) fl 0 = false) := Lib.hid (by simp [inTo])
              clear hin HTx Hm2
              have ze := World.block_lt_of_cell? wr _ e0
              simp only at ze
              go_wp2_with fail
              refine ((HTi _).out).mono ?_
              rintro en w12 ⟨rfl, hb12⟩
              obtain ⟨X, HX⟩ : ∃ X, Hid (w12.alloc (.cells #[.int .i64 r0, .int .i64 r1, .int .i64 r2] 69) = X) := ⟨_, Lib.hid rfl⟩
              have hbX : Below w12.heap.size w12 X := by rw [← HX.out]; (repeat (first | exact brf | assumption | refine ble ?_ | refine blx ?_ | refine bla ?_ | refine bls ?_ | refine bld ?_))
              have HXc : Hid (X.heap[w12.heap.size]? = some (.cells #[.int .i64 r0, .int .i64 r1, .int .i64 r2] 69 (0, 0))) := Lib.hid (by rw [← HX.out]; exact heap_new rfl)
              obtain ⟨g9, Hg9⟩ : ∃ g9, Hid (w12.heap.size = g9) := ⟨_, Lib.hid rfl⟩
              have hb10X := below_trans hb (below_trans hb12 hbX)
              have HQtX := Lib.hid (HQt.out.below hb10X)
              rw [Hg9.out] at HXc
              clear e0 e1 e2 ze
              go_wp2
              rw [HX.out, Hg9.out]
              clear HX hbX hb12 hb
              go_loopw [16, 17] (fun fo x wr => ∃ j : Nat, j ≤ tm ∧ x = .int .i64 j ∧ fo = .bool (inTo (r0, r1, r2) fl j) ∧ Below X.heap.size X wr) (fun _ x _ => tm - (intOf x).toNat)
              case atStart => exact ⟨0, by omega, rfl, by rw [Hz.out], Below.refl _ _⟩
              case round =>
                obtain ⟨j, hj, rfl, rfl, hb⟩ := hrel
                by_cases hlj : j < tm
                · have g3 : (j : Int) < (tm : Int) := by omega
                  have g4 : (0 : Int) ≤ (j : Int) := by omega
                  have hjl : j < fl.length := by omega
                  obtain ⟨c0, c1, c2⟩ := HQtX.out.below hb j hjl
                  have zc := World.block_lt_of_cell? wr _ c0
                  simp only at zc
                  have Hsu := Lib.hid (Hsucc.out j hjl)
                  have HXr := Lib.hid ((hb.block _ (blk_lt HXc.out)).trans HXc.out)
                  obtain ⟨f0, f1, f2, _, zf⟩ := blk3 HXr.out
                  generalize inTo (r0, r1, r2) fl j = fo at *
                  generalize fl[j] = x9 at *
                  obtain ⟨x0, x1, x2⟩ := x9
                  simp only at c0 c1 c2
                  cases hfo : fo
                  · rw [hfo] at Hsu
                    by_cases e0 : x0 = r0
                    · subst e0
                      by_cases e1 : x1 = r1
                      · subst e1
                        by_cases e2 : x2 = r2
                        · subst e2
                          have Hs2 := Lib.hid (Hsu.out.trans (show _ = true by simp))
                          clear Hsu
                          go_wp2
                          refine wp_region_quietB (by kernel_rfl) (by kernel_rfl) ?_
                          repeat (first | go_big_quiet_step (fail) | quiet_step (fail))
                          refine wpQuiet_nil ?_
                          rintro _ ⟨u, rfl⟩
                          go_wp2
                          go_roundw
                          case rel => exact ⟨j + 1, by omega, by go_num, by rw [Hs2.out], below_trans hb u.below⟩
                          case measure => first | (simp [intOf]; done) | (simp [intOf]; omega)
                        · have Hs2 := Lib.hid (Hsu.out.trans (show _ = false by simp [e2]))
                          clear Hsu
                          go_wp2
                          refine wp_region_quietB (by kernel_rfl) (by kernel_rfl) ?_
                          repeat (first | go_big_quiet_step (fail) | quiet_step (fail))
                          refine wpQuiet_nil ?_
                          rintro _ ⟨u, rfl⟩
                          go_wp2
                          go_roundw
                          case rel => exact ⟨j + 1, by omega, by go_num, by rw [Hs2.out], below_trans hb u.below⟩
                          case measure => first | (simp [intOf]; done) | (simp [intOf]; omega)
                      · have Hs2 := Lib.hid (Hsu.out.trans (show _ = false by simp [e1]))
                        clear Hsu
                        go_wp2
                        refine wp_region_quietB (by kernel_rfl) (by kernel_rfl) ?_
                        repeat (first | go_big_quiet_step (fail) | quiet_step (fail))
                        refine wpQuiet_nil ?_
                        rintro _ ⟨u, rfl⟩
                        go_wp2
                        go_roundw
                        case rel => exact ⟨j + 1, by omega, by go_num, by rw [Hs2.out], below_trans hb u.below⟩
                        case measure => first | (simp [intOf]; done) | (simp [intOf]; omega)
                    · have Hs2 := Lib.hid (Hsu.out.trans (show _ = false by simp [e0]))
                      clear Hsu
                      go_wp2
                      refine wp_region_quietB (by kernel_rfl) (by kernel_rfl) ?_
                      repeat (first | go_big_quiet_step (fail) | quiet_step (fail))
                      refine wpQuiet_nil ?_
                      rintro _ ⟨u, rfl⟩
                      go_wp2
                      go_roundw
                      case rel => exact ⟨j + 1, by omega, by go_num, by rw [Hs2.out], below_trans hb u.below⟩
                      case measure => first | (simp [intOf]; done) | (simp [intOf]; omega)
                  · rw [hfo] at Hsu
                    have Hs2 := Lib.hid (Hsu.out.trans (show _ = true by simp))
                    clear Hsu
                    go_wp2
                    refine wp_region_quietB (by kernel_rfl) (by kernel_rfl) ?_
                    repeat (first | go_big_quiet_step (fail) | quiet_step (fail))
                    refine wpQuiet_nil ?_
                    rintro _ ⟨u, rfl⟩
                    go_wp2
                    go_roundw
                    case rel => exact ⟨j + 1, by omega, by go_num, by rw [Hs2.out], below_trans hb u.below⟩
                    case measure => first | (simp [intOf]; done) | (simp [intOf]; omega)
                · obtain rfl : j = tm := by omega
                  have g3 : ¬ (j : Int) < (j : Int) := by omega
                  have hfl : inTo (r0, r1, r2) fl j = true := by have := Hin.out; rwa [hlf, hal] at this
                  rw [hfl]
                  go_wp2
                  go_roundw
                  case rel => exact ⟨i + 1, by omega, by go_num, below_trans hb10X hb⟩
                  case measure => first | (simp [intOf]; done) | (simp [intOf]; omega)
            · obtain rfl : i = tm := by omega
              have g1 : ¬ (i : Int) < (i : Int) := by omega
              go_wp2
              go_ret
              exact ⟨ret_bool (by simp), below_trans hV (below_trans hb110 hb)⟩
        · rw [decide_eq_false (by omega : ¬ (0 ≤ tn ∧ tn ≤ 47))] at HI
          rw [if_neg ht] at HE
          have hfe : fe = 2 := HE.out
          subst hfe
          go_wp2_with fail
          refine ((HI _).out).mono ?_
          rintro en w11 ⟨rfl, rfl⟩
          go_wp2
          go_ret
          exact ⟨ret_bool (by simp), below_trans hV (below_trans hb110 (by (repeat (first | exact brf | assumption | refine ble ?_ | refine blx ?_ | refine bla ?_ | refine bls ?_ | refine bld ?_))))⟩
  · have hne : chkE k l w t n ≠ 0 := by
      intro e
      have := (good_of e).len
      exact h0 ⟨by omega, e⟩
    have HA0 := fun r W' (h : Ints W' r n) => Lib.hid (Free_err k l w t 0 r n W' h hne)
    have HA1 := fun r W' (h : Ints W' r n) => Lib.hid (Free_err k l w t 1 r n W' h hne)
    by_cases h30 : q ≤ 30
    · rw [show decide (q ≤ 30) = true from decide_eq_true h30] at hF
      have HC := fun W' h => Lib.hid (rCheck_all k l w t _ n W' (hn.below (w' := W') h) (by omega))
      generalize chkE k l w t n = ce at *
      have hne1 : (ce != 0) = true := by simpa using hne
      clear hnil
      unfold vJ at *
      go_enter Tryz.func10, Tryz.ntmps10
      go_wp2_with fail
      rw [HV.out]
      refine (hA.out).mono ?_
      rintro en w1 ⟨rfl, hb1⟩
      have d0 := below_cell hb1 v0
      have d1 := below_cell hb1 v1
      have d2 := below_cell hb1 v2
      have d3 := below_cell hb1 v3
      have d4 := below_cell hb1 v4
      have zd := Nat.lt_of_lt_of_le zV (hb1).size
      go_wp2_with fail
      refine ((HK _ (below_trans hV hb1)).out).mono ?_
      rintro en w2 ⟨r, rfl, hb2, ho⟩
      have hI := ints_own ho
      have hb12 := below_trans hb1 hb2
      clear d0 d1 d2 d3 d4 zd ho
      go_wp2_with fail
      refine ((HA0 _ _ hI).out).mono ?_
      rintro en w3 ⟨rfl, hb3⟩
      have hb13 := below_trans hb12 hb3
      clear hI
      have d0 := below_cell hb13 v0
      have d1 := below_cell hb13 v1
      have d2 := below_cell hb13 v2
      have d3 := below_cell hb13 v3
      have d4 := below_cell hb13 v4
      have zd := Nat.lt_of_lt_of_le zV (hb13).size
      go_wp2_with fail
      refine ((HK _ (below_trans hV hb13)).out).mono ?_
      rintro en w4 ⟨r, rfl, hb4, ho⟩
      have hI := ints_own ho
      have hb14 := below_trans hb13 hb4
      clear d0 d1 d2 d3 d4 zd ho
      go_wp2_with fail
      refine ((HA1 _ _ hI).out).mono ?_
      rintro en w5 ⟨rfl, hb5⟩
      have hb15 := below_trans hb14 hb5
      have d0 := below_cell hb15 v0
      have d1 := below_cell hb15 v1
      have d2 := below_cell hb15 v2
      have d3 := below_cell hb15 v3
      have d4 := below_cell hb15 v4
      have zd := Nat.lt_of_lt_of_le zV (hb15).size
      go_wp2_with fail
      refine ((hF _).out).mono ?_
      rintro en w6 ⟨rfl, hb6⟩
      have hb16 := below_trans hb15 hb6
      clear d0 d1 d2 d3 d4 zd
      have d0 := below_cell hb16 v0
      have d1 := below_cell hb16 v1
      have d2 := below_cell hb16 v2
      have d3 := below_cell hb16 v3
      have d4 := below_cell hb16 v4
      have zd := Nat.lt_of_lt_of_le zV (hb16).size
      go_wp2_with fail
      refine ((HC _ (below_trans hV hb16)).out).mono ?_
      rintro en w7 ⟨rfl, hb7⟩
      go_wp2
      go_ret
      exact ⟨ret_bool (by simp), below_trans hV (below_trans hb16 hb7)⟩
    · rw [show decide (q ≤ 30) = false from decide_eq_false h30] at hF
      generalize chkE k l w t n = ce at *
      clear hnil
      unfold vJ at *
      go_enter Tryz.func10, Tryz.ntmps10
      go_wp2_with fail
      rw [HV.out]
      refine (hA.out).mono ?_
      rintro en w1 ⟨rfl, hb1⟩
      have d0 := below_cell hb1 v0
      have d1 := below_cell hb1 v1
      have d2 := below_cell hb1 v2
      have d3 := below_cell hb1 v3
      have d4 := below_cell hb1 v4
      have zd := Nat.lt_of_lt_of_le zV (hb1).size
      go_wp2_with fail
      refine ((HK _ (below_trans hV hb1)).out).mono ?_
      rintro en w2 ⟨r, rfl, hb2, ho⟩
      have hI := ints_own ho
      have hb12 := below_trans hb1 hb2
      clear d0 d1 d2 d3 d4 zd ho
      go_wp2_with fail
      refine ((HA0 _ _ hI).out).mono ?_
      rintro en w3 ⟨rfl, hb3⟩
      have hb13 := below_trans hb12 hb3
      clear hI
      have d0 := below_cell hb13 v0
      have d1 := below_cell hb13 v1
      have d2 := below_cell hb13 v2
      have d3 := below_cell hb13 v3
      have d4 := below_cell hb13 v4
      have zd := Nat.lt_of_lt_of_le zV (hb13).size
      go_wp2_with fail
      refine ((HK _ (below_trans hV hb13)).out).mono ?_
      rintro en w4 ⟨r, rfl, hb4, ho⟩
      have hI := ints_own ho
      have hb14 := below_trans hb13 hb4
      clear d0 d1 d2 d3 d4 zd ho
      go_wp2_with fail
      refine ((HA1 _ _ hI).out).mono ?_
      rintro en w5 ⟨rfl, hb5⟩
      have hb15 := below_trans hb14 hb5
      have d0 := below_cell hb15 v0
      have d1 := below_cell hb15 v1
      have d2 := below_cell hb15 v2
      have d3 := below_cell hb15 v3
      have d4 := below_cell hb15 v4
      have zd := Nat.lt_of_lt_of_le zV (hb15).size
      go_wp2_with fail
      refine ((hF _).out).mono ?_
      rintro en w6 ⟨rfl, hb6⟩
      have hb16 := below_trans hb15 hb6
      clear d0 d1 d2 d3 d4 zd
      go_wp2
      go_ret
      exact ⟨ret_bool (by simp), below_trans hV hb16⟩
end
end Go.Proofs.YtjglkglaogaenaaGreatDoor
