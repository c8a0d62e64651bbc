/- texts: A0 A1. -/
import Derived.Test.YtokhkhnofkcalaaGreatDoorGZS31
import Derived.Test.YtokhkhnofkcalaaGreatDoorGZS41
namespace Go.Proofs.YtokhkhnofkcalaaGreatDoor
set_option maxHeartbeats 8000000
set_option linter.unusedSimpArgs false
set_option linter.unusedVariables false
section
open Go.RowKit
set_option maxRecDepth 100000
theorem sortP_run (cs : List Q4) : sortP cs = msF (fun x y => !decide (cmpPt y x < 0)) cs.length cs := msF_len _ _ _ (Nat.le_refl _)
theorem sortL_run (cs : List Q4) : sortL cs = msF (fun x y => !decide (cmpPl y x < 0)) cs.length cs := msF_len _ _ _ (Nat.le_refl _)
theorem keeps_lap : inBoxC 4000 4000 2000 [axP 2 (-1) (-1000)] = [(-1, 0, 0, 0), (0, -1, 0, 0), (0, 0, -1, -1000), (0, 0, 1, 2000), (0, 1, 0, 4000), (1, 0, 0, 4000)] := by
 simp only [inBoxC, normN, cellErr, normC, normF, cornersOf, sortP_run, sortL_run]
 kernel_rfl
theorem print_lap : printS 0 4000 4000 2000 [1000] = ⟨#[108, 97, 112, 32, 52, 48, 48, 48, 32, 52, 48, 48, 48, 32, 50, 48, 48, 48, 32, 49, 48, 48, 48]⟩ := by kernel_rfl
theorem print_len : (Lib.join ((printW 0 4000 4000 2000 [1000]).map (·.data.toList)) [32]).length ≤ 1000000 := by
 have : (Lib.join ((printW 0 4000 4000 2000 [1000]).map (·.data.toList)) [32]).length = 23 := by kernel_rfl
 omega
theorem tails_ex : tailsB 1200 6000 [6, 2000, 2000] = true := by kernel_rfl
end
section
open Go.RowKit Go.Shelf
attribute [local go_sem] Ext.cell Ext.frozen
set_option maxRecDepth 100000
theorem check_lap (W : World) (nv : Value) (hn : Ints W nv [1000]) : Calls Tryz.prog 48 #[vJ 0 4000 4000 2000 nv] W (Ret W (.int .i64 0)) :=
 Check_any 0 4000 4000 2000 nv [1000] true W hn (by decide) (fun _ _ _ _ _ W' hb => right_0 4000 4000 2000 nv [1000] W' (hn.below hb) rfl)
theorem check_tail (W : World) (nv : Value) (hn : Ints W nv [6, 2000, 2000]) : Calls Tryz.prog 48 #[vJ 5 1200 6000 2000 nv] W (Ret W (.int .i64 0)) :=
 Check_any 5 1200 6000 2000 nv [6, 2000, 2000] true W hn (by decide) (fun _ _ _ _ _ W' hb => (by
  have := right_5 1200 6000 2000 nv [6, 2000, 2000] W' (hn.below hb) (by decide) (by decide) (by decide) (by decide)
  rwa [tails_ex] at this))
theorem own_oneA {w : World} {base : Nat} {e : TypeId} {v : Value} {vs : List Value} (h : w.ownsRow base e 1 v 1 vs) : ∃ g c x, v = .slice (some ⟨g, 0, none⟩) 1 c ∧ vs = [x] ∧ g < w.heap.size ∧ w.cell? ⟨g, 0, none⟩ = some x := by
 obtain ⟨x, rfl⟩ : ∃ x, vs = [x] := List.length_eq_one_iff.1 (by have := h.1; omega)
 rcases h.2 with ⟨_, h1⟩ | ⟨g, cap, cur, rfl, _, hh, _, _, _, ht⟩
 ·omega
 ·refine ⟨g, cap, x, rfl, rfl, blk_lt hh, ?_⟩
  rw [blk_cell hh]
  have h2 : (cur.toList.take 1)[0]? = some x := by rw [show (1 : Nat) = 1 * 1 from rfl, ht]; rfl
  rw [List.getElem?_take_of_lt (by omega)] at h2
  simpa using h2
theorem enc4s_get : ∀ (ps : List Q4) (i : Nat) (hi : i < ps.length) (j : Nat), j < 4 → (ps.flatMap enc4)[i * 4 + j]? = (enc4 ps[i])[j]?
 | p :: ps, 0, _, j, hj => by
  rw [List.flatMap_cons, List.getElem?_append_left (by simp [enc4]; omega)]
  simp
 | p :: ps, i + 1, hi, j, hj => by
  rw [List.flatMap_cons, List.getElem?_append_right (by simp [enc4]; omega), show (i + 1) * 4 + j - (enc4 p).length = i * 4 + j by simp [enc4]; omega]
  simpa using enc4s_get ps i (by simpa using hi) j hj
theorem q4s_new {W : World} {T : TypeId} (ps : List Q4) {n g : Nat} (hg : g = W.heap.size) (hn : n = ps.length) : Q4s (W.alloc (.cells (ps.flatMap enc4).toArray T)) (.slice (some ⟨g, 0, none⟩) n n) ps := by
 subst hn
 refine ⟨_, _, _, rfl, rfl, Nat.le_refl _, fun _ => ⟨g, 0, rfl, fun i hi => ?_⟩⟩
 have key : ∀ j, j < 4 → (W.alloc (.cells (ps.flatMap enc4).toArray T)).cell? ⟨g, i * 4 + j, none⟩ = (enc4 ps[i])[j]? := fun j hj => by
  rw [cell_new hg]
  simp only [List.getElem?_toArray]
  exact enc4s_get ps i hi j hj
 rw [Nat.zero_add]
 exact ⟨(key 0 (by omega)).trans rfl, (key 1 (by omega)).trans rfl, (key 2 (by omega)).trans rfl, (key 3 (by omega)).trans rfl⟩
theorem awake_any (W : World) (htab : Lib.TabIs Tryz.prog W "internal/strconv.uint64pow10" .u64 Lib.pow10Tab) : Calls Tryz.prog 6 #[] W (Ret W (.bool true)) := by
 obtain ⟨W1, HW1⟩ : ∃ W1, Hid ((W.alloc (.cells #[.int .i64 1000] 3)).alloc (.cells #[.int .i64 0, .int .i64 4000, .int .i64 4000, .int .i64 2000, .slice (some ⟨W.heap.size, 0, none⟩) 1 1] 25) = W1) := ⟨_, Lib.hid rfl⟩
 have hW1 : Below W.heap.size W W1 := by rw [← HW1.out]; exact bel
 have hI1 : Ints W1 (.slice (some ⟨W.heap.size, 0, none⟩) 1 1) [1000] := by
  rw [← HW1.out]; exact (ints_newL (T := 3) [1000] rfl).below bel
 have HB1 : Hid (W1.heap[W.heap.size + 1]? = some (.cells #[.int .i64 0, .int .i64 4000, .int .i64 4000, .int .i64 2000, .slice (some ⟨W.heap.size, 0, none⟩) 1 1] 25 (0, 0))) := Lib.hid (by rw [← HW1.out]; exact heap_new (by simp))
 have hP := Lib.hid (Print_ok 0 4000 4000 2000 _ [1000] W1 hI1 (by decide) (by decide) (by decide) (by decide) (tab_below htab hW1) (fun W' hb => check_lap W' _ (hI1.below hb)) print_len)
 rw [print_lap] at hP
 have HI1 := Lib.hid hI1
 clear hI1 htab
 go_enter Tryz.func6, Tryz.ntmps6
 go_wp2_with fail
 rw [HW1.out]
 refine (hP.out).mono ?_
 rintro e w2 ⟨rfl, hb2⟩
 clear hP
 have hW2 := below_trans hW1 hb2
 have HI2 := Lib.hid (HI1.out.below hb2)
 have HB2 : Hid (w2.heap[W.heap.size + 1]? = _) := Lib.hid ((hb2.block _ (blk_lt HB1.out)).trans HB1.out)
 have hA := Lib.hid (Area_5 1200 6000 2000 _ [6, 2000, 2000] (w2.alloc (.cells #[.int .i64 6, .int .i64 2000, .int .i64 2000] 3)) (ints_newL (T := 3) [6, 2000, 2000] rfl) (by decide) (by decide) (by decide) (by decide) (by decide) (fun W' hb => check_tail W' _ ((ints_newL (T := 3) [6, 2000, 2000] rfl).below hb)))
 rw [show (2 * (((([6, 2000, 2000] : List Int).length - 2 : Nat)) : Int) * (1200 / ([6, 2000, 2000] : List Int).getD 0 0) * 2000) = 800000 by decide, show (2 * (((([6, 2000, 2000] : List Int).length - 2 : Nat)) : Int) * 1200 * 2000) = 4800000 by decide] at hA
 clear HI1 HB1 HW1 hb2 hW1
 go_wp2_with fail
 refine (hA.out).mono ?_
 rintro e w3 ⟨rfl, hb3⟩
 clear hA
 have hb23 : Below w2.heap.size w2 w3 := below_trans bel hb3
 have hW3 := below_trans hW2 hb23
 have HB3 : Hid (w3.heap[W.heap.size + 1]? = _) := Lib.hid ((hb23.block _ (blk_lt HB2.out)).trans HB2.out)
 obtain ⟨w4, HW4⟩ : ∃ w4, Hid (w3.alloc (.cells #[.int .i64 800000, .int .i64 4800000, .int .i64 0] 22) = w4) := ⟨_, Lib.hid rfl⟩
 have hb34 : Below w3.heap.size w3 w4 := by rw [← HW4.out]; exact bel
 have HI4 := Lib.hid ((HI2.out.below hb23).below hb34)
 have HB4 : Hid (w4.heap[W.heap.size + 1]? = _) := Lib.hid ((hb34.block _ (blk_lt HB3.out)).trans HB3.out)
 have HA4 : Hid (w4.heap[w3.heap.size]? = some (.cells #[.int .i64 800000, .int .i64 4800000, .int .i64 0] 22 (0, 0))) := Lib.hid (by rw [← HW4.out]; exact heap_new rfl)
 have hW4 := below_trans hW3 hb34
 have hK := Lib.hid (Keeps_ok 0 4000 4000 2000 0 _ [1000] [[[axP 2 (-1) (-1000)]], [[axP 2 1 1000]]] w4 (by decide) (by decide) (by decide) (by decide) (by decide) (by decide) (by decide) HI4.out
  (fun W' hb => checkMember_any 0 4000 4000 2000 0 0 _ [1000] W' (HI4.out.below hb) (by decide) (fun W'' hb' => check_lap W'' _ ((HI4.out.below hb).below hb')) (by decide))
  (fun W' hb => (partsOf_0 4000 4000 2000 _ [1000] W' (HI4.out.below hb) rfl (by decide)).mono (fun e w' ⟨u, he, hb', hp⟩ => ⟨_, he, hb', u, _, _, _, rfl, hp.mono (Nat.zero_le _)⟩)))
 have b0 := (blk_cell HB3.out 0).trans rfl
 have b1 := (blk_cell HB3.out 1).trans rfl
 have b2 := (blk_cell HB3.out 2).trans rfl
 have b3 := (blk_cell HB3.out 3).trans rfl
 have b4 := (blk_cell HB3.out 4).trans rfl
 simp only [List.getElem?_toArray, List.getElem?_cons_zero, List.getElem?_cons_succ] at b0 b1 b2 b3 b4
 have z3 := blk_lt HB3.out
 go_wp2_with fail
 rw [HW4.out]
 refine (hK.out).mono ?_
 rintro e w5 ⟨s, vs, rfl, hb5, ho5, hr5⟩
 clear hK
 obtain ⟨g, cap, x, rfl, rfl, zg, cg⟩ := own_oneA ho5
 have hq := q4s_own (hr5.2 0 (by simp) (by simp))
 simp only [List.map_cons, List.map_nil, List.getElem_cons_zero] at hq
 rw [keeps_lap] at hq
 have HQ := Lib.hid hq
 have HA5 := Lib.hid ((hb5.block _ (blk_lt HA4.out)).trans HA4.out)
 have hW5 := below_trans hW4 hb5
 obtain ⟨xa, xm, xc, rfl, _⟩ := hq
 clear ho5 hr5 hb5 HI4 HB4 HA4 hW4 hb34 HW4 b0 b1 b2 b3 b4 z3 HB3 hW3 hb23 hb3 HI2 HB2 hW2
 have a0 := (blk_cell HA5.out 0).trans rfl
 have a1 := (blk_cell HA5.out 1).trans rfl
 have a2 := (blk_cell HA5.out 2).trans rfl
 simp only [List.getElem?_toArray, List.getElem?_cons_zero, List.getElem?_cons_succ] at a0 a1 a2
 have za := blk_lt HA5.out
 have hE := fun w => equalIn_arr3 800000 4800000 0 800000 4800000 0 w
 simp only [beq_self_eq_true, Bool.and_self] at hE
 obtain ⟨ps, Hps⟩ : ∃ ps : List Q4, Hid ([(-1, 0, 0, 0), (0, -1, 0, 0), (0, 0, -1, -1000), (0, 0, 1, 2000), (0, 1, 0, 4000), (1, 0, 0, 4000)] = ps) := ⟨_, Lib.hid rfl⟩
 go_wp2_with fail
 refine (SameCell_any _ _ ps ps _ ((by rw [← Hps.out]; exact HQ.out : Q4s w5 (.slice xa xm xc) ps).below bel) (by rw [← Hps.out]; exact q4s_new [(-1, 0, 0, 0), (0, -1, 0, 0), (0, 0, -1, -1000), (0, 0, 1, 2000), (0, 1, 0, 4000), (1, 0, 0, 4000)] (by simp) rfl) (by rw [← Hps.out]; decide)).mono ?_
 rintro e w6 ⟨rfl, hb6⟩
 clear HQ
 have h6 := below_trans (show Below W.heap.size W _ from below_trans hW5 bel) hb6
 go_wp2
 go_ret
 exact ⟨ret_bool (by simp), h6⟩
end
end Go.Proofs.YtokhkhnofkcalaaGreatDoor
