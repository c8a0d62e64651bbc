/- NamesLaw: texts of mine, merged: J17, Ms, A0, A1, R1, N1, E0, NF. -/
import Derived.Test.YtfdgifcllelhiaaGreatDoorNamesLawM13
import Derived.WalkKit
import Derived.Test.YtfdgifcllelhiaaGreatDoorNamesLawM11
import Derived.Test.YtfdgifcllelhiaaGreatDoorTie
import Derived.ProofKit
import Derived.LaidMore
import Derived.OpenShut
import Derived.Stop.Joined
import Derived.Stop.LaidErr
import Derived.Lib.LaidTab
import Derived.SevenTiedAt
import Derived.Test.YtfdgifcllelhiaaGreatDoorRows
import Derived.JoinedOf
import Derived.KernelRfl
/- joint: Keeps. -/
namespace Go.Proofs.YtfdgifcllelhiaaGreatDoor
open Go.RowKit Go.Shelf
attribute [local go_sem] Ext.cell Ext.frozen
def IsKG2 (ks : List (List (List Q4))) : Value → World → Prop := fun v w => ∃ u a m c, v = .agg #[u, .slice a m c] ∧ PartsV 0 w u ks
theorem stab_kg2 (ks : List (List (List Q4))) : Stab (IsKG2 ks) := fun _ _ _ hb ⟨u, a, m, c, h, k⟩ => ⟨u, a, m, c, h, PartsV.below k hb⟩
def IsPt (cs : List (List Q4)) : Value → World → Prop := fun v w => ∃ b off u, v = .pointer (some ⟨b, off, none⟩) ∧ w.cell? ⟨b, off, none⟩ = some u ∧ CellsV 0 w u cs
theorem stab_pt (cs : List (List Q4)) : Stab (IsPt cs) := fun _ _ _ hb ⟨b, off, u, h, k, l⟩ => ⟨b, off, u, h, below_cell hb k, l.below hb⟩
def IsS (B : Nat) (css : List (List Q4)) : Value → World → Prop := fun v w => ∃ s vs, v = .agg #[s] ∧ w.ownsRow B 90 1 s css.length vs ∧ RowsV w B vs css
theorem stab_s (B : Nat) (css : List (List Q4)) : Stab (IsS B css) := fun _ _ _ hb ⟨s, vs, h, k, l⟩ => ⟨s, vs, h, own_below k hb, l.below hb⟩

set_option maxRecDepth 100000 in
set_option maxHeartbeats 4000000 in
theorem Keeps_ok (k l w t : Int) (member : Nat) (nv : Value) (n : List Int) (ks : List (List (List Q4))) (W : World) (hmem : member < ks.length)
    (hl : -1000000 ≤ l ∧ l ≤ 1000000) (hw : -1000000 ≤ w ∧ w ≤ 1000000) (ht : -1000000 ≤ t ∧ t ≤ 1000000) (hkn : ks.length ≤ 1000000)
    (hcs : ks[member].length ≤ 1000000) (hps : ∀ c ∈ ks[member], c.length ≤ 1000) (hn : Ints W nv n)
    (hc : ∀ W', Below W.heap.size W W' → Calls Tryz.prog 54 #[vJ k l w t nv, .int .i64 member] W' (Ret W' (.int .i64 0)))
    (hp : ∀ W', Below W.heap.size W W' → Calls Tryz.prog 56 #[vJ k l w t nv] W' fun e w' => ∃ v, e = .returned v ∧ Below W'.heap.size W' w' ∧ IsKG2 ks v w') :
    Calls Tryz.prog 14 #[vJ k l w t nv, .int .i64 member] W fun e w' => ∃ s vs, e = .returned (.tuple #[.agg #[s], .int .i64 0]) ∧ Below W.heap.size W w' ∧
      w'.ownsRow W.heap.size 90 1 s ks[member].length vs ∧ RowsV w' W.heap.size vs (ks[member].map (inBoxC l w t)) := by
  have Hc := fun W' h => Lib.hid (hc W' h)
  have Hp := fun W' h => Lib.hid (hp W' h)
  have HIB := fun cv W' (h : CellsV 0 W' cv ks[member]) => Lib.hid (inBox_any l w t cv ks[member] W' hl hw ht 0 h hcs hps)
  have HKS : Hid (∀ w' v, PartsV 0 w' v ks → ∃ b off c, v = .slice (some ⟨b, off, none⟩) ks.length c ∧ ∃ u, w'.cell? ⟨b, off + member, none⟩ = some u ∧ CellsV 0 w' u ks[member]) := Lib.hid (fun w' v h => by
    obtain ⟨⟨a, m, c, rfl, hm, hcc, hx⟩, _⟩ := h
    obtain ⟨b, off, rfl, hi⟩ := hx (by omega)
    subst hm
    exact ⟨b, off, c, rfl, hi member hmem⟩)
  generalize ks[member] = kc at *
  clear hc hp hcs hps
  unfold vJ at *
  obtain ⟨a, m, c, rfl, hm', hcc, hx⟩ := hn
  clear hx hm'
  obtain ⟨K, HK⟩ : ∃ K, Hid (ks.length = K) := ⟨_, Lib.hid rfl⟩
  have mK : (member : Int) < (K : Int) := by have := HK.out; omega
  have m0 : (0 : Int) ≤ (member : Int) := by omega
  have hK6 : K ≤ 1000000 := by have := HK.out; omega
  rw [HK.out] at HKS
  clear hmem hkn
  go_enter Tryz.func14, Tryz.ntmps14
  go_wp2_with fail
  refine ((Hc _ (by (repeat (first | exact Below.refl _ _ | assumption | (refine below_trans ?_ (Ext.below _)) | (refine Below.trans ?_ ((Ext.below _).mono (by first | omega | (simp; omega)))) | (refine Below.alloc ?_ (by first | omega | (simp; done) | (simp; omega)) _) | (refine Below.setCell ?_ (by first | omega | (simp; done) | (simp; omega)) _) | (refine Below.drew ?_))))).out).mono ?_
  rintro e w1 ⟨rfl, hb1⟩
  have hw1 := below_trans (show Below W.heap.size W ((W.alloc (.cells #[.int .i64 k, .int .i64 l, .int .i64 w, .int .i64 t, .slice a m c] 25)).alloc (.cells #[.slice none 0 0] 30)) by (repeat (first | exact Below.refl _ _ | assumption | (refine below_trans ?_ (Ext.below _)) | (refine Below.trans ?_ ((Ext.below _).mono (by first | omega | (simp; omega)))) | (refine Below.alloc ?_ (by first | omega | (simp; done) | (simp; omega)) _) | (refine Below.setCell ?_ (by first | omega | (simp; done) | (simp; omega)) _) | (refine Below.drew ?_)))) hb1
  have HJ := Lib.hid ((hb1.block W.heap.size (by simp; omega)).trans ((heap_old (by simp)).trans (heap_new rfl)))
  have HR := Lib.hid ((hb1.block (W.heap.size + 1) (by simp)).trans (heap_new (by simp)))
  have c0 : w1.cell? ⟨W.heap.size, 0, none⟩ = some (.int .i64 k) := (blk_cell HJ.out 0).trans rfl
  have c1 : w1.cell? ⟨W.heap.size, 1, none⟩ = some (.int .i64 l) := (blk_cell HJ.out 1).trans rfl
  have c2 : w1.cell? ⟨W.heap.size, 2, none⟩ = some (.int .i64 w) := (blk_cell HJ.out 2).trans rfl
  have c3 : w1.cell? ⟨W.heap.size, 3, none⟩ = some (.int .i64 t) := (blk_cell HJ.out 3).trans rfl
  have c4 : w1.cell? ⟨W.heap.size, 4, none⟩ = some (.slice a m c) := (blk_cell HJ.out 4).trans rfl
  have zj := blk_lt HJ.out
  have zr := blk_lt HR.out
  clear Hc hb1 HJ
  go_wp2
  refine wp_region_grow [0, 1, 2, 3, 4, 5, 6, 7, 8] 9 [10] (pick [
    IsV (.pointer (some ⟨W.heap.size, 1, none⟩)), IsV (.agg #[.int .i64 l, .int .i64 w, .int .i64 t]), IsV (.agg #[.int .i64 k, .int .i64 l, .int .i64 w, .int .i64 t, .slice a m c]), IsKG2 ks, IsK 0 ks,
    IsV (.int .i64 member), IsPt kc, IsC 0 kc, IsS w1.heap.size (kc.map (inBoxC l w t))]) (by kernel_rfl) (by kernel_rfl) (Stabs.pick (by repeat (first | exact Stabs.nil | refine Stabs.cons (by first | exact stab_v _ | exact stab_p _ _ | exact stab_c _ _ | exact stab_k _ _ | exact stab_kg2 _ | exact stab_pt _ | exact stab_s _ _ | exact stab_o _ _ _) ?_))) ?_
  try go_frame
  refine wpG_step _ _ rfl rfl (by simp) (fun w' hb' hR K hK => ?_) (fun v0 => ?_)
  · clear hR
    have z := hb'.size
    go_simp
    exact hK _ _ (Below.refl _ _) rfl
  try go_frame
  refine wpG_step _ _ rfl rfl (by simp) (fun w' hb' hR K hK => ?_) (fun v1 => ?_)
  · obtain rfl : v0 = _ := hR 0 (by kernel_rfl)
    have d1 := below_cell hb' c1
    have d2 := below_cell hb' c2
    have d3 := below_cell hb' c3
    have z := hb'.size
    clear hR
    go_simp
    exact hK _ _ (Below.refl _ _) rfl
  try go_frame
  refine wpG_step _ _ rfl rfl (by simp) (fun w' hb' hR K hK => ?_) (fun v2 => ?_)
  · have d0 := below_cell hb' c0
    have d1 := below_cell hb' c1
    have d2 := below_cell hb' c2
    have d3 := below_cell hb' c3
    have d4 := below_cell hb' c4
    have z := hb'.size
    clear hR
    go_simp
    exact hK _ _ (Below.refl _ _) rfl
  try go_frame
  refine wpG_step _ _ rfl rfl (by simp) (fun w' hb' hR K hK => ?_) (fun v3 => ?_)
  · obtain rfl : v2 = _ := hR 2 (by kernel_rfl)
    clear hR
    go_simp
    refine ((Hp _ (below_trans hw1 hb')).out).mono ?_
    rintro e w1 ⟨v, rfl, hb1, hv⟩
    exact hK _ _ hb1 hv
  try go_frame
  refine wpG_step _ _ rfl rfl (by simp) (fun w' hb' hR K hK => ?_) (fun v4 => ?_)
  · obtain ⟨u, pa, pm, pc, rfl, hpu⟩ : IsKG2 ks v3 w' := hR 3 (by kernel_rfl)
    have HPU := Lib.hid hpu
    obtain ⟨⟨ua, um, uc, rfl, _⟩, _⟩ := hpu
    clear hR
    go_simp
    exact hK _ _ (Below.refl _ _) HPU.out
  try go_frame
  refine wpG_step _ _ rfl rfl (by simp) (fun w' hb' hR K hK => ?_) (fun v5 => ?_)
  · clear hR
    go_simp
    exact hK _ _ (Below.refl _ _) rfl
  try go_frame
  refine wpG_step _ _ rfl rfl (by simp) (fun w' hb' hR K hK => ?_) (fun v6 => ?_)
  · have hpu : PartsV 0 w' v4 ks := hR 4 (by kernel_rfl)
    obtain rfl : v5 = _ := hR 5 (by kernel_rfl)
    obtain ⟨b, off, uc, rfl, u, hu, hcu⟩ := HKS.out _ _ hpu
    have HCU := Lib.hid hcu
    have HU := Lib.hid hu
    clear hR hpu hcu hu
    go_simp
    exact hK _ _ (Below.refl _ _) ⟨_, _, _, rfl, HU.out, HCU.out⟩
  try go_frame
  refine wpG_step _ _ rfl rfl (by simp) (fun w' hb' hR K hK => ?_) (fun v7 => ?_)
  · obtain ⟨b, off, u, rfl, hu, hcu⟩ : IsPt kc v6 w' := hR 6 (by kernel_rfl)
    have HCU := Lib.hid hcu
    obtain ⟨⟨ua, um, uc, rfl, _⟩, _⟩ := hcu
    have z := World.block_lt_of_cell? w' _ hu
    simp only at z
    clear hR
    go_simp
    exact hK _ _ (Below.refl _ _) HCU.out
  try go_frame
  refine wpG_step _ _ rfl rfl (by simp) (fun w' hb' hR K hK => ?_) (fun v8 => ?_)
  · obtain rfl : v1 = _ := hR 1 (by kernel_rfl)
    have hcu : CellsV 0 w' v7 kc := hR 7 (by kernel_rfl)
    have HC9 := Lib.hid ((HIB _ _ hcu).out)
    have z := Lib.hid hb'.size
    clear hR
    go_simp
    refine (HC9.out).mono ?_
    rintro e w1 ⟨v, vs, rfl, hb1, ho, hr⟩
    exact hK _ _ hb1 ⟨_, _, rfl, own_mono (by simpa using ho) z.out, hr.mono z.out⟩
  go_frame
  refine wpG_nil (fun w' hb' hR => ?_)
  obtain ⟨s, vs, rfl, ho, hrs⟩ : IsS w1.heap.size (kc.map (inBoxC l w t)) v8 w' := hR 8 (by simp)
  have HO := Lib.hid ho
  have HS := Lib.hid hrs
  obtain ⟨sa, sc, rfl⟩ := own_slice ho
  have HR' : Hid (w'.heap[W.heap.size + 1]? = _) := Lib.hid ((hb'.block _ zr).trans HR.out)
  have r0 : w'.cell? ⟨W.heap.size + 1, 0, none⟩ = some (.slice none 0 0) := (blk_cell HR'.out 0).trans rfl
  have rf := blk_free HR'.out 0
  have zr' := blk_lt HR'.out
  clear hR ho hrs
  simp only [opsAt, List.filterMap_cons, List.filterMap_nil, List.getElem?_toArray, List.getElem?_cons_zero, List.getElem?_cons_succ]
  go_wp2
  refine NoPanic.normal ?_
  go_wp2
  refine bodyPost_ret (v := .tuple #[.agg #[.slice sa (kc.map (inBoxC l w t)).length sc], .int .i64 0]) (by simp [results, Tryz.results14, go_sem, r0]) rfl ⟨_, vs, rfl, (below_trans hw1 hb').setCell (by simp) _, ?_, ?_⟩
  · have := own_mono (own_setCell_far HO.out ⟨W.heap.size + 1, 0, none⟩ (.slice sa (kc.map (inBoxC l w t)).length sc) (fun e => own_blk_ne HO.out HR'.out (by decide) e.symm)) (base' := W.heap.size) hw1.size
    simpa using this
  · exact (HS.out.set HR'.out (by decide)).mono hw1.size
end Go.Proofs.YtfdgifcllelhiaaGreatDoor
/- mergeSort, in a form that the kernel runs. No program is named here. -/
namespace Go.Proofs.YtfdgifcllelhiaaGreatDoor
section
variable {α : Type} (le : α → α → Bool)
def mgF : Nat → List α → List α → List α
  | 0, xs, ys => xs ++ ys
  | _ + 1, [], ys => ys
  | _ + 1, xs, [] => xs
  | f + 1, x :: xs, y :: ys => if le x y then x :: mgF f xs (y :: ys) else y :: mgF f (x :: xs) ys
theorem mgF_eq : ∀ (f : Nat) (xs ys : List α), xs.length + ys.length ≤ f → List.merge xs ys le = mgF le f xs ys
  | 0, xs, ys, h => by
    obtain rfl : xs = [] := List.length_eq_zero_iff.1 (by omega)
    obtain rfl : ys = [] := List.length_eq_zero_iff.1 (by omega)
    simp [mgF]
  | f + 1, [], ys, _ => by simp [mgF]
  | f + 1, x :: xs, [], _ => by simp [mgF]
  | f + 1, x :: xs, y :: ys, h => by
    rw [List.cons_merge_cons]
    simp only [mgF]
    split
    · rw [mgF_eq f xs (y :: ys) (by simp at h ⊢; omega)]
    · rw [mgF_eq f (x :: xs) ys (by simp at h ⊢; omega)]
def msF : Nat → List α → List α
  | 0, l => l
  | _ + 1, [] => []
  | _ + 1, [a] => [a]
  | f + 1, a :: b :: xs => let l := a :: b :: xs; mgF le l.length (msF f (l.take ((l.length + 1) / 2))) (msF f (l.drop ((l.length + 1) / 2)))
theorem msF_len : ∀ (f : Nat) (l : List α), l.length ≤ f → l.mergeSort le = msF le f l
  | 0, l, h => by
    obtain rfl : l = [] := List.length_eq_zero_iff.1 (by omega)
    simp [msF]
  | f + 1, [], _ => by simp [msF]
  | f + 1, [a], _ => by simp [msF]
  | f + 1, a :: b :: xs, h => by
    rw [List.mergeSort]
    simp only [msF, List.MergeSort.Internal.splitInTwo_fst, List.MergeSort.Internal.splitInTwo_snd]
    have h1 : ((a :: b :: xs).take (((a :: b :: xs).length + 1) / 2)).length ≤ f := by simp at h ⊢; omega
    have h2 : ((a :: b :: xs).drop (((a :: b :: xs).length + 1) / 2)).length ≤ f := by simp at h ⊢; omega
    rw [← msF_len f _ h1, ← msF_len f _ h2, ← mgF_eq le _ _ _ (by simp; omega)]
end
end Go.Proofs.YtfdgifcllelhiaaGreatDoor
/- Plain facts of the law's examples. -/
namespace Go.Proofs.YtfdgifcllelhiaaGreatDoor
open Go.RowKit
set_option maxRecDepth 100000
theorem sortP_run (cs : List Q4) : sortP cs = msF (fun x y => !decide (cmpPt y x < 0)) cs.length cs := msF_len _ _ _ (Nat.le_refl _)
theorem sortL_run (cs : List Q4) : sortL cs = msF (fun x y => !decide (cmpPl y x < 0)) cs.length cs := msF_len _ _ _ (Nat.le_refl _)
theorem keeps_lap : inBoxC 4000 4000 2000 [axP 2 (-1) (-1000)] = [(-1, 0, 0, 0), (0, -1, 0, 0), (0, 0, -1, -1000), (0, 0, 1, 2000), (0, 1, 0, 4000), (1, 0, 0, 4000)] := by
  simp only [inBoxC, normN, cellErr, normC, normF, cornersOf, sortP_run, sortL_run]
  kernel_rfl
theorem print_lap : printS 0 4000 4000 2000 [1000] = ⟨#[108, 97, 112, 32, 52, 48, 48, 48, 32, 52, 48, 48, 48, 32, 50, 48, 48, 48, 32, 49, 48, 48, 48]⟩ := by kernel_rfl
theorem print_len : (Lib.join ((printW 0 4000 4000 2000 [1000]).map (·.data.toList)) [32]).length ≤ 1000000 := by
  have : (Lib.join ((printW 0 4000 4000 2000 [1000]).map (·.data.toList)) [32]).length = 23 := by kernel_rfl
  omega
theorem tails_ex : tailsB 1200 6000 [6, 2000, 2000] = true := by kernel_rfl
end Go.Proofs.YtfdgifcllelhiaaGreatDoor
/- The law's examples hold: awake. -/
namespace Go.Proofs.YtfdgifcllelhiaaGreatDoor
open Go.RowKit Go.Shelf
attribute [local go_sem] Ext.cell Ext.frozen

theorem check_lap (W : World) (nv : Value) (hn : Ints W nv [1000]) : Calls Tryz.prog 23 #[vJ 0 4000 4000 2000 nv] W (Ret W (.int .i64 0)) :=
  Check_any 0 4000 4000 2000 nv [1000] true W hn (by decide) (fun _ _ _ _ _ W' hb => right_0 4000 4000 2000 nv [1000] W' (hn.below hb) rfl)
theorem check_tail (W : World) (nv : Value) (hn : Ints W nv [6, 2000, 2000]) : Calls Tryz.prog 23 #[vJ 5 1200 6000 2000 nv] W (Ret W (.int .i64 0)) :=
  Check_any 5 1200 6000 2000 nv [6, 2000, 2000] true W hn (by decide) (fun _ _ _ _ _ W' hb => (by
    have := right_5 1200 6000 2000 nv [6, 2000, 2000] W' (hn.below hb) (by decide) (by decide) (by decide) (by decide)
    rwa [tails_ex] at this))

theorem own_one {w : World} {base : Nat} {e : TypeId} {v : Value} {vs : List Value} (h : w.ownsRow base e 1 v 1 vs) : ∃ g c x, v = .slice (some ⟨g, 0, none⟩) 1 c ∧ vs = [x] ∧ g < w.heap.size ∧ w.cell? ⟨g, 0, none⟩ = some x := by
  obtain ⟨x, rfl⟩ : ∃ x, vs = [x] := List.length_eq_one_iff.1 (by have := h.1; omega)
  rcases h.2 with ⟨_, h1⟩ | ⟨g, cap, cur, rfl, _, hh, _, _, _, ht⟩
  · omega
  · refine ⟨g, cap, x, rfl, rfl, blk_lt hh, ?_⟩
    rw [blk_cell hh]
    have h2 : (cur.toList.take 1)[0]? = some x := by rw [show (1 : Nat) = 1 * 1 from rfl, ht]; rfl
    rw [List.getElem?_take_of_lt (by omega)] at h2
    simpa using h2
theorem enc4s_get : ∀ (ps : List Q4) (i : Nat) (hi : i < ps.length) (j : Nat), j < 4 → (ps.flatMap enc4)[i * 4 + j]? = (enc4 ps[i])[j]?
  | p :: ps, 0, _, j, hj => by
    rw [List.flatMap_cons, List.getElem?_append_left (by simp [enc4]; omega)]
    simp
  | p :: ps, i + 1, hi, j, hj => by
    rw [List.flatMap_cons, List.getElem?_append_right (by simp [enc4]; omega), show (i + 1) * 4 + j - (enc4 p).length = i * 4 + j by simp [enc4]; omega]
    simpa using enc4s_get ps i (by simpa using hi) j hj
theorem q4s_new {W : World} {T : TypeId} (ps : List Q4) {n g : Nat} (hg : g = W.heap.size) (hn : n = ps.length) : Q4s (W.alloc (.cells (ps.flatMap enc4).toArray T)) (.slice (some ⟨g, 0, none⟩) n n) ps := by
  subst hn
  refine ⟨_, _, _, rfl, rfl, Nat.le_refl _, fun _ => ⟨g, 0, rfl, fun i hi => ?_⟩⟩
  have key : ∀ j, j < 4 → (W.alloc (.cells (ps.flatMap enc4).toArray T)).cell? ⟨g, i * 4 + j, none⟩ = (enc4 ps[i])[j]? := fun j hj => by
    rw [cell_new hg]
    simp only [List.getElem?_toArray]
    exact enc4s_get ps i hi j hj
  rw [Nat.zero_add]
  exact ⟨(key 0 (by omega)).trans rfl, (key 1 (by omega)).trans rfl, (key 2 (by omega)).trans rfl, (key 3 (by omega)).trans rfl⟩

set_option maxRecDepth 100000 in
set_option maxHeartbeats 4000000 in
theorem awake_any (W : World) (htab : Lib.TabIs Tryz.prog W "internal/strconv.uint64pow10" .u64 Lib.pow10Tab) : Calls Tryz.prog 12 #[] W (Ret W (.bool true)) := by
  obtain ⟨W1, HW1⟩ : ∃ W1, Hid ((W.alloc (.cells #[.int .i64 1000] 3)).alloc (.cells #[.int .i64 0, .int .i64 4000, .int .i64 4000, .int .i64 2000, .slice (some ⟨W.heap.size, 0, none⟩) 1 1] 25) = W1) := ⟨_, Lib.hid rfl⟩
  have hW1 : Below W.heap.size W W1 := by rw [← HW1.out]; (repeat (first | exact Below.refl _ _ | assumption | (refine below_trans ?_ (Ext.below _)) | (refine Below.trans ?_ ((Ext.below _).mono (by first | omega | (simp; omega)))) | (refine Below.alloc ?_ (by first | omega | (simp; done) | (simp; omega)) _) | (refine Below.setCell ?_ (by first | omega | (simp; done) | (simp; omega)) _) | (refine Below.drew ?_)))
  have hI1 : Ints W1 (.slice (some ⟨W.heap.size, 0, none⟩) 1 1) [1000] := by
    rw [← HW1.out]; exact (ints_newL (T := 3) [1000] rfl).below (by (repeat (first | exact Below.refl _ _ | assumption | (refine below_trans ?_ (Ext.below _)) | (refine Below.trans ?_ ((Ext.below _).mono (by first | omega | (simp; omega)))) | (refine Below.alloc ?_ (by first | omega | (simp; done) | (simp; omega)) _) | (refine Below.setCell ?_ (by first | omega | (simp; done) | (simp; omega)) _) | (refine Below.drew ?_))))
  have HB1 : Hid (W1.heap[W.heap.size + 1]? = some (.cells #[.int .i64 0, .int .i64 4000, .int .i64 4000, .int .i64 2000, .slice (some ⟨W.heap.size, 0, none⟩) 1 1] 25 (0, 0))) := Lib.hid (by rw [← HW1.out]; exact heap_new (by simp))
  have hP := Lib.hid (Print_ok 0 4000 4000 2000 _ [1000] W1 hI1 (by decide) (by decide) (by decide) (by decide) (tab_below htab hW1) (fun W' hb => check_lap W' _ (hI1.below hb)) print_len)
  rw [print_lap] at hP
  have HI1 := Lib.hid hI1
  clear hI1 htab
  go_enter Tryz.func12, Tryz.ntmps12
  go_wp2_with fail
  rw [HW1.out]
  refine (hP.out).mono ?_
  rintro e w2 ⟨rfl, hb2⟩
  clear hP
  have hW2 := below_trans hW1 hb2
  have HI2 := Lib.hid (HI1.out.below hb2)
  have HB2 : Hid (w2.heap[W.heap.size + 1]? = _) := Lib.hid ((hb2.block _ (blk_lt HB1.out)).trans HB1.out)
  have hA := Lib.hid (Area_5 1200 6000 2000 _ [6, 2000, 2000] (w2.alloc (.cells #[.int .i64 6, .int .i64 2000, .int .i64 2000] 3)) (ints_newL (T := 3) [6, 2000, 2000] rfl) (by decide) (by decide) (by decide) (by decide) (by decide) (fun W' hb => check_tail W' _ ((ints_newL (T := 3) [6, 2000, 2000] rfl).below hb)))
  rw [show (2 * (((([6, 2000, 2000] : List Int).length - 2 : Nat)) : Int) * (1200 / ([6, 2000, 2000] : List Int).getD 0 0) * 2000) = 800000 by decide, show (2 * (((([6, 2000, 2000] : List Int).length - 2 : Nat)) : Int) * 1200 * 2000) = 4800000 by decide] at hA
  clear HI1 HB1 HW1 hb2 hW1
  go_wp2_with fail
  refine (hA.out).mono ?_
  rintro e w3 ⟨rfl, hb3⟩
  clear hA
  have hb23 : Below w2.heap.size w2 w3 := below_trans (by (repeat (first | exact Below.refl _ _ | assumption | (refine below_trans ?_ (Ext.below _)) | (refine Below.trans ?_ ((Ext.below _).mono (by first | omega | (simp; omega)))) | (refine Below.alloc ?_ (by first | omega | (simp; done) | (simp; omega)) _) | (refine Below.setCell ?_ (by first | omega | (simp; done) | (simp; omega)) _) | (refine Below.drew ?_)))) hb3
  have hW3 := below_trans hW2 hb23
  have HB3 : Hid (w3.heap[W.heap.size + 1]? = _) := Lib.hid ((hb23.block _ (blk_lt HB2.out)).trans HB2.out)
  obtain ⟨w4, HW4⟩ : ∃ w4, Hid (w3.alloc (.cells #[.int .i64 800000, .int .i64 4800000, .int .i64 0] 22) = w4) := ⟨_, Lib.hid rfl⟩
  have hb34 : Below w3.heap.size w3 w4 := by rw [← HW4.out]; (repeat (first | exact Below.refl _ _ | assumption | (refine below_trans ?_ (Ext.below _)) | (refine Below.trans ?_ ((Ext.below _).mono (by first | omega | (simp; omega)))) | (refine Below.alloc ?_ (by first | omega | (simp; done) | (simp; omega)) _) | (refine Below.setCell ?_ (by first | omega | (simp; done) | (simp; omega)) _) | (refine Below.drew ?_)))
  have HI4 := Lib.hid ((HI2.out.below hb23).below hb34)
  have HB4 : Hid (w4.heap[W.heap.size + 1]? = _) := Lib.hid ((hb34.block _ (blk_lt HB3.out)).trans HB3.out)
  have HA4 : Hid (w4.heap[w3.heap.size]? = some (.cells #[.int .i64 800000, .int .i64 4800000, .int .i64 0] 22 (0, 0))) := Lib.hid (by rw [← HW4.out]; exact heap_new rfl)
  have hW4 := below_trans hW3 hb34
  have hK := Lib.hid (Keeps_ok 0 4000 4000 2000 0 _ [1000] [[[axP 2 (-1) (-1000)]], [[axP 2 1 1000]]] w4 (by decide) (by decide) (by decide) (by decide) (by decide) (by decide) (by decide) HI4.out
    (fun W' hb => checkMember_any 0 4000 4000 2000 0 0 _ [1000] W' (HI4.out.below hb) (by decide) (fun W'' hb' => check_lap W'' _ ((HI4.out.below hb).below hb')) (by decide))
    (fun W' hb => (partsOf_0 4000 4000 2000 _ [1000] W' (HI4.out.below hb) rfl (by decide)).mono (fun e w' ⟨u, he, hb', hp⟩ => ⟨_, he, hb', u, _, _, _, rfl, hp.mono (Nat.zero_le _)⟩)))
  have b0 := (blk_cell HB3.out 0).trans rfl
  have b1 := (blk_cell HB3.out 1).trans rfl
  have b2 := (blk_cell HB3.out 2).trans rfl
  have b3 := (blk_cell HB3.out 3).trans rfl
  have b4 := (blk_cell HB3.out 4).trans rfl
  simp only [List.getElem?_toArray, List.getElem?_cons_zero, List.getElem?_cons_succ] at b0 b1 b2 b3 b4
  have z3 := blk_lt HB3.out
  go_wp2_with fail
  rw [HW4.out]
  refine (hK.out).mono ?_
  rintro e w5 ⟨s, vs, rfl, hb5, ho5, hr5⟩
  clear hK
  obtain ⟨g, cap, x, rfl, rfl, zg, cg⟩ := own_one ho5
  have hq := q4s_own (hr5.2 0 (by simp) (by simp))
  simp only [List.map_cons, List.map_nil, List.getElem_cons_zero] at hq
  rw [keeps_lap] at hq
  have HQ := Lib.hid hq
  have HA5 := Lib.hid ((hb5.block _ (blk_lt HA4.out)).trans HA4.out)
  have hW5 := below_trans hW4 hb5
  obtain ⟨xa, xm, xc, rfl, _⟩ := hq
  clear ho5 hr5 hb5 HI4 HB4 HA4 hW4 hb34 HW4 b0 b1 b2 b3 b4 z3 HB3 hW3 hb23 hb3 HI2 HB2 hW2
  have a0 := (blk_cell HA5.out 0).trans rfl
  have a1 := (blk_cell HA5.out 1).trans rfl
  have a2 := (blk_cell HA5.out 2).trans rfl
  simp only [List.getElem?_toArray, List.getElem?_cons_zero, List.getElem?_cons_succ] at a0 a1 a2
  have za := blk_lt HA5.out
  have hE := fun w => equalIn_arr3 800000 4800000 0 800000 4800000 0 w
  simp only [beq_self_eq_true, Bool.and_self] at hE
  obtain ⟨ps, Hps⟩ : ∃ ps : List Q4, Hid ([(-1, 0, 0, 0), (0, -1, 0, 0), (0, 0, -1, -1000), (0, 0, 1, 2000), (0, 1, 0, 4000), (1, 0, 0, 4000)] = ps) := ⟨_, Lib.hid rfl⟩
  go_wp2_with fail
  refine (SameCell_any _ _ ps ps _ ((by rw [← Hps.out]; exact HQ.out : Q4s w5 (.slice xa xm xc) ps).below (by (repeat (first | exact Below.refl _ _ | assumption | (refine below_trans ?_ (Ext.below _)) | (refine Below.trans ?_ ((Ext.below _).mono (by first | omega | (simp; omega)))) | (refine Below.alloc ?_ (by first | omega | (simp; done) | (simp; omega)) _) | (refine Below.setCell ?_ (by first | omega | (simp; done) | (simp; omega)) _) | (refine Below.drew ?_))))) (by rw [← Hps.out]; exact q4s_new [(-1, 0, 0, 0), (0, -1, 0, 0), (0, 0, -1, -1000), (0, 0, 1, 2000), (0, 1, 0, 4000), (1, 0, 0, 4000)] (by simp) rfl) (by rw [← Hps.out]; decide)).mono ?_
  rintro e w6 ⟨rfl, hb6⟩
  clear HQ
  have h6 := below_trans (show Below W.heap.size W _ from below_trans hW5 (by (repeat (first | exact Below.refl _ _ | assumption | (refine below_trans ?_ (Ext.below _)) | (refine Below.trans ?_ ((Ext.below _).mono (by first | omega | (simp; omega)))) | (refine Below.alloc ?_ (by first | omega | (simp; done) | (simp; omega)) _) | (refine Below.setCell ?_ (by first | omega | (simp; done) | (simp; omega)) _) | (refine Below.drew ?_))))) hb6
  go_wp2
  go_ret
  exact ⟨ret_bool (by simp), h6⟩
end Go.Proofs.YtfdgifcllelhiaaGreatDoor
/- The reference of joints: names, kinds, members; joint.KindName, KindOf, Members. -/
namespace Go.Proofs.YtfdgifcllelhiaaGreatDoor
open Go.RowKit Go.Shelf
attribute [local go_sem] Ext.cell Ext.frozen

set_option maxHeartbeats 400000 in
theorem bwithin_any (n lo hi : Int) (w : World) : Calls Tryz.prog 17 #[.int .i64 n, .int .i64 lo, .int .i64 hi] w fun e w' => e = .returned (.bool (decide (lo ≤ n ∧ n ≤ hi))) ∧ w = w' := by
  by_cases h1 : lo ≤ n
  · by_cases h2 : n ≤ hi
    · go_enter Tryz.func17, Tryz.ntmps17
      go_wp2
      go_ret
      exact ⟨ret_bool (by simp [h1, h2]), rfl⟩
    · go_enter Tryz.func17, Tryz.ntmps17
      go_wp2
      go_ret
      exact ⟨ret_bool (by simp [h2]), rfl⟩
  · go_enter Tryz.func17, Tryz.ntmps17
    go_wp2
    go_ret
    exact ⟨ret_bool (by simp; omega), rfl⟩

set_option maxHeartbeats 400000 in
theorem rIsKind_any (k : Int) (w : World) : Calls Tryz.prog 28 #[.int .i64 k] w fun e w' => e = .returned (.bool (decide (0 ≤ k ∧ k ≤ 10))) ∧ w = w' := by
  have h := fun w => Lib.hid (bwithin_any k 0 10 w)
  go_enter Tryz.func28, Tryz.ntmps28
  go_wp2_with fail
  refine ((h _).out).mono ?_
  rintro e w1 ⟨rfl, rfl⟩
  go_wp2
  go_ret
  exact ⟨ret_bool (by simp), rfl⟩

set_option maxHeartbeats 400000 in
theorem rMembers_any (k : Int) (w : World) : Calls Tryz.prog 18 #[.int .i64 k] w fun e w' => e = .returned (.int .i64 (memB k)) ∧ w = w' := by
  by_cases h : k = 10
  · subst h
    go_enter Tryz.func18, Tryz.ntmps18
    go_wp2
    go_ret
    exact ⟨rfl, rfl⟩
  · have h' : (k == 10) = false := by simpa using h
    go_enter Tryz.func18, Tryz.ntmps18
    go_wp2
    go_ret
    exact ⟨ret_int (by simp [memB, h]), rfl⟩

theorem rNames_any (w : World) : Calls Tryz.prog 29 #[] w fun e w' => e = .returned (.slice (some ⟨w.heap.size, 0, none⟩) 11 11) ∧ w' = w.alloc (.cells (nameB.map Value.string).toArray 9) := by
  go_enter Tryz.func29, Tryz.ntmps29
  go_wp2
  go_ret
  exact ⟨rfl, rfl⟩

/-- The kind with a name, or -1. -/
def kindS (s : ByteArray) : Int := Lib.idxOfS (nameB.take 11) s
theorem kindS_hit (s : ByteArray) (k : Nat) (hk : k < 11) (h : ∀ i, i < k → nameB.getD i ByteArray.empty ≠ s) (he : nameB.getD k ByteArray.empty = s) : kindS s = k :=
  Lib.idxOfS_hit nameB 11 k s hk (by decide) he h
theorem kindS_none (s : ByteArray) (h : ∀ i, i < 11 → nameB.getD i ByteArray.empty ≠ s) : kindS s = -1 := Lib.idxOfS_miss nameB 11 s h
set_option maxHeartbeats 1000000 in
theorem rKindOf_any (s : ByteArray) (w : World) : Calls Tryz.prog 27 #[.string s] w (Ret w (.int .i64 (kindS s))) := by
  have Hhit := Lib.hid (kindS_hit s)
  have Hno := Lib.hid (kindS_none s)
  generalize kindS s = res at *
  go_enter Tryz.func27, Tryz.ntmps27
  go_wp2_with fail
  refine (rNames_any _).mono ?_
  rintro e w1 ⟨rfl, rfl⟩
  have HC := Lib.hid (fun k (hk : k < 11) => name_cell (w := w) rfl hk)
  obtain ⟨W, HW⟩ : ∃ W, Hid (w.alloc (.cells (nameB.map Value.string).toArray 9) = W) := ⟨_, Lib.hid rfl⟩
  have hbW : Below w.heap.size w W := by rw [← HW.out]; (repeat (first | exact Below.refl _ _ | assumption | (refine below_trans ?_ (Ext.below _)) | (refine Below.trans ?_ ((Ext.below _).mono (by first | omega | (simp; omega)))) | (refine Below.alloc ?_ (by first | omega | (simp; done) | (simp; omega)) _) | (refine Below.setCell ?_ (by first | omega | (simp; done) | (simp; omega)) _) | (refine Below.drew ?_)))
  have zb : w.heap.size < W.heap.size := by rw [← HW.out]; simp
  rw [HW.out] at HC ⊢
  clear HW
  go_wp2
  go_loopw [4] (fun i wr => ∃ k : Nat, k ≤ 11 ∧ i = .int .i64 k ∧ wr = W ∧ Hid (∀ i, i < k → nameB.getD i ByteArray.empty ≠ s)) (fun i _ => 11 - (intOf i).toNat)
  case atStart => exact ⟨0, by omega, rfl, rfl, Lib.hid (fun i h => by omega)⟩
  case round =>
    obtain ⟨k, hk, rfl, rfl, Hz⟩ := hrel
    by_cases hlt : k < 11
    · have ck := HC.out k hlt
      have Hk := Lib.hid (Hhit.out k hlt Hz.out)
      have Hs : Hid (nameB.getD k ByteArray.empty ≠ s → ∀ i, i < k + 1 → nameB.getD i ByteArray.empty ≠ s) := Lib.hid (fun hne i h => by
        by_cases e : i = k
        · subst e; exact hne
        · exact Hz.out i (by omega))
      generalize nameB.getD k ByteArray.empty = x at *
      clear HC Hz
      have q1 : (k : Int) < 11 := by omega
      have q2 : (0 : Int) ≤ (k : Int) := by omega
      by_cases hx : x = s
      · have Hr := Lib.hid (Hk.out hx)
        subst hx
        go_wp2
        go_ret
        exact ⟨ret_int Hr.out.symm, hbW⟩
      · have hx' : (x.toList == s.toList) = false := (Lib.bytes_beq_false_iff x s).2 hx
        have Hx := Lib.hid hx
        clear hx
        go_wp2
        go_roundw
        case rel => exact ⟨k + 1, by omega, by go_num, by first | rfl | trivial, Lib.hid (Hs.out Hx.out)⟩
        case measure => simp [intOf]; omega
    · obtain rfl : k = 11 := by omega
      have Hy := Lib.hid (Hno.out Hz.out)
      clear HC
      go_wp2
      go_ret
      exact ⟨ret_int Hy.out.symm, hbW⟩

set_option maxHeartbeats 400000 in
theorem KindName_any (k : Int) (w : World) : Calls Tryz.prog 24 #[.int .i64 k] w (Ret w (.tuple #[.string (if 0 ≤ k ∧ k ≤ 10 then nameB.getD k.toNat ByteArray.empty else ⟨#[]⟩), .int .i64 (if 0 ≤ k ∧ k ≤ 10 then 0 else 17)])) := by
  have hi := fun W' => Lib.hid (isKind_any k W')
  by_cases hk : 0 ≤ k ∧ k ≤ 10
  · rw [show decide (0 ≤ k ∧ k ≤ 10) = true from decide_eq_true hk] at hi
    rw [if_pos hk, if_pos hk]
    obtain ⟨n, rfl⟩ : ∃ n : Nat, k = n := ⟨k.toNat, by omega⟩
    have q1 : (n : Int) < 11 := by omega
    have q2 : (0 : Int) ≤ (n : Int) := by omega
    have HC := name_cell (w := w) (g := w.heap.size) rfl (k := n) (by omega)
    rw [Int.toNat_natCast]
    generalize nameB.getD n ByteArray.empty = nm at *
    go_enter Tryz.func24, Tryz.ntmps24
    go_wp2_with fail
    refine ((hi _).out).mono ?_
    rintro e w1 ⟨rfl, rfl⟩
    go_wp2_with fail
    refine (names_any _).mono ?_
    rintro e w1 ⟨rfl, rfl⟩
    go_wp2
    refine bodyPost_ret (v := .tuple #[.string nm, .int .i64 0]) (by simp [results, Tryz.results24, go_sem]) rfl ⟨rfl, ?_⟩
    (repeat (first | exact Below.refl _ _ | assumption | (refine below_trans ?_ (Ext.below _)) | (refine Below.trans ?_ ((Ext.below _).mono (by first | omega | (simp; omega)))) | (refine Below.alloc ?_ (by first | omega | (simp; done) | (simp; omega)) _) | (refine Below.setCell ?_ (by first | omega | (simp; done) | (simp; omega)) _) | (refine Below.drew ?_)))
  · rw [show decide (0 ≤ k ∧ k ≤ 10) = false from decide_eq_false hk] at hi
    rw [if_neg hk, if_neg hk]
    go_enter Tryz.func24, Tryz.ntmps24
    go_wp2_with fail
    refine ((hi _).out).mono ?_
    rintro e w1 ⟨rfl, rfl⟩
    go_wp2
    refine bodyPost_ret (v := .tuple #[.string ⟨#[]⟩, .int .i64 17]) (by simp [results, Tryz.results24, go_sem]) rfl ⟨rfl, ?_⟩
    (repeat (first | exact Below.refl _ _ | assumption | (refine below_trans ?_ (Ext.below _)) | (refine Below.trans ?_ ((Ext.below _).mono (by first | omega | (simp; omega)))) | (refine Below.alloc ?_ (by first | omega | (simp; done) | (simp; omega)) _) | (refine Below.setCell ?_ (by first | omega | (simp; done) | (simp; omega)) _) | (refine Below.drew ?_)))

set_option maxHeartbeats 400000 in
theorem Members_any (k : Int) (w : World) : Calls Tryz.prog 25 #[.int .i64 k] w fun e w' => e = .returned (.tuple #[.int .i64 (if 0 ≤ k ∧ k ≤ 10 then memB k else 0), .int .i64 (if 0 ≤ k ∧ k ≤ 10 then 0 else 17)]) ∧ w = w' := by
  have hi := fun W' => Lib.hid (isKind_any k W')
  have hm := fun W' => Lib.hid (members_any k W')
  by_cases hk : 0 ≤ k ∧ k ≤ 10
  · rw [show decide (0 ≤ k ∧ k ≤ 10) = true from decide_eq_true hk] at hi
    rw [if_pos hk, if_pos hk]
    generalize memB k = m at *
    go_enter Tryz.func25, Tryz.ntmps25
    go_wp2_with fail
    refine ((hi _).out).mono ?_
    rintro e w1 ⟨rfl, rfl⟩
    go_wp2_with fail
    refine ((hm _).out).mono ?_
    rintro e w1 ⟨rfl, rfl⟩
    go_wp2
    refine bodyPost_ret (v := .tuple #[.int .i64 m, .int .i64 0]) (by simp [results, Tryz.results25, go_sem]) rfl ⟨rfl, ?_⟩
    rfl
  · rw [show decide (0 ≤ k ∧ k ≤ 10) = false from decide_eq_false hk] at hi
    rw [if_neg hk, if_neg hk]
    go_enter Tryz.func25, Tryz.ntmps25
    go_wp2_with fail
    refine ((hi _).out).mono ?_
    rintro e w1 ⟨rfl, rfl⟩
    go_wp2
    refine bodyPost_ret (v := .tuple #[.int .i64 0, .int .i64 17]) (by simp [results, Tryz.results25, go_sem]) rfl ⟨rfl, ?_⟩
    rfl

set_option maxHeartbeats 400000 in
theorem KindOf_any (s : ByteArray) (w : World) : Calls Tryz.prog 26 #[.string s] w (Ret w (.tuple #[.int .i64 (if kindS s < 0 then 0 else kindS s), .int .i64 (if kindS s < 0 then 6 else 0)])) := by
  have HI := Lib.hid (Tryz.slices_Index_string w.heap.size 0 11 11 nameB s (w.alloc (.cells (nameB.map Value.string).toArray 9)) (by decide) (by decide) (fun j hj => by rw [Nat.zero_add]; exact name_cell rfl hj))
  rw [show Lib.idxOfS (nameB.take 11) s = kindS s from rfl] at HI
  generalize kindS s = q at *
  by_cases hq : q < 0
  · rw [if_pos hq, if_pos hq]
    go_enter Tryz.func26, Tryz.ntmps26
    go_wp2_with fail
    refine (names_any _).mono ?_
    rintro e w1 ⟨rfl, rfl⟩
    go_wp2_with fail
    refine (HI.out).mono ?_
    rintro e w1 ⟨rfl, rfl⟩
    go_wp2
    refine bodyPost_ret (v := .tuple #[.int .i64 0, .int .i64 6]) (by simp [results, Tryz.results26, go_sem]) rfl ⟨rfl, ?_⟩
    (repeat (first | exact Below.refl _ _ | assumption | (refine below_trans ?_ (Ext.below _)) | (refine Below.trans ?_ ((Ext.below _).mono (by first | omega | (simp; omega)))) | (refine Below.alloc ?_ (by first | omega | (simp; done) | (simp; omega)) _) | (refine Below.setCell ?_ (by first | omega | (simp; done) | (simp; omega)) _) | (refine Below.drew ?_)))
  · rw [if_neg hq, if_neg hq]
    go_enter Tryz.func26, Tryz.ntmps26
    go_wp2_with fail
    refine (names_any _).mono ?_
    rintro e w1 ⟨rfl, rfl⟩
    go_wp2_with fail
    refine (HI.out).mono ?_
    rintro e w1 ⟨rfl, rfl⟩
    go_wp2
    refine bodyPost_ret (v := .tuple #[.int .i64 q, .int .i64 0]) (by simp [results, Tryz.results26, go_sem]) rfl ⟨rfl, ?_⟩
    (repeat (first | exact Below.refl _ _ | assumption | (refine below_trans ?_ (Ext.below _)) | (refine Below.trans ?_ ((Ext.below _).mono (by first | omega | (simp; omega)))) | (refine Below.alloc ?_ (by first | omega | (simp; done) | (simp; omega)) _) | (refine Below.setCell ?_ (by first | omega | (simp; done) | (simp; omega)) _) | (refine Below.drew ?_)))
end Go.Proofs.YtfdgifcllelhiaaGreatDoor
/- The law JointNames, walked. -/
namespace Go.Proofs.YtfdgifcllelhiaaGreatDoor
open Go.RowKit Go.Shelf
attribute [local go_sem] Ext.cell Ext.frozen

theorem kindS_ge (s : ByteArray) : -1 ≤ kindS s := by
  by_cases h : ∀ i, i < 11 → nameB.getD i ByteArray.empty ≠ s
  · rw [kindS_none s h]; omega
  · have : 0 ≤ kindS s := by
      unfold kindS
      rw [Lib.idxOfS_nonneg_iff]
      simp only [Classical.not_forall] at h
      obtain ⟨i, hi, he⟩ := h
      have hl : i < nameB.length := hi
      have e : nameB.getD i ByteArray.empty = nameB[i] := by simp [List.getD, hl]
      rw [e] at he
      have he' : nameB[i] = s := Classical.byContradiction he
      rw [← he']
      exact List.getElem_mem hl
    omega

set_option maxRecDepth 100000 in
set_option maxHeartbeats 4000000 in
theorem JointNames_any (k : Int) (s : ByteArray) (W : World) (htab : Lib.TabIs Tryz.prog W "internal/strconv.uint64pow10" .u64 Lib.pow10Tab) :
    Calls Tryz.prog 5 #[.int .i64 k, .string s] W (Ret W (.bool true)) := by
  have hA := Lib.hid (awake_any W htab)
  clear htab
  by_cases hs : 40 < s.size
  · have hs' : (40 : Int) < (s.size : Int) := by omega
    go_enter Tryz.func5, Tryz.ntmps5
    go_wp2_with fail
    refine (hA.out).mono ?_
    rintro e w1 ⟨rfl, hb1⟩
    go_wp2
    go_ret
    exact ⟨rfl, hb1⟩
  · have hs' : ¬ (40 : Int) < (s.size : Int) := by omega
    have hq1 := kindS_ge s
    have H3 := fun w => Lib.hid (KindOf_any s w)
    have H4 := fun w => Lib.hid (rKindOf_any s w)
    generalize kindS s = q at *
    have H1 := fun w => Lib.hid (KindName_any k w)
    have H2 := fun w => Lib.hid (Members_any k w)
    have H5 := fun w => Lib.hid (rIsKind_any k w)
    have H6 := fun w => Lib.hid (rMembers_any k w)
    clear hs
    by_cases hk : 0 ≤ k ∧ k ≤ 10
    · simp only [if_pos hk, decide_eq_true hk] at H1 H2 H5
      obtain ⟨n, rfl⟩ : ∃ n : Nat, k = n := ⟨k.toNat, by omega⟩
      have q1 : (n : Int) < 11 := by omega
      have q2 : (0 : Int) ≤ (n : Int) := by omega
      have HC := Lib.hid (fun w => name_cell (w := w) (g := w.heap.size) rfl (k := n) (by omega))
      simp only [Int.toNat_natCast] at H1
      generalize nameB.getD n ByteArray.empty = nm at *
      generalize memB n = mb at *
      by_cases hq : q < 0
      · simp only [if_pos hq] at H3
        go_enter Tryz.func5, Tryz.ntmps5
        go_wp2_with fail
        refine (hA.out).mono ?_
        rintro e w1 ⟨rfl, hb1⟩
        go_wp2_with fail
        refine ((H1 _).out).mono ?_
        rintro e w2 ⟨rfl, hb2⟩
        go_wp2_with fail
        refine ((H2 _).out).mono ?_
        rintro e w3 ⟨rfl, rfl⟩
        go_wp2_with fail
        refine ((H3 _).out).mono ?_
        rintro e w4 ⟨rfl, hb4⟩
        go_wp2_with fail
        refine ((H4 _).out).mono ?_
        rintro e w5 ⟨rfl, hb5⟩
        go_wp2_with fail
        refine ((H5 _).out).mono ?_
        rintro e w6 ⟨rfl, rfl⟩
        go_wp2_with fail
        refine (rNames_any _).mono ?_
        rintro e w7 ⟨rfl, rfl⟩
        have cn := HC.out w5
        go_wp2_with fail
        refine ((H6 _).out).mono ?_
        rintro e w8 ⟨rfl, rfl⟩
        go_wp2
        go_ret
        exact ⟨ret_bool (by simp), below_trans (below_trans (below_trans (below_trans hb1 hb2) hb4) hb5) (by (repeat (first | exact Below.refl _ _ | assumption | (refine below_trans ?_ (Ext.below _)) | (refine Below.trans ?_ ((Ext.below _).mono (by first | omega | (simp; omega)))) | (refine Below.alloc ?_ (by first | omega | (simp; done) | (simp; omega)) _) | (refine Below.setCell ?_ (by first | omega | (simp; done) | (simp; omega)) _) | (refine Below.drew ?_))))⟩
      · simp only [if_neg hq] at H3
        go_enter Tryz.func5, Tryz.ntmps5
        go_wp2_with fail
        refine (hA.out).mono ?_
        rintro e w1 ⟨rfl, hb1⟩
        go_wp2_with fail
        refine ((H1 _).out).mono ?_
        rintro e w2 ⟨rfl, hb2⟩
        go_wp2_with fail
        refine ((H2 _).out).mono ?_
        rintro e w3 ⟨rfl, rfl⟩
        go_wp2_with fail
        refine ((H3 _).out).mono ?_
        rintro e w4 ⟨rfl, hb4⟩
        go_wp2_with fail
        refine ((H4 _).out).mono ?_
        rintro e w5 ⟨rfl, hb5⟩
        have hq0 : (0 : Int) ≤ q := by omega
        go_wp2_with fail
        refine ((H5 _).out).mono ?_
        rintro e w6 ⟨rfl, rfl⟩
        go_wp2_with fail
        refine (rNames_any _).mono ?_
        rintro e w7 ⟨rfl, rfl⟩
        have cn := HC.out w5
        go_wp2_with fail
        refine ((H6 _).out).mono ?_
        rintro e w8 ⟨rfl, rfl⟩
        go_wp2
        go_ret
        exact ⟨ret_bool (by simp), below_trans (below_trans (below_trans (below_trans hb1 hb2) hb4) hb5) (by (repeat (first | exact Below.refl _ _ | assumption | (refine below_trans ?_ (Ext.below _)) | (refine Below.trans ?_ ((Ext.below _).mono (by first | omega | (simp; omega)))) | (refine Below.alloc ?_ (by first | omega | (simp; done) | (simp; omega)) _) | (refine Below.setCell ?_ (by first | omega | (simp; done) | (simp; omega)) _) | (refine Below.drew ?_))))⟩
    · simp only [if_neg hk, decide_eq_false hk] at H1 H2 H5
      clear H6
      by_cases hq : q < 0
      · simp only [if_pos hq] at H3
        go_enter Tryz.func5, Tryz.ntmps5
        go_wp2_with fail
        refine (hA.out).mono ?_
        rintro e w1 ⟨rfl, hb1⟩
        go_wp2_with fail
        refine ((H1 _).out).mono ?_
        rintro e w2 ⟨rfl, hb2⟩
        go_wp2_with fail
        refine ((H2 _).out).mono ?_
        rintro e w3 ⟨rfl, rfl⟩
        go_wp2_with fail
        refine ((H3 _).out).mono ?_
        rintro e w4 ⟨rfl, hb4⟩
        go_wp2_with fail
        refine ((H4 _).out).mono ?_
        rintro e w5 ⟨rfl, hb5⟩
        go_wp2_with fail
        refine ((H5 _).out).mono ?_
        rintro e w6 ⟨rfl, rfl⟩
        go_wp2
        go_ret
        exact ⟨rfl, below_trans (below_trans (below_trans hb1 hb2) hb4) hb5⟩
      · simp only [if_neg hq] at H3
        have hq0 : (0 : Int) ≤ q := by omega
        go_enter Tryz.func5, Tryz.ntmps5
        go_wp2_with fail
        refine (hA.out).mono ?_
        rintro e w1 ⟨rfl, hb1⟩
        go_wp2_with fail
        refine ((H1 _).out).mono ?_
        rintro e w2 ⟨rfl, hb2⟩
        go_wp2_with fail
        refine ((H2 _).out).mono ?_
        rintro e w3 ⟨rfl, rfl⟩
        go_wp2_with fail
        refine ((H3 _).out).mono ?_
        rintro e w4 ⟨rfl, hb4⟩
        go_wp2_with fail
        refine ((H4 _).out).mono ?_
        rintro e w5 ⟨rfl, hb5⟩
        go_wp2_with fail
        refine ((H5 _).out).mono ?_
        rintro e w6 ⟨rfl, rfl⟩
        go_wp2
        go_ret
        exact ⟨rfl, below_trans (below_trans (below_trans hb1 hb2) hb4) hb5⟩
end Go.Proofs.YtfdgifcllelhiaaGreatDoor
/- The ends of the rows: the listed table, the door's heap, what a law leaves. -/
namespace Go.Proofs.YtfdgifcllelhiaaGreatDoor
open Go.ChangeShapes Go.WideShapes Go.ChangeAt Go.WideMaps Go.WideElems Go.RowKit

theorem own : ownKnob Tryz.prog.godebug = none := by kernel_rfl
def laid3 : List (String × DataW Unit) := [("math/bits.deBruijn32tab", Rows.laid_math_bits_deBruijn32tab), ("math/bits.deBruijn64tab", Rows.laid_math_bits_deBruijn64tab), ("internal/strconv.uint64pow10", Rows.laid_internal_strconv_uint64pow10)]
set_option maxRecDepth 100000 in
theorem door_met (os : Os) (args : Array Value) : laidMetH Tryz.prog laid3 ((World.doorLaid Tryz.prog 400 os).forCall (fun _ _ => 0) ⟨#[], args, []⟩).memory :=
  laidMetH_of_parts3 (fuel := 8) (laidMet_of_run' 8 (by kernel_rfl) (by kernel_rfl)) (by kernel_rfl) (by kernel_rfl)

theorem und_bool : Tryz.prog.underlying 4 = some .bool := by kernel_rfl
theorem und_str : Tryz.prog.underlying 9 = some .string := by kernel_rfl
theorem tab_of_laid {W : World} (h : laidMetH Tryz.prog laid3 W) : Lib.TabIs Tryz.prog W "internal/strconv.uint64pow10" .u64 Lib.pow10Tab := by
  rw [MakeChecks.laidMetH_plain _ _ _ (by kernel_rfl)] at h
  exact Lib.tabIs_of_head (rest := []) (g := 0) (t := 265) (e := 221) (n := 20) (by kernel_rfl) (by kernel_rfl) (by kernel_rfl) (by kernel_rfl) (by kernel_rfl) (by kernel_rfl) h.tail.tail

/-- What a law leaves: true, and the arguments as they read. -/
theorem post_law {H : Type} {enc : TypeId × Value → H} {f : Func} {s : ChangeSpec} {W W' : World} {args : Array Value} {ds : List (DataW H)} {before : List MemPlace}
    (hW : DataW.Whole enc Tryz.prog f.params.toList s.vars false W args.toList ds [] before) (hv : s.vars = []) (hb : Below W.heap.size W W') (hr : f.resultTypes = #[4])
    (hfn : s.fn H (ds ++ []) = { results := [.lit (.bool true)], args := ds })
    (hargs : DataW.TrodAll enc Tryz.prog W' 0 (fun b => decide (b < W.heap.size)) true f.params.toList args.toList ds before) :
    s.post enc Tryz.prog f false true false false W args (.bool true) W' := by
  refine ⟨ds, [], before, [], before, [], hW, ?_, by rw [hfn]; exact hargs, by rw [hv, hfn]; first | rfl | trivial | exact ⟨rfl, rfl⟩, hb.frame _, fun h => by cases h⟩
  rw [hfn, hr]
  exact trodAll_mk1 (shut_bool und_bool _)
end Go.Proofs.YtfdgifcllelhiaaGreatDoor
/- The closed facts of the row jointNames, one by one. -/
namespace Go.Proofs.YtfdgifcllelhiaaGreatDoor
open Go
set_option maxRecDepth 100000
theorem jointNames_k1 : (Rows.jointNamesRow.wf (OpenSpec.ofChange Rows.jointNamesSpec) : Bool) = true := by kernel_rfl
theorem jointNames_k2 : (laidOutB Tryz.prog : Bool) = true := by kernel_rfl
theorem jointNames_k3 : (mapsRowed Tryz.prog : Bool) = true := by kernel_rfl
theorem jointNames_k4 : (Tryz.f5.params.all (Tryz.prog.readableRec ·) : Bool) = true := by kernel_rfl
theorem jointNames_k5 : (namedTie Tryz.prog Rows.jointNamesRow.named Rows.jointNamesSpec.vars : Bool) = true := by kernel_rfl
theorem jointNames_k6 : ((Rows.jointNamesRow.stops == []) : Bool) = true := by kernel_rfl
theorem jointNames_k7 : ((Tryz.prog.stops == []) : Bool) = true := by kernel_rfl
theorem jointNames_k8 : ((Rows.jointNamesRow.knobs == []) : Bool) = true := by kernel_rfl
theorem jointNames_k9 : ((Tryz.prog.stopKnobs == []) : Bool) = true := by kernel_rfl
theorem jointNames_k10 : ((Rows.jointNamesRow.inPlace == Tryz.prog.inPlace 5) : Bool) = true := by kernel_rfl
theorem jointNames_k11 : ((Rows.jointNamesRow.unfollowed == Tryz.prog.unfollowed 5) : Bool) = true := by kernel_rfl
theorem jointNames_k12 : ((Rows.jointNamesRow.recurses == Tryz.prog.recurses 5) : Bool) = true := by kernel_rfl
theorem jointNames_k13 : ((Rows.jointNamesRow.named == Tryz.prog.varsNamed 5) : Bool) = true := by kernel_rfl
theorem jointNames_k14 : ((Rows.jointNamesRow.maps == (Tryz.f5.params.toList ++ Rows.jointNamesSpec.plain.varTypes Tryz.prog).any (Tryz.prog.mapsRec ·)) : Bool) = true := by kernel_rfl
theorem jointNames_k15 : ((Rows.jointNamesRow.ifaces == (Tryz.f5.params.toList ++ Rows.jointNamesSpec.plain.varTypes Tryz.prog).any (Tryz.prog.ifacesRec ·)) : Bool) = true := by kernel_rfl
theorem jointNames_k16 : ((Rows.jointNamesRow.mapsOut == Tryz.prog.mapsAmong Tryz.f5.resultTypes.toList) : Bool) = true := by kernel_rfl
theorem jointNames_k17 : ((Rows.jointNamesRow.loops == (Tryz.f5.params.toList ++ Rows.jointNamesSpec.plain.varTypes Tryz.prog).any (Tryz.prog.loopsFrom ·)) : Bool) = true := by kernel_rfl
theorem jointNames_k18 : ((Rows.jointNamesRow.wideKeys == (Tryz.f5.params.toList ++ Rows.jointNamesSpec.plain.varTypes Tryz.prog ++ Tryz.f5.resultTypes.toList).any (Tryz.prog.wideKeysFrom ·)) : Bool) = true := by kernel_rfl
theorem jointNames_k19 : (Rows.jointNamesSpec.vars.all (Tryz.prog.varReadable ·) : Bool) = true := by kernel_rfl
theorem jointNames_k20 : (Tryz.f5.resultTypes.all (fun t => Tryz.prog.readableRec t && decide (t < Tryz.prog.types.size)) : Bool) = true := by kernel_rfl
theorem jointNames_k21 : ((Rows.jointNamesRow.ifacesOut == Tryz.f5.resultTypes.toList.any (Tryz.prog.ifacesRec ·)) : Bool) = true := by kernel_rfl
theorem jointNames_k22 : ((Rows.jointNamesRow.loopsOut == Tryz.f5.resultTypes.toList.any (Tryz.prog.loopsFrom ·)) : Bool) = true := by kernel_rfl
theorem jointNames_k23 : ((Rows.jointNamesRow.plainKeys == Tryz.prog.plainKeys) : Bool) = true := by kernel_rfl
theorem jointNames_k24 : (Rows.jointNamesRow.shortTexts.isNone : Bool) = true := by kernel_rfl
theorem jointNames_k25 : (Tryz.prog.stopsHeard : Bool) = true := by kernel_rfl
theorem jointNames_k26 : (Tryz.prog.mayEnter : Bool) = true := by kernel_rfl
theorem jointNames_k27 : ((Rows.jointNamesRow.lifted == Tryz.prog.liftsFinal) : Bool) = true := by kernel_rfl
theorem jointNames_k28 : ((Tryz.prog.make == some Rows.jointNamesRow.make) : Bool) = true := by kernel_rfl
theorem jointNames_k29 : ((Rows.jointNamesRow.kinds == (if Rows.jointNamesRow.domain.isEmpty then [] else Tryz.f5.params.toList.map fun t => match Tryz.prog.underlying t with | some (.int k) => some k | _ => none)) : Bool) = true := by kernel_rfl
theorem jointNames_k30 : ((Rows.jointNamesRow.pinned == Rows.jointNamesRow.pinnedBy) : Bool) = true := by kernel_rfl
theorem jointNames_k31 : ((Rows.jointNamesRow.veiled == (Tryz.f5.params.toList ++ Rows.jointNamesSpec.plain.varTypes Tryz.prog ++ Tryz.f5.resultTypes.toList).any (Tryz.prog.veiledRec ·)) : Bool) = true := by kernel_rfl
theorem jointNames_k32 : (Rows.jointNamesRow.veiledFits Tryz.prog Tryz.f5.params.toList (Tryz.f5.params.toList ++ Rows.jointNamesSpec.plain.varTypes Tryz.prog ++ Tryz.f5.resultTypes.toList) : Bool) = true := by kernel_rfl
theorem jointNames_and {a b : Bool} (h : a = true) (k : b = true) : (a && b) = true := by rw [h, k]; rfl
theorem jointNames_closed : joinedFacts Tryz.prog 5 Tryz.f5 Rows.jointNamesSpec Rows.jointNamesRow = true := by
  unfold joinedFacts
  exact jointNames_and (jointNames_and (jointNames_and (jointNames_and (jointNames_and (jointNames_and (jointNames_and (jointNames_and (jointNames_and (jointNames_and (jointNames_and (jointNames_and (jointNames_and (jointNames_and (jointNames_and (jointNames_and (jointNames_and (jointNames_and (jointNames_and (jointNames_and (jointNames_and (jointNames_and (jointNames_and (jointNames_and (jointNames_and (jointNames_and (jointNames_and (jointNames_and (jointNames_and (jointNames_and (jointNames_and jointNames_k1 jointNames_k2) jointNames_k3) jointNames_k4) jointNames_k5) jointNames_k6) jointNames_k7) jointNames_k8) jointNames_k9) jointNames_k10) jointNames_k11) jointNames_k12) jointNames_k13) jointNames_k14) jointNames_k15) jointNames_k16) jointNames_k17) jointNames_k18) jointNames_k19) jointNames_k20) jointNames_k21) jointNames_k22) jointNames_k23) jointNames_k24) jointNames_k25) jointNames_k26) jointNames_k27) jointNames_k28) jointNames_k29) jointNames_k30) jointNames_k31) jointNames_k32
end Go.Proofs.YtfdgifcllelhiaaGreatDoor
