/- texts of mine, merged: HA, HB, HC, HD, HE, HF. -/
import Derived.Test.YtjglkglaogaenaaGreatDoorGBA
import Derived.Test.YtjglkglaogaenaaGreatDoorGAS
import Derived.Test.YtjglkglaogaenaaGreatDoorGE
import Derived.Test.YtjglkglaogaenaaGreatDoorGAX
import Derived.Test.YtjglkglaogaenaaGreatDoorGAT
import Derived.Test.YtjglkglaogaenaaGreatDoorGAZ
import Derived.Test.YtjglkglaogaenaaGreatDoorGAU
/- The reference: Turned; a way turned. -/
namespace Go.Proofs.YtjglkglaogaenaaGreatDoor
section
open Go.RowKit Go.Shelf
set_option linter.unusedSimpArgs false
attribute [local go_sem] Ext.cell Ext.frozen
theorem image_t (t : T6) (h : okT t) (v : Q3) (w : World) (hv : bdV 1000000 v) : Calls Tryz.prog 156 #[vT t, .agg #[.int .i64 v.1, .int .i64 v.2.1, .int .i64 v.2.2]] w (Ret w (.agg #[.int .i64 (ofT t v).1, .int .i64 (ofT t v).2.1, .int .i64 (ofT t v).2.2])) := by
  obtain ⟨⟨p0, p1, p2⟩, ⟨s0, s1, s2⟩⟩ := t
  obtain ⟨⟨a0, a1, a2⟩, b0, b1, b2⟩ := h
  simp only at a0 a1 a2 b0 b1 b2
  obtain ⟨n0, h0, rfl⟩ := nat3 a0
  obtain ⟨n1, h1, rfl⟩ := nat3 a1
  obtain ⟨n2, h2, rfl⟩ := nat3 a2
  obtain ⟨x, y, z⟩ := v
  exact image_any n0 n1 n2 s0 s1 s2 x y z w h0 h1 h2 b0 b1 b2 hv.1 hv.2.1 hv.2.2
set_option maxRecDepth 100000 in
set_option maxHeartbeats 2000000 in
theorem rTurned01_any (n x y z : Int) (W : World) (hn : 0 ≤ n ∧ n < 48) (hB : bdV 1000000 (x, y, z)) :
    Calls Tryz.prog 91 #[.agg #[.int .i64 x, .int .i64 y, .int .i64 z], .int .i64 n] W (Ret W (vW (ofT (turnN n) (x, y, z)))) := by
  obtain ⟨m, rfl⟩ : ∃ m : Nat, n = m := ⟨n.toNat, by omega⟩
  have hm : m < 48 := by omega
  have hm' : m < all48.length := by rw [all_len]; exact hm
  have HT : Hid (turnN m = all48[m]) := Lib.hid (by unfold turnN; rw [Int.toNat_natCast, List.getD_eq_getElem?_getD, List.getElem?_eq_getElem hm']; rfl)
  have hok := turnN_ok m
  have HC := fun W' => Lib.hid (image_t (turnN m) hok (x, y, z) W' hB)
  have HA := fun W' => Lib.hid (rturns_any W')
  have Hlen : Hid (all48.length = 48) := Lib.hid all_len
  have Hat : Hid (∀ (w : World) (v : Value), IsTs W.heap.size 176 v w → ∃ g cap, v = .slice (some ⟨g, 0, none⟩) 48 cap ∧ 48 ≤ cap ∧ T6At w g (m * 6) (turnN m)) := Lib.hid (fun w v h => by
    obtain ⟨g, cap, h1, h2, h3⟩ := t6_at h m hm'
    rw [Hlen.out] at h1 h2
    rw [HT.out]
    exact ⟨g, cap, h1, h2, h3⟩)
  simp only [vW, vT] at HC ⊢
  clear HT hok
  generalize turnN (m : Int) = tt at *
  obtain ⟨⟨p0, p1, p2⟩, s0, s1, s2⟩ := tt
  generalize ofT ((p0, p1, p2), s0, s1, s2) (x, y, z) = res at *
  obtain ⟨r0, r1, r2⟩ := res
  simp only at HC ⊢
  clear hB hn hm'
  have q1 : (m : Int) < 48 := by omega
  obtain ⟨V, HV⟩ : ∃ V, Hid ((W.alloc (.cells #[.int .i64 x, .int .i64 y, .int .i64 z] 22)).alloc (.cells #[.int .i64 0, .int .i64 0, .int .i64 0] 22) = V) := ⟨_, Lib.hid rfl⟩
  have hV : Below W.heap.size W V := by rw [← HV.out]; (repeat (first | exact brf | assumption | refine ble ?_ | refine blx ?_ | refine bla ?_ | refine bls ?_ | refine bld ?_))
  have HB : Hid (V.heap[W.heap.size]? = some (.cells #[.int .i64 x, .int .i64 y, .int .i64 z] 22 (0, 0))) := Lib.hid (by rw [← HV.out]; exact (heap_old (by simp)).trans (heap_new rfl))
  have HR : Hid (V.heap[W.heap.size + 1]? = some (.cells #[.int .i64 0, .int .i64 0, .int .i64 0] 22 (0, 0))) := Lib.hid (by rw [← HV.out]; exact heap_new (by simp))
  obtain ⟨b0, b1, b2, fb, zb⟩ := blk3 HB.out
  have zr := blk_lt HR.out
  go_enter Tryz.func91, Tryz.ntmps91
  go_wp2
  rw [HV.out]
  clear HV
  refine wp_region_grow [0, 1, 2, 3, 4, 5] 6 [] (pick [IsTs W.heap.size 176, IsV (.int .i64 (m : Int)), IsTp (m * 6) ((p0, p1, p2), s0, s1, s2), IsV (.agg #[.int .i64 p0, .int .i64 p1, .int .i64 p2, .int .i64 s0, .int .i64 s1, .int .i64 s2]), IsV (.agg #[.int .i64 x, .int .i64 y, .int .i64 z]), IsV (.agg #[.int .i64 r0, .int .i64 r1, .int .i64 r2])]) (by kernel_rfl) (by kernel_rfl) (Stabs.pick (by repeat (first | exact Stabs.nil | refine Stabs.cons (by first | exact stab_v _ | exact stab_ts _ _ | exact stab_tp _ _) ?_))) ?_
  try go_frame
  refine wgs rfl rfl (by simp) (fun w' hb' hR K hK => ?_) (fun o0 => ?_)
  · clear hR
    go_simp
    refine ((HA _).out).mono ?_
    rintro e w9 ⟨r, rfl, hb9, ho⟩
    exact hK _ _ hb9 (own_mono ho (Nat.le_trans hV.size hb'.size))
  try go_frame
  refine wgs rfl rfl (by simp) (fun w' hb' hR K hK => ?_) (fun o1 => ?_)
  · clear hR
    go_simp
    exact hK _ _ (Below.refl _ _) rfl
  try go_frame
  refine wgs rfl rfl (by simp) (fun w' hb' hR K hK => ?_) (fun o2 => ?_)
  · have h0 : (IsTs W.heap.size 176) o0 w' := hR 0 (by kernel_rfl)
    obtain rfl : o1 = .int .i64 (m : Int) := hR 1 (by kernel_rfl)
    clear hR
    obtain ⟨g, cap, rfl, hcap, hat⟩ := Hat.out _ _ h0
    have hzz := World.block_lt_of_cell? _ _ hat.1
    have Hat2 := Lib.hid hat
    clear hat
    go_simp
    exact hK _ _ (Below.refl _ _) ⟨g, rfl, Hat2.out⟩
  try go_frame
  refine wgs rfl rfl (by simp) (fun w' hb' hR K hK => ?_) (fun o3 => ?_)
  · have h2 : (IsTp (m * 6) ((p0, p1, p2), s0, s1, s2)) o2 w' := hR 2 (by kernel_rfl)
    clear hR
    obtain ⟨g, rfl, a0, a1, a2, a3, a4, a5⟩ := h2
    have hzz := World.block_lt_of_cell? _ _ a0
    simp only at a0 a1 a2 a3 a4 a5
    go_simp
    exact hK _ _ (Below.refl _ _) rfl
  try go_frame
  refine wgs rfl rfl (by simp) (fun w' hb' hR K hK => ?_) (fun o4 => ?_)
  · clear hR
    have cc0 := below_cell hb' b0
    have cc1 := below_cell hb' b1
    have cc2 := below_cell hb' b2
    have hzz := Nat.lt_of_lt_of_le zb hb'.size
    go_simp
    exact hK _ _ (Below.refl _ _) rfl
  try go_frame
  refine wgs rfl rfl (by simp) (fun w' hb' hR K hK => ?_) (fun o5 => ?_)
  · obtain rfl : o3 = .agg #[.int .i64 p0, .int .i64 p1, .int .i64 p2, .int .i64 s0, .int .i64 s1, .int .i64 s2] := hR 3 (by kernel_rfl)
    obtain rfl : o4 = .agg #[.int .i64 x, .int .i64 y, .int .i64 z] := hR 4 (by kernel_rfl)
    clear hR
    go_simp
    refine ((HC _).out).mono ?_
    rintro e w1 ⟨rfl, hb1⟩
    exact hK _ _ hb1 rfl
  try go_frame
  refine wpG_nil (fun w' hb' hR => ?_)
  obtain rfl : o5 = _ := hR 5 (by simp)
  clear hR
  clear HA HC Hat Hlen
  have HR2 := Lib.hid ((hb'.block _ zr).trans HR.out)
  obtain ⟨e0, e1, e2, fe, ze⟩ := blk3 HR2.out
  simp only [opsAt, List.filterMap_cons, List.filterMap_nil, List.getElem?_toArray, List.getElem?_cons_zero, List.getElem?_cons_succ]
  go_wp2
  refine NoPanic.normal ?_
  go_wp2
  refine bodyPost_ret (v := .agg #[.int .i64 r0, .int .i64 r1, .int .i64 r2]) (by simp [results, Tryz.results91, go_sem, e0, e1, e2]) rfl ⟨rfl, ?_⟩
  have hw9 := below_trans hV hb'
  exact Below.setCell (Below.setCell (Below.setCell hw9 (by simp) _) (by simp) _) (by simp) _
/-- A way turned. -/
theorem rTurned_way (n : Int) (v : Q3) (W : World) (hn : 0 ≤ n ∧ n < 48) (hv : bdV 1000000 v) :
    Calls Tryz.prog 43 #[vW v, .int .i64 n] W (Ret W (vW (ofT (turnN n) v))) := by
  obtain ⟨x, y, z⟩ := v
  have HT := fun W' => Lib.hid (rTurned01_any n x y z W' hn hv)
  generalize ofT (turnN n) (x, y, z) = res at *
  obtain ⟨r0, r1, r2⟩ := res
  simp only [vW] at HT ⊢
  clear hn hv
  go_enter Tryz.func43, Tryz.ntmps43
  go_wp2_with fail
  refine ((HT _).out).mono ?_
  rintro e w1 ⟨rfl, hb1⟩
  have hw1 := below_trans (below_trans (show Below W.heap.size W (W.alloc (.cells #[.int .i64 x, .int .i64 y, .int .i64 z] 69)) by (repeat (first | exact brf | assumption | refine ble ?_ | refine blx ?_ | refine bla ?_ | refine bls ?_ | refine bld ?_))) (show Below (W.alloc (.cells #[.int .i64 x, .int .i64 y, .int .i64 z] 69)).heap.size _ _ by (repeat (first | exact brf | assumption | refine ble ?_ | refine blx ?_ | refine bla ?_ | refine bls ?_ | refine bld ?_)))) hb1
  have HR := Lib.hid ((hb1.block (W.heap.size + 1) (by simp)).trans (heap_new (by simp)))
  obtain ⟨e0, e1, e2, fe, ze⟩ := blk3 HR.out
  clear hb1
  go_wp2
  refine bodyPost_ret (v := .agg #[.int .i64 r0, .int .i64 r1, .int .i64 r2]) (by simp [results, Tryz.results43, go_sem, e0, e1, e2, ze]) rfl ⟨rfl, ?_⟩
  (repeat (first | exact brf | assumption | refine ble ?_ | refine blx ?_ | refine bla ?_ | refine bls ?_ | refine bld ?_))
end
/- slices.SortFunc at the ways. -/
section
open Go.RowKit Go.Shelf Go.Sort Go.Lib
attribute [local go_sem] Ext.cell Ext.frozen
def cmpW (a b : Q3) : Int := orL [sgn a.1 b.1, sgn a.2.1 b.2.1, sgn a.2.2 b.2.2]
theorem cmpW_neg (p q : Q3) : cmpW p q < 0 ↔ p.1 < q.1 ∨ (p.1 = q.1 ∧ (p.2.1 < q.2.1 ∨ (p.2.1 = q.2.1 ∧ p.2.2 < q.2.2))) := by
  unfold cmpW
  rw [orL3_neg, sgn_neg_iff, sgn_zero_iff, sgn_neg_iff, sgn_zero_iff, sgn_neg_iff]
set_option maxHeartbeats 1000000 in
theorem compareWays_any (x y z x' y' z' : Int) (w : World) :
    Calls Tryz.prog 93 #[.agg #[.int .i64 x, .int .i64 y, .int .i64 z], .agg #[.int .i64 x', .int .i64 y', .int .i64 z']] w fun e w' => e = .returned (.int .i64 (cmpW (x, y, z) (x', y', z'))) ∧ ∃ n os, w' = Go.Sort.grow (w.drewN n) os := by
  go_enter Tryz.func93, Tryz.ntmps93
  go_wp2
  refine wp_region_tailD 15 (by kernel_rfl) (by kernel_rfl) ?_
  simp only [List.take_succ_cons, List.take_zero, List.drop_succ_cons, List.drop_zero]
  repeat (first | go_big_quiet_step ((go_at_call 160; exact Calls.quiet_of_same ((compare_any _ _ _).mono fun _ _ ⟨h, k⟩ => ⟨h, k.symm⟩))) | quiet_step ((go_at_call 160; exact Calls.quiet_of_same ((compare_any _ _ _).mono fun _ _ ⟨h, k⟩ => ⟨h, k.symm⟩))))
  refine wpQuiet_nil ?_
  rintro _ ⟨nq, rfl⟩
  go_wp2_with fail
  refine (or3_any _ _ _ _ _ _ (by simp)).mono ?_
  rintro e w' ⟨rfl, rfl⟩
  go_wp2
  go_ret
  exact ⟨rfl, nq, _, grow3 _ _ _ _ _⟩
theorem ltW (x y : Q3) : ltOf cmpW x y = decide (cmpW x y < 0) := rfl
theorem swoW : SWO (ltOf cmpW) where
  irrefl x := by rw [ltW, decide_eq_false_iff_not, cmpW_neg]; omega
  trans x y z h1 h2 := by
    rw [ltW, decide_eq_true_eq, cmpW_neg] at *
    omega
  ntrans x y z h1 h2 := by
    rw [ltW, decide_eq_false_iff_not, cmpW_neg] at *
    omega
theorem totW (x y : Q3) (h1 : ltOf cmpW x y = false) (h2 : ltOf cmpW y x = false) : x = y := by
  rw [ltW, decide_eq_false_iff_not, cmpW_neg] at h1 h2
  obtain ⟨a, b, c⟩ := x
  obtain ⟨a', b', c'⟩ := y
  simp only at h1 h2
  have : a = a' ∧ b = b' ∧ c = c' := by omega
  obtain ⟨rfl, rfl, rfl⟩ := this
  rfl
theorem enc3_one (x : Q3) : ∀ v ∈ enc3 x, v.oneCell' = true := fun v hv => by simp [enc3] at hv; rcases hv with rfl | rfl | rfl <;> rfl
theorem isAgg_way : ∀ w, (isAgg 69).run Tryz.prog w = .ok true w := fun _ => by kernel_rfl
theorem sizeOf_way : ∀ w, (Go.sizeOf 69).run Tryz.prog w = .ok 3 w := fun _ => by kernel_rfl
theorem eg_cmpW : ∀ args w, (callFunc 93 args).run Tryz.prog w = .ok (.enter 93 args) w := enters_of Tryz.func93 (by kernel_rfl) rfl
theorem cmpLays_w (blk off size : Nat) (w : World) : CmpLays Tryz.prog 93 #[] enc3 3 cmpW blk off size w := fun _ _ _ _ x y => by
  obtain ⟨x0, x1, x2⟩ := x
  obtain ⟨y0, y1, y2⟩ := y
  exact compareWays_any x0 x1 x2 y0 y1 y2 _
/-- Ways in their order. -/
def sortW (ps : List Q3) : List Q3 := ps.mergeSort (fun x y => !decide (cmpW y x < 0))
theorem sortW_len (ps : List Q3) : (sortW ps).length = ps.length := by simp [sortW]
theorem sortWays_any (ps : List Q3) (base n : Nat) (v : Value) (w : World) (hn : ps.length = n) (hs : n < 4611686018427387904)
    (hown : w.ownsRow base 69 3 v n (ps.flatMap enc3)) :
    Calls Tryz.prog 92 #[v, .func (.func 93) #[] #[]] w fun e w' =>
      e = .returned (.tuple #[]) ∧ w'.ownsRow base 69 3 v n ((sortW ps).flatMap enc3) ∧ w.grownBy w' v.ownBlock := by
  by_cases h0 : 0 < n
  · obtain ⟨g, cap, rfl, _, hg⟩ := own_form hown h0
    have hd : ps.toArray.size = n := by simp [hn]
    have hcon := AnyQ.slices_SortFunc_total Tryz.sortWay 3 isAgg_way sizeOf_way enc3 enc3_len enc3_one cmpW swoW 93 #[] g 0 cap ps.toArray w eg_cmpW (cmpLays_w _ _ _ _)
      (own_holdsK enc3 (by decide) enc3_len _ hd (by simpa using hown)) hg (by rw [hd]; exact hs) totW
    rw [hd] at hcon
    refine Calls.mono (show Calls Tryz.prog 92 _ _ _ from hcon) ?_
    rintro e w' ⟨rfl, m, os, rfl⟩
    have hsz : (List.mergeSort ps fun x y => !ltOf cmpW y x).toArray.size = n := by simp [hn]
    obtain ⟨h1, h2⟩ := own_sorted (m := m) (os := os) enc3 (by decide) enc3_len _ hsz hown
    exact ⟨rfl, h1, h2⟩
  · obtain rfl : n = 0 := by omega
    have hnil : ps = [] := List.length_eq_zero_iff.1 hn
    subst hnil
    have hf : ∃ a cap, v = .slice a 0 cap := by
      rcases hown.2 with ⟨rfl, _⟩ | ⟨g, cap, cur, rfl, _⟩
      · exact ⟨_, _, rfl⟩
      · exact ⟨_, _, rfl⟩
    obtain ⟨a, cap, rfl⟩ := hf
    refine Calls.mono (show Calls Tryz.prog 92 _ _ _ from AnyF.slices_SortFunc_none Tryz.sortWay a cap _ w) ?_
    rintro e w' ⟨rfl, rfl⟩
    exact ⟨rfl, by simpa [sortW] using hown, ⟨rfl, rfl, rfl, Nat.le_refl _, fun _ _ _ => rfl⟩⟩
end
/- Plain: the turned ways, in their order. -/
section
open Go.RowKit
theorem w_anti {x y : Q3} (h1 : ¬ cmpW y x < 0) (h2 : ¬ cmpW x y < 0) : x = y := totW x y (by rw [ltW]; simpa using h2) (by rw [ltW]; simpa using h1)
theorem w_tri {x y : Q3} (h1 : ¬ cmpW y x < 0) (h2 : x ≠ y) : cmpW x y < 0 := Classical.byContradiction fun h => h2 (w_anti h1 h)
theorem w_irr (x : Q3) : ¬ cmpW x x < 0 := by rw [cmpW_neg]; omega
theorem w_asymm {x y : Q3} (h : cmpW x y < 0) : ¬ cmpW y x < 0 := by rw [cmpW_neg] at *; omega
theorem sortedW_ext : ∀ {l1 l2 : List Q3}, l1.Pairwise (fun x y => cmpW x y < 0) → l2.Pairwise (fun x y => cmpW x y < 0) → (∀ x, x ∈ l1 ↔ x ∈ l2) → l1 = l2
  | [], [], _, _, _ => rfl
  | [], b :: l2, _, _, h => by have := (h b).2 (by simp); cases this
  | a :: l1, [], _, _, h => by have := (h a).1 (by simp); cases this
  | a :: l1, b :: l2, h1, h2, h => by
    rw [List.pairwise_cons] at h1 h2
    have e : a = b := by
      rcases List.mem_cons.1 ((h a).1 (by simp)) with e | ha
      · exact e
      · rcases List.mem_cons.1 ((h b).2 (by simp)) with e | hb
        · exact e.symm
        · exact absurd (h1.1 b hb) (w_asymm (h2.1 a ha))
    subst e
    rw [sortedW_ext h1.2 h2.2 (fun x => ?_)]
    constructor
    · intro hx
      rcases List.mem_cons.1 ((h x).1 (List.mem_cons_of_mem _ hx)) with e | h3
      · subst e; exact absurd (h1.1 _ hx) (w_irr _)
      · exact h3
    · intro hx
      rcases List.mem_cons.1 ((h x).2 (List.mem_cons_of_mem _ hx)) with e | h3
      · subst e; exact absurd (h2.1 _ hx) (w_irr _)
      · exact h3
theorem sortW_pair (ps : List Q3) : (sortW ps).Pairwise (fun x y => ¬ cmpW y x < 0) := by
  have := List.pairwise_mergeSort (le := fun x y : Q3 => !decide (cmpW y x < 0))
    (fun a b c h1 h2 => by
      simp only [Bool.not_eq_true', decide_eq_false_iff_not, cmpW_neg] at *
      omega)
    (fun a b => by
      simp only [Bool.or_eq_true, Bool.not_eq_true', decide_eq_false_iff_not, cmpW_neg] at *
      omega) ps
  refine List.Pairwise.imp ?_ this
  intro a b h
  simpa using h
theorem ways_sorted : ways26.Pairwise (fun x y => cmpW x y < 0) := by decide +kernel
theorem ways_nodup : ways26.Nodup := ways_sorted.imp fun h e => by subst e; exact w_irr _ h
/-- The turned ways of those with a property, in their order. -/
def atL (t : T6) (p : Q3 → Bool) : List Q3 := ways26.filter (fun u => (ways26.filter p).any (fun v => ofT t v == u))
theorem sort_at {t : T6} (ht : t ∈ all48) (p : Q3 → Bool) : sortW ((ways26.filter p).map (ofT t)) = atL t p := by
  have hnd : ((ways26.filter p).map (ofT t)).Nodup := by
    unfold List.Nodup
    rw [List.pairwise_map]
    refine List.Pairwise.imp_of_mem ?_ (List.Pairwise.filter p ways_nodup)
    intro a b ha hb hab e
    exact hab (turn_inj t ht a (List.mem_filter.1 ha).1 b (List.mem_filter.1 hb).1 e)
  refine sortedW_ext ?_ (List.Pairwise.filter _ ways_sorted) fun x => ?_
  · have h1 := sortW_pair ((ways26.filter p).map (ofT t))
    have h2 : (sortW ((ways26.filter p).map (ofT t))).Nodup := (List.mergeSort_perm _ _).nodup_iff.2 hnd
    exact (List.pairwise_and_iff.2 ⟨h1, h2⟩).imp fun h => w_tri h.1 h.2
  · unfold sortW atL
    simp only [List.mem_mergeSort, List.mem_map, List.mem_filter, List.any_eq_true, beq_iff_eq]
    constructor
    · rintro ⟨v, ⟨hv, hp⟩, rfl⟩
      exact ⟨turn_ways t ht v hv, v, ⟨hv, hp⟩, rfl⟩
    · rintro ⟨_, v, ⟨hv, hp⟩, rfl⟩
      exact ⟨v, ⟨hv, hp⟩, rfl⟩
/-- What the reference adds for a way. -/
def hitL (t : T6) (p : Q3 → Bool) (u : Q3) (vs : List Q3) : List Q3 := (vs.filter (fun v => p v && ofT t v == u)).map (fun _ => u)
theorem hit_one {t : T6} (ht : t ∈ all48) (p : Q3 → Bool) (u : Q3) : hitL t p u ways26 = if (ways26.filter p).any (fun v => ofT t v == u) then [u] else [] := by
  have key : ∀ l : List Q3, l.Nodup → (∀ v ∈ l, v ∈ ways26) → hitL t p u l = if (l.filter p).any (fun v => ofT t v == u) then [u] else [] := by
    intro l
    induction l with
    | nil => intro _ _; rfl
    | cons a l ih =>
      intro hn hm
      rw [List.nodup_cons] at hn
      have ih' := ih hn.2 (fun v hv => hm v (by simp [hv]))
      by_cases hp : p a = true
      · by_cases he : ofT t a = u
        · have hno : hitL t p u l = [] := by
            unfold hitL
            rw [List.map_eq_nil_iff, List.filter_eq_nil_iff]
            intro v hv h
            simp only [Bool.and_eq_true, beq_iff_eq] at h
            have := turn_inj t ht v (hm v (by simp [hv])) a (hm a (by simp)) (h.2.trans he.symm)
            exact hn.1 (this ▸ hv)
          have : hitL t p u (a :: l) = u :: hitL t p u l := by simp [hitL, hp, he]
          rw [this, hno]
          simp [hp, he]
        · have : hitL t p u (a :: l) = hitL t p u l := by simp [hitL, he]
          rw [this, ih', List.filter_cons_of_pos hp, List.any_cons, beq_eq_false_iff_ne.2 he, Bool.false_or]
      · have hp' : p a = false := by simpa using hp
        have : hitL t p u (a :: l) = hitL t p u l := by simp [hitL, hp']
        rw [this, ih', List.filter_cons_of_neg (by simp [hp'])]
  exact key ways26 ways_nodup fun _ h => h
theorem flat_at {t : T6} (ht : t ∈ all48) (p : Q3 → Bool) : ways26.flatMap (fun u => hitL t p u ways26) = atL t p := by
  have : ∀ l : List Q3, l.flatMap (fun u => hitL t p u ways26) = l.filter (fun u => (ways26.filter p).any (fun v => ofT t v == u)) := by
    intro l
    induction l with
    | nil => rfl
    | cons a l ih =>
      rw [List.flatMap_cons, ih, hit_one ht p a]
      cases h : (ways26.filter p).any (fun v => ofT t v == a)
      · rw [List.filter_cons_of_neg (by rw [h]; simp)]; rfl
      · have e := List.filter_cons_of_pos (p := fun u => (ways26.filter p).any (fun v => ofT t v == u)) (a := a) (l := l) h
        rw [e]; rfl
  exact this ways26
end
/- The reference: FreeAt. -/
section
open Go.RowKit Go.Shelf
set_option linter.unusedSimpArgs false
attribute [local go_sem] Ext.cell Ext.frozen
def accL (t : T6) (p : Q3 → Bool) (i : Nat) : List Q3 := (ways26.take i).flatMap (fun u => hitL t p u ways26)
theorem acc_succ (t : T6) (p : Q3 → Bool) (i : Nat) (h : i < ways26.length) : accL t p (i + 1) = accL t p i ++ hitL t p ways26[i] ways26 := by
  unfold accL
  rw [List.take_succ_eq_append_getElem h, List.flatMap_append]
  simp
theorem acc_all {t : T6} (ht : t ∈ all48) (p : Q3 → Bool) : accL t p 26 = atL t p := by
  unfold accL
  rw [show ways26.take 26 = ways26 from rfl]
  exact flat_at ht p
theorem hit_succ (t : T6) (p : Q3 → Bool) (u : Q3) (k : Nat) (h : k < ways26.length) : hitL t p u (ways26.take (k + 1)) = hitL t p u (ways26.take k) ++ if p ways26[k] && ofT t ways26[k] == u then [u] else [] := by
  unfold hitL
  rw [List.take_succ_eq_append_getElem h, List.filter_append, List.map_append]
  congr 1
  cases hp : (p ways26[k] && ofT t ways26[k] == u) <;> simp [hp]
theorem hit_len (t : T6) (p : Q3 → Bool) (u : Q3) (l : List Q3) : (hitL t p u l).length ≤ l.length := by
  unfold hitL
  rw [List.length_map]
  exact List.length_filter_le _ _
theorem acc_len (t : T6) (p : Q3 → Bool) (i : Nat) : (accL t p i).length ≤ 26 * 26 := by
  have key : ∀ l : List Q3, (l.flatMap (fun u => hitL t p u ways26)).length ≤ 26 * l.length := by
    intro l
    induction l with
    | nil => simp
    | cons a l ih =>
      rw [List.flatMap_cons, List.length_append, List.length_cons]
      have := hit_len t p a ways26
      rw [show ways26.length = 26 from rfl] at this
      omega
  have h1 := key (ways26.take i)
  have h2 : (ways26.take i).length ≤ 26 := by rw [List.length_take, show ways26.length = 26 from rfl]; omega
  unfold accL
  omega
theorem ways_bdV {v : Q3} (h : v ∈ ways26) : bdV 1000000 v := by
  obtain ⟨h1, h2, h3, _⟩ := ways_bd v h
  exact ⟨by omega, by omega, by omega⟩
theorem eq_way (a b c x y z : Int) : (((a, b, c) : Q3) == (x, y, z)) = (a == x && (b == y && c == z)) := rfl
set_option maxRecDepth 100000 in
set_option maxHeartbeats 8000000 in
theorem rFreeAt_any (k0 l w t m n : Int) (nv : Value) (ns : List Int) (p : Q3 → Bool) (W : World) (hns : Ints W nv ns) (hn : 0 ≤ n ∧ n < 48)
    (HI : ∀ v W', v ∈ ways26 → Below W.heap.size W W' → Calls Tryz.prog 83 #[vJ k0 l w t nv, .int .i64 m, vW v] W' (Ret W' (.bool (p v)))) :
    Calls Tryz.prog 45 #[vJ k0 l w t nv, .int .i64 m, .int .i64 n] W (RetW W (atL (turnN n) p)) := by
  obtain ⟨i0, hi0, hz0, hz1, hz2⟩ := info_parts info_way
  have Hi0 := Lib.hid (And.intro hi0 (And.intro hz0 (And.intro hz1 hz2)))
  clear hi0 hz0 hz1 hz2
  obtain ⟨a, q, c, rfl, _, _, _⟩ := hns
  have htm : turnN n ∈ all48 := by
    unfold turnN
    have : n.toNat < all48.length := by rw [all_len]; omega
    rw [List.getD_eq_getElem?_getD, List.getElem?_eq_getElem this]
    exact List.getElem_mem this
  have HI' := fun v hv W' h => Lib.hid (HI v W' hv h)
  have HR' := fun v hv W' => Lib.hid (rTurned_way n v W' hn (ways_bdV hv))
  have Hfin := Lib.hid (acc_all htm p)
  have Hac := fun i h => Lib.hid (acc_succ (turnN n) p i h)
  have Hhi := fun u k h => Lib.hid (hit_succ (turnN n) p u k h)
  have Hal := fun i => Lib.hid (acc_len (turnN n) p i)
  have Hhl := fun u k => Lib.hid (show (hitL (turnN n) p u (ways26.take k)).length ≤ 26 from Nat.le_trans (hit_len _ _ _ _) (by rw [List.length_take, show ways26.length = 26 from rfl]; omega))
  have H0 : Hid (accL (turnN n) p 0 = []) := Lib.hid rfl
  have Hh0 := fun u => Lib.hid (show hitL (turnN n) p u (ways26.take 0) = [] from rfl)
  have Hh26 := fun u => Lib.hid (show hitL (turnN n) p u (ways26.take 26) = hitL (turnN n) p u ways26 from rfl)
  have Hmem := Lib.hid (fun i (h : i < ways26.length) => List.getElem_mem h)
  have Hlen : Hid (ways26.length = 26) := Lib.hid rfl
  have hrw := fun W' => Lib.hid (rWays_any W')
  generalize atL (turnN n) p = res at *
  generalize accL (turnN n) p = acc at *
  generalize hitL (turnN n) p = hit at *
  generalize turnN n = tt at *
  generalize ways26 = ws at *
  clear HI htm hn
  unfold vJ at *
  obtain ⟨V, HV⟩ : ∃ V, Hid (W.alloc (.cells #[.int .i64 k0, .int .i64 l, .int .i64 w, .int .i64 t, .slice a q c] 25) = V) := ⟨_, Lib.hid rfl⟩
  have hV : Below W.heap.size W V := by rw [← HV.out]; (repeat (first | exact brf | assumption | refine ble ?_ | refine blx ?_ | refine bla ?_ | refine bls ?_ | refine bld ?_))
  have HJ : Hid (V.heap[W.heap.size]? = some (.cells #[.int .i64 k0, .int .i64 l, .int .i64 w, .int .i64 t, .slice a q c] 25 (0, 0))) := Lib.hid (by rw [← HV.out]; exact heap_new rfl)
  go_enter Tryz.func45, Tryz.ntmps45
  go_wp2_with fail
  rw [HV.out]
  refine ((hrw _).out).mono ?_
  rintro e w1 ⟨r, rfl, hb1, ho⟩
  obtain ⟨ra, rn, rc, rfl, hrl, _, hrx⟩ := q3s_own ho
  have HX := Lib.hid hrx
  have Hrn : Hid (rn = 26) := Lib.hid (by have := Hlen.out; omega)
  have hrb : rn ≤ 100 := by have := Hrn.out; omega
  have hj1 : Hid (w1.heap[W.heap.size]? = some (.cells #[.int .i64 k0, .int .i64 l, .int .i64 w, .int .i64 t, .slice a q c] 25 (0, 0))) := Lib.hid ((hb1.block _ (blk_lt HJ.out)).trans HJ.out)
  have hw1 := below_trans hV hb1
  clear ho hrx hb1 HJ hrw HV
  go_wp2
  go_loopw [8, 9] (fun s x wr => ∃ i : Nat, i ≤ rn ∧ x = .int .i64 i ∧ Below w1.heap.size w1 wr ∧ Hid (wr.ownsRow w1.heap.size 69 3 s (acc i).length ((acc i).flatMap enc3))) (fun _ x _ => rn - (intOf x).toNat)
  case atStart => exact ⟨0, by omega, rfl, Below.refl _ _, Lib.hid (by rw [H0.out]; exact World.ownsRow_nil _ _ _ _)⟩
  case round =>
    obtain ⟨i, hi, rfl, hb, HO⟩ := hrel
    by_cases hlt : i < rn
    · have hil : i < ws.length := by omega
      have Hac' := Hac i hil
      have t1 : (i : Int) < (rn : Int) := by omega
      have t1' : (0 : Int) ≤ (i : Int) := by omega
      go_wp2
      go_loopw [8, 10] (fun s x wr => ∃ k : Nat, k ≤ rn ∧ x = .int .i64 k ∧ Below w1.heap.size w1 wr ∧ Hid (wr.ownsRow w1.heap.size 69 3 s (acc i ++ hit ws[i] (ws.take k)).length ((acc i ++ hit ws[i] (ws.take k)).flatMap enc3))) (fun _ x _ => rn - (intOf x).toNat)
      case atStart => exact ⟨0, by omega, rfl, hb, Lib.hid (by rw [(Hh0 _).out, List.append_nil]; exact HO.out)⟩
      case round =>
        clear hb HO
        obtain ⟨k, hk, rfl, hb, HO⟩ := hrel
        by_cases hlk : k < rn
        · have hkl : k < ws.length := by omega
          have t2 : (k : Int) < (rn : Int) := by omega
          have t2' : (0 : Int) ≤ (k : Int) := by omega
          have Hsn := Hhi ws[i] k hkl
          have hmem := Hmem.out k hkl
          have hacl := (Hal i).out
          have hhl := (Hhl ws[i] k).out
          obtain ⟨b, off, rfl, hx⟩ := HX.out (by omega)
          obtain ⟨c0, c1, c2⟩ := (hx.below hb) k hkl
          obtain ⟨d0, d1, d2⟩ := (hx.below hb) i hil
          have HJw : Hid (wr.heap[W.heap.size]? = _) := Lib.hid ((hb.block _ (blk_lt hj1.out)).trans hj1.out)
          obtain ⟨j0, j1, j2, j3, j4, _, zj⟩ := blk5 HJw.out
          have z1 := World.block_lt_of_cell? wr _ c0
          simp only at z1
          have hww := below_trans hw1 hb
          have HC := fun W' h => Lib.hid ((HI' ws[k] hmem W' h).out)
          have HR := fun W' => Lib.hid ((HR' ws[k] hmem W').out)
          generalize hit ws[i] (ws.take k) = Y at *
          generalize ws[k] = x at *
          generalize ws[i] = u at *
          generalize acc i = X at *
          obtain ⟨x0, x1, x2⟩ := x
          obtain ⟨u0, u1, u2⟩ := u
          generalize ofT tt (x0, x1, x2) = rr at *
          obtain ⟨r0, r1, r2⟩ := rr
          simp only [vW] at HC HR c0 c1 c2 d0 d1 d2
          clear hx HI' HR' HX Hmem Hhi Hac Hal Hhl H0 Hh0 Hh26 Hfin hmem
          cases hfx : p (x0, x1, x2) with
          | false =>
            rw [hfx] at HC
            have Hsn' : Hid (hit (u0, u1, u2) (ws.take (k + 1)) = Y) := Lib.hid (by rw [Hsn.out, hfx]; simp)
            clear Hsn hfx
            go_wp2
            refine wp_region_quietB (by kernel_rfl) (by kernel_rfl) ?_
            repeat (first | go_big_quiet_step ((first | (go_at_call 83; exact quietB_ret ((HC _ (below_trans hww (Ext.below _))).out)) | (go_at_call 43; exact quietB_ret ((HR _).out)))) | quiet_step ((first | (go_at_call 83; exact quietB_ret ((HC _ (below_trans hww (Ext.below _))).out)) | (go_at_call 43; exact quietB_ret ((HR _).out)))))
            refine wpQuiet_nil ?_
            rintro _ ⟨u, rfl⟩
            go_wp2
            go_roundw
            case rel => exact ⟨k + 1, by omega, by go_num, below_trans hb u.below, Lib.hid (by rw [Hsn'.out]; exact own_below HO.out u.below)⟩
            case measure => first | (simp [intOf]; done) | (simp [intOf]; omega)
          | true =>
            rw [hfx] at HC
            by_cases e0 : r0 = u0
            · subst e0
              by_cases e1 : r1 = u1
              · subst e1
                by_cases e2 : r2 = u2
                · subst e2
                  have Hsn' : Hid (hit (r0, r1, r2) (ws.take (k + 1)) = Y ++ [(r0, r1, r2)]) := Lib.hid (by rw [Hsn.out, hfx]; simp)
                  clear Hsn hfx
                  go_wp2
                  refine wp_region_quietB (by kernel_rfl) (by kernel_rfl) ?_
                  repeat (first | go_big_quiet_step ((first | (go_at_call 83; exact quietB_ret ((HC _ (below_trans hww (Ext.below _))).out)) | (go_at_call 43; exact quietB_ret ((HR _).out)))) | quiet_step ((first | (go_at_call 83; exact quietB_ret ((HC _ (below_trans hww (Ext.below _))).out)) | (go_at_call 43; exact quietB_ret ((HR _).out)))))
                  refine wpQuiet_nil ?_
                  rintro _ ⟨u, rfl⟩
                  have zd := World.block_lt_of_cell? wr _ d0
                  simp only at zd
                  have f0 := (u.cell (a := ⟨b, off + i * 3, none⟩) zd).trans d0
                  have f1 := (u.cell (a := ⟨b, off + i * 3 + 1, none⟩) zd).trans d1
                  have f2 := (u.cell (a := ⟨b, off + i * 3 + 2, none⟩) zd).trans d2
                  have zu := Nat.lt_of_lt_of_le z1 u.size
                  have hbu : Below w1.heap.size w1 u.val := below_trans hb u.below
                  have HOu := Lib.hid (own_below HO.out u.below)
                  have hl2 : (X ++ Y).length ≤ 702 := by rw [List.length_append]; omega
                  clear HO c0 c1 c2 d0 d1 d2 j0 j1 j2 j3 j4 HC HR
                  generalize u.val = wu at *
                  obtain ⟨Z, HZ0⟩ : ∃ Z, X ++ Y = Z := ⟨_, rfl⟩
                  have HZ : Hid (X ++ (Y ++ [(r0, r1, r2)]) = Z ++ [(r0, r1, r2)]) := Lib.hid (by rw [← HZ0, List.append_assoc])
                  rw [HZ0] at HOu hl2
                  clear HZ0
                  go_wp2_with (at_builtin; refine wpList_append_own _ rfl _ _ 54 rfl w1.heap.size 69 i0 (vW (0, 0, 0)) 3 24 und_ways Hi0.out.1 Hi0.out.2.1 Hi0.out.2.2.1 Hi0.out.2.2.2 rfl (by decide) _ (Z.length) _ rfl (HOu.out.alloc _) ⟨wu.heap.size, 0, none⟩ 1 1 (enc3 ((r0, r1, r2))) rfl rfl ?c1 ?c2 ?c3 ?c4 ?c5 ?_)
                  case c1 =>
                    intro jj uu hu
                    rw [add0, cell_new rfl jj]
                    simpa [enc3] using hu
                  case c2 => intro v hv; simp [enc3] at hv; rcases hv with rfl | rfl | rfl <;> rfl
                  case c3 => unfold maxLen; omega
                  case c4 => omega
                  case c5 => simp; have := hbu.size; omega
                  intro v' w2 hown2 hg2 _
                  have hb2 : Below w1.heap.size w1 w2 := (hbu.alloc hbu.size _).grown hg2 (by simp; have := hbu.size; omega) (fun z hz => by have := (HOu.out.lt z hz).1; omega)
                  have HO2 := Lib.hid hown2
                  clear hown2 hg2
                  go_wp2
                  go_roundw
                  case rel => exact ⟨k + 1, by omega, by go_num, hb2, Lib.hid (by rw [Hsn'.out, HZ.out]; simpa using HO2.out)⟩
                  case measure => first | (simp [intOf]; done) | (simp [intOf]; omega)
                · have Hsn' : Hid (hit (r0, r1, u2) (ws.take (k + 1)) = Y) := Lib.hid (by rw [Hsn.out, hfx]; simp [e2])
                  clear Hsn hfx
                  go_wp2
                  refine wp_region_quietB (by kernel_rfl) (by kernel_rfl) ?_
                  repeat (first | go_big_quiet_step ((first | (go_at_call 83; exact quietB_ret ((HC _ (below_trans hww (Ext.below _))).out)) | (go_at_call 43; exact quietB_ret ((HR _).out)))) | quiet_step ((first | (go_at_call 83; exact quietB_ret ((HC _ (below_trans hww (Ext.below _))).out)) | (go_at_call 43; exact quietB_ret ((HR _).out)))))
                  refine wpQuiet_nil ?_
                  rintro _ ⟨u, rfl⟩
                  go_wp2
                  go_roundw
                  case rel => exact ⟨k + 1, by omega, by go_num, below_trans hb u.below, Lib.hid (by rw [Hsn'.out]; exact own_below HO.out u.below)⟩
                  case measure => first | (simp [intOf]; done) | (simp [intOf]; omega)
              · have Hsn' : Hid (hit (r0, u1, u2) (ws.take (k + 1)) = Y) := Lib.hid (by rw [Hsn.out, hfx]; simp [e1])
                clear Hsn hfx
                go_wp2
                refine wp_region_quietB (by kernel_rfl) (by kernel_rfl) ?_
                repeat (first | go_big_quiet_step ((first | (go_at_call 83; exact quietB_ret ((HC _ (below_trans hww (Ext.below _))).out)) | (go_at_call 43; exact quietB_ret ((HR _).out)))) | quiet_step ((first | (go_at_call 83; exact quietB_ret ((HC _ (below_trans hww (Ext.below _))).out)) | (go_at_call 43; exact quietB_ret ((HR _).out)))))
                refine wpQuiet_nil ?_
                rintro _ ⟨u, rfl⟩
                go_wp2
                go_roundw
                case rel => exact ⟨k + 1, by omega, by go_num, below_trans hb u.below, Lib.hid (by rw [Hsn'.out]; exact own_below HO.out u.below)⟩
                case measure => first | (simp [intOf]; done) | (simp [intOf]; omega)
            · have Hsn' : Hid (hit (u0, u1, u2) (ws.take (k + 1)) = Y) := Lib.hid (by rw [Hsn.out, hfx]; simp [e0])
              clear Hsn hfx
              go_wp2
              refine wp_region_quietB (by kernel_rfl) (by kernel_rfl) ?_
              repeat (first | go_big_quiet_step ((first | (go_at_call 83; exact quietB_ret ((HC _ (below_trans hww (Ext.below _))).out)) | (go_at_call 43; exact quietB_ret ((HR _).out)))) | quiet_step ((first | (go_at_call 83; exact quietB_ret ((HC _ (below_trans hww (Ext.below _))).out)) | (go_at_call 43; exact quietB_ret ((HR _).out)))))
              refine wpQuiet_nil ?_
              rintro _ ⟨u, rfl⟩
              go_wp2
              go_roundw
              case rel => exact ⟨k + 1, by omega, by go_num, below_trans hb u.below, Lib.hid (by rw [Hsn'.out]; exact own_below HO.out u.below)⟩
              case measure => first | (simp [intOf]; done) | (simp [intOf]; omega)
        · obtain rfl : k = rn := by omega
          have t2 : ¬ (k : Int) < (k : Int) := by omega
          go_wp2
          go_roundw
          case rel => exact ⟨i + 1, by omega, by go_num, hb, Lib.hid (by rw [Hac'.out, ← (Hh26 _).out, ← Hrn.out]; exact HO.out)⟩
          case measure => first | (simp [intOf]; done) | (simp [intOf]; omega)
    · obtain rfl : i = rn := by omega
      have t1 : ¬ (i : Int) < (i : Int) := by omega
      go_wp2
      go_ret
      exact ⟨_, rfl, below_trans hw1 hb, own_mono (by rw [← Hfin.out, ← Hrn.out]; exact HO.out) hw1.size⟩
end
/- An owned row of ways, an element replaced. -/
section
open Go.RowKit Go.Shelf
theorem own_set3 {w : World} {base g cap : Nat} {T : TypeId} {xs : List Q3} (h : w.ownsRow base T 3 (.slice (some ⟨g, 0, none⟩) xs.length cap) xs.length (xs.flatMap enc3)) {k : Nat} (hk : k < xs.length) (a b c : Int) :
    (((w.setCell ⟨g, k * 3, none⟩ (.int .i64 a)).setCell ⟨g, k * 3 + 1, none⟩ (.int .i64 b)).setCell ⟨g, k * 3 + 2, none⟩ (.int .i64 c)).ownsRow base T 3 (.slice (some ⟨g, 0, none⟩) xs.length cap) xs.length ((xs.set k (a, b, c)).flatMap enc3) := by
  rcases h.2 with ⟨h0, _⟩ | ⟨g', cap', cur, e, hb, hh, hc, hm, hcs, ht⟩
  · cases h0
  · cases e
    have h1 := blk_set (blk_set (blk_set hh (k * 3) (.int .i64 a)) (k * 3 + 1) (.int .i64 b)) (k * 3 + 2) (.int .i64 c)
    have hlen : ∀ ys : List Q3, (ys.flatMap enc3).length = ys.length * 3 := fun ys => by
      induction ys with
      | nil => rfl
      | cons y ys ih => rw [List.flatMap_cons, List.length_append, ih, List.length_cons, enc3_len]; omega
    refine ⟨by rw [hlen, List.length_set], .inr ⟨g, cap, _, rfl, hb, h1, hc, hm, by simpa using hcs, ?_⟩⟩
    refine List.ext_getElem? fun j => ?_
    have hj0 : ∀ j, j < xs.length * 3 → cur[j]? = (xs.flatMap enc3)[j]? := fun j hj => by
      rw [← ht, List.getElem?_take_of_lt hj, Array.getElem?_toList]
    by_cases hj : j < xs.length * 3
    · rw [List.getElem?_take_of_lt hj, Array.getElem?_toList]
      obtain ⟨i, r, hr, rfl⟩ : ∃ i r, r < 3 ∧ j = i * 3 + r := ⟨j / 3, j % 3, by omega, by omega⟩
      have hi : i < xs.length := by omega
      have hi' : i < (xs.set k (a, b, c)).length := by rw [List.length_set]; exact hi
      rw [flat_get enc3 3 enc3_len (xs.set k (a, b, c)) i hi' r hr, List.getElem_set]
      have hsz : cur.size = cap * 3 := hcs
      by_cases hik : k = i
      · subst hik
        rw [if_pos rfl]
        rcases (by omega : r = 0 ∨ r = 1 ∨ r = 2) with rfl | rfl | rfl
        · simp [Array.getElem?_setIfInBounds, enc3]; omega
        · simp [Array.getElem?_setIfInBounds, enc3]; omega
        · simp [Array.getElem?_setIfInBounds, enc3]; omega
      · rw [if_neg hik, ← flat_get enc3 3 enc3_len xs i hi r hr, ← hj0 _ hj]
        simp only [Array.getElem?_setIfInBounds]
        rw [if_neg (by omega), if_neg (by omega), if_neg (by omega)]
    · rw [List.getElem?_eq_none (by simp; omega), List.getElem?_eq_none (by rw [hlen, List.length_set]; omega)]
end
/- joint: FreeAt. -/
section
open Go.RowKit Go.Shelf
set_option linter.unusedSimpArgs false
attribute [local go_sem] Ext.cell Ext.frozen
/-- A setting. -/
def vS (a b c n : Int) : Value := .agg #[.int .i64 a, .int .i64 b, .int .i64 c, .int .i64 n]
set_option maxRecDepth 100000 in
set_option maxHeartbeats 4000000 in
theorem FreeAt_bad (k l w t m ce a b c n : Int) (nv : Value) (ns : List Int) (W : World) (hn : Ints W nv ns) (hl : ns.length ≤ 1000000) (hce : memE (chkE k l w t ns) k m ns = ce) (h0 : ce ≠ 0) :
    Calls Tryz.prog 44 #[vJ k l w t nv, .int .i64 m, vS a b c n] W (Ret W (.tuple #[.slice none 0 0, .int .i64 ce])) := by
  have H1 := fun W' h => Lib.hid (Free_bad k l w t m ce nv ns W' (hn.below (w' := W') h) hl hce h0)
  have hne : (ce != 0) = true := by simpa using h0
  obtain ⟨ad, q, cc, rfl, _, _, _⟩ := hn
  clear hce hl
  unfold vJ vS at *
  go_enter Tryz.func44, Tryz.ntmps44
  go_wp2_with fail
  refine ((H1 _ (by (repeat (first | exact brf | assumption | refine ble ?_ | refine blx ?_ | refine bla ?_ | refine bls ?_ | refine bld ?_)))).out).mono ?_
  rintro e w1 ⟨rfl, hb1⟩
  go_wp2
  refine bodyPost_ret (v := .tuple #[.slice none 0 0, .int .i64 ce]) (by simp [results, Tryz.results44, go_sem]) rfl ⟨rfl, ?_⟩
  exact below_trans (by (repeat (first | exact brf | assumption | refine ble ?_ | refine blx ?_ | refine bla ?_ | refine bls ?_ | refine bld ?_))) hb1
theorem jT_x (n : Int) : jTurnE n 1 0 0 = if 0 ≤ n ∧ n < 48 then 0 else 2 := by
  unfold jTurnE
  have h : withinB (-1) 1 [1, 0, 0] = true := by decide
  rw [h]
  by_cases hn : 0 ≤ n ∧ n < 48
  · rw [if_pos ⟨rfl, hn⟩, if_neg (by simp), if_pos hn]
  · rw [if_neg (fun h => hn h.2), if_neg hn]
set_option maxRecDepth 100000 in
set_option maxHeartbeats 4000000 in
theorem FreeAt_turn (k l w t m a b c n : Int) (nv : Value) (ns : List Int) (W : World) (hn : Ints W nv ns) (h0 : chkE k l w t ns = 0) (hm : memE 0 k m ns = 0) (ht : ¬ (0 ≤ n ∧ n < 48)) :
    Calls Tryz.prog 44 #[vJ k l w t nv, .int .i64 m, vS a b c n] W (Ret W (.tuple #[.slice none 0 0, .int .i64 2])) := by
  have H1 := fun W' h => Lib.hid (Free_ok k l w t m nv ns W' (hn.below (w' := W') h) h0 hm)
  have HT := fun W' => Lib.hid (jTurned_any 1 0 0 n W')
  have e2 : jTurnE n 1 0 0 = 2 := by rw [jT_x, if_neg ht]
  simp only [jTurnV, e2, show ¬ ((2 : Int) = 0) by decide, if_false, vW] at HT
  generalize freeL k w ns m = fl at *
  obtain ⟨ad, q, cc, rfl, _, _, _⟩ := hn
  clear h0 hm ht e2
  unfold vJ vS at *
  go_enter Tryz.func44, Tryz.ntmps44
  go_wp2_with fail
  refine ((H1 _ (by (repeat (first | exact brf | assumption | refine ble ?_ | refine blx ?_ | refine bla ?_ | refine bls ?_ | refine bld ?_)))).out).mono ?_
  rintro e w1 ⟨r, rfl, hb1, ho⟩
  have HS := Lib.hid ((hb1.block (W.heap.size + 1) (by simp)).trans (heap_new (by simp)))
  have s0 := (blk_cell HS.out 0).trans rfl
  have s1 := (blk_cell HS.out 1).trans rfl
  have s2 := (blk_cell HS.out 2).trans rfl
  have s3 := (blk_cell HS.out 3).trans rfl
  simp only [List.getElem?_toArray, List.getElem?_cons_zero, List.getElem?_cons_succ] at s0 s1 s2 s3
  have zs := blk_lt HS.out
  have hw1 : Below W.heap.size W w1 := (show Below W.heap.size W _ by (repeat (first | exact brf | assumption | refine ble ?_ | refine blx ?_ | refine bla ?_ | refine bls ?_ | refine bld ?_))).trans (hb1.mono (by simp; omega))
  clear ho
  go_wp2_with fail
  refine ((HT _).out).mono ?_
  rintro e w2 ⟨rfl, hb2⟩
  go_wp2
  refine bodyPost_ret (v := .tuple #[.slice none 0 0, .int .i64 2]) (by simp [results, Tryz.results44, go_sem]) rfl ⟨rfl, ?_⟩
  have hw2 := below_trans hw1 hb2
  exact hw2.alloc hw2.size _
end
end Go.Proofs.YtjglkglaogaenaaGreatDoor
