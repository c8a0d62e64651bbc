/- texts of mine, merged: F6, F7. -/
import Derived.Test.YtjglkglaogaenaaGreatDoorGAT
import Derived.Test.YtjglkglaogaenaaGreatDoorGAS
import Derived.Test.YtjglkglaogaenaaGreatDoorGN
import Derived.RangeFuncBox
import Derived.RangeFuncFrom
import Derived.RangeFuncWrites
import Derived.Maps.AppendAt
import Derived.Test.YtjglkglaogaenaaGreatDoorGS
/- joint: free. -/
namespace Go.Proofs.YtjglkglaogaenaaGreatDoor
section
open Go.RowKit Go.Shelf
attribute [local go_sem] Oper.semAt_some
theorem blkS_own {β : Type} (B : Nat) (cs : β → Array Value) (T : TypeId) : Own (fun s W => W.heap[B]? = some (.cells (cs s) T (0, 0))) := fun s X Y row hs hg hrow =>
  (hg.block B (blk_lt hs) (fun e => by obtain ⟨o, ho, hc⟩ := hrow B e.symm; rw [hs] at ho; cases ho; cases hc)).trans hs
theorem ways_stops (n : Nat) (hn : 1 ≤ n) (n₀ : Nat) (w : World) : SeqStopsK Fence.wide n Tryz.prog 140 #[] (fun x : WayS => #[vW x.1]) (Below n₀) (fun xs => xs.map Subtype.val = ways26) (fun _ => True) 26 w := fun l J Jx W _ hJ _ hY h0 => by
  have := ways_in l J Jx W hJ n hn n₀ hY W h0
  simpa using this
def filS (p : Q3 → Bool) (pre : List WayS) : List Q3 := (pre.map Subtype.val).filter p
theorem filS_hit (p : Q3 → Bool) (pre : List WayS) {x : WayS} (h : p x.1 = true) : filS p (pre ++ [x]) = filS p pre ++ [x.1] := by simp [filS, h]
theorem filS_miss (p : Q3 → Bool) (pre : List WayS) {x : WayS} (h : p x.1 = false) : filS p (pre ++ [x]) = filS p pre := by simp [filS, h]
theorem filS_len (p : Q3 → Bool) (pre : List WayS) : (filS p pre).length ≤ pre.length := by
  unfold filS
  exact Nat.le_trans (List.length_filter_le _ _) (by simp)
theorem neg_mem6 : ∀ v ∈ ways26, neg3 v ∈ ways26 := by decide
theorem keeps_below {B : Nat} {X Y : World} (h : Below X.heap.size X Y) : KeepsFrom B X Y := ⟨h.size, fun k _ _ hk _ => (h.block k (blk_lt hk)).trans hk⟩
theorem blk_app {X w3 : World} {g base size k : Nat} {cs : Array Value} {T e : TypeId} {v : Value} {xs : List Value} {tmp : Obj} (h : X.heap[g]? = some (.cells cs T (0, 0))) (hT : e ≠ T) (hrow : X.ownsRow base e size v k xs) (hgrow : (X.alloc tmp).grownBy w3 v.ownBlock)
    (b : Nat) (u : Value) (hb : b ≠ g) : (w3.setCell ⟨b, 0, none⟩ u).heap[g]? = some (.cells cs T (0, 0)) :=
  (Below.heap_setCell _ _ _ _ hb.symm).trans ((hgrow.block g (by have := blk_lt h; simp; omega) (fun e => own_blk_ne hrow h hT e.symm)).trans ((heap_old (blk_lt h)).trans h))
set_option maxRecDepth 100000 in
set_option maxHeartbeats 4000000 in
theorem free_any (k l w t m : Int) (nv : Value) (n : List Int) (W : World) (hn : Ints W nv n)
    (HA : ∀ v W', v ∈ ways26 → Below W.heap.size W W' → Calls Tryz.prog 141 #[vJ k l w t nv, vW v] W' (Ret W' (.bool (freeAB k w n v)))) :
    Calls Tryz.prog 81 #[vJ k l w t nv, .int .i64 m] W (RetW W (freeL k w n m)) := by
  obtain ⟨i0, hi0, hz0, hz1, hz2⟩ := info_parts info_way
  have Hi0 := Lib.hid (And.intro hi0 (And.intro hz0 (And.intro hz1 hz2)))
  clear hi0 hz0 hz1 hz2
  obtain ⟨a, q, c, rfl, _, _, _⟩ := hn
  have Hf : Hid (∀ v, freeMB k w n m v = if m = 0 then freeAB k w n v else if m = 1 then freeAB k w n (neg3 v) else if m < memB k then v.1 == 0 && v.2.1 == 0 else false) := Lib.hid (fun v => rfl)
  have HR : Hid (∀ xs : List WayS, xs.map Subtype.val = ways26 → filS (freeMB k w n m) xs = freeL k w n m) := Lib.hid (fun xs h => by unfold filS freeL; rw [h])
  have HM := fun W' => Lib.hid (members_any k W')
  generalize freeL k w n m = res at *
  generalize freeMB k w n m = fB at *
  generalize memB k = mk at *
  generalize freeAB k w n = aB at *
  have HA' := fun v W' hv h => Lib.hid (HA v W' hv h)
  clear HA
  unfold vJ at *
  simp only [vW] at HA'
  refine (callsIn_wide (n := 6)).1 ?_
  refine callsIn_of_wp_marks Tryz.func81 rfl trivial ?_ rfl
  simp only [Tryz.ntmps81, List.size_toArray, List.length_cons, List.length_nil, Nat.reduceAdd, Nat.reduceSub, Array.replicate_succ, Array.replicate_zero, List.push_toArray, List.append_toArray, List.nil_append, List.cons_append]
  gi_wp2
  obtain ⟨W0, HW0⟩ : ∃ W0, Hid (((W.alloc (.cells #[.int .i64 k, .int .i64 l, .int .i64 w, .int .i64 t, .slice a q c] 25)).alloc (.cells #[.int .i64 m] 3)).alloc (.cells #[.slice none 0 0] 54) = W0) := ⟨_, Lib.hid rfl⟩
  have hB0 : Below W.heap.size W W0 := by rw [← HW0.out]; (repeat (first | exact brf | assumption | refine ble ?_ | refine blx ?_ | refine bla ?_ | refine bls ?_ | refine bld ?_))
  have HJ0 : W0.heap[W.heap.size]? = some (.cells #[.int .i64 k, .int .i64 l, .int .i64 w, .int .i64 t, .slice a q c] 25 (0, 0)) := by rw [← HW0.out]; exact (heap_old (by simp; omega)).trans ((heap_old (by simp)).trans (heap_new rfl))
  have HM0 : Boxed W0 (W.heap.size + 1) 3 (.int .i64 m) := by rw [← HW0.out]; exact (heap_old (by simp)).trans (heap_new (by simp))
  have HO0 : Boxed W0 (W.heap.size + 1 + 1) 54 (.slice none 0 0) := by rw [← HW0.out]; exact heap_new (by simp)
  have hsz : W0.heap.size = W.heap.size + 3 := by rw [← HW0.out]; simp
  rw [HW0.out]
  clear HW0
  refine wpIn_rangeFunc_ownH rfl (by omega) (gf := 140) (lb := #[]) rfl trivial (enters_of Tryz.func140 (by kernel_rfl) rfl)
    (ways_stops (6 - 1) (by omega) W.heap.size W0) belowK_t (belowK_b (by omega)) (Below.refl _ _) (fun _ => rfl)
    (fun pre X => (((∃ v, Boxed X (W.heap.size + 1 + 1) 54 v ∧ X.ownsRow W.heap.size 69 3 v (filS fB pre).length ((filS fB pre).flatMap enc3) ∧ True) ∧ X.heap[W.heap.size]? = some (.cells #[.int .i64 k, .int .i64 l, .int .i64 w, .int .i64 t, .slice a q c] 25 (0, 0))) ∧ Boxed X (W.heap.size + 1) 3 (.int .i64 m)) ∧ Below W.heap.size W X)
    (fun _ _ _ => False)
    (OwnFrom.and (OwnFrom.and (OwnFrom.and (Own.from (holdsRow_own W.heap.size (W.heap.size + 1 + 1) 54 69 3 (fun pre => (filS fB pre).length) (fun pre => (filS fB pre).flatMap enc3) (fun _ _ => True)) _) (Own.from (blkS_own W.heap.size (fun _ => #[.int .i64 k, .int .i64 l, .int .i64 w, .int .i64 t, .slice a q c]) 25) _)) (Own.from (boxed_own _ _ _) _)) (ownFrom_below (Nat.le_refl _) (by omega)))
    (fun _ _ _ _ _ hs _ _ => hs)
    ⟨⟨⟨⟨_, HO0, World.ownsRow_nil _ _ _ _, trivial⟩, HJ0⟩, HM0⟩, hB0⟩
    (fun x a' X => ∃ Bx, W.heap.size + 2 < Bx ∧ X.heap[Bx]? = some (.cells #[.int .i64 x.1.1, .int .i64 x.1.2.1, .int .i64 x.1.2.2] 69 (0, 0)) ∧ a' = { tmps := #[.agg #[.int .i64 k, .int .i64 l, .int .i64 w, .int .i64 t, .slice a q c], .int .i64 m, .pointer (some ⟨W.heap.size, 0, none⟩), .pointer (some ⟨W.heap.size + 1, 0, none⟩), .slice none 0 0, .pointer (some ⟨W.heap.size + 1 + 1, 0, none⟩), .pointer (some ⟨Bx, 0, none⟩), undef, vW x.1, undef, undef, undef, undef, undef, undef, undef, undef, undef, undef, undef, undef, undef, undef, undef, undef, undef, undef, undef, undef, undef, undef, undef, undef, undef, undef, undef, undef, undef, undef, undef, undef, undef], defers := [] })
    (fun x a' _ X Y row hs hg hr => by obtain ⟨Bx, h1, h2, h3⟩ := hs; exact ⟨Bx, h1, blkS_own Bx (fun (_ : Unit) => #[.int .i64 x.1.1, .int .i64 x.1.2.1, .int .i64 x.1.2.2]) 69 () X Y row h2 hg (fun r e => (hr r e).2), h3⟩)
    ?assign ?body ?done ?stop
  case assign =>
    rintro L pre x X K ⟨⟨⟨⟨v, hv, hrow, _⟩, hJ⟩, hM⟩, hB⟩ hK
    obtain ⟨⟨x0, x1, x2⟩, hx⟩ := x
    have hlt := hv.lt
    simp only [vW]
    gi_wp2
    exact hK _ _ ((KeepsOthers.alloc _ _).from _) ((Below.refl _ X).alloc hB.size _) ⟨⟨⟨⟨v, hv.alloc _, hrow.alloc _, trivial⟩, (heap_old (blk_lt hJ)).trans hJ⟩, hM.alloc _⟩, hB.alloc hB.size _⟩ ⟨X.heap.size, by omega, heap_new rfl, rfl⟩
  case body =>
    rintro L pre x a' X hl ⟨r, hr⟩ ⟨⟨⟨⟨v, hv, hrow, _⟩, hJ⟩, hM⟩, hB⟩ ⟨Bx, hBx, hX, rfl⟩ hlt
    obtain ⟨⟨x0, x1, x2⟩, hx⟩ := x
    simp only at hX
    obtain ⟨xc0, xc1, xc2, xf, xz⟩ := blk3 hX
    obtain ⟨j0, j1, j2, j3, j4, jf, jz⟩ := blk5 hJ
    have cm := hM.cell
    have co := hv.cell
    have h1' : 1 ≤ 6 - 1 - 1 := by omega
    by_cases m0 : m = 0
    · have hfx0 : fB (x0, x1, x2) = aB (x0, x1, x2) := by rw [Hf.out, if_pos m0]
      have HC := HA' (x0, x1, x2) X hx hB
      simp only at HC
      cases hfx : fB (x0, x1, x2) with
      | true =>
        rw [← hfx0, hfx] at HC
        subst m0
        gi_wp2_with fail
        refine ⟨trivial, ?_⟩
        refine (CallsIn.inRound L (callsIn_wide.2 (HC.out))).mono ?_
        rintro e w2 ⟨rfl, hb2⟩
        have hv2 : Boxed w2 (W.heap.size + 1 + 1) 54 v := (hb2.block _ hv.lt).trans hv
        have hJ2 := (hb2.block _ (blk_lt hJ)).trans hJ
        have hM2 : Boxed w2 (W.heap.size + 1) 3 (.int .i64 _) := (hb2.block _ hM.lt).trans hM
        have hX2 := (hb2.block _ (blk_lt hX)).trans hX
        have hrow2 := own_below hrow hb2
        have hBp : Below W.heap.size W w2 := hB.trans (hb2.mono hB.size)
        have hKp : KeepsFrom W0.heap.size X w2 := keeps_below hb2
        clear xc0 xc1 xc2 xf xz j0 j1 j2 j3 j4 jf jz cm co
        obtain ⟨xc0, xc1, xc2, xf, xz⟩ := blk3 hX2
        obtain ⟨j0, j1, j2, j3, j4, jf, jz⟩ := blk5 hJ2
        have cm := hM2.cell
        have co := hv2.cell
        gi_wp2_with (gi_at_builtin; refine wpListIn_append_own _ rfl _ _ 54 rfl W.heap.size 69 i0 (vW (0, 0, 0)) 3 24 und_ways Hi0.out.1 Hi0.out.2.1 Hi0.out.2.2.1 Hi0.out.2.2.2 rfl (by decide) _ _ _ rfl (hrow2.alloc _) ⟨w2.heap.size, 0, none⟩ 1 1 (enc3 (x0, x1, x2)) rfl rfl (fun jj uu hu => by rw [add0, cell_new rfl jj]; simpa [enc3] using hu) (fun u hu => by simp [enc3] at hu; rcases hu with rfl | rfl | rfl <;> rfl) (by have := filS_len fB pre; unfold maxLen; omega) (by have := filS_len fB pre; omega) (by have := hBp.size; simp; omega) ?_; intro v' w3 hown' hgrow _; obtain ⟨g', cap', rfl⟩ := ownsRow_succ hown'; obtain ⟨hv3, hv4, hr4, hk4, hb4⟩ := hv2.appended (by decide) hrow2 hBp.size (by omega) hown' hgrow; have hJ4 := blk_app hJ2 (by decide) hrow2 hgrow (W.heap.size + 1 + 1) (.slice (some ⟨g', 0, none⟩) ((filS fB pre).length + 1) cap') (by omega); have hM4 := blk_app hM2 (by decide) hrow2 hgrow (W.heap.size + 1 + 1) (.slice (some ⟨g', 0, none⟩) ((filS fB pre).length + 1) cap') (by omega); have co3 := hv3.cell; have cf3 := hv3.frozen; clear hX2 hJ2 xc0 xc1 xc2 xf xz j0 j1 j2 j3 j4 jf jz cm co)
        exact ⟨hKp.trans (hk4.from _), (Below.mono hb2 hB.size).trans hb4, ⟨⟨⟨_, hv4, by rw [filS_hit fB pre hfx]; simpa using hr4, trivial⟩, hJ4⟩, hM4⟩, hBp.trans hb4⟩
      | false =>
        rw [← hfx0, hfx] at HC
        subst m0
        gi_wp2_with fail
        refine ⟨trivial, ?_⟩
        refine (CallsIn.inRound L (callsIn_wide.2 (HC.out))).mono ?_
        rintro e w2 ⟨rfl, hb2⟩
        have hv2 : Boxed w2 (W.heap.size + 1 + 1) 54 v := (hb2.block _ hv.lt).trans hv
        have hJ2 := (hb2.block _ (blk_lt hJ)).trans hJ
        have hM2 : Boxed w2 (W.heap.size + 1) 3 (.int .i64 _) := (hb2.block _ hM.lt).trans hM
        have hX2 := (hb2.block _ (blk_lt hX)).trans hX
        have hrow2 := own_below hrow hb2
        have hBp : Below W.heap.size W w2 := hB.trans (hb2.mono hB.size)
        have hKp : KeepsFrom W0.heap.size X w2 := keeps_below hb2
        clear xc0 xc1 xc2 xf xz j0 j1 j2 j3 j4 jf jz cm co
        obtain ⟨xc0, xc1, xc2, xf, xz⟩ := blk3 hX2
        obtain ⟨j0, j1, j2, j3, j4, jf, jz⟩ := blk5 hJ2
        have cm := hM2.cell
        have co := hv2.cell
        gi_wp2
        exact ⟨hKp, Below.mono hb2 hB.size, ⟨⟨⟨v, hv2, by rw [filS_miss fB pre hfx]; exact hrow2, trivial⟩, hJ2⟩, hM2⟩, hBp⟩
    · have m0' : (m == 0) = false := by simpa using m0
      obtain ⟨g1, g2, g3, _⟩ := ways_bd _ hx
      simp only at g1 g2 g3
      by_cases m1 : m = 1
      · have hfx0 : fB (x0, x1, x2) = aB (-x0, -x1, -x2) := by rw [Hf.out, if_neg m0, if_pos m1]; rfl
        have HC := fun Y (h : Below X.heap.size X Y) => HA' (-x0, -x1, -x2) Y (neg_mem6 _ hx) (hB.trans (h.mono hB.size))
        simp only at HC
        cases hfx : fB (x0, x1, x2) with
        | true =>
          rw [← hfx0, hfx] at HC
          subst m1
          have hmx : Tryz.prog.follows .mixedOrders = true := by kernel_rfl
          gi_wp2
          gi_region_with_o (first | (refine ⟨trivial, ?_⟩; gi_at_call 142; refine (CallsIn.inRound L (callsIn_wide.2 (opposite_any x0 x1 x2 _ (by omega) (by omega) (by omega)))).mono ?_; rintro e w9 ⟨rfl, hb9⟩; have hb9X : Below X.heap.size X w9 := below_trans (by (repeat (first | exact brf | assumption | refine ble ?_ | refine blx ?_ | refine bla ?_ | refine bls ?_ | refine bld ?_))) hb9; have hJ9 := (hb9X.block _ jz).trans hJ; have hX9 := (hb9X.block _ xz).trans hX; clear xc0 xc1 xc2 xf xz j0 j1 j2 j3 j4 jf jz; obtain ⟨xc0, xc1, xc2, xf, xz⟩ := blk3 hX9; obtain ⟨j0, j1, j2, j3, j4, jf, jz⟩ := blk5 hJ9) | (refine ⟨trivial, ?_⟩; gi_at_call 141; refine (CallsIn.inRound L (callsIn_wide.2 ((HC w9 hb9X).out))).mono ?_; rintro e w2 ⟨rfl, hb2⟩; have hb2X : Below X.heap.size X w2 := below_trans hb9X hb2))
          all_goals
            have hv2 : Boxed w2 (W.heap.size + 1 + 1) 54 v := (hb2X.block _ hv.lt).trans hv
            have hJ2 := (hb2X.block _ (blk_lt hJ)).trans hJ
            have hM2 : Boxed w2 (W.heap.size + 1) 3 (.int .i64 _) := (hb2X.block _ hM.lt).trans hM
            have hX2 := (hb2X.block _ (blk_lt hX)).trans hX
            have hrow2 := own_below hrow hb2X
            have hBp : Below W.heap.size W w2 := hB.trans (hb2X.mono hB.size)
            have hKp : KeepsFrom W0.heap.size X w2 := keeps_below hb2X
            clear xc0 xc1 xc2 xf xz j0 j1 j2 j3 j4 jf jz cm co
            obtain ⟨xc0, xc1, xc2, xf, xz⟩ := blk3 hX2
            obtain ⟨j0, j1, j2, j3, j4, jf, jz⟩ := blk5 hJ2
            have cm := hM2.cell
            have co := hv2.cell
            gi_wp2_with (gi_at_builtin; refine wpListIn_append_own _ rfl _ _ 54 rfl W.heap.size 69 i0 (vW (0, 0, 0)) 3 24 und_ways Hi0.out.1 Hi0.out.2.1 Hi0.out.2.2.1 Hi0.out.2.2.2 rfl (by decide) _ _ _ rfl (hrow2.alloc _) ⟨w2.heap.size, 0, none⟩ 1 1 (enc3 (x0, x1, x2)) rfl rfl (fun jj uu hu => by rw [add0, cell_new rfl jj]; simpa [enc3] using hu) (fun u hu => by simp [enc3] at hu; rcases hu with rfl | rfl | rfl <;> rfl) (by have := filS_len fB pre; unfold maxLen; omega) (by have := filS_len fB pre; omega) (by have := hBp.size; simp; omega) ?_; intro v' w3 hown' hgrow _; obtain ⟨g', cap', rfl⟩ := ownsRow_succ hown'; obtain ⟨hv3, hv4, hr4, hk4, hb4⟩ := hv2.appended (by decide) hrow2 hBp.size (by omega) hown' hgrow; have hJ4 := blk_app hJ2 (by decide) hrow2 hgrow (W.heap.size + 1 + 1) (.slice (some ⟨g', 0, none⟩) ((filS fB pre).length + 1) cap') (by omega); have hM4 := blk_app hM2 (by decide) hrow2 hgrow (W.heap.size + 1 + 1) (.slice (some ⟨g', 0, none⟩) ((filS fB pre).length + 1) cap') (by omega); have co3 := hv3.cell; have cf3 := hv3.frozen; clear hX2 hJ2 xc0 xc1 xc2 xf xz j0 j1 j2 j3 j4 jf jz cm co)
            exact ⟨hKp.trans (hk4.from _), (Below.mono hb2X hB.size).trans hb4, ⟨⟨⟨_, hv4, by rw [filS_hit fB pre hfx]; simpa using hr4, trivial⟩, hJ4⟩, hM4⟩, hBp.trans hb4⟩
        | false =>
          rw [← hfx0, hfx] at HC
          subst m1
          have hmx : Tryz.prog.follows .mixedOrders = true := by kernel_rfl
          gi_wp2
          gi_region_with_o (first | (refine ⟨trivial, ?_⟩; gi_at_call 142; refine (CallsIn.inRound L (callsIn_wide.2 (opposite_any x0 x1 x2 _ (by omega) (by omega) (by omega)))).mono ?_; rintro e w9 ⟨rfl, hb9⟩; have hb9X : Below X.heap.size X w9 := below_trans (by (repeat (first | exact brf | assumption | refine ble ?_ | refine blx ?_ | refine bla ?_ | refine bls ?_ | refine bld ?_))) hb9; have hJ9 := (hb9X.block _ jz).trans hJ; have hX9 := (hb9X.block _ xz).trans hX; clear xc0 xc1 xc2 xf xz j0 j1 j2 j3 j4 jf jz; obtain ⟨xc0, xc1, xc2, xf, xz⟩ := blk3 hX9; obtain ⟨j0, j1, j2, j3, j4, jf, jz⟩ := blk5 hJ9) | (refine ⟨trivial, ?_⟩; gi_at_call 141; refine (CallsIn.inRound L (callsIn_wide.2 ((HC w9 hb9X).out))).mono ?_; rintro e w2 ⟨rfl, hb2⟩; have hb2X : Below X.heap.size X w2 := below_trans hb9X hb2))
          all_goals
            have hv2 : Boxed w2 (W.heap.size + 1 + 1) 54 v := (hb2X.block _ hv.lt).trans hv
            have hJ2 := (hb2X.block _ (blk_lt hJ)).trans hJ
            have hM2 : Boxed w2 (W.heap.size + 1) 3 (.int .i64 _) := (hb2X.block _ hM.lt).trans hM
            have hX2 := (hb2X.block _ (blk_lt hX)).trans hX
            have hrow2 := own_below hrow hb2X
            have hBp : Below W.heap.size W w2 := hB.trans (hb2X.mono hB.size)
            have hKp : KeepsFrom W0.heap.size X w2 := keeps_below hb2X
            clear xc0 xc1 xc2 xf xz j0 j1 j2 j3 j4 jf jz cm co
            obtain ⟨xc0, xc1, xc2, xf, xz⟩ := blk3 hX2
            obtain ⟨j0, j1, j2, j3, j4, jf, jz⟩ := blk5 hJ2
            have cm := hM2.cell
            have co := hv2.cell
            gi_wp2
            exact ⟨hKp, Below.mono hb2X hB.size, ⟨⟨⟨v, hv2, by rw [filS_miss fB pre hfx]; exact hrow2, trivial⟩, hJ2⟩, hM2⟩, hBp⟩
      · have m1' : (m == 1) = false := by simpa using m1
        by_cases mk2 : m < mk
        · have hfx0 : fB (x0, x1, x2) = (x0 == 0 && x1 == 0) := by rw [Hf.out, if_neg m0, if_neg m1, if_pos mk2]
          have hb2 : Below X.heap.size X X.drew := by (repeat (first | exact brf | assumption | refine ble ?_ | refine blx ?_ | refine bla ?_ | refine bls ?_ | refine bld ?_))
          cases hx0 : (x0 == 0)
          · have hfx : fB (x0, x1, x2) = false := by rw [hfx0, hx0]; rfl
            have hmx : Tryz.prog.follows .mixedOrders = true := by kernel_rfl
            gi_wp2
            gi_region_with_o (first | (refine ⟨trivial, ?_⟩; gi_at_call 103; refine (CallsIn.inRound L (callsIn_wide.2 ((HM _).out))).mono ?_; rintro e w9 ⟨rfl, rfl⟩))
            all_goals
              generalize X.drew = w2 at hb2 ⊢
              have hv2 : Boxed w2 (W.heap.size + 1 + 1) 54 v := (hb2.block _ hv.lt).trans hv
              have hJ2 := (hb2.block _ (blk_lt hJ)).trans hJ
              have hM2 : Boxed w2 (W.heap.size + 1) 3 (.int .i64 _) := (hb2.block _ hM.lt).trans hM
              have hX2 := (hb2.block _ (blk_lt hX)).trans hX
              have hrow2 := own_below hrow hb2
              have hBp : Below W.heap.size W w2 := hB.trans (hb2.mono hB.size)
              have hKp : KeepsFrom W0.heap.size X w2 := keeps_below hb2
              clear xc0 xc1 xc2 xf xz j0 j1 j2 j3 j4 jf jz cm co
              obtain ⟨xc0, xc1, xc2, xf, xz⟩ := blk3 hX2
              obtain ⟨j0, j1, j2, j3, j4, jf, jz⟩ := blk5 hJ2
              have cm := hM2.cell
              have co := hv2.cell
              gi_wp2
              exact ⟨hKp, Below.mono hb2 hB.size, ⟨⟨⟨v, hv2, by rw [filS_miss fB pre hfx]; exact hrow2, trivial⟩, hJ2⟩, hM2⟩, hBp⟩
          · cases hx1 : (x1 == 0)
            · have hfx : fB (x0, x1, x2) = false := by rw [hfx0, hx0, hx1]; rfl
              have hmx : Tryz.prog.follows .mixedOrders = true := by kernel_rfl
              gi_wp2
              gi_region_with_o (first | (refine ⟨trivial, ?_⟩; gi_at_call 103; refine (CallsIn.inRound L (callsIn_wide.2 ((HM _).out))).mono ?_; rintro e w9 ⟨rfl, rfl⟩))
              all_goals
                generalize X.drew = w2 at hb2 ⊢
                have hv2 : Boxed w2 (W.heap.size + 1 + 1) 54 v := (hb2.block _ hv.lt).trans hv
                have hJ2 := (hb2.block _ (blk_lt hJ)).trans hJ
                have hM2 : Boxed w2 (W.heap.size + 1) 3 (.int .i64 _) := (hb2.block _ hM.lt).trans hM
                have hX2 := (hb2.block _ (blk_lt hX)).trans hX
                have hrow2 := own_below hrow hb2
                have hBp : Below W.heap.size W w2 := hB.trans (hb2.mono hB.size)
                have hKp : KeepsFrom W0.heap.size X w2 := keeps_below hb2
                clear xc0 xc1 xc2 xf xz j0 j1 j2 j3 j4 jf jz cm co
                obtain ⟨xc0, xc1, xc2, xf, xz⟩ := blk3 hX2
                obtain ⟨j0, j1, j2, j3, j4, jf, jz⟩ := blk5 hJ2
                have cm := hM2.cell
                have co := hv2.cell
                gi_wp2
                exact ⟨hKp, Below.mono hb2 hB.size, ⟨⟨⟨v, hv2, by rw [filS_miss fB pre hfx]; exact hrow2, trivial⟩, hJ2⟩, hM2⟩, hBp⟩
            · have hfx : fB (x0, x1, x2) = true := by rw [hfx0, hx0, hx1]; rfl
              have hmx : Tryz.prog.follows .mixedOrders = true := by kernel_rfl
              gi_wp2
              gi_region_with_o (first | (refine ⟨trivial, ?_⟩; gi_at_call 103; refine (CallsIn.inRound L (callsIn_wide.2 ((HM _).out))).mono ?_; rintro e w9 ⟨rfl, rfl⟩))
              all_goals
                generalize X.drew = w2 at hb2 ⊢
                have hv2 : Boxed w2 (W.heap.size + 1 + 1) 54 v := (hb2.block _ hv.lt).trans hv
                have hJ2 := (hb2.block _ (blk_lt hJ)).trans hJ
                have hM2 : Boxed w2 (W.heap.size + 1) 3 (.int .i64 _) := (hb2.block _ hM.lt).trans hM
                have hX2 := (hb2.block _ (blk_lt hX)).trans hX
                have hrow2 := own_below hrow hb2
                have hBp : Below W.heap.size W w2 := hB.trans (hb2.mono hB.size)
                have hKp : KeepsFrom W0.heap.size X w2 := keeps_below hb2
                clear xc0 xc1 xc2 xf xz j0 j1 j2 j3 j4 jf jz cm co
                obtain ⟨xc0, xc1, xc2, xf, xz⟩ := blk3 hX2
                obtain ⟨j0, j1, j2, j3, j4, jf, jz⟩ := blk5 hJ2
                have cm := hM2.cell
                have co := hv2.cell
                gi_wp2_with (gi_at_builtin; refine wpListIn_append_own _ rfl _ _ 54 rfl W.heap.size 69 i0 (vW (0, 0, 0)) 3 24 und_ways Hi0.out.1 Hi0.out.2.1 Hi0.out.2.2.1 Hi0.out.2.2.2 rfl (by decide) _ _ _ rfl (hrow2.alloc _) ⟨w2.heap.size, 0, none⟩ 1 1 (enc3 (x0, x1, x2)) rfl rfl (fun jj uu hu => by rw [add0, cell_new rfl jj]; simpa [enc3] using hu) (fun u hu => by simp [enc3] at hu; rcases hu with rfl | rfl | rfl <;> rfl) (by have := filS_len fB pre; unfold maxLen; omega) (by have := filS_len fB pre; omega) (by have := hBp.size; simp; omega) ?_; intro v' w3 hown' hgrow _; obtain ⟨g', cap', rfl⟩ := ownsRow_succ hown'; obtain ⟨hv3, hv4, hr4, hk4, hb4⟩ := hv2.appended (by decide) hrow2 hBp.size (by omega) hown' hgrow; have hJ4 := blk_app hJ2 (by decide) hrow2 hgrow (W.heap.size + 1 + 1) (.slice (some ⟨g', 0, none⟩) ((filS fB pre).length + 1) cap') (by omega); have hM4 := blk_app hM2 (by decide) hrow2 hgrow (W.heap.size + 1 + 1) (.slice (some ⟨g', 0, none⟩) ((filS fB pre).length + 1) cap') (by omega); have co3 := hv3.cell; have cf3 := hv3.frozen; clear hX2 hJ2 xc0 xc1 xc2 xf xz j0 j1 j2 j3 j4 jf jz cm co)
                exact ⟨hKp.trans (hk4.from _), (Below.mono hb2 hB.size).trans hb4, ⟨⟨⟨_, hv4, by rw [filS_hit fB pre hfx]; simpa using hr4, trivial⟩, hJ4⟩, hM4⟩, hBp.trans hb4⟩
        · have hfx : fB (x0, x1, x2) = false := by rw [Hf.out, if_neg m0, if_neg m1, if_neg mk2]
          have hb2 : Below X.heap.size X X.drew := by (repeat (first | exact brf | assumption | refine ble ?_ | refine blx ?_ | refine bla ?_ | refine bls ?_ | refine bld ?_))
          have hmx : Tryz.prog.follows .mixedOrders = true := by kernel_rfl
          gi_wp2
          gi_region_with_o (first | (refine ⟨trivial, ?_⟩; gi_at_call 103; refine (CallsIn.inRound L (callsIn_wide.2 ((HM _).out))).mono ?_; rintro e w9 ⟨rfl, rfl⟩))
          all_goals
            generalize X.drew = w2 at hb2 ⊢
            have hv2 : Boxed w2 (W.heap.size + 1 + 1) 54 v := (hb2.block _ hv.lt).trans hv
            have hJ2 := (hb2.block _ (blk_lt hJ)).trans hJ
            have hM2 : Boxed w2 (W.heap.size + 1) 3 (.int .i64 _) := (hb2.block _ hM.lt).trans hM
            have hX2 := (hb2.block _ (blk_lt hX)).trans hX
            have hrow2 := own_below hrow hb2
            have hBp : Below W.heap.size W w2 := hB.trans (hb2.mono hB.size)
            have hKp : KeepsFrom W0.heap.size X w2 := keeps_below hb2
            clear xc0 xc1 xc2 xf xz j0 j1 j2 j3 j4 jf jz cm co
            obtain ⟨xc0, xc1, xc2, xf, xz⟩ := blk3 hX2
            obtain ⟨j0, j1, j2, j3, j4, jf, jz⟩ := blk5 hJ2
            have cm := hM2.cell
            have co := hv2.cell
            gi_wp2
            exact ⟨hKp, Below.mono hb2 hB.size, ⟨⟨⟨v, hv2, by rw [filS_miss fB pre hfx]; exact hrow2, trivial⟩, hJ2⟩, hM2⟩, hBp⟩
  case done =>
    rintro D ys X hD hys ⟨⟨⟨⟨v, hv, hrow, _⟩, hJ⟩, hM⟩, hB⟩ hK
    have co := hv.cell
    gi_wp2
    refine ⟨by simp, .inl ⟨_, _, rfl, run_takeDeferred hK, ?_⟩⟩
    refine ⟨_, results_tmp rfl _ _ _, v, rfl, hB.trans (belowK_b (w := W) (Nat.le_refl _) X D _ _ (by omega) hK rfl rfl), ?_⟩
    rw [← HR.out ys hys]
    exact ownsRow_putObj hrow _ hK rfl
  case stop =>
    rintro D c' pre X _ _ h _
    exact h.elim
end
/- joint: freeA and the reference's first at every right joint; Free. -/
section
open Go.RowKit Go.Shelf
attribute [local go_sem] Ext.cell Ext.frozen
theorem Good.rngF {k l w t : Int} {n : List Int} (g : Good k l w t n) : ∀ i, i < n.length → -100000 ≤ n.getD i 0 ∧ n.getD i 0 ≤ 100000 := fun i h => by
  rw [← getDI n i h]
  exact (withinB_iff _ _ _).1 g.rng _ (List.getElem_mem h)
theorem freeA_good (k l w t : Int) (nv : Value) (n : List Int) (v : Q3) (W : World) (hn : Ints W nv n) (g : Good k l w t n) (hv : v ∈ ways26) :
    Calls Tryz.prog 141 #[vJ k l w t nv, vW v] W (Ret W (.bool (freeAB k w n v))) := by
  obtain ⟨x, y, z⟩ := v
  obtain ⟨hx, hy, hz, _⟩ := ways_bd _ hv
  simp only at hx hy hz
  have hx' : -1 ≤ x ∧ x ≤ 1 := by omega
  have hy' : -1 ≤ y ∧ y ≤ 1 := by omega
  have hz' : -1 ≤ z ∧ z ≤ 1 := by omega
  have h24 := g.len
  have hb := g.rngF
  obtain ⟨a0, a1, a2, a3, a4, a5, a6, a7, a8, a9, a10⟩ := cnt_of g.cnt g.kind
  have hk := g.kind
  rcases (by omega : k = 0 ∨ k = 1 ∨ k = 2 ∨ k = 3 ∨ k = 4 ∨ k = 5 ∨ k = 6 ∨ k = 7 ∨ k = 8 ∨ k = 9 ∨ k = 10) with rfl | rfl | rfl | rfl | rfl | rfl | rfl | rfl | rfl | rfl | rfl
  · exact (freeA_0 l w t x y z nv n W hn hx' hy' hz').mono fun e w' h => h
  · exact (freeA_1 l w t x y z nv n W hn hx' hy' hz').mono fun e w' h => h
  · exact (freeA_2 l w t x y z nv n W hn hx' hy' hz').mono fun e w' h => h
  · exact (freeA_3 l w t x y z nv n W hn hx' hy' hz').mono fun e w' h => h
  · exact (freeA_4 l w t x y z nv n W hn hx' hy' hz' (by have := a4 rfl; omega)).mono fun e w' h => h
  · exact (freeA_5 l w t x y z nv n W hn hx' hy' hz' (by have := a5 rfl; omega)).mono fun e w' h => h
  · have := a6 rfl
    exact (freeA_6 l w t x y z nv n W hn hx' hy' hz' (by omega) ⟨hb 1 (by omega), hb 2 (by omega)⟩).mono fun e w' h => h
  · exact (freeA_7 l w t x y z nv n W hn hx' hy' hz' h24).mono fun e w' h => h
  · exact (freeA_8 l w t x y z nv n W hn hx' hy' hz').mono fun e w' h => h
  · exact (freeA_9 l w t x y z nv n W hn hx' hy' hz').mono fun e w' h => h
  · exact (freeA_10 l w t x y z nv n W hn hx' hy' hz').mono fun e w' h => h
theorem first_good (k l w t : Int) (nv : Value) (n : List Int) (v : Q3) (W : World) (hn : Ints W nv n) (g : Good k l w t n) (hv : v ∈ ways26) :
    Calls Tryz.prog 143 #[vJ k l w t nv, vW v] W (Ret W (.bool (firstB k w n v))) := by
  obtain ⟨x, y, z⟩ := v
  obtain ⟨hx, hy, hz, _⟩ := ways_bd _ hv
  simp only at hx hy hz
  have hx' : -1 ≤ x ∧ x ≤ 1 := by omega
  have hy' : -1 ≤ y ∧ y ≤ 1 := by omega
  have hz' : -1 ≤ z ∧ z ≤ 1 := by omega
  have h24 := g.len
  have hb := g.rngF
  obtain ⟨a0, a1, a2, a3, a4, a5, a6, a7, a8, a9, a10⟩ := cnt_of g.cnt g.kind
  have hk := g.kind
  rcases (by omega : k = 0 ∨ k = 1 ∨ k = 2 ∨ k = 3 ∨ k = 4 ∨ k = 5 ∨ k = 6 ∨ k = 7 ∨ k = 8 ∨ k = 9 ∨ k = 10) with rfl | rfl | rfl | rfl | rfl | rfl | rfl | rfl | rfl | rfl | rfl
  · exact (first_0 l w t x y z nv n W hn hx' hy' hz').mono fun e w' h => h
  · exact (first_1 l w t x y z nv n W hn hx' hy' hz').mono fun e w' h => h
  · exact (first_2 l w t x y z nv n W hn hx' hy' hz').mono fun e w' h => h
  · exact (first_3 l w t x y z nv n W hn hx' hy' hz').mono fun e w' h => h
  · exact (first_4 l w t x y z nv n W hn hx' hy' hz' (by have := a4 rfl; omega)).mono fun e w' h => h
  · exact (first_5 l w t x y z nv n W hn hx' hy' hz' (by have := a5 rfl; omega)).mono fun e w' h => h
  · have := a6 rfl
    exact (first_6 l w t x y z nv n W hn hx' hy' hz' (by omega) ⟨hb 1 (by omega), hb 2 (by omega)⟩).mono fun e w' h => h
  · exact (first_7 l w t x y z nv n W hn hx' hy' hz' h24).mono fun e w' h => h
  · exact (first_8 l w t x y z nv n W hn hx' hy' hz').mono fun e w' h => h
  · exact (first_9 l w t x y z nv n W hn hx' hy' hz').mono fun e w' h => h
  · exact (first_10 l w t x y z nv n W hn hx' hy' hz').mono fun e w' h => h
theorem rFree_good (k l w t m : Int) (nv : Value) (n : List Int) (W : World) (hn : Ints W nv n) (g : Good k l w t n) (hm : 0 ≤ m) :
    Calls Tryz.prog 34 #[vJ k l w t nv, .int .i64 m] W (RetW W (freeL k w n m)) := by
  rw [← freeL_eq g.kind hm]
  exact rFree_any k l w t m nv n W hn fun v W' hv h => isFree_any k l w t m nv n v W' (hn.below h) hv fun v2 W2 hv2 h2 => first_good k l w t nv n v2 W2 ((hn.below h).below h2) g hv2
/-- A list of ways and an error. -/
def RetWE (W : World) (xs : List Q3) (ce : Int) (e : Ending) (w' : World) : Prop := ∃ r, e = .returned (.tuple #[r, .int .i64 ce]) ∧ Below W.heap.size W w' ∧ Q3s w' r xs
set_option maxRecDepth 100000 in
set_option maxHeartbeats 2000000 in
theorem Free_ok (k l w t m : Int) (nv : Value) (n : List Int) (W : World) (hn : Ints W nv n) (h0 : chkE k l w t n = 0) (hm : memE 0 k m n = 0) :
    Calls Tryz.prog 32 #[vJ k l w t nv, .int .i64 m] W fun e w' => ∃ r, e = .returned (.tuple #[r, .int .i64 0]) ∧ Below W.heap.size W w' ∧ w'.ownsRow W.heap.size 69 3 r (freeL k w n m).length ((freeL k w n m).flatMap enc3) := by
  have g := good_of h0
  have H1 := fun W' h => Lib.hid (checkMember_any k l w t m 0 nv n W' (hn.below (w' := W') h) (by have := g.len; omega) (fun W2 h2 => by have := Check_all k l w t nv n W2 ((hn.below h).below h2) (by have := g.len; omega); rwa [h0] at this) (fun _ => g.h8))
  rw [hm] at H1
  have H2 := fun W' h => Lib.hid (free_any k l w t m nv n W' (hn.below (w' := W') h) (fun v W2 hv h2 => freeA_good k l w t nv n v W2 ((hn.below h).below h2) g hv))
  generalize freeL k w n m = res at *
  obtain ⟨a, q, c, rfl, _, _, _⟩ := hn
  clear h0 hm g
  unfold vJ at *
  go_enter Tryz.func32, Tryz.ntmps32
  go_wp2_with fail
  refine ((H1 _ (by (repeat (first | exact brf | assumption | refine ble ?_ | refine blx ?_ | refine bla ?_ | refine bls ?_ | refine bld ?_)))).out).mono ?_
  rintro e w1 ⟨rfl, hb1⟩
  have hw1 := below_trans (show Below W.heap.size W (W.alloc (.cells #[.int .i64 k, .int .i64 l, .int .i64 w, .int .i64 t, .slice a q c] 25)) by (repeat (first | exact brf | assumption | refine ble ?_ | refine blx ?_ | refine bla ?_ | refine bls ?_ | refine bld ?_))) hb1
  have c0 := below_cell hb1 ((cell_new rfl 0).trans rfl : _ = some (.int .i64 k))
  have c4 := below_cell hb1 ((cell_new rfl 4).trans rfl : _ = some (.slice a q c))
  have c1 := below_cell hb1 ((cell_new rfl 1).trans rfl : _ = some (.int .i64 l))
  have c2 := below_cell hb1 ((cell_new rfl 2).trans rfl : _ = some (.int .i64 w))
  have c3 := below_cell hb1 ((cell_new rfl 3).trans rfl : _ = some (.int .i64 t))
  go_wp2_with fail
  refine ((H2 _ hw1).out).mono ?_
  rintro e w2 ⟨r, rfl, hb2, ho⟩
  have hw2 := below_trans hw1 hb2
  have ho2 := own_mono ho hw1.size
  go_wp2
  exact bodyPost_ret (v := .tuple #[r, .int .i64 0]) (by simp [results, Tryz.results32, go_sem]) rfl ⟨_, rfl, hw2, ho2⟩
set_option maxRecDepth 100000 in
set_option maxHeartbeats 2000000 in
theorem Free_bad (k l w t m ce : Int) (nv : Value) (n : List Int) (W : World) (hn : Ints W nv n) (hl : n.length ≤ 1000000) (hce : memE (chkE k l w t n) k m n = ce) (h0 : ce ≠ 0) :
    Calls Tryz.prog 32 #[vJ k l w t nv, .int .i64 m] W (Ret W (.tuple #[.slice none 0 0, .int .i64 ce])) := by
  have H1 := fun W' h => Lib.hid (checkMember_any k l w t m (chkE k l w t n) nv n W' (hn.below (w' := W') h) hl (fun W2 h2 => Check_all k l w t nv n W2 ((hn.below h).below h2) hl) (fun e => (good_of e).h8))
  rw [hce] at H1
  have hne : (ce != 0) = true := by simpa using h0
  obtain ⟨a, q, c, rfl, _, _, _⟩ := hn
  clear hce hl
  unfold vJ at *
  go_enter Tryz.func32, Tryz.ntmps32
  go_wp2_with fail
  refine ((H1 _ (by (repeat (first | exact brf | assumption | refine ble ?_ | refine blx ?_ | refine bla ?_ | refine bls ?_ | refine bld ?_)))).out).mono ?_
  rintro e w1 ⟨rfl, hb1⟩
  go_wp2
  refine bodyPost_ret (v := .tuple #[.slice none 0 0, .int .i64 ce]) (by simp [results, Tryz.results32, go_sem]) rfl ⟨rfl, ?_⟩
  exact below_trans (by (repeat (first | exact brf | assumption | refine ble ?_ | refine blx ?_ | refine bla ?_ | refine bls ?_ | refine bld ?_))) hb1
end
end Go.Proofs.YtjglkglaogaenaaGreatDoor
