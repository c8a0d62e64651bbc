/- texts: W9 WA WB WC WD WE WF. -/
import Derived.Test.YtokhkhnofkcalaaGreatDoorGZS35
namespace Go.Proofs.YtokhkhnofkcalaaGreatDoor
set_option maxHeartbeats 8000000
set_option linter.unusedSimpArgs false
set_option linter.unusedVariables false
section
open Go.RowKit Go.Shelf
set_option maxRecDepth 100000
attribute [local go_sem] Ext.cell Ext.frozen
theorem src_full {w : World} {g : Nat} {ps : List Q4} {T : TypeId} (h : w.heap[g]? = some (.cells (ps.flatMap enc4).toArray T (0, 0))) : ∀ j u, (ps.flatMap enc4)[j]? = some u → w.cell? ((⟨g, 0, none⟩ : Addr).add j) = some u := by
 intro j u hu
 rw [add0, blk_cell h]
 simpa using hu
theorem ones_flat {ps : List Q4} : ∀ v ∈ ps.flatMap enc4, v.oneCell' = true := by
 intro v hv
 obtain ⟨x, _, h⟩ := List.mem_flatMap.1 hv
 simp [enc4] at h
 rcases h with rfl | rfl | rfl | rfl <;> rfl
theorem rBox_any (l w t : Int) (W : World) :
  Calls Tryz.prog 92 #[.agg #[.int .i64 l, .int .i64 w, .int .i64 t]] W fun e w' => ∃ r, e = .returned r ∧ Below W.heap.size W w' ∧ w'.ownsRow W.heap.size 69 4 r (boxL l w t).length ((boxL l w t).flatMap enc4) := by
 obtain ⟨i0, hi0, hz0, hz1, hz2⟩ := info_parts info_plane
 have Hi0 := Lib.hid (And.intro hi0 (And.intro hz0 (And.intro hz1 hz2)))
 clear hi0 hz0 hz1 hz2
 have HX := fun W' => Lib.hid (rx_any 0 l W' (by omega))
 have HY := fun W' => Lib.hid (ry_any 0 w W' (by omega))
 have HZ := fun W' => Lib.hid (rz_any 0 t W' (by omega))
 have HBX : Hid (boxL l w t = btP 0 0 l ++ btP 1 0 w ++ btP 2 0 t) := Lib.hid rfl
 rw [HBX.out]
 obtain ⟨px, hpx⟩ : ∃ px, px = btP 0 0 l := ⟨_, rfl⟩
 obtain ⟨py, hpy⟩ : ∃ py, py = btP 1 0 w := ⟨_, rfl⟩
 obtain ⟨pz, hpz⟩ : ∃ pz, pz = btP 2 0 t := ⟨_, rfl⟩
 have lx : px.length = 2 := by rw [hpx]; rfl
 have ly : py.length = 2 := by rw [hpy]; rfl
 have lz : pz.length = 2 := by rw [hpz]; rfl
 have ex : (px.flatMap enc4).length = 2 * 4 := by rw [enc4s_len, lx]
 have ey : (py.flatMap enc4).length = 2 * 4 := by rw [enc4s_len, ly]
 have ez : (pz.flatMap enc4).length = 2 * 4 := by rw [enc4s_len, lz]
 rw [← hpx] at HX ⊢
 rw [← hpy] at HY ⊢
 rw [← hpz] at HZ ⊢
 clear hpx hpy hpz HBX
 obtain ⟨V, HV⟩ : ∃ V, Hid (W.alloc (.cells #[.int .i64 l, .int .i64 w, .int .i64 t] 22) = V) := ⟨_, Lib.hid rfl⟩
 have hV : Below W.heap.size W V := by rw [← HV.out]; exact bel
 have HB : Hid (V.heap[W.heap.size]? = some (.cells #[.int .i64 l, .int .i64 w, .int .i64 t] 22 (0, 0))) := Lib.hid (by rw [← HV.out]; exact heap_new rfl)
 obtain ⟨b0, b1, b2, fb, zb⟩ := blk3 HB.out
 go_enter Tryz.func92, Tryz.ntmps92
 go_wp2
 rw [HV.out]
 clear HV
 refine wp_region_grow [0, 1, 2, 3, 4, 5, 6, 7, 8, 9] 10 [11] (pick [IsV (.pointer (some ⟨W.heap.size, 0, none⟩)), IsV (.int .i64 l), IsN V.heap.size px, IsV (.pointer (some ⟨W.heap.size, 1, none⟩)), IsV (.int .i64 w), IsN V.heap.size py, IsO V.heap.size 4 (px ++ py), IsV (.pointer (some ⟨W.heap.size, 2, none⟩)), IsV (.int .i64 t), IsN V.heap.size pz]) (by kernel_rfl) (by kernel_rfl) (Stabs.pick (by repeat (first | exact Stabs.nil | refine Stabs.cons (by first | exact stab_v _ | exact stab_n _ _ | exact stab_o _ _ _) ?_))) ?_
 try go_frame
 refine wgS (fun w' hb' hR K hK => ?_) (fun o0 => ?_)
 ·clear hR
  go_simp
  exact hK _ _ brf rfl
 try go_frame
 refine wgS (fun w' hb' hR K hK => ?_) (fun o1 => ?_)
 ·obtain rfl : o0 = .pointer (some ⟨W.heap.size, 0, none⟩) := hr hR 0
  clear hR
  have cc := below_cell hb' b0
  have hzz := Nat.lt_of_lt_of_le zb hb'.size
  go_simp
  exact hK _ _ brf rfl
 try go_frame
 refine wgS (fun w' hb' hR K hK => ?_) (fun o2 => ?_)
 ·obtain rfl : o1 = .int .i64 l := hr hR 1
  clear hR
  go_simp
  refine ((HX _).out).mono ?_
  rintro e w9 ⟨r, rfl, hb9, g, rfl, hg, hh⟩
  exact hK _ _ hb9 ⟨g, rfl, Nat.le_trans hb'.size hg, hh⟩
 try go_frame
 refine wgS (fun w' hb' hR K hK => ?_) (fun o3 => ?_)
 ·clear hR
  go_simp
  exact hK _ _ brf rfl
 try go_frame
 refine wgS (fun w' hb' hR K hK => ?_) (fun o4 => ?_)
 ·obtain rfl : o3 = .pointer (some ⟨W.heap.size, 1, none⟩) := hr hR 3
  clear hR
  have cc := below_cell hb' b1
  have hzz := Nat.lt_of_lt_of_le zb hb'.size
  go_simp
  exact hK _ _ brf rfl
 try go_frame
 refine wgS (fun w' hb' hR K hK => ?_) (fun o5 => ?_)
 ·obtain rfl : o4 = .int .i64 w := hr hR 4
  clear hR
  go_simp
  refine ((HY _).out).mono ?_
  rintro e w9 ⟨r, rfl, hb9, g, rfl, hg, hh⟩
  exact hK _ _ hb9 ⟨g, rfl, Nat.le_trans hb'.size hg, hh⟩
 try go_frame
 refine wgS (fun w' hb' hR K hK => ?_) (fun o6 => ?_)
 ·have h2 : (IsN V.heap.size px) o2 w' := hr hR 2
  have h5 : (IsN V.heap.size py) o5 w' := hr hR 5
  clear hR
  obtain ⟨g2, rfl, _, hh2⟩ := h2
  obtain ⟨g5, rfl, _, hh5⟩ := h5
  obtain ⟨v9, w9, hrun, hown9, hb9⟩ := append_new (P := Tryz.prog) (w := w') 65 65 69 i0 (v4 (0, 0, 0, 0)) 4 32 und_planes' Hi0.out.1 Hi0.out.2.1 Hi0.out.2.2.1 Hi0.out.2.2.2 rfl (by decide) ⟨g2, 0, none⟩ px.length px.length (px.flatMap enc4) (enc4s_len px) (src_full hh2) ⟨g5, 0, none⟩ py.length py.length (py.flatMap enc4) (enc4s_len py) (src_full hh5) (by omega) (by unfold maxLen; omega) (by omega)
  exact wp_append _ _ 65 rfl hrun (hK _ _ hb9 (by have h9 := own_mono hown9 hb'.size; rw [lx, ly, ← List.flatMap_append] at h9; exact h9))
 try go_frame
 refine wgS (fun w' hb' hR K hK => ?_) (fun o7 => ?_)
 ·clear hR
  go_simp
  exact hK _ _ brf rfl
 try go_frame
 refine wgS (fun w' hb' hR K hK => ?_) (fun o8 => ?_)
 ·obtain rfl : o7 = .pointer (some ⟨W.heap.size, 2, none⟩) := hr hR 7
  clear hR
  have cc := below_cell hb' b2
  have hzz := Nat.lt_of_lt_of_le zb hb'.size
  go_simp
  exact hK _ _ brf rfl
 try go_frame
 refine wgS (fun w' hb' hR K hK => ?_) (fun o9 => ?_)
 ·obtain rfl : o8 = .int .i64 t := hr hR 8
  clear hR
  go_simp
  refine ((HZ _).out).mono ?_
  rintro e w9 ⟨r, rfl, hb9, g, rfl, hg, hh⟩
  exact hK _ _ hb9 ⟨g, rfl, Nat.le_trans hb'.size hg, hh⟩
 try go_frame
 refine wpG_nil (fun w' hb' hR => ?_)
 have ho6 : w'.ownsRow V.heap.size 69 4 o6 4 ((px ++ py).flatMap enc4) := hR 6 (by simp)
 have HO6 := Lib.hid ho6
 obtain ⟨g9, rfl, _, hh9⟩ : IsN V.heap.size pz o9 w' := hR 9 (by simp)
 have HH9 := Lib.hid hh9
 clear hR ho6 hh9
 rw [lz]
 simp only [oas]
 refine wpList_append_own _ rfl _ _ 65 rfl V.heap.size 69 i0 (v4 (0, 0, 0, 0)) 4 32 und_planes' Hi0.out.1 Hi0.out.2.1 Hi0.out.2.2.1 Hi0.out.2.2.2 rfl (by decide) _ 4 _ rfl HO6.out ⟨g9, 0, none⟩ 2 2 (pz.flatMap enc4) rfl ez (src_full HH9.out) ?c2 ?c3 ?c4 ?c5 ?_
 case c2 => exact ones_flat
 case c3 => unfold maxLen; omega
 case c4 => omega
 case c5 => exact hb'.size
 intro v5 w5 hown5 hg5 _
 have hb5 : Below V.heap.size V w5 := hb'.grown hg5 hb'.size (fun z hz => (HO6.out.lt z hz).1)
 have HO5 := Lib.hid hown5
 clear hown5 hg5
 go_frame
 iterate 1 (refine wpList_step (fun K hK => ?_); go_simp; refine hK _ _ ?_; clear hK K)
 refine NoPanic.normal ?_
 go_wp2
 go_ret
 have h9 := own_mono (base' := W.heap.size) HO5.out hV.size
 have hl9 : (px ++ py ++ pz).length = 6 := by simp; omega
 refine ⟨_, rfl, below_trans hV hb5, ?_⟩
 rw [hl9]
 simpa [List.flatMap_append] using h9
def KeepT (T : TypeId) (w w' : World) : Prop := ∀ (g : Nat) (c : Array Value) (t : TypeId), w.heap[g]? = some (Obj.cells c t (0, 0)) → t ≠ T → w'.heap[g]? = some (Obj.cells c t (0, 0))
def IsA (B k : Nat) (ps : List Q4) : Value → World → Prop := fun u w => ∃ v, u = .agg #[v] ∧ w.ownsRow B 69 4 v k (ps.flatMap enc4)
theorem stab_a (B k : Nat) (ps : List Q4) : Stab (IsA B k ps) := fun _ _ _ hb ⟨g, h1, h2⟩ => ⟨g, h1, own_below h2 hb⟩
def IsA1 (B k : Nat) (ps : List Q4) : Value → World → Prop := fun u w => ∃ g v, u = .slice (some ⟨g, 0, none⟩) 1 1 ∧ w.heap[g]? = some (.cells #[v] 67 (0, 0)) ∧ w.ownsRow B 69 4 v k (ps.flatMap enc4)
theorem stab_a1 (B k : Nat) (ps : List Q4) : Stab (IsA1 B k ps) := fun _ _ _ hb ⟨g, v, h1, h2, h3⟩ => ⟨g, v, h1, (hb.block g (blk_lt h2)).trans h2, own_below h3 hb⟩
theorem rwith_any (k l w t : Int) (nv : Value) (B : Nat) (sv : Value) (vs : List Value) (css : List (List Q4)) (pv : Value) (pls : List (List Q4)) (W : World) (hB : B ≤ W.heap.size)
  (hs : W.ownsRow B 67 1 sv css.length vs) (hr : RowsV W B vs css) (hcn : css.length ≤ 1000000) (hpn : pls.length ≤ 64) (hp : Each W pv (PlanesV 0) pls)
  (hok : ∀ p ∈ boxL l w t ++ pls.flatten, okPl0 p) (hlen : (boxL l w t ++ pls.flatten).length ≤ 64) :
  Calls Tryz.prog 36 #[.agg #[sv], vJ k l w t nv, pv] W fun e w' => ∃ r vs', e = .returned (.agg #[r]) ∧ Below B W w' ∧
   w'.ownsRow B 67 1 r (css.length + 1) vs' ∧ RowsV w' B vs' (css ++ [refN (boxL l w t ++ pls.flatten)]) ∧ KeepT 67 W w' := by
 obtain ⟨i0, hi0, hz0, hz1, hz2⟩ := info_parts info_plane
 have Hi0 := Lib.hid (And.intro hi0 (And.intro hz0 (And.intro hz1 hz2)))
 obtain ⟨i1, hi1, hy0, hy1, hy2⟩ := info_parts info_cell
 have Hi1 := Lib.hid (And.intro hi1 (And.intro hy0 (And.intro hy1 hy2)))
 clear hi0 hz0 hz1 hz2 hi1 hy0 hy1 hy2
 obtain ⟨pa, n, pc, rfl, hn, _, hx⟩ := hp
 have HX := Lib.hid hx
 have HBx := fun W' => Lib.hid (rBox_any l w t W')
 have HN := fun v W' h => Lib.hid (rNormal_any (boxL l w t ++ pls.flatten) v W' hok hlen h)
 have Hacc : Hid (∀ i (h : i < pls.length), boxL l w t ++ (pls.take (i + 1)).flatten = (boxL l w t ++ (pls.take i).flatten) ++ pls[i]) := Lib.hid (fun i h => by rw [List.take_succ_eq_append_getElem h, List.flatten_append]; simp)
 have Hac0 : Hid (boxL l w t ++ (pls.take 0).flatten = boxL l w t) := Lib.hid (by simp)
 have Hacn : Hid (boxL l w t ++ (pls.take n).flatten = boxL l w t ++ pls.flatten) := Lib.hid (by rw [← hn, List.take_length])
 have Hle : Hid (∀ i, (boxL l w t ++ (pls.take i).flatten).length ≤ 64) := Lib.hid (fun i => by
  have h1 : (pls.take i).flatten.length ≤ pls.flatten.length := by
   conv => rhs; rw [← List.take_append_drop i pls]
   rw [List.flatten_append, List.length_append]
   omega
  rw [List.length_append] at hlen ⊢
  omega)
 obtain ⟨acc, hacc⟩ : ∃ acc : Nat → List Q4, acc = fun i => boxL l w t ++ (pls.take i).flatten := ⟨_, rfl⟩
 have Hacc' : Hid (∀ i (h : i < pls.length), acc (i + 1) = acc i ++ pls[i]) := Lib.hid (by rw [hacc]; exact Hacc.out)
 have Hac0' : Hid (acc 0 = boxL l w t) := Lib.hid (by rw [hacc]; exact Hac0.out)
 have Hacn' : Hid (acc n = boxL l w t ++ pls.flatten) := Lib.hid (by rw [hacc]; exact Hacn.out)
 have Hle' : Hid (∀ i, (acc i).length ≤ 64) := Lib.hid (by rw [hacc]; exact Hle.out)
 clear Hacc Hac0 Hacn Hle hacc hok hlen hx
 generalize boxL l w t ++ pls.flatten = P at *
 generalize refN P = res at *
 obtain ⟨V, HV⟩ : ∃ V, Hid (((W.alloc (.cells #[sv] 30)).alloc (.cells #[.int .i64 k, .int .i64 l, .int .i64 w, .int .i64 t, nv] 25)).alloc (.cells #[.slice none 0 0] 30) = V) := ⟨_, Lib.hid rfl⟩
 have hV : Below W.heap.size W V := by rw [← HV.out]; exact bel
 have zV : W.heap.size + 3 ≤ V.heap.size := by rw [← HV.out]; simp
 have HA : Hid (V.heap[W.heap.size]? = some (.cells #[sv] 30 (0, 0))) := Lib.hid (by rw [← HV.out]; exact (heap_old (by simp; omega)).trans ((heap_old (by simp)).trans (heap_new rfl)))
 have HJ : Hid (V.heap[W.heap.size + 1]? = some (.cells #[.int .i64 k, .int .i64 l, .int .i64 w, .int .i64 t, nv] 25 (0, 0))) := Lib.hid (by rw [← HV.out]; exact (heap_old (by simp)).trans (heap_new (by simp)))
 have HR : Hid (V.heap[W.heap.size + 1 + 1]? = some (.cells #[.slice none 0 0] 30 (0, 0))) := Lib.hid (by rw [← HV.out]; exact heap_new (by simp))
 obtain ⟨sa, sc, rfl⟩ := own_slice hs
 have HS := Lib.hid (own_below hs hV)
 have HRw := Lib.hid (hr.below hV)
 clear hs hr
 obtain ⟨_, j1, j2, j3, _, _, jz⟩ := blk5 HJ.out
 go_enter Tryz.func36, Tryz.ntmps36
 simp only [vJ]
 go_wp2_with fail
 rw [HV.out]
 refine ((HBx V).out).mono ?_
 rintro e W1 ⟨bv, rfl, hb1, hob⟩
 have HO1 := Lib.hid hob
 have HX1 : Hid (0 < n → ∃ b off, pa = some ⟨b, off, none⟩ ∧ ∀ i (h : i < pls.length), ∃ u, V.cell? ⟨b, off + i, none⟩ = some u ∧ PlanesV 0 V u pls[i]) := Lib.hid (fun h => by
  obtain ⟨b, off, ha, hi⟩ := HX.out h
  exact ⟨b, off, ha, fun i h => by obtain ⟨u, hu, he⟩ := hi i h; exact ⟨u, below_cell hV hu, he.below hV⟩⟩)
 clear hob HX HBx HV
 go_wp2
 go_loopw [7, 8] (fun s x wr => ∃ i : Nat, i ≤ n ∧ x = .int .i64 i ∧ Below V.heap.size V wr ∧ Hid (wr.ownsRow V.heap.size 69 4 s (acc i).length ((acc i).flatMap enc4))) (fun _ x _ => n - (intOf x).toNat)
 case atStart => exact ⟨0, by omega, rfl, hb1, Lib.hid (by rw [Hac0'.out]; exact HO1.out)⟩
 case round =>
  obtain ⟨i, hi, rfl, hb, HO⟩ := hrel
  by_cases hlt : i < n
  ·have g1 : (i : Int) < (n : Int) := by omega
   have g2 : (0 : Int) ≤ (i : Int) := by omega
   have hil : i < pls.length := by omega
   obtain ⟨b, off, rfl, hi4⟩ := HX1.out (by omega)
   obtain ⟨u, hu, hpl⟩ := hi4 i hil
   have x0 := below_cell hb hu
   have zx := World.block_lt_of_cell? wr _ x0
   simp only at zx
   have Hs := Lib.hid (Hacc'.out i hil)
   have hl1 := Hle'.out i
   have hl2 := Hle'.out (i + 1)
   rw [Hs.out, List.length_append] at hl2
   obtain ⟨⟨ua, um, uc, rfl, hul, hun, huc⟩, _⟩ := hpl.below hb
   rw [enc4s_len] at hul
   have Huc := Lib.hid huc
   generalize acc i = A at *
   generalize pls[i] = q at *
   clear hi4 hu hpl huc HX1
   obtain rfl : um = q.length := by omega
   cases ua with
   | none =>
    obtain ⟨hz1, rfl⟩ := hun rfl
    obtain rfl : q = [] := List.length_eq_zero_iff.1 hz1
    go_wp2_with (at_builtin; refine wpList_append_own_none rfl _ _ 65 rfl V.heap.size 69 i0 4 und_planes' Hi0.out.1 _ _ _ rfl HO.out rfl ?_)
    go_wp2
    go_roundw
    case rel => exact ⟨i + 1, by omega, by go_num, hb, Lib.hid (by rw [Hs.out, List.append_nil]; exact HO.out)⟩
    case measure => first | (simp [intOf]; done) | (simp [intOf]; omega)
   | some ad =>
    clear hun
    go_wp2_with (at_builtin; refine wpList_append_own _ rfl _ _ 65 rfl V.heap.size 69 i0 (v4 (0, 0, 0, 0)) 4 32 und_planes' Hi0.out.1 Hi0.out.2.1 Hi0.out.2.2.1 Hi0.out.2.2.2 rfl (by decide) _ A.length _ rfl HO.out ad q.length uc (q.flatMap enc4) rfl (enc4s_len q) (Huc.out ad rfl) ?c2 ?c3 ?c4 ?c5 ?_)
    case c2 => first | exact ones_flat | (intro u a b c d _ h; simp [enc4] at h; rcases h with rfl | rfl | rfl | rfl <;> rfl)
    case c3 => unfold maxLen; omega
    case c4 => omega
    case c5 => exact hb.size
    intro v5 w5 hown5 hg5 _
    have hb5 : Below V.heap.size V w5 := hb.grown hg5 hb.size (fun z hz => (HO.out.lt z hz).1)
    have HO5 := Lib.hid hown5
    clear hown5 hg5
    go_wp2
    go_roundw
    case rel => exact ⟨i + 1, by omega, by go_num, hb5, Lib.hid (by rw [Hs.out]; simpa [List.flatMap_append] using HO5.out)⟩
    case measure => first | (simp [intOf]; done) | (simp [intOf]; omega)
  ·obtain rfl : i = n := by omega
   have g1 : ¬ (i : Int) < (i : Int) := by omega
   rw [Hacn'.out] at HO
   have HPs := Lib.hid (q4s_own HO.out)
   obtain ⟨pa2, pm2, rfl⟩ := own_slice HO.out
   have HA6 := Lib.hid ((hb.block _ (blk_lt HA.out)).trans HA.out)
   have HR6 := Lib.hid ((hb.block _ (blk_lt HR.out)).trans HR.out)
   have HS6 := Lib.hid (own_below HS.out hb)
   have HRw6 := Lib.hid (HRw.out.below hb)
   have a0 := (blk_cell HA6.out 0).trans rfl
   have za := blk_lt HA6.out
   simp only [List.getElem?_toArray, List.getElem?_cons_zero] at a0
   clear HX1 HO HA HR HS HRw Hacc' Hle' Hac0' Hacn'
   go_wp2
   refine wp_region_grow [0, 1, 2, 3, 4, 5] 6 [7, 8] (pick [IsV (.pointer (some ⟨W.heap.size, 0, none⟩)), IsV (.slice sa css.length sc), IsV (.slice pa2 P.length pm2), IsO wr.heap.size res.length res, IsA wr.heap.size res.length res, IsA1 wr.heap.size res.length res]) (by kernel_rfl) (by kernel_rfl) (Stabs.pick (by repeat (first | exact Stabs.nil | refine Stabs.cons (by first | exact stab_v _ | exact stab_o _ _ _ | exact stab_a _ _ _ | exact stab_a1 _ _ _) ?_))) ?_
   try go_frame
   refine wgS (fun w' hb' hR K hK => ?_) (fun o0 => ?_)
   ·clear hR
    go_simp
    exact hK _ _ brf rfl
   try go_frame
   refine wgS (fun w' hb' hR K hK => ?_) (fun o1 => ?_)
   ·obtain rfl : o0 = .pointer (some ⟨W.heap.size, 0, none⟩) := hr hR 0
    clear hR
    have cc := below_cell hb' a0
    have hzz := Nat.lt_of_lt_of_le za hb'.size
    go_simp
    exact hK _ _ brf rfl
   try go_frame
   refine wgS (fun w' hb' hR K hK => ?_) (fun o2 => ?_)
   ·clear hR
    go_simp
    exact hK _ _ brf rfl
   try go_frame
   refine wgS (fun w' hb' hR K hK => ?_) (fun o3 => ?_)
   ·obtain rfl : o2 = .slice pa2 P.length pm2 := hr hR 2
    clear hR
    go_simp
    refine ((HN _ _ (HPs.out.below hb')).out).mono ?_
    rintro e w9 ⟨r, rfl, hb9, ho9⟩
    exact hK _ _ hb9 (own_mono ho9 hb'.size)
   try go_frame
   refine wgS (fun w' hb' hR K hK => ?_) (fun o4 => ?_)
   ·have h3 : (IsO wr.heap.size res.length res) o3 w' := hr hR 3
    clear hR
    obtain ⟨a9, c9, rfl⟩ := own_slice h3
    have H3 := Lib.hid h3
    clear h3
    go_simp
    exact hK _ _ (Below.refl _ _) ⟨_, rfl, H3.out⟩
   try go_frame
   refine wgS (fun w' hb' hR K hK => ?_) (fun o5 => ?_)
   ·have h4 : (IsA wr.heap.size res.length res) o4 w' := hr hR 4
    clear hR
    obtain ⟨v9, rfl, ho9⟩ := h4
    obtain ⟨a9, c9, rfl⟩ := own_slice ho9
    have H4 := Lib.hid ho9
    clear ho9
    go_simp
    exact hK _ _ bel ⟨_, _, rfl, heap_new rfl, H4.out.alloc _⟩
   try go_frame
   refine wpG_nil (fun w' hb' hR => ?_)
   obtain ⟨g9, v9, rfl, hh9, ho9⟩ : IsA1 wr.heap.size res.length res o5 w' := hR 5 (by simp)
   obtain rfl : o1 = .slice sa css.length sc := hR 1 (by simp)
   have HH9 := Lib.hid hh9
   have HO9 := Lib.hid ho9
   have HA7 := Lib.hid ((hb'.block _ (blk_lt HA6.out)).trans HA6.out)
   have HR7 := Lib.hid ((hb'.block _ (blk_lt HR6.out)).trans HR6.out)
   have HS7 := Lib.hid (own_below HS6.out hb')
   have HRw7 := Lib.hid (HRw6.out.below hb')
   have hBw : B ≤ wr.heap.size := by have := hb.size; omega
   have hBw' : B ≤ w'.heap.size := Nat.le_trans hBw hb'.size
   have hsn := HRw7.out.snoc (own_mono HO9.out hBw)
   have HSN := Lib.hid hsn
   have hbW : Below W.heap.size W w' := below_trans hV (below_trans hb hb')
   have zWw : W.heap.size ≤ w'.heap.size := hbW.size
   clear hR hh9 ho9 HA6 HR6 HS6 HRw6 HPs HN hsn
   simp only [oas]
   refine wpList_append_own _ rfl _ _ 28 rfl B 67 i1 (.agg #[.slice none 0 0]) 1 24 und_cellL Hi1.out.1 Hi1.out.2.1 Hi1.out.2.2.1 Hi1.out.2.2.2 rfl (by decide) _ css.length vs rfl HS7.out ⟨g9, 0, none⟩ 1 1 [v9] rfl rfl ?c1 ?c2 ?c3 ?c4 ?c5 ?_
   case c1 =>
    intro jj uu hu
    rw [add0, blk_cell HH9.out]
    simpa using hu
   case c2 =>
    obtain ⟨a9, c9, rfl⟩ := own_slice HO9.out
    intro v hv
    simp at hv
    subst hv
    rfl
   case c3 => unfold maxLen; omega
   case c4 => omega
   case c5 => exact hBw'
   intro v5 w5 hown5 hg5 _
   have hb5 : Below B W w5 := (hbW.mono hB).grown hg5 hBw' (fun z hz => (HS7.out.lt z hz).1)
   have HA5 := Lib.hid ((hg5.block _ (blk_lt HA7.out) (fun e => own_blk_ne HS7.out HA7.out (by decide) e.symm)).trans HA7.out)
   have HR5 := Lib.hid ((hg5.block _ (blk_lt HR7.out) (fun e => own_blk_ne HS7.out HR7.out (by decide) e.symm)).trans HR7.out)
   have HRw5 := Lib.hid (HSN.out.kept hg5 (fun g cs hr hc => by obtain ⟨c, t, h1, h2⟩ := own_row_type HS7.out g cs hr hc; exact ⟨c, t, h1, by rw [h2]; decide⟩))
   have HK5 : Hid (KeepT 67 W w5) := Lib.hid (fun g c t h ht => by
    have h1 := (hbW.block g (blk_lt h)).trans h
    exact (hg5.block _ (blk_lt h1) (fun e => own_blk_ne HS7.out h1 (fun e => ht e.symm) e.symm)).trans h1)
   obtain ⟨va, vc, rfl⟩ := own_slice hown5
   have HO5 := Lib.hid hown5
   clear hown5 hg5 HA7 HR7 HS7 HRw7 HSN HH9 HO9
   go_frame
   have a5 := (blk_cell HA5.out 0).trans rfl
   have af := blk_free HA5.out 0
   have za5 := blk_lt HA5.out
   have r5 := (blk_cell HR5.out 0).trans rfl
   have rf := blk_free HR5.out 0
   have zr5 := blk_lt HR5.out
   simp only [List.getElem?_toArray, List.getElem?_cons_zero] at a5 r5
   iterate 2 (refine wpList_step (fun K hK => ?_); go_simp; refine hK _ _ ?_; clear hK K)
   refine NoPanic.normal ?_
   go_wp2
   refine bodyPost_ret (v := .agg #[.slice va (css.length + 1) vc]) (by simp [results, Tryz.results36, go_sem, r5]) rfl ⟨_, vs ++ [v9], rfl, ?_, ?_, ?_, ?_⟩
   ·exact (hb5.setCell (by dsimp only; omega) _).setCell (by dsimp only; omega) _
   ·have h1 := own_setCell_far HO5.out ⟨W.heap.size, 0, none⟩ (.slice va (css.length + 1) vc) (fun e => own_blk_ne HO5.out HA5.out (by decide) e.symm)
    exact own_setCell_far h1 _ _ (fun e => own_blk_ne HO5.out HR5.out (by decide) e.symm)
   ·exact (HRw5.out.set HA5.out (by decide)).set ((Below.heap_setCell _ _ _ _ (by dsimp only; omega)).trans HR5.out) (by decide)
   ·intro g c t h ht
    have hg := blk_lt h
    exact (Below.heap_setCell _ _ _ _ (by dsimp only; omega)).trans ((Below.heap_setCell _ _ _ _ (by dsimp only; omega)).trans (HK5.out g c t h ht))
theorem at_of {W : World} {b off : Nat} {xs : List Int} (h : IntsAt W b off xs) (i : Nat) (hi : i < xs.length) : W.cell? ⟨b, off + i, none⟩ = some (.int .i64 (xs.getD i 0)) := by
 rw [h i hi]
 simp [List.getD, List.getElem?_eq_getElem hi]
theorem own_isN {B : Nat} {ps : List Q4} {v : Value} {w : World} (h : IsN B ps v w) (hl : ps.length ≤ 1000000) : w.ownsRow B 69 4 v ps.length (ps.flatMap enc4) := by
 obtain ⟨g, rfl, hB, hh⟩ := h
 exact ⟨by rw [enc4s_len], .inr ⟨g, ps.length, (ps.flatMap enc4).toArray, rfl, hB, hh, Nat.le_refl _, by unfold maxLen; omega, by simp only [List.size_toArray]; rw [enc4s_len], by rw [← enc4s_len ps]; simp [List.take_of_length_le]⟩⟩
theorem rhole_any (k l w t : Int) (nv : Value) (n : List Int) (i : Nat) (W : World) (hn : Ints W nv n) (hb : ∀ x ∈ n, -1000000 ≤ x ∧ x ≤ 1000000) (hi : 7 + 2 * i < n.length) (hi6 : i ≤ 1000000) :
  Calls Tryz.prog 51 #[vJ k l w t nv, .int .i64 i] W fun e w' => ∃ r, e = .returned r ∧ Below W.heap.size W w' ∧ w'.ownsRow W.heap.size 69 4 r 8 ((holeE n i).flatMap enc4) := by
 obtain ⟨i0, hi0, hz0, hz1, hz2⟩ := info_parts info_plane
 have Hi0 := Lib.hid (And.intro hi0 (And.intro hz0 (And.intro hz1 hz2)))
 clear hi0 hz0 hz1 hz2
 obtain ⟨a, m, c, rfl, hm, hmc, hx⟩ := hn
 obtain ⟨b, off, rfl, hat⟩ := hx (by omega)
 have hg : ∀ j, -1000000 ≤ n.getD j 0 ∧ n.getD j 0 ≤ 1000000 := fun j => by
  by_cases h : j < n.length
  ·simp only [List.getD, List.getElem?_eq_getElem h, Option.getD_some]; exact hb _ (List.getElem_mem h)
  ·simp only [List.getD, List.getElem?_eq_none (Nat.le_of_not_lt h), Option.getD_none]; omega
 have g1 := hg 1
 have g2 := hg 2
 have g3 := hg (6 + 2 * i)
 have g4 := hg (7 + 2 * i)
 have k1 := at_of hat 1 (by omega)
 have k2 := at_of hat 2 (by omega)
 have k3 := at_of hat (6 + 2 * i) (by omega)
 have k4 := at_of hat (7 + 2 * i) (by omega)
 have Hh : Hid (holeE n i = btP 1 (n.getD (6 + 2 * i) 0 - n.getD 1 0) (n.getD (6 + 2 * i) 0 + n.getD 1 0) ++ btP 2 (n.getD (7 + 2 * i) 0 - n.getD 1 0) (n.getD (7 + 2 * i) 0 + n.getD 1 0) ++
   [(0, 1, 1, n.getD (6 + 2 * i) 0 + n.getD (7 + 2 * i) 0 + n.getD 2 0), (0, 1, -1, n.getD (6 + 2 * i) 0 - n.getD (7 + 2 * i) 0 + n.getD 2 0), (0, -1, 1, n.getD (7 + 2 * i) 0 - n.getD (6 + 2 * i) 0 + n.getD 2 0), (0, -1, -1, -(n.getD (6 + 2 * i) 0 + n.getD (7 + 2 * i) 0 - n.getD 2 0))]) := Lib.hid rfl
 rw [Hh.out]
 clear Hh
 generalize n.getD 1 0 = r at *
 generalize n.getD 2 0 = e at *
 generalize n.getD (6 + 2 * i) 0 = y at *
 generalize n.getD (7 + 2 * i) 0 = z at *
 have hc1 : 7 + 2 * i < m := by omega
 clear hg hb hx hat hi
 obtain ⟨V, HV⟩ : ∃ V, Hid (W.alloc (.cells #[.int .i64 k, .int .i64 l, .int .i64 w, .int .i64 t, .slice (some ⟨b, off, none⟩) m c] 25) = V) := ⟨_, Lib.hid rfl⟩
 have hV : Below W.heap.size W V := by rw [← HV.out]; exact bel
 have HJ : Hid (V.heap[W.heap.size]? = some (.cells #[.int .i64 k, .int .i64 l, .int .i64 w, .int .i64 t, .slice (some ⟨b, off, none⟩) m c] 25 (0, 0))) := Lib.hid (by rw [← HV.out]; exact heap_new rfl)
 have k1 := below_cell hV k1
 have k2 := below_cell hV k2
 have k3 := below_cell hV k3
 have k4 := below_cell hV k4
 have kz := World.block_lt_of_cell? V _ k1
 obtain ⟨_, _, _, _, j4, _, jz⟩ := blk5 HJ.out
 have t1 : ((6 + 2 * (i : Int)).toNat) = 6 + 2 * i := by omega
 have t2 : ((7 + 2 * (i : Int)).toNat) = 7 + 2 * i := by omega
 have q1 : (0 : Int) ≤ 6 + 2 * (i : Int) := by omega
 have q2 : (0 : Int) ≤ 7 + 2 * (i : Int) := by omega
 have q3 : 6 + 2 * (i : Int) < (m : Int) := by omega
 have q4 : 7 + 2 * (i : Int) < (m : Int) := by omega
 have q5 : (1 : Int) < (m : Int) := by omega
 have q6 : (2 : Int) < (m : Int) := by omega
 have p1 : IntKind.i64.wrap (2 * (i : Int)) = 2 * (i : Int) := IntWalk.i64_in _ (by omega)
 have p2 : IntKind.i64.wrap (6 + 2 * (i : Int)) = 6 + 2 * (i : Int) := IntWalk.i64_in _ (by omega)
 have p3 : IntKind.i64.wrap (7 + 2 * (i : Int)) = 7 + 2 * (i : Int) := IntWalk.i64_in _ (by omega)
 simp only at kz
 simp only [vJ]
 go_enter Tryz.func51, Tryz.ntmps51
 go_wp2
 rw [HV.out]
 go_quiet (fail)
 go_wp2
 go_quiet (fail)
 go_wp2_with fail
 refine (ry_any (y - r) (y + r) _ (by omega)).mono ?_
 rintro e' w1 ⟨v1, rfl, hb1, hN1⟩
 have hw1 : Below W.heap.size W w1 := below_trans (hV.drewN' _) hb1
 have HO1 := Lib.hid (own_mono (own_isN hN1 (by simp [btP])) (hV.drewN' _).size)
 clear hN1 hb1
 go_wp2_with fail
 refine (rz_any (z - r) (z + r) _ (by omega)).mono ?_
 rintro e' w2 ⟨v2, rfl, hb2, g2', rfl, hg2, hh2⟩
 have hw2 := below_trans hw1 hb2
 have HO2 := Lib.hid (own_below HO1.out hb2)
 have HH2 := Lib.hid hh2
 clear hh2 HO1 hw1 hb2 hg2
 go_wp2_with (at_builtin; refine wpList_append_own _ rfl _ _ 65 rfl W.heap.size 69 i0 (v4 (0, 0, 0, 0)) 4 32 und_planes' Hi0.out.1 Hi0.out.2.1 Hi0.out.2.2.1 Hi0.out.2.2.2 rfl (by decide) _ 2 _ rfl HO2.out ⟨g2', 0, none⟩ 2 2 ((btP 2 (z - r) (z + r)).flatMap enc4) rfl rfl (src_full HH2.out) ?c2 ?c3 ?c4 ?c5 ?_)
 case c2 => exact ones_flat
 case c3 => unfold maxLen; omega
 case c4 => omega
 case c5 => exact hw2.size
 intro v3 w3 hown3 hg3 _
 have hw3 : Below W.heap.size W w3 := hw2.grown hg3 hw2.size (fun z hz => (HO2.out.lt z hz).1)
 have HO3 := Lib.hid hown3
 clear hown3 hg3 HO2 HH2 hw2
 go_wp2_with fail
 refine (rmost_any 0 1 1 (y + z + e) _).mono ?_
 rintro e' w4 ⟨rfl, hb4⟩
 have hw4 := below_trans hw3 hb4
 have HO4 := Lib.hid (own_below HO3.out hb4)
 clear HO3 hw3 hb4
 go_wp2_with fail
 refine (rmost_any 0 1 (-1) (y - z + e) _).mono ?_
 rintro e' w5 ⟨rfl, hb5⟩
 have hw5 := below_trans hw4 hb5
 have HO5 := Lib.hid (own_below HO4.out hb5)
 clear HO4 hw4 hb5
 go_wp2_with fail
 refine (rmost_any 0 (-1) 1 (z - y + e) _).mono ?_
 rintro e' w6 ⟨rfl, hb6⟩
 have hw6 := below_trans hw5 hb6
 have HO6 := Lib.hid (own_below HO5.out hb6)
 clear HO5 hw5 hb6
 go_wp2_with fail
 refine (rleast_any 0 1 1 (y + z - e) _ (by omega) (by omega) (by omega) (by omega)).mono ?_
 rintro e' w7 ⟨rfl, hb7⟩
 have hw7 := below_trans hw6 hb7
 have HO7 := Lib.hid (own_below HO6.out hb7)
 clear HO6 hw6 hb7
 go_wp2_with (at_builtin; refine wpList_append_own _ rfl _ _ 65 rfl W.heap.size 69 i0 (v4 (0, 0, 0, 0)) 4 32 und_planes' Hi0.out.1 Hi0.out.2.1 Hi0.out.2.2.1 Hi0.out.2.2.2 rfl (by decide) _ 4 _ rfl (HO7.out.alloc _) ⟨w7.heap.size, 0, none⟩ 4 4 (([(0, 1, 1, y + z + e), (0, 1, -1, y - z + e), (0, -1, 1, z - y + e), (0, -1, -1, -(y + z - e))] : List Q4).flatMap enc4) rfl rfl (src_full (heap_new rfl)) ?c2 ?c3 ?c4 ?c5 ?_)
 case c2 => exact ones_flat
 case c3 => unfold maxLen; omega
 case c4 => omega
 case c5 => exact Nat.le_trans hw7.size (by simp)
 intro v8 w8 hown8 hg8 _
 have hw8 : Below W.heap.size W w8 := (hw7.alloc hw7.size _).grown hg8 (Nat.le_trans hw7.size (by simp)) (fun z hz => (HO7.out.lt z hz).1)
 go_wp2
 go_ret
 refine ⟨_, rfl, hw8, ?_⟩
 simpa [List.flatMap_append] using hown8
end
section
open Go.RowKit Go.Shelf
attribute [local go_sem] Ext.cell Ext.frozen
theorem Cell.okE {l w t : Int} {c e : List Q4} (h : Cell l w t c e) (hl : 1 ≤ l ∧ l ≤ 100000) (hw : 1 ≤ w ∧ w ≤ 100000) (ht : 1 ≤ t ∧ t ≤ 100000) : ∀ p ∈ boxL l w t ++ e, okPl0 p := fun p hp => by
 rcases List.mem_append.1 hp with h1 | h1
 ·exact box_ok hl hw ht p h1
 ·rcases h.sup p h1 with h2 | h2
  ·exact h.ok p h2
  ·exact box_ok hl hw ht p h2
theorem Cells.okE {l w t : Int} (hl : 1 ≤ l ∧ l ≤ 100000) (hw : 1 ≤ w ∧ w ≤ 100000) (ht : 1 ≤ t ∧ t ≤ 100000) : ∀ {cs es : List (List Q4)}, Cells l w t cs es → ∀ e ∈ es, ∀ p ∈ boxL l w t ++ e, okPl0 p
 | [], [], _ => fun _ h => by simp at h
 | c :: cs, e :: es, h => fun e' he => by
  rcases List.mem_cons.1 he with rfl | he
  ·exact h.1.okE hl hw ht
  ·exact Cells.okE hl hw ht h.2 e' he
 | [], _ :: _, h => h.elim
 | _ :: _, [], h => h.elim
theorem each_newP {w w1 : World} {T : TypeId} {g : Nat} (vs : List Value) (pls : List (List Q4)) (hlen : vs.length = pls.length) (h : ∀ i (h1 : i < vs.length) (h2 : i < pls.length), PlanesV 0 w vs[i] pls[i])
  (hb : Below w.heap.size w w1) (hg : w1.heap[g]? = some (.cells vs.toArray T (0, 0))) : Each w1 (.slice (some ⟨g, 0, none⟩) vs.length vs.length) (PlanesV 0) pls :=
 ⟨_, _, _, rfl, hlen.symm, Nat.le_refl _, fun _ => ⟨g, 0, rfl, fun i hi => ⟨vs[i]'(by omega), by
  rw [Nat.zero_add, blk_cell hg]; simp [hlen ▸ hi], (h i (by omega) hi).below hb⟩⟩⟩
def IsPls (pls : List (List Q4)) : Value → World → Prop := fun v w => Each w v (PlanesV 0) pls
theorem stab_pls (pls : List (List Q4)) : Stab (IsPls pls) := fun _ _ _ hb h => Each.below (fun _ _ _ _ hb h => PlanesV.below h hb) h hb
theorem planes_n {B : Nat} {w : World} {v : Value} {ps : List Q4} (h : IsN B ps v w) (hl : ps.length ≤ 1000000) : PlanesV 0 w v ps := planes_own (own_isN h hl)
def SolR (W : World) (l w t : Int) (es : List (List Q4)) : Ending → World → Prop := fun e w' => ∃ r vs, e = .returned (.agg #[r]) ∧ Below W.heap.size W w' ∧ w'.ownsRow W.heap.size 67 1 r es.length vs ∧ RowsV w' W.heap.size vs (es.map fun e => refN (boxL l w t ++ e))
end
section
open Go.RowKit Go.Shelf
set_option maxRecDepth 100000
attribute [local go_sem] Ext.cell Ext.frozen
theorem three {w : World} {a b c : Value} {p q r : List Q4} (h0 : PlanesV 0 w a p) (h1 : PlanesV 0 w b q) (h2 : PlanesV 0 w c r) : ∀ i (g1 : i < [a, b, c].length) (g2 : i < [p, q, r].length), PlanesV 0 w [a, b, c][i] [p, q, r][i] := by
 intro i g1 g2
 rcases (by simp at g1; omega : i = 0 ∨ i = 1 ∨ i = 2) with rfl | rfl | rfl
 ·exact h0
 ·exact h1
 ·exact h2
theorem two {w : World} {a b : Value} {p q : List Q4} (h0 : PlanesV 0 w a p) (h1 : PlanesV 0 w b q) : ∀ i (g1 : i < [a, b].length) (g2 : i < [p, q].length), PlanesV 0 w [a, b][i] [p, q][i] := by
 intro i g1 g2
 rcases (by simp at g1; omega : i = 0 ∨ i = 1) with rfl | rfl
 ·exact h0
 ·exact h1
theorem rGaps_3 (l w t : Int) (nv : Value) (n : List Int) (W : World) (hn : Ints W nv n) (g : Good 3 l w t n) (hl : n.length = 6) (hg : ¬ n.getD 1 0 = 0) :
  Calls Tryz.prog 20 #[vJ 3 l w t nv] W (SolR W l w t (gapsR 3 l n)) := by
 unfold vJ
 obtain ⟨b, off, c, rfl, hc, zb, hat⟩ := hn.at' (by omega)
 have hsz := g.sz
 have hnb := fun i => g.nb i
 have HE := Lib.hid (Cells.okE hsz.1 hsz.2.1 hsz.2.2 (gaps_cells g))
 obtain ⟨V, HV⟩ : ∃ V, Hid (((W.alloc (.cells #[.int .i64 3, .int .i64 l, .int .i64 w, .int .i64 t, .slice (some ⟨b, off, none⟩) n.length c] 25)).alloc (.cells #[.slice none 0 0] 30)).alloc (.cells #[.slice none 0 0] 30) = V) := ⟨_, Lib.hid rfl⟩
 have hV : Below W.heap.size W V := by rw [← HV.out]; exact bel
 have zV : W.heap.size + 3 ≤ V.heap.size := by rw [← HV.out]; simp
 have HJ : Hid (V.heap[W.heap.size]? = some (.cells #[.int .i64 3, .int .i64 l, .int .i64 w, .int .i64 t, .slice (some ⟨b, off, none⟩) n.length c] 25 (0, 0))) := Lib.hid (by rw [← HV.out]; exact (heap_old (by simp; omega)).trans ((heap_old (by simp)).trans (heap_new rfl)))
 have HR : Hid (V.heap[W.heap.size + 1]? = some (.cells #[.slice none 0 0] 30 (0, 0))) := Lib.hid (by rw [← HV.out]; exact (heap_old (by simp)).trans (heap_new (by simp)))
 have HT : Hid (V.heap[W.heap.size + 1 + 1]? = some (.cells #[.slice none 0 0] 30 (0, 0))) := Lib.hid (by rw [← HV.out]; exact heap_new (by simp))
 obtain ⟨j0, j1, j2, j3, j4, _, jz⟩ := blk5 HJ.out
 have c0 := below_cell hV (hat 0 (by omega))
 have c1 := below_cell hV (hat 1 (by omega))
 have c2 := below_cell hV (hat 2 (by omega))
 have c3 := below_cell hV (hat 3 (by omega))
 have c4 := below_cell hV (hat 4 (by omega))
 have c5 := below_cell hV (hat 5 (by omega))
 rw [Nat.add_zero] at c0
 have b0 := hnb 0
 have b1 := hnb 1
 obtain ⟨px, hpx⟩ : ∃ px, px = btP 0 (l - n.getD 0 0 - n.getD 1 0) (l - n.getD 0 0) := ⟨_, rfl⟩
 obtain ⟨py, hpy⟩ : ∃ py, py = btP 1 (n.getD 2 0) (n.getD 3 0) := ⟨_, rfl⟩
 obtain ⟨pz, hpz⟩ : ∃ pz, pz = btP 2 (n.getD 4 0) (n.getD 5 0) := ⟨_, rfl⟩
 have hgr : gapsR 3 l n = [[px, py, pz].flatten] := by
  rw [hpx, hpy, hpz]
  unfold gapsR
  rw [if_pos rfl, if_neg hg]
  simp
 rw [hgr] at HE ⊢
 rw [hl] at *
 have b2 := hnb 2
 have b4 := hnb 4
 have lx : px.length = 2 := by rw [hpx]; rfl
 have ly : py.length = 2 := by rw [hpy]; rfl
 have lz : pz.length = 2 := by rw [hpz]; rfl
 generalize n.getD 0 0 = x0 at *
 generalize n.getD 1 0 = x1 at *
 generalize n.getD 2 0 = x2 at *
 generalize n.getD 3 0 = x3 at *
 generalize n.getD 4 0 = x4 at *
 generalize n.getD 5 0 = x5 at *
 have HX : ∀ W', Hid (Calls Tryz.prog 40 #[.int .i64 (l - x0 - x1), .int .i64 (l - x0)] W' fun e w' => ∃ v, e = .returned v ∧ Below W'.heap.size W' w' ∧ IsN W'.heap.size px v w') := fun W' => Lib.hid (by rw [hpx]; exact rx_any _ _ W' (by omega))
 have HY : ∀ W', Hid (Calls Tryz.prog 38 #[.int .i64 x2, .int .i64 x3] W' fun e w' => ∃ v, e = .returned v ∧ Below W'.heap.size W' w' ∧ IsN W'.heap.size py v w') := fun W' => Lib.hid (by rw [hpy]; exact ry_any _ _ W' (by omega))
 have HZ : ∀ W', Hid (Calls Tryz.prog 37 #[.int .i64 x4, .int .i64 x5] W' fun e w' => ∃ v, e = .returned v ∧ Below W'.heap.size W' w' ∧ IsN W'.heap.size pz v w') := fun W' => Lib.hid (by rw [hpz]; exact rz_any _ _ W' (by omega))
 have hlen : (boxL l w t ++ [px, py, pz].flatten).length ≤ 64 := by simp [boxL, lx, ly, lz]
 have hok := HE.out _ (List.mem_singleton.2 rfl)
 have HW := fun pv W' (hB : W.heap.size ≤ W'.heap.size) hp => Lib.hid (rwith_any 3 l w t (.slice (some ⟨b, off, none⟩) 6 c) W.heap.size (.slice none 0 0) [] [] pv [px, py, pz] W' hB (World.ownsRow_nil _ _ _ _) RowsV.nil (by simp) (by simp) hp hok hlen)
 obtain ⟨es, hes⟩ : ∃ es, es = [px, py, pz].flatten := ⟨_, rfl⟩
 have Hes := Lib.hid hes
 rw [← hes]
 have q1 : IntKind.i64.wrap (l - x0) = l - x0 := IntWalk.i64_in _ (by omega)
 have q2 : IntKind.i64.wrap (l - x0 - x1) = l - x0 - x1 := IntWalk.i64_in _ (by omega)
 have hG : ∀ W', Hid (Calls Tryz.prog 50 #[.int .i64 3] W' fun e w' => e = .returned (.int .i64 1) ∧ W' = w') := fun W' => Lib.hid (gap_any 3 W')
 clear hnb hat hgr hn g HE hes hok hlen hpx hpy hpz
 have hg1 : (x1 == 0) = false := by simpa using hg
 have zb := Nat.lt_of_lt_of_le zb hV.size
 go_enter Tryz.func20, Tryz.ntmps20
 go_wp2
 rw [HV.out]
 refine wqb ?_
 repeat (first | go_big_quiet_step (fail) | quiet_step (fail))
 refine wqn fun u => ?_
 have hbu := u.below
 go_wp2_with fail
 refine ((hG _).out).mono ?_
 rintro e wG ⟨rfl, rfl⟩
 go_wp2_with fail
 refine ((hG _).out).mono ?_
 rintro e wG ⟨rfl, rfl⟩
 have c0 := below_cell hbu c0
 have c1 := below_cell hbu c1
 have c2 := below_cell hbu c2
 have c3 := below_cell hbu c3
 have c4 := below_cell hbu c4
 have c5 := below_cell hbu c5
 have zb := Nat.lt_of_lt_of_le zb hbu.size
 have hWu := below_trans hV hbu
 have HJu := Lib.hid ((hbu.block _ (blk_lt HJ.out)).trans HJ.out)
 have HRu := Lib.hid ((hbu.block _ (blk_lt HR.out)).trans HR.out)
 have HTu := Lib.hid ((hbu.block _ (blk_lt HT.out)).trans HT.out)
 clear HJ HR HT j0 j1 j2 j3 j4 jz hbu HV hV
 generalize u.val = wr at *
 clear u
 obtain ⟨j0, j1, j2, j3, j4, _, jz⟩ := blk5 HJu.out
 have s0 := (blk_cell HTu.out 0).trans rfl
 have sz := blk_lt HTu.out
 simp only [List.getElem?_toArray, List.getElem?_cons_zero] at s0
 go_wp2
 apply wp_region_growK [] [0, 1, 2, 3, 4, 5, 6, 7, 8, 9, 10, 11, 12, 13, 14, 15, 16, 17, 18, 19, 20, 21, 22, 23, 24, 25, 26, 27, 28, 29, 30, 31] 32 [33] [sv _, sv _, sv _, sv _, sv _, sv _, sv _, sv _, sv _, sv _, sv _, sv _, sv _, sv _, sv _, sv _, ⟨IsN 0 px, by first | exact stab_n _ _ | exact stab_pls _⟩, sv _, sv _, sv _, sv _, sv _, sv _, ⟨IsN 0 py, by first | exact stab_n _ _ | exact stab_pls _⟩, sv _, sv _, sv _, sv _, sv _, sv _, ⟨IsN 0 pz, by first | exact stab_n _ _ | exact stab_pls _⟩, ⟨IsPls [px, py, pz], by first | exact stab_n _ _ | exact stab_pls _⟩] (by kernel_rfl) (by kernel_rfl)
 iterate 16 ((try go_frame); refine wkV ?_; apply ex3; (focus (intro u K hK; go_simp; exact hK _ brf)); rfl)
 try go_frame
 refine wkU (fun u hR K hK => ?_) (fun o16 => ?_)
 ·clear hR
  go_simp
  refine ((HX _).out).mono ?_
  rintro e w9 ⟨r, rfl, hb9, g, rfl, hg, hh⟩
  exact hK _ _ hb9 ⟨g, rfl, Nat.zero_le _, hh⟩
 iterate 6 ((try go_frame); refine wkV ?_; apply ex3; (focus (intro u K hK; go_simp; exact hK _ brf)); rfl)
 try go_frame
 refine wkU (fun u hR K hK => ?_) (fun o23 => ?_)
 ·clear hR
  go_simp
  refine ((HY _).out).mono ?_
  rintro e w9 ⟨r, rfl, hb9, g, rfl, hg, hh⟩
  exact hK _ _ hb9 ⟨g, rfl, Nat.zero_le _, hh⟩
 iterate 6 ((try go_frame); refine wkV ?_; apply ex3; (focus (intro u K hK; go_simp; exact hK _ brf)); rfl)
 try go_frame
 refine wkU (fun u hR K hK => ?_) (fun o30 => ?_)
 ·clear hR
  go_simp
  refine ((HZ _).out).mono ?_
  rintro e w9 ⟨r, rfl, hb9, g, rfl, hg, hh⟩
  exact hK _ _ hb9 ⟨g, rfl, Nat.zero_le _, hh⟩
 try go_frame
 refine wkU (fun u hR K hK => ?_) (fun o31 => ?_)
 ·have h16 : IsN 0 px o16 u.val := hr hR 16
  have h23 : IsN 0 py o23 u.val := hr hR 23
  have h30 : IsN 0 pz o30 u.val := hr hR 30
  clear hR
  have p0 := Lib.hid (planes_n h16 (by omega))
  have p1 := Lib.hid (planes_n h23 (by omega))
  have p2 := Lib.hid (planes_n h30 (by omega))
  obtain ⟨g16, rfl, _, _⟩ := h16
  obtain ⟨g23, rfl, _, _⟩ := h23
  obtain ⟨g30, rfl, _, _⟩ := h30
  have hbx : Below u.val.heap.size u.val (u.val.alloc (.cells #[.slice (some ⟨g16, 0, none⟩) px.length px.length, .slice (some ⟨g23, 0, none⟩) py.length py.length, .slice (some ⟨g30, 0, none⟩) pz.length pz.length] 65)) := bel
  clear lx ly lz
  go_simp
  exact hK _ _ hbx (each_newP (w := u.val) [_, _, _] [px, py, pz] rfl (three p0.out p1.out p2.out) hbx (heap_new rfl))
 try go_frame
 refine wk_nil (fun u hR => ?_)
 have hb' := u.below
 generalize u.val = w' at *
 have h31 : IsPls [px, py, pz] o31 w' := hR 31 (by simp)
 have H31 := Lib.hid h31
 have hWw := below_trans hWu hb'
 have HR9 := Lib.hid ((hb'.block _ (blk_lt HRu.out)).trans HRu.out)
 clear hR h31 HX HY HZ
 simp only [oas]
 go_wp2_with fail
 refine ((HW _ _ hWw.size H31.out).out).mono ?_
 rintro e w9 ⟨r, vs, rfl, hb9, ho9, hr9, hk9⟩
 have HR8 := Lib.hid (hk9 _ _ _ HR9.out (by decide))
 have HO9 := Lib.hid ho9
 have HV9 := Lib.hid hr9
 have hW9 : Below W.heap.size W w9 := hWw.trans hb9
 clear ho9 hr9 hk9
 have r0 := (blk_cell HR8.out 0).trans rfl
 have rf := blk_free HR8.out 0
 have rz := blk_lt HR8.out
 simp only [List.getElem?_toArray, List.getElem?_cons_zero] at r0
 obtain ⟨ra, rc, rfl⟩ := own_slice HO9.out
 go_wp2
 refine NoPanic.normal ?_
 go_wp2
 refine bodyPost_ret (v := .agg #[.slice ra 1 rc]) (by simp [results, Tryz.results20, go_sem, r0]) rfl ⟨_, vs, rfl, ?_, ?_, ?_⟩
 ·exact hW9.setCell (by dsimp only; omega) _
 ·exact own_setCell_far HO9.out _ _ (fun e => own_blk_ne HO9.out HR8.out (by decide) e.symm)
 ·rw [Hes.out]
  exact HV9.out.set HR8.out (by decide)
theorem rGaps_4 (l w t : Int) (nv : Value) (n : List Int) (W : World) (hn : Ints W nv n) (g : Good 4 l w t n) (hl : n.length = 4) (hg : ¬ n.getD 1 0 = 0) :
  Calls Tryz.prog 20 #[vJ 4 l w t nv] W (SolR W l w t (gapsR 4 l n)) := by
 unfold vJ
 obtain ⟨b, off, c, rfl, hc, zb, hat⟩ := hn.at' (by omega)
 have hsz := g.sz
 have hnb := fun i => g.nb i
 have HE := Lib.hid (Cells.okE hsz.1 hsz.2.1 hsz.2.2 (gaps_cells g))
 obtain ⟨V, HV⟩ : ∃ V, Hid (((W.alloc (.cells #[.int .i64 4, .int .i64 l, .int .i64 w, .int .i64 t, .slice (some ⟨b, off, none⟩) n.length c] 25)).alloc (.cells #[.slice none 0 0] 30)).alloc (.cells #[.slice none 0 0] 30) = V) := ⟨_, Lib.hid rfl⟩
 have hV : Below W.heap.size W V := by rw [← HV.out]; exact bel
 have zV : W.heap.size + 3 ≤ V.heap.size := by rw [← HV.out]; simp
 have HJ : Hid (V.heap[W.heap.size]? = some (.cells #[.int .i64 4, .int .i64 l, .int .i64 w, .int .i64 t, .slice (some ⟨b, off, none⟩) n.length c] 25 (0, 0))) := Lib.hid (by rw [← HV.out]; exact (heap_old (by simp; omega)).trans ((heap_old (by simp)).trans (heap_new rfl)))
 have HR : Hid (V.heap[W.heap.size + 1]? = some (.cells #[.slice none 0 0] 30 (0, 0))) := Lib.hid (by rw [← HV.out]; exact (heap_old (by simp)).trans (heap_new (by simp)))
 have HT : Hid (V.heap[W.heap.size + 1 + 1]? = some (.cells #[.slice none 0 0] 30 (0, 0))) := Lib.hid (by rw [← HV.out]; exact heap_new (by simp))
 obtain ⟨j0, j1, j2, j3, j4, _, jz⟩ := blk5 HJ.out
 have c0 := below_cell hV (hat 0 (by omega))
 have c1 := below_cell hV (hat 1 (by omega))
 have c2 := below_cell hV (hat 2 (by omega))
 have c3 := below_cell hV (hat 3 (by omega))
 rw [Nat.add_zero] at c0
 have b0 := hnb 0
 have b1 := hnb 1
 obtain ⟨px, hpx⟩ : ∃ px, px = btP 0 (l - n.getD 0 0 - n.getD 1 0) (l - n.getD 0 0) := ⟨_, rfl⟩
 obtain ⟨pz, hpz⟩ : ∃ pz, pz = btP 2 (n.getD 2 0) (n.getD 3 0) := ⟨_, rfl⟩
 have hgr : gapsR 4 l n = [[px, pz].flatten] := by
  rw [hpx, hpz]
  unfold gapsR
  rw [if_neg (by decide), if_pos rfl, if_neg hg]
  simp
 rw [hgr] at HE ⊢
 rw [hl] at *
 have b2 := hnb 2
 have lx : px.length = 2 := by rw [hpx]; rfl
 have lz : pz.length = 2 := by rw [hpz]; rfl
 generalize n.getD 0 0 = x0 at *
 generalize n.getD 1 0 = x1 at *
 generalize n.getD 2 0 = x2 at *
 generalize n.getD 3 0 = x3 at *
 have HX : ∀ W', Hid (Calls Tryz.prog 40 #[.int .i64 (l - x0 - x1), .int .i64 (l - x0)] W' fun e w' => ∃ v, e = .returned v ∧ Below W'.heap.size W' w' ∧ IsN W'.heap.size px v w') := fun W' => Lib.hid (by rw [hpx]; exact rx_any _ _ W' (by omega))
 have HZ : ∀ W', Hid (Calls Tryz.prog 37 #[.int .i64 x2, .int .i64 x3] W' fun e w' => ∃ v, e = .returned v ∧ Below W'.heap.size W' w' ∧ IsN W'.heap.size pz v w') := fun W' => Lib.hid (by rw [hpz]; exact rz_any _ _ W' (by omega))
 have hlen : (boxL l w t ++ [px, pz].flatten).length ≤ 64 := by simp [boxL, lx, lz]
 have hok := HE.out _ (List.mem_singleton.2 rfl)
 have HW := fun pv W' (hB : W.heap.size ≤ W'.heap.size) hp => Lib.hid (rwith_any 4 l w t (.slice (some ⟨b, off, none⟩) 4 c) W.heap.size (.slice none 0 0) [] [] pv [px, pz] W' hB (World.ownsRow_nil _ _ _ _) RowsV.nil (by simp) (by simp) hp hok hlen)
 obtain ⟨es, hes⟩ : ∃ es, es = [px, pz].flatten := ⟨_, rfl⟩
 have Hes := Lib.hid hes
 rw [← hes]
 have q1 : IntKind.i64.wrap (l - x0) = l - x0 := IntWalk.i64_in _ (by omega)
 have q2 : IntKind.i64.wrap (l - x0 - x1) = l - x0 - x1 := IntWalk.i64_in _ (by omega)
 have hG : ∀ W', Hid (Calls Tryz.prog 50 #[.int .i64 4] W' fun e w' => e = .returned (.int .i64 1) ∧ W' = w') := fun W' => Lib.hid (gap_any 4 W')
 clear hnb hat hgr hn g HE hes hok hlen hpx hpz
 have hg1 : (x1 == 0) = false := by simpa using hg
 have zb := Nat.lt_of_lt_of_le zb hV.size
 go_enter Tryz.func20, Tryz.ntmps20
 go_wp2
 rw [HV.out]
 refine wqb ?_
 repeat (first | go_big_quiet_step (fail) | quiet_step (fail))
 refine wqn fun u => ?_
 have hbu := u.below
 go_wp2_with fail
 refine ((hG _).out).mono ?_
 rintro e wG ⟨rfl, rfl⟩
 go_wp2_with fail
 refine ((hG _).out).mono ?_
 rintro e wG ⟨rfl, rfl⟩
 have c0 := below_cell hbu c0
 have c1 := below_cell hbu c1
 have c2 := below_cell hbu c2
 have c3 := below_cell hbu c3
 have zb := Nat.lt_of_lt_of_le zb hbu.size
 have hWu := below_trans hV hbu
 have HJu := Lib.hid ((hbu.block _ (blk_lt HJ.out)).trans HJ.out)
 have HRu := Lib.hid ((hbu.block _ (blk_lt HR.out)).trans HR.out)
 have HTu := Lib.hid ((hbu.block _ (blk_lt HT.out)).trans HT.out)
 clear HJ HR HT j0 j1 j2 j3 j4 jz hbu HV hV
 generalize u.val = wr at *
 clear u
 obtain ⟨j0, j1, j2, j3, j4, _, jz⟩ := blk5 HJu.out
 have s0 := (blk_cell HTu.out 0).trans rfl
 have sz := blk_lt HTu.out
 simp only [List.getElem?_toArray, List.getElem?_cons_zero] at s0
 go_wp2
 apply wp_region_growK [] [0, 1, 2, 3, 4, 5, 6, 7, 8, 9, 10, 11, 12, 13, 14, 15, 16, 17, 18, 19, 20, 21, 22, 23, 24] 25 [26] [sv _, sv _, sv _, sv _, sv _, sv _, sv _, sv _, sv _, sv _, sv _, sv _, sv _, sv _, sv _, sv _, ⟨IsN 0 px, by first | exact stab_n _ _ | exact stab_pls _⟩, sv _, sv _, sv _, sv _, sv _, sv _, ⟨IsN 0 pz, by first | exact stab_n _ _ | exact stab_pls _⟩, ⟨IsPls [px, pz], by first | exact stab_n _ _ | exact stab_pls _⟩] (by kernel_rfl) (by kernel_rfl)
 iterate 16 ((try go_frame); refine wkV ?_; apply ex3; (focus (intro u K hK; go_simp; exact hK _ brf)); rfl)
 try go_frame
 refine wkU (fun u hR K hK => ?_) (fun o16 => ?_)
 ·clear hR
  go_simp
  refine ((HX _).out).mono ?_
  rintro e w9 ⟨r, rfl, hb9, g, rfl, hg, hh⟩
  exact hK _ _ hb9 ⟨g, rfl, Nat.zero_le _, hh⟩
 iterate 6 ((try go_frame); refine wkV ?_; apply ex3; (focus (intro u K hK; go_simp; exact hK _ brf)); rfl)
 try go_frame
 refine wkU (fun u hR K hK => ?_) (fun o23 => ?_)
 ·clear hR
  go_simp
  refine ((HZ _).out).mono ?_
  rintro e w9 ⟨r, rfl, hb9, g, rfl, hg, hh⟩
  exact hK _ _ hb9 ⟨g, rfl, Nat.zero_le _, hh⟩
 try go_frame
 refine wkU (fun u hR K hK => ?_) (fun o24 => ?_)
 ·have h16 : IsN 0 px o16 u.val := hr hR 16
  have h23 : IsN 0 pz o23 u.val := hr hR 23
  clear hR
  have p0 := Lib.hid (planes_n h16 (by omega))
  have p2 := Lib.hid (planes_n h23 (by omega))
  obtain ⟨g16, rfl, _, _⟩ := h16
  obtain ⟨g30, rfl, _, _⟩ := h23
  have hbx : Below u.val.heap.size u.val (u.val.alloc (.cells #[.slice (some ⟨g16, 0, none⟩) px.length px.length, .slice (some ⟨g30, 0, none⟩) pz.length pz.length] 65)) := bel
  clear lx lz
  go_simp
  exact hK _ _ hbx (each_newP (w := u.val) [_, _] [px, pz] rfl (two p0.out p2.out) hbx (heap_new rfl))
 try go_frame
 refine wk_nil (fun u hR => ?_)
 have hb' := u.below
 generalize u.val = w' at *
 have h31 : IsPls [px, pz] o24 w' := hR 24 (by simp)
 have H31 := Lib.hid h31
 have hWw := below_trans hWu hb'
 have HR9 := Lib.hid ((hb'.block _ (blk_lt HRu.out)).trans HRu.out)
 clear hR h31 HX HZ
 simp only [oas]
 go_wp2_with fail
 refine ((HW _ _ hWw.size H31.out).out).mono ?_
 rintro e w9 ⟨r, vs, rfl, hb9, ho9, hr9, hk9⟩
 have HR8 := Lib.hid (hk9 _ _ _ HR9.out (by decide))
 have HO9 := Lib.hid ho9
 have HV9 := Lib.hid hr9
 have hW9 : Below W.heap.size W w9 := hWw.trans hb9
 clear ho9 hr9 hk9
 have r0 := (blk_cell HR8.out 0).trans rfl
 have rf := blk_free HR8.out 0
 have rz := blk_lt HR8.out
 simp only [List.getElem?_toArray, List.getElem?_cons_zero] at r0
 obtain ⟨ra, rc, rfl⟩ := own_slice HO9.out
 go_wp2
 refine NoPanic.normal ?_
 go_wp2
 refine bodyPost_ret (v := .agg #[.slice ra 1 rc]) (by simp [results, Tryz.results20, go_sem, r0]) rfl ⟨_, vs, rfl, ?_, ?_, ?_⟩
 ·exact hW9.setCell (by dsimp only; omega) _
 ·exact own_setCell_far HO9.out _ _ (fun e => own_blk_ne HO9.out HR8.out (by decide) e.symm)
 ·rw [Hes.out]
  exact HV9.out.set HR8.out (by decide)
theorem rGaps_none (k l w t : Int) (nv : Value) (n : List Int) (W : World) (hn : Ints W nv n) (g : Good k l w t n) (h0 : 0 < n.length) (hk : gapAt k = -1) :
  Calls Tryz.prog 20 #[vJ k l w t nv] W (SolR W l w t []) := by
 unfold vJ
 obtain ⟨b, off, c, rfl, hc, zb, hat⟩ := hn.at' (by omega)
 have hsz := g.sz
 have hnb := fun i => g.nb i
 have HE := Lib.hid (Cells.okE hsz.1 hsz.2.1 hsz.2.2 (gaps_cells g))
 obtain ⟨V, HV⟩ : ∃ V, Hid (((W.alloc (.cells #[.int .i64 k, .int .i64 l, .int .i64 w, .int .i64 t, .slice (some ⟨b, off, none⟩) n.length c] 25)).alloc (.cells #[.slice none 0 0] 30)).alloc (.cells #[.slice none 0 0] 30) = V) := ⟨_, Lib.hid rfl⟩
 have hV : Below W.heap.size W V := by rw [← HV.out]; exact bel
 have zV : W.heap.size + 3 ≤ V.heap.size := by rw [← HV.out]; simp
 have HJ : Hid (V.heap[W.heap.size]? = some (.cells #[.int .i64 k, .int .i64 l, .int .i64 w, .int .i64 t, .slice (some ⟨b, off, none⟩) n.length c] 25 (0, 0))) := Lib.hid (by rw [← HV.out]; exact (heap_old (by simp; omega)).trans ((heap_old (by simp)).trans (heap_new rfl)))
 have HR : Hid (V.heap[W.heap.size + 1]? = some (.cells #[.slice none 0 0] 30 (0, 0))) := Lib.hid (by rw [← HV.out]; exact (heap_old (by simp)).trans (heap_new (by simp)))
 have HT : Hid (V.heap[W.heap.size + 1 + 1]? = some (.cells #[.slice none 0 0] 30 (0, 0))) := Lib.hid (by rw [← HV.out]; exact heap_new (by simp))
 obtain ⟨j0, j1, j2, j3, j4, _, jz⟩ := blk5 HJ.out
 have hG : ∀ W', Hid (Calls Tryz.prog 50 #[.int .i64 k] W' fun e w' => e = .returned (.int .i64 (-1)) ∧ W' = w') := fun W' => Lib.hid (by rw [← hk]; exact gap_any k W')
 clear hnb hat hn HE hsz
 go_enter Tryz.func20, Tryz.ntmps20
 go_wp2
 rw [HV.out]
 refine wqb ?_
 repeat (first | go_big_quiet_step (fail) | quiet_step (fail))
 refine wqn fun u => ?_
 have j0u := below_cell u.below j0
 have jzu := Nat.lt_of_lt_of_le jz u.below.size
 go_wp2_with fail
 refine ((hG _).out).mono ?_
 rintro e wG ⟨rfl, rfl⟩
 clear j0u jzu
 have hbu := u.below
 have hWu := below_trans hV hbu
 have HRu := Lib.hid ((hbu.block _ (blk_lt HR.out)).trans HR.out)
 have HTu := Lib.hid ((hbu.block _ (blk_lt HT.out)).trans HT.out)
 clear HJ HR HT j0 j1 j2 j3 j4 jz HV hV
 generalize u.val = wr at *
 clear u
 have s0 := (blk_cell HTu.out 0).trans rfl
 have sz := blk_lt HTu.out
 have r0 := (blk_cell HRu.out 0).trans rfl
 have rf := blk_free HRu.out 0
 have rz := blk_lt HRu.out
 simp only [List.getElem?_toArray, List.getElem?_cons_zero] at s0 r0
 go_wp2
 refine bodyPost_ret (v := .agg #[.slice none 0 0]) (by simp [results, Tryz.results20, go_sem, r0]) rfl ⟨_, [], rfl, hWu.setCell (by dsimp only; omega) _, World.ownsRow_nil _ _ _ _, RowsV.nil⟩
theorem rGaps_z3 (l w t : Int) (nv : Value) (n : List Int) (W : World) (hn : Ints W nv n) (g : Good 3 l w t n) (hlen : 1 < n.length) (hz : n.getD 1 0 = 0) :
  Calls Tryz.prog 20 #[vJ 3 l w t nv] W (SolR W l w t []) := by
 unfold vJ
 obtain ⟨b, off, c, rfl, hc, zb, hat⟩ := hn.at' (by omega)
 have hsz := g.sz
 have hnb := fun i => g.nb i
 have HE := Lib.hid (Cells.okE hsz.1 hsz.2.1 hsz.2.2 (gaps_cells g))
 obtain ⟨V, HV⟩ : ∃ V, Hid (((W.alloc (.cells #[.int .i64 3, .int .i64 l, .int .i64 w, .int .i64 t, .slice (some ⟨b, off, none⟩) n.length c] 25)).alloc (.cells #[.slice none 0 0] 30)).alloc (.cells #[.slice none 0 0] 30) = V) := ⟨_, Lib.hid rfl⟩
 have hV : Below W.heap.size W V := by rw [← HV.out]; exact bel
 have zV : W.heap.size + 3 ≤ V.heap.size := by rw [← HV.out]; simp
 have HJ : Hid (V.heap[W.heap.size]? = some (.cells #[.int .i64 3, .int .i64 l, .int .i64 w, .int .i64 t, .slice (some ⟨b, off, none⟩) n.length c] 25 (0, 0))) := Lib.hid (by rw [← HV.out]; exact (heap_old (by simp; omega)).trans ((heap_old (by simp)).trans (heap_new rfl)))
 have HR : Hid (V.heap[W.heap.size + 1]? = some (.cells #[.slice none 0 0] 30 (0, 0))) := Lib.hid (by rw [← HV.out]; exact (heap_old (by simp)).trans (heap_new (by simp)))
 have HT : Hid (V.heap[W.heap.size + 1 + 1]? = some (.cells #[.slice none 0 0] 30 (0, 0))) := Lib.hid (by rw [← HV.out]; exact heap_new (by simp))
 obtain ⟨j0, j1, j2, j3, j4, _, jz⟩ := blk5 HJ.out
 have c1 := hat 1 hlen
 rw [hz] at c1
 have c1 := below_cell hV c1
 have hG : ∀ W', Hid (Calls Tryz.prog 50 #[.int .i64 3] W' fun e w' => e = .returned (.int .i64 1) ∧ W' = w') := fun W' => Lib.hid (gap_any 3 W')
 clear hnb hat hn HE hsz
 have hlen' : (1 : Int) < (n.length : Int) := by omega
 generalize n.length = m at *
 go_enter Tryz.func20, Tryz.ntmps20
 go_wp2
 rw [HV.out]
 refine wqb ?_
 repeat (first | go_big_quiet_step (fail) | quiet_step (fail))
 refine wqn fun u => ?_
 have j0u := below_cell u.below j0
 have jzu := Nat.lt_of_lt_of_le jz u.below.size
 have zbu := Nat.lt_of_lt_of_le zb (Nat.le_trans hV.size u.below.size)
 have c1 := below_cell u.below c1
 go_wp2_with fail
 refine ((hG _).out).mono ?_
 rintro e wG ⟨rfl, rfl⟩
 go_wp2_with fail
 refine ((hG _).out).mono ?_
 rintro e wG ⟨rfl, rfl⟩
 clear j0u jzu
 have hbu := u.below
 have hWu := below_trans hV hbu
 have HRu := Lib.hid ((hbu.block _ (blk_lt HR.out)).trans HR.out)
 have HTu := Lib.hid ((hbu.block _ (blk_lt HT.out)).trans HT.out)
 clear HJ HR HT j0 j1 j2 j3 j4 jz HV hV
 generalize u.val = wr at *
 clear u
 have s0 := (blk_cell HTu.out 0).trans rfl
 have sz := blk_lt HTu.out
 have r0 := (blk_cell HRu.out 0).trans rfl
 have rf := blk_free HRu.out 0
 have rz := blk_lt HRu.out
 simp only [List.getElem?_toArray, List.getElem?_cons_zero] at s0 r0
 go_wp2
 refine bodyPost_ret (v := .agg #[.slice none 0 0]) (by simp [results, Tryz.results20, go_sem, r0]) rfl ⟨_, [], rfl, hWu.setCell (by dsimp only; omega) _, World.ownsRow_nil _ _ _ _, RowsV.nil⟩
theorem rGaps_z4 (l w t : Int) (nv : Value) (n : List Int) (W : World) (hn : Ints W nv n) (g : Good 4 l w t n) (hlen : 1 < n.length) (hz : n.getD 1 0 = 0) :
  Calls Tryz.prog 20 #[vJ 4 l w t nv] W (SolR W l w t []) := by
 unfold vJ
 obtain ⟨b, off, c, rfl, hc, zb, hat⟩ := hn.at' (by omega)
 have hsz := g.sz
 have hnb := fun i => g.nb i
 have HE := Lib.hid (Cells.okE hsz.1 hsz.2.1 hsz.2.2 (gaps_cells g))
 obtain ⟨V, HV⟩ : ∃ V, Hid (((W.alloc (.cells #[.int .i64 4, .int .i64 l, .int .i64 w, .int .i64 t, .slice (some ⟨b, off, none⟩) n.length c] 25)).alloc (.cells #[.slice none 0 0] 30)).alloc (.cells #[.slice none 0 0] 30) = V) := ⟨_, Lib.hid rfl⟩
 have hV : Below W.heap.size W V := by rw [← HV.out]; exact bel
 have zV : W.heap.size + 3 ≤ V.heap.size := by rw [← HV.out]; simp
 have HJ : Hid (V.heap[W.heap.size]? = some (.cells #[.int .i64 4, .int .i64 l, .int .i64 w, .int .i64 t, .slice (some ⟨b, off, none⟩) n.length c] 25 (0, 0))) := Lib.hid (by rw [← HV.out]; exact (heap_old (by simp; omega)).trans ((heap_old (by simp)).trans (heap_new rfl)))
 have HR : Hid (V.heap[W.heap.size + 1]? = some (.cells #[.slice none 0 0] 30 (0, 0))) := Lib.hid (by rw [← HV.out]; exact (heap_old (by simp)).trans (heap_new (by simp)))
 have HT : Hid (V.heap[W.heap.size + 1 + 1]? = some (.cells #[.slice none 0 0] 30 (0, 0))) := Lib.hid (by rw [← HV.out]; exact heap_new (by simp))
 obtain ⟨j0, j1, j2, j3, j4, _, jz⟩ := blk5 HJ.out
 have c1 := hat 1 hlen
 rw [hz] at c1
 have c1 := below_cell hV c1
 have hG : ∀ W', Hid (Calls Tryz.prog 50 #[.int .i64 4] W' fun e w' => e = .returned (.int .i64 1) ∧ W' = w') := fun W' => Lib.hid (gap_any 4 W')
 clear hnb hat hn HE hsz
 have hlen' : (1 : Int) < (n.length : Int) := by omega
 generalize n.length = m at *
 go_enter Tryz.func20, Tryz.ntmps20
 go_wp2
 rw [HV.out]
 refine wqb ?_
 repeat (first | go_big_quiet_step (fail) | quiet_step (fail))
 refine wqn fun u => ?_
 have j0u := below_cell u.below j0
 have jzu := Nat.lt_of_lt_of_le jz u.below.size
 have zbu := Nat.lt_of_lt_of_le zb (Nat.le_trans hV.size u.below.size)
 have c1 := below_cell u.below c1
 go_wp2_with fail
 refine ((hG _).out).mono ?_
 rintro e wG ⟨rfl, rfl⟩
 go_wp2_with fail
 refine ((hG _).out).mono ?_
 rintro e wG ⟨rfl, rfl⟩
 clear j0u jzu
 have hbu := u.below
 have hWu := below_trans hV hbu
 have HRu := Lib.hid ((hbu.block _ (blk_lt HR.out)).trans HR.out)
 have HTu := Lib.hid ((hbu.block _ (blk_lt HT.out)).trans HT.out)
 clear HJ HR HT j0 j1 j2 j3 j4 jz HV hV
 generalize u.val = wr at *
 clear u
 have s0 := (blk_cell HTu.out 0).trans rfl
 have sz := blk_lt HTu.out
 have r0 := (blk_cell HRu.out 0).trans rfl
 have rf := blk_free HRu.out 0
 have rz := blk_lt HRu.out
 simp only [List.getElem?_toArray, List.getElem?_cons_zero] at s0 r0
 go_wp2
 refine bodyPost_ret (v := .agg #[.slice none 0 0]) (by simp [results, Tryz.results20, go_sem, r0]) rfl ⟨_, [], rfl, hWu.setCell (by dsimp only; omega) _, World.ownsRow_nil _ _ _ _, RowsV.nil⟩
theorem rGaps_z8 (l w t : Int) (nv : Value) (n : List Int) (W : World) (hn : Ints W nv n) (g : Good 8 l w t n) (hlen : 5 < n.length) (hz : n.getD 5 0 = 0) :
  Calls Tryz.prog 20 #[vJ 8 l w t nv] W (SolR W l w t []) := by
 unfold vJ
 obtain ⟨b, off, c, rfl, hc, zb, hat⟩ := hn.at' (by omega)
 have hsz := g.sz
 have hnb := fun i => g.nb i
 have HE := Lib.hid (Cells.okE hsz.1 hsz.2.1 hsz.2.2 (gaps_cells g))
 obtain ⟨V, HV⟩ : ∃ V, Hid (((W.alloc (.cells #[.int .i64 8, .int .i64 l, .int .i64 w, .int .i64 t, .slice (some ⟨b, off, none⟩) n.length c] 25)).alloc (.cells #[.slice none 0 0] 30)).alloc (.cells #[.slice none 0 0] 30) = V) := ⟨_, Lib.hid rfl⟩
 have hV : Below W.heap.size W V := by rw [← HV.out]; exact bel
 have zV : W.heap.size + 3 ≤ V.heap.size := by rw [← HV.out]; simp
 have HJ : Hid (V.heap[W.heap.size]? = some (.cells #[.int .i64 8, .int .i64 l, .int .i64 w, .int .i64 t, .slice (some ⟨b, off, none⟩) n.length c] 25 (0, 0))) := Lib.hid (by rw [← HV.out]; exact (heap_old (by simp; omega)).trans ((heap_old (by simp)).trans (heap_new rfl)))
 have HR : Hid (V.heap[W.heap.size + 1]? = some (.cells #[.slice none 0 0] 30 (0, 0))) := Lib.hid (by rw [← HV.out]; exact (heap_old (by simp)).trans (heap_new (by simp)))
 have HT : Hid (V.heap[W.heap.size + 1 + 1]? = some (.cells #[.slice none 0 0] 30 (0, 0))) := Lib.hid (by rw [← HV.out]; exact heap_new (by simp))
 obtain ⟨j0, j1, j2, j3, j4, _, jz⟩ := blk5 HJ.out
 have c1 := hat 5 hlen
 rw [hz] at c1
 have c1 := below_cell hV c1
 have hG : ∀ W', Hid (Calls Tryz.prog 50 #[.int .i64 8] W' fun e w' => e = .returned (.int .i64 5) ∧ W' = w') := fun W' => Lib.hid (gap_any 8 W')
 clear hnb hat hn HE hsz
 have hlen' : (5 : Int) < (n.length : Int) := by omega
 generalize n.length = m at *
 go_enter Tryz.func20, Tryz.ntmps20
 go_wp2
 rw [HV.out]
 refine wqb ?_
 repeat (first | go_big_quiet_step (fail) | quiet_step (fail))
 refine wqn fun u => ?_
 have j0u := below_cell u.below j0
 have jzu := Nat.lt_of_lt_of_le jz u.below.size
 have zbu := Nat.lt_of_lt_of_le zb (Nat.le_trans hV.size u.below.size)
 have c1 := below_cell u.below c1
 go_wp2_with fail
 refine ((hG _).out).mono ?_
 rintro e wG ⟨rfl, rfl⟩
 go_wp2_with fail
 refine ((hG _).out).mono ?_
 rintro e wG ⟨rfl, rfl⟩
 clear j0u jzu
 have hbu := u.below
 have hWu := below_trans hV hbu
 have HRu := Lib.hid ((hbu.block _ (blk_lt HR.out)).trans HR.out)
 have HTu := Lib.hid ((hbu.block _ (blk_lt HT.out)).trans HT.out)
 clear HJ HR HT j0 j1 j2 j3 j4 jz HV hV
 generalize u.val = wr at *
 clear u
 have s0 := (blk_cell HTu.out 0).trans rfl
 have sz := blk_lt HTu.out
 have r0 := (blk_cell HRu.out 0).trans rfl
 have rf := blk_free HRu.out 0
 have rz := blk_lt HRu.out
 simp only [List.getElem?_toArray, List.getElem?_cons_zero] at s0 r0
 go_wp2
 refine bodyPost_ret (v := .agg #[.slice none 0 0]) (by simp [results, Tryz.results20, go_sem, r0]) rfl ⟨_, [], rfl, hWu.setCell (by dsimp only; omega) _, World.ownsRow_nil _ _ _ _, RowsV.nil⟩
end
end Go.Proofs.YtokhkhnofkcalaaGreatDoor
