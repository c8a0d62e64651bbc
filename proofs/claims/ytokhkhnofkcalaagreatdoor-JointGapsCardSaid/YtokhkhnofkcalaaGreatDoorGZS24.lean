/- texts: X1 X2 X6 X7. -/
import Derived.Test.YtokhkhnofkcalaaGreatDoorGZS21
import Derived.Test.YtokhkhnofkcalaaGreatDoorGZS22
import Derived.Test.YtokhkhnofkcalaaGreatDoorGZS23
namespace Go.Proofs.YtokhkhnofkcalaaGreatDoor
set_option maxHeartbeats 8000000
set_option linter.unusedSimpArgs false
set_option linter.unusedVariables false
section
open Go.RowKit Go.Shelf
set_option maxRecDepth 100000
attribute [local go_sem] Ext.cell Ext.frozen
def PartsR (ks : List (List (List Q4))) (gs : List (List Q4)) : Value → World → Prop := fun v w => ∃ u gv, v = .agg #[u, gv] ∧ PartsV 0 w u ks ∧ CellsV 0 w gv gs
theorem stab_pr (ks : List (List (List Q4))) (gs : List (List Q4)) : Stab (PartsR ks gs) := fun _ _ _ hb ⟨u, gv, h, k, l⟩ => ⟨u, gv, h, PartsV.below k hb, CellsV.below l hb⟩
theorem cells_nil {w : World} : CellsV 0 w (.slice none 0 0) [] := ⟨⟨none, 0, 0, rfl, rfl, Nat.le_refl _, fun h => absurd h (by omega)⟩, fun a m c _ => Nat.zero_le _⟩
def PartsPost (W : World) (ks : List (List (List Q4))) (gs : List (List Q4)) : Ending → World → Prop := fun e w' => ∃ v, e = .returned v ∧ Below W.heap.size W w' ∧ PartsR ks gs v w'
theorem cells_new1 {B : Nat} {W : World} {T : TypeId} {v : Value} {p : List Q4} (hB : B ≤ W.heap.size) (hp : PlanesV B W v p) (hb : Below W.heap.size W (W.alloc (.cells #[v] T))) : CellsV B (W.alloc (.cells #[v] T)) (.slice (some ⟨W.heap.size, 0, none⟩) 1 1) [p] :=
 ⟨each_new [v] [p] rfl rfl rfl (by
  intro q hq
  simp only [List.zip_cons_cons, List.zip_nil_right, List.mem_cons, List.not_mem_nil, or_false] at hq
  subst hq
  exact hp.below hb), At.mk hB⟩
theorem cells_new2 {B : Nat} {W : World} {T : TypeId} {v v2 : Value} {p p2 : List Q4} (hB : B ≤ W.heap.size) (hp : PlanesV B W v p) (hp2 : PlanesV B W v2 p2) (hb : Below W.heap.size W (W.alloc (.cells #[v, v2] T))) : CellsV B (W.alloc (.cells #[v, v2] T)) (.slice (some ⟨W.heap.size, 0, none⟩) 2 2) [p, p2] :=
 ⟨each_new [v, v2] [p, p2] rfl rfl rfl (by
  intro q hq
  simp only [List.zip_cons_cons, List.zip_nil_right, List.mem_cons, List.not_mem_nil, or_false] at hq
  rcases hq with rfl | rfl
  ·exact hp.below hb
  ·exact hp2.below hb), At.mk hB⟩
theorem parts_new2 {B : Nat} {W : World} {T : TypeId} {v v2 : Value} {p p2 : List (List Q4)} (hB : B ≤ W.heap.size) (hp : CellsV B W v p) (hp2 : CellsV B W v2 p2) (hb : Below W.heap.size W (W.alloc (.cells #[v, v2] T))) : PartsV B (W.alloc (.cells #[v, v2] T)) (.slice (some ⟨W.heap.size, 0, none⟩) 2 2) [p, p2] :=
 ⟨each_new [v, v2] [p, p2] rfl rfl rfl (by
  intro q hq
  simp only [List.zip_cons_cons, List.zip_nil_right, List.mem_cons, List.not_mem_nil, or_false] at hq
  rcases hq with rfl | rfl
  ·exact hp.below hb
  ·exact hp2.below hb), At.mk hB⟩
theorem shape_p {B : Nat} {w : World} {v : Value} {ps : List Q4} (h : PlanesV B w v ps) : ∃ a m c, v = .slice a m c := by obtain ⟨⟨a, m, c, h, _⟩, _⟩ := h; exact ⟨a, m, c, h⟩
theorem shape_c {B : Nat} {w : World} {v : Value} {ps : List (List Q4)} (h : CellsV B w v ps) : ∃ a m c, v = .slice a m c := by obtain ⟨⟨a, m, c, h, _⟩, _⟩ := h; exact ⟨a, m, c, h⟩
theorem shape_k {B : Nat} {w : World} {v : Value} {ps : List (List (List Q4))} (h : PartsV B w v ps) : ∃ a m c, v = .slice a m c := by obtain ⟨⟨a, m, c, h, _⟩, _⟩ := h; exact ⟨a, m, c, h⟩
theorem partsOf_1 (l w t : Int) (nv : Value) (n : List Int) (W : World) (hn : Ints W nv n) (hl : n.length = 2) (hb : ∀ i, -100000 ≤ n.getD i 0 ∧ n.getD i 0 ≤ 100000) :
  Calls Tryz.prog 31 #[vJ 1 l w t nv] W (PartsPost W (keepsC 1 l w n) (gapsC 1 l n)) := by
 unfold vJ
 obtain ⟨b, off, c, rfl, hc, zb, hat⟩ := hn.at' (by omega)
 have c0 := hat 0 (by omega)
 have c1 := hat 1 (by omega)
 rw [Nat.add_zero] at c0
 have b0 := hb 0
 have b1 := hb 1
 have hk : keepsC 1 l w n = [[[axP 2 1 (n.getD 0 0)], [axP 2 (-1) (-n.getD 1 0)]], [btP 2 (n.getD 0 0) (n.getD 1 0)]] := rfl
 have hg : gapsC 1 l n = [] := rfl
 rw [hk, hg]
 rw [hl]
 generalize n.getD 0 0 = x0 at *
 generalize n.getD 1 0 = x1 at *
 have h1 := fun W' => Lib.hid (most_any 2 x0 W' (by omega) (by omega))
 have h2 := fun W' => Lib.hid (least_any 2 x1 W' (by omega) (by omega))
 have h3 := fun W' => Lib.hid (show Calls Tryz.prog 72 #[.int .i64 2, .int .i64 x0, .int .i64 x1] W' fun e w' => ∃ r, e = .returned r ∧ Below W'.heap.size W' w' ∧ PlanesV W'.heap.size w' r (btP 2 x0 x1) from between_v 2 x0 x1 W' (by omega) (by omega) (by omega))
 generalize axP 2 1 x0 = p at *
 generalize axP 2 (-1) (-x1) = q at *
 generalize btP 2 x0 x1 = r at *
 obtain ⟨p1, p2, p3, p4⟩ := p
 obtain ⟨q1, q2, q3, q4⟩ := q
 clear hat hn hl hb hk hg b0 b1
 obtain ⟨W1, HW1⟩ : ∃ W1, Hid ((W.alloc (.cells #[.int .i64 1, .int .i64 l, .int .i64 w, .int .i64 t, .slice (some ⟨b, off, none⟩) 2 c] 25)).alloc (.cells #[.slice none 0 0, .slice none 0 0] 75) = W1) := ⟨_, Lib.hid rfl⟩
 have hW1 : Below W.heap.size W W1 := by rw [← HW1.out]; exact bel
 have HR : Hid (W1.heap[W.heap.size + 1]? = some (.cells #[.slice none 0 0, .slice none 0 0] 75 (0, 0))) := by rw [← HW1.out]; exact Lib.hid (heap_new (by simp))
 have c0 := below_cell hW1 c0
 have c1 := below_cell hW1 c1
 have zs : W.heap.size + 2 ≤ W1.heap.size := by rw [← HW1.out]; simp
 have zb := Nat.lt_of_lt_of_le zb hW1.size
 go_enter Tryz.func31, Tryz.ntmps31
 go_wp2
 rw [HW1.out]
 clear HW1
 apply wp_region_growK [] [0, 1, 2, 3, 4, 5, 6, 7, 8, 9, 10, 11, 12, 13, 14, 15, 16, 17, 18, 19, 20] 21 [] [sv _, sv _, sv _, sv _, ⟨IsP (W.heap.size + 2) [(p1, p2, p3, p4)], by first | exact stab_p _ _ | exact stab_c _ _ | exact stab_k _ _ | exact stab_kg _ _⟩, sv _, sv _, sv _, sv _, ⟨IsP (W.heap.size + 2) [(q1, q2, q3, q4)], by first | exact stab_p _ _ | exact stab_c _ _ | exact stab_k _ _ | exact stab_kg _ _⟩, ⟨IsC (W.heap.size + 2) [[(p1, p2, p3, p4)], [(q1, q2, q3, q4)]], by first | exact stab_p _ _ | exact stab_c _ _ | exact stab_k _ _ | exact stab_kg _ _⟩, sv _, sv _, sv _, sv _, sv _, sv _, ⟨IsP (W.heap.size + 2) r, by first | exact stab_p _ _ | exact stab_c _ _ | exact stab_k _ _ | exact stab_kg _ _⟩, ⟨IsC (W.heap.size + 2) [r], by first | exact stab_p _ _ | exact stab_c _ _ | exact stab_k _ _ | exact stab_kg _ _⟩, ⟨IsK (W.heap.size + 2) [[[(p1, p2, p3, p4)], [(q1, q2, q3, q4)]], [r]], by first | exact stab_p _ _ | exact stab_c _ _ | exact stab_k _ _ | exact stab_kg _ _⟩, ⟨IsKG (W.heap.size + 2) [[[(p1, p2, p3, p4)], [(q1, q2, q3, q4)]], [r]], by first | exact stab_p _ _ | exact stab_c _ _ | exact stab_k _ _ | exact stab_kg _ _⟩] (by kernel_rfl) (by kernel_rfl)
 iterate 3 ((try go_frame); refine wkV ?_; apply ex3; (focus (intro u K hK; go_simp; exact hK _ brf)); rfl)
 try go_frame
 refine wkV ?_
 apply ex3
 ·intro u K hK
  go_simp
  refine ((h1 _).out).mono ?_
  rintro e w9 ⟨rfl, hb9⟩
  exact hK _ hb9
 rfl
 try go_frame
 refine wkU (fun u hR K hK => ?_) (fun o4 => ?_)
 ·clear hR
  have zw := u.size
  go_simp
  exact hK _ _ bel (planes_new [(p1, p2, p3, p4)] rfl (by omega) rfl)
 iterate 3 ((try go_frame); refine wkV ?_; apply ex3; (focus (intro u K hK; go_simp; exact hK _ brf)); rfl)
 try go_frame
 refine wkV ?_
 apply ex3
 ·intro u K hK
  go_simp
  refine ((h2 _).out).mono ?_
  rintro e w9 ⟨rfl, hb9⟩
  exact hK _ hb9
 rfl
 try go_frame
 refine wkU (fun u hR K hK => ?_) (fun o9 => ?_)
 ·clear hR
  have zw := u.size
  go_simp
  exact hK _ _ bel (planes_new [(q1, q2, q3, q4)] rfl (by omega) rfl)
 try go_frame
 refine wkU (fun u hR K hK => ?_) (fun o10 => ?_)
 ·have h4 : IsP (W.heap.size + 2) [(p1, p2, p3, p4)] o4 u.val := hr hR 4
  have h9 : IsP (W.heap.size + 2) [(q1, q2, q3, q4)] o9 u.val := hr hR 9
  clear hR
  have zw := u.size
  obtain ⟨ya, ym, yc, rfl⟩ := shape_p h4
  obtain ⟨za, zm, zc, rfl⟩ := shape_p h9
  have H4 := Lib.hid h4
  have H9 := Lib.hid h9
  clear h4 h9
  go_simp
  exact hK _ _ bel (cells_new2 (by omega) H4.out H9.out bel)
 iterate 6 ((try go_frame); refine wkV ?_; apply ex3; (focus (intro u K hK; go_simp; exact hK _ brf)); rfl)
 try go_frame
 refine wkU (fun u hR K hK => ?_) (fun o17 => ?_)
 ·clear hR
  go_simp
  refine ((h3 _).out).mono ?_
  rintro e w9 ⟨v9, rfl, hb9, hp9⟩
  exact hK _ _ hb9 (PlanesV.mono hp9 (by have := u.size; omega))
 try go_frame
 refine wkU (fun u hR K hK => ?_) (fun o18 => ?_)
 ·have h17 : IsP (W.heap.size + 2) r o17 u.val := hr hR 17
  clear hR
  have zw := u.size
  obtain ⟨ya, ym, yc, rfl⟩ := shape_p h17
  have H4 := Lib.hid h17
  clear h17
  go_simp
  exact hK _ _ bel (cells_new1 (by omega) H4.out bel)
 try go_frame
 refine wkU (fun u hR K hK => ?_) (fun o19 => ?_)
 ·have h10 : IsC (W.heap.size + 2) [[(p1, p2, p3, p4)], [(q1, q2, q3, q4)]] o10 u.val := hr hR 10
  have h18 : IsC (W.heap.size + 2) [r] o18 u.val := hr hR 18
  clear hR
  have zw := u.size
  obtain ⟨ya, ym, yc, rfl⟩ := shape_c h10
  obtain ⟨za, zm, zc, rfl⟩ := shape_c h18
  have H4 := Lib.hid h10
  have H9 := Lib.hid h18
  clear h10 h18
  go_simp
  exact hK _ _ bel (parts_new2 (by omega) H4.out H9.out bel)
 try go_frame
 refine wkU (fun u hR K hK => ?_) (fun o20 => ?_)
 ·have h19 : IsK (W.heap.size + 2) [[[(p1, p2, p3, p4)], [(q1, q2, q3, q4)]], [r]] o19 u.val := hr hR 19
  clear hR
  obtain ⟨ya, ym, yc, rfl⟩ := shape_k h19
  have H4 := Lib.hid h19
  clear h19
  go_simp
  exact hK _ _ brf ⟨_, rfl, H4.out⟩
 try go_frame
 refine wk_nil (fun u hR => ?_)
 have hb' := u.below
 generalize u.val = w' at *
 obtain ⟨u, rfl, hp⟩ : ∃ u, o20 = .agg #[u, .slice none 0 0] ∧ PartsV (W.heap.size + 2) w' u [[[(p1, p2, p3, p4)], [(q1, q2, q3, q4)]], [r]] := hR 20 (by simp)
 have HP := Lib.hid hp
 obtain ⟨pa, pm, pc, rfl⟩ := shape_k hp
 have HR' : w'.heap[W.heap.size + 1]? = some (.cells #[.slice none 0 0, .slice none 0 0] 75 (0, 0)) := (hb'.block _ (blk_lt HR.out)).trans HR.out
 have e0 := (blk_cell HR' 0).trans rfl
 have e1 := (blk_cell HR' 1).trans rfl
 have f0 := blk_free HR' 0
 have f1 := blk_free HR' 1
 have zu := blk_lt HR'
 clear hR
 simp only [oas]
 go_wp2
 refine NoPanic.normal ?_
 go_wp2
 refine bodyPost_ret (v := .agg #[.slice pa pm pc, .slice none 0 0]) (by simp [results, Tryz.results31, go_sem, e0, e1]) rfl ⟨_, rfl, ?_, _, _, rfl, ?_, cells_nil⟩
 ·exact ((below_trans hW1 hb').setCell (by simp) _).setCell (by simp) _
 ·exact ((HP.out.far (by omega)).far (by omega)).mono (by omega)
theorem planes_ownB {B : Nat} {w : World} {v : Value} {ps : List Q4} {n : Nat} (h : w.ownsRow B 69 4 v n (ps.flatMap enc4)) : PlanesV B w v ps := by
 refine ⟨(planes_own h).1, ?_⟩
 rcases h.2 with ⟨rfl, h0⟩ | ⟨g, cap, cur, rfl, hb, _⟩
 ·exact At.none'
 ·exact At.mk hb
theorem each_vals {B : Nat} {W : World} {v : Value} {pls : List (List Q4)} (h : Each W v (PlanesV B) pls) : ∃ (us : List Value) (a : Option Addr) (c : Nat), v = .slice a pls.length c ∧ us.length = pls.length ∧ (∀ i (h1 : i < us.length) (h2 : i < pls.length), PlanesV B W us[i] pls[i]) ∧ (a = none → pls = []) ∧
  ∀ ad, a = some ad → ∀ j u, us[j]? = some u → W.cell? (ad.add j) = some u := by
 obtain ⟨a, m, c, rfl, hm, hc, hx⟩ := h
 subst hm
 by_cases h0 : 0 < pls.length
 ·obtain ⟨b, off, rfl, hi⟩ := hx h0
  refine ⟨(List.range pls.length).map fun i => (W.cell? ⟨b, off + i, none⟩).getD undef, _, c, rfl, by simp, fun i h1 h2 => ?_, fun h => (by cases h), fun ad had j u hu => ?_⟩
  ·obtain ⟨u, hu, hp⟩ := hi i h2
   simp only [List.getElem_map, List.getElem_range, hu, Option.getD_some]
   exact hp
  ·cases had
   have hj : j < pls.length := by have := (List.getElem?_eq_some_iff.1 hu).1; simpa using this
   obtain ⟨u', hu', _⟩ := hi j hj
   rw [addO, hu']
   simp [List.getElem?_map, List.getElem?_range hj, hu'] at hu
   rw [hu]
 ·have hp : pls = [] := List.length_eq_zero_iff.1 (by omega)
  subst hp
  exact ⟨[], a, c, rfl, rfl, fun i h1 => by simp at h1, fun _ => rfl, fun ad _ j u hu => by simp at hu⟩
theorem info_jcell : (Tryz.prog.info? 104).map (fun i => (i.zero, i.size, i.bytes)) = some (some (.slice none 0 0), 1, 24) := by kernel_rfl
theorem und_jcells : Tryz.prog.underlying 72 = some (.slice 104) := by kernel_rfl
theorem own_one {W : World} {T : TypeId} (v : Value) : (W.alloc (.cells #[v] T)).ownsRow W.heap.size T 1 (.slice (some ⟨W.heap.size, 0, none⟩) 1 1) 1 [v] :=
 ⟨by simp, .inr ⟨W.heap.size, 1, #[v], rfl, Nat.le_refl _, heap_alloc_new W _, Nat.le_refl _, by unfold maxLen; omega, by simp, by simp⟩⟩
theorem own_parts {w : World} {B : Nat} {v : Value} {us : List Value} {pls : List (List Q4)} {n : Nat} (h : w.ownsRow B 104 1 v n us) (hn : 0 < n) (hl : us.length = pls.length) (hp : ∀ i (h1 : i < us.length) (h2 : i < pls.length), PlanesV 0 w us[i] pls[i]) :
  ∃ g cap, v = .slice (some ⟨g, 0, none⟩) pls.length cap ∧ Parts w 4 g 0 (pls.map (List.flatMap enc4)) := by
 have hlen := h.1
 rcases h.2 with ⟨rfl, h0⟩ | ⟨g, cap, cur, rfl, hb, hh, hnc, hcm, hcs, htk⟩
 ·omega
 ·obtain rfl : n = pls.length := by omega
  refine ⟨g, cap, rfl, fun i hi => ?_⟩
  have hi' : i < pls.length := by simpa using hi
  have hiu : i < us.length := by omega
  refine ⟨us[i], ?_, ?_⟩
  ·rw [Nat.zero_add, blk_cell hh]
   have e : us[i]? = some us[i] := List.getElem?_eq_getElem hiu
   generalize us[i] = ui at *
   rw [← htk, List.getElem?_take] at e
   split at e
   ·simpa using e
   ·cases e
  ·rw [List.getElem_map]
   exact (hp i hiu hi').1
theorem cwith_own (cv : Value) (pc : List Q4) (lv : Value) (pls : List (List Q4)) (W : World) (hc : PlanesV 0 W cv pc) (hl : CellsV 0 W lv pls) (h0 : 0 < pls.length) (hn : pls.length ≤ 1000) (hps : (pc :: pls).flatten.length ≤ 1000) :
  Calls Tryz.prog 77 #[cv, lv] W fun e w' => ∃ r n, e = .returned r ∧ Below W.heap.size W w' ∧ w'.ownsRow W.heap.size 69 4 r n ((pc :: pls).flatten.flatMap enc4) := by
 obtain ⟨i0, hi0, hz0, hz1, hz2⟩ := info_parts info_jcell
 have Hi0 := Lib.hid (And.intro hi0 (And.intro hz0 (And.intro hz1 hz2)))
 clear hi0 hz0 hz1 hz2
 obtain ⟨us, a, c, rfl, hul, hup, hun, huc⟩ := each_vals hl.1
 obtain ⟨ca, cm, cc, rfl⟩ := shape_p hc
 have HC := Lib.hid hc
 have HU := Lib.hid hup
 have HUC := Lib.hid huc
 have HUN := Lib.hid hun
 have hone : ∀ u ∈ us, u.oneCell' = true := fun u hu => by
  obtain ⟨i, hi, rfl⟩ := List.getElem_of_mem hu
  obtain ⟨a, m, c, h⟩ := shape_p (hup i hi (by omega))
  rw [h]
  rfl
 have HON := Lib.hid hone
 have hfin : ∀ w1 v1, Below W.heap.size W w1 → w1.ownsRow W.heap.size 104 1 v1 (1 + pls.length) ([.slice ca cm cc] ++ us) →
   Hid (Calls Tryz.prog 71 #[v1] w1 fun e w' => ∃ r n, e = .returned r ∧ Below w1.heap.size w1 w' ∧ w'.ownsRow W.heap.size 69 4 r n ((pc :: pls).flatten.flatMap enc4)) := fun w1 v1 hb1 ho => Lib.hid (by
  obtain ⟨g, cap, rfl, hp⟩ := own_parts (pls := pc :: pls) ho (by omega) (by simp [hul]) (fun i h1 h2 => by
   cases i with
   | zero => exact hc.below hb1
   | succ i => exact (hup i (by simp at h1; omega) (by simp at h2; omega)).below hb1)
  have e1 : ((pc :: pls).map (List.flatMap enc4)).flatten = ((pc :: pls).flatten).flatMap enc4 := by
   generalize pc :: pls = ls
   induction ls with
   | nil => rfl
   | cons x ls ih => simp only [List.map_cons, List.flatten_cons, List.flatMap_append, ih]
  have hcat := concat_cell w1 g 0 cap ((pc :: pls).map (List.flatMap enc4)) hp (by simp) (by simp; omega) (fun cs hcs => by
   obtain ⟨x, _, rfl⟩ := List.mem_map.1 hcs
   exact enc4s_one x) (by rw [e1, enc4s_len]; omega)
  rw [List.length_map] at hcat
  refine hcat.mono ?_
  rintro e w2 ⟨r, m, rfl, hb2, ho2⟩
  rw [e1] at ho2
  exact ⟨r, _, rfl, hb2, own_mono ho2 hb1.size⟩)
 clear hc hup huc hun hone hl hps
 have hW1 : Below W.heap.size W (W.alloc (.cells #[.slice ca cm cc] 104)) := bel
 have HO1 := Lib.hid (own_one (W := W) (T := 104) (.slice ca cm cc))
 go_enter Tryz.func77, Tryz.ntmps77
 cases a with
 | none =>
  have hz := HUN.out rfl
  rw [hz] at h0
  simp at h0
 | some ad =>
  go_wp2_with (at_builtin; refine wpList_append_own _ rfl _ _ 72 rfl W.heap.size 104 i0 (.slice none 0 0) 1 24 und_jcells Hi0.out.1 Hi0.out.2.1 Hi0.out.2.2.1 Hi0.out.2.2.2 rfl (by decide) _ 1 _ rfl HO1.out ad pls.length c us rfl (by omega) ?c1 ?c2 ?c3 ?c4 ?c5 ?_)
  case c1 =>
   intro j u hu
   exact below_cell hW1 (HUC.out ad rfl j u hu)
  case c2 => exact HON.out
  case c3 => unfold maxLen; omega
  case c4 => omega
  case c5 => exact hW1.size
  intro v1 w1 hown1 hg1 _
  have hb1 : Below W.heap.size W w1 := hW1.grown hg1 hW1.size (fun z hz => (HO1.out.lt z hz).1)
  have HF := Lib.hid ((hfin w1 v1 hb1 hown1).out)
  clear hown1 hg1
  go_wp2_with fail
  refine (HF.out).mono ?_
  rintro e w2 ⟨r, n2, rfl, hb2, hp2⟩
  have HP2 := Lib.hid hp2
  clear hp2
  obtain ⟨ra, rc, rfl⟩ := own_slice HP2.out
  go_wp2
  go_ret
  exact ⟨_, _, rfl, below_trans hb1 hb2, HP2.out⟩
theorem cwith_any (cv : Value) (pc : List Q4) (lv : Value) (pls : List (List Q4)) (W : World) (hc : PlanesV 0 W cv pc) (hl : CellsV 0 W lv pls) (h0 : 0 < pls.length) (hn : pls.length ≤ 1000) (hps : (pc :: pls).flatten.length ≤ 1000) :
  Calls Tryz.prog 77 #[cv, lv] W fun e w' => ∃ r, e = .returned r ∧ Below W.heap.size W w' ∧ PlanesV W.heap.size w' r (pc :: pls).flatten :=
 (cwith_own cv pc lv pls W hc hl h0 hn hps).mono (by rintro e w' ⟨r, n, rfl, hb, ho⟩; exact ⟨r, rfl, hb, planes_ownB ho⟩)
end
section
open Go.RowKit Go.Shelf
theorem getD_drop' (n : List Int) (k i : Nat) : (n.drop k).getD i 0 = n.getD (k + i) 0 := by simp [List.getD_eq_getElem?_getD, List.getElem?_drop]
theorem Ints.drop' {W : World} {b off c : Nat} {n : List Int} (k : Nat) (hk : k ≤ n.length) (hc : n.length ≤ c) (hat : ∀ i, i < n.length → W.cell? ⟨b, off + i, none⟩ = some (.int .i64 (n.getD i 0))) :
  Ints W (.slice (some ⟨b, off + k, none⟩) (n.length - k) (c - k)) (n.drop k) :=
 ⟨_, _, _, rfl, by simp, by omega, fun h0 => ⟨b, off + k, rfl, fun i hi => by
  rw [getDI _ i hi, getD_drop', Nat.add_assoc]
  exact hat (k + i) (by simp at hi; omega)⟩⟩
theorem cells_nilB {B : Nat} {w : World} : CellsV B w (.slice none 0 0) [] := ⟨⟨none, 0, 0, rfl, rfl, Nat.le_refl _, fun h => absurd h (by omega)⟩, At.none'⟩
theorem cells_own {w : World} {B : Nat} {v : Value} {us : List Value} {n : Nat} {cs : List (List Q4)} (h : w.ownsRow B 104 1 v n us) (hl : us.length = cs.length) (hp : ∀ i (h1 : i < us.length) (h2 : i < cs.length), PlanesV B w us[i] cs[i]) : CellsV B w v cs := by
 have hlen := h.1
 rcases h.2 with ⟨rfl, h0⟩ | ⟨g, cap, cur, rfl, hb, hh, hnc, hcm, hcs, htk⟩
 ·subst h0
  obtain rfl : cs = [] := List.length_eq_zero_iff.1 (by omega)
  exact cells_nilB
 ·refine ⟨⟨_, _, _, rfl, by omega, hnc, fun _ => ⟨g, 0, rfl, fun i hi => ?_⟩⟩, At.mk hb⟩
  have hiu : i < us.length := by omega
  refine ⟨us[i], ?_, hp i hiu hi⟩
  rw [Nat.zero_add, blk_cell hh]
  have e : us[i]? = some us[i] := List.getElem?_eq_getElem hiu
  generalize us[i] = ui at *
  rw [← htk, List.getElem?_take] at e
  split at e
  ·simpa using e
  ·cases e
end
section
open Go.RowKit Go.Shelf
set_option maxRecDepth 100000
attribute [local go_sem] Ext.cell Ext.frozen
def PO (B : Nat) (ps : List Q4) : Value → World → Prop := fun v w => w.ownsRow B 69 4 v ps.length (ps.flatMap enc4)
def CO (B : Nat) (cs : List (List Q4)) : Value → World → Prop := fun v w => ∃ vs, w.ownsRow B 104 1 v cs.length vs ∧ RowsV w B vs cs
def KO (B : Nat) (ks : List (List (List Q4))) : Value → World → Prop := fun v w => ∃ vs, w.ownsRow B 72 1 v ks.length vs ∧ vs.length = ks.length ∧ ∀ i (h1 : i < vs.length) (h2 : i < ks.length), CO B ks[i] vs[i] w
def FO (B : Nat) (cs : List (List Q4)) : Value → World → Prop := fun v w => (∃ g, v = .slice (some ⟨g, 0, none⟩) cs.length cs.length) ∧ CO B cs v w
theorem stab_po (B : Nat) (ps : List Q4) : Stab (PO B ps) := fun _ _ _ hb h => own_below h hb
theorem stab_co (B : Nat) (cs : List (List Q4)) : Stab (CO B cs) := fun _ _ _ hb ⟨vs, h1, h2⟩ => ⟨vs, own_below h1 hb, h2.below hb⟩
theorem stab_ko (B : Nat) (ks : List (List (List Q4))) : Stab (KO B ks) := fun _ _ _ hb ⟨vs, h1, h2, h3⟩ => ⟨vs, own_below h1 hb, h2, fun i a b => stab_co B _ _ _ _ hb (h3 i a b)⟩
theorem stab_fo (B : Nat) (cs : List (List Q4)) : Stab (FO B cs) := fun _ _ _ hb ⟨h, k⟩ => ⟨h, stab_co B _ _ _ _ hb k⟩
def sPO (B : Nat) (ps : List Q4) : SP := ⟨PO B ps, stab_po B ps⟩
def sFO (B : Nat) (cs : List (List Q4)) : SP := ⟨FO B cs, stab_fo B cs⟩
def sCO (B : Nat) (cs : List (List Q4)) : SP := ⟨CO B cs, stab_co B cs⟩
def sKO (B : Nat) (ks : List (List (List Q4))) : SP := ⟨KO B ks, stab_ko B ks⟩
theorem PO.mono {B B' : Nat} {ps : List Q4} {v : Value} {w : World} (h : PO B ps v w) (hb : B' ≤ B) : PO B' ps v w := own_mono h hb
theorem PO.below {B : Nat} {ps : List Q4} {v : Value} {w w' : World} (h : PO B ps v w) (hb : Below w.heap.size w w') : PO B ps v w' := own_below h hb
theorem CO.mono {B B' : Nat} {cs : List (List Q4)} {v : Value} {w : World} (h : CO B cs v w) (hb : B' ≤ B) : CO B' cs v w := by obtain ⟨vs, h1, h2⟩ := h; exact ⟨vs, own_mono h1 hb, h2.mono hb⟩
theorem KO.mono {B B' : Nat} {ks : List (List (List Q4))} {v : Value} {w : World} (h : KO B ks v w) (hb : B' ≤ B) : KO B' ks v w := by obtain ⟨vs, h1, h2, h3⟩ := h; exact ⟨vs, own_mono h1 hb, h2, fun i a b => (h3 i a b).mono hb⟩
theorem CO.set {B g i : Nat} {u : Value} {cs : List (List Q4)} {v : Value} {w : World} {c : Array Value} {T : TypeId} (h : CO B cs v w) (hg : w.heap[g]? = some (.cells c T (0, 0))) (h1 : 69 ≠ T) (h2 : 104 ≠ T) : CO B cs v (w.setCell ⟨g, i, none⟩ u) := by
 obtain ⟨vs, ho, hr⟩ := h
 exact ⟨vs, own_setCell_far ho _ _ (fun e => own_blk_ne ho hg h2 e.symm), hr.set hg h1⟩
theorem KO.set {B g i : Nat} {u : Value} {ks : List (List (List Q4))} {v : Value} {w : World} {c : Array Value} {T : TypeId} (h : KO B ks v w) (hg : w.heap[g]? = some (.cells c T (0, 0))) (h1 : 69 ≠ T) (h2 : 104 ≠ T) (h3 : 72 ≠ T) : KO B ks v (w.setCell ⟨g, i, none⟩ u) := by
 obtain ⟨vs, ho, hl, hr⟩ := h
 exact ⟨vs, own_setCell_far ho _ _ (fun e => own_blk_ne ho hg h3 e.symm), hl, fun i a b => (hr i a b).set hg h1 h2⟩
theorem PO.planes {B : Nat} {ps : List Q4} {v : Value} {w : World} (h : PO B ps v w) : PlanesV B w v ps := planes_ownB h
theorem rows_planes {B : Nat} {cs : List (List Q4)} {vs : List Value} {w : World} (h : RowsV w B vs cs) : ∀ i (h1 : i < vs.length) (h2 : i < cs.length), PlanesV B w vs[i] cs[i] := fun i h1 h2 => planes_ownB (h.2 i h1 h2)
theorem CO.cells {B : Nat} {cs : List (List Q4)} {v : Value} {w : World} (h : CO B cs v w) : CellsV B w v cs := by
 obtain ⟨vs, ho, hr⟩ := h
 exact cells_own ho hr.1 (rows_planes hr)
theorem KO.parts {B : Nat} {ks : List (List (List Q4))} {v : Value} {w : World} (h : KO B ks v w) : PartsV B w v ks := by
 obtain ⟨vs, ho, hl, hp⟩ := h
 have hlen := ho.1
 rcases ho.2 with ⟨rfl, h0⟩ | ⟨g, cap, cur, rfl, hb, hh, hnc, hcm, hcs, htk⟩
 ·obtain rfl : ks = [] := List.length_eq_zero_iff.1 (by omega)
  exact ⟨⟨none, 0, 0, rfl, rfl, Nat.le_refl _, fun h => absurd h (by omega)⟩, At.none'⟩
 ·refine ⟨⟨_, _, _, rfl, by omega, hnc, fun _ => ⟨g, 0, rfl, fun i hi => ?_⟩⟩, At.mk hb⟩
  have hiu : i < vs.length := by omega
  refine ⟨vs[i], ?_, (hp i hiu hi).cells⟩
  rw [Nat.zero_add, blk_cell hh]
  have e : vs[i]? = some vs[i] := List.getElem?_eq_getElem hiu
  generalize vs[i] = ui at *
  rw [← htk, List.getElem?_take] at e
  split at e
  ·simpa using e
  ·cases e
theorem PO.shape {B : Nat} {ps : List Q4} {v : Value} {w : World} (h : PO B ps v w) : ∃ a c, v = .slice a ps.length c := own_slice h
theorem CO.shape {B : Nat} {cs : List (List Q4)} {v : Value} {w : World} (h : CO B cs v w) : ∃ a c, v = .slice a cs.length c := by obtain ⟨vs, h, _⟩ := h; exact own_slice h
theorem KO.shape {B n : Nat} {ks : List (List (List Q4))} {v : Value} {w : World} (h : KO B ks v w) (hn : ks.length = n := by rfl) : ∃ a c, v = .slice a n c := by subst hn; obtain ⟨vs, h, _⟩ := h; exact own_slice h
def Alls {α : Type} (P : α → Value → World → Prop) (w : World) : List Value → List α → Prop
 | [], [] => True
 | v :: vs, c :: cs => P c v w ∧ Alls P w vs cs
 | _, _ => False
theorem Alls.len {α : Type} {P : α → Value → World → Prop} {w : World} : ∀ {vs : List Value} {cs : List α}, Alls P w vs cs → vs.length = cs.length
 | [], [], _ => rfl
 | _ :: _, _ :: _, h => by rw [List.length_cons, List.length_cons, Alls.len h.2]
 | [], _ :: _, h => h.elim
 | _ :: _, [], h => h.elim
theorem Alls.at {α : Type} {P : α → Value → World → Prop} {w : World} : ∀ {vs : List Value} {cs : List α}, Alls P w vs cs → ∀ i (h1 : i < vs.length) (h2 : i < cs.length), P cs[i] vs[i] w
 | [], [], _, i, h1, _ => by simp at h1
 | _ :: _, _ :: _, h, 0, _, _ => h.1
 | _ :: _, _ :: _, h, i + 1, h1, h2 => Alls.at h.2 i (by simpa using h1) (by simpa using h2)
 | [], _ :: _, h, _, _, _ => h.elim
 | _ :: _, [], h, _, _, _ => h.elim
theorem own_lit {B : Nat} {W : World} {T : TypeId} (vs : List Value) (n size : Nat) (hB : B ≤ W.heap.size) (hs : vs.length = n * size) (hn : n ≤ 1000000) : (W.alloc (.cells vs.toArray T)).ownsRow B T size (.slice (some ⟨W.heap.size, 0, none⟩) n n) n vs := by
 have := World.ownsRow_lit (base := B) (e := T) (size := size) W vs.toArray n hB (by unfold maxLen; omega) (by simpa using hs)
 simpa using this
theorem po_new {B : Nat} {W : World} (ps : List Q4) (hB : B ≤ W.heap.size) (hn : ps.length ≤ 1000000 := by simp) : PO B ps (.slice (some ⟨W.heap.size, 0, none⟩) ps.length ps.length) (W.alloc (.cells (ps.flatMap enc4).toArray 69)) :=
 own_lit (ps.flatMap enc4) ps.length 4 hB (enc4s_len ps) hn
theorem po_newg {B g : Nat} {W : World} (ps : List Q4) (hg : g = W.heap.size) (hB : B ≤ W.heap.size) (hn : ps.length ≤ 1000000 := by simp) : PO B ps (.slice (some ⟨g, 0, none⟩) ps.length ps.length) (W.alloc (.cells (ps.flatMap enc4).toArray 69)) := by
 subst hg
 exact po_new ps hB hn
theorem fo_new {B : Nat} {W : World} (vs : List Value) (cs : List (List Q4)) (hB : B ≤ W.heap.size) (h : Alls (PO B) W vs cs) (hb : Below W.heap.size W (W.alloc (.cells vs.toArray 104))) (hn : cs.length ≤ 1000000 := by simp) : FO B cs (.slice (some ⟨W.heap.size, 0, none⟩) cs.length cs.length) (W.alloc (.cells vs.toArray 104)) :=
 ⟨⟨_, rfl⟩, vs, own_lit vs cs.length 1 hB (by rw [h.len]; simp) hn, h.len, fun i h1 h2 => stab_po _ _ _ _ _ hb (h.at i h1 h2)⟩
theorem ko_new {B : Nat} {W : World} (vs : List Value) (ks : List (List (List Q4))) (hB : B ≤ W.heap.size) (h : Alls (CO B) W vs ks) (hb : Below W.heap.size W (W.alloc (.cells vs.toArray 72))) (hn : ks.length ≤ 1000000 := by simp) : KO B ks (.slice (some ⟨W.heap.size, 0, none⟩) ks.length ks.length) (W.alloc (.cells vs.toArray 72)) :=
 ⟨vs, own_lit vs ks.length 1 hB (by rw [h.len]; simp) hn, h.len, fun i h1 h2 => stab_co _ _ _ _ _ hb (h.at i h1 h2)⟩
theorem fo_app {B : Nat} {W : World} {v xv : Value} {cs ds : List (List Q4)} {ty : TypeId} (hB : B ≤ W.heap.size) (hv : FO B cs v W) (hx : FO B ds xv W) (h0 : 0 < ds.length) (hlen : cs.length + ds.length ≤ 100000) :
  ∃ v' w', (Builtin.append_ #[72, 72] ty #[v, xv]).run Tryz.prog W = .ok v' w' ∧ Below W.heap.size W w' ∧ CO B (cs ++ ds) v' w' := by
 obtain ⟨i0, hi0, hz0, hz1, hz2⟩ := info_parts info_jcell
 obtain ⟨⟨g, rfl⟩, us, hu1, hu2⟩ := hv
 obtain ⟨⟨g2, rfl⟩, ws, hw1, hw2⟩ := hx
 obtain ⟨v', w', h1, h2, h3⟩ := append_new (P := Tryz.prog) (w := W) 72 ty 104 i0 (.slice none 0 0) 1 24 und_jcells hi0 hz0 hz1 hz2 rfl (by decide) ⟨g, 0, none⟩ cs.length cs.length us hu1.1 (hu1.cells rfl) ⟨g2, 0, none⟩ ds.length ds.length ws hw1.1 (hw1.cells rfl) (by omega) (by unfold maxLen; omega) (by omega)
 refine ⟨v', w', h1, h3, us ++ ws, ?_, by simp [hu2.1, hw2.1], fun i h4 h5 => ?_⟩
 ·rw [List.length_append]
  exact own_mono h2 hB
 ·by_cases hi : i < us.length
  ·have hc : i < cs.length := by rw [← hu2.1]; exact hi
   rw [List.getElem_append_left hi, List.getElem_append_left hc]
   exact own_below (hu2.2 i hi hc) h3
  ·have hc : ¬ i < cs.length := by rw [← hu2.1]; exact hi
   rw [List.getElem_append_right (by omega), List.getElem_append_right (by omega)]
   have := hw2.2 (i - us.length) (by simp at h4; omega) (by have := hu2.1; simp at h5; omega)
   have e := hu2.1
   simp only [e] at this ⊢
   exact own_below this h3
theorem between_o (ax : Nat) (lo hi : Int) (W : World) (hx : ax ≤ 2) (hlo : -1000000000 ≤ lo ∧ lo ≤ 1000000000) (hhi : -1000000000 ≤ hi ∧ hi ≤ 1000000000) :
  Calls Tryz.prog 72 #[.int .i64 ax, .int .i64 lo, .int .i64 hi] W fun e w' => ∃ r, e = .returned r ∧ Below W.heap.size W w' ∧ PO W.heap.size (btP ax lo hi) r w' := by
 have h1 := fun W' => Lib.hid (least_any ax lo W' hx hlo)
 have h2 := fun W' => Lib.hid (most_any ax hi W' hx hhi)
 have hk : btP ax lo hi = [axP ax (-1) (-lo), axP ax 1 hi] := rfl
 rw [hk]
 generalize axP ax (-1) (-lo) = p at *
 generalize axP ax 1 hi = q at *
 obtain ⟨p1, p2, p3, p4⟩ := p
 obtain ⟨q1, q2, q3, q4⟩ := q
 clear hk
 go_enter Tryz.func72, Tryz.ntmps72
 go_wp2_with fail
 refine ((h1 _).out).mono ?_
 rintro e w1 ⟨rfl, hb1⟩
 go_wp2_with fail
 refine ((h2 _).out).mono ?_
 rintro e w2 ⟨rfl, hb2⟩
 have hz := (below_trans hb1 hb2).size
 go_wp2
 go_ret
 exact ⟨_, rfl, below_trans (below_trans hb1 hb2) bel, po_new [(p1, p2, p3, p4), (q1, q2, q3, q4)] hz⟩
theorem cwith_o (cv : Value) (pc : List Q4) (lv : Value) (pls : List (List Q4)) (W : World) (hc : PlanesV 0 W cv pc) (hl : CellsV 0 W lv pls) (h0 : 0 < pls.length) (hn : pls.length ≤ 1000) (hps : (pc :: pls).flatten.length ≤ 1000) :
  Calls Tryz.prog 77 #[cv, lv] W fun e w' => ∃ r, e = .returned r ∧ Below W.heap.size W w' ∧ PO W.heap.size (pc :: pls).flatten r w' :=
 (cwith_own cv pc lv pls W hc hl h0 hn hps).mono (by
  rintro e w' ⟨r, n, rfl, hb, ho⟩
  have h1 := ho.1
  rw [enc4s_len] at h1
  obtain rfl : n = (pc :: pls).flatten.length := by omega
  exact ⟨r, rfl, hb, ho⟩)
def KGO (B : Nat) (ks : List (List (List Q4))) : Value → World → Prop := fun v w => ∃ u, v = .agg #[u, .slice none 0 0] ∧ KO B ks u w
theorem stab_kgo (B : Nat) (ks : List (List (List Q4))) : Stab (KGO B ks) := fun _ _ _ hb ⟨u, h, k⟩ => ⟨u, h, stab_ko _ _ _ _ _ hb k⟩
def PartsPB (W : World) (ks : List (List (List Q4))) (gs : List (List Q4)) : Ending → World → Prop := fun e w' => ∃ u gv, e = .returned (.agg #[u, gv]) ∧ Below W.heap.size W w' ∧ PartsV W.heap.size w' u ks ∧ CellsV W.heap.size w' gv gs
theorem parts_set {w : World} {g : Nat} {x y : Value} (h : w.heap[g]? = some (.cells #[x, y] 75 (0, 0))) (a b : Value) : ((w.setCell ⟨g, 0, none⟩ a).setCell ⟨g, 1, none⟩ b).heap[g]? = some (.cells #[a, b] 75 (0, 0)) := blk_set (blk_set h 0 a) 1 b
theorem KO.put {B g : Nat} {ks : List (List (List Q4))} {v x y : Value} {w : World} (h : KO B ks v w) (hg : w.heap[g]? = some (.cells #[x, y] 75 (0, 0))) (a b : Value) : KO B ks v ((w.setCell ⟨g, 0, none⟩ a).setCell ⟨g, 1, none⟩ b) :=
 (h.set hg (by decide) (by decide) (by decide)).set (blk_set hg 0 a) (by decide) (by decide) (by decide)
theorem CO.put {B g : Nat} {ks : List (List Q4)} {v x y : Value} {w : World} (h : CO B ks v w) (hg : w.heap[g]? = some (.cells #[x, y] 75 (0, 0))) (a b : Value) : CO B ks v ((w.setCell ⟨g, 0, none⟩ a).setCell ⟨g, 1, none⟩ b) :=
 (h.set hg (by decide) (by decide)).set (blk_set hg 0 a) (by decide) (by decide)
theorem blk2 {w : World} {g : Nat} {x y : Value} {T : TypeId} (h : w.heap[g]? = some (.cells #[x, y] T (0, 0))) : w.cell? ⟨g, 0, none⟩ = some x ∧ w.cell? ⟨g, 1, none⟩ = some y ∧ (∀ i, w.frozen? ⟨g, i, none⟩ = false) ∧ g < w.heap.size :=
 ⟨(blk_cell h 0).trans rfl, (blk_cell h 1).trans rfl, fun i => blk_free h i, blk_lt h⟩
end
end Go.Proofs.YtokhkhnofkcalaaGreatDoor
