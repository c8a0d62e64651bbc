/- texts: J9 J10 J11 J13 J14 V2. -/
import Derived.Test.YtokhkhnofkcalaaGreatDoorGZS15
import Derived.Test.YtokhkhnofkcalaaGreatDoorGZShelf
import Derived.Lib.AppendIntMem
import Derived.Lib.ItoaLen
namespace Go.Proofs.YtokhkhnofkcalaaGreatDoor
set_option maxHeartbeats 8000000
set_option linter.unusedSimpArgs false
set_option linter.unusedVariables false
section
open Go.RowKit Go.Shelf
attribute [local go_sem] Ext.cell Ext.frozen
def nameB : List ByteArray := [⟨#[108, 97, 112]⟩, ⟨#[98, 114, 105, 100, 108, 101]⟩, ⟨#[116, 101, 110, 111, 110]⟩, ⟨#[115, 116, 111, 112, 112, 101, 100]⟩, ⟨#[116, 111, 110, 103, 117, 101]⟩, ⟨#[100, 111, 118, 101, 116, 97, 105, 108]⟩, ⟨#[115, 99, 97, 114, 102]⟩, ⟨#[102, 105, 110, 103, 101, 114, 115]⟩, ⟨#[100, 111, 119, 101, 108, 115]⟩, ⟨#[115, 112, 108, 105, 110, 101]⟩, ⟨#[116, 104, 114, 101, 101]⟩]
theorem names_any (w : World) : Calls Tryz.prog 62 #[] w fun e w' => e = .returned (.slice (some ⟨w.heap.size, 0, none⟩) 11 11) ∧ w' = w.alloc (.cells (nameB.map Value.string).toArray 9) := by
 go_enter Tryz.func62, Tryz.ntmps62
 go_wp2
 go_ret
 exact ⟨rfl, rfl⟩
theorem tab_below {w w' : World} (h : Lib.TabIs Tryz.prog w "internal/strconv.uint64pow10" .u64 Lib.pow10Tab) (hb : Below w.heap.size w w') : Lib.TabIs Tryz.prog w' "internal/strconv.uint64pow10" .u64 Lib.pow10Tab := by
 obtain ⟨g, hg⟩ := Option.isSome_iff_exists.1 (show (Tryz.prog.globalNamed "internal/strconv.uint64pow10").isSome = true by kernel_rfl)
 unfold Lib.TabIs World.var? at h ⊢
 rw [hg] at h ⊢
 simp only [Option.bind_some] at h ⊢
 have hlt : g < w.heap.size := by
  rcases Nat.lt_or_ge g w.heap.size with h' | h'
  ·exact h'
  ·rw [Array.getElem?_eq_none h'] at h; cases h
 rw [hb.block g hlt]
 exact h
theorem itoa_any (n : Int) (hn : -1000000000 ≤ n ∧ n ≤ 1000000000) (w : World) (htab : Lib.TabIs Tryz.prog w "internal/strconv.uint64pow10" .u64 Lib.pow10Tab) :
  Calls Tryz.prog 64 #[.int .i64 n] w (Ret w (.string ⟨(Lib.itoa n).toArray⟩)) :=
 (Tryz.strconv_Itoa n (by omega) (by omega) w htab).mono (by
  rintro e w' ⟨rfl, k, os, rfl⟩
  exact ⟨rfl, Lib.below_grow _ _ (Nat.le_refl _) k os⟩)
structure Shut (p : Prop) : Prop where
 out : p
theorem two_of {A B p : Prop} (h1 : Shut p → A) (h2 : Shut p → B) (h : p) : A ∧ B := ⟨h1 ⟨h⟩, h2 ⟨h⟩⟩
def txt (x : Int) : ByteArray := ⟨(Lib.itoa x).toArray⟩
def printW (k l w t : Int) (n : List Int) : List ByteArray := nameB.getD k.toNat ByteArray.empty :: ([l, w, t] ++ n).map txt
def printS (k l w t : Int) (n : List Int) : ByteArray := ⟨(Lib.join ((printW k l w t n).map (·.data.toList)) [32]).toArray⟩
theorem info_str : (Tryz.prog.info? 9).map (fun i => (i.zero, i.size, i.bytes)) = some (some (.string ⟨#[]⟩), 1, 16) := by kernel_rfl
theorem und_strs : Tryz.prog.underlying 96 = some (.slice 9) := by kernel_rfl
theorem int_one (xs : List Int) : ∀ u ∈ xs.map (Value.int .i64), u.oneCell' = true := fun u hu => by
 obtain ⟨x, _, rfl⟩ := List.mem_map.1 hu; rfl
theorem raw_ints {W : World} {b off m c : Nat} {xs : List Int} (h : IntsAt W b off xs) (hl : xs.length = m) : Raw W 1 (.slice (some ⟨b, off, none⟩) m c) (xs.map (Value.int .i64)) :=
 ⟨_, _, _, rfl, by simp [hl], (fun h => by cases h), fun ad ha j u hu => by
  cases ha
  have hj : j < xs.length := by simpa using (List.getElem?_eq_some_iff.1 hu).1
  have := h j hj
  have hu' : u = .int .i64 xs[j] := by rw [List.getElem?_map, List.getElem?_eq_getElem hj] at hu; simpa using hu.symm
  subst hu'
  by_cases h0 : j = 0
  ·subst h0; simpa [Addr.add] using this
  ·simpa [Addr.add, h0] using this⟩
theorem own_ints {w : World} {base : Nat} {e : TypeId} {v : Value} {n : Nat} {xs : List Int} (h : w.ownsRow base e 1 v n (xs.map (Value.int .i64))) (h0 : 0 < xs.length) :
  n = xs.length ∧ ∃ g cap cur, v = .slice (some ⟨g, 0, none⟩) n cap ∧ w.heap[g]? = some (.cells cur e (0, 0)) ∧ ∀ i (hi : i < xs.length), cur[i]? = some (.int .i64 xs[i]) := by
 have hl : n = xs.length := by have := h.1; simp at this; omega
 rcases h.2 with ⟨_, h1⟩ | ⟨g, cap, cur, rfl, _, hh, _, _, _, ht⟩
 ·omega
 ·refine ⟨hl, g, cap, cur, rfl, hh, fun i hi => ?_⟩
  have h2 : (cur.toList.take (n * 1))[i]? = (xs.map (Value.int .i64))[i]? := by rw [ht]
  rw [List.getElem?_take_of_lt (by omega), List.getElem?_map, List.getElem?_eq_getElem hi] at h2
  simpa using h2
theorem own_strs {w : World} {base : Nat} {e : TypeId} {v : Value} {n : Nat} {xs : List ByteArray} (h : w.ownsRow base e 1 v n (xs.map Value.string)) (h0 : 0 < xs.length) :
  ∃ g cap, v = .slice (some ⟨g, 0, none⟩) xs.length cap ∧ xs.length ≤ cap ∧ g < w.heap.size ∧ ∀ (j : Nat) x, xs[j]? = some x → w.cell? ⟨g, 0 + j, none⟩ = some (.string x) := by
 have hl : n = xs.length := by have := h.1; simp at this; omega
 rcases h.2 with ⟨_, h1⟩ | ⟨g, cap, cur, rfl, _, hh, hc, _, _, ht⟩
 ·omega
 ·subst hl
  refine ⟨g, cap, rfl, hc, blk_lt hh, fun i x hx => ?_⟩
  obtain ⟨hi, rfl⟩ := List.getElem?_eq_some_iff.1 hx
  have h2 : (cur.toList.take (xs.length * 1))[i]? = (xs.map Value.string)[i]? := by rw [ht]
  rw [List.getElem?_take_of_lt (by omega), List.getElem?_map, List.getElem?_eq_getElem hi] at h2
  rw [blk_cell hh, Nat.zero_add]
  simpa using h2
set_option maxRecDepth 100000 in
theorem Print_ok (k l w t : Int) (nv : Value) (n : List Int) (W : World) (hn : Ints W nv n) (h0 : 0 < n.length) (hm : n.length ≤ 1000) (hk : 0 ≤ k ∧ k ≤ 10)
  (hb : ∀ x ∈ [l, w, t] ++ n, -1000000000 ≤ x ∧ x ≤ 1000000000) (htab : Lib.TabIs Tryz.prog W "internal/strconv.uint64pow10" .u64 Lib.pow10Tab)
  (hc : ∀ W', Below W.heap.size W W' → Calls Tryz.prog 48 #[vJ k l w t nv] W' (Ret W' (.int .i64 0)))
  (hlen : (Lib.join ((printW k l w t n).map (·.data.toList)) [32]).length ≤ 1000000) :
  Calls Tryz.prog 26 #[vJ k l w t nv] W (Ret W (.tuple #[.string (printS k l w t n), .int .i64 0])) := by
 unfold vJ at *
 obtain ⟨a, m, c, rfl, hm', hcc, hx⟩ := hn
 have Hc := fun W' h => Lib.hid (hc W' h)
 have HT := Lib.hid htab
 have HL := Lib.hid hlen
 have HB := Lib.hid hb
 clear hc htab hlen hb
 obtain ⟨b, off, rfl, hi⟩ := hx (by omega)
 have HI := Lib.hid hi
 clear hx hi
 obtain ⟨kn, rfl⟩ : ∃ kn : Nat, k = kn := ⟨k.toNat, by omega⟩
 have kb : (kn : Int) < 11 := by omega
 have k0 : (0 : Int) ≤ (kn : Int) := by omega
 have kb' : kn < 11 := by omega
 go_enter Tryz.func26, Tryz.ntmps26
 go_wp2_with fail
 refine ((Hc _ bel).out).mono ?_
 rintro e w1 ⟨rfl, hb1⟩
 have hw1 := below_trans (show Below W.heap.size W (W.alloc (.cells #[.int .i64 kn, .int .i64 l, .int .i64 w, .int .i64 t, .slice (some ⟨b, off, none⟩) m c] 25)) from bel) hb1
 have c0 := below_cell hb1 ((cell_new rfl 0).trans rfl : _ = some (.int .i64 kn))
 have c4 := below_cell hb1 ((cell_new rfl 4).trans rfl : _ = some (.slice (some ⟨b, off, none⟩) m c))
 have c1 := below_cell hb1 ((cell_new rfl 1).trans rfl : _ = some (.int .i64 l))
 have c2 := below_cell hb1 ((cell_new rfl 2).trans rfl : _ = some (.int .i64 w))
 have c3 := below_cell hb1 ((cell_new rfl 3).trans rfl : _ = some (.int .i64 t))
 have zw : W.heap.size < w1.heap.size := World.block_lt_of_cell? w1 _ c0
 clear hb1 Hc
 go_wp2
 obtain ⟨nm, Hnm⟩ : ∃ nm, Hid (nameB.getD kn ByteArray.empty = nm) := ⟨_, Lib.hid rfl⟩
 have hnm : nameB[kn]? = some nm := by
  have : kn < nameB.length := kb'
  rw [← Hnm.out, List.getElem?_eq_getElem this]; simp [List.getD, this]
 refine wp_region_swap [1] 0 2 [3, 4, 5, 6] (by kernel_rfl) (by kernel_rfl) ?_
 simp only [oas]
 repeat (refine wpW_step (fun K' hK' => ?_); go_simp; refine hK' _ ?_; clear hK' K')
 refine wpW_nil ?_
 refine two_of (p := ?joined9) ?_ ?_ ?_
 rotate_left 1
 ·intro hp
  go_wp2_with fail
  refine (names_any _).mono ?_
  rintro e w2 ⟨rfl, rfl⟩
  go_wp2
  exact hp.out
 ·intro hp
  go_wp2_with fail
  refine (names_any _).mono ?_
  rintro e w2 ⟨rfl, rfl⟩
  go_wp2
  exact hp.out
 obtain ⟨w2, Hw2⟩ : ∃ w2, Hid (((w1.alloc (.cells (nameB.map Value.string).toArray 9)).alloc (.cells #[.string nm] 9)).drew = w2) := ⟨_, Lib.hid rfl⟩
 rw [Hw2.out]
 have hb12 : Below w1.heap.size w1 w2 := by rw [← Hw2.out]; exact bel
 have HO : Hid (w2.ownsRow W.heap.size 9 1 (.slice (some ⟨w1.heap.size + 1, 0, none⟩) 1 1) 1 [.string nm]) := Lib.hid (by
  refine ⟨rfl, .inr ⟨_, _, #[.string nm], rfl, ?_, ?_, Nat.le_refl _, by unfold maxLen; omega, rfl, rfl⟩⟩
  ·omega
  ·rw [← Hw2.out]; exact heap_new (by simp))
 have hw2 := below_trans hw1 hb12
 have c0 := below_cell hb12 c0
 have c1 := below_cell hb12 c1
 have c2 := below_cell hb12 c2
 have c3 := below_cell hb12 c3
 have c4 := below_cell hb12 c4
 have zw2 : W.heap.size < w2.heap.size := World.block_lt_of_cell? w2 _ c0
 generalize w1.heap.size + 1 = gw at *
 generalize w1.heap.size = gu at *
 clear hb12 hw1 Hw2 zw hnm
 refine NoPanic.normal ?_
 go_wp2
 refine wp_region_perm (C := fun w' => ∃ u : Ext _, w' = u.val) [0, 1, 2, 7] [3] 4 [5, 6] (by kernel_rfl) (by kernel_rfl) ⟨Ext.drew, rfl⟩ ?_
 simp only [oas]
 repeat (refine wpW_step (fun K' hK' => ?_); go_simp; refine hK' _ ?_; clear hK' K')
 refine wpW_nil ?_
 repeat (first | go_big_quiet_step (fail) | quiet_step (fail))
 refine wpQuiet_nil ?_
 rintro _ ⟨u, rfl⟩
 iterate 1 (refine wpList_step (fun K hK => ?_); go_simp; refine hK _ _ ?_; clear hK K)
 have hbu := below_trans hw2 u.below
 have hcat := Lib.hid (concat_int (u.val.alloc (.cells #[.slice (some ⟨W.heap.size, 1, none⟩) 3 3, .slice (some ⟨b, off, none⟩) m c] 23)) u.val.heap.size 0 2 [[l, w, t].map (Value.int .i64), n.map (Value.int .i64)] (by
   intro i hi
   have hz : ∀ (a : Addr) x, w2.cell? a = some x → (u.val.alloc (.cells #[.slice (some ⟨W.heap.size, 1, none⟩) 3 3, .slice (some ⟨b, off, none⟩) m c] 23)).cell? a = some x := fun a x h => below_cell (below_trans u.below bel) h
   match i, hi with
   | 0, _ =>
    refine ⟨_, (cell_new rfl 0).trans rfl, raw_ints ?_ rfl⟩
    intro j hj
    match j, hj with
    | 0, _ => exact hz _ _ c1
    | 1, _ => exact hz _ _ c2
    | 2, _ => exact hz _ _ c3
   | 1, _ => exact ⟨_, (cell_new rfl 1).trans rfl, raw_ints (HI.out.below (below_trans hbu bel)) hm'⟩) (by simp) (by simp) (by
   intro cs hcs
   simp only [List.mem_cons, List.not_mem_nil, or_false] at hcs
   rcases hcs with rfl | rfl
   ·exact int_one [l, w, t]
   ·exact int_one n) (by simp; omega))
 go_wp2_with fail
 refine hcat.out.mono ?_
 rintro e w3 ⟨r, mm, rfl, hb3, ho3⟩
 have hbu3 : Below u.val.heap.size u.val w3 := below_trans bel hb3
 have hW3 : Below W.heap.size W w3 := below_trans hbu hbu3
 obtain ⟨ys, Hys⟩ : ∃ ys, Hid ([l, w, t] ++ n = ys) := ⟨_, Lib.hid rfl⟩
 have hyl : ys.length = 3 + m := by rw [← Hys.out]; simp; omega
 have ho4 : w3.ownsRow (u.val.alloc (.cells #[.slice (some ⟨W.heap.size, 1, none⟩) 3 3, .slice (some ⟨b, off, none⟩) m c] 23)).heap.size 3 1 r mm (ys.map (Value.int .i64)) := by
  rw [← Hys.out]; simpa using ho3
 obtain ⟨rfl, g, cap, cur, rfl, hh, hcur⟩ := own_ints ho4 (by omega)
 have HO3 := Lib.hid (own_below (own_below HO.out u.below) hbu3)
 have HH := Lib.hid hh
 have Hcur := Lib.hid hcur
 have hcs : ys.length ≤ cap := by
  rcases ho4.2 with ⟨h, _⟩ | ⟨_, _, _, h, _, _, h2, _⟩
  ·cases h
  ·cases h; exact h2
 clear ho3 ho4 hh hcur hb3 hbu3 hcat HO hbu c0 c1 c2 c3 c4
 obtain ⟨N, HN⟩ : ∃ N, Hid (ys.length = N) := ⟨_, Lib.hid rfl⟩
 rw [HN.out] at hcs hyl ⊢
 obtain ⟨i0, hi0, hz0, hz1, hz2⟩ := info_parts info_str
 have Hi0 := Lib.hid (And.intro hi0 (And.intro hz0 (And.intro hz1 hz2)))
 clear hi0 hz0 hz1 hz2
 go_wp2
 refine NoPanic.normal ?_
 go_wp2
 go_loopw [5, 26] (fun s i wr => ∃ j : Nat, j ≤ N ∧ i = .int .i64 j ∧ Below W.heap.size W wr ∧ Hid (wr.ownsRow W.heap.size 9 1 s (1 + j) (.string nm :: (ys.take j).map (fun x => .string (txt x)))) ∧ Hid (wr.heap[g]? = some (.cells cur 3 (0, 0)))) (fun _ i _ => N - (intOf i).toNat)
 case atStart => exact ⟨0, by omega, rfl, hW3, HO3, HH⟩
 case round =>
  clear hW3 HO3 HH
  obtain ⟨j, hj, rfl, hb, HO, HH⟩ := hrel
  by_cases hlt : j < N
  ·have hj' : j < ys.length := by have := HN.out; omega
   have cj := (blk_cell HH.out j).trans (Hcur.out j hj')
   have zg := blk_lt HH.out
   have hbx := HB.out ys[j] (by rw [Hys.out]; exact List.getElem_mem hj')
   have Hs : Hid ((ys.take (j + 1)).map (fun x => Value.string (txt x)) = (ys.take j).map (fun x => Value.string (txt x)) ++ [.string (txt ys[j])]) := Lib.hid (by rw [List.take_succ_eq_append_getElem hj', List.map_append]; rfl)
   have hit := Lib.hid (itoa_any ys[j] hbx wr (tab_below HT.out hb))
   rw [show (⟨(Lib.itoa ys[j]).toArray⟩ : ByteArray) = txt ys[j] from rfl] at hit
   generalize ys[j] = x at *
   generalize txt x = tx at *
   clear hj' hbx
   go_wp2_with fail
   refine hit.out.mono ?_
   rintro e w4 ⟨rfl, hb4⟩
   have HO4 := Lib.hid (own_below HO.out hb4)
   have HH4 : Hid (w4.heap[g]? = some (.cells cur 3 (0, 0))) := Lib.hid ((hb4.block g zg).trans HH.out)
   have hbw := below_trans hb hb4
   clear hit cj hb4
   go_wp2_with (at_builtin; refine wpList_append_own _ rfl _ _ 96 rfl W.heap.size 9 i0 (.string ⟨#[]⟩) 1 16 und_strs Hi0.out.1 Hi0.out.2.1 Hi0.out.2.2.1 Hi0.out.2.2.2 rfl (by decide) u5 (1 + j) _ rfl (HO4.out.alloc _) ⟨w4.heap.size, 0, none⟩ 1 1 [.string tx] rfl rfl ?c1 ?c2 ?c3 ?c4 ?c5 ?_)
   case c1 =>
    intro jj uu hu
    rw [add0, cell_new rfl jj]
    simpa using hu
   case c2 => intro v hv; simp at hv; subst hv; rfl
   case c3 => unfold maxLen; omega
   case c4 => omega
   case c5 => simp; have := hbw.size; omega
   intro v' w5 hown5 hg5 _
   have hbw5 : Below W.heap.size W w5 := (hbw.alloc hbw.size _).grown hg5 (by simp; have := hbw.size; omega) (fun q hq => (HO4.out.lt q hq).1)
   have zg4 := blk_lt HH4.out
   have HH5 : Hid (w5.heap[g]? = some (.cells cur 3 (0, 0))) := Lib.hid ((hg5.block g (by simp; omega) (fun e => own_blk_ne HO4.out HH4.out (by decide) e.symm)).trans ((heap_old zg4).trans HH4.out))
   have HO5 := Lib.hid hown5
   clear hown5 hg5
   go_wp2
   go_roundw
   case rel => exact ⟨j + 1, by omega, by go_num, hbw5, Lib.hid (by rw [Hs.out]; simpa [Nat.add_assoc] using HO5.out), HH5⟩
   case measure => simp [intOf]; omega
  ·obtain rfl : N = j := by omega
   have ho : wr.ownsRow W.heap.size 9 1 u5 (1 + N) ((printW kn l w t n).map Value.string) := by
    have := HO.out
    rw [List.take_of_length_le (by have := HN.out; omega)] at this
    have e : printW (kn : Int) l w t n = nm :: ys.map txt := by unfold printW; rw [Hys.out, ← Hnm.out]; rfl
    rw [e]
    simpa [Function.comp_def] using this
   obtain ⟨g', cap', rfl, hc', hg', hcl⟩ := own_strs ho (by simp [printW])
   have hpl : (printW kn l w t n).length ≤ 140737488355328 := by simp [printW]; omega
   have hjn := Lib.hid (Tryz.strings_Join g' 0 cap' (printW kn l w t n) ⟨#[32]⟩ wr hcl hg' hpl hc' (Nat.le_trans HL.out (by decide)))
   rw [show (⟨(Lib.join ((printW (kn : Int) l w t n).map (·.data.toList)) (⟨#[32]⟩ : ByteArray).data.toList).toArray⟩ : ByteArray) = printS kn l w t n from rfl] at hjn
   clear ho hcl hc' hpl HO
   go_wp2_with fail
   refine hjn.out.mono ?_
   rintro e w4 ⟨rfl, hb4⟩
   go_wp2
   refine bodyPost_ret (v := .tuple #[.string (printS kn l w t n), .int .i64 0]) (by simp [results, Tryz.results26, go_sem]) rfl ⟨rfl, ?_⟩
   exact below_trans hb hb4
end
section
open Go.RowKit Go.Shelf
attribute [local go_sem] Ext.cell Ext.frozen
set_option maxRecDepth 100000
theorem mulNN {a b A B : Int} (ha : 0 ≤ a ∧ a ≤ A) (hb : 0 ≤ b ∧ b ≤ B) : 0 ≤ a * b ∧ a * b ≤ A * B :=
 ⟨Int.mul_nonneg ha.1 hb.1, Int.mul_le_mul ha.2 hb.2 hb.1 (Int.le_trans ha.1 ha.2)⟩
theorem Area_5 (l w t : Int) (nv : Value) (n : List Int) (W : World) (hn : Ints W nv n) (h0 : 3 ≤ n.length) (hm : n.length ≤ 1000)
  (hl : 1 ≤ l ∧ l ≤ 1000000) (ht : 1 ≤ t ∧ t ≤ 1000000) (hs : 1 ≤ n.getD 0 0 ∧ n.getD 0 0 ≤ 8)
  (hc : ∀ W', Below W.heap.size W W' → Calls Tryz.prog 48 #[vJ 5 l w t nv] W' (Ret W' (.int .i64 0))) :
  Calls Tryz.prog 27 #[vJ 5 l w t nv] W (Ret W (.tuple #[.agg #[.int .i64 (2 * ((n.length - 2 : Nat) : Int) * (l / n.getD 0 0) * t), .int .i64 (2 * ((n.length - 2 : Nat) : Int) * l * t), .int .i64 0], .int .i64 0])) := by
 unfold vJ at *
 obtain ⟨a, m, c, rfl, hm', hcc, hx⟩ := hn
 have Hc := fun W' h => Lib.hid (hc W' h)
 obtain ⟨b, off, rfl, hi⟩ := hx (by omega)
 have d0 := hi 0 (by omega)
 rw [getDI n _ (by omega)] at d0
 rw [Nat.add_zero] at d0
 generalize n.getD 0 0 = s at *
 rw [hm'] at h0 hm ⊢
 clear hc hx hi
 obtain ⟨q, rfl⟩ : ∃ q, m = q + 2 := ⟨m - 2, by omega⟩
 rw [show q + 2 - 2 = q by omega]
 have hk0 : 0 ≤ l / s ∧ l / s ≤ 1000000 := ⟨Int.ediv_nonneg (by omega) (by omega), Int.le_trans (Int.ediv_le_self _ (by omega)) (by omega)⟩
 obtain ⟨k, Hk⟩ : ∃ k, Hid (l / s = k) := ⟨_, Lib.hid rfl⟩
 rw [Hk.out] at hk0 ⊢
 have p1 := mulNN (A := 2000) (B := 1000000) (a := 2 * (q : Int)) (b := k) (by omega) (by omega)
 have p2 := mulNN (A := 2000000000) (B := 1000000) (a := 2 * (q : Int) * k) (b := t) (by omega) (by omega)
 have p3 := mulNN (A := 2000) (B := 1000000) (a := 2 * (q : Int)) (b := l) (by omega) (by omega)
 have p4 := mulNN (A := 2000000000) (B := 1000000) (a := 2 * (q : Int) * l) (b := t) (by omega) (by omega)
 have r0 : IntKind.i64.wrap (2 * (q : Int)) = 2 * (q : Int) := IntWalk.i64_in _ (by omega)
 have r1 : IntKind.i64.wrap (2 * (q : Int) * k) = 2 * (q : Int) * k := IntWalk.i64_in _ (by omega)
 have r2 : IntKind.i64.wrap (2 * (q : Int) * k * t) = 2 * (q : Int) * k * t := IntWalk.i64_in _ (by omega)
 have r3 : IntKind.i64.wrap (2 * (q : Int) * l) = 2 * (q : Int) * l := IntWalk.i64_in _ (by omega)
 have r4 : IntKind.i64.wrap (2 * (q : Int) * l * t) = 2 * (q : Int) * l * t := IntWalk.i64_in _ (by omega)
 clear p1 p2 p3 p4
 have zb := World.block_lt_of_cell? W _ d0
 simp only at zb
 go_enter Tryz.func27, Tryz.ntmps27
 go_wp2_with fail
 refine ((Hc _ bel).out).mono ?_
 rintro e w1 ⟨rfl, hb1⟩
 have hw1 := below_trans (show Below W.heap.size W ((W.alloc (.cells #[.int .i64 5, .int .i64 l, .int .i64 w, .int .i64 t, .slice (some ⟨b, off, none⟩) (q + 2) c] 25)).alloc (.cells #[.int .i64 0, .int .i64 0, .int .i64 0] 22)) from bel) hb1
 have HJ := (hb1.block W.heap.size (by simp; omega)).trans ((heap_old (by simp)).trans (heap_new rfl))
 have HR := (hb1.block (W.heap.size + 1) (by simp)).trans (heap_new (by simp))
 have c0 := (blk_cell HJ 0).trans rfl
 have c1 := (blk_cell HJ 1).trans rfl
 have c2 := (blk_cell HJ 2).trans rfl
 have c3 := (blk_cell HJ 3).trans rfl
 have c4 := (blk_cell HJ 4).trans rfl
 have zj := blk_lt HJ
 have zr := blk_lt HR
 have d1 := below_cell hw1 d0
 have zb1 := World.block_lt_of_cell? w1 _ d1
 simp only at zb1
 have hkk := Hk.out
 clear hb1 Hc d0
 go_wp2
 refine wqb ?_
 repeat (first | go_big_quiet_step (fail) | quiet_step (fail))
 refine wqn fun u => ?_
 have HJu := Lib.hid ((u.below.block _ zj).trans HJ)
 have HRu := (u.below.block _ zr).trans HR
 have d2 := below_cell u.below d1
 clear HJ HR c0 c1 c2 c3 c4 d1
 have hwu := below_trans hw1 u.below
 have zju := blk_lt HJu.out
 have zbu := World.block_lt_of_cell? u.val _ d2
 simp only at zbu
 generalize u.val = w9 at *
 have c0 := (blk_cell HJu.out 0).trans rfl
 have c4 := (blk_cell HJu.out 4).trans rfl
 have e0 := (blk_cell HRu 0).trans rfl
 have e1 := (blk_cell HRu 1).trans rfl
 have e2 := (blk_cell HRu 2).trans rfl
 have f0 := blk_free HRu 0
 have f1 := blk_free HRu 1
 have f2 := blk_free HRu 2
 have zu := blk_lt HRu
 simp only [List.getElem?_toArray, List.getElem?_cons_zero, List.getElem?_cons_succ] at c0 c4 e0 e1 e2
 go_wp2
 refine bodyPost_ret (v := .tuple #[.agg #[.int .i64 (2 * (q : Int) * k * t), .int .i64 (2 * (q : Int) * l * t), .int .i64 0], .int .i64 0]) (by simp [results, Tryz.results27, go_sem, e0, e1, e2]) rfl ⟨rfl, ?_⟩
 refine Below.setCell (Below.setCell (Below.setCell hwu ?_ _) ?_ _) ?_ _ <;> simp
end
section
open Go.RowKit Go.Shelf
attribute [local go_sem] Ext.cell Ext.frozen
def looseN (k : Int) (n : List Int) : Nat := if k = 8 then (n.length - 6) / 2 else if k = 9 then 1 else 0
set_option maxRecDepth 100000 in
theorem loose_any (k l w t : Int) (nv : Value) (n : List Int) (W : World) (hn : Ints W nv n) (hm : n.length ≤ 1000000) (h8 : k = 8 → 8 ≤ n.length ∧ n.length % 2 = 0) :
  Calls Tryz.prog 70 #[vJ k l w t nv] W (Ret W (.int .i64 (looseN k n))) := by
 unfold vJ
 by_cases hk : k = 8
 ·subst hk
  obtain ⟨h6, h2⟩ := h8 rfl
  have hh := fun W' h => Lib.hid (holes_any nv n W' ((n.length - 6) / 2) (hn.below (w' := W') h) (by omega) (by omega))
  rw [show looseN 8 n = (n.length - 6) / 2 from rfl]
  generalize (n.length - 6) / 2 = q at *
  go_enter Tryz.func70, Tryz.ntmps70
  go_wp2_with fail
  refine ((hh _ bel).out).mono ?_
  rintro e w1 ⟨r, rfl, hb1, ho⟩
  obtain ⟨c, a, rfl⟩ : ∃ c a, r = .slice a q c := by
   rcases ho.2 with ⟨rfl, rfl⟩ | ⟨g, cap, cur, rfl, _⟩
   ·exact ⟨0, none, rfl⟩
   ·exact ⟨_, _, rfl⟩
  clear ho
  go_wp2
  go_ret
  exact ⟨rfl, below_trans bel hb1⟩
 ·have hk' : (k == 8) = false := by simpa using hk
  clear h8 hn
  by_cases h9 : k = 9
  ·subst h9
   go_enter Tryz.func70, Tryz.ntmps70
   go_wp2
   go_ret
   exact ⟨rfl, bel⟩
  ·have h9' : (k == 9) = false := by simpa using h9
   go_enter Tryz.func70, Tryz.ntmps70
   go_wp2
   go_ret
   exact ⟨ret_int (by simp [looseN, hk, h9]), bel⟩
end
section
open Go.RowKit Go.Shelf
attribute [local go_sem] Ext.cell Ext.frozen
set_option maxRecDepth 100000
def Each (w : World) (v : Value) {α : Type} (E : World → Value → α → Prop) (cs : List α) : Prop :=
 ∃ a m c, v = .slice a m c ∧ cs.length = m ∧ m ≤ c ∧ (0 < m → ∃ b off, a = some ⟨b, off, none⟩ ∧ ∀ i (h : i < cs.length), ∃ u, w.cell? ⟨b, off + i, none⟩ = some u ∧ E w u cs[i])
theorem Each.below {w w' : World} {v : Value} {α : Type} {E : World → Value → α → Prop} {cs : List α} (hE : ∀ u c w w', Below w.heap.size w w' → E w u c → E w' u c) (h : Each w v E cs) (hb : Below w.heap.size w w') : Each w' v E cs := by
 obtain ⟨a, m, c, hv, hl, hc, hx⟩ := h
 refine ⟨a, m, c, hv, hl, hc, fun h0 => ?_⟩
 obtain ⟨b, off, ha, hi⟩ := hx h0
 exact ⟨b, off, ha, fun i h => by obtain ⟨u, hu, he⟩ := hi i h; exact ⟨u, below_cell hb hu, hE _ _ _ _ hb he⟩⟩
def At (B : Nat) (v : Value) : Prop := ∀ a m c, v = .slice (some a) m c → B ≤ a.block
theorem At.mono {B B' : Nat} {v : Value} (h : At B v) (hb : B' ≤ B) : At B' v := fun a m c e => Nat.le_trans hb (h a m c e)
theorem At.mk {B g m c : Nat} (h : B ≤ g) : At B (.slice (some ⟨g, 0, none⟩) m c) := fun a _ _ e => by cases e; exact h
theorem At.none' {B m c : Nat} : At B (.slice none m c) := fun a _ _ e => by cases e
def PlanesV (B : Nat) (w : World) (v : Value) (ps : List Q4) : Prop := Raw w 4 v (ps.flatMap enc4) ∧ At B v
def CellsV (B : Nat) (w : World) (v : Value) (cs : List (List Q4)) : Prop := Each w v (PlanesV B) cs ∧ At B v
def PartsV (B : Nat) (w : World) (v : Value) (cs : List (List (List Q4))) : Prop := Each w v (CellsV B) cs ∧ At B v
theorem PlanesV.below {B : Nat} {w w' : World} {v : Value} {ps : List Q4} (h : PlanesV B w v ps) (hb : Below w.heap.size w w') : PlanesV B w' v ps := ⟨Raw.below h.1 hb, h.2⟩
theorem CellsV.below {B : Nat} {w w' : World} {v : Value} {ps : List (List Q4)} (h : CellsV B w v ps) (hb : Below w.heap.size w w') : CellsV B w' v ps := ⟨Each.below (fun _ _ _ _ hb h => PlanesV.below h hb) h.1 hb, h.2⟩
theorem PartsV.below {B : Nat} {w w' : World} {v : Value} {ps : List (List (List Q4))} (h : PartsV B w v ps) (hb : Below w.heap.size w w') : PartsV B w' v ps := ⟨Each.below (fun _ _ _ _ hb h => CellsV.below h hb) h.1 hb, h.2⟩
theorem cell_far {w : World} {g i : Nat} {x u : Value} {a : Addr} (h : w.cell? a = some u) (hne : g ≠ a.block) : (w.setCell ⟨g, i, none⟩ x).cell? a = some u :=
 (World.cell?_setCell_other w ⟨g, i, none⟩ a x (fun e => by subst e; exact hne rfl)).trans h
theorem Each.far {B : Nat} {w : World} {v : Value} {α : Type} {E : World → Value → α → Prop} {cs : List α} {g i : Nat} {x : Value} (hE : ∀ u c, E w u c → E (w.setCell ⟨g, i, none⟩ x) u c) (h : Each w v E cs) (ha : At B v) (hg : g < B) : Each (w.setCell ⟨g, i, none⟩ x) v E cs := by
 obtain ⟨a, m, c, rfl, hl, hc, hx⟩ := h
 refine ⟨a, m, c, rfl, hl, hc, fun h0 => ?_⟩
 obtain ⟨b, off, rfl, hi⟩ := hx h0
 have := ha _ _ _ rfl
 exact ⟨b, off, rfl, fun k h => by obtain ⟨u, hu, he⟩ := hi k h; exact ⟨u, cell_far hu (by simp at this ⊢; omega), hE _ _ he⟩⟩
theorem PlanesV.far {B g i : Nat} {x : Value} {w : World} {v : Value} {ps : List Q4} (h : PlanesV B w v ps) (hg : g < B) : PlanesV B (w.setCell ⟨g, i, none⟩ x) v ps := by
 obtain ⟨⟨a, m, c, rfl, hl, hn, hc⟩, ha⟩ := h
 refine ⟨⟨a, m, c, rfl, hl, hn, fun ad hd j u hu => ?_⟩, ha⟩
 subst hd
 have hh := ha _ _ _ rfl
 refine cell_far (hc ad rfl j u hu) ?_
 have : (ad.add j).block = ad.block := by unfold Addr.add; split <;> rfl
 rw [this]
 omega
theorem CellsV.far {B g i : Nat} {x : Value} {w : World} {v : Value} {ps : List (List Q4)} (h : CellsV B w v ps) (hg : g < B) : CellsV B (w.setCell ⟨g, i, none⟩ x) v ps := ⟨h.1.far (fun _ _ h => PlanesV.far h hg) h.2 hg, h.2⟩
theorem PartsV.far {B g i : Nat} {x : Value} {w : World} {v : Value} {ps : List (List (List Q4))} (h : PartsV B w v ps) (hg : g < B) : PartsV B (w.setCell ⟨g, i, none⟩ x) v ps := ⟨h.1.far (fun _ _ h => CellsV.far h hg) h.2 hg, h.2⟩
theorem Each.imp {w : World} {v : Value} {α : Type} {E E' : World → Value → α → Prop} {cs : List α} (hE : ∀ u c, E w u c → E' w u c) (h : Each w v E cs) : Each w v E' cs := by
 obtain ⟨a, m, c, rfl, hl, hc, hx⟩ := h
 refine ⟨a, m, c, rfl, hl, hc, fun h0 => ?_⟩
 obtain ⟨b, off, rfl, hi⟩ := hx h0
 exact ⟨b, off, rfl, fun k h => by obtain ⟨u, hu, he⟩ := hi k h; exact ⟨u, hu, hE _ _ he⟩⟩
theorem PlanesV.mono {B B' : Nat} {w : World} {v : Value} {ps : List Q4} (h : PlanesV B w v ps) (hb : B' ≤ B) : PlanesV B' w v ps := ⟨h.1, h.2.mono hb⟩
theorem CellsV.mono {B B' : Nat} {w : World} {v : Value} {ps : List (List Q4)} (h : CellsV B w v ps) (hb : B' ≤ B) : CellsV B' w v ps := ⟨h.1.imp (fun _ _ h => PlanesV.mono h hb), h.2.mono hb⟩
theorem PartsV.mono {B B' : Nat} {w : World} {v : Value} {ps : List (List (List Q4))} (h : PartsV B w v ps) (hb : B' ≤ B) : PartsV B' w v ps := ⟨h.1.imp (fun _ _ h => CellsV.mono h hb), h.2.mono hb⟩
theorem each_new {α : Type} {E : World → Value → α → Prop} {W : World} {T : TypeId} (vs : List Value) (cs : List α) {n g : Nat} (hg : g = W.heap.size) (hl : vs.length = cs.length) (hn : n = cs.length)
  (hE : ∀ p ∈ vs.zip cs, E (W.alloc (.cells vs.toArray T)) p.1 p.2) : Each (W.alloc (.cells vs.toArray T)) (.slice (some ⟨g, 0, none⟩) n n) E cs := by
 refine ⟨_, _, _, rfl, hn.symm, Nat.le_refl _, fun _ => ⟨g, 0, rfl, fun i hi => ⟨vs[i]'(by omega), ?_, ?_⟩⟩⟩
 ·refine (cell_new hg _).trans ?_
  simp [hl, hi]
 ·refine hE (vs[i]'(by omega), cs[i]) ?_
  have : (vs.zip cs)[i]'(by simp; omega) = (vs[i]'(by omega), cs[i]) := by simp
  rw [← this]
  exact List.getElem_mem _
theorem planes_new {B : Nat} {W : World} {T : TypeId} (ps : List Q4) {n g : Nat} (hg : g = W.heap.size) (hB : B ≤ W.heap.size) (hn : n = ps.length) : PlanesV B (W.alloc (.cells (ps.flatMap enc4).toArray T)) (.slice (some ⟨g, 0, none⟩) n n) ps := by
 refine ⟨⟨_, _, _, rfl, ?_, (fun h => by cases h), ?_⟩, At.mk (by omega)⟩
 ·subst hn
  induction ps with
  | nil => rfl
  | cons p ps ih => simp [enc4] at ih ⊢; omega
 ·intro ad ha j u hu
  cases ha
  rw [add0, cell_new hg j]
  simpa using hu
def IsP (B : Nat) (ps : List Q4) : Value → World → Prop := fun v w => PlanesV B w v ps
def IsC (B : Nat) (ps : List (List Q4)) : Value → World → Prop := fun v w => CellsV B w v ps
def IsK (B : Nat) (ps : List (List (List Q4))) : Value → World → Prop := fun v w => PartsV B w v ps
def IsKG (B : Nat) (ps : List (List (List Q4))) : Value → World → Prop := fun v w => ∃ u, v = .agg #[u, .slice none 0 0] ∧ PartsV B w u ps
theorem stab_p (B : Nat) (ps : List Q4) : Stab (IsP B ps) := fun _ _ _ hb h => PlanesV.below h hb
theorem stab_c (B : Nat) (ps : List (List Q4)) : Stab (IsC B ps) := fun _ _ _ hb h => CellsV.below h hb
theorem stab_k (B : Nat) (ps : List (List (List Q4))) : Stab (IsK B ps) := fun _ _ _ hb h => PartsV.below h hb
theorem stab_kg (B : Nat) (ps : List (List (List Q4))) : Stab (IsKG B ps) := fun _ _ _ hb ⟨u, h, k⟩ => ⟨u, h, PartsV.below k hb⟩
theorem partsOf_0 (l w t : Int) (nv : Value) (n : List Int) (W : World) (hn : Ints W nv n) (hl : n.length = 1) (hb : -1000000 ≤ n.getD 0 0 ∧ n.getD 0 0 ≤ 1000000) :
  Calls Tryz.prog 31 #[vJ 0 l w t nv] W fun e w' => ∃ u, e = .returned (.agg #[u, .slice none 0 0]) ∧ Below W.heap.size W w' ∧ PartsV W.heap.size w' u [[[axP 2 (-1) (-n.getD 0 0)]], [[axP 2 1 (n.getD 0 0)]]] := by
 unfold vJ
 obtain ⟨a, m, c, rfl, hm, hc, hx⟩ := hn
 obtain ⟨b, off, rfl, hi⟩ := hx (by omega)
 have c0 := hi 0 (by omega)
 have zb := World.block_lt_of_cell? W _ c0
 simp only at zb
 rw [getDI n _ (by omega)] at c0
 rw [Nat.add_zero] at c0
 generalize n.getD 0 0 = x at *
 obtain rfl : m = 1 := by omega
 have h1 := fun W' => Lib.hid (least_any 2 x W' (by omega) (by omega))
 have h2 := fun W' => Lib.hid (most_any 2 x W' (by omega) (by omega))
 generalize axP 2 (-1) (-x) = p at *
 generalize axP 2 1 x = q at *
 obtain ⟨p1, p2, p3, p4⟩ := p
 obtain ⟨q1, q2, q3, q4⟩ := q
 clear hi hx hm
 go_enter Tryz.func31, Tryz.ntmps31
 go_wp2
 obtain ⟨W1, HW1⟩ : ∃ W1, Hid ((W.alloc (.cells #[.int .i64 0, .int .i64 l, .int .i64 w, .int .i64 t, .slice (some ⟨b, off, none⟩) 1 c] 25)).alloc (.cells #[.slice none 0 0, .slice none 0 0] 75) = W1) := ⟨_, Lib.hid rfl⟩
 rw [HW1.out]
 have hW1 : Below W.heap.size W W1 := by rw [← HW1.out]; exact bel
 have HR : Hid (W1.heap[W.heap.size + 1]? = some (.cells #[.slice none 0 0, .slice none 0 0] 75 (0, 0))) := by rw [← HW1.out]; exact Lib.hid (heap_new (by simp))
 have c1 := below_cell hW1 c0
 have zs : W1.heap.size = W.heap.size + 2 := by rw [← HW1.out]; simp
 clear HW1 c0
 refine wp_region_grow [0, 1, 2, 3, 4, 5, 6, 7, 8, 9, 10, 11, 12, 13] 14 [] (pick [
  IsV (.slice (some ⟨b, off, none⟩) 1 c), IsV (.pointer (some ⟨b, off, none⟩)), IsV (.int .i64 x), IsV (v4 (p1, p2, p3, p4)), IsP (W.heap.size + 2) [(p1, p2, p3, p4)], IsC (W.heap.size + 2) [[(p1, p2, p3, p4)]],
  IsV (.slice (some ⟨b, off, none⟩) 1 c), IsV (.pointer (some ⟨b, off, none⟩)), IsV (.int .i64 x), IsV (v4 (q1, q2, q3, q4)), IsP (W.heap.size + 2) [(q1, q2, q3, q4)], IsC (W.heap.size + 2) [[(q1, q2, q3, q4)]],
  IsK (W.heap.size + 2) [[[(p1, p2, p3, p4)]], [[(q1, q2, q3, q4)]]], IsKG (W.heap.size + 2) [[[(p1, p2, p3, p4)]], [[(q1, q2, q3, q4)]]]]) (by kernel_rfl) (by kernel_rfl) (Stabs.pick (by repeat (first | exact Stabs.nil | refine Stabs.cons (by first | exact stab_v _ | exact stab_p _ _ | exact stab_c _ _ | exact stab_k _ _ | exact stab_kg _ _) ?_))) ?_
 try go_frame
 refine wpG_step _ _ rfl rfl (by simp) (fun w' hb' hR K hK => ?_) (fun v0 => ?_)
 ·clear hR
  go_simp
  exact hK _ _ (Below.refl _ _) rfl
 try go_frame
 refine wpG_step _ _ rfl rfl (by simp) (fun w' hb' hR K hK => ?_) (fun v1 => ?_)
 ·obtain rfl : v0 = _ := hr hR 0
  clear hR
  go_simp
  exact hK _ _ (Below.refl _ _) rfl
 try go_frame
 refine wpG_step _ _ rfl rfl (by simp) (fun w' hb' hR K hK => ?_) (fun v2 => ?_)
 ·obtain rfl : v1 = _ := hr hR 1
  have c2 := below_cell hb' c1
  have z2 := World.block_lt_of_cell? w' _ c2
  simp only at z2
  clear hR
  go_simp
  exact hK _ _ (Below.refl _ _) rfl
 try go_frame
 refine wpG_step _ _ rfl rfl (by simp) (fun w' hb' hR K hK => ?_) (fun v3 => ?_)
 ·obtain rfl : v2 = _ := hr hR 2
  clear hR
  go_simp
  refine ((h1 _).out).mono ?_
  rintro e w1 ⟨rfl, hb1⟩
  exact hK _ _ hb1 rfl
 try go_frame
 refine wpG_step _ _ rfl rfl (by simp) (fun w' hb' hR K hK => ?_) (fun v5 => ?_)
 ·obtain rfl : v3 = _ := hr hR 3
  clear hR
  go_simp
  exact hK _ _ bel (planes_new [(p1, p2, p3, p4)] rfl (by have := hb'.size; omega) rfl)
 try go_frame
 refine wpG_step _ _ rfl rfl (by simp) (fun w' hb' hR K hK => ?_) (fun v6 => ?_)
 ·have hp : PlanesV (W.heap.size + 2) w' v5 _ := hr hR 4
  have HP := Lib.hid hp
  obtain ⟨⟨pa, pm, pc, rfl, _⟩, _⟩ := hp
  clear hR
  go_simp
  exact hK _ _ bel ⟨each_new [_] [_] rfl rfl rfl (by
   intro q hq
   simp only [List.zip_cons_cons, List.zip_nil_right, List.mem_cons, List.not_mem_nil, or_false] at hq
   subst hq
   exact HP.out.below bel), At.mk (by have := hb'.size; omega)⟩
 try go_frame
 refine wpG_step _ _ rfl rfl (by simp) (fun w' hb' hR K hK => ?_) (fun w0 => ?_)
 ·clear hR
  go_simp
  exact hK _ _ (Below.refl _ _) rfl
 try go_frame
 refine wpG_step _ _ rfl rfl (by simp) (fun w' hb' hR K hK => ?_) (fun w1 => ?_)
 ·obtain rfl : w0 = _ := hr hR 6
  clear hR
  go_simp
  exact hK _ _ (Below.refl _ _) rfl
 try go_frame
 refine wpG_step _ _ rfl rfl (by simp) (fun w' hb' hR K hK => ?_) (fun w2 => ?_)
 ·obtain rfl : w1 = _ := hr hR 7
  have c2 := below_cell hb' c1
  have z2 := World.block_lt_of_cell? w' _ c2
  simp only at z2
  clear hR
  go_simp
  exact hK _ _ (Below.refl _ _) rfl
 try go_frame
 refine wpG_step _ _ rfl rfl (by simp) (fun w' hb' hR K hK => ?_) (fun w3 => ?_)
 ·obtain rfl : w2 = _ := hr hR 8
  clear hR
  go_simp
  refine ((h2 _).out).mono ?_
  rintro e w1 ⟨rfl, hb1⟩
  exact hK _ _ hb1 rfl
 try go_frame
 refine wpG_step _ _ rfl rfl (by simp) (fun w' hb' hR K hK => ?_) (fun w5 => ?_)
 ·obtain rfl : w3 = _ := hr hR 9
  clear hR
  go_simp
  exact hK _ _ bel (planes_new [(q1, q2, q3, q4)] rfl (by have := hb'.size; omega) rfl)
 try go_frame
 refine wpG_step _ _ rfl rfl (by simp) (fun w' hb' hR K hK => ?_) (fun w6 => ?_)
 ·have hp : PlanesV (W.heap.size + 2) w' w5 _ := hr hR 10
  have HP := Lib.hid hp
  obtain ⟨⟨pa, pm, pc, rfl, _⟩, _⟩ := hp
  clear hR
  go_simp
  exact hK _ _ bel ⟨each_new [_] [_] rfl rfl rfl (by
   intro q hq
   simp only [List.zip_cons_cons, List.zip_nil_right, List.mem_cons, List.not_mem_nil, or_false] at hq
   subst hq
   exact HP.out.below bel), At.mk (by have := hb'.size; omega)⟩
 try go_frame
 refine wpG_step _ _ rfl rfl (by simp) (fun w' hb' hR K hK => ?_) (fun x1 => ?_)
 ·have hp : CellsV (W.heap.size + 2) w' v6 _ := hr hR 5
  have hq : CellsV (W.heap.size + 2) w' w6 _ := hr hR 11
  have HP := Lib.hid hp
  have HQ := Lib.hid hq
  obtain ⟨⟨pa, pm, pc, rfl, _⟩, _⟩ := hp
  obtain ⟨⟨qa, qm, qc, rfl, _⟩, _⟩ := hq
  clear hR
  go_simp
  exact hK _ _ bel ⟨each_new [_, _] [_, _] rfl rfl rfl (by
   intro q hq
   simp only [List.zip_cons_cons, List.zip_nil_right, List.mem_cons, List.not_mem_nil, or_false] at hq
   rcases hq with rfl | rfl
   ·exact HP.out.below bel
   ·exact HQ.out.below bel), At.mk (by have := hb'.size; omega)⟩
 try go_frame
 refine wpG_step _ _ rfl rfl (by simp) (fun w' hb' hR K hK => ?_) (fun x2 => ?_)
 ·have hp : PartsV (W.heap.size + 2) w' x1 _ := hr hR 12
  have HP := Lib.hid hp
  obtain ⟨⟨pa, pm, pc, rfl, _⟩, _⟩ := hp
  clear hR
  go_simp
  exact hK _ _ (Below.refl _ _) ⟨_, rfl, HP.out⟩
 go_frame
 refine wpG_nil (fun w' hb' hR => ?_)
 obtain ⟨u, rfl, hp⟩ : ∃ u, x2 = .agg #[u, .slice none 0 0] ∧ PartsV (W.heap.size + 2) w' u [[[(p1, p2, p3, p4)]], [[(q1, q2, q3, q4)]]] := hR 13 (by simp)
 have HP := Lib.hid hp
 obtain ⟨⟨pa, pm, pc, rfl, _⟩, _⟩ := hp
 have HR' : w'.heap[W.heap.size + 1]? = some (.cells #[.slice none 0 0, .slice none 0 0] 75 (0, 0)) := (hb'.block _ (blk_lt HR.out)).trans HR.out
 have e0 := (blk_cell HR' 0).trans rfl
 have e1 := (blk_cell HR' 1).trans rfl
 have f0 := blk_free HR' 0
 have f1 := blk_free HR' 1
 have zu := blk_lt HR'
 clear hR
 simp only [oas]
 go_wp2
 refine NoPanic.normal ?_
 go_wp2
 refine bodyPost_ret (v := .agg #[.slice pa pm pc, .slice none 0 0]) (by simp [results, Tryz.results31, go_sem, e0, e1]) rfl ⟨_, rfl, ?_, ?_⟩
 ·exact ((below_trans hW1 hb').setCell (by simp) _).setCell (by simp) _
 ·exact ((HP.out.far (by omega)).far (by omega)).mono (by omega)
theorem between_v (ax : Nat) (lo hi : Int) (W : World) (hx : ax ≤ 2) (hlo : -1000000000 ≤ lo ∧ lo ≤ 1000000000) (hhi : -1000000000 ≤ hi ∧ hi ≤ 1000000000) :
  Calls Tryz.prog 72 #[.int .i64 ax, .int .i64 lo, .int .i64 hi] W fun e w' => ∃ r, e = .returned r ∧ Below W.heap.size W w' ∧ PlanesV W.heap.size w' r [axP ax (-1) (-lo), axP ax 1 hi] := by
 have h1 := fun W' => Lib.hid (least_any ax lo W' hx hlo)
 have h2 := fun W' => Lib.hid (most_any ax hi W' hx hhi)
 generalize axP ax (-1) (-lo) = p at *
 generalize axP ax 1 hi = q at *
 obtain ⟨p1, p2, p3, p4⟩ := p
 obtain ⟨q1, q2, q3, q4⟩ := q
 go_enter Tryz.func72, Tryz.ntmps72
 go_wp2_with fail
 refine ((h1 _).out).mono ?_
 rintro e w1 ⟨rfl, hb1⟩
 go_wp2_with fail
 refine ((h2 _).out).mono ?_
 rintro e w2 ⟨rfl, hb2⟩
 go_wp2
 go_ret
 have hs := (below_trans hb1 hb2).size
 exact ⟨_, rfl, below_trans (below_trans hb1 hb2) bel, planes_new [(p1, p2, p3, p4), (q1, q2, q3, q4)] rfl hs rfl⟩
def IsO (B n : Nat) (ps : List Q4) : Value → World → Prop := fun v w => w.ownsRow B 69 4 v n (ps.flatMap enc4)
theorem stab_o (B n : Nat) (ps : List Q4) : Stab (IsO B n ps) := fun _ _ _ hb h => own_below h hb
def boxP (l w t : Int) (c : List Q4) : List Q4 := c ++ [axP 0 (-1) (-0), axP 0 1 l] ++ [axP 1 (-1) (-0), axP 1 1 w] ++ [axP 2 (-1) (-0), axP 2 1 t]
def normN (ps : List Q4) : List Q4 := if cellErr ps = 0 then normC ps else []
def inBoxC (l w t : Int) (c : List Q4) : List Q4 := normN (Lib.compact (boxP l w t c))
def RowsV (w : World) (B : Nat) (vs : List Value) (css : List (List Q4)) : Prop :=
 vs.length = css.length ∧ ∀ i (h1 : i < vs.length) (h2 : i < css.length), w.ownsRow B 69 4 vs[i] css[i].length (css[i].flatMap enc4)
theorem RowsV.below {w w' : World} {B : Nat} {vs : List Value} {css : List (List Q4)} (h : RowsV w B vs css) (hb : Below w.heap.size w w') : RowsV w' B vs css := ⟨h.1, fun i h1 h2 => own_below (h.2 i h1 h2) hb⟩
theorem RowsV.snoc {w : World} {B : Nat} {vs : List Value} {css : List (List Q4)} {v : Value} {cs : List Q4} (h : RowsV w B vs css) (hv : w.ownsRow B 69 4 v cs.length (cs.flatMap enc4)) : RowsV w B (vs ++ [v]) (css ++ [cs]) := by
 refine ⟨by simp [h.1], fun i h1 h2 => ?_⟩
 by_cases hi : i < vs.length
 ·have hc : i < css.length := by rw [← h.1]; exact hi
  rw [List.getElem_append_left hi, List.getElem_append_left hc]
  exact h.2 i hi hc
 ·have he : i = vs.length := by simp at h1; omega
  subst he
  have := h.1
  simp only [List.getElem_append_right (Nat.le_refl _), Nat.sub_self, List.getElem_cons_zero]
  rw [List.getElem_append_right (by omega)]
  simp only [this, Nat.sub_self, List.getElem_cons_zero]
  exact hv
theorem RowsV.nil {w : World} {B : Nat} : RowsV w B [] [] := ⟨rfl, fun _ h => by simp at h⟩
theorem RowsV.kept {w w' : World} {B : Nat} {vs : List Value} {css : List (List Q4)} {row : Option Nat} (h : RowsV w B vs css) (hg : w.grownBy w' row) (hne : ∀ g cs, row = some g → w.heap[g]? = some cs → ∃ c t, cs = .cells c t (0, 0) ∧ t ≠ 69) : RowsV w' B vs css := by
 refine ⟨h.1, fun i h1 h2 => (h.2 i h1 h2).kept hg ?_⟩
 cases hr : row with
 | none => cases hv : vs[i].ownBlock <;> simp
 | some g =>
  right
  intro e
  rcases (h.2 i h1 h2).2 with ⟨hv, _⟩ | ⟨g', cap, cur, hv, _, hh, _⟩
  ·rw [hv] at e; simp [Value.ownBlock] at e
  ·rw [hv] at e
   have : g' = g := by simpa [Value.ownBlock] using e
   subst this
   obtain ⟨c, t, h3, h4⟩ := hne _ _ hr hh
   cases h3
   exact h4 rfl
theorem RowsV.set {w : World} {B g i : Nat} {u : Value} {vs : List Value} {css : List (List Q4)} {c : Array Value} {T : TypeId} (h : RowsV w B vs css) (hg : w.heap[g]? = some (.cells c T (0, 0))) (hT : 69 ≠ T) : RowsV (w.setCell ⟨g, i, none⟩ u) B vs css :=
 ⟨h.1, fun k h1 h2 => own_setCell_far (h.2 k h1 h2) _ _ (fun e => own_blk_ne (h.2 k h1 h2) hg hT e.symm)⟩
theorem RowsV.mono {w : World} {B B' : Nat} {vs : List Value} {css : List (List Q4)} (h : RowsV w B vs css) (hb : B' ≤ B) : RowsV w B' vs css := ⟨h.1, fun i h1 h2 => own_mono (h.2 i h1 h2) hb⟩
theorem own_slice {w : World} {base : Nat} {e : TypeId} {size n : Nat} {v : Value} {xs : List Value} (h : w.ownsRow base e size v n xs) : ∃ a c, v = .slice a n c := by
 rcases h.2 with ⟨hv, h0⟩ | ⟨g, cap, cur, hv, _⟩
 ·exact ⟨none, 0, by rw [hv, h0]⟩
 ·exact ⟨_, _, hv⟩
theorem own_row_type {w : World} {base : Nat} {e : TypeId} {size n : Nat} {v : Value} {xs : List Value} (h : w.ownsRow base e size v n xs) : ∀ g cs, v.ownBlock = some g → w.heap[g]? = some cs → ∃ c t, cs = .cells c t (0, 0) ∧ t = e := by
 intro g cs hv hg
 rcases h.2 with ⟨rfl, _⟩ | ⟨g', cap, cur, rfl, _, hh, _⟩
 ·simp [Value.ownBlock] at hv
 ·have : g' = g := by simpa [Value.ownBlock] using hv
  subst this
  rw [hh] at hg
  cases hg
  exact ⟨_, _, rfl, rfl⟩
theorem info_cell : (Tryz.prog.info? 67).map (fun i => (i.zero, i.size, i.bytes)) = some (some (.agg #[.slice none 0 0]), 1, 24) := by kernel_rfl
theorem und_cellL : Tryz.prog.underlying 28 = some (.slice 67) := by kernel_rfl
theorem enc4s_one (ps : List Q4) : ∀ u ∈ ps.flatMap enc4, u.oneCell' = true := fun u hu => by
 obtain ⟨x, _, hx⟩ := List.mem_flatMap.1 hu
 exact enc4_one x u hx
theorem enc4s_len (ps : List Q4) : (ps.flatMap enc4).length = ps.length * 4 := by
 induction ps with
 | nil => rfl
 | cons p ps ih => simp [enc4] at ih ⊢; omega
theorem inBox_any (l w t : Int) (cv : Value) (cs : List (List Q4)) (W : World) (hl : -1000000 ≤ l ∧ l ≤ 1000000) (hw : -1000000 ≤ w ∧ w ≤ 1000000) (ht : -1000000 ≤ t ∧ t ≤ 1000000)
  (B : Nat) (hcv : CellsV B W cv cs) (hn : cs.length ≤ 1000000) (hps : ∀ c ∈ cs, c.length ≤ 1000) :
  Calls Tryz.prog 30 #[.agg #[.int .i64 l, .int .i64 w, .int .i64 t], cv] W fun e w' => ∃ v vs, e = .returned (.agg #[v]) ∧ Below W.heap.size W w' ∧
   w'.ownsRow W.heap.size 67 1 v cs.length vs ∧ RowsV w' W.heap.size vs (cs.map (inBoxC l w t)) := by
 have HCV := Lib.hid hcv
 obtain ⟨⟨a, n, cc, rfl, hlen, hnc, hx⟩, _⟩ := hcv
 have HX := Lib.hid hx
 have HN := Lib.hid hps
 have Hlen := Lib.hid hlen
 obtain ⟨i0, hi0, hz0, hz1, hz2⟩ := info_parts info_cell
 have Hi0 := Lib.hid (And.intro hi0 (And.intro hz0 (And.intro hz1 hz2)))
 have HB0 := fun W' => Lib.hid (between_v 0 0 l W' (by omega) (by omega) (by omega))
 have HB1 := fun W' => Lib.hid (between_v 1 0 w W' (by omega) (by omega) (by omega))
 have HB2 := fun W' => Lib.hid (between_v 2 0 t W' (by omega) (by omega) (by omega))
 clear hx hps hi0 hz0 hz1 hz2
 rw [hlen] at hn ⊢
 clear hlen
 go_enter Tryz.func30, Tryz.ntmps30
 go_wp2
 obtain ⟨W1, HW1⟩ : ∃ W1, Hid (((W.alloc (.cells #[.int .i64 l, .int .i64 w, .int .i64 t] 22)).alloc (.cells #[.slice none 0 0] 30)).alloc (.cells #[.slice none 0 0] 30) = W1) := ⟨_, Lib.hid rfl⟩
 rw [HW1.out]
 have hW1 : Below W.heap.size W W1 := by rw [← HW1.out]; exact bel
 have zW1 : W1.heap.size = W.heap.size + 3 := by rw [← HW1.out]; simp
 have HS1 : Hid (W1.heap[W.heap.size]? = some (.cells #[.int .i64 l, .int .i64 w, .int .i64 t] 22 (0, 0))) := Lib.hid (by rw [← HW1.out]; exact (heap_old (by simp; omega)).trans ((heap_old (by simp)).trans (heap_new rfl)))
 have HR1 : Hid (W1.heap[W.heap.size + 1]? = some (.cells #[.slice none 0 0] 30 (0, 0))) := Lib.hid (by rw [← HW1.out]; exact (heap_old (by simp)).trans (heap_new (by simp)))
 have HO1 : Hid (W1.heap[W.heap.size + 2]? = some (.cells #[.slice none 0 0] 30 (0, 0))) := Lib.hid (by rw [← HW1.out]; exact heap_new (by simp))
 clear HW1
 go_loopw [13] (fun i wr => ∃ k : Nat, k ≤ n ∧ i = .int .i64 k ∧ Below W.heap.size W wr ∧ W.heap.size + 3 ≤ wr.heap.size ∧ Hid (wr.heap[W.heap.size]? = some (.cells #[.int .i64 l, .int .i64 w, .int .i64 t] 22 (0, 0))) ∧
   Hid (wr.heap[W.heap.size + 1]? = some (.cells #[.slice none 0 0] 30 (0, 0))) ∧ ∃ s vs, Hid (wr.heap[W.heap.size + 2]? = some (.cells #[s] 30 (0, 0))) ∧ Hid (wr.ownsRow (W.heap.size + 3) 67 1 s k vs) ∧ Hid (RowsV wr (W.heap.size + 3) vs ((cs.take k).map (inBoxC l w t)))) (fun i _ => n - (intOf i).toNat)
 case atStart => exact ⟨0, by omega, rfl, hW1, by omega, HS1, HR1, .slice none 0 0, [], HO1, Lib.hid (World.ownsRow_nil _ _ _ _), Lib.hid RowsV.nil⟩
 case round =>
  clear hW1 zW1 HS1 HR1 HO1
  obtain ⟨k, hk, rfl, hb, zr, HS, HR, s, vs, HG, HO, HV⟩ := hrel
  by_cases hlt : k < n
  ·have hk' : k < cs.length := by have := Hlen.out; omega
   obtain ⟨b, off, rfl, hi⟩ := HX.out (by omega)
   obtain ⟨u, hu, hpl⟩ := hi k hk'
   have cu := below_cell hb hu
   have zb := World.block_lt_of_cell? wr _ cu
   simp only at zb
   have HP := Lib.hid (hpl.below hb)
   have HPn := Lib.hid (HN.out cs[k] (List.getElem_mem hk'))
   have Hsn : Hid ((cs.take (k + 1)).map (inBoxC l w t) = (cs.take k).map (inBoxC l w t) ++ [inBoxC l w t cs[k]]) := Lib.hid (by rw [List.take_succ_eq_append_getElem hk', List.map_append]; rfl)
   generalize cs[k] = c at *
   clear hi hu hpl
   have q1 : (k : Int) < (n : Int) := by omega
   have q2 : (0 : Int) ≤ (k : Int) := by omega
   obtain ⟨pa, pm, pc, rfl⟩ : ∃ pa pm pc, u = .slice pa pm pc := by obtain ⟨⟨a, m, c, h, _⟩, _⟩ := HP.out; exact ⟨a, m, c, h⟩
   go_wp2
   have zO := HS.out
   have s0 := (blk_cell HS.out 0).trans rfl
   have s1 := (blk_cell HS.out 1).trans rfl
   have s2 := (blk_cell HS.out 2).trans rfl
   simp only [List.getElem?_toArray, List.getElem?_cons_zero, List.getElem?_cons_succ] at s0 s1 s2
   clear zO cu
   refine wp_region_grow [0, 1, 2, 3, 4, 5, 6, 7, 8, 9, 10, 11] 12 [] (pick [
    IsP B c, IsV (.pointer (some ⟨W.heap.size, 0, none⟩)), IsV (.int .i64 l), IsP 0 [axP 0 (-1) (-0), axP 0 1 l],
    IsV (.pointer (some ⟨W.heap.size, 1, none⟩)), IsV (.int .i64 w), IsP 0 [axP 1 (-1) (-0), axP 1 1 w],
    IsV (.pointer (some ⟨W.heap.size, 2, none⟩)), IsV (.int .i64 t), IsP 0 [axP 2 (-1) (-0), axP 2 1 t],
    IsC 0 [c, [axP 0 (-1) (-0), axP 0 1 l], [axP 1 (-1) (-0), axP 1 1 w], [axP 2 (-1) (-0), axP 2 1 t]], IsO wr.heap.size (boxP l w t c).length (boxP l w t c)]) (by kernel_rfl) (by kernel_rfl) (Stabs.pick (by repeat (first | exact Stabs.nil | refine Stabs.cons (by first | exact stab_v _ | exact stab_p _ _ | exact stab_c _ _ | exact stab_k _ _ | exact stab_kg _ _ | exact stab_o _ _ _) ?_))) ?_
   try go_frame
   refine wpG_step _ _ rfl rfl (by simp) (fun w' hb' hR K hK => ?_) (fun v0 => ?_)
   ·clear hR
    have := HP.out.below hb'
    go_simp
    exact hK _ _ (Below.refl _ _) this
   try go_frame
   refine wpG_step _ _ rfl rfl (by simp) (fun w' hb' hR K hK => ?_) (fun v1 => ?_)
   ·clear hR
    have z := hb'.size
    go_simp
    exact hK _ _ (Below.refl _ _) rfl
   try go_frame
   refine wpG_step _ _ rfl rfl (by simp) (fun w' hb' hR K hK => ?_) (fun v2 => ?_)
   ·obtain rfl : v1 = _ := hr hR 1
    have c2 := below_cell hb' s0
    have z2 := World.block_lt_of_cell? w' _ c2
    simp only at z2
    clear hR
    go_simp
    exact hK _ _ (Below.refl _ _) rfl
   try go_frame
   refine wpG_step _ _ rfl rfl (by simp) (fun w' hb' hR K hK => ?_) (fun v3 => ?_)
   ·obtain rfl : v2 = _ := hr hR 2
    clear hR
    go_simp
    refine ((HB0 _).out).mono ?_
    rintro e w1 ⟨r, rfl, hb1, hp⟩
    exact hK _ _ hb1 (hp.mono (Nat.zero_le _))
   try go_frame
   refine wpG_step _ _ rfl rfl (by simp) (fun w' hb' hR K hK => ?_) (fun v4 => ?_)
   ·clear hR
    have z := hb'.size
    go_simp
    exact hK _ _ (Below.refl _ _) rfl
   try go_frame
   refine wpG_step _ _ rfl rfl (by simp) (fun w' hb' hR K hK => ?_) (fun v5 => ?_)
   ·obtain rfl : v4 = _ := hr hR 4
    have c2 := below_cell hb' s1
    have z2 := World.block_lt_of_cell? w' _ c2
    simp only at z2
    clear hR
    go_simp
    exact hK _ _ (Below.refl _ _) rfl
   try go_frame
   refine wpG_step _ _ rfl rfl (by simp) (fun w' hb' hR K hK => ?_) (fun v6 => ?_)
   ·obtain rfl : v5 = _ := hr hR 5
    clear hR
    go_simp
    refine ((HB1 _).out).mono ?_
    rintro e w1 ⟨r, rfl, hb1, hp⟩
    exact hK _ _ hb1 (hp.mono (Nat.zero_le _))
   try go_frame
   refine wpG_step _ _ rfl rfl (by simp) (fun w' hb' hR K hK => ?_) (fun v7 => ?_)
   ·clear hR
    have z := hb'.size
    go_simp
    exact hK _ _ (Below.refl _ _) rfl
   try go_frame
   refine wpG_step _ _ rfl rfl (by simp) (fun w' hb' hR K hK => ?_) (fun v8 => ?_)
   ·obtain rfl : v7 = _ := hr hR 7
    have c2 := below_cell hb' s2
    have z2 := World.block_lt_of_cell? w' _ c2
    simp only at z2
    clear hR
    go_simp
    exact hK _ _ (Below.refl _ _) rfl
   try go_frame
   refine wpG_step _ _ rfl rfl (by simp) (fun w' hb' hR K hK => ?_) (fun v9 => ?_)
   ·obtain rfl : v8 = _ := hr hR 8
    clear hR
    go_simp
    refine ((HB2 _).out).mono ?_
    rintro e w1 ⟨r, rfl, hb1, hp⟩
    exact hK _ _ hb1 (hp.mono (Nat.zero_le _))
   try go_frame
   refine wpG_step _ _ rfl rfl (by simp) (fun w' hb' hR K hK => ?_) (fun v10 => ?_)
   ·have hp0 : PlanesV B w' v0 _ := hr hR 0
    have hp1 : PlanesV 0 w' v3 _ := hr hR 3
    have hp2 : PlanesV 0 w' v6 _ := hr hR 6
    have hp3 : PlanesV 0 w' v9 _ := hr hR 9
    have HP0 := Lib.hid hp0
    have HP1 := Lib.hid hp1
    have HP2 := Lib.hid hp2
    have HP3 := Lib.hid hp3
    obtain ⟨⟨a0, m0, c0, rfl, _⟩, _⟩ := hp0
    obtain ⟨⟨a1, m1, c1, rfl, _⟩, _⟩ := hp1
    obtain ⟨⟨a2, m2, c2, rfl, _⟩, _⟩ := hp2
    obtain ⟨⟨a3, m3, c3, rfl, _⟩, _⟩ := hp3
    clear hR
    go_simp
    exact hK _ _ bel ⟨each_new [_, _, _, _] [_, _, _, _] rfl rfl rfl (by
     intro q hq
     simp only [List.zip_cons_cons, List.zip_nil_right, List.mem_cons, List.not_mem_nil, or_false] at hq
     rcases hq with rfl | rfl | rfl | rfl
     ·exact (HP0.out.below bel).mono (Nat.zero_le _)
     ·exact HP1.out.below bel
     ·exact HP2.out.below bel
     ·exact HP3.out.below bel), At.mk (Nat.zero_le _)⟩
   try go_frame
   refine wpG_step _ _ rfl rfl (by simp) (fun w' hb' hR K hK => ?_) (fun v11 => ?_)
   ·have hp : CellsV 0 w' v10 _ := hr hR 10
    obtain ⟨⟨a0, m0, c0, rfl, hm0, _, hx0⟩, _⟩ := hp
    obtain rfl : m0 = 4 := by simpa using hm0.symm
    obtain ⟨b0, off0, rfl, hi0⟩ := hx0 (by omega)
    have e1 : (([c, [axP 0 (-1) (-0), axP 0 1 l], [axP 1 (-1) (-0), axP 1 1 w], [axP 2 (-1) (-0), axP 2 1 t]] : List (List Q4)).map (List.flatMap enc4)).flatten = (boxP l w t c).flatMap enc4 := by simp [boxP]
    have hcat := Lib.hid (concat_cell w' b0 off0 c0 (([c, [axP 0 (-1) (-0), axP 0 1 l], [axP 1 (-1) (-0), axP 1 1 w], [axP 2 (-1) (-0), axP 2 1 t]] : List (List Q4)).map (List.flatMap enc4)) (by
      intro i hi
      obtain ⟨u, hu, hpu⟩ := hi0 i (by simpa using hi)
      exact ⟨u, hu, by rw [List.getElem_map]; exact hpu.1⟩) (by simp) (by simp) (by
      intro cs' hcs'
      obtain ⟨x, _, rfl⟩ := List.mem_map.1 hcs'
      exact enc4s_one x) (by
      rw [e1, enc4s_len]
      have := HPn.out
      simp [boxP]
      omega))
    have hz := hb'.size
    have E1 := Lib.hid e1
    clear hR hi0 hx0 e1
    go_simp
    refine hcat.out.mono ?_
    rintro e w1 ⟨r, m, rfl, hb1, ho⟩
    refine hK _ _ hb1 ?_
    rw [E1.out] at ho
    have e2 : m = (boxP l w t c).length := by have := ho.1; rw [enc4s_len] at this; omega
    rw [e2] at ho
    exact own_mono ho (by omega)
   go_frame
   refine wpG_nil (fun w' hb' hR => ?_)
   have ho : w'.ownsRow wr.heap.size 69 4 v11 (boxP l w t c).length ((boxP l w t c).flatMap enc4) := hR 11 (by simp)
   have HQ := Lib.hid ho
   have Hbl : Hid ((boxP l w t c).length ≤ 10000) := Lib.hid (by have := HPn.out; simp [boxP]; omega)
   clear hR ho HP s0 s1 s2 zb
   obtain ⟨bp, Hbp⟩ : ∃ bp, Hid (boxP l w t c = bp) := ⟨_, Lib.hid rfl⟩
   rw [Hbp.out] at HQ Hbl
   have hcm := Lib.hid (compactCells_any bp wr.heap.size bp.length v11 w' rfl (by have := Hbl.out; omega) HQ.out)
   simp only [oas]
   go_wp2
   refine NoPanic.normal ?_
   go_wp2_with fail
   refine hcm.out.mono ?_
   rintro e w2 ⟨cv', rfl, hg2, ⟨ca, cn, cc', rfl⟩, ho2⟩
   have hb2 : Below wr.heap.size wr w2 := hb'.grown hg2 hb'.size (fun q hq => (HQ.out.lt q hq).1)
   have hQ2 := q4s_own ho2
   have Hcl : Hid ((Lib.compact bp).length ≤ 10000) := Lib.hid (Nat.le_trans (compact_len bp) Hbl.out)
   obtain ⟨cb, Hcb⟩ : ∃ cb, Hid (Lib.compact bp = cb) := ⟨_, Lib.hid rfl⟩
   rw [Hcb.out] at hQ2 Hcl
   have hnm := Lib.hid (Normal_any cb (.slice ca cn cc') w2 (by have := Hcl.out; omega) hQ2)
   clear hcm hg2 ho2 hQ2 HQ hb'
   go_wp2_with fail
   refine hnm.out.mono ?_
   rintro e w3 ⟨hb3, hpost⟩
   obtain ⟨nv, err, rfl, hown3⟩ : ∃ nv err, e = .returned (.tuple #[.agg #[nv], .int .i64 err]) ∧ w3.ownsRow wr.heap.size 69 4 nv (normN cb).length ((normN cb).flatMap enc4) := by
    rcases hpost with ⟨h0, v, rfl, ho⟩ | ⟨h0, rfl⟩
    ·exact ⟨_, _, rfl, by unfold normN; rw [if_pos h0]; exact own_mono ho hb2.size⟩
    ·exact ⟨_, _, rfl, by unfold normN; rw [if_neg h0]; exact World.ownsRow_nil _ _ _ _⟩
   have hbw3 : Below wr.heap.size wr w3 := hb2.trans (hb3.mono hb2.size)
   obtain ⟨na, nn, nc, rfl⟩ : ∃ a m c, nv = .slice a m c := by obtain ⟨a, m, c, h, _⟩ := q4s_own hown3; exact ⟨a, m, c, h⟩
   have HN3 := Lib.hid hown3
   have HS3 : Hid (w3.heap[W.heap.size]? = _) := Lib.hid ((hbw3.block _ (blk_lt HS.out)).trans HS.out)
   have HR3 : Hid (w3.heap[W.heap.size + 1]? = _) := Lib.hid ((hbw3.block _ (blk_lt HR.out)).trans HR.out)
   have HG3 : Hid (w3.heap[W.heap.size + 2]? = _) := Lib.hid ((hbw3.block _ (blk_lt HG.out)).trans HG.out)
   have HO3 := Lib.hid (own_below HO.out hbw3)
   have HV3 := Lib.hid (HV.out.below hbw3)
   have hW3 := below_trans hb hbw3
   have zr3 := Nat.le_trans zr hbw3.size
   have Hnn : Hid (inBoxC l w t c = normN cb) := Lib.hid (by unfold inBoxC; rw [Hbp.out, Hcb.out])
   have HN4 := Lib.hid (own_mono HN3.out zr)
   clear hpost hown3 hnm hb2 hb3 hbw3 HS HR HG HO HV hb zr Hbp Hcb HN3
   obtain ⟨sa, sc, rfl⟩ := own_slice HO3.out
   have g0 : w3.cell? ⟨W.heap.size + 2, 0, none⟩ = some (.slice sa k sc) := (blk_cell HG3.out 0).trans rfl
   have zg := blk_lt HG3.out
   go_wp2_with (at_builtin; refine wpList_append_own _ rfl _ _ 28 rfl (W.heap.size + 3) 67 i0 (.agg #[.slice none 0 0]) 1 24 und_cellL Hi0.out.1 Hi0.out.2.1 Hi0.out.2.2.1 Hi0.out.2.2.2 rfl (by decide) (.slice sa k sc) k _ rfl ((HO3.out.alloc _).alloc _) ⟨w3.heap.size + 1, 0, none⟩ 1 1 [.slice na nn nc] rfl rfl ?c1 ?c2 ?c3 ?c4 ?c5 ?_)
   case c1 =>
    intro jj uu hu
    rw [add0, cell_new (by simp) jj]
    simpa using hu
   case c2 => intro v hv; simp at hv; subst hv; rfl
   case c3 => unfold maxLen; omega
   case c4 => omega
   case c5 => simp; omega
   intro v' w5 hown5 hg5 _
   obtain ⟨va, vc, rfl⟩ := own_slice hown5
   have e4 : ∀ g, g < w3.heap.size → ((w3.alloc (.cells #[.slice na nn nc] 67)).alloc (.cells #[.slice na nn nc] 67)).heap[g]? = w3.heap[g]? := fun g hg => (heap_old (by simp; omega)).trans (heap_old hg)
   have HO4 := Lib.hid ((HO3.out.alloc (.cells #[.slice na nn nc] 67)).alloc (.cells #[.slice na nn nc] 67))
   have HS5 : Hid (w5.heap[W.heap.size]? = _) := Lib.hid ((hg5.block _ (by simp; omega) (fun e => own_blk_ne HO4.out ((e4 _ (blk_lt HS3.out)).trans HS3.out) (by decide) e.symm)).trans ((e4 _ (blk_lt HS3.out)).trans HS3.out))
   have HR5 : Hid (w5.heap[W.heap.size + 1]? = _) := Lib.hid ((hg5.block _ (by simp; omega) (fun e => own_blk_ne HO4.out ((e4 _ (blk_lt HR3.out)).trans HR3.out) (by decide) e.symm)).trans ((e4 _ (blk_lt HR3.out)).trans HR3.out))
   have HG5 : Hid (w5.heap[W.heap.size + 2]? = _) := Lib.hid ((hg5.block _ (by simp; omega) (fun e => own_blk_ne HO4.out ((e4 _ (blk_lt HG3.out)).trans HG3.out) (by decide) e.symm)).trans ((e4 _ (blk_lt HG3.out)).trans HG3.out))
   have hb34 : Below w3.heap.size w3 ((w3.alloc (.cells #[.slice na nn nc] 67)).alloc (.cells #[.slice na nn nc] 67)) := bel
   have HV5 := Lib.hid (((HV3.out.snoc HN4.out).below hb34).kept hg5 (fun g cs hr hc => by obtain ⟨c, t, h1, h2⟩ := own_row_type HO4.out g cs hr hc; exact ⟨c, t, h1, by rw [h2]; decide⟩))
   have hW5 : Below W.heap.size W w5 := (below_trans hW3 hb34).grown hg5 (by simp; omega) (fun q hq => by have := (HO4.out.lt q hq).1; omega)
   have zr5 : W.heap.size + 3 ≤ w5.heap.size := Nat.le_trans (by simp; omega) hg5.size
   have HO5 := Lib.hid hown5
   have g5 : w5.cell? ⟨W.heap.size + 2, 0, none⟩ = some (.slice sa k sc) := (blk_cell HG5.out 0).trans rfl
   have gf := blk_free HG5.out 0
   have zg5 := blk_lt HG5.out
   clear hown5 hg5 e4 HO4 HS3 HR3 HG3 HO3 HV3 hb34 hW3 zr3 zg g0 HN4
   go_wp2
   go_roundw
   case rel =>
    refine ⟨k + 1, by omega, by go_num, hW5.setCell (by simp <;> omega) _, (by simp; omega), Lib.hid ((Below.heap_setCell _ _ _ _ (by simp <;> omega)).trans HS5.out), Lib.hid ((Below.heap_setCell _ _ _ _ (by simp <;> omega)).trans HR5.out), .slice va (k + 1) vc, _, Lib.hid (blk_set HG5.out 0 _), Lib.hid (own_setCell_far HO5.out _ _ (fun e => own_blk_ne HO5.out HG5.out (by decide) e.symm)), Lib.hid ?_⟩
    rw [Hsn.out, Hnn.out]
    exact HV5.out.set HG5.out (by decide)
   case measure => simp [intOf]; omega
  ·obtain rfl : k = n := by omega
   obtain ⟨sa, sc, rfl⟩ := own_slice HO.out
   have g0 : wr.cell? ⟨W.heap.size + 2, 0, none⟩ = some (.slice sa k sc) := (blk_cell HG.out 0).trans rfl
   have r0 : wr.cell? ⟨W.heap.size + 1, 0, none⟩ = some (.slice none 0 0) := (blk_cell HR.out 0).trans rfl
   have rf := blk_free HR.out 0
   have zg := blk_lt HG.out
   go_wp2
   refine bodyPost_ret (v := .agg #[.slice sa k sc]) (by simp [results, Tryz.results30, go_sem, r0]) rfl ⟨_, vs, rfl, hb.setCell (by simp) _, ?_, ?_⟩
   ·exact own_mono (own_setCell_far HO.out _ _ (fun e => own_blk_ne HO.out HR.out (by decide) e.symm)) (by omega)
   ·have := HV.out
    rw [List.take_of_length_le (by have := Hlen.out; omega)] at this
    exact (this.set HR.out (by decide)).mono (by omega)
end
section
open Go.RowKit
theorem mem_compact' (l : List Q4) : ∀ i (h : i < l.length), l[i] ∈ Lib.compact l
 | 0, h => by
  simp only [Lib.compact, Lib.compactUpTo, List.mem_map, List.mem_filter, List.mem_range]
  exact ⟨0, ⟨h, by simp [Lib.keeps]⟩, by rw [getElem!_pos l.toArray 0 (by simpa using h)]; simp⟩
 | i + 1, h => by
  by_cases hk : Lib.keeps l.toArray (i + 1) = true
  ·simp only [Lib.compact, Lib.compactUpTo, List.mem_map, List.mem_filter, List.mem_range]
   exact ⟨i + 1, ⟨h, hk⟩, by rw [getElem!_pos l.toArray (i + 1) (by simpa using h)]; simp⟩
  ·have e : l[i + 1] = l[i] := by
    simp only [Lib.keeps] at hk
    rw [getElem!_pos l.toArray (i + 1) (by simpa using h), getElem!_pos l.toArray (i + 1 - 1) (by simp; omega)] at hk
    simpa using hk
   rw [e]
   exact mem_compact' l i (by omega)
theorem mem_compact (l : List Q4) (x : Q4) : x ∈ Lib.compact l ↔ x ∈ l :=
 ⟨compact_mem, fun h => by obtain ⟨i, hi, rfl⟩ := List.getElem_of_mem h; exact mem_compact' l i hi⟩
theorem corners_iff (ps : List Q4) (c : Q4) : c ∈ cornersOf ps ↔ c ∈ raw ps ps.length := by
 unfold cornersOf
 rw [mem_compact]
 simp [sortP]
theorem raw_allowed {ps : List Q4} {n : Nat} {c : Q4} (h : c ∈ raw ps n) : allowedB ps c = true := by
 unfold raw rawI rawK at h
 simp only [List.mem_flatMap, List.mem_range] at h
 obtain ⟨i, _, k, _, m, _, h⟩ := h
 unfold raw1 at h
 split at h
 ·cases h
 ·split at h
  ·rename_i ha
   rw [List.mem_singleton] at h
   subst h
   exact ha
  ·cases h
theorem allowed_slk {ps : List Q4} {c : Q4} (h : allowedB ps c = true) {p : Q4} (hp : p ∈ ps) : 0 ≤ slk p (xyz c) c.2.2.2 := by
 unfold allowedB at h
 simp only [Bool.not_eq_true', List.any_eq_false, decide_eq_true_eq] at h
 have := h p hp
 rw [sd_slk, sgn_pos_iff] at this
 omega
structure HasBox (ps : List Q4) (l w t : Int) : Prop where
 x0 : (-1, 0, 0, 0) ∈ ps
 x1 : (1, 0, 0, l) ∈ ps
 y0 : (0, -1, 0, 0) ∈ ps
 y1 : (0, 1, 0, w) ∈ ps
 z0 : (0, 0, -1, 0) ∈ ps
 z1 : (0, 0, 1, t) ∈ ps
theorem HasBox.ray {ps : List Q4} {l w t : Int} (h : HasBox ps l w t) (d : Q3) (hd : d ≠ (0, 0, 0)) : ∃ p ∈ ps, 0 < dotP (nrm p) d := by
 obtain ⟨a, b, c⟩ := d
 by_cases h1 : 0 < a
 ·exact ⟨_, h.x1, by simp [dotP, nrm]; omega⟩
 by_cases h2 : a < 0
 ·exact ⟨_, h.x0, by simp [dotP, nrm]; omega⟩
 by_cases h3 : 0 < b
 ·exact ⟨_, h.y1, by simp [dotP, nrm]; omega⟩
 by_cases h4 : b < 0
 ·exact ⟨_, h.y0, by simp [dotP, nrm]; omega⟩
 by_cases h5 : 0 < c
 ·exact ⟨_, h.z1, by simp [dotP, nrm]; omega⟩
 by_cases h6 : c < 0
 ·exact ⟨_, h.z0, by simp [dotP, nrm]; omega⟩
 exact absurd (by simp only [Prod.mk.injEq]; omega) hd
theorem dot_comm (a b : Q3) : dotP a b = dotP b a := by unfold dotP; grind
theorem HasBox.bounded {ps : List Q4} {l w t : Int} (h : HasBox ps l w t) : boundedB ps = true := by
 unfold boundedB
 rw [Bool.and_eq_true]
 constructor
 ·rw [List.all_eq_true]
  intro i _
  rw [List.all_eq_true]
  intro k _
  unfold goodB nzB
  by_cases h0 : lineP ps i k = (0, 0, 0)
  ·simp [h0]
  ·have hn : decide (lineP ps i k ≠ (0, 0, 0)) = true := decide_eq_true h0
   rw [hn]
   have h1 := h.ray _ h0
   have h2 := h.ray (-(lineP ps i k).1, -(lineP ps i k).2.1, -(lineP ps i k).2.2) (fun e => h0 (by
    generalize lineP ps i k = v at *
    obtain ⟨a, b, c⟩ := v
    simp only [Prod.mk.injEq] at e ⊢
    omega))
   obtain ⟨p, hp, hpd⟩ := h1
   obtain ⟨q, hq, hqd⟩ := h2
   have e1 : abvB ps (lineP ps i k) ps.length = true := by
    unfold abvB
    rw [List.take_length, List.any_eq_true]
    exact ⟨p, hp, by rw [dot_comm]; exact decide_eq_true hpd⟩
   have e2 : blwB ps (lineP ps i k) ps.length = true := by
    unfold blwB
    rw [List.take_length, List.any_eq_true]
    refine ⟨q, hq, decide_eq_true ?_⟩
    have : dotP (nrm q) (-(lineP ps i k).1, -(lineP ps i k).2.1, -(lineP ps i k).2.2) = -(dotP (lineP ps i k) (nrm q)) := by unfold dotP; grind
    omega
   rw [e1, e2]; rfl
 ·obtain ⟨i, hi, ei⟩ := getP_at h.x1
  obtain ⟨k, hk, ek⟩ := getP_at h.y1
  have hne : i ≠ k := fun e => by subst e; rw [ei] at ek; simp at ek
  unfold fullA fullI
  rw [List.any_eq_true]
  rcases Nat.lt_or_gt_of_ne hne with hl | hl
  ·refine ⟨k, by simpa using hk, ?_⟩
   rw [List.any_eq_true]
   refine ⟨i, by simpa using hl, ?_⟩
   unfold nzB lineP
   rw [ei, ek]
   simp [crossP, nrm]
  ·refine ⟨i, by simpa using hi, ?_⟩
   rw [List.any_eq_true]
   refine ⟨k, by simpa using hl, ?_⟩
   unfold nzB lineP
   rw [ei, ek]
   simp [crossP, nrm]
theorem planeErr_ok {p : Q4} (h : okPl0 p) : planeErr p = 0 := by
 obtain ⟨⟨h1, h2, h3, h4⟩, h5⟩ := h
 unfold planeErr
 split
 ·omega
 ·split
  ·omega
  ·first | rfl | (split <;> omega)
theorem cellErr_box {ps : List Q4} {l w t : Int} (h : HasBox ps l w t) (hlen : ps.length ≤ 16) (hok : ∀ p ∈ ps, okPl0 p) (hl : 1 ≤ l ∧ l ≤ 100000) (hw : 1 ≤ w ∧ w ≤ 100000) (ht : 1 ≤ t ∧ t ≤ 100000)
  (x : Q3) (W : Int) (hW : 0 < W) (hin : ∀ p ∈ ps, 0 < slk p x W) : cellErr ps = 0 := by
 have h1 : firstErr ps = 0 := firstErr_none ps (fun i hi => planeErr_ok (hok _ (List.getElem_mem hi)))
 have h2 : solidB ps (cornersOf ps) = true := by
  unfold solidB
  rw [Bool.and_eq_true]
  refine ⟨?_, decide_eq_true (List.length_pos_of_mem h.x0)⟩
  rw [List.all_eq_true]
  intro p hp
  unfold innerB
  rw [List.any_eq_true]
  obtain ⟨c, hc, hs⟩ := inner_corner ps h.ray x W hW hin p hp
  exact ⟨c, (corners_iff ps c).2 hc, decide_eq_true hs⟩
 have h3 : roomB (cornersOf ps) = true := by
  unfold roomB
  simp only [Bool.not_eq_true', List.any_eq_false]
  intro c hc
  have hc' := (corners_iff ps c).1 hc
  have ha := raw_allowed hc'
  have hn := raw_nrm ps (fun p hp => (hok p hp).1) ps.length (Nat.le_refl _) c hc'
  have a1 := allowed_slk ha h.x0
  have a2 := allowed_slk ha h.x1
  have a3 := allowed_slk ha h.y0
  have a4 := allowed_slk ha h.y1
  have a5 := allowed_slk ha h.z0
  have a6 := allowed_slk ha h.z1
  simp only [slk, dotP, nrm, xyz] at a1 a2 a3 a4 a5 a6
  have hd := hn.1.2.2.2
  have b1 : l * c.2.2.2 ≤ 100000 * c.2.2.2 := Int.mul_le_mul_of_nonneg_right hl.2 (by omega)
  have b2 : w * c.2.2.2 ≤ 100000 * c.2.2.2 := Int.mul_le_mul_of_nonneg_right hw.2 (by omega)
  have b3 : t * c.2.2.2 ≤ 100000 * c.2.2.2 := Int.mul_le_mul_of_nonneg_right ht.2 (by omega)
  simp only [inRm, Bool.and_eq_false_iff, decide_eq_false_iff_not]
  omega
 unfold cellErr
 rw [if_neg (by omega), if_neg (by simp [h1]), if_neg (by simp [h.bounded]), if_neg (by simp [h2]), if_neg (by simp [h3])]
end
end Go.Proofs.YtokhkhnofkcalaaGreatDoor
