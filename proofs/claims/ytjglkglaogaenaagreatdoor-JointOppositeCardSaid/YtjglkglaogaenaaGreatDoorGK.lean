/- texts of mine, merged: Swap, J9, J10, J11. -/
import Derived.Test.YtjglkglaogaenaaGreatDoorGA
import Derived.Test.YtjglkglaogaenaaGreatDoorGJ
import Derived.Test.YtjglkglaogaenaaGreatDoorShelf
import Derived.Lib.AppendIntMem
import Derived.Lib.ItoaLen
/- A region that draws its order: world-free operations, then two operations in either order, then a forced tail. No program is named here. -/
namespace Go.Proofs.YtjglkglaogaenaaGreatDoor
section
open Go.RowKit
section
variable {P : Program} {ops : Array Oper} {md : Region.Mode} {Q : Exit → Act → World → Prop}
def twoB (md : Region.Mode) (ops : Array Oper) (x y : Nat) (ts : List Nat) (listed : Array Bool) : Bool :=
  decide (Region.ready md ops listed = [x, y]) && forcedB md ops (y :: ts) (listed.setIfInBounds x true) && forcedB md ops (x :: ts) (listed.setIfInBounds y true)
def swapB (md : Region.Mode) (ops : Array Oper) (wi : List Nat) (x y : Nat) (ts : List Nat) : Bool :=
  Region.noSelect ops && decide (wi.length + (ts.length + 2) = ops.size) && (wi.all fun i => !(x :: y :: ts).contains i) && freeB md ops (twoB md ops x y ts) wi (Array.replicate ops.size false)
theorem any_of_two {x y : Nat} {ts : List Nat} {listed : Array Bool} {a : Act} {w : World} (hB : twoB md ops x y ts listed = true)
    (h1 : wpList P ops Q (opsAt ops (x :: y :: ts)) a w) (h2 : wpList P ops Q (opsAt ops (y :: x :: ts)) a w) : wpAny P md ops Q (ts.length + 2) listed a w := by
  simp only [twoB, Bool.and_eq_true, decide_eq_true_eq] at hB
  obtain ⟨⟨hr, hx⟩, hy⟩ := hB
  have go : ∀ i l, i ∈ Region.ready md ops listed → l.length = ts.length + 1 → forcedB md ops l (listed.setIfInBounds i true) = true → wpList P ops Q (opsAt ops (i :: l)) a w → wpOp P ops Q i (wpAny P md ops Q (ts.length + 1) (listed.setIfInBounds i true)) a w := by
    intro i l hi hl hf h
    obtain ⟨_, oi, hoi, _⟩ := mem_ready.1 hi
    have hl' : opsAt ops (i :: l) = oi :: opsAt ops l := by simp [opsAt, hoi]
    rw [hl'] at h
    have hw : wpOp P ops Q i (wpList P ops Q (opsAt ops l)) a w := by unfold wpOp; simp only [hoi]; exact h
    exact wpOp_mono (fun a' w' h' => by rw [← hl]; exact any_of_forced l _ a' w' hf h') hw
  refine ⟨fun h0 => (by rw [hr] at h0; cases h0), fun j hj => ?_⟩
  have hj' := hj
  rw [hr] at hj'
  simp only [List.mem_cons, List.not_mem_nil, or_false] at hj'
  rcases hj' with rfl | rfl
  · exact go _ (y :: ts) hj rfl hx h1
  · exact go _ (x :: ts) hj rfl hy h2
theorem wp_region_swap {id : Nat} {a : Act} {w : World} {l : List Oper} (wi : List Nat) (x y : Nat) (ts : List Nat) (hm : P.follows .mixedOrders = true) (hB : swapB .any l.toArray wi x y ts = true)
    (h : wpW P l.toArray (fun a' => wpList P l.toArray (NoPanic Q) (opsAt l.toArray (x :: y :: ts)) a' { w with drawn := w.drawn + 1 } ∧ wpList P l.toArray (NoPanic Q) (opsAt l.toArray (y :: x :: ts)) a' { w with drawn := w.drawn + 1 }) (opsAt l.toArray wi) a) :
    (Code.region id l.toArray true).wp P Q a w := by
  refine wp_region_noPanic (wp_region_any hm ?_)
  simp only [swapB, Bool.and_eq_true, decide_eq_true_eq] at hB
  obtain ⟨⟨⟨hsel, hsz⟩, hd⟩, hf⟩ := hB
  have hit : ∀ i ∈ wi, i ∉ x :: y :: ts := fun i hi => by
    have := List.all_eq_true.1 hd i hi
    simpa using this
  have inv0 : Inv .any l.toArray (x :: y :: ts) (Array.replicate l.toArray.size false) :=
    ⟨fun j oj _ hl => (by rw [getD_replicate_false] at hl; cases hl), fun t _ ht => getD_in (by simpa using ht) (getD_replicate_false _ _), by simp⟩
  have := any_of_W (P := P) (md := .any) (Q := NoPanic Q) (g := ts.length + 2) (w := { w with drawn := w.drawn + 1 }) hsel (fun c a w h => h) (x :: y :: ts)
    (fun listed a' hG _ hq => any_of_two hG hq.1 hq.2) wi _ a hit inv0 hf h
  rw [hsz] at this
  exact this
end
end
/- joint: names, Print. -/
section
open Go.RowKit Go.Shelf
attribute [local go_sem] Ext.cell Ext.frozen
def nameB : List ByteArray := [⟨#[108, 97, 112]⟩, ⟨#[98, 114, 105, 100, 108, 101]⟩, ⟨#[116, 101, 110, 111, 110]⟩, ⟨#[115, 116, 111, 112, 112, 101, 100]⟩, ⟨#[116, 111, 110, 103, 117, 101]⟩, ⟨#[100, 111, 118, 101, 116, 97, 105, 108]⟩, ⟨#[115, 99, 97, 114, 102]⟩, ⟨#[102, 105, 110, 103, 101, 114, 115]⟩, ⟨#[100, 111, 119, 101, 108, 115]⟩, ⟨#[115, 112, 108, 105, 110, 101]⟩, ⟨#[116, 104, 114, 101, 101]⟩]
theorem names_any (w : World) : Calls Tryz.prog 99 #[] w fun e w' => e = .returned (.slice (some ⟨w.heap.size, 0, none⟩) 11 11) ∧ w' = w.alloc (.cells (nameB.map Value.string).toArray 9) := by
  go_enter Tryz.func99, Tryz.ntmps99
  go_wp2
  go_ret
  exact ⟨rfl, rfl⟩
theorem tab_below {w w' : World} (h : Lib.TabIs Tryz.prog w "internal/strconv.uint64pow10" .u64 Lib.pow10Tab) (hb : Below w.heap.size w w') : Lib.TabIs Tryz.prog w' "internal/strconv.uint64pow10" .u64 Lib.pow10Tab := by
  obtain ⟨g, hg⟩ := Option.isSome_iff_exists.1 (show (Tryz.prog.globalNamed "internal/strconv.uint64pow10").isSome = true by kernel_rfl)
  unfold Lib.TabIs World.var? at h ⊢
  rw [hg] at h ⊢
  simp only [Option.bind_some] at h ⊢
  have hlt : g < w.heap.size := by
    rcases Nat.lt_or_ge g w.heap.size with h' | h'
    · exact h'
    · rw [Array.getElem?_eq_none h'] at h; cases h
  rw [hb.block g hlt]
  exact h
theorem itoa_any (n : Int) (hn : -1000000000 ≤ n ∧ n ≤ 1000000000) (w : World) (htab : Lib.TabIs Tryz.prog w "internal/strconv.uint64pow10" .u64 Lib.pow10Tab) :
    Calls Tryz.prog 101 #[.int .i64 n] w (Ret w (.string ⟨(Lib.itoa n).toArray⟩)) :=
  (Tryz.strconv_Itoa n (by omega) (by omega) w htab).mono (by
    rintro e w' ⟨rfl, k, os, rfl⟩
    exact ⟨rfl, Lib.below_grow _ _ (Nat.le_refl _) k os⟩)
structure Shut (p : Prop) : Prop where
  out : p
theorem two_of {A B p : Prop} (h1 : Shut p → A) (h2 : Shut p → B) (h : p) : A ∧ B := ⟨h1 ⟨h⟩, h2 ⟨h⟩⟩
def txt (x : Int) : ByteArray := ⟨(Lib.itoa x).toArray⟩
def printW (k l w t : Int) (n : List Int) : List ByteArray := nameB.getD k.toNat ByteArray.empty :: ([l, w, t] ++ n).map txt
def printS (k l w t : Int) (n : List Int) : ByteArray := ⟨(Lib.join ((printW k l w t n).map (·.data.toList)) [32]).toArray⟩
theorem name_cell {w : World} {g : Nat} (hg : g = w.heap.size) {k : Nat} (hk : k < 11) : (w.alloc (.cells (nameB.map Value.string).toArray 9)).cell? ⟨g, k, none⟩ = some (.string (nameB.getD k ByteArray.empty)) := by
  refine (cell_new hg k).trans ?_
  have : k < nameB.length := hk
  simp [List.getD, this]
theorem info_str : (Tryz.prog.info? 9).map (fun i => (i.zero, i.size, i.bytes)) = some (some (.string ⟨#[]⟩), 1, 16) := by kernel_rfl
theorem und_strs : Tryz.prog.underlying 131 = some (.slice 9) := by kernel_rfl
theorem int_one (xs : List Int) : ∀ u ∈ xs.map (Value.int .i64), u.oneCell' = true := fun u hu => by
  obtain ⟨x, _, rfl⟩ := List.mem_map.1 hu; rfl
theorem raw_ints {W : World} {b off m c : Nat} {xs : List Int} (h : IntsAt W b off xs) (hl : xs.length = m) : Raw W 1 (.slice (some ⟨b, off, none⟩) m c) (xs.map (Value.int .i64)) :=
  ⟨_, _, _, rfl, by simp [hl], (fun h => by cases h), fun ad ha j u hu => by
    cases ha
    have hj : j < xs.length := by simpa using (List.getElem?_eq_some_iff.1 hu).1
    have := h j hj
    have hu' : u = .int .i64 xs[j] := by rw [List.getElem?_map, List.getElem?_eq_getElem hj] at hu; simpa using hu.symm
    subst hu'
    by_cases h0 : j = 0
    · subst h0; simpa [Addr.add] using this
    · simpa [Addr.add, h0] using this⟩
theorem own_ints {w : World} {base : Nat} {e : TypeId} {v : Value} {n : Nat} {xs : List Int} (h : w.ownsRow base e 1 v n (xs.map (Value.int .i64))) (h0 : 0 < xs.length) :
    n = xs.length ∧ ∃ g cap cur, v = .slice (some ⟨g, 0, none⟩) n cap ∧ w.heap[g]? = some (.cells cur e (0, 0)) ∧ ∀ i (hi : i < xs.length), cur[i]? = some (.int .i64 xs[i]) := by
  have hl : n = xs.length := by have := h.1; simp at this; omega
  rcases h.2 with ⟨_, h1⟩ | ⟨g, cap, cur, rfl, _, hh, _, _, _, ht⟩
  · omega
  · refine ⟨hl, g, cap, cur, rfl, hh, fun i hi => ?_⟩
    have h2 : (cur.toList.take (n * 1))[i]? = (xs.map (Value.int .i64))[i]? := by rw [ht]
    rw [List.getElem?_take_of_lt (by omega), List.getElem?_map, List.getElem?_eq_getElem hi] at h2
    simpa using h2
theorem own_strs {w : World} {base : Nat} {e : TypeId} {v : Value} {n : Nat} {xs : List ByteArray} (h : w.ownsRow base e 1 v n (xs.map Value.string)) (h0 : 0 < xs.length) :
    ∃ g cap, v = .slice (some ⟨g, 0, none⟩) xs.length cap ∧ xs.length ≤ cap ∧ g < w.heap.size ∧ ∀ (j : Nat) x, xs[j]? = some x → w.cell? ⟨g, 0 + j, none⟩ = some (.string x) := by
  have hl : n = xs.length := by have := h.1; simp at this; omega
  rcases h.2 with ⟨_, h1⟩ | ⟨g, cap, cur, rfl, _, hh, hc, _, _, ht⟩
  · omega
  · subst hl
    refine ⟨g, cap, rfl, hc, blk_lt hh, fun i x hx => ?_⟩
    obtain ⟨hi, rfl⟩ := List.getElem?_eq_some_iff.1 hx
    have h2 : (cur.toList.take (xs.length * 1))[i]? = (xs.map Value.string)[i]? := by rw [ht]
    rw [List.getElem?_take_of_lt (by omega), List.getElem?_map, List.getElem?_eq_getElem hi] at h2
    rw [blk_cell hh, Nat.zero_add]
    simpa using h2
set_option maxHeartbeats 4000000 in
set_option maxRecDepth 100000 in
theorem Print_ok (k l w t : Int) (nv : Value) (n : List Int) (W : World) (hn : Ints W nv n) (h0 : 0 < n.length) (hm : n.length ≤ 1000) (hk : 0 ≤ k ∧ k ≤ 10)
    (hb : ∀ x ∈ [l, w, t] ++ n, -1000000000 ≤ x ∧ x ≤ 1000000000) (htab : Lib.TabIs Tryz.prog W "internal/strconv.uint64pow10" .u64 Lib.pow10Tab)
    (hc : ∀ W', Below W.heap.size W W' → Calls Tryz.prog 23 #[vJ k l w t nv] W' (Ret W' (.int .i64 0)))
    (hlen : (Lib.join ((printW k l w t n).map (·.data.toList)) [32]).length ≤ 1000000) :
    Calls Tryz.prog 50 #[vJ k l w t nv] W (Ret W (.tuple #[.string (printS k l w t n), .int .i64 0])) := by
  unfold vJ at *
  obtain ⟨a, m, c, rfl, hm', hcc, hx⟩ := hn
  have Hc := fun W' h => Lib.hid (hc W' h)
  have HT := Lib.hid htab
  have HL := Lib.hid hlen
  have HB := Lib.hid hb
  clear hc htab hlen hb
  obtain ⟨b, off, rfl, hi⟩ := hx (by omega)
  have HI := Lib.hid hi
  clear hx hi
  obtain ⟨kn, rfl⟩ : ∃ kn : Nat, k = kn := ⟨k.toNat, by omega⟩
  have kb : (kn : Int) < 11 := by omega
  have k0 : (0 : Int) ≤ (kn : Int) := by omega
  have kb' : kn < 11 := by omega
  go_enter Tryz.func50, Tryz.ntmps50
  go_wp2_with fail
  refine ((Hc _ (by (repeat (first | exact brf | assumption | refine ble ?_ | refine blx ?_ | refine bla ?_ | refine bls ?_ | refine bld ?_)))).out).mono ?_
  rintro e w1 ⟨rfl, hb1⟩
  have hw1 := below_trans (show Below W.heap.size W (W.alloc (.cells #[.int .i64 kn, .int .i64 l, .int .i64 w, .int .i64 t, .slice (some ⟨b, off, none⟩) m c] 25)) by (repeat (first | exact brf | assumption | refine ble ?_ | refine blx ?_ | refine bla ?_ | refine bls ?_ | refine bld ?_))) hb1
  have c0 := below_cell hb1 ((cell_new rfl 0).trans rfl : _ = some (.int .i64 kn))
  have c4 := below_cell hb1 ((cell_new rfl 4).trans rfl : _ = some (.slice (some ⟨b, off, none⟩) m c))
  have c1 := below_cell hb1 ((cell_new rfl 1).trans rfl : _ = some (.int .i64 l))
  have c2 := below_cell hb1 ((cell_new rfl 2).trans rfl : _ = some (.int .i64 w))
  have c3 := below_cell hb1 ((cell_new rfl 3).trans rfl : _ = some (.int .i64 t))
  have zw : W.heap.size < w1.heap.size := World.block_lt_of_cell? w1 _ c0
  clear hb1 Hc
  go_wp2
  obtain ⟨nm, Hnm⟩ : ∃ nm, Hid (nameB.getD kn ByteArray.empty = nm) := ⟨_, Lib.hid rfl⟩
  have hnm : nameB[kn]? = some nm := by
    have : kn < nameB.length := kb'
    rw [← Hnm.out, List.getElem?_eq_getElem this]; simp [List.getD, this]
  refine wp_region_swap [1] 0 2 [3, 4, 5, 6] (by kernel_rfl) (by kernel_rfl) ?_
  simp only [opsAt, List.filterMap_cons, List.filterMap_nil, List.getElem?_toArray, List.getElem?_cons_zero, List.getElem?_cons_succ]
  repeat (refine wpW_step (fun K' hK' => ?_); go_simp; refine hK' _ ?_; clear hK' K')
  refine wpW_nil ?_
  refine two_of (p := ?joined9) ?_ ?_ ?_
  rotate_left 1
  · intro hp
    go_wp2_with fail
    refine (names_any _).mono ?_
    rintro e w2 ⟨rfl, rfl⟩
    go_wp2
    exact hp.out
  · intro hp
    go_wp2_with fail
    refine (names_any _).mono ?_
    rintro e w2 ⟨rfl, rfl⟩
    go_wp2
    exact hp.out
  obtain ⟨w2, Hw2⟩ : ∃ w2, Hid (((w1.alloc (.cells (nameB.map Value.string).toArray 9)).alloc (.cells #[.string nm] 9)).drew = w2) := ⟨_, Lib.hid rfl⟩
  rw [Hw2.out]
  have hb12 : Below w1.heap.size w1 w2 := by rw [← Hw2.out]; (repeat (first | exact brf | assumption | refine ble ?_ | refine blx ?_ | refine bla ?_ | refine bls ?_ | refine bld ?_))
  have HO : Hid (w2.ownsRow W.heap.size 9 1 (.slice (some ⟨w1.heap.size + 1, 0, none⟩) 1 1) 1 [.string nm]) := Lib.hid (by
    refine ⟨rfl, .inr ⟨_, _, #[.string nm], rfl, ?_, ?_, Nat.le_refl _, by unfold maxLen; omega, rfl, rfl⟩⟩
    · omega
    · rw [← Hw2.out]; exact heap_new (by simp))
  have hw2 := below_trans hw1 hb12
  have c0 := below_cell hb12 c0
  have c1 := below_cell hb12 c1
  have c2 := below_cell hb12 c2
  have c3 := below_cell hb12 c3
  have c4 := below_cell hb12 c4
  have zw2 : W.heap.size < w2.heap.size := World.block_lt_of_cell? w2 _ c0
  generalize w1.heap.size + 1 = gw at *
  generalize w1.heap.size = gu at *
  clear hb12 hw1 Hw2 zw hnm
  refine NoPanic.normal ?_
  go_wp2
  refine wp_region_perm (C := fun w' => ∃ u : Ext _, w' = u.val) [0, 1, 2, 7] [3] 4 [5, 6] (by kernel_rfl) (by kernel_rfl) ⟨Ext.drew, rfl⟩ ?_
  simp only [opsAt, List.filterMap_cons, List.filterMap_nil, List.getElem?_toArray, List.getElem?_cons_zero, List.getElem?_cons_succ]
  repeat (refine wpW_step (fun K' hK' => ?_); go_simp; refine hK' _ ?_; clear hK' K')
  refine wpW_nil ?_
  repeat (first | go_big_quiet_step (fail) | quiet_step (fail))
  refine wpQuiet_nil ?_
  rintro _ ⟨u, rfl⟩
  iterate 1 (refine wpList_step (fun K hK => ?_); go_simp; refine hK _ _ ?_; clear hK K)
  have hbu := below_trans hw2 u.below
  have hcat := Lib.hid (concat_int (u.val.alloc (.cells #[.slice (some ⟨W.heap.size, 1, none⟩) 3 3, .slice (some ⟨b, off, none⟩) m c] 23)) u.val.heap.size 0 2 [[l, w, t].map (Value.int .i64), n.map (Value.int .i64)] (by
      intro i hi
      have hz : ∀ (a : Addr) x, w2.cell? a = some x → (u.val.alloc (.cells #[.slice (some ⟨W.heap.size, 1, none⟩) 3 3, .slice (some ⟨b, off, none⟩) m c] 23)).cell? a = some x := fun a x h => below_cell (below_trans u.below (by (repeat (first | exact brf | assumption | refine ble ?_ | refine blx ?_ | refine bla ?_ | refine bls ?_ | refine bld ?_)))) h
      match i, hi with
      | 0, _ =>
        refine ⟨_, (cell_new rfl 0).trans rfl, raw_ints ?_ rfl⟩
        intro j hj
        match j, hj with
        | 0, _ => exact hz _ _ c1
        | 1, _ => exact hz _ _ c2
        | 2, _ => exact hz _ _ c3
      | 1, _ => exact ⟨_, (cell_new rfl 1).trans rfl, raw_ints (HI.out.below (below_trans hbu (by (repeat (first | exact brf | assumption | refine ble ?_ | refine blx ?_ | refine bla ?_ | refine bls ?_ | refine bld ?_))))) hm'⟩) (by simp) (by simp) (by
      intro cs hcs
      simp only [List.mem_cons, List.not_mem_nil, or_false] at hcs
      rcases hcs with rfl | rfl
      · exact int_one [l, w, t]
      · exact int_one n) (by simp; omega))
  go_wp2_with fail
  refine hcat.out.mono ?_
  rintro e w3 ⟨r, mm, rfl, hb3, ho3⟩
  have hbu3 : Below u.val.heap.size u.val w3 := below_trans (by (repeat (first | exact brf | assumption | refine ble ?_ | refine blx ?_ | refine bla ?_ | refine bls ?_ | refine bld ?_))) hb3
  have hW3 : Below W.heap.size W w3 := below_trans hbu hbu3
  obtain ⟨ys, Hys⟩ : ∃ ys, Hid ([l, w, t] ++ n = ys) := ⟨_, Lib.hid rfl⟩
  have hyl : ys.length = 3 + m := by rw [← Hys.out]; simp; omega
  have ho4 : w3.ownsRow (u.val.alloc (.cells #[.slice (some ⟨W.heap.size, 1, none⟩) 3 3, .slice (some ⟨b, off, none⟩) m c] 23)).heap.size 3 1 r mm (ys.map (Value.int .i64)) := by
    rw [← Hys.out]; simpa using ho3
  obtain ⟨rfl, g, cap, cur, rfl, hh, hcur⟩ := own_ints ho4 (by omega)
  have HO3 := Lib.hid (own_below (own_below HO.out u.below) hbu3)
  have HH := Lib.hid hh
  have Hcur := Lib.hid hcur
  have hcs : ys.length ≤ cap := by
    rcases ho4.2 with ⟨h, _⟩ | ⟨_, _, _, h, _, _, h2, _⟩
    · cases h
    · cases h; exact h2
  clear ho3 ho4 hh hcur hb3 hbu3 hcat HO hbu c0 c1 c2 c3 c4
  obtain ⟨N, HN⟩ : ∃ N, Hid (ys.length = N) := ⟨_, Lib.hid rfl⟩
  rw [HN.out] at hcs hyl ⊢
  obtain ⟨i0, hi0, hz0, hz1, hz2⟩ := info_parts info_str
  have Hi0 := Lib.hid (And.intro hi0 (And.intro hz0 (And.intro hz1 hz2)))
  clear hi0 hz0 hz1 hz2
  go_wp2
  refine NoPanic.normal ?_
  go_wp2
  go_loopw [5, 26] (fun s i wr => ∃ j : Nat, j ≤ N ∧ i = .int .i64 j ∧ Below W.heap.size W wr ∧ Hid (wr.ownsRow W.heap.size 9 1 s (1 + j) (.string nm :: (ys.take j).map (fun x => .string (txt x)))) ∧ Hid (wr.heap[g]? = some (.cells cur 3 (0, 0)))) (fun _ i _ => N - (intOf i).toNat)
  case atStart => exact ⟨0, by omega, rfl, hW3, HO3, HH⟩
  case round =>
    clear hW3 HO3 HH
    obtain ⟨j, hj, rfl, hb, HO, HH⟩ := hrel
    by_cases hlt : j < N
    · have hj' : j < ys.length := by have := HN.out; omega
      have cj := (blk_cell HH.out j).trans (Hcur.out j hj')
      have zg := blk_lt HH.out
      have hbx := HB.out ys[j] (by rw [Hys.out]; exact List.getElem_mem hj')
      have Hs : Hid ((ys.take (j + 1)).map (fun x => Value.string (txt x)) = (ys.take j).map (fun x => Value.string (txt x)) ++ [.string (txt ys[j])]) := Lib.hid (by rw [List.take_succ_eq_append_getElem hj', List.map_append]; rfl)
      have hit := Lib.hid (itoa_any ys[j] hbx wr (tab_below HT.out hb))
      rw [show (⟨(Lib.itoa ys[j]).toArray⟩ : ByteArray) = txt ys[j] from rfl] at hit
      generalize ys[j] = x at *
      generalize txt x = tx at *
      clear hj' hbx
      go_wp2_with fail
      refine hit.out.mono ?_
      rintro e w4 ⟨rfl, hb4⟩
      have HO4 := Lib.hid (own_below HO.out hb4)
      have HH4 : Hid (w4.heap[g]? = some (.cells cur 3 (0, 0))) := Lib.hid ((hb4.block g zg).trans HH.out)
      have hbw := below_trans hb hb4
      clear hit cj hb4
      go_wp2_with (at_builtin; refine wpList_append_own _ rfl _ _ 131 rfl W.heap.size 9 i0 (.string ⟨#[]⟩) 1 16 und_strs Hi0.out.1 Hi0.out.2.1 Hi0.out.2.2.1 Hi0.out.2.2.2 rfl (by decide) u5 (1 + j) _ rfl (HO4.out.alloc _) ⟨w4.heap.size, 0, none⟩ 1 1 [.string tx] rfl rfl ?c1 ?c2 ?c3 ?c4 ?c5 ?_)
      case c1 =>
        intro jj uu hu
        rw [add0, cell_new rfl jj]
        simpa using hu
      case c2 => intro v hv; simp at hv; subst hv; rfl
      case c3 => unfold maxLen; omega
      case c4 => omega
      case c5 => simp; have := hbw.size; omega
      intro v' w5 hown5 hg5 _
      have hbw5 : Below W.heap.size W w5 := (hbw.alloc hbw.size _).grown hg5 (by simp; have := hbw.size; omega) (fun q hq => (HO4.out.lt q hq).1)
      have zg4 := blk_lt HH4.out
      have HH5 : Hid (w5.heap[g]? = some (.cells cur 3 (0, 0))) := Lib.hid ((hg5.block g (by simp; omega) (fun e => own_blk_ne HO4.out HH4.out (by decide) e.symm)).trans ((heap_old zg4).trans HH4.out))
      have HO5 := Lib.hid hown5
      clear hown5 hg5
      go_wp2
      go_roundw
      case rel => exact ⟨j + 1, by omega, by go_num, hbw5, Lib.hid (by rw [Hs.out]; simpa [Nat.add_assoc] using HO5.out), HH5⟩
      case measure => simp [intOf]; omega
    · obtain rfl : N = j := by omega
      have ho : wr.ownsRow W.heap.size 9 1 u5 (1 + N) ((printW kn l w t n).map Value.string) := by
        have := HO.out
        rw [List.take_of_length_le (by have := HN.out; omega)] at this
        have e : printW (kn : Int) l w t n = nm :: ys.map txt := by unfold printW; rw [Hys.out, ← Hnm.out]; rfl
        rw [e]
        simpa [Function.comp_def] using this
      obtain ⟨g', cap', rfl, hc', hg', hcl⟩ := own_strs ho (by simp [printW])
      have hpl : (printW kn l w t n).length ≤ 140737488355328 := by simp [printW]; omega
      have hjn := Lib.hid (Tryz.strings_Join g' 0 cap' (printW kn l w t n) ⟨#[32]⟩ wr hcl hg' hpl hc' (Nat.le_trans HL.out (by decide)))
      rw [show (⟨(Lib.join ((printW (kn : Int) l w t n).map (·.data.toList)) (⟨#[32]⟩ : ByteArray).data.toList).toArray⟩ : ByteArray) = printS kn l w t n from rfl] at hjn
      clear ho hcl hc' hpl HO
      go_wp2_with fail
      refine hjn.out.mono ?_
      rintro e w4 ⟨rfl, hb4⟩
      go_wp2
      refine bodyPost_ret (v := .tuple #[.string (printS kn l w t n), .int .i64 0]) (by simp [results, Tryz.results50, go_sem]) rfl ⟨rfl, ?_⟩
      exact below_trans hb hb4
end
/- joint: Area of a dovetail. -/
section
open Go.RowKit Go.Shelf
attribute [local go_sem] Ext.cell Ext.frozen
theorem mulNN {a b A B : Int} (ha : 0 ≤ a ∧ a ≤ A) (hb : 0 ≤ b ∧ b ≤ B) : 0 ≤ a * b ∧ a * b ≤ A * B :=
  ⟨Int.mul_nonneg ha.1 hb.1, Int.mul_le_mul ha.2 hb.2 hb.1 (Int.le_trans ha.1 ha.2)⟩
set_option maxHeartbeats 4000000 in
set_option maxRecDepth 100000 in
theorem Area_5 (l w t : Int) (nv : Value) (n : List Int) (W : World) (hn : Ints W nv n) (h0 : 3 ≤ n.length) (hm : n.length ≤ 1000)
    (hl : 1 ≤ l ∧ l ≤ 1000000) (ht : 1 ≤ t ∧ t ≤ 1000000) (hs : 1 ≤ n.getD 0 0 ∧ n.getD 0 0 ≤ 8)
    (hc : ∀ W', Below W.heap.size W W' → Calls Tryz.prog 23 #[vJ 5 l w t nv] W' (Ret W' (.int .i64 0))) :
    Calls Tryz.prog 35 #[vJ 5 l w t nv] W (Ret W (.tuple #[.agg #[.int .i64 (2 * ((n.length - 2 : Nat) : Int) * (l / n.getD 0 0) * t), .int .i64 (2 * ((n.length - 2 : Nat) : Int) * l * t), .int .i64 0], .int .i64 0])) := by
  unfold vJ at *
  obtain ⟨a, m, c, rfl, hm', hcc, hx⟩ := hn
  have Hc := fun W' h => Lib.hid (hc W' h)
  obtain ⟨b, off, rfl, hi⟩ := hx (by omega)
  have d0 := hi 0 (by omega)
  rw [getDI n _ (by omega)] at d0
  rw [Nat.add_zero] at d0
  generalize n.getD 0 0 = s at *
  rw [hm'] at h0 hm ⊢
  clear hc hx hi
  obtain ⟨q, rfl⟩ : ∃ q, m = q + 2 := ⟨m - 2, by omega⟩
  rw [show q + 2 - 2 = q by omega]
  have hk0 : 0 ≤ l / s ∧ l / s ≤ 1000000 := ⟨Int.ediv_nonneg (by omega) (by omega), Int.le_trans (Int.ediv_le_self _ (by omega)) (by omega)⟩
  obtain ⟨k, Hk⟩ : ∃ k, Hid (l / s = k) := ⟨_, Lib.hid rfl⟩
  rw [Hk.out] at hk0 ⊢
  have p1 := mulNN (A := 2000) (B := 1000000) (a := 2 * (q : Int)) (b := k) (by omega) (by omega)
  have p2 := mulNN (A := 2000000000) (B := 1000000) (a := 2 * (q : Int) * k) (b := t) (by omega) (by omega)
  have p3 := mulNN (A := 2000) (B := 1000000) (a := 2 * (q : Int)) (b := l) (by omega) (by omega)
  have p4 := mulNN (A := 2000000000) (B := 1000000) (a := 2 * (q : Int) * l) (b := t) (by omega) (by omega)
  have r0 : IntKind.i64.wrap (2 * (q : Int)) = 2 * (q : Int) := IntWalk.i64_in _ (by omega)
  have r1 : IntKind.i64.wrap (2 * (q : Int) * k) = 2 * (q : Int) * k := IntWalk.i64_in _ (by omega)
  have r2 : IntKind.i64.wrap (2 * (q : Int) * k * t) = 2 * (q : Int) * k * t := IntWalk.i64_in _ (by omega)
  have r3 : IntKind.i64.wrap (2 * (q : Int) * l) = 2 * (q : Int) * l := IntWalk.i64_in _ (by omega)
  have r4 : IntKind.i64.wrap (2 * (q : Int) * l * t) = 2 * (q : Int) * l * t := IntWalk.i64_in _ (by omega)
  clear p1 p2 p3 p4
  have zb := World.block_lt_of_cell? W _ d0
  simp only at zb
  go_enter Tryz.func35, Tryz.ntmps35
  go_wp2_with fail
  refine ((Hc _ (by (repeat (first | exact brf | assumption | refine ble ?_ | refine blx ?_ | refine bla ?_ | refine bls ?_ | refine bld ?_)))).out).mono ?_
  rintro e w1 ⟨rfl, hb1⟩
  have hw1 := below_trans (show Below W.heap.size W ((W.alloc (.cells #[.int .i64 5, .int .i64 l, .int .i64 w, .int .i64 t, .slice (some ⟨b, off, none⟩) (q + 2) c] 25)).alloc (.cells #[.int .i64 0, .int .i64 0, .int .i64 0] 22)) by (repeat (first | exact brf | assumption | refine ble ?_ | refine blx ?_ | refine bla ?_ | refine bls ?_ | refine bld ?_))) hb1
  have HJ := (hb1.block W.heap.size (by simp; omega)).trans ((heap_old (by simp)).trans (heap_new rfl))
  have HR := (hb1.block (W.heap.size + 1) (by simp)).trans (heap_new (by simp))
  have c0 := (blk_cell HJ 0).trans rfl
  have c1 := (blk_cell HJ 1).trans rfl
  have c2 := (blk_cell HJ 2).trans rfl
  have c3 := (blk_cell HJ 3).trans rfl
  have c4 := (blk_cell HJ 4).trans rfl
  have zj := blk_lt HJ
  have zr := blk_lt HR
  have d1 := below_cell hw1 d0
  have zb1 := World.block_lt_of_cell? w1 _ d1
  simp only at zb1
  have hkk := Hk.out
  clear hb1 Hc d0
  go_wp2
  refine wp_region_quietB (by kernel_rfl) (by kernel_rfl) ?_
  repeat (first | go_big_quiet_step (fail) | quiet_step (fail))
  refine wpQuiet_nil ?_
  rintro _ ⟨u, rfl⟩
  have HJu := Lib.hid ((u.below.block _ zj).trans HJ)
  have HRu := (u.below.block _ zr).trans HR
  have d2 := below_cell u.below d1
  clear HJ HR c0 c1 c2 c3 c4 d1
  have hwu := below_trans hw1 u.below
  have zju := blk_lt HJu.out
  have zbu := World.block_lt_of_cell? u.val _ d2
  simp only at zbu
  generalize u.val = w9 at *
  have c0 := (blk_cell HJu.out 0).trans rfl
  have c4 := (blk_cell HJu.out 4).trans rfl
  have e0 := (blk_cell HRu 0).trans rfl
  have e1 := (blk_cell HRu 1).trans rfl
  have e2 := (blk_cell HRu 2).trans rfl
  have f0 := blk_free HRu 0
  have f1 := blk_free HRu 1
  have f2 := blk_free HRu 2
  have zu := blk_lt HRu
  simp only [List.getElem?_toArray, List.getElem?_cons_zero, List.getElem?_cons_succ] at c0 c4 e0 e1 e2
  go_wp2
  refine bodyPost_ret (v := .tuple #[.agg #[.int .i64 (2 * (q : Int) * k * t), .int .i64 (2 * (q : Int) * l * t), .int .i64 0], .int .i64 0]) (by simp [results, Tryz.results35, go_sem, e0, e1, e2]) rfl ⟨rfl, ?_⟩
  refine Below.setCell (Below.setCell (Below.setCell hwu ?_ _) ?_ _) ?_ _ <;> simp
end
/- joint: loose, checkMember. -/
section
open Go.RowKit Go.Shelf
attribute [local go_sem] Ext.cell Ext.frozen
def looseN (k : Int) (n : List Int) : Nat := if k = 8 then (n.length - 6) / 2 else if k = 9 then 1 else 0
set_option maxRecDepth 100000 in
set_option maxHeartbeats 1000000 in
theorem loose_any (k l w t : Int) (nv : Value) (n : List Int) (W : World) (hn : Ints W nv n) (hm : n.length ≤ 1000000) (h8 : k = 8 → 8 ≤ n.length ∧ n.length % 2 = 0) :
    Calls Tryz.prog 71 #[vJ k l w t nv] W (Ret W (.int .i64 (looseN k n))) := by
  unfold vJ
  by_cases hk : k = 8
  · subst hk
    obtain ⟨h6, h2⟩ := h8 rfl
    have hh := fun W' h => Lib.hid (holes_any nv n W' ((n.length - 6) / 2) (hn.below (w' := W') h) (by omega) (by omega))
    rw [show looseN 8 n = (n.length - 6) / 2 from rfl]
    generalize (n.length - 6) / 2 = q at *
    go_enter Tryz.func71, Tryz.ntmps71
    go_wp2_with fail
    refine ((hh _ (by (repeat (first | exact brf | assumption | refine ble ?_ | refine blx ?_ | refine bla ?_ | refine bls ?_ | refine bld ?_)))).out).mono ?_
    rintro e w1 ⟨r, rfl, hb1, ho⟩
    obtain ⟨c, a, rfl⟩ : ∃ c a, r = .slice a q c := by
      rcases ho.2 with ⟨rfl, rfl⟩ | ⟨g, cap, cur, rfl, _⟩
      · exact ⟨0, none, rfl⟩
      · exact ⟨_, _, rfl⟩
    clear ho
    go_wp2
    go_ret
    exact ⟨rfl, below_trans (by (repeat (first | exact brf | assumption | refine ble ?_ | refine blx ?_ | refine bla ?_ | refine bls ?_ | refine bld ?_))) hb1⟩
  · have hk' : (k == 8) = false := by simpa using hk
    clear h8 hn
    by_cases h9 : k = 9
    · subst h9
      go_enter Tryz.func71, Tryz.ntmps71
      go_wp2
      go_ret
      exact ⟨rfl, by (repeat (first | exact brf | assumption | refine ble ?_ | refine blx ?_ | refine bla ?_ | refine bls ?_ | refine bld ?_))⟩
    · have h9' : (k == 9) = false := by simpa using h9
      go_enter Tryz.func71, Tryz.ntmps71
      go_wp2
      go_ret
      exact ⟨ret_int (by simp [looseN, hk, h9]), by (repeat (first | exact brf | assumption | refine ble ?_ | refine blx ?_ | refine bla ?_ | refine bls ?_ | refine bld ?_))⟩
end
end Go.Proofs.YtjglkglaogaenaaGreatDoor
