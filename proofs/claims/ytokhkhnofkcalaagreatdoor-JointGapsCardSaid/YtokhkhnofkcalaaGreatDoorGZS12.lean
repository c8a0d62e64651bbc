/- texts: Cmp Cmp2 Cmp3 B3 B2 B4. -/
import Derived.Test.YtokhkhnofkcalaaGreatDoorGZS11
import Derived.Lib.SlicesCompact
import Derived.Lib.SliceRun
import Derived.Test.YtokhkhnofkcalaaGreatDoorGZS10
namespace Go.Proofs.YtokhkhnofkcalaaGreatDoor
set_option maxHeartbeats 8000000
set_option linter.unusedSimpArgs false
set_option linter.unusedVariables false
section
open Go.RowKit Go.Shelf Go.Sort Go.Lib
def RowQ (w : World) (g : Nat) (T : TypeId) (d : Array Q4) (sp : List Value) : Prop := w.heap[g]? = some (.cells (d.toList.flatMap enc4 ++ sp).toArray T (0, 0))
theorem enc4_len (x : Q4) : (enc4 x).length = 4 := rfl
theorem RowQ.get {w : World} {g : Nat} {T : TypeId} {d : Array Q4} {sp : List Value} (h : RowQ w g T d sp) (i : Nat) (hi : i < d.size) :
  w.cell? ⟨g, i * 4, none⟩ = some (.int .i64 d[i]!.1) ∧ w.cell? ⟨g, i * 4 + 1, none⟩ = some (.int .i64 d[i]!.2.1) ∧ w.cell? ⟨g, i * 4 + 2, none⟩ = some (.int .i64 d[i]!.2.2.1) ∧ w.cell? ⟨g, i * 4 + 3, none⟩ = some (.int .i64 d[i]!.2.2.2) := by
 have hl : (d.toList.flatMap enc4).length = d.size * 4 := by rw [flat_len enc4 4 enc4_len]; simp
 have key : ∀ j, j < 4 → w.cell? ⟨g, i * 4 + j, none⟩ = (enc4 d[i]!)[j]? := fun j hj => by
  rw [blk_cell h, List.getElem?_toArray, List.getElem?_append_left (by rw [hl]; omega), flat_get enc4 4 enc4_len d.toList i (by simpa using hi) j hj, getElem!_pos d i hi]
  simp
 exact ⟨key 0 (by omega), key 1 (by omega), key 2 (by omega), key 3 (by omega)⟩
theorem RowQ.free {w : World} {g : Nat} {T : TypeId} {d : Array Q4} {sp : List Value} (h : RowQ w g T d sp) (i : Nat) : w.frozen? ⟨g, i, none⟩ = false := blk_free h i
theorem flat_set (l : List Q4) (i : Nat) (hi : i < l.length) (x : Q4) (sp : List Value) :
  ((((l.flatMap enc4 ++ sp).set (i * 4) (.int .i64 x.1)).set (i * 4 + 1) (.int .i64 x.2.1)).set (i * 4 + 2) (.int .i64 x.2.2.1)).set (i * 4 + 3) (.int .i64 x.2.2.2) = (l.set i x).flatMap enc4 ++ sp := by
 induction l generalizing i with
 | nil => simp at hi
 | cons y l ih =>
  cases i with
  | zero => simp [enc4]
  | succ i =>
   have := ih i (by simpa using hi)
   simp only [List.flatMap_cons, List.set_cons_succ, List.append_assoc, enc4] at this ⊢
   rw [show (i + 1) * 4 = i * 4 + 4 by omega]
   simp only [List.cons_append, List.nil_append, List.set_cons_succ]
   rw [this]
theorem RowQ.set {w : World} {g : Nat} {T : TypeId} {d : Array Q4} {sp : List Value} (h : RowQ w g T d sp) (i : Nat) (hi : i < d.size) (x : Q4) :
  RowQ ((((w.setCell ⟨g, i * 4, none⟩ (.int .i64 x.1)).setCell ⟨g, i * 4 + 1, none⟩ (.int .i64 x.2.1)).setCell ⟨g, i * 4 + 2, none⟩ (.int .i64 x.2.2.1)).setCell ⟨g, i * 4 + 3, none⟩ (.int .i64 x.2.2.2)) g T (d.setIfInBounds i x) sp := by
 have := blk_set (blk_set (blk_set (blk_set h (i * 4) (.int .i64 x.1)) (i * 4 + 1) (.int .i64 x.2.1)) (i * 4 + 2) (.int .i64 x.2.2.1)) (i * 4 + 3) (.int .i64 x.2.2.2)
 unfold RowQ
 rw [this]
 simp only [List.setIfInBounds_toArray, Array.toList_setIfInBounds]
 rw [flat_set _ _ (by simpa using hi)]
theorem RowQ.keep {w w' : World} {g : Nat} {T : TypeId} {d : Array Q4} {sp : List Value} (h : RowQ w g T d sp) (hb : Below w.heap.size w w') : RowQ w' g T d sp := (hb.block g (blk_lt h)).trans h
theorem grown_below {w w1 w2 : World} {row : Option Nat} (h : w.grownBy w1 row) (hb : Below w1.heap.size w1 w2) : w.grownBy w2 row :=
 ⟨hb.os.trans h.os, hb.tape.trans h.tape, hb.output.trans h.output, Nat.le_trans h.size hb.size, fun k hk hne => (hb.block k (Nat.lt_of_lt_of_le hk h.size)).trans (h.block k hk hne)⟩
theorem grown_set {w w1 : World} {g : Nat} (h : w.grownBy w1 (some g)) (i : Nat) (v : Value) : w.grownBy (w1.setCell ⟨g, i, none⟩ v) (some g) :=
 ⟨h.os, h.tape, h.output, by simpa [World.setCell] using h.size, fun k hk hne => (Below.heap_setCell _ _ _ _ (fun e => hne (by rw [e]))).trans (h.block k hk hne)⟩
theorem own_rowq {w : World} {base g n cap : Nat} {T : TypeId} (d : Array Q4) (h : w.ownsRow base T 4 (.slice (some ⟨g, 0, none⟩) n cap) n (d.toList.flatMap enc4)) : ∃ sp, RowQ w g T d sp ∧ base ≤ g ∧ cap ≤ maxLen ∧ n ≤ cap ∧ n * 4 + sp.length = cap * 4 := by
 rcases h.2 with ⟨h0, _⟩ | ⟨g', cap', cur, hv, hb, hh, hc, hm, hcs, ht⟩
 ·cases h0
 ·injection hv with h1 h2 h3
  injection h1 with h1
  injection h1 with h1
  subst h1 h3
  refine ⟨cur.toList.drop (n * 4), ?_, hb, hm, hc, ?_⟩
  ·unfold RowQ
   rw [← ht, List.take_append_drop]
   simpa using hh
  ·have := Nat.mul_le_mul_right 4 hc
   simp; omega
theorem rowq_own {w : World} {base g n m cap : Nat} {T : TypeId} {d : Array Q4} {sp : List Value} (h : RowQ w g T d sp) (hb : base ≤ g) (hm : cap ≤ maxLen) (hd : d.size = n) (hs : n * 4 + sp.length = cap * 4) (hle : m ≤ n) :
  w.ownsRow base T 4 (.slice (some ⟨g, 0, none⟩) m cap) m ((d.toList.take m).flatMap enc4) := by
 have hl : (d.toList.flatMap enc4).length = n * 4 := by rw [flat_len enc4 4 enc4_len]; simp [hd]
 have ht : ∀ (l : List Q4) (m : Nat), (l.flatMap enc4).take (m * 4) = (l.take m).flatMap enc4 := by
  intro l
  induction l with
  | nil => simp
  | cons x l ih =>
   intro m
   cases m with
   | zero => simp
   | succ m =>
    simp only [List.flatMap_cons, List.take_succ_cons]
    rw [List.take_append, List.take_of_length_le (by rw [enc4_len]; omega), enc4_len, show (m + 1) * 4 - 4 = m * 4 by omega, ih]
 refine ⟨by rw [flat_len enc4 4 enc4_len]; simp; omega, .inr ⟨g, cap, _, rfl, hb, h, by omega, hm, by simp only [List.size_toArray, List.length_append]; omega, ?_⟩⟩
 simp only
 rw [List.take_append_of_le_length (by rw [hl]; omega), ht]
theorem und_Corner : ∀ w, (zeroValue 143).run Tryz.prog w = .ok (v4 (0, 0, 0, 0)) w := fun _ => by kernel_rfl
theorem und_Plane : ∀ w, (zeroValue 69).run Tryz.prog w = .ok (v4 (0, 0, 0, 0)) w := fun _ => by kernel_rfl
theorem run_clear4 {P : Program} (w : World) (t e ty : TypeId) (ht : P.underlying t = some (.slice e)) (hv : ∀ w, (zeroValue e).run P w = .ok (v4 (0, 0, 0, 0)) w) (b o n c : Nat) (hn : 0 < n)
  (hc : ∀ j, j < n * 4 → (w.cell? ⟨b, o + j, none⟩).isSome = true) (hf : ∀ j, j < n * 4 → w.frozen? ⟨b, o + j, none⟩ = false) :
  (Builtin.clear_ #[t] ty #[.slice (some ⟨b, o, none⟩) n c]).run P w = .ok (.tuple #[]) (w.setCells b o (List.replicate (n * 4) (.int .i64 0))) := by
 have hzc : (Builtin.zeroCells (v4 (0, 0, 0, 0)).cells n).toList = List.replicate (n * 4) (.int .i64 0) := by
  apply List.ext_getElem
  ·simp [Builtin.zeroCells, Value.cells]
  ·intro i h1 h2
   simp [Builtin.zeroCells, Value.cells]
   have : i % 4 = 0 ∨ i % 4 = 1 ∨ i % 4 = 2 ∨ i % 4 = 3 := by omega
   rcases this with h | h | h | h <;> simp [h]
 have hst := run_storeCells_cells (P := P) b o (List.replicate (n * 4) (.int .i64 0)) 0 w (by simpa using hc) (by simpa using hf) (by intro v hv'; rw [List.eq_of_mem_replicate hv']; rfl)
 simp only [Nat.add_zero] at hst
 obtain ⟨m, rfl⟩ : ∃ m, n = m + 1 := ⟨n - 1, by omega⟩
 simp [Builtin.clear_, run_underlying ht, hv, hzc, hst]
theorem setCells_blk (g : Nat) (T : TypeId) : ∀ (vs : List Value) (o : Nat) (w : World) (cur : Array Value), w.heap[g]? = some (.cells cur T (0, 0)) →
  ∃ cur', (w.setCells g o vs).heap[g]? = some (.cells cur' T (0, 0)) ∧ cur'.size = cur.size ∧ ∀ i, i < o → cur'[i]? = cur[i]?
 | [], _, _, cur, h => ⟨cur, h, rfl, fun _ _ => rfl⟩
 | v :: r, o, w, cur, h => by
  obtain ⟨cur', h1, h2, h3⟩ := setCells_blk g T r (o + 1) (w.setCell ⟨g, o, none⟩ v) _ (blk_set h o v)
  refine ⟨cur', h1, by rw [h2]; simp, fun i hi => ?_⟩
  rw [h3 i (by omega), Array.getElem?_setIfInBounds_ne (by omega)]
theorem grown_setCells {w : World} {g : Nat} : ∀ (vs : List Value) (o : Nat) (w1 : World), w.grownBy w1 (some g) → w.grownBy (w1.setCells g o vs) (some g)
 | [], _, _, h => h
 | v :: r, o, _, h => grown_setCells r (o + 1) _ (grown_set h o v)
theorem eqF (d : Nat) (a x : Int) (w : World) : (Op.equalIn (d + 1) 3 (.int .i64 a) (.int .i64 x)).run Tryz.prog w = .ok (a == x) w := run_equalIn_int w d _ .i64 _ a x und_int
theorem part4_0 (x y z q : Value) (w : World) : (part 3 #[x, y, z, q] 0).run Tryz.prog w = .ok x w := by kernel_rfl
theorem part4_1 (x y z q : Value) (w : World) : (part 3 #[x, y, z, q] 1).run Tryz.prog w = .ok y w := by kernel_rfl
theorem part4_2 (x y z q : Value) (w : World) : (part 3 #[x, y, z, q] 2).run Tryz.prog w = .ok z w := by kernel_rfl
theorem part4_3 (x y z q : Value) (w : World) : (part 3 #[x, y, z, q] 3).run Tryz.prog w = .ok q w := by kernel_rfl
theorem und_co : Tryz.prog.underlying 143 = some (.struct (Tryz.prog.fieldsOf 143)) := by kernel_rfl
theorem und_pl : Tryz.prog.underlying 69 = some (.struct (Tryz.prog.fieldsOf 69)) := by kernel_rfl
theorem fields_co : (Tryz.prog.fieldsOf 143).toList.map (fun f => (f.type, f.offset, decide (f.name ≠ "_"))) = [(3, 0, true), (3, 1, true), (3, 2, true), (3, 3, true)] := by kernel_rfl
theorem fields_pl : (Tryz.prog.fieldsOf 69).toList.map (fun f => (f.type, f.offset, decide (f.name ≠ "_"))) = [(3, 0, true), (3, 1, true), (3, 2, true), (3, 3, true)] := by kernel_rfl
theorem eqFields4 (d : Nat) (fs : List Field) (hf : fs.map (fun f => (f.type, f.offset, decide (f.name ≠ "_"))) = [(3, 0, true), (3, 1, true), (3, 2, true), (3, 3, true)]) (a b c e x y z q : Int) (w : World) :
  (Op.eqFields (d + 1) #[.int .i64 a, .int .i64 b, .int .i64 c, .int .i64 e] #[.int .i64 x, .int .i64 y, .int .i64 z, .int .i64 q] fs).run Tryz.prog w = .ok (a == x && b == y && c == z && e == q) w := by
 have hlen : fs.length = 4 := by simpa using congrArg List.length hf
 match fs, hlen, hf with
 | [f0, f1, f2, f3], _, hf =>
  simp only [List.map_cons, List.map_nil, List.cons.injEq, Prod.mk.injEq, and_true, decide_eq_true_eq] at hf
  obtain ⟨⟨a0, o0, n0⟩, ⟨a1, o1, n1⟩, ⟨a2, o2, n2⟩, ⟨a3, o3, n3⟩⟩ := hf
  simp [Op.eqFields, a0, o0, n0, a1, o1, n1, a2, o2, n2, a3, o3, n3, part4_0, part4_1, part4_2, part4_3, eqF]
  by_cases h1 : a = x <;> by_cases h2 : b = y <;> by_cases h3 : c = z <;> by_cases h4 : e = q <;> simp [h1, h2, h3, h4]
theorem equalIn_co (a b c e x y z q : Int) (w : World) : (Op.equalIn 10000 143 (v4 (a, b, c, e)) (v4 (x, y, z, q))).run Tryz.prog w = .ok (a == x && b == y && c == z && e == q) w := by
 rw [run_equalIn_struct w 9999 _ _ _ und_co (by kernel_rfl), eqFields4 9998 _ fields_co]
theorem equalIn_pl (a b c e x y z q : Int) (w : World) : (Op.equalIn 10000 69 (v4 (a, b, c, e)) (v4 (x, y, z, q))).run Tryz.prog w = .ok (a == x && b == y && c == z && e == q) w := by
 rw [run_equalIn_struct w 9999 _ _ _ und_pl (by kernel_rfl), eqFields4 9998 _ fields_pl]
theorem beqQ (x y : Q4) : (x.1 == y.1 && x.2.1 == y.2.1 && x.2.2.1 == y.2.2.1 && x.2.2.2 == y.2.2.2) = decide (x = y) := by
 obtain ⟨a, b, c, d⟩ := x
 obtain ⟨a', b', c', d'⟩ := y
 rw [Bool.eq_iff_iff]
 simp [Prod.ext_iff, and_assoc]
theorem eq_co (x y : Q4) (w : World) : (Op.equalIn 10000 143 (.agg #[.int .i64 x.1, .int .i64 x.2.1, .int .i64 x.2.2.1, .int .i64 x.2.2.2]) (.agg #[.int .i64 y.1, .int .i64 y.2.1, .int .i64 y.2.2.1, .int .i64 y.2.2.2])).run Tryz.prog w = .ok (decide (x = y)) w := by
 rw [← beqQ]; exact equalIn_co _ _ _ _ _ _ _ _ w
theorem eq_pl (x y : Q4) (w : World) : (Op.equalIn 10000 69 (.agg #[.int .i64 x.1, .int .i64 x.2.1, .int .i64 x.2.2.1, .int .i64 x.2.2.2]) (.agg #[.int .i64 y.1, .int .i64 y.2.1, .int .i64 y.2.2.1, .int .i64 y.2.2.2])).run Tryz.prog w = .ok (decide (x = y)) w := by
 rw [← beqQ]; exact equalIn_pl _ _ _ _ _ _ _ _ w
end
section
open Go.RowKit Go.Shelf Go.Sort Go.Lib
attribute [local go_sem] Ext.cell Ext.frozen
theorem compact_len_le (d : Array Q4) (m : Nat) : (compactUpTo d m).length ≤ m := by
 unfold compactUpTo
 rw [List.length_map]
 exact Nat.le_trans (List.length_filter_le _ _) (by simp)
theorem und_corners' : Tryz.prog.underlying 139 = some (.slice 143) := by kernel_rfl
theorem und_planes' : Tryz.prog.underlying 65 = some (.slice 69) := by kernel_rfl
set_option maxRecDepth 100000 in
theorem compact_corner (d : Array Q4) (g n cap base : Nat) (w : World) (hd : d.size = n) (hn : n ≤ 10000000) (h2 : 2 ≤ n) (hown : w.ownsRow base 143 4 (.slice (some ⟨g, 0, none⟩) n cap) n (d.toList.flatMap enc4)) :
  Calls Tryz.prog 182 #[.slice (some ⟨g, 0, none⟩) n cap] w fun e w' => e = .returned (.slice (some ⟨g, 0, none⟩) (compactUpTo d n).length cap) ∧ w.grownBy w' (some g) ∧
   w'.ownsRow base 143 4 (.slice (some ⟨g, 0, none⟩) (compactUpTo d n).length cap) (compactUpTo d n).length ((compactUpTo d n).flatMap enc4) := by
 obtain ⟨sp, hrow, hbase, hcap, hnc, hsp⟩ := own_rowq d hown
 have HR := Lib.hid hrow
 clear hown hrow
 go_enter Tryz.func182, Tryz.ntmps182
 go_wp2
 go_loopw [3] (fun i wr => ∃ k : Nat, 1 ≤ k ∧ k ≤ n ∧ i = .int .i64 k ∧ w.grownBy wr (some g) ∧ Hid (RowQ wr g 143 d sp) ∧ Hid (∀ j, j < k → keeps d j = true)) (fun i _ => n - (intOf i).toNat)
 case atStart => exact ⟨1, by omega, by omega, rfl, ⟨rfl, rfl, rfl, Nat.le_refl _, fun _ _ _ => rfl⟩, HR, Lib.hid (keeps_lt_one d)⟩
 case round =>
  clear HR
  obtain ⟨k, hk1, hk, rfl, hgr, HR, Ha⟩ := hrel
  by_cases hlt : k < n
  ·obtain ⟨c0, c1, c2, c3⟩ := HR.out.get k (by omega)
   obtain ⟨e0, e1, e2, e3⟩ := HR.out.get (k - 1) (by omega)
   have zg := blk_lt HR.out
   obtain ⟨x, Hx⟩ : ∃ x, Hid (d[k]! = x) := ⟨_, Lib.hid rfl⟩
   obtain ⟨y, Hy⟩ : ∃ y, Hid (d[k - 1]! = y) := ⟨_, Lib.hid rfl⟩
   rw [Hx.out] at c0 c1 c2 c3
   rw [Hy.out] at e0 e1 e2 e3
   have hq := eq_co x y
   by_cases hxy : x = y
   ·have Hxy := Lib.hid hxy
    rw [decide_eq_true hxy] at hq
    clear hxy
    go_wp2
    refine wqb ?_
    repeat (first | go_big_quiet_step (fail) | quiet_step (fail))
    refine wqn fun u => ?_
    have HR1 : Hid (RowQ u.val g 143 d sp) := Lib.hid (HR.out.keep u.below)
    have hgr1 := grown_below hgr u.below
    clear c0 c1 c2 c3 e0 e1 e2 e3 hq HR hgr
    go_wp2
    go_loopw [3, 5] (fun s3 s5 wr => ∃ (kk k2 : Nat) (dk : Array Q4), s3 = .int .i64 kk ∧ s5 = .int .i64 k2 ∧ 1 ≤ k2 ∧ k + k2 ≤ n ∧ w.grownBy wr (some g) ∧ Hid (RowQ wr g 143 dk sp) ∧ Hid (CompInv d (k + k2) kk dk)) (fun _ i _ => n - (intOf i).toNat)
    case atStart => exact ⟨k, 1, d, rfl, rfl, Nat.le_refl _, by omega, hgr1, HR1, Lib.hid (CompInv.start Ha.out (keeps_neg (by omega) (by rw [Hx.out, Hy.out]; exact Hxy.out)))⟩
    case round =>
     clear HR1 hgr1
     obtain ⟨kk, k2, dk, rfl, rfl, h1, hle, hgr, HR, HI⟩ := hrel
     have hkk := HI.out.lt
     have hds := HI.out.size
     have zg := blk_lt HR.out
     have fz := HR.out.free
     by_cases hlt2 : k + k2 < n
     ·obtain ⟨c0, c1, c2, c3⟩ := HR.out.get (k + k2) (by omega)
      obtain ⟨e0, e1, e2, e3⟩ := HR.out.get (k + k2 - 1) (by omega)
      obtain ⟨d0, d1, d2, d3⟩ := HR.out.get kk (by omega)
      rw [HI.out.high (k + k2) (by omega), show (k + k2) * 4 = k * 4 + k2 * 4 by omega] at c0 c1 c2 c3
      rw [HI.out.high (k + k2 - 1) (by omega), show (k + k2 - 1) * 4 = k * 4 + (k2 - 1) * 4 by omega] at e0 e1 e2 e3
      obtain ⟨x2, Hx2⟩ : ∃ x, Hid (d[k + k2]! = x) := ⟨_, Lib.hid rfl⟩
      obtain ⟨y2, Hy2⟩ : ∃ y, Hid (d[k + k2 - 1]! = y) := ⟨_, Lib.hid rfl⟩
      rw [Hx2.out] at c0 c1 c2 c3
      rw [Hy2.out] at e0 e1 e2 e3
      have hq := eq_co x2 y2
      have Hds := Lib.hid hds
      clear hds
      by_cases hxy2 : x2 = y2
      ·have Hxy2 := Lib.hid hxy2
       rw [decide_eq_true hxy2] at hq
       clear hxy2
       go_wp2
       refine wqb ?_
       repeat (first | go_big_quiet_step (fail) | quiet_step (fail))
       refine wqn fun u => ?_
       have HR1 : Hid (RowQ u.val g 143 dk sp) := Lib.hid (HR.out.keep u.below)
       have hgr1 := grown_below hgr u.below
       clear c0 c1 c2 c3 e0 e1 e2 e3 d0 d1 d2 d3 hq HR hgr
       go_wp2
       go_roundw
       case rel => exact ⟨kk, k2 + 1, dk, rfl, by go_num, by omega, by omega, hgr1, HR1, Lib.hid (HI.out.skip (keeps_neg (by omega) (by rw [Hx2.out, Hy2.out]; exact Hxy2.out)))⟩
       case measure => simp [intOf]; omega
      ·have Hxy2 := Lib.hid hxy2
       rw [decide_eq_false hxy2] at hq
       clear hxy2
       go_wp2
       refine wqb ?_
       repeat (first | go_big_quiet_step (fail) | quiet_step (fail))
       refine wqn fun u => ?_
       have HR1 : Hid (RowQ u.val g 143 dk sp) := Lib.hid (HR.out.keep u.below)
       have hgr1 := grown_below hgr u.below
       have zu : g < u.val.heap.size := blk_lt HR1.out
       go_wp2
       go_roundw
       case rel =>
        refine ⟨kk + 1, k2 + 1, dk.setIfInBounds kk x2, by go_num, by go_num, by omega, by omega, grown_set (grown_set (grown_set (grown_set hgr1 _ _) _ _) _ _) _ _, Lib.hid (HR1.out.set kk (by have := Hds.out; omega) x2), Lib.hid ?_⟩
        have := HI.out.keep (by omega) (keeps_pos (by rw [Hx2.out, Hy2.out]; exact Hxy2.out))
        rw [Hx2.out] at this
        exact this
       case measure => simp [intOf]; omega
     ·have hend : k + k2 = n := by omega
      have hcl : ∀ ty, (Builtin.clear_ #[139] ty #[.slice (some ⟨g, kk * 4, none⟩) (n - kk) (cap - kk)]).run Tryz.prog wr = .ok (.tuple #[]) (wr.setCells g (kk * 4) (List.replicate ((n - kk) * 4) (.int .i64 0))) := fun ty =>
       run_clear4 wr _ _ ty und_corners' und_Corner g (kk * 4) _ _ (by omega) (fun j hj => by
        rw [blk_cell HR.out]
        have hl : (dk.toList.flatMap enc4).length = n * 4 := by rw [flat_len enc4 4 enc4_len]; simp; omega
        have hlt : kk * 4 + j < (dk.toList.flatMap enc4 ++ sp).toArray.size := by simp only [List.size_toArray, List.length_append, hl]; omega
        rw [Array.getElem?_eq_getElem hlt]; rfl) (fun j _ => fz _)
      have Hend := Lib.hid hend
      have Hds := Lib.hid hds
      clear hds hend fz
      go_wp2
      go_ret
      have hlen : (compactUpTo d n).length = kk := by have := HI.out.len; rwa [Hend.out] at this
      rw [hlen]
      refine ⟨rfl, grown_setCells _ _ _ hgr, ?_⟩
      have hlow : compactUpTo d n = dk.toList.take kk := by
       apply List.ext_getElem?
       intro i
       by_cases hi : i < kk
       ·have := HI.out.low i hi
        rw [Hend.out] at this
        rw [this, List.getElem?_take_of_lt hi, Array.getElem?_toList, Array.getElem?_eq_getElem (by have := Hds.out; omega), getElem!_pos _ i (by have := Hds.out; omega)]
       ·rw [List.getElem?_eq_none (by omega), List.getElem?_eq_none (by simp; omega)]
      obtain ⟨cur', hb', hs', hsame⟩ := setCells_blk g 143 (List.replicate ((n - kk) * 4) (.int .i64 0)) (kk * 4) wr _ HR.out
      have hown0 := rowq_own (m := kk) (n := n) HR.out hbase hcap (by have := Hds.out; omega) hsp (by omega)
      rw [hlow]
      refine ⟨hown0.1, .inr ⟨g, cap, cur', rfl, hbase, hb', by omega, hcap, ?_, ?_⟩⟩
      ·rw [hs']; simp only [List.size_toArray, List.length_append]; rw [flat_len enc4 4 enc4_len]; simp; have := Hds.out; omega
      ·rcases hown0.2 with ⟨h0, _⟩ | ⟨g', cap', cur, hv, _, hh, _, _, _, ht⟩
       ·cases h0
       ·injection hv with h1 h2 h3
        injection h1 with h1
        injection h1 with h1
        subst h1
        rw [HR.out] at hh
        injection hh with hh
        injection hh with hh
        subst hh
        rw [← ht]
        apply List.ext_getElem?
        intro i
        by_cases hi : i < kk * 4
        ·rw [List.getElem?_take_of_lt hi, List.getElem?_take_of_lt hi]
         simpa using hsame i hi
        ·rw [List.getElem?_eq_none (by simp; omega), List.getElem?_eq_none (by simp; omega)]
   ·have Hxy := Lib.hid hxy
    rw [decide_eq_false hxy] at hq
    clear hxy
    go_wp2
    refine wqb ?_
    repeat (first | go_big_quiet_step (fail) | quiet_step (fail))
    refine wqn fun u => ?_
    have HR1 : Hid (RowQ u.val g 143 d sp) := Lib.hid (HR.out.keep u.below)
    have hgr1 := grown_below hgr u.below
    clear c0 c1 c2 c3 e0 e1 e2 e3 hq HR hgr
    go_wp2
    go_roundw
    case rel => exact ⟨k + 1, by omega, by omega, by go_num, hgr1, HR1, Lib.hid (fun j hj => by
     by_cases e : j = k
     ·subst e; exact keeps_pos (by rw [Hx.out, Hy.out]; exact Hxy.out)
     ·exact Ha.out j (by omega))⟩
    case measure => simp [intOf]; omega
  ·obtain rfl : k = n := by omega
   go_wp2
   go_ret
   have e : compactUpTo d k = d.toList := by rw [compactUpTo_all d _ Ha.out, ← hd, range_map_get]
   have hl : (compactUpTo d k).length = k := by rw [e]; simpa using hd
   rw [hl]
   refine ⟨rfl, hgr, ?_⟩
   have := rowq_own (m := k) HR.out hbase hcap hd hsp (Nat.le_refl _)
   rw [e]
   rwa [List.take_of_length_le (by simp [hd])] at this
set_option maxRecDepth 100000 in
theorem compact_plane (d : Array Q4) (g n cap base : Nat) (w : World) (hd : d.size = n) (hn : n ≤ 10000000) (h2 : 2 ≤ n) (hown : w.ownsRow base 69 4 (.slice (some ⟨g, 0, none⟩) n cap) n (d.toList.flatMap enc4)) :
  Calls Tryz.prog 166 #[.slice (some ⟨g, 0, none⟩) n cap] w fun e w' => e = .returned (.slice (some ⟨g, 0, none⟩) (compactUpTo d n).length cap) ∧ w.grownBy w' (some g) ∧
   w'.ownsRow base 69 4 (.slice (some ⟨g, 0, none⟩) (compactUpTo d n).length cap) (compactUpTo d n).length ((compactUpTo d n).flatMap enc4) := by
 obtain ⟨sp, hrow, hbase, hcap, hnc, hsp⟩ := own_rowq d hown
 have HR := Lib.hid hrow
 clear hown hrow
 go_enter Tryz.func166, Tryz.ntmps166
 go_wp2
 go_loopw [3] (fun i wr => ∃ k : Nat, 1 ≤ k ∧ k ≤ n ∧ i = .int .i64 k ∧ w.grownBy wr (some g) ∧ Hid (RowQ wr g 69 d sp) ∧ Hid (∀ j, j < k → keeps d j = true)) (fun i _ => n - (intOf i).toNat)
 case atStart => exact ⟨1, by omega, by omega, rfl, ⟨rfl, rfl, rfl, Nat.le_refl _, fun _ _ _ => rfl⟩, HR, Lib.hid (keeps_lt_one d)⟩
 case round =>
  clear HR
  obtain ⟨k, hk1, hk, rfl, hgr, HR, Ha⟩ := hrel
  by_cases hlt : k < n
  ·obtain ⟨c0, c1, c2, c3⟩ := HR.out.get k (by omega)
   obtain ⟨e0, e1, e2, e3⟩ := HR.out.get (k - 1) (by omega)
   have zg := blk_lt HR.out
   obtain ⟨x, Hx⟩ : ∃ x, Hid (d[k]! = x) := ⟨_, Lib.hid rfl⟩
   obtain ⟨y, Hy⟩ : ∃ y, Hid (d[k - 1]! = y) := ⟨_, Lib.hid rfl⟩
   rw [Hx.out] at c0 c1 c2 c3
   rw [Hy.out] at e0 e1 e2 e3
   have hq := eq_pl x y
   by_cases hxy : x = y
   ·have Hxy := Lib.hid hxy
    rw [decide_eq_true hxy] at hq
    clear hxy
    go_wp2
    refine wqb ?_
    repeat (first | go_big_quiet_step (fail) | quiet_step (fail))
    refine wqn fun u => ?_
    have HR1 : Hid (RowQ u.val g 69 d sp) := Lib.hid (HR.out.keep u.below)
    have hgr1 := grown_below hgr u.below
    clear c0 c1 c2 c3 e0 e1 e2 e3 hq HR hgr
    go_wp2
    go_loopw [3, 5] (fun s3 s5 wr => ∃ (kk k2 : Nat) (dk : Array Q4), s3 = .int .i64 kk ∧ s5 = .int .i64 k2 ∧ 1 ≤ k2 ∧ k + k2 ≤ n ∧ w.grownBy wr (some g) ∧ Hid (RowQ wr g 69 dk sp) ∧ Hid (CompInv d (k + k2) kk dk)) (fun _ i _ => n - (intOf i).toNat)
    case atStart => exact ⟨k, 1, d, rfl, rfl, Nat.le_refl _, by omega, hgr1, HR1, Lib.hid (CompInv.start Ha.out (keeps_neg (by omega) (by rw [Hx.out, Hy.out]; exact Hxy.out)))⟩
    case round =>
     clear HR1 hgr1
     obtain ⟨kk, k2, dk, rfl, rfl, h1, hle, hgr, HR, HI⟩ := hrel
     have hkk := HI.out.lt
     have hds := HI.out.size
     have zg := blk_lt HR.out
     have fz := HR.out.free
     by_cases hlt2 : k + k2 < n
     ·obtain ⟨c0, c1, c2, c3⟩ := HR.out.get (k + k2) (by omega)
      obtain ⟨e0, e1, e2, e3⟩ := HR.out.get (k + k2 - 1) (by omega)
      obtain ⟨d0, d1, d2, d3⟩ := HR.out.get kk (by omega)
      rw [HI.out.high (k + k2) (by omega), show (k + k2) * 4 = k * 4 + k2 * 4 by omega] at c0 c1 c2 c3
      rw [HI.out.high (k + k2 - 1) (by omega), show (k + k2 - 1) * 4 = k * 4 + (k2 - 1) * 4 by omega] at e0 e1 e2 e3
      obtain ⟨x2, Hx2⟩ : ∃ x, Hid (d[k + k2]! = x) := ⟨_, Lib.hid rfl⟩
      obtain ⟨y2, Hy2⟩ : ∃ y, Hid (d[k + k2 - 1]! = y) := ⟨_, Lib.hid rfl⟩
      rw [Hx2.out] at c0 c1 c2 c3
      rw [Hy2.out] at e0 e1 e2 e3
      have hq := eq_pl x2 y2
      have Hds := Lib.hid hds
      clear hds
      by_cases hxy2 : x2 = y2
      ·have Hxy2 := Lib.hid hxy2
       rw [decide_eq_true hxy2] at hq
       clear hxy2
       go_wp2
       refine wqb ?_
       repeat (first | go_big_quiet_step (fail) | quiet_step (fail))
       refine wqn fun u => ?_
       have HR1 : Hid (RowQ u.val g 69 dk sp) := Lib.hid (HR.out.keep u.below)
       have hgr1 := grown_below hgr u.below
       clear c0 c1 c2 c3 e0 e1 e2 e3 d0 d1 d2 d3 hq HR hgr
       go_wp2
       go_roundw
       case rel => exact ⟨kk, k2 + 1, dk, rfl, by go_num, by omega, by omega, hgr1, HR1, Lib.hid (HI.out.skip (keeps_neg (by omega) (by rw [Hx2.out, Hy2.out]; exact Hxy2.out)))⟩
       case measure => simp [intOf]; omega
      ·have Hxy2 := Lib.hid hxy2
       rw [decide_eq_false hxy2] at hq
       clear hxy2
       go_wp2
       refine wqb ?_
       repeat (first | go_big_quiet_step (fail) | quiet_step (fail))
       refine wqn fun u => ?_
       have HR1 : Hid (RowQ u.val g 69 dk sp) := Lib.hid (HR.out.keep u.below)
       have hgr1 := grown_below hgr u.below
       have zu : g < u.val.heap.size := blk_lt HR1.out
       go_wp2
       go_roundw
       case rel =>
        refine ⟨kk + 1, k2 + 1, dk.setIfInBounds kk x2, by go_num, by go_num, by omega, by omega, grown_set (grown_set (grown_set (grown_set hgr1 _ _) _ _) _ _) _ _, Lib.hid (HR1.out.set kk (by have := Hds.out; omega) x2), Lib.hid ?_⟩
        have := HI.out.keep (by omega) (keeps_pos (by rw [Hx2.out, Hy2.out]; exact Hxy2.out))
        rw [Hx2.out] at this
        exact this
       case measure => simp [intOf]; omega
     ·have hend : k + k2 = n := by omega
      have hcl : ∀ ty, (Builtin.clear_ #[65] ty #[.slice (some ⟨g, kk * 4, none⟩) (n - kk) (cap - kk)]).run Tryz.prog wr = .ok (.tuple #[]) (wr.setCells g (kk * 4) (List.replicate ((n - kk) * 4) (.int .i64 0))) := fun ty =>
       run_clear4 wr _ _ ty und_planes' und_Plane g (kk * 4) _ _ (by omega) (fun j hj => by
        rw [blk_cell HR.out]
        have hl : (dk.toList.flatMap enc4).length = n * 4 := by rw [flat_len enc4 4 enc4_len]; simp; omega
        have hlt : kk * 4 + j < (dk.toList.flatMap enc4 ++ sp).toArray.size := by simp only [List.size_toArray, List.length_append, hl]; omega
        rw [Array.getElem?_eq_getElem hlt]; rfl) (fun j _ => fz _)
      have Hend := Lib.hid hend
      have Hds := Lib.hid hds
      clear hds hend fz
      go_wp2
      go_ret
      have hlen : (compactUpTo d n).length = kk := by have := HI.out.len; rwa [Hend.out] at this
      rw [hlen]
      refine ⟨rfl, grown_setCells _ _ _ hgr, ?_⟩
      have hlow : compactUpTo d n = dk.toList.take kk := by
       apply List.ext_getElem?
       intro i
       by_cases hi : i < kk
       ·have := HI.out.low i hi
        rw [Hend.out] at this
        rw [this, List.getElem?_take_of_lt hi, Array.getElem?_toList, Array.getElem?_eq_getElem (by have := Hds.out; omega), getElem!_pos _ i (by have := Hds.out; omega)]
       ·rw [List.getElem?_eq_none (by omega), List.getElem?_eq_none (by simp; omega)]
      obtain ⟨cur', hb', hs', hsame⟩ := setCells_blk g 69 (List.replicate ((n - kk) * 4) (.int .i64 0)) (kk * 4) wr _ HR.out
      have hown0 := rowq_own (m := kk) (n := n) HR.out hbase hcap (by have := Hds.out; omega) hsp (by omega)
      rw [hlow]
      refine ⟨hown0.1, .inr ⟨g, cap, cur', rfl, hbase, hb', by omega, hcap, ?_, ?_⟩⟩
      ·rw [hs']; simp only [List.size_toArray, List.length_append]; rw [flat_len enc4 4 enc4_len]; simp; have := Hds.out; omega
      ·rcases hown0.2 with ⟨h0, _⟩ | ⟨g', cap', cur, hv, _, hh, _, _, _, ht⟩
       ·cases h0
       ·injection hv with h1 h2 h3
        injection h1 with h1
        injection h1 with h1
        subst h1
        rw [HR.out] at hh
        injection hh with hh
        injection hh with hh
        subst hh
        rw [← ht]
        apply List.ext_getElem?
        intro i
        by_cases hi : i < kk * 4
        ·rw [List.getElem?_take_of_lt hi, List.getElem?_take_of_lt hi]
         simpa using hsame i hi
        ·rw [List.getElem?_eq_none (by simp; omega), List.getElem?_eq_none (by simp; omega)]
   ·have Hxy := Lib.hid hxy
    rw [decide_eq_false hxy] at hq
    clear hxy
    go_wp2
    refine wqb ?_
    repeat (first | go_big_quiet_step (fail) | quiet_step (fail))
    refine wqn fun u => ?_
    have HR1 : Hid (RowQ u.val g 69 d sp) := Lib.hid (HR.out.keep u.below)
    have hgr1 := grown_below hgr u.below
    clear c0 c1 c2 c3 e0 e1 e2 e3 hq HR hgr
    go_wp2
    go_roundw
    case rel => exact ⟨k + 1, by omega, by omega, by go_num, hgr1, HR1, Lib.hid (fun j hj => by
     by_cases e : j = k
     ·subst e; exact keeps_pos (by rw [Hx.out, Hy.out]; exact Hxy.out)
     ·exact Ha.out j (by omega))⟩
    case measure => simp [intOf]; omega
  ·obtain rfl : k = n := by omega
   go_wp2
   go_ret
   have e : compactUpTo d k = d.toList := by rw [compactUpTo_all d _ Ha.out, ← hd, range_map_get]
   have hl : (compactUpTo d k).length = k := by rw [e]; simpa using hd
   rw [hl]
   refine ⟨rfl, hgr, ?_⟩
   have := rowq_own (m := k) HR.out hbase hcap hd hsp (Nat.le_refl _)
   rw [e]
   rwa [List.take_of_length_le (by simp [hd])] at this
theorem und_cells' : Tryz.prog.underlying 104 = some (.slice 69) := by kernel_rfl
set_option maxRecDepth 100000 in
theorem compact_cell (d : Array Q4) (g n cap base : Nat) (w : World) (hd : d.size = n) (hn : n ≤ 10000000) (h2 : 2 ≤ n) (hown : w.ownsRow base 69 4 (.slice (some ⟨g, 0, none⟩) n cap) n (d.toList.flatMap enc4)) :
  Calls Tryz.prog 74 #[.slice (some ⟨g, 0, none⟩) n cap] w fun e w' => e = .returned (.slice (some ⟨g, 0, none⟩) (compactUpTo d n).length cap) ∧ w.grownBy w' (some g) ∧
   w'.ownsRow base 69 4 (.slice (some ⟨g, 0, none⟩) (compactUpTo d n).length cap) (compactUpTo d n).length ((compactUpTo d n).flatMap enc4) := by
 obtain ⟨sp, hrow, hbase, hcap, hnc, hsp⟩ := own_rowq d hown
 have HR := Lib.hid hrow
 clear hown hrow
 go_enter Tryz.func74, Tryz.ntmps74
 go_wp2
 go_loopw [3] (fun i wr => ∃ k : Nat, 1 ≤ k ∧ k ≤ n ∧ i = .int .i64 k ∧ w.grownBy wr (some g) ∧ Hid (RowQ wr g 69 d sp) ∧ Hid (∀ j, j < k → keeps d j = true)) (fun i _ => n - (intOf i).toNat)
 case atStart => exact ⟨1, by omega, by omega, rfl, ⟨rfl, rfl, rfl, Nat.le_refl _, fun _ _ _ => rfl⟩, HR, Lib.hid (keeps_lt_one d)⟩
 case round =>
  clear HR
  obtain ⟨k, hk1, hk, rfl, hgr, HR, Ha⟩ := hrel
  by_cases hlt : k < n
  ·obtain ⟨c0, c1, c2, c3⟩ := HR.out.get k (by omega)
   obtain ⟨e0, e1, e2, e3⟩ := HR.out.get (k - 1) (by omega)
   have zg := blk_lt HR.out
   obtain ⟨x, Hx⟩ : ∃ x, Hid (d[k]! = x) := ⟨_, Lib.hid rfl⟩
   obtain ⟨y, Hy⟩ : ∃ y, Hid (d[k - 1]! = y) := ⟨_, Lib.hid rfl⟩
   rw [Hx.out] at c0 c1 c2 c3
   rw [Hy.out] at e0 e1 e2 e3
   have hq := eq_pl x y
   by_cases hxy : x = y
   ·have Hxy := Lib.hid hxy
    rw [decide_eq_true hxy] at hq
    clear hxy
    go_wp2
    refine wqb ?_
    repeat (first | go_big_quiet_step (fail) | quiet_step (fail))
    refine wqn fun u => ?_
    have HR1 : Hid (RowQ u.val g 69 d sp) := Lib.hid (HR.out.keep u.below)
    have hgr1 := grown_below hgr u.below
    clear c0 c1 c2 c3 e0 e1 e2 e3 hq HR hgr
    go_wp2
    go_loopw [3, 5] (fun s3 s5 wr => ∃ (kk k2 : Nat) (dk : Array Q4), s3 = .int .i64 kk ∧ s5 = .int .i64 k2 ∧ 1 ≤ k2 ∧ k + k2 ≤ n ∧ w.grownBy wr (some g) ∧ Hid (RowQ wr g 69 dk sp) ∧ Hid (CompInv d (k + k2) kk dk)) (fun _ i _ => n - (intOf i).toNat)
    case atStart => exact ⟨k, 1, d, rfl, rfl, Nat.le_refl _, by omega, hgr1, HR1, Lib.hid (CompInv.start Ha.out (keeps_neg (by omega) (by rw [Hx.out, Hy.out]; exact Hxy.out)))⟩
    case round =>
     clear HR1 hgr1
     obtain ⟨kk, k2, dk, rfl, rfl, h1, hle, hgr, HR, HI⟩ := hrel
     have hkk := HI.out.lt
     have hds := HI.out.size
     have zg := blk_lt HR.out
     have fz := HR.out.free
     by_cases hlt2 : k + k2 < n
     ·obtain ⟨c0, c1, c2, c3⟩ := HR.out.get (k + k2) (by omega)
      obtain ⟨e0, e1, e2, e3⟩ := HR.out.get (k + k2 - 1) (by omega)
      obtain ⟨d0, d1, d2, d3⟩ := HR.out.get kk (by omega)
      rw [HI.out.high (k + k2) (by omega), show (k + k2) * 4 = k * 4 + k2 * 4 by omega] at c0 c1 c2 c3
      rw [HI.out.high (k + k2 - 1) (by omega), show (k + k2 - 1) * 4 = k * 4 + (k2 - 1) * 4 by omega] at e0 e1 e2 e3
      obtain ⟨x2, Hx2⟩ : ∃ x, Hid (d[k + k2]! = x) := ⟨_, Lib.hid rfl⟩
      obtain ⟨y2, Hy2⟩ : ∃ y, Hid (d[k + k2 - 1]! = y) := ⟨_, Lib.hid rfl⟩
      rw [Hx2.out] at c0 c1 c2 c3
      rw [Hy2.out] at e0 e1 e2 e3
      have hq := eq_pl x2 y2
      have Hds := Lib.hid hds
      clear hds
      by_cases hxy2 : x2 = y2
      ·have Hxy2 := Lib.hid hxy2
       rw [decide_eq_true hxy2] at hq
       clear hxy2
       go_wp2
       refine wqb ?_
       repeat (first | go_big_quiet_step (fail) | quiet_step (fail))
       refine wqn fun u => ?_
       have HR1 : Hid (RowQ u.val g 69 dk sp) := Lib.hid (HR.out.keep u.below)
       have hgr1 := grown_below hgr u.below
       clear c0 c1 c2 c3 e0 e1 e2 e3 d0 d1 d2 d3 hq HR hgr
       go_wp2
       go_roundw
       case rel => exact ⟨kk, k2 + 1, dk, rfl, by go_num, by omega, by omega, hgr1, HR1, Lib.hid (HI.out.skip (keeps_neg (by omega) (by rw [Hx2.out, Hy2.out]; exact Hxy2.out)))⟩
       case measure => simp [intOf]; omega
      ·have Hxy2 := Lib.hid hxy2
       rw [decide_eq_false hxy2] at hq
       clear hxy2
       go_wp2
       refine wqb ?_
       repeat (first | go_big_quiet_step (fail) | quiet_step (fail))
       refine wqn fun u => ?_
       have HR1 : Hid (RowQ u.val g 69 dk sp) := Lib.hid (HR.out.keep u.below)
       have hgr1 := grown_below hgr u.below
       have zu : g < u.val.heap.size := blk_lt HR1.out
       go_wp2
       go_roundw
       case rel =>
        refine ⟨kk + 1, k2 + 1, dk.setIfInBounds kk x2, by go_num, by go_num, by omega, by omega, grown_set (grown_set (grown_set (grown_set hgr1 _ _) _ _) _ _) _ _, Lib.hid (HR1.out.set kk (by have := Hds.out; omega) x2), Lib.hid ?_⟩
        have := HI.out.keep (by omega) (keeps_pos (by rw [Hx2.out, Hy2.out]; exact Hxy2.out))
        rw [Hx2.out] at this
        exact this
       case measure => simp [intOf]; omega
     ·have hend : k + k2 = n := by omega
      have hcl : ∀ ty, (Builtin.clear_ #[104] ty #[.slice (some ⟨g, kk * 4, none⟩) (n - kk) (cap - kk)]).run Tryz.prog wr = .ok (.tuple #[]) (wr.setCells g (kk * 4) (List.replicate ((n - kk) * 4) (.int .i64 0))) := fun ty =>
       run_clear4 wr _ _ ty und_cells' und_Plane g (kk * 4) _ _ (by omega) (fun j hj => by
        rw [blk_cell HR.out]
        have hl : (dk.toList.flatMap enc4).length = n * 4 := by rw [flat_len enc4 4 enc4_len]; simp; omega
        have hlt : kk * 4 + j < (dk.toList.flatMap enc4 ++ sp).toArray.size := by simp only [List.size_toArray, List.length_append, hl]; omega
        rw [Array.getElem?_eq_getElem hlt]; rfl) (fun j _ => fz _)
      have Hend := Lib.hid hend
      have Hds := Lib.hid hds
      clear hds hend fz
      go_wp2
      go_ret
      have hlen : (compactUpTo d n).length = kk := by have := HI.out.len; rwa [Hend.out] at this
      rw [hlen]
      refine ⟨rfl, grown_setCells _ _ _ hgr, ?_⟩
      have hlow : compactUpTo d n = dk.toList.take kk := by
       apply List.ext_getElem?
       intro i
       by_cases hi : i < kk
       ·have := HI.out.low i hi
        rw [Hend.out] at this
        rw [this, List.getElem?_take_of_lt hi, Array.getElem?_toList, Array.getElem?_eq_getElem (by have := Hds.out; omega), getElem!_pos _ i (by have := Hds.out; omega)]
       ·rw [List.getElem?_eq_none (by omega), List.getElem?_eq_none (by simp; omega)]
      obtain ⟨cur', hb', hs', hsame⟩ := setCells_blk g 69 (List.replicate ((n - kk) * 4) (.int .i64 0)) (kk * 4) wr _ HR.out
      have hown0 := rowq_own (m := kk) (n := n) HR.out hbase hcap (by have := Hds.out; omega) hsp (by omega)
      rw [hlow]
      refine ⟨hown0.1, .inr ⟨g, cap, cur', rfl, hbase, hb', by omega, hcap, ?_, ?_⟩⟩
      ·rw [hs']; simp only [List.size_toArray, List.length_append]; rw [flat_len enc4 4 enc4_len]; simp; have := Hds.out; omega
      ·rcases hown0.2 with ⟨h0, _⟩ | ⟨g', cap', cur, hv, _, hh, _, _, _, ht⟩
       ·cases h0
       ·injection hv with h1 h2 h3
        injection h1 with h1
        injection h1 with h1
        subst h1
        rw [HR.out] at hh
        injection hh with hh
        injection hh with hh
        subst hh
        rw [← ht]
        apply List.ext_getElem?
        intro i
        by_cases hi : i < kk * 4
        ·rw [List.getElem?_take_of_lt hi, List.getElem?_take_of_lt hi]
         simpa using hsame i hi
        ·rw [List.getElem?_eq_none (by simp; omega), List.getElem?_eq_none (by simp; omega)]
   ·have Hxy := Lib.hid hxy
    rw [decide_eq_false hxy] at hq
    clear hxy
    go_wp2
    refine wqb ?_
    repeat (first | go_big_quiet_step (fail) | quiet_step (fail))
    refine wqn fun u => ?_
    have HR1 : Hid (RowQ u.val g 69 d sp) := Lib.hid (HR.out.keep u.below)
    have hgr1 := grown_below hgr u.below
    clear c0 c1 c2 c3 e0 e1 e2 e3 hq HR hgr
    go_wp2
    go_roundw
    case rel => exact ⟨k + 1, by omega, by omega, by go_num, hgr1, HR1, Lib.hid (fun j hj => by
     by_cases e : j = k
     ·subst e; exact keeps_pos (by rw [Hx.out, Hy.out]; exact Hxy.out)
     ·exact Ha.out j (by omega))⟩
    case measure => simp [intOf]; omega
  ·obtain rfl : k = n := by omega
   go_wp2
   go_ret
   have e : compactUpTo d k = d.toList := by rw [compactUpTo_all d _ Ha.out, ← hd, range_map_get]
   have hl : (compactUpTo d k).length = k := by rw [e]; simpa using hd
   rw [hl]
   refine ⟨rfl, hgr, ?_⟩
   have := rowq_own (m := k) HR.out hbase hcap hd hsp (Nat.le_refl _)
   rw [e]
   rwa [List.take_of_length_le (by simp [hd])] at this
theorem compact_corner_small (a : Option Addr) (n c : Nat) (w : World) (h : n < 2) : Calls Tryz.prog 182 #[.slice a n c] w fun e w' => e = .returned (.slice a n c) ∧ w = w' := by
 go_enter Tryz.func182, Tryz.ntmps182
 go_wp2
 go_ret
 exact ⟨rfl, rfl⟩
theorem compact_plane_small (a : Option Addr) (n c : Nat) (w : World) (h : n < 2) : Calls Tryz.prog 166 #[.slice a n c] w fun e w' => e = .returned (.slice a n c) ∧ w = w' := by
 go_enter Tryz.func166, Tryz.ntmps166
 go_wp2
 go_ret
 exact ⟨rfl, rfl⟩
theorem compact_cell_small (a : Option Addr) (n c : Nat) (w : World) (h : n < 2) : Calls Tryz.prog 74 #[.slice a n c] w fun e w' => e = .returned (.slice a n c) ∧ w = w' := by
 go_enter Tryz.func74, Tryz.ntmps74
 go_wp2
 go_ret
 exact ⟨rfl, rfl⟩
end
section
open Go.RowKit Go.Shelf Go.Sort Go.Lib
theorem gcdL_neg4 (a b c d : Int) : gcdL [-a, -b, -c, -d] = gcdL [a, b, c, d] := by simp [gcdL]
theorem gcdL_div (a b c d : Int) (hp : 0 < gcdL [a, b, c, d]) : gcdL [a / gcdL [a, b, c, d], b / gcdL [a, b, c, d], c / gcdL [a, b, c, d], d / gcdL [a, b, c, d]] = 1 := by
 have key : ∀ x ∈ [a, b, c, d], x = (gcdL [a, b, c, d] : Int) * (x / gcdL [a, b, c, d]) := fun x hx => (Int.mul_ediv_cancel' (gcdL_dvd _ x hx)).symm
 have h1 : gcdL [a / gcdL [a, b, c, d], b / gcdL [a, b, c, d], c / gcdL [a, b, c, d], d / gcdL [a, b, c, d]] * gcdL [a, b, c, d] ∣ gcdL [a, b, c, d] := by
  apply dvd_gcdL
  intro x hx
  rw [key x hx, Int.natCast_mul, Int.mul_comm]
  apply Int.mul_dvd_mul_left
  simp only [List.mem_cons, List.not_mem_nil, or_false] at hx
  apply gcdL_dvd
  rcases hx with rfl | rfl | rfl | rfl <;> simp
 obtain ⟨k, hk⟩ := h1
 have h2 : gcdL [a, b, c, d] * 1 = gcdL [a, b, c, d] * (gcdL [a / gcdL [a, b, c, d], b / gcdL [a, b, c, d], c / gcdL [a, b, c, d], d / gcdL [a, b, c, d]] * k) := by
  rw [Nat.mul_one, ← Nat.mul_assoc, Nat.mul_comm (gcdL [a, b, c, d]) (gcdL [_, _, _, _])]; exact hk
 have h3 := Nat.eq_of_mul_eq_mul_left hp h2
 exact Nat.eq_one_of_mul_eq_one_right h3.symm
theorem ptOf_nrm (a b c den : Int) (ha : -10000000000 ≤ a ∧ a ≤ 10000000000) (hb : -10000000000 ≤ b ∧ b ≤ 10000000000) (hc : -10000000000 ≤ c ∧ c ≤ 10000000000)
  (hd : -1000000 ≤ den ∧ den ≤ 1000000) (h0 : den ≠ 0) : nrmCo (ptOf a b c den) := by
 refine ⟨ptOf_ok a b c den ha hb hc hd h0, ?_⟩
 have hp := gcdL4_pos a b c den h0
 unfold ptOf
 split
 ·exact (gcdL_neg4 _ _ _ _).trans (gcdL_div a b c den hp)
 ·exact gcdL_div a b c den hp
theorem meetP_nrm (p q r : Q4) (den : Int) (hp : okPl p) (hq : okPl q) (hr : okPl r) (hd : -1000000 ≤ den ∧ den ≤ 1000000) (h0 : den ≠ 0) : nrmCo (meetP p q r den) := by
 simp only [okPl] at hp hq hr
 refine ptOf_nrm _ _ _ _ ?_ ?_ ?_ hd h0
 ·exact comb_bd hp.2.2.2 hq.2.2.2 hr.2.2.2 (cross_bd hq.2.1 hq.2.2.1 hr.2.1 hr.2.2.1) (cross_bd hr.2.1 hr.2.2.1 hp.2.1 hp.2.2.1) (cross_bd hp.2.1 hp.2.2.1 hq.2.1 hq.2.2.1)
 ·exact comb_bd hp.2.2.2 hq.2.2.2 hr.2.2.2 (cross_bd hq.2.2.1 hq.1 hr.2.2.1 hr.1) (cross_bd hr.2.2.1 hr.1 hp.2.2.1 hp.1) (cross_bd hp.2.2.1 hp.1 hq.2.2.1 hq.1)
 ·exact comb_bd hp.2.2.2 hq.2.2.2 hr.2.2.2 (cross_bd hq.1 hq.2.1 hr.1 hr.2.1) (cross_bd hr.1 hr.2.1 hp.1 hp.2.1) (cross_bd hp.1 hp.2.1 hq.1 hq.2.1)
theorem raw_nrm (ps : List Q4) (h : ∀ p ∈ ps, okPl p) (n : Nat) (hn : n ≤ ps.length) : ∀ c ∈ raw ps n, nrmCo c := by
 intro c hc
 simp only [raw, rawI, rawK, List.mem_flatMap, List.mem_range] at hc
 obtain ⟨i, hi, k, hk, m, hm, hc⟩ := hc
 unfold raw1 at hc
 split at hc
 ·cases hc
 ·rename_i h0
  split at hc
  ·rw [List.mem_singleton] at hc
   subst hc
   have b := den_bd _ _ _ (getP_ok h i (by omega)) (getP_ok h k (by omega)) (getP_ok h m (by omega))
   exact meetP_nrm _ _ _ _ (getP_ok h i (by omega)) (getP_ok h k (by omega)) (getP_ok h m (by omega)) (by omega) h0
  ·cases hc
def cornersOf (ps : List Q4) : List Q4 := Lib.compact (sortP (raw ps ps.length))
theorem sortP_len (cs : List Q4) : (sortP cs).length = cs.length := by simp [sortP]
theorem sort_any (cs : List Q4) (hcs : ∀ c ∈ cs, nrmCo c) (base n : Nat) (cv : Value) (w : World) (hn : cs.length = n) (hs : n < 4611686018427387904)
  (hown : w.ownsRow base 143 4 cv n (cs.flatMap enc4)) :
  Calls Tryz.prog 180 #[cv, .func (.func 181) #[] #[]] w fun e w' =>
   e = .returned (.tuple #[]) ∧ w'.ownsRow base 143 4 cv n ((sortP cs).flatMap enc4) ∧ w.grownBy w' cv.ownBlock := by
 by_cases h0 : 0 < n
 ·obtain ⟨g, cap, rfl, _, _⟩ := own_form hown h0
  exact sortCorners cs hcs base g n cap w hn hs hown
 ·obtain rfl : n = 0 := by omega
  have hnil : cs = [] := List.length_eq_zero_iff.1 hn
  subst hnil
  have hf : ∃ a cap, cv = .slice a 0 cap := by
   rcases hown.2 with ⟨rfl, _⟩ | ⟨g, cap, cur, rfl, _⟩
   ·exact ⟨_, _, rfl⟩
   ·exact ⟨_, _, rfl⟩
  obtain ⟨a, cap, rfl⟩ := hf
  refine Calls.mono (show Calls Tryz.prog 180 _ _ _ from AnyF.slices_SortFunc_none Tryz.sortCorner a cap _ w) ?_
  rintro e w' ⟨rfl, rfl⟩
  exact ⟨rfl, by simpa [sortP] using hown, ⟨rfl, rfl, rfl, Nat.le_refl _, fun _ _ _ => rfl⟩⟩
theorem compact_any (cs : List Q4) (base n : Nat) (cv : Value) (w : World) (hn : cs.length = n) (hs : n ≤ 10000000) (hown : w.ownsRow base 143 4 cv n (cs.flatMap enc4)) :
  Calls Tryz.prog 182 #[cv] w fun e w' => ∃ cv', e = .returned cv' ∧ w.grownBy w' cv.ownBlock ∧ (∃ a m c, cv' = .slice a m c) ∧
   w'.ownsRow base 143 4 cv' (Lib.compact cs).length ((Lib.compact cs).flatMap enc4) := by
 by_cases h2 : 2 ≤ n
 ·obtain ⟨g, cap, rfl, _, _⟩ := own_form hown (by omega)
  refine (compact_corner cs.toArray g n cap base w (by simpa using hn) hs h2 (by simpa using hown)).mono ?_
  rintro e w' ⟨rfl, hg, ho⟩
  have e : compactUpTo cs.toArray n = Lib.compact cs := by unfold Lib.compact; rw [hn]
  rw [e] at ho ⊢
  exact ⟨_, rfl, hg, ⟨_, _, _, rfl⟩, ho⟩
 ·have hf : ∃ a cap, cv = .slice a n cap := by
   rcases hown.2 with ⟨rfl, h⟩ | ⟨g, cap, cur, rfl, _⟩
   ·exact ⟨_, _, by rw [h]⟩
   ·exact ⟨_, _, rfl⟩
  obtain ⟨a, cap, rfl⟩ := hf
  refine (compact_corner_small a n cap w (by omega)).mono ?_
  rintro e w' ⟨rfl, rfl⟩
  have e : Lib.compact cs = cs := compact_all cs (fun j hj => keeps_lt_one _ j (by omega))
  rw [e, hn]
  exact ⟨_, rfl, ⟨rfl, rfl, rfl, Nat.le_refl _, fun _ _ _ => rfl⟩, ⟨_, _, _, rfl⟩, hown⟩
theorem q4s_own {w : World} {base : Nat} {T : TypeId} {v : Value} {cs : List Q4} (h : w.ownsRow base T 4 v cs.length (cs.flatMap enc4)) : Q4s w v cs := by
 rcases h.2 with ⟨rfl, h0⟩ | ⟨g, cap, cur, rfl, hb, hh, hc, hm, hcs, ht⟩
 ·exact ⟨none, 0, 0, rfl, h0, Nat.le_refl _, fun h => absurd h (by omega)⟩
 ·refine ⟨some ⟨g, 0, none⟩, cs.length, cap, rfl, rfl, hc, fun _ => ⟨g, 0, rfl, fun i hi => ?_⟩⟩
  have key : ∀ j, j < 4 → w.cell? ⟨g, i * 4 + j, none⟩ = (enc4 cs[i])[j]? := fun j hj => by
   rw [blk_cell hh, ← flat_get enc4 4 enc4_len cs i hi j hj, ← ht, List.getElem?_take_of_lt (by omega), Array.getElem?_toList]
  simp only [Nat.zero_add]
  exact ⟨key 0 (by omega), key 1 (by omega), key 2 (by omega), key 3 (by omega)⟩
end
section
open Go.RowKit Go.Shelf
attribute [local go_sem] Ext.cell Ext.frozen
set_option maxRecDepth 100000
def BSt (w : World) (pv : Value) (cs : List Q4) (wr : World) : Prop :=
 Below w.heap.size w wr ∧ wr.heap[w.heap.size]? = some (.cells #[.slice none 0 0, .slice none 0 0] 160 (0, 0)) ∧
 ∃ cv, wr.heap[w.heap.size + 1]? = some (.cells #[pv, cv] 160 (0, 0)) ∧ wr.ownsRow (w.heap.size + 2) 143 4 cv cs.length (cs.flatMap enc4)
theorem BSt.keep {w : World} {pv : Value} {cs : List Q4} {wr w' : World} (h : BSt w pv cs wr) (hb : Below wr.heap.size wr w') : BSt w pv cs w' := by
 obtain ⟨h1, h2, cv, h3, h4⟩ := h
 exact ⟨below_trans h1 hb, (hb.block _ (blk_lt h2)).trans h2, cv, (hb.block _ (blk_lt h3)).trans h3, own_below h4 hb⟩
theorem BSt.size {w : World} {pv : Value} {cs : List Q4} {wr : World} (h : BSt w pv cs wr) : w.heap.size + 2 ≤ wr.heap.size := by
 obtain ⟨_, _, cv, h3, _⟩ := h
 have := blk_lt h3; omega
theorem kept_blk {w w' : World} {bb base g : Nat} {cv : Value} {n : Nat} {xs : List Value} {cs : Array Value} {t : TypeId} (h : Kept2 w w' bb cv.ownBlock) (hown : w.ownsRow base 143 4 cv n xs)
  (hg : w.heap[g]? = some (.cells cs t (0, 0))) (hne : g ≠ bb) (ht : 143 ≠ t) : w'.heap[g]? = some (.cells cs t (0, 0)) :=
 (h.block g (blk_lt hg) hne (fun e => own_blk_ne hown hg ht e.symm)).trans hg
theorem bst_add (ps : List Q4) (c : Q4) (pv : Value) (cs : List Q4) (w wr : World) (hps : ∀ p ∈ ps, okPl p) (hc : okCo c) (hl : ps.length ≤ 64) (hn : cs.length ≤ 1000000) (hpv : Q4s w pv ps) (h : BSt w pv cs wr) :
  Calls Tryz.prog 178 #[.pointer (some ⟨w.heap.size + 1, 0, none⟩), v4 c] wr fun e w' => e = .returned (.tuple #[]) ∧ BSt w pv (cs ++ if allowedB ps c then [c] else []) w' ∧ wr.heap.size ≤ w'.heap.size ∧
   ∀ g cells t, w.heap.size + 1 < g → 143 ≠ t → wr.heap[g]? = some (.cells cells t (0, 0)) → w'.heap[g]? = some (.cells cells t (0, 0)) := by
 obtain ⟨h1, h2, cv, h3, h4⟩ := h
 have hz := blk_lt h3
 cases ha : allowedB ps c with
 | true =>
  refine (add_yes ps c pv cv _ _ _ _ wr hps hc (by omega) hn h3 (hpv.below h1) h4 (by omega) ha).mono ?_
  rintro e w' ⟨rfl, hk, cv', hb', ho'⟩
  refine ⟨rfl, ⟨h1.trans (hk.below (by omega) (by omega) (fun k hk => ?_)), kept_blk hk h4 h2 (by omega) (by decide), cv', hb', ?_⟩, hk.size, fun g cells t hg ht hgb => kept_blk hk h4 hgb (by omega) ht⟩
  ·obtain ⟨h, _⟩ := h4.lt k hk; omega
  ·simpa [enc4] using ho'
 | false =>
  refine (add_no ps c pv cv _ wr hps hc (by omega) h3 (hpv.below h1) ha).mono ?_
  rintro e w' ⟨rfl, hk⟩
  refine ⟨rfl, ?_, hk.size, fun g cells t hg ht hgb => (hk.block g (blk_lt hgb)).trans hgb⟩
  simpa using (show BSt w pv cs wr from ⟨h1, h2, cv, h3, h4⟩).keep hk
theorem bodyOf_any (ps : List Q4) (pv : Value) (w : World) (hps : ∀ p ∈ ps, okPl p) (hl : ps.length ≤ 64) (hpv : Q4s w pv ps) :
  Calls Tryz.prog 158 #[pv] w fun e w' => ∃ cv, e = .returned (.agg #[pv, cv]) ∧ Below w.heap.size w w' ∧ w'.ownsRow (w.heap.size + 2) 143 4 cv (cornersOf ps).length ((cornersOf ps).flatMap enc4) := by
 have Hco : Hid (cornersOf ps = Lib.compact (sortP (raw ps ps.length))) := Lib.hid rfl
 generalize cornersOf ps = co at *
 obtain ⟨a, n, cc, rfl, hn, hnc, hx⟩ := hpv
 have HPV : Hid (Q4s w (.slice a n cc) ps) := Lib.hid ⟨a, n, cc, rfl, hn, hnc, hx⟩
 have HPS := Lib.hid hps
 clear hps
 go_enter Tryz.func158, Tryz.ntmps158
 go_wp2
 go_loopw [16] (fun i wr => ∃ k : Nat, k ≤ n ∧ i = .int .i64 k ∧ BSt w (.slice a n cc) (raw ps k) wr) (fun i _ => n - (intOf i).toNat)
 case atStart => exact ⟨0, by omega, rfl, bel, (heap_old (by simp)).trans (heap_new rfl), _, heap_new (by simp), World.ownsRow_nil _ _ _ _⟩
 case round =>
  obtain ⟨k, hk, rfl, hst⟩ := hrel
  by_cases hlt : k < n
  ·obtain ⟨b, off, rfl, hi⟩ := hx (by omega)
   obtain ⟨c0, c1, c2, c3⟩ := (hi.below hst.1) k (by omega)
   have Hok := Lib.hid (getP_ok HPS.out k (by omega))
   rw [getP_eq k (by omega)] at c0 c1 c2 c3
   obtain ⟨P, HP⟩ : ∃ P, Hid (getP ps k = P) := ⟨_, Lib.hid rfl⟩
   rw [HP.out] at c0 c1 c2 c3 Hok
   have Hst := Lib.hid hst
   clear hx hst
   obtain ⟨wo, rfl⟩ : ∃ wo : World, wo = wr := ⟨_, rfl⟩
   have HI := Lib.hid hi
   clear hi
   go_wp2
   go_loopw [25] (fun i wr => ∃ j : Nat, j ≤ k ∧ i = .int .i64 j ∧ BSt w (.slice (some ⟨b, off, none⟩) n cc) (raw ps k ++ rawI ps k j) wr ∧ Hid (wr.heap[wo.heap.size]? = some (.cells #[.int .i64 P.1, .int .i64 P.2.1, .int .i64 P.2.2.1, .int .i64 P.2.2.2] 69 (0, 0)))) (fun i _ => k - (intOf i).toNat)
   case atStart => exact ⟨0, by omega, rfl, by simpa [rawI_zero] using Hst.out.keep bel, Lib.hid (heap_new rfl)⟩
   case round =>
    have zo := Hst.out.size
    clear Hst c0 c1 c2 c3
    obtain ⟨j, hj, rfl, hst, HPb⟩ := hrel
    by_cases hlt2 : j < k
    ·obtain ⟨c0, c1, c2, c3⟩ := (HI.out.below hst.1) j (by omega)
     have HokQ := Lib.hid (getP_ok HPS.out j (by omega))
     rw [getP_eq j (by omega)] at c0 c1 c2 c3
     obtain ⟨Q, HQ⟩ : ∃ Q, Hid (getP ps j = Q) := ⟨_, Lib.hid rfl⟩
     rw [HQ.out] at c0 c1 c2 c3 HokQ
     have Hst := Lib.hid hst
     clear hst
     obtain ⟨wq, rfl⟩ : ∃ wq : World, wq = wr := ⟨_, rfl⟩
     have zq := blk_lt HPb.out
     have p0 : wq.cell? ⟨wo.heap.size, 0, none⟩ = some (.int .i64 P.1) := (blk_cell HPb.out 0).trans rfl
     have p1 : wq.cell? ⟨wo.heap.size, 1, none⟩ = some (.int .i64 P.2.1) := (blk_cell HPb.out 1).trans rfl
     have p2 : wq.cell? ⟨wo.heap.size, 2, none⟩ = some (.int .i64 P.2.2.1) := (blk_cell HPb.out 2).trans rfl
     have p3 : wq.cell? ⟨wo.heap.size, 3, none⟩ = some (.int .i64 P.2.2.2) := (blk_cell HPb.out 3).trans rfl
     have oP := Hok.out
     have oQ := HokQ.out
     simp only [okPl] at oP oQ
     go_wp2
     clear c0 c1 c2 c3
     have zo1 : wo.heap.size < wq.heap.size + 1 := by omega
     apply wp_region_growK [] [0, 1, 2, 3, 4, 5] 6 [] [sv _, sv _, sv _, sv _, sv _, ⟨IsBx (wq.alloc (.cells #[.int .i64 Q.1, .int .i64 Q.2.1, .int .i64 Q.2.2.1, .int .i64 Q.2.2.2] 69)).heap.size 124 #[.int .i64 0, .int .i64 0, .int .i64 0], by first | exact stab_po _ _ | exact stab_fo _ _ | exact stab_co _ _ | exact stab_ko _ _ | exact stab_kgo _ _ | exact stab_bx _ _ _⟩] (by kernel_rfl) (by kernel_rfl)
     iterate 1 ((try go_frame); refine wkV ?_; apply ex3; (focus (intro u K hK; go_simp; exact hK _ brf)); rfl)
     try go_frame
     refine wkV ?_
     apply ex3
     ·intro u K hK
      go_simp
      refine (normal_any _ _ _ _ _).mono ?_
      rintro e w9 ⟨rfl, hb9⟩
      exact hK _ hb9
     rfl
     iterate 1 ((try go_frame); refine wkV ?_; apply ex3; (focus (intro u K hK; go_simp; exact hK _ brf)); rfl)
     try go_frame
     refine wkV ?_
     apply ex3
     ·intro u K hK
      go_simp
      refine (normal_any _ _ _ _ _).mono ?_
      rintro e w9 ⟨rfl, hb9⟩
      exact hK _ hb9
     rfl
     try go_frame
     refine wkV ?_
     apply ex3
     ·intro u K hK
      go_simp
      refine (cross_any _ _ _ _ _ _ _ (by omega) (by omega) (by omega) (by omega) (by omega) (by omega)).mono ?_
      rintro e w9 ⟨rfl, hb9⟩
      exact hK _ hb9
     rfl
     try go_frame
     refine wkU (fun u hR K hK => ?_) (fun o5 => ?_)
     ·clear hR
      have zw := u.size
      go_simp
      exact hK _ _ bel ⟨_, rfl, zw, heap_new rfl⟩
     try go_frame
     refine wk_nil (fun u hR => ?_)
     obtain ⟨gl, rfl, hgl, Hgl⟩ : IsBx (wq.alloc (.cells #[.int .i64 Q.1, .int .i64 Q.2.1, .int .i64 Q.2.2.1, .int .i64 Q.2.2.2] 69)).heap.size 124 #[.int .i64 0, .int .i64 0, .int .i64 0] o5 u.val := hR 5 (by simp)
     have hbl := u.below
     clear hR
     generalize u.val = wl at *
     clear u
     simp only [oas]
     have g0 : wl.cell? ⟨gl, 0, none⟩ = some (.int .i64 0) := (blk_cell Hgl 0).trans rfl
     have g1 : wl.cell? ⟨gl, 1, none⟩ = some (.int .i64 0) := (blk_cell Hgl 1).trans rfl
     have g2 : wl.cell? ⟨gl, 2, none⟩ = some (.int .i64 0) := (blk_cell Hgl 2).trans rfl
     have gf := blk_free Hgl
     have Hb := Lib.hid Hgl
     have HL : Hid (crossP (nrm P) (nrm Q) = (P.2.1 * Q.2.2.1 - P.2.2.1 * Q.2.1, P.2.2.1 * Q.1 - P.1 * Q.2.2.1, P.1 * Q.2.1 - P.2.1 * Q.1)) := Lib.hid rfl
     have bL0 := cross_bd oP.2.1 oP.2.2.1 oQ.2.1 oQ.2.2.1
     have bL1 := cross_bd oP.2.2.1 oP.1 oQ.2.2.1 oQ.1
     have bL2 := cross_bd oP.1 oP.2.1 oQ.1 oQ.2.1
     clear Hgl p0 p1 p2 p3
     generalize P.2.1 * Q.2.2.1 - P.2.2.1 * Q.2.1 = l0 at *
     generalize P.2.2.1 * Q.1 - P.1 * Q.2.2.1 = l1 at *
     generalize P.1 * Q.2.1 - P.2.1 * Q.1 = l2 at *
     try go_frame
     iterate 1 (refine wpList_step (fun K hK => ?_); go_simp; refine hK _ _ ?_; clear hK K)
     refine NoPanic.normal ?_
     have hv := equalIn_vec l0 l1 l2 0 0 0
     obtain ⟨wm, Hwm⟩ : ∃ wm, Hid (((wl.setCell ⟨gl, 0, none⟩ (.int .i64 l0)).setCell ⟨gl, 1, none⟩ (.int .i64 l1)).setCell ⟨gl, 2, none⟩ (.int .i64 l2) = wm) := ⟨_, Lib.hid rfl⟩
     have hbm : Below (wq.alloc (.cells #[.int .i64 Q.1, .int .i64 Q.2.1, .int .i64 Q.2.2.1, .int .i64 Q.2.2.2] 69)).heap.size (wq.alloc (.cells #[.int .i64 Q.1, .int .i64 Q.2.1, .int .i64 Q.2.2.1, .int .i64 Q.2.2.2] 69)) wm := by
      rw [← Hwm.out]; exact ((hbl.setCell hgl _).setCell hgl _).setCell hgl _
     have Hst1 : Hid (BSt w (.slice (some ⟨b, off, none⟩) n cc) (raw ps k ++ rawI ps k j) wm) := Lib.hid ((Hst.out.keep bel).keep hbm)
     have HP1 : Hid (wm.heap[wo.heap.size]? = some (.cells #[.int .i64 P.1, .int .i64 P.2.1, .int .i64 P.2.2.1, .int .i64 P.2.2.2] 69 (0, 0))) := Lib.hid ((hbm.block _ (by simp; omega)).trans ((heap_old zq).trans HPb.out))
     have HQ1 : Hid (wm.heap[wq.heap.size]? = some (.cells #[.int .i64 Q.1, .int .i64 Q.2.1, .int .i64 Q.2.2.1, .int .i64 Q.2.2.2] 69 (0, 0))) := Lib.hid ((hbm.block _ (by simp)).trans (heap_new rfl))
     have Hl : Hid (wm.heap[gl]? = some (.cells #[.int .i64 l0, .int .i64 l1, .int .i64 l2] 124 (0, 0))) := by rw [← Hwm.out]; exact Lib.hid (blk_set (blk_set (blk_set Hb.out 0 _) 1 _) 2 _)
     have zg : wq.heap.size + 1 ≤ gl := by simpa using hgl
     rw [Hwm.out]
     clear Hst hbl hbm g0 g1 g2 gf Hb Hwm HPb hgl
     have e0 : wm.cell? ⟨gl, 0, none⟩ = some (.int .i64 l0) := (blk_cell Hl.out 0).trans rfl
     have e1 : wm.cell? ⟨gl, 1, none⟩ = some (.int .i64 l1) := (blk_cell Hl.out 1).trans rfl
     have e2 : wm.cell? ⟨gl, 2, none⟩ = some (.int .i64 l2) := (blk_cell Hl.out 2).trans rfl
     have Hsum := Lib.hid (rawI_succ ps k j)
     by_cases hz : l0 = 0 ∧ l1 = 0 ∧ l2 = 0
     ·have hb0 : (l0 == 0 && l1 == 0 && l2 == 0) = true := by simp [hz]
      have Hz := Lib.hid hz
      rw [hb0] at hv
      clear hz hb0
      go_wp2
      go_roundw
      case rel => exact ⟨j + 1, by omega, by go_num, by rw [Hsum.out, rawK_flat ps k j j (by rw [HP.out, HQ.out, HL.out, Hz.out.1, Hz.out.2.1, Hz.out.2.2])]; simpa using Hst1.out, HP1⟩
      case measure => simp [intOf]; omega
     ·have hb0 : (l0 == 0 && l1 == 0 && l2 == 0) = false := by rw [Bool.eq_false_iff]; simp; omega
      rw [hb0] at hv
      clear hb0
      go_wp2
      go_loopw [42] (fun i wr => ∃ m : Nat, m ≤ j ∧ i = .int .i64 m ∧ BSt w (.slice (some ⟨b, off, none⟩) n cc) (raw ps k ++ rawI ps k j ++ rawK ps k j m) wr ∧ Hid (wr.heap[wo.heap.size]? = some (.cells #[.int .i64 P.1, .int .i64 P.2.1, .int .i64 P.2.2.1, .int .i64 P.2.2.2] 69 (0, 0))) ∧ Hid (wr.heap[wq.heap.size]? = some (.cells #[.int .i64 Q.1, .int .i64 Q.2.1, .int .i64 Q.2.2.1, .int .i64 Q.2.2.2] 69 (0, 0))) ∧ Hid (wr.heap[gl]? = some (.cells #[.int .i64 l0, .int .i64 l1, .int .i64 l2] 124 (0, 0)))) (fun i _ => j - (intOf i).toNat)
      case atStart => exact ⟨0, by omega, rfl, by simpa [rawK_zero] using Hst1.out, HP1, HQ1, Hl⟩
      case round =>
       clear e0 e1 e2 Hst1 HP1 HQ1 Hl hv hz
       obtain ⟨m, hm, rfl, hst, HP1, HQ1, Hl⟩ := hrel
       by_cases hlt3 : m < j
       ·obtain ⟨c0, c1, c2, c3⟩ := (HI.out.below hst.1) m (by omega)
        have HokR := Lib.hid (getP_ok HPS.out m (by omega))
        rw [getP_eq m (by omega)] at c0 c1 c2 c3
        obtain ⟨R, HR⟩ : ∃ R, Hid (getP ps m = R) := ⟨_, Lib.hid rfl⟩
        rw [HR.out] at c0 c1 c2 c3 HokR
        have Hst := Lib.hid hst
        clear hst
        obtain ⟨wz, rfl⟩ : ∃ wz : World, wz = wr := ⟨_, rfl⟩
        have zP := blk_lt HP1.out
        have zQ := blk_lt HQ1.out
        have zL := blk_lt Hl.out
        have e0 : wz.cell? ⟨gl, 0, none⟩ = some (.int .i64 l0) := (blk_cell Hl.out 0).trans rfl
        have e1 : wz.cell? ⟨gl, 1, none⟩ = some (.int .i64 l1) := (blk_cell Hl.out 1).trans rfl
        have e2 : wz.cell? ⟨gl, 2, none⟩ = some (.int .i64 l2) := (blk_cell Hl.out 2).trans rfl
        have oR := HokR.out
        simp only [okPl] at oR
        go_wp2
        clear c0 c1 c2 c3
        have zL1 : gl < wz.heap.size + 1 := by omega
        refine wqb ?_
        repeat (first | go_big_quiet_step ((first | (go_at_call 139; exact quietB_ret (normal_any _ _ _ _ _)) | (go_at_call 142; exact quietB_ret (dot_any _ _ _ _ _ _ _ (by omega) (by omega) (by omega) (by omega) (by omega) (by omega))))) | quiet_step ((first | (go_at_call 139; exact quietB_ret (normal_any _ _ _ _ _)) | (go_at_call 142; exact quietB_ret (dot_any _ _ _ _ _ _ _ (by omega) (by omega) (by omega) (by omega) (by omega) (by omega))))))
        refine wqn fun u => ?_
        have Hden : Hid (denP P Q R = l0 * R.1 + l1 * R.2.1 + l2 * R.2.2.1) := Lib.hid (by show dotP (crossP (nrm P) (nrm Q)) (nrm R) = _; rw [HL.out]; rfl)
        have bden := den_bd P Q R Hok.out HokQ.out HokR.out
        rw [Hden.out] at bden
        have Hst1 : Hid (BSt w (.slice (some ⟨b, off, none⟩) n cc) (raw ps k ++ rawI ps k j ++ rawK ps k j m) u.val) := Lib.hid (Hst.out.keep (below_trans bel u.below))
        have HP2 : Hid (u.val.heap[wo.heap.size]? = some (.cells #[.int .i64 P.1, .int .i64 P.2.1, .int .i64 P.2.2.1, .int .i64 P.2.2.2] 69 (0, 0))) := Lib.hid ((u.below.block _ (by simp; omega)).trans ((heap_old zP).trans HP1.out))
        have HQ2 : Hid (u.val.heap[wq.heap.size]? = some (.cells #[.int .i64 Q.1, .int .i64 Q.2.1, .int .i64 Q.2.2.1, .int .i64 Q.2.2.2] 69 (0, 0))) := Lib.hid ((u.below.block _ (by simp; omega)).trans ((heap_old zQ).trans HQ1.out))
        have Hl2 : Hid (u.val.heap[gl]? = some (.cells #[.int .i64 l0, .int .i64 l1, .int .i64 l2] 124 (0, 0))) := Lib.hid ((u.below.block _ (by simp; omega)).trans ((heap_old zL).trans Hl.out))
        have HR2 : Hid (u.val.heap[wz.heap.size]? = some (.cells #[.int .i64 R.1, .int .i64 R.2.1, .int .i64 R.2.2.1, .int .i64 R.2.2.2] 69 (0, 0))) := Lib.hid ((u.below.block _ (by simp)).trans (heap_new rfl))
        have Hraw := Lib.hid (rawK_succ ps k j m)
        have Hr1 : Hid (raw1 ps k j m = if denP P Q R = 0 then [] else if allowedB ps (meetP P Q R (denP P Q R)) then [meetP P Q R (denP P Q R)] else []) := Lib.hid (by unfold raw1; rw [HP.out, HQ.out, HR.out])
        clear e0 e1 e2 Hst HP1 HQ1 Hl oR
        rw [Hden.out] at Hr1
        generalize l0 * R.1 + l1 * R.2.1 + l2 * R.2.2.1 = den at *
        by_cases hd0 : den = 0
        ·have Hd0 := Lib.hid hd0
         have hdb : (den != 0) = false := by simp [hd0]
         clear hd0
         go_wp2
         go_roundw
         case rel => exact ⟨m + 1, by omega, by go_num, by rw [Hraw.out, Hr1.out, if_pos Hd0.out]; simpa using Hst1.out, HP2, HQ2, Hl2⟩
         case measure => simp [intOf]; omega
        ·have hdb : (den != 0) = true := by simpa using hd0
         have p0 : u.val.cell? ⟨wo.heap.size, 0, none⟩ = some (.int .i64 P.1) := (blk_cell HP2.out 0).trans rfl
         have p1 : u.val.cell? ⟨wo.heap.size, 1, none⟩ = some (.int .i64 P.2.1) := (blk_cell HP2.out 1).trans rfl
         have p2 : u.val.cell? ⟨wo.heap.size, 2, none⟩ = some (.int .i64 P.2.2.1) := (blk_cell HP2.out 2).trans rfl
         have p3 : u.val.cell? ⟨wo.heap.size, 3, none⟩ = some (.int .i64 P.2.2.2) := (blk_cell HP2.out 3).trans rfl
         have q0 : u.val.cell? ⟨wq.heap.size, 0, none⟩ = some (.int .i64 Q.1) := (blk_cell HQ2.out 0).trans rfl
         have q1 : u.val.cell? ⟨wq.heap.size, 1, none⟩ = some (.int .i64 Q.2.1) := (blk_cell HQ2.out 1).trans rfl
         have q2 : u.val.cell? ⟨wq.heap.size, 2, none⟩ = some (.int .i64 Q.2.2.1) := (blk_cell HQ2.out 2).trans rfl
         have q3 : u.val.cell? ⟨wq.heap.size, 3, none⟩ = some (.int .i64 Q.2.2.2) := (blk_cell HQ2.out 3).trans rfl
         have r0 : u.val.cell? ⟨wz.heap.size, 0, none⟩ = some (.int .i64 R.1) := (blk_cell HR2.out 0).trans rfl
         have r1 : u.val.cell? ⟨wz.heap.size, 1, none⟩ = some (.int .i64 R.2.1) := (blk_cell HR2.out 1).trans rfl
         have r2 : u.val.cell? ⟨wz.heap.size, 2, none⟩ = some (.int .i64 R.2.2.1) := (blk_cell HR2.out 2).trans rfl
         have r3 : u.val.cell? ⟨wz.heap.size, 3, none⟩ = some (.int .i64 R.2.2.2) := (blk_cell HR2.out 3).trans rfl
         have bl : (raw ps k ++ rawI ps k j ++ rawK ps k j m).length ≤ 1000000 := by
          have := raw_len ps k (by omega); have := rawI_len ps k j (by omega); have := rawK_len ps k j m
          simp only [List.length_append]; omega
         go_wp2_with fail
         refine (meeting_any P Q R den _ Hok.out HokQ.out HokR.out (by omega) hd0).mono ?_
         rintro e wy ⟨rfl, hby⟩
         clear p0 p1 p2 p3 q0 q1 q2 q3 r0 r1 r2 r3
         go_wp2_with fail
         refine (bst_add ps _ _ _ w wy HPS.out (meetP_ok P Q R den Hok.out HokQ.out HokR.out (by omega) hd0) hl bl HPV.out (Hst1.out.keep hby)).mono ?_
         rintro e wx ⟨rfl, hst2, hsz2, hkeep⟩
         have Hst2 := Lib.hid hst2
         have Hk2 := Lib.hid hkeep
         clear hst2 hkeep
         go_wp2
         go_roundw
         case rel => exact ⟨m + 1, by omega, by go_num, by rw [Hraw.out, Hr1.out, if_neg hd0]; simpa using Hst2.out, Lib.hid (Hk2.out _ _ _ (by omega) (by decide) ((hby.block _ (blk_lt HP2.out)).trans HP2.out)), Lib.hid (Hk2.out _ _ _ (by omega) (by decide) ((hby.block _ (blk_lt HQ2.out)).trans HQ2.out)), Lib.hid (Hk2.out _ _ _ (by omega) (by decide) ((hby.block _ (blk_lt Hl2.out)).trans Hl2.out))⟩
         case measure => simp [intOf]; omega
       ·go_wp2
        go_roundw
        case rel => exact ⟨j + 1, by omega, by go_num, by rw [Hsum.out]; obtain rfl : m = j := (by omega); simpa using hst, HP1⟩
        case measure => simp [intOf]; omega
    ·obtain rfl : j = k := by omega
     have Hsum := Lib.hid (raw_succ ps j)
     have Hst := Lib.hid hst
     clear hst
     go_wp2
     go_roundw
     case rel => exact ⟨j + 1, by omega, by go_num, by rw [Hsum.out]; exact Hst.out⟩
     case measure => simp [intOf]; omega
  ·obtain rfl : k = n := by omega
   obtain ⟨h1, h2, cv, h3, h4⟩ := hst
   have k1 : wr.cell? ⟨w.heap.size + 1, 1, none⟩ = some cv := (blk_cell h3 1).trans rfl
   have z1 := blk_lt h3
   have Hst := Lib.hid (And.intro h1 (And.intro h2 (And.intro h3 h4)))
   clear hx h1 h2 h3 h4
   subst hn
   have Hrn := Lib.hid (raw_nrm ps HPS.out ps.length (Nat.le_refl _))
   have Hrl := Lib.hid (raw_len ps ps.length hl)
   go_wp2_with fail
   refine (sort_any (raw ps ps.length) Hrn.out _ _ cv wr rfl (by have := Hrl.out; omega) Hst.out.2.2.2).mono ?_
   rintro e w1 ⟨rfl, hown1, hg1⟩
   have hne1 : some (w.heap.size + 1) ≠ cv.ownBlock := fun e => own_blk_ne Hst.out.2.2.2 Hst.out.2.2.1 (by decide) e.symm
   have hne0 : some w.heap.size ≠ cv.ownBlock := fun e => own_blk_ne Hst.out.2.2.2 Hst.out.2.1 (by decide) e.symm
   have b1 : w1.heap[w.heap.size + 1]? = some (.cells #[.slice a ps.length cc, cv] 160 (0, 0)) := (hg1.block _ z1 hne1).trans Hst.out.2.2.1
   have b0 : w1.heap[w.heap.size]? = some (.cells #[.slice none 0 0, .slice none 0 0] 160 (0, 0)) := (hg1.block _ (blk_lt Hst.out.2.1) hne0).trans Hst.out.2.1
   have hbw1 : Below w.heap.size w w1 := Hst.out.1.grown hg1 Hst.out.1.size (fun j hj => by obtain ⟨h, _⟩ := Hst.out.2.2.2.lt j hj; omega)
   have k2 : w1.cell? ⟨w.heap.size + 1, 1, none⟩ = some cv := (blk_cell b1 1).trans rfl
   have Ho1 := Lib.hid hown1
   have Hb0 := Lib.hid b0
   have Hb1 := Lib.hid b1
   clear Hst k1 z1 hg1 hown1 b0 b1 hne0 hne1
   go_wp2_with fail
   refine (compact_any (sortP (raw ps ps.length)) _ _ cv w1 (sortP_len _) (by have := Hrl.out; omega) Ho1.out).mono ?_
   rintro e w2 ⟨cv', rfl, hg2, ⟨a', m', c', rfl⟩, hown2⟩
   have hne1 : some (w.heap.size + 1) ≠ cv.ownBlock := fun e => own_blk_ne Ho1.out Hb1.out (by decide) e.symm
   have hne0 : some w.heap.size ≠ cv.ownBlock := fun e => own_blk_ne Ho1.out Hb0.out (by decide) e.symm
   have b1 : w2.heap[w.heap.size + 1]? = some (.cells #[.slice a ps.length cc, cv] 160 (0, 0)) := (hg2.block _ (blk_lt Hb1.out) hne1).trans Hb1.out
   have b0 : w2.heap[w.heap.size]? = some (.cells #[.slice none 0 0, .slice none 0 0] 160 (0, 0)) := (hg2.block _ (blk_lt Hb0.out) hne0).trans Hb0.out
   have hbw2 : Below w.heap.size w w2 := hbw1.grown hg2 hbw1.size (fun j hj => by obtain ⟨h, _⟩ := Ho1.out.lt j hj; omega)
   have k0 : w2.cell? ⟨w.heap.size + 1, 0, none⟩ = some (.slice a ps.length cc) := (blk_cell b1 0).trans rfl
   have k3 : w2.cell? ⟨w.heap.size + 1, 1, none⟩ = some cv := (blk_cell b1 1).trans rfl
   have f1 := blk_free b1
   have r0 : w2.cell? ⟨w.heap.size, 0, none⟩ = some (.slice none 0 0) := (blk_cell b0 0).trans rfl
   have r1 : w2.cell? ⟨w.heap.size, 1, none⟩ = some (.slice none 0 0) := (blk_cell b0 1).trans rfl
   have f0 := blk_free b0
   rw [← Hco.out] at hown2
   have Ho2 := Lib.hid hown2
   have hfar1 := Lib.hid (fun e => own_blk_ne hown2 b1 (by decide) e.symm : some (w.heap.size + 1) ≠ (Value.slice a' m' c').ownBlock)
   have hfar0 := Lib.hid (fun e => own_blk_ne hown2 b0 (by decide) e.symm : some w.heap.size ≠ (Value.slice a' m' c').ownBlock)
   clear hown2 b0 b1 hg2 Ho1 Hb0 Hb1 k2 hbw1 hne0 hne1
   go_wp2
   refine bodyPost_ret (v := .agg #[.slice a ps.length cc, .slice a' m' c']) (by simp [results, Tryz.results158, go_sem, r0, r1]) rfl ⟨_, rfl, ?_, ?_⟩
   ·exact ((hbw2.setCell (by simp) _).setCell (by simp) _).setCell (by simp) _
   ·exact own_setCell_far (own_setCell_far (own_setCell_far Ho2.out _ _ hfar1.out) _ _ hfar0.out) _ _ hfar0.out
end
section
open Go.RowKit Go.Shelf Go.Sort Go.Lib
attribute [local go_sem] Ext.cell Ext.frozen
def innerB (cs : List Q4) (p : Q4) : Bool := cs.any fun c => decide (sd p c < 0)
def solidB (ps cs : List Q4) : Bool := ps.all (innerB cs) && decide (0 < ps.length)
theorem solidly_closure (p c : Q4) (b : Nat) (w : World) (hp : okPl p) (hc : okCo c) (h0 : w.cell? ⟨b, 0, none⟩ = some (.int .i64 p.1)) (h1 : w.cell? ⟨b, 1, none⟩ = some (.int .i64 p.2.1)) (h2 : w.cell? ⟨b, 2, none⟩ = some (.int .i64 p.2.2.1)) (h3 : w.cell? ⟨b, 3, none⟩ = some (.int .i64 p.2.2.2)) :
  Calls Tryz.prog 183 #[v4 c, .pointer (some ⟨b, 0, none⟩)] w (Ret w (.bool (decide (sd p c < 0)))) := by
 have hs := fun W => Lib.hid (side_q p c W hp hc)
 have hlt := World.block_lt_of_cell? w _ h0
 go_enter Tryz.func183, Tryz.ntmps183
 go_wp2_with fail
 refine ((hs _).out).mono ?_
 rintro e w1 ⟨rfl, hb1⟩
 go_wp2
 go_ret
 exact ⟨rfl, below_trans bel hb1⟩
theorem eg_solid1 : ∀ args w, (callFunc 183 args).run Tryz.prog w = .ok (.enter 183 args) w := enters_of Tryz.func183 (by kernel_rfl) rfl
theorem solid_pred (p c : Q4) (b : Nat) (w : World) (hp : okPl p) (hc : okCo c) (hb : w.heap[b]? = some (.cells #[.int .i64 p.1, .int .i64 p.2.1, .int .i64 p.2.2.1, .int .i64 p.2.2.2] 69 (0, 0))) :
  PredIn Tryz.prog 183 #[.pointer (some ⟨b, 0, none⟩)] w (v4 c) (decide (sd p c < 0)) :=
 fun _ hw => solidly_closure p c b _ hp hc (below_cell hw ((blk_cell hb 0).trans rfl)) (below_cell hw ((blk_cell hb 1).trans rfl)) (below_cell hw ((blk_cell hb 2).trans rfl)) (below_cell hw ((blk_cell hb 3).trans rfl))
theorem solidly_any (ps cs : List Q4) (pv cv : Value) (w : World) (hps : ∀ p ∈ ps, okPl p) (hcs : ∀ c ∈ cs, okCo c) (hl : ps.length ≤ 1000000) (hlc : cs.length ≤ 1000000) (hpv : Q4s w pv ps) (hcv : Q4s w cv cs) :
  Calls Tryz.prog 159 #[.agg #[pv, cv]] w (Ret w (.bool (solidB ps cs))) := by
 obtain ⟨a, n, cc, rfl, hn, hnc, hx⟩ := hpv
 obtain ⟨a', n', cc', rfl, hn', hnc', hx'⟩ := hcv
 have HCV : Hid (Q4s w (.slice a' n' cc') cs) := Lib.hid ⟨a', n', cc', rfl, hn', hnc', hx'⟩
 have HPS := Lib.hid hps
 have HCS := Lib.hid hcs
 have Hyes : Hid ((∀ i (h : i < ps.length), innerB cs ps[i] = true) → solidB ps cs = decide (0 < ps.length)) := Lib.hid (fun h => by
  have : ps.all (innerB cs) = true := by rw [List.all_eq_true]; intro x hx; obtain ⟨i, hi, rfl⟩ := List.getElem_of_mem hx; exact h i hi
  simp [solidB, this])
 have Hno : Hid (∀ i (h : i < ps.length), innerB cs ps[i] = false → solidB ps cs = false) := Lib.hid (fun i hi h => by
  have : ps.all (innerB cs) = false := by rw [List.all_eq_false]; exact ⟨_, List.getElem_mem hi, by simp [h]⟩
  simp [solidB, this])
 clear hps hcs hx'
 go_enter Tryz.func159, Tryz.ntmps159
 go_wp2
 go_loopw [8] (fun i wr => ∃ k : Nat, k ≤ n ∧ i = .int .i64 k ∧ Below w.heap.size w wr ∧ Hid (wr.heap[w.heap.size]? = some (.cells #[.slice a n cc, .slice a' n' cc'] 160 (0, 0))) ∧ Hid (∀ i (h : i < ps.length), i < k → innerB cs ps[i] = true)) (fun i _ => n - (intOf i).toNat)
 case atStart => exact ⟨0, by omega, rfl, bel, Lib.hid (heap_new rfl), Lib.hid (fun i _ h => by omega)⟩
 case round =>
  obtain ⟨k, hk, rfl, hb, HB, Hz⟩ := hrel
  have zB := blk_lt HB.out
  by_cases hlt : k < n
  ·obtain ⟨b, off, rfl, hi⟩ := hx (by omega)
   obtain ⟨c0, c1, c2, c3⟩ := (hi.below hb) k (by omega)
   have Hok := Lib.hid (HPS.out (ps[k]) (by simp))
   have Hnk := Lib.hid (Hno.out k (by omega))
   obtain ⟨p, Hp⟩ : ∃ p, Hid (ps[k] = p) := ⟨_, Lib.hid rfl⟩
   rw [Hp.out] at c0 c1 c2 c3 Hok Hnk
   have k1 : wr.cell? ⟨w.heap.size, 1, none⟩ = some (.slice a' n' cc') := (blk_cell HB.out 1).trans rfl
   obtain ⟨W, HW⟩ : ∃ W, Hid (W = wr.alloc (.cells #[.int .i64 p.1, .int .i64 p.2.1, .int .i64 p.2.2.1, .int .i64 p.2.2.2] 69)) := ⟨_, Lib.hid rfl⟩
   have hbW : Below wr.heap.size wr W := by rw [HW.out]; exact bel
   have hblk : W.heap[wr.heap.size]? = some (.cells #[.int .i64 p.1, .int .i64 p.2.1, .int .i64 p.2.2.1, .int .i64 p.2.2.2] 69 (0, 0)) := by rw [HW.out]; exact heap_new rfl
   have hcon := containsFunc_corner (.slice a' n' cc') cs (fun c => decide (sd p c < 0)) _ _ W ((HCV.out.below hb).below hbW) (by omega) eg_solid1 (fun c hc => solid_pred p c _ W Hok.out (HCS.out c hc) hblk)
   have hin : (cs.any fun c => decide (sd p c < 0)) = innerB cs p := rfl
   rw [hin, HW.out] at hcon
   have Hcon := Lib.hid hcon
   clear hcon hin hblk hbW hx hi
   cases hib : innerB cs p with
   | true =>
    have Hib := Lib.hid hib
    rw [hib] at Hcon
    clear hib HW
    go_wp2_with fail
    refine (Hcon.out).mono ?_
    rintro e w1 ⟨rfl, hb1⟩
    go_wp2
    go_roundw
    case rel => exact ⟨k + 1, by omega, by go_num, below_trans hb (below_trans bel hb1), Lib.hid ((hb1.block _ (by simp; omega)).trans ((heap_old zB).trans HB.out)), Lib.hid (fun i hi hik => by
     by_cases e : i = k
     ·subst e; rw [Hp.out]; exact Hib.out
     ·exact Hz.out i hi (by omega))⟩
    case measure => simp [intOf]; omega
   | false =>
    have Hib := Lib.hid hib
    rw [hib] at Hcon
    clear hib HW
    go_wp2_with fail
    refine (Hcon.out).mono ?_
    rintro e w1 ⟨rfl, hb1⟩
    go_wp2
    go_ret
    exact ⟨ret_bool (Hnk.out Hib.out).symm, below_trans hb (below_trans bel hb1)⟩
  ·have Hy := Lib.hid (Hyes.out (fun i hi => Hz.out i hi (by omega)))
   have k0 : wr.cell? ⟨w.heap.size, 0, none⟩ = some (.slice a n cc) := (blk_cell HB.out 0).trans rfl
   clear hx
   go_wp2
   go_ret
   exact ⟨ret_bool (by rw [Hy.out, hn]), hb⟩
end
end Go.Proofs.YtokhkhnofkcalaaGreatDoor
