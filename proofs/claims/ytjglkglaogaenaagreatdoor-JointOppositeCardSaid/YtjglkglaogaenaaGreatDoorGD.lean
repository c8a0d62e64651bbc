/- texts of mine, merged: L10, B1. -/
import Derived.Test.YtjglkglaogaenaaGreatDoorGC
/- solid.meeting: the point of three planes. -/
namespace Go.Proofs.YtjglkglaogaenaaGreatDoor
section
open Go.RowKit Go.Shelf
attribute [local go_sem] Ext.cell Ext.frozen
abbrev Q3 := Int × Int × Int
def crossP (u v : Q3) : Q3 := (u.2.1 * v.2.2 - u.2.2 * v.2.1, u.2.2 * v.1 - u.1 * v.2.2, u.1 * v.2.1 - u.2.1 * v.1)
def dotP (u v : Q3) : Int := u.1 * v.1 + u.2.1 * v.2.1 + u.2.2 * v.2.2
def nrm (p : Q4) : Q3 := (p.1, p.2.1, p.2.2.1)
theorem blk_cell {w : World} {g : Nat} {cs : Array Value} {t : TypeId} (h : w.heap[g]? = some (.cells cs t (0, 0))) (i : Nat) : w.cell? ⟨g, i, none⟩ = cs[i]? := cell_of_row w g i cs t (0, 0) h
theorem blk_free {w : World} {g : Nat} {cs : Array Value} {t : TypeId} (h : w.heap[g]? = some (.cells cs t (0, 0))) (i : Nat) : w.frozen? ⟨g, i, none⟩ = false := by simp [World.frozen?, h]
theorem blk_lt {w : World} {g : Nat} {o : Obj} (h : w.heap[g]? = some o) : g < w.heap.size := (Array.getElem?_eq_some_iff.1 h).1
theorem blk3 {w : World} {g : Nat} {x0 x1 x2 : Value} {t : TypeId} (h : w.heap[g]? = some (.cells #[x0, x1, x2] t (0, 0))) : w.cell? ⟨g, 0, none⟩ = some x0 ∧ w.cell? ⟨g, 1, none⟩ = some x1 ∧ w.cell? ⟨g, 2, none⟩ = some x2 ∧ (∀ i, w.frozen? ⟨g, i, none⟩ = false) ∧ g < w.heap.size := ⟨blk_cell h 0, blk_cell h 1, blk_cell h 2, fun i => blk_free h i, blk_lt h⟩
theorem blk5 {w : World} {g : Nat} {x0 x1 x2 x3 x4 : Value} {t : TypeId} (h : w.heap[g]? = some (.cells #[x0, x1, x2, x3, x4] t (0, 0))) : w.cell? ⟨g, 0, none⟩ = some x0 ∧ w.cell? ⟨g, 1, none⟩ = some x1 ∧ w.cell? ⟨g, 2, none⟩ = some x2 ∧ w.cell? ⟨g, 3, none⟩ = some x3 ∧ w.cell? ⟨g, 4, none⟩ = some x4 ∧ (∀ i, w.frozen? ⟨g, i, none⟩ = false) ∧ g < w.heap.size := ⟨blk_cell h 0, blk_cell h 1, blk_cell h 2, blk_cell h 3, blk_cell h 4, fun i => blk_free h i, blk_lt h⟩
theorem blk8 {w : World} {g : Nat} {x0 x1 x2 x3 x4 x5 x6 x7 : Value} {t : TypeId} (h : w.heap[g]? = some (.cells #[x0, x1, x2, x3, x4, x5, x6, x7] t (0, 0))) : w.cell? ⟨g, 0, none⟩ = some x0 ∧ w.cell? ⟨g, 1, none⟩ = some x1 ∧ w.cell? ⟨g, 2, none⟩ = some x2 ∧ w.cell? ⟨g, 3, none⟩ = some x3 ∧ w.cell? ⟨g, 4, none⟩ = some x4 ∧ w.cell? ⟨g, 5, none⟩ = some x5 ∧ w.cell? ⟨g, 6, none⟩ = some x6 ∧ w.cell? ⟨g, 7, none⟩ = some x7 ∧ (∀ i, w.frozen? ⟨g, i, none⟩ = false) ∧ g < w.heap.size := ⟨blk_cell h 0, blk_cell h 1, blk_cell h 2, blk_cell h 3, blk_cell h 4, blk_cell h 5, blk_cell h 6, blk_cell h 7, fun i => blk_free h i, blk_lt h⟩
theorem idxV_0 (a b c d e f g h i : Value) (w : World) : (Instr.index 291 (.agg #[a, b, c, d, e, f, g, h, i]) (.int .i64 0)).run Tryz.prog w = .ok (.agg #[a, b, c]) w := by kernel_rfl
theorem idxV_1 (a b c d e f g h i : Value) (w : World) : (Instr.index 291 (.agg #[a, b, c, d, e, f, g, h, i]) (.int .i64 1)).run Tryz.prog w = .ok (.agg #[d, e, f]) w := by kernel_rfl
theorem idxV_2 (a b c d e f g h i : Value) (w : World) : (Instr.index 291 (.agg #[a, b, c, d, e, f, g, h, i]) (.int .i64 2)).run Tryz.prog w = .ok (.agg #[g, h, i]) w := by kernel_rfl
theorem cross_bd {a b x y : Int} (ha : -8 ≤ a ∧ a ≤ 8) (hb : -8 ≤ b ∧ b ≤ 8) (hx : -8 ≤ x ∧ x ≤ 8) (hy : -8 ≤ y ∧ y ≤ 8) : -128 ≤ a * y - b * x ∧ a * y - b * x ≤ 128 := by
  have h1 := mul_bd ha.1 ha.2 hy.1 hy.2
  have h2 := mul_bd hb.1 hb.2 hx.1 hx.2
  omega
/-- The sum of three vectors by three numbers. -/
def comb (d0 d1 d2 : Int) (a b c : Q3) : Q3 := (d0 * a.1 + d1 * b.1 + d2 * c.1, d0 * a.2.1 + d1 * b.2.1 + d2 * c.2.1, d0 * a.2.2 + d1 * b.2.2 + d2 * c.2.2)
/-- The point of three planes. -/
def meetP (p q r : Q4) (den : Int) : Q4 :=
  let v := comb p.2.2.2 q.2.2.2 r.2.2.2 (crossP (nrm q) (nrm r)) (crossP (nrm r) (nrm p)) (crossP (nrm p) (nrm q))
  ptOf v.1 v.2.1 v.2.2 den
theorem heap_new {W : World} {o : Obj} {g : Nat} (hg : g = W.heap.size) : (W.alloc o).heap[g]? = some o := by subst hg; exact heap_alloc_new W o
theorem heap_old {W : World} {o : Obj} {g : Nat} (hg : g < W.heap.size) : (W.alloc o).heap[g]? = W.heap[g]? := Below.heap_alloc W o g hg
/-- The five blocks of meeting. -/
structure S5 (N : Nat) (p q r v : Array Value) (w : World) : Prop where
  p : w.heap[N]? = some (.cells p 95 (0, 0))
  q : w.heap[N + 1]? = some (.cells q 95 (0, 0))
  r : w.heap[N + 1 + 1]? = some (.cells r 95 (0, 0))
  o : w.heap[N + 1 + 1 + 1]? = some (.cells #[.int .i64 0, .int .i64 0, .int .i64 0, .int .i64 0] 193 (0, 0))
  v : w.heap[N + 1 + 1 + 1 + 1]? = some (.cells v 169 (0, 0))
theorem S5.keep {N : Nat} {p q r v : Array Value} {w w' : World} (h : S5 N p q r v w) (hb : Below w.heap.size w w') : S5 N p q r v w' :=
  ⟨(hb.block _ (blk_lt h.p)).trans h.p, (hb.block _ (blk_lt h.q)).trans h.q, (hb.block _ (blk_lt h.r)).trans h.r, (hb.block _ (blk_lt h.o)).trans h.o, (hb.block _ (blk_lt h.v)).trans h.v⟩
theorem blk_set {w : World} {g : Nat} {cs : Array Value} {t : TypeId} (h : w.heap[g]? = some (.cells cs t (0, 0))) (i : Nat) (u : Value) : (w.setCell ⟨g, i, none⟩ u).heap[g]? = some (.cells (cs.setIfInBounds i u) t (0, 0)) := by
  simp [World.setCell, Array.getElem?_modify, h]
theorem s5_init (w : World) (p q r : Array Value) : S5 w.heap.size p q r #[.int .i64 0, .int .i64 0, .int .i64 0] (((((w.alloc (.cells p 95)).alloc (.cells q 95)).alloc (.cells r 95)).alloc (.cells #[.int .i64 0, .int .i64 0, .int .i64 0, .int .i64 0] 193)).alloc (.cells #[.int .i64 0, .int .i64 0, .int .i64 0] 169)) := by
  refine ⟨?_, ?_, ?_, ?_, ?_⟩
  · exact (heap_old (by simp <;> omega)).trans ((heap_old (by simp <;> omega)).trans ((heap_old (by simp <;> omega)).trans ((heap_old (by simp)).trans (heap_new rfl))))
  · exact (heap_old (by simp <;> omega)).trans ((heap_old (by simp <;> omega)).trans ((heap_old (by simp)).trans (heap_new (by simp))))
  · exact (heap_old (by simp <;> omega)).trans ((heap_old (by simp)).trans (heap_new (by simp)))
  · exact (heap_old (by simp)).trans (heap_new (by simp))
  · exact heap_new (by simp)
theorem S5.set {N : Nat} {p q r v : Array Value} {w : World} (h : S5 N p q r v w) (i : Nat) (u : Value) : S5 N p q r (v.setIfInBounds i u) (w.setCell ⟨N + 1 + 1 + 1 + 1, i, none⟩ u) :=
  ⟨(Below.heap_setCell _ _ _ _ (by show N ≠ N + 1 + 1 + 1 + 1; omega)).trans h.p, (Below.heap_setCell _ _ _ _ (by show N + 1 ≠ N + 1 + 1 + 1 + 1; omega)).trans h.q, (Below.heap_setCell _ _ _ _ (by show N + 1 + 1 ≠ N + 1 + 1 + 1 + 1; omega)).trans h.r, (Below.heap_setCell _ _ _ _ (by show N + 1 + 1 + 1 ≠ N + 1 + 1 + 1 + 1; omega)).trans h.o, blk_set h.v i u⟩
set_option maxRecDepth 100000 in
set_option maxHeartbeats 1000000 in
theorem meeting_any (p q r : Q4) (den : Int) (w : World) (hp : okPl p) (hq : okPl q) (hr : okPl r) (hd : -1000000 ≤ den ∧ den ≤ 1000000) (h0 : den ≠ 0) :
    Calls Tryz.prog 246 #[v4 p, v4 q, v4 r, .int .i64 den] w (Ret w (v4 (meetP p q r den))) := by
  obtain ⟨p0, p1, p2, pd⟩ := p
  obtain ⟨q0, q1, q2, qd⟩ := q
  obtain ⟨r0, r1, r2, rd⟩ := r
  simp only [okPl] at hp hq hr
  have Hm : Hid (meetP (p0, p1, p2, pd) (q0, q1, q2, qd) (r0, r1, r2, rd) den = ptOf (pd * (q1 * r2 - q2 * r1) + qd * (r1 * p2 - r2 * p1) + rd * (p1 * q2 - p2 * q1)) (pd * (q2 * r0 - q0 * r2) + qd * (r2 * p0 - r0 * p2) + rd * (p2 * q0 - p0 * q2)) (pd * (q0 * r1 - q1 * r0) + qd * (r0 * p1 - r1 * p0) + rd * (p0 * q1 - p1 * q0)) den) := Lib.hid rfl
  have b0 := cross_bd hq.2.1 hq.2.2.1 hr.2.1 hr.2.2.1
  have b1 := cross_bd hq.2.2.1 hq.1 hr.2.2.1 hr.1
  have b2 := cross_bd hq.1 hq.2.1 hr.1 hr.2.1
  have b3 := cross_bd hr.2.1 hr.2.2.1 hp.2.1 hp.2.2.1
  have b4 := cross_bd hr.2.2.1 hr.1 hp.2.2.1 hp.1
  have b5 := cross_bd hr.1 hr.2.1 hp.1 hp.2.1
  have b6 := cross_bd hp.2.1 hp.2.2.1 hq.2.1 hq.2.2.1
  have b7 := cross_bd hp.2.2.1 hp.1 hq.2.2.1 hq.1
  have b8 := cross_bd hp.1 hp.2.1 hq.1 hq.2.1
  generalize meetP (p0, p1, p2, pd) (q0, q1, q2, qd) (r0, r1, r2, rd) den = res at *
  go_enter Tryz.func246, Tryz.ntmps246
  go_wp2
  refine wp_region_quietB (by kernel_rfl) (by kernel_rfl) ?_
  repeat (first | go_big_quiet_step ((first | (go_at_call 205; exact quietB_ret (normal_any _ _ _ _ _)) | (go_at_call 230; exact quietB_ret (cross_any _ _ _ _ _ _ _ (by omega) (by omega) (by omega) (by omega) (by omega) (by omega))))) | quiet_step ((first | (go_at_call 205; exact quietB_ret (normal_any _ _ _ _ _)) | (go_at_call 230; exact quietB_ret (cross_any _ _ _ _ _ _ _ (by omega) (by omega) (by omega) (by omega) (by omega) (by omega))))))
  refine wpQuiet_nil ?_
  rintro _ ⟨u, rfl⟩
  go_wp2
  generalize q1 * r2 - q2 * r1 = n0 at *
  generalize q2 * r0 - q0 * r2 = n1 at *
  generalize q0 * r1 - q1 * r0 = n2 at *
  generalize r1 * p2 - r2 * p1 = n3 at *
  generalize r2 * p0 - r0 * p2 = n4 at *
  generalize r0 * p1 - r1 * p0 = n5 at *
  generalize p1 * q2 - p2 * q1 = n6 at *
  generalize p2 * q0 - p0 * q2 = n7 at *
  generalize p0 * q1 - p1 * q0 = n8 at *
  have D0 : -1280000000 ≤ pd * n0 ∧ pd * n0 ≤ 1280000000 := mul_bd hp.2.2.2.1 hp.2.2.2.2 b0.1 b0.2
  have D1 : -1280000000 ≤ pd * n1 ∧ pd * n1 ≤ 1280000000 := mul_bd hp.2.2.2.1 hp.2.2.2.2 b1.1 b1.2
  have D2 : -1280000000 ≤ pd * n2 ∧ pd * n2 ≤ 1280000000 := mul_bd hp.2.2.2.1 hp.2.2.2.2 b2.1 b2.2
  have D3 : -1280000000 ≤ qd * n3 ∧ qd * n3 ≤ 1280000000 := mul_bd hq.2.2.2.1 hq.2.2.2.2 b3.1 b3.2
  have D4 : -1280000000 ≤ qd * n4 ∧ qd * n4 ≤ 1280000000 := mul_bd hq.2.2.2.1 hq.2.2.2.2 b4.1 b4.2
  have D5 : -1280000000 ≤ qd * n5 ∧ qd * n5 ≤ 1280000000 := mul_bd hq.2.2.2.1 hq.2.2.2.2 b5.1 b5.2
  have D6 : -1280000000 ≤ rd * n6 ∧ rd * n6 ≤ 1280000000 := mul_bd hr.2.2.2.1 hr.2.2.2.2 b6.1 b6.2
  have D7 : -1280000000 ≤ rd * n7 ∧ rd * n7 ≤ 1280000000 := mul_bd hr.2.2.2.1 hr.2.2.2.2 b7.1 b7.2
  have D8 : -1280000000 ≤ rd * n8 ∧ rd * n8 ≤ 1280000000 := mul_bd hr.2.2.2.1 hr.2.2.2.2 b8.1 b8.2
  obtain ⟨N, HN⟩ : ∃ N, Hid (N = w.heap.size) := ⟨_, Lib.hid rfl⟩
  have H5 : Hid (S5 N #[.int .i64 p0, .int .i64 p1, .int .i64 p2, .int .i64 pd] #[.int .i64 q0, .int .i64 q1, .int .i64 q2, .int .i64 qd] #[.int .i64 r0, .int .i64 r1, .int .i64 r2, .int .i64 rd] #[.int .i64 0, .int .i64 0, .int .i64 0] u.val) := by
    refine Lib.hid (S5.keep ?_ u.below)
    rw [HN.out]
    exact s5_init _ _ _ _
  have hbu : Below N w u.val := by rw [HN.out]; exact below_trans (by (repeat (first | exact brf | assumption | refine ble ?_ | refine blx ?_ | refine bla ?_ | refine bls ?_ | refine bld ?_))) u.below
  rw [← HN.out]
  have i0 := idxV_0 (.int .i64 n0) (.int .i64 n1) (.int .i64 n2) (.int .i64 n3) (.int .i64 n4) (.int .i64 n5) (.int .i64 n6) (.int .i64 n7) (.int .i64 n8)
  have i1 := idxV_1 (.int .i64 n0) (.int .i64 n1) (.int .i64 n2) (.int .i64 n3) (.int .i64 n4) (.int .i64 n5) (.int .i64 n6) (.int .i64 n7) (.int .i64 n8)
  have i2 := idxV_2 (.int .i64 n0) (.int .i64 n1) (.int .i64 n2) (.int .i64 n3) (.int .i64 n4) (.int .i64 n5) (.int .i64 n6) (.int .i64 n7) (.int .i64 n8)
  have j0 := idx3_0 (.int .i64 pd) (.int .i64 qd) (.int .i64 rd)
  have j1 := idx3_1 (.int .i64 pd) (.int .i64 qd) (.int .i64 rd)
  have j2 := idx3_2 (.int .i64 pd) (.int .i64 qd) (.int .i64 rd)
  have nN : N ≤ w.heap.size := Nat.le_of_eq HN.out
  clear b0 b1 b2 b3 b4 b5 b6 b7 b8 hp hq hr
  go_loopw [30] (fun i wr => ∃ k : Int, 0 ≤ k ∧ k ≤ 3 ∧ i = .int .i64 k ∧ Below N w wr ∧ Hid (S5 N #[.int .i64 p0, .int .i64 p1, .int .i64 p2, .int .i64 pd] #[.int .i64 q0, .int .i64 q1, .int .i64 q2, .int .i64 qd] #[.int .i64 r0, .int .i64 r1, .int .i64 r2, .int .i64 rd] #[.int .i64 (if k ≤ 0 then 0 else if k ≤ 1 then pd * n0 else if k ≤ 2 then pd * n0 + qd * n3 else pd * n0 + qd * n3 + rd * n6), .int .i64 (if k ≤ 0 then 0 else if k ≤ 1 then pd * n1 else if k ≤ 2 then pd * n1 + qd * n4 else pd * n1 + qd * n4 + rd * n7), .int .i64 (if k ≤ 0 then 0 else if k ≤ 1 then pd * n2 else if k ≤ 2 then pd * n2 + qd * n5 else pd * n2 + qd * n5 + rd * n8)] wr)) (fun i _ => 3 - (intOf i).toNat)
  case atStart => exact ⟨0, by omega, by omega, rfl, hbu, H5⟩
  case round =>
    clear H5 hbu
    obtain ⟨k, hk0, hk, rfl, hb, H5⟩ := hrel
    obtain ⟨wo, rfl⟩ : ∃ wo : World, wo = wr := ⟨_, rfl⟩
    have z4 := blk_lt H5.out.v
    rcases (by omega : k = 0 ∨ k = 1 ∨ k = 2 ∨ k = 3) with rfl | rfl | rfl | rfl
    · have a0 : wo.cell? ⟨N, 3, none⟩ = some (.int .i64 pd) := (blk_cell H5.out.p 3).trans rfl
      have a1 : wo.cell? ⟨N + 1, 3, none⟩ = some (.int .i64 qd) := (blk_cell H5.out.q 3).trans rfl
      have a2 : wo.cell? ⟨N + 1 + 1, 3, none⟩ = some (.int .i64 rd) := (blk_cell H5.out.r 3).trans rfl
      have zA : N < wo.heap.size := by omega
      have zB : N + 1 < wo.heap.size := by omega
      have zC : N + 1 + 1 < wo.heap.size := by omega
      go_wp2
      clear a0 a1 a2 zA zB zC
      go_loopw [43] (fun i wr => ∃ k : Int, 0 ≤ k ∧ k ≤ 3 ∧ i = .int .i64 k ∧ Below N w wr ∧ Hid (S5 N #[.int .i64 p0, .int .i64 p1, .int .i64 p2, .int .i64 pd] #[.int .i64 q0, .int .i64 q1, .int .i64 q2, .int .i64 qd] #[.int .i64 r0, .int .i64 r1, .int .i64 r2, .int .i64 rd] #[.int .i64 (if k ≤ 0 then 0 else pd * n0), .int .i64 (if k ≤ 1 then 0 else pd * n1), .int .i64 (if k ≤ 2 then 0 else pd * n2)] wr) ∧ Hid (wr.heap[wo.heap.size]? = some (.cells #[.int .i64 n0, .int .i64 n1, .int .i64 n2] 169 (0, 0))) ∧ wo.heap.size + 1 ≤ wr.heap.size) (fun i _ => 3 - (intOf i).toNat)
      case atStart => exact ⟨0, by omega, by omega, rfl, hb.alloc (by omega) _, Lib.hid (H5.out.keep (by (repeat (first | exact brf | assumption | refine ble ?_ | refine blx ?_ | refine bla ?_ | refine bls ?_ | refine bld ?_)))), Lib.hid (heap_alloc_new wo _), by simp⟩
      case round =>
        clear hb H5
        obtain ⟨k, hk0, hk, rfl, hb, H5, Hx, hsz⟩ := hrel
        have z4 := blk_lt H5.out.v
        have z5 : wo.heap.size < wr.heap.size := by omega
        rcases (by omega : k = 0 ∨ k = 1 ∨ k = 2 ∨ k = 3) with rfl | rfl | rfl | rfl
        · have v0 : wr.cell? ⟨N + 1 + 1 + 1 + 1, 0, none⟩ = some (.int .i64 (0)) := (blk_cell H5.out.v 0).trans rfl
          have y0 : wr.cell? ⟨wo.heap.size, 0, none⟩ = some (.int .i64 n0) := (blk_cell Hx.out 0).trans rfl
          have fz := blk_free H5.out.v 0
          go_wp2
          refine wp_region_tailB 9 (by kernel_rfl) (by kernel_rfl) ?_
          simp only [List.take_succ_cons, List.take_zero, List.drop_succ_cons, List.drop_zero]
          repeat (first | go_big_quiet_step (fail) | quiet_step (fail))
          refine wpQuiet_nil ?_
          rintro _ ⟨u, rfl⟩
          go_wp2
          go_roundw
          case rel => exact ⟨1, by omega, by omega, rfl, by (repeat (first | exact brf | assumption | refine ble ?_ | refine blx ?_ | refine bla ?_ | refine bls ?_ | refine bld ?_)), Lib.hid (((H5.out.keep u.below).set 0 _)), Lib.hid ((Below.heap_setCell _ _ _ _ (by simp; omega)).trans ((u.below.block _ (by omega)).trans Hx.out)), by simp; have := u.below.size; omega⟩
          case measure => first | decide | (simp [intOf]; done)
        · have v0 : wr.cell? ⟨N + 1 + 1 + 1 + 1, 1, none⟩ = some (.int .i64 (0)) := (blk_cell H5.out.v 1).trans rfl
          have y0 : wr.cell? ⟨wo.heap.size, 1, none⟩ = some (.int .i64 n1) := (blk_cell Hx.out 1).trans rfl
          have fz := blk_free H5.out.v 1
          go_wp2
          refine wp_region_tailB 9 (by kernel_rfl) (by kernel_rfl) ?_
          simp only [List.take_succ_cons, List.take_zero, List.drop_succ_cons, List.drop_zero]
          repeat (first | go_big_quiet_step (fail) | quiet_step (fail))
          refine wpQuiet_nil ?_
          rintro _ ⟨u, rfl⟩
          go_wp2
          go_roundw
          case rel => exact ⟨2, by omega, by omega, rfl, by (repeat (first | exact brf | assumption | refine ble ?_ | refine blx ?_ | refine bla ?_ | refine bls ?_ | refine bld ?_)), Lib.hid (((H5.out.keep u.below).set 1 _)), Lib.hid ((Below.heap_setCell _ _ _ _ (by simp; omega)).trans ((u.below.block _ (by omega)).trans Hx.out)), by simp; have := u.below.size; omega⟩
          case measure => first | decide | (simp [intOf]; done)
        · have v0 : wr.cell? ⟨N + 1 + 1 + 1 + 1, 2, none⟩ = some (.int .i64 (0)) := (blk_cell H5.out.v 2).trans rfl
          have y0 : wr.cell? ⟨wo.heap.size, 2, none⟩ = some (.int .i64 n2) := (blk_cell Hx.out 2).trans rfl
          have fz := blk_free H5.out.v 2
          go_wp2
          refine wp_region_tailB 9 (by kernel_rfl) (by kernel_rfl) ?_
          simp only [List.take_succ_cons, List.take_zero, List.drop_succ_cons, List.drop_zero]
          repeat (first | go_big_quiet_step (fail) | quiet_step (fail))
          refine wpQuiet_nil ?_
          rintro _ ⟨u, rfl⟩
          go_wp2
          go_roundw
          case rel => exact ⟨3, by omega, by omega, rfl, by (repeat (first | exact brf | assumption | refine ble ?_ | refine blx ?_ | refine bla ?_ | refine bls ?_ | refine bld ?_)), Lib.hid (((H5.out.keep u.below).set 2 _)), Lib.hid ((Below.heap_setCell _ _ _ _ (by simp; omega)).trans ((u.below.block _ (by omega)).trans Hx.out)), by simp; have := u.below.size; omega⟩
          case measure => first | decide | (simp [intOf]; done)
        · go_wp2
          go_roundw
          case rel => exact ⟨1, by omega, by omega, rfl, hb, Lib.hid H5.out⟩
          case measure => first | decide | (simp [intOf]; done)
    · have a0 : wo.cell? ⟨N, 3, none⟩ = some (.int .i64 pd) := (blk_cell H5.out.p 3).trans rfl
      have a1 : wo.cell? ⟨N + 1, 3, none⟩ = some (.int .i64 qd) := (blk_cell H5.out.q 3).trans rfl
      have a2 : wo.cell? ⟨N + 1 + 1, 3, none⟩ = some (.int .i64 rd) := (blk_cell H5.out.r 3).trans rfl
      have zA : N < wo.heap.size := by omega
      have zB : N + 1 < wo.heap.size := by omega
      have zC : N + 1 + 1 < wo.heap.size := by omega
      go_wp2
      clear a0 a1 a2 zA zB zC
      go_loopw [43] (fun i wr => ∃ k : Int, 0 ≤ k ∧ k ≤ 3 ∧ i = .int .i64 k ∧ Below N w wr ∧ Hid (S5 N #[.int .i64 p0, .int .i64 p1, .int .i64 p2, .int .i64 pd] #[.int .i64 q0, .int .i64 q1, .int .i64 q2, .int .i64 qd] #[.int .i64 r0, .int .i64 r1, .int .i64 r2, .int .i64 rd] #[.int .i64 (if k ≤ 0 then pd * n0 else pd * n0 + qd * n3), .int .i64 (if k ≤ 1 then pd * n1 else pd * n1 + qd * n4), .int .i64 (if k ≤ 2 then pd * n2 else pd * n2 + qd * n5)] wr) ∧ Hid (wr.heap[wo.heap.size]? = some (.cells #[.int .i64 n3, .int .i64 n4, .int .i64 n5] 169 (0, 0))) ∧ wo.heap.size + 1 ≤ wr.heap.size) (fun i _ => 3 - (intOf i).toNat)
      case atStart => exact ⟨0, by omega, by omega, rfl, hb.alloc (by omega) _, Lib.hid (H5.out.keep (by (repeat (first | exact brf | assumption | refine ble ?_ | refine blx ?_ | refine bla ?_ | refine bls ?_ | refine bld ?_)))), Lib.hid (heap_alloc_new wo _), by simp⟩
      case round =>
        clear hb H5
        obtain ⟨k, hk0, hk, rfl, hb, H5, Hx, hsz⟩ := hrel
        have z4 := blk_lt H5.out.v
        have z5 : wo.heap.size < wr.heap.size := by omega
        rcases (by omega : k = 0 ∨ k = 1 ∨ k = 2 ∨ k = 3) with rfl | rfl | rfl | rfl
        · have v0 : wr.cell? ⟨N + 1 + 1 + 1 + 1, 0, none⟩ = some (.int .i64 (pd * n0)) := (blk_cell H5.out.v 0).trans rfl
          have y0 : wr.cell? ⟨wo.heap.size, 0, none⟩ = some (.int .i64 n3) := (blk_cell Hx.out 0).trans rfl
          have fz := blk_free H5.out.v 0
          go_wp2
          refine wp_region_tailB 9 (by kernel_rfl) (by kernel_rfl) ?_
          simp only [List.take_succ_cons, List.take_zero, List.drop_succ_cons, List.drop_zero]
          repeat (first | go_big_quiet_step (fail) | quiet_step (fail))
          refine wpQuiet_nil ?_
          rintro _ ⟨u, rfl⟩
          go_wp2
          go_roundw
          case rel => exact ⟨1, by omega, by omega, rfl, by (repeat (first | exact brf | assumption | refine ble ?_ | refine blx ?_ | refine bla ?_ | refine bls ?_ | refine bld ?_)), Lib.hid (((H5.out.keep u.below).set 0 _)), Lib.hid ((Below.heap_setCell _ _ _ _ (by simp; omega)).trans ((u.below.block _ (by omega)).trans Hx.out)), by simp; have := u.below.size; omega⟩
          case measure => first | decide | (simp [intOf]; done)
        · have v0 : wr.cell? ⟨N + 1 + 1 + 1 + 1, 1, none⟩ = some (.int .i64 (pd * n1)) := (blk_cell H5.out.v 1).trans rfl
          have y0 : wr.cell? ⟨wo.heap.size, 1, none⟩ = some (.int .i64 n4) := (blk_cell Hx.out 1).trans rfl
          have fz := blk_free H5.out.v 1
          go_wp2
          refine wp_region_tailB 9 (by kernel_rfl) (by kernel_rfl) ?_
          simp only [List.take_succ_cons, List.take_zero, List.drop_succ_cons, List.drop_zero]
          repeat (first | go_big_quiet_step (fail) | quiet_step (fail))
          refine wpQuiet_nil ?_
          rintro _ ⟨u, rfl⟩
          go_wp2
          go_roundw
          case rel => exact ⟨2, by omega, by omega, rfl, by (repeat (first | exact brf | assumption | refine ble ?_ | refine blx ?_ | refine bla ?_ | refine bls ?_ | refine bld ?_)), Lib.hid (((H5.out.keep u.below).set 1 _)), Lib.hid ((Below.heap_setCell _ _ _ _ (by simp; omega)).trans ((u.below.block _ (by omega)).trans Hx.out)), by simp; have := u.below.size; omega⟩
          case measure => first | decide | (simp [intOf]; done)
        · have v0 : wr.cell? ⟨N + 1 + 1 + 1 + 1, 2, none⟩ = some (.int .i64 (pd * n2)) := (blk_cell H5.out.v 2).trans rfl
          have y0 : wr.cell? ⟨wo.heap.size, 2, none⟩ = some (.int .i64 n5) := (blk_cell Hx.out 2).trans rfl
          have fz := blk_free H5.out.v 2
          go_wp2
          refine wp_region_tailB 9 (by kernel_rfl) (by kernel_rfl) ?_
          simp only [List.take_succ_cons, List.take_zero, List.drop_succ_cons, List.drop_zero]
          repeat (first | go_big_quiet_step (fail) | quiet_step (fail))
          refine wpQuiet_nil ?_
          rintro _ ⟨u, rfl⟩
          go_wp2
          go_roundw
          case rel => exact ⟨3, by omega, by omega, rfl, by (repeat (first | exact brf | assumption | refine ble ?_ | refine blx ?_ | refine bla ?_ | refine bls ?_ | refine bld ?_)), Lib.hid (((H5.out.keep u.below).set 2 _)), Lib.hid ((Below.heap_setCell _ _ _ _ (by simp; omega)).trans ((u.below.block _ (by omega)).trans Hx.out)), by simp; have := u.below.size; omega⟩
          case measure => first | decide | (simp [intOf]; done)
        · go_wp2
          go_roundw
          case rel => exact ⟨2, by omega, by omega, rfl, hb, Lib.hid H5.out⟩
          case measure => first | decide | (simp [intOf]; done)
    · have a0 : wo.cell? ⟨N, 3, none⟩ = some (.int .i64 pd) := (blk_cell H5.out.p 3).trans rfl
      have a1 : wo.cell? ⟨N + 1, 3, none⟩ = some (.int .i64 qd) := (blk_cell H5.out.q 3).trans rfl
      have a2 : wo.cell? ⟨N + 1 + 1, 3, none⟩ = some (.int .i64 rd) := (blk_cell H5.out.r 3).trans rfl
      have zA : N < wo.heap.size := by omega
      have zB : N + 1 < wo.heap.size := by omega
      have zC : N + 1 + 1 < wo.heap.size := by omega
      go_wp2
      clear a0 a1 a2 zA zB zC
      go_loopw [43] (fun i wr => ∃ k : Int, 0 ≤ k ∧ k ≤ 3 ∧ i = .int .i64 k ∧ Below N w wr ∧ Hid (S5 N #[.int .i64 p0, .int .i64 p1, .int .i64 p2, .int .i64 pd] #[.int .i64 q0, .int .i64 q1, .int .i64 q2, .int .i64 qd] #[.int .i64 r0, .int .i64 r1, .int .i64 r2, .int .i64 rd] #[.int .i64 (if k ≤ 0 then pd * n0 + qd * n3 else pd * n0 + qd * n3 + rd * n6), .int .i64 (if k ≤ 1 then pd * n1 + qd * n4 else pd * n1 + qd * n4 + rd * n7), .int .i64 (if k ≤ 2 then pd * n2 + qd * n5 else pd * n2 + qd * n5 + rd * n8)] wr) ∧ Hid (wr.heap[wo.heap.size]? = some (.cells #[.int .i64 n6, .int .i64 n7, .int .i64 n8] 169 (0, 0))) ∧ wo.heap.size + 1 ≤ wr.heap.size) (fun i _ => 3 - (intOf i).toNat)
      case atStart => exact ⟨0, by omega, by omega, rfl, hb.alloc (by omega) _, Lib.hid (H5.out.keep (by (repeat (first | exact brf | assumption | refine ble ?_ | refine blx ?_ | refine bla ?_ | refine bls ?_ | refine bld ?_)))), Lib.hid (heap_alloc_new wo _), by simp⟩
      case round =>
        clear hb H5
        obtain ⟨k, hk0, hk, rfl, hb, H5, Hx, hsz⟩ := hrel
        have z4 := blk_lt H5.out.v
        have z5 : wo.heap.size < wr.heap.size := by omega
        rcases (by omega : k = 0 ∨ k = 1 ∨ k = 2 ∨ k = 3) with rfl | rfl | rfl | rfl
        · have v0 : wr.cell? ⟨N + 1 + 1 + 1 + 1, 0, none⟩ = some (.int .i64 (pd * n0 + qd * n3)) := (blk_cell H5.out.v 0).trans rfl
          have y0 : wr.cell? ⟨wo.heap.size, 0, none⟩ = some (.int .i64 n6) := (blk_cell Hx.out 0).trans rfl
          have fz := blk_free H5.out.v 0
          go_wp2
          refine wp_region_tailB 9 (by kernel_rfl) (by kernel_rfl) ?_
          simp only [List.take_succ_cons, List.take_zero, List.drop_succ_cons, List.drop_zero]
          repeat (first | go_big_quiet_step (fail) | quiet_step (fail))
          refine wpQuiet_nil ?_
          rintro _ ⟨u, rfl⟩
          go_wp2
          go_roundw
          case rel => exact ⟨1, by omega, by omega, rfl, by (repeat (first | exact brf | assumption | refine ble ?_ | refine blx ?_ | refine bla ?_ | refine bls ?_ | refine bld ?_)), Lib.hid (((H5.out.keep u.below).set 0 _)), Lib.hid ((Below.heap_setCell _ _ _ _ (by simp; omega)).trans ((u.below.block _ (by omega)).trans Hx.out)), by simp; have := u.below.size; omega⟩
          case measure => first | decide | (simp [intOf]; done)
        · have v0 : wr.cell? ⟨N + 1 + 1 + 1 + 1, 1, none⟩ = some (.int .i64 (pd * n1 + qd * n4)) := (blk_cell H5.out.v 1).trans rfl
          have y0 : wr.cell? ⟨wo.heap.size, 1, none⟩ = some (.int .i64 n7) := (blk_cell Hx.out 1).trans rfl
          have fz := blk_free H5.out.v 1
          go_wp2
          refine wp_region_tailB 9 (by kernel_rfl) (by kernel_rfl) ?_
          simp only [List.take_succ_cons, List.take_zero, List.drop_succ_cons, List.drop_zero]
          repeat (first | go_big_quiet_step (fail) | quiet_step (fail))
          refine wpQuiet_nil ?_
          rintro _ ⟨u, rfl⟩
          go_wp2
          go_roundw
          case rel => exact ⟨2, by omega, by omega, rfl, by (repeat (first | exact brf | assumption | refine ble ?_ | refine blx ?_ | refine bla ?_ | refine bls ?_ | refine bld ?_)), Lib.hid (((H5.out.keep u.below).set 1 _)), Lib.hid ((Below.heap_setCell _ _ _ _ (by simp; omega)).trans ((u.below.block _ (by omega)).trans Hx.out)), by simp; have := u.below.size; omega⟩
          case measure => first | decide | (simp [intOf]; done)
        · have v0 : wr.cell? ⟨N + 1 + 1 + 1 + 1, 2, none⟩ = some (.int .i64 (pd * n2 + qd * n5)) := (blk_cell H5.out.v 2).trans rfl
          have y0 : wr.cell? ⟨wo.heap.size, 2, none⟩ = some (.int .i64 n8) := (blk_cell Hx.out 2).trans rfl
          have fz := blk_free H5.out.v 2
          go_wp2
          refine wp_region_tailB 9 (by kernel_rfl) (by kernel_rfl) ?_
          simp only [List.take_succ_cons, List.take_zero, List.drop_succ_cons, List.drop_zero]
          repeat (first | go_big_quiet_step (fail) | quiet_step (fail))
          refine wpQuiet_nil ?_
          rintro _ ⟨u, rfl⟩
          go_wp2
          go_roundw
          case rel => exact ⟨3, by omega, by omega, rfl, by (repeat (first | exact brf | assumption | refine ble ?_ | refine blx ?_ | refine bla ?_ | refine bls ?_ | refine bld ?_)), Lib.hid (((H5.out.keep u.below).set 2 _)), Lib.hid ((Below.heap_setCell _ _ _ _ (by simp; omega)).trans ((u.below.block _ (by omega)).trans Hx.out)), by simp; have := u.below.size; omega⟩
          case measure => first | decide | (simp [intOf]; done)
        · go_wp2
          go_roundw
          case rel => exact ⟨3, by omega, by omega, rfl, hb, Lib.hid H5.out⟩
          case measure => first | decide | (simp [intOf]; done)
    · have v0 : wo.cell? ⟨N + 1 + 1 + 1 + 1, 0, none⟩ = some (.int .i64 (pd * n0 + qd * n3 + rd * n6)) := (blk_cell H5.out.v 0).trans rfl
      have v1 : wo.cell? ⟨N + 1 + 1 + 1 + 1, 1, none⟩ = some (.int .i64 (pd * n1 + qd * n4 + rd * n7)) := (blk_cell H5.out.v 1).trans rfl
      have v2 : wo.cell? ⟨N + 1 + 1 + 1 + 1, 2, none⟩ = some (.int .i64 (pd * n2 + qd * n5 + rd * n8)) := (blk_cell H5.out.v 2).trans rfl
      go_wp2_with fail
      refine (point_any _ _ _ _ _ (by omega) (by omega) (by omega) (by omega) h0).mono ?_
      rintro e w1 ⟨rfl, hb1⟩
      have ho := (H5.out.keep hb1).o
      have d0 : w1.cell? ⟨N + 1 + 1 + 1, 0, none⟩ = some (.int .i64 0) := (blk_cell ho 0).trans rfl
      have d1 : w1.cell? ⟨N + 1 + 1 + 1, 1, none⟩ = some (.int .i64 0) := (blk_cell ho 1).trans rfl
      have d2 : w1.cell? ⟨N + 1 + 1 + 1, 2, none⟩ = some (.int .i64 0) := (blk_cell ho 2).trans rfl
      have d3 : w1.cell? ⟨N + 1 + 1 + 1, 3, none⟩ = some (.int .i64 0) := (blk_cell ho 3).trans rfl
      have f0 := blk_free ho
      have hw1 : Below N w w1 := hb.trans (hb1.mono (by omega))
      have Hm' := Lib.hid Hm.out
      generalize ptOf (pd * n0 + qd * n3 + rd * n6) (pd * n1 + qd * n4 + rd * n7) (pd * n2 + qd * n5 + rd * n8) den = y at *
      clear v0 v1 v2 H5 Hm
      go_wp2
      refine bodyPost_ret (v := v4 y) (by simp [results, Tryz.results246, go_sem, d0, d1, d2, d3]) rfl ⟨?_, ?_⟩
      · rw [Hm'.out]
      · rw [← HN.out]
        (repeat (first | exact brf | assumption | refine ble ?_ | refine blx ?_ | refine bla ?_ | refine bls ?_ | refine bld ?_))
end
/- Plain: the corners that bodyOf finds, before they are sorted. -/
section
def getP (ps : List Q4) (i : Nat) : Q4 := ps.getD i (0, 0, 0, 0)
def denP (p q r : Q4) : Int := dotP (crossP (nrm p) (nrm q)) (nrm r)
def raw1 (ps : List Q4) (i k m : Nat) : List Q4 :=
  if denP (getP ps i) (getP ps k) (getP ps m) = 0 then [] else
  if allowedB ps (meetP (getP ps i) (getP ps k) (getP ps m) (denP (getP ps i) (getP ps k) (getP ps m))) then [meetP (getP ps i) (getP ps k) (getP ps m) (denP (getP ps i) (getP ps k) (getP ps m))] else []
def rawK (ps : List Q4) (i k m : Nat) : List Q4 := (List.range m).flatMap (raw1 ps i k)
def rawI (ps : List Q4) (i k : Nat) : List Q4 := (List.range k).flatMap (fun k => rawK ps i k k)
def raw (ps : List Q4) (i : Nat) : List Q4 := (List.range i).flatMap (fun i => rawI ps i i)
theorem rawK_succ (ps : List Q4) (i k m : Nat) : rawK ps i k (m + 1) = rawK ps i k m ++ raw1 ps i k m := by simp [rawK, List.range_succ]
theorem rawI_succ (ps : List Q4) (i k : Nat) : rawI ps i (k + 1) = rawI ps i k ++ rawK ps i k k := by simp [rawI, List.range_succ]
theorem raw_succ (ps : List Q4) (i : Nat) : raw ps (i + 1) = raw ps i ++ rawI ps i i := by simp [raw, List.range_succ]
theorem rawK_zero (ps : List Q4) (i k : Nat) : rawK ps i k 0 = [] := rfl
theorem rawI_zero (ps : List Q4) (i : Nat) : rawI ps i 0 = [] := rfl
theorem raw_zero (ps : List Q4) : raw ps 0 = [] := rfl
theorem raw1_len (ps : List Q4) (i k m : Nat) : (raw1 ps i k m).length ≤ 1 := by unfold raw1; split; · simp
                                                                                 · split <;> simp
theorem rawK_len (ps : List Q4) (i k m : Nat) : (rawK ps i k m).length ≤ m := by
  induction m with
  | zero => simp [rawK]
  | succ m ih => rw [rawK_succ, List.length_append]; have := raw1_len ps i k m; omega
theorem rawI_len (ps : List Q4) (i k : Nat) (h : k ≤ 64) : (rawI ps i k).length ≤ k * 64 := by
  induction k with
  | zero => simp [rawI]
  | succ k ih => rw [rawI_succ, List.length_append]; have := rawK_len ps i k k; have := ih (by omega); omega
theorem raw_len (ps : List Q4) (i : Nat) (h : i ≤ 64) : (raw ps i).length ≤ i * 4096 := by
  induction i with
  | zero => simp [raw]
  | succ i ih => rw [raw_succ, List.length_append]; have := rawI_len ps i i (by omega); have := ih (by omega); omega
theorem rawK_flat (ps : List Q4) (i k m : Nat) (h : crossP (nrm (getP ps i)) (nrm (getP ps k)) = (0, 0, 0)) : rawK ps i k m = [] := by
  unfold rawK
  simp only [List.flatMap_eq_nil_iff]
  intro x _
  unfold raw1
  rw [if_pos]
  simp [denP, h, dotP]
/-- The bounds of a point in lowest form. -/
theorem ptOf_ok (a b c den : Int) (ha : -10000000000 ≤ a ∧ a ≤ 10000000000) (hb : -10000000000 ≤ b ∧ b ≤ 10000000000) (hc : -10000000000 ≤ c ∧ c ≤ 10000000000)
    (hd : -1000000 ≤ den ∧ den ≤ 1000000) (h0 : den ≠ 0) : okCo (ptOf a b c den) := by
  have hp := gcdL4_pos a b c den h0
  have e1 := tdiv_dvd (gcdL_dvd [a, b, c, den] a (by simp))
  have e2 := tdiv_dvd (gcdL_dvd [a, b, c, den] b (by simp))
  have e3 := tdiv_dvd (gcdL_dvd [a, b, c, den] c (by simp))
  have e4 := tdiv_dvd (gcdL_dvd [a, b, c, den] den (by simp))
  have t1 := tdiv_bd (g := gcdL [a, b, c, den]) ha
  have t2 := tdiv_bd (g := gcdL [a, b, c, den]) hb
  have t3 := tdiv_bd (g := gcdL [a, b, c, den]) hc
  have t4 := tdiv_bd (g := gcdL [a, b, c, den]) hd
  obtain ⟨k, hk⟩ := gcdL_dvd [a, b, c, den] den (by simp)
  have hk' : den / (gcdL [a, b, c, den] : Int) = k := by
    conv => lhs; lhs; rw [hk]
    exact Int.mul_ediv_cancel_left _ (by omega)
  rw [e1] at t1; rw [e2] at t2; rw [e3] at t3; rw [e4, hk'] at t4
  unfold ptOf okCo
  by_cases hn : den < 0
  · rw [if_pos hn, hk']
    have : k < 0 := by
      rcases Int.lt_or_le k 0 with h | h
      · exact h
      · have := Int.mul_nonneg (Int.le_of_lt (by omega : (0 : Int) < gcdL [a, b, c, den])) h; omega
    simp only
    omega
  · rw [if_neg hn, hk']
    have : 0 < k := by
      rcases Int.lt_or_le 0 k with h | h
      · exact h
      · have := Int.mul_nonpos_of_nonneg_of_nonpos (Int.le_of_lt (by omega : (0 : Int) < gcdL [a, b, c, den])) h; omega
    simp only
    omega
theorem den_bd (p q r : Q4) (hp : okPl p) (hq : okPl q) (hr : okPl r) : -3072 ≤ denP p q r ∧ denP p q r ≤ 3072 := by
  simp only [okPl] at hp hq hr
  have b0 := cross_bd hp.2.1 hp.2.2.1 hq.2.1 hq.2.2.1
  have b1 := cross_bd hp.2.2.1 hp.1 hq.2.2.1 hq.1
  have b2 := cross_bd hp.1 hp.2.1 hq.1 hq.2.1
  have m0 := mul_bd b0.1 b0.2 hr.1.1 hr.1.2
  have m1 := mul_bd b1.1 b1.2 hr.2.1.1 hr.2.1.2
  have m2 := mul_bd b2.1 b2.2 hr.2.2.1.1 hr.2.2.1.2
  simp only [denP, dotP, crossP, nrm]
  omega
theorem comb_bd {a b c x y z : Int} (ha : -10000000 ≤ a ∧ a ≤ 10000000) (hb : -10000000 ≤ b ∧ b ≤ 10000000) (hc : -10000000 ≤ c ∧ c ≤ 10000000) (hx : -128 ≤ x ∧ x ≤ 128) (hy : -128 ≤ y ∧ y ≤ 128) (hz : -128 ≤ z ∧ z ≤ 128) :
    -10000000000 ≤ a * x + b * y + c * z ∧ a * x + b * y + c * z ≤ 10000000000 := by
  have m0 := mul_bd ha.1 ha.2 hx.1 hx.2
  have m1 := mul_bd hb.1 hb.2 hy.1 hy.2
  have m2 := mul_bd hc.1 hc.2 hz.1 hz.2
  omega
theorem meetP_ok (p q r : Q4) (den : Int) (hp : okPl p) (hq : okPl q) (hr : okPl r) (hd : -1000000 ≤ den ∧ den ≤ 1000000) (h0 : den ≠ 0) : okCo (meetP p q r den) := by
  simp only [okPl] at hp hq hr
  refine ptOf_ok _ _ _ _ ?_ ?_ ?_ hd h0
  · exact comb_bd hp.2.2.2 hq.2.2.2 hr.2.2.2 (cross_bd hq.2.1 hq.2.2.1 hr.2.1 hr.2.2.1) (cross_bd hr.2.1 hr.2.2.1 hp.2.1 hp.2.2.1) (cross_bd hp.2.1 hp.2.2.1 hq.2.1 hq.2.2.1)
  · exact comb_bd hp.2.2.2 hq.2.2.2 hr.2.2.2 (cross_bd hq.2.2.1 hq.1 hr.2.2.1 hr.1) (cross_bd hr.2.2.1 hr.1 hp.2.2.1 hp.1) (cross_bd hp.2.2.1 hp.1 hq.2.2.1 hq.1)
  · exact comb_bd hp.2.2.2 hq.2.2.2 hr.2.2.2 (cross_bd hq.1 hq.2.1 hr.1 hr.2.1) (cross_bd hr.1 hr.2.1 hp.1 hp.2.1) (cross_bd hp.1 hp.2.1 hq.1 hq.2.1)
theorem getP_eq {ps : List Q4} (i : Nat) (hi : i < ps.length) : ps[i] = getP ps i := by
  simp [getP, List.getD, hi]
theorem getP_ok {ps : List Q4} (h : ∀ p ∈ ps, okPl p) (i : Nat) (hi : i < ps.length) : okPl (getP ps i) := by
  rw [← getP_eq i hi]
  exact h _ (List.getElem_mem hi)
def enc4 (c : Q4) : List Value := [.int .i64 c.1, .int .i64 c.2.1, .int .i64 c.2.2.1, .int .i64 c.2.2.2]
end
end Go.Proofs.YtjglkglaogaenaaGreatDoor
