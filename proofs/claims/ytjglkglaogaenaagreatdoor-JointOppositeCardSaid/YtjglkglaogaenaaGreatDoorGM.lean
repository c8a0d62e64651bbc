/- texts of mine, merged: J13, J14. -/
import Derived.Test.YtjglkglaogaenaaGreatDoorGL
/- joint: partsOf at lap. -/
namespace Go.Proofs.YtjglkglaogaenaaGreatDoor
section
open Go.RowKit Go.Shelf
attribute [local go_sem] Ext.cell Ext.frozen
/-- A slice whose elements satisfy predicates. -/
def Each (w : World) (v : Value) {α : Type} (E : World → Value → α → Prop) (cs : List α) : Prop :=
  ∃ a m c, v = .slice a m c ∧ cs.length = m ∧ m ≤ c ∧ (0 < m → ∃ b off, a = some ⟨b, off, none⟩ ∧ ∀ i (h : i < cs.length), ∃ u, w.cell? ⟨b, off + i, none⟩ = some u ∧ E w u cs[i])
theorem Each.below {w w' : World} {v : Value} {α : Type} {E : World → Value → α → Prop} {cs : List α} (hE : ∀ u c w w', Below w.heap.size w w' → E w u c → E w' u c) (h : Each w v E cs) (hb : Below w.heap.size w w') : Each w' v E cs := by
  obtain ⟨a, m, c, hv, hl, hc, hx⟩ := h
  refine ⟨a, m, c, hv, hl, hc, fun h0 => ?_⟩
  obtain ⟨b, off, ha, hi⟩ := hx h0
  exact ⟨b, off, ha, fun i h => by obtain ⟨u, hu, he⟩ := hi i h; exact ⟨u, below_cell hb hu, hE _ _ _ _ hb he⟩⟩
/-- A slice that lies at B or beyond. -/
def At (B : Nat) (v : Value) : Prop := ∀ a m c, v = .slice (some a) m c → B ≤ a.block
theorem At.mono {B B' : Nat} {v : Value} (h : At B v) (hb : B' ≤ B) : At B' v := fun a m c e => Nat.le_trans hb (h a m c e)
theorem At.mk {B g m c : Nat} (h : B ≤ g) : At B (.slice (some ⟨g, 0, none⟩) m c) := fun a _ _ e => by cases e; exact h
theorem At.none' {B m c : Nat} : At B (.slice none m c) := fun a _ _ e => by cases e
def PlanesV (B : Nat) (w : World) (v : Value) (ps : List Q4) : Prop := Raw w 4 v (ps.flatMap enc4) ∧ At B v
def CellsV (B : Nat) (w : World) (v : Value) (cs : List (List Q4)) : Prop := Each w v (PlanesV B) cs ∧ At B v
def PartsV (B : Nat) (w : World) (v : Value) (cs : List (List (List Q4))) : Prop := Each w v (CellsV B) cs ∧ At B v
theorem PlanesV.below {B : Nat} {w w' : World} {v : Value} {ps : List Q4} (h : PlanesV B w v ps) (hb : Below w.heap.size w w') : PlanesV B w' v ps := ⟨Raw.below h.1 hb, h.2⟩
theorem CellsV.below {B : Nat} {w w' : World} {v : Value} {ps : List (List Q4)} (h : CellsV B w v ps) (hb : Below w.heap.size w w') : CellsV B w' v ps := ⟨Each.below (fun _ _ _ _ hb h => PlanesV.below h hb) h.1 hb, h.2⟩
theorem PartsV.below {B : Nat} {w w' : World} {v : Value} {ps : List (List (List Q4))} (h : PartsV B w v ps) (hb : Below w.heap.size w w') : PartsV B w' v ps := ⟨Each.below (fun _ _ _ _ hb h => CellsV.below h hb) h.1 hb, h.2⟩
theorem cell_far {w : World} {g i : Nat} {x u : Value} {a : Addr} (h : w.cell? a = some u) (hne : g ≠ a.block) : (w.setCell ⟨g, i, none⟩ x).cell? a = some u :=
  (World.cell?_setCell_other w ⟨g, i, none⟩ a x (fun e => by subst e; exact hne rfl)).trans h
theorem Each.far {B : Nat} {w : World} {v : Value} {α : Type} {E : World → Value → α → Prop} {cs : List α} {g i : Nat} {x : Value} (hE : ∀ u c, E w u c → E (w.setCell ⟨g, i, none⟩ x) u c) (h : Each w v E cs) (ha : At B v) (hg : g < B) : Each (w.setCell ⟨g, i, none⟩ x) v E cs := by
  obtain ⟨a, m, c, rfl, hl, hc, hx⟩ := h
  refine ⟨a, m, c, rfl, hl, hc, fun h0 => ?_⟩
  obtain ⟨b, off, rfl, hi⟩ := hx h0
  have := ha _ _ _ rfl
  exact ⟨b, off, rfl, fun k h => by obtain ⟨u, hu, he⟩ := hi k h; exact ⟨u, cell_far hu (by simp at this ⊢; omega), hE _ _ he⟩⟩
theorem PlanesV.far {B g i : Nat} {x : Value} {w : World} {v : Value} {ps : List Q4} (h : PlanesV B w v ps) (hg : g < B) : PlanesV B (w.setCell ⟨g, i, none⟩ x) v ps := by
  obtain ⟨⟨a, m, c, rfl, hl, hn, hc⟩, ha⟩ := h
  refine ⟨⟨a, m, c, rfl, hl, hn, fun ad hd j u hu => ?_⟩, ha⟩
  subst hd
  have hh := ha _ _ _ rfl
  refine cell_far (hc ad rfl j u hu) ?_
  have : (ad.add j).block = ad.block := by unfold Addr.add; split <;> rfl
  rw [this]
  omega
theorem CellsV.far {B g i : Nat} {x : Value} {w : World} {v : Value} {ps : List (List Q4)} (h : CellsV B w v ps) (hg : g < B) : CellsV B (w.setCell ⟨g, i, none⟩ x) v ps := ⟨h.1.far (fun _ _ h => PlanesV.far h hg) h.2 hg, h.2⟩
theorem PartsV.far {B g i : Nat} {x : Value} {w : World} {v : Value} {ps : List (List (List Q4))} (h : PartsV B w v ps) (hg : g < B) : PartsV B (w.setCell ⟨g, i, none⟩ x) v ps := ⟨h.1.far (fun _ _ h => CellsV.far h hg) h.2 hg, h.2⟩
theorem Each.imp {w : World} {v : Value} {α : Type} {E E' : World → Value → α → Prop} {cs : List α} (hE : ∀ u c, E w u c → E' w u c) (h : Each w v E cs) : Each w v E' cs := by
  obtain ⟨a, m, c, rfl, hl, hc, hx⟩ := h
  refine ⟨a, m, c, rfl, hl, hc, fun h0 => ?_⟩
  obtain ⟨b, off, rfl, hi⟩ := hx h0
  exact ⟨b, off, rfl, fun k h => by obtain ⟨u, hu, he⟩ := hi k h; exact ⟨u, hu, hE _ _ he⟩⟩
theorem PlanesV.mono {B B' : Nat} {w : World} {v : Value} {ps : List Q4} (h : PlanesV B w v ps) (hb : B' ≤ B) : PlanesV B' w v ps := ⟨h.1, h.2.mono hb⟩
theorem CellsV.mono {B B' : Nat} {w : World} {v : Value} {ps : List (List Q4)} (h : CellsV B w v ps) (hb : B' ≤ B) : CellsV B' w v ps := ⟨h.1.imp (fun _ _ h => PlanesV.mono h hb), h.2.mono hb⟩
theorem PartsV.mono {B B' : Nat} {w : World} {v : Value} {ps : List (List (List Q4))} (h : PartsV B w v ps) (hb : B' ≤ B) : PartsV B' w v ps := ⟨h.1.imp (fun _ _ h => CellsV.mono h hb), h.2.mono hb⟩
theorem each_new {α : Type} {E : World → Value → α → Prop} {W : World} {T : TypeId} (vs : List Value) (cs : List α) {n g : Nat} (hg : g = W.heap.size) (hl : vs.length = cs.length) (hn : n = cs.length)
    (hE : ∀ p ∈ vs.zip cs, E (W.alloc (.cells vs.toArray T)) p.1 p.2) : Each (W.alloc (.cells vs.toArray T)) (.slice (some ⟨g, 0, none⟩) n n) E cs := by
  refine ⟨_, _, _, rfl, hn.symm, Nat.le_refl _, fun _ => ⟨g, 0, rfl, fun i hi => ⟨vs[i]'(by omega), ?_, ?_⟩⟩⟩
  · refine (cell_new hg _).trans ?_
    simp [hl, hi]
  · refine hE (vs[i]'(by omega), cs[i]) ?_
    have : (vs.zip cs)[i]'(by simp; omega) = (vs[i]'(by omega), cs[i]) := by simp
    rw [← this]
    exact List.getElem_mem _
theorem planes_new {B : Nat} {W : World} {T : TypeId} (ps : List Q4) {n g : Nat} (hg : g = W.heap.size) (hB : B ≤ W.heap.size) (hn : n = ps.length) : PlanesV B (W.alloc (.cells (ps.flatMap enc4).toArray T)) (.slice (some ⟨g, 0, none⟩) n n) ps := by
  refine ⟨⟨_, _, _, rfl, ?_, (fun h => by cases h), ?_⟩, At.mk (by omega)⟩
  · subst hn
    induction ps with
    | nil => rfl
    | cons p ps ih => simp [enc4] at ih ⊢; omega
  · intro ad ha j u hu
    cases ha
    rw [add0, cell_new hg j]
    simpa using hu
def IsP (B : Nat) (ps : List Q4) : Value → World → Prop := fun v w => PlanesV B w v ps
def IsC (B : Nat) (ps : List (List Q4)) : Value → World → Prop := fun v w => CellsV B w v ps
def IsK (B : Nat) (ps : List (List (List Q4))) : Value → World → Prop := fun v w => PartsV B w v ps
def IsKG (B : Nat) (ps : List (List (List Q4))) : Value → World → Prop := fun v w => ∃ u, v = .agg #[u, .slice none 0 0] ∧ PartsV B w u ps
theorem stab_p (B : Nat) (ps : List Q4) : Stab (IsP B ps) := fun _ _ _ hb h => PlanesV.below h hb
theorem stab_c (B : Nat) (ps : List (List Q4)) : Stab (IsC B ps) := fun _ _ _ hb h => CellsV.below h hb
theorem stab_k (B : Nat) (ps : List (List (List Q4))) : Stab (IsK B ps) := fun _ _ _ hb h => PartsV.below h hb
theorem stab_kg (B : Nat) (ps : List (List (List Q4))) : Stab (IsKG B ps) := fun _ _ _ hb ⟨u, h, k⟩ => ⟨u, h, PartsV.below k hb⟩
set_option maxRecDepth 100000 in
set_option maxHeartbeats 2000000 in
theorem partsOf_0 (l w t : Int) (nv : Value) (n : List Int) (W : World) (hn : Ints W nv n) (hl : n.length = 1) (hb : -1000000 ≤ n.getD 0 0 ∧ n.getD 0 0 ≤ 1000000) :
    Calls Tryz.prog 54 #[vJ 0 l w t nv] W fun e w' => ∃ u, e = .returned (.agg #[u, .slice none 0 0]) ∧ Below W.heap.size W w' ∧ PartsV W.heap.size w' u [[[axP 2 (-1) (-n.getD 0 0)]], [[axP 2 1 (n.getD 0 0)]]] := by
  unfold vJ
  obtain ⟨a, m, c, rfl, hm, hc, hx⟩ := hn
  obtain ⟨b, off, rfl, hi⟩ := hx (by omega)
  have c0 := hi 0 (by omega)
  have zb := World.block_lt_of_cell? W _ c0
  simp only at zb
  rw [getDI n _ (by omega)] at c0
  rw [Nat.add_zero] at c0
  generalize n.getD 0 0 = x at *
  obtain rfl : m = 1 := by omega
  have h1 := fun W' => Lib.hid (least_any 2 x W' (by omega) (by omega))
  have h2 := fun W' => Lib.hid (most_any 2 x W' (by omega) (by omega))
  generalize axP 2 (-1) (-x) = p at *
  generalize axP 2 1 x = q at *
  obtain ⟨p1, p2, p3, p4⟩ := p
  obtain ⟨q1, q2, q3, q4⟩ := q
  clear hi hx hm
  go_enter Tryz.func54, Tryz.ntmps54
  go_wp2
  obtain ⟨W1, HW1⟩ : ∃ W1, Hid ((W.alloc (.cells #[.int .i64 0, .int .i64 l, .int .i64 w, .int .i64 t, .slice (some ⟨b, off, none⟩) 1 c] 25)).alloc (.cells #[.slice none 0 0, .slice none 0 0] 101) = W1) := ⟨_, Lib.hid rfl⟩
  rw [HW1.out]
  have hW1 : Below W.heap.size W W1 := by rw [← HW1.out]; (repeat (first | exact brf | assumption | refine ble ?_ | refine blx ?_ | refine bla ?_ | refine bls ?_ | refine bld ?_))
  have HR : Hid (W1.heap[W.heap.size + 1]? = some (.cells #[.slice none 0 0, .slice none 0 0] 101 (0, 0))) := by rw [← HW1.out]; exact Lib.hid (heap_new (by simp))
  have c1 := below_cell hW1 c0
  have zs : W1.heap.size = W.heap.size + 2 := by rw [← HW1.out]; simp
  clear HW1 c0
  refine wp_region_grow [0, 1, 2, 3, 4, 5, 6, 7, 8, 9, 10, 11, 12, 13] 14 [] (pick [
    IsV (.slice (some ⟨b, off, none⟩) 1 c), IsV (.pointer (some ⟨b, off, none⟩)), IsV (.int .i64 x), IsV (v4 (p1, p2, p3, p4)), IsP (W.heap.size + 2) [(p1, p2, p3, p4)], IsC (W.heap.size + 2) [[(p1, p2, p3, p4)]],
    IsV (.slice (some ⟨b, off, none⟩) 1 c), IsV (.pointer (some ⟨b, off, none⟩)), IsV (.int .i64 x), IsV (v4 (q1, q2, q3, q4)), IsP (W.heap.size + 2) [(q1, q2, q3, q4)], IsC (W.heap.size + 2) [[(q1, q2, q3, q4)]],
    IsK (W.heap.size + 2) [[[(p1, p2, p3, p4)]], [[(q1, q2, q3, q4)]]], IsKG (W.heap.size + 2) [[[(p1, p2, p3, p4)]], [[(q1, q2, q3, q4)]]]]) (by kernel_rfl) (by kernel_rfl) (Stabs.pick (by repeat (first | exact Stabs.nil | refine Stabs.cons (by first | exact stab_v _ | exact stab_p _ _ | exact stab_c _ _ | exact stab_k _ _ | exact stab_kg _ _) ?_))) ?_
  try go_frame
  refine wpG_step _ _ rfl rfl (by simp) (fun w' hb' hR K hK => ?_) (fun v0 => ?_)
  · clear hR
    go_simp
    exact hK _ _ (Below.refl _ _) rfl
  try go_frame
  refine wpG_step _ _ rfl rfl (by simp) (fun w' hb' hR K hK => ?_) (fun v1 => ?_)
  · obtain rfl : v0 = _ := hR 0 (by kernel_rfl)
    clear hR
    go_simp
    exact hK _ _ (Below.refl _ _) rfl
  try go_frame
  refine wpG_step _ _ rfl rfl (by simp) (fun w' hb' hR K hK => ?_) (fun v2 => ?_)
  · obtain rfl : v1 = _ := hR 1 (by kernel_rfl)
    have c2 := below_cell hb' c1
    have z2 := World.block_lt_of_cell? w' _ c2
    simp only at z2
    clear hR
    go_simp
    exact hK _ _ (Below.refl _ _) rfl
  try go_frame
  refine wpG_step _ _ rfl rfl (by simp) (fun w' hb' hR K hK => ?_) (fun v3 => ?_)
  · obtain rfl : v2 = _ := hR 2 (by kernel_rfl)
    clear hR
    go_simp
    refine ((h1 _).out).mono ?_
    rintro e w1 ⟨rfl, hb1⟩
    exact hK _ _ hb1 rfl
  try go_frame
  refine wpG_step _ _ rfl rfl (by simp) (fun w' hb' hR K hK => ?_) (fun v5 => ?_)
  · obtain rfl : v3 = _ := hR 3 (by kernel_rfl)
    clear hR
    go_simp
    exact hK _ _ (by (repeat (first | exact brf | assumption | refine ble ?_ | refine blx ?_ | refine bla ?_ | refine bls ?_ | refine bld ?_))) (planes_new [(p1, p2, p3, p4)] rfl (by have := hb'.size; omega) rfl)
  try go_frame
  refine wpG_step _ _ rfl rfl (by simp) (fun w' hb' hR K hK => ?_) (fun v6 => ?_)
  · have hp : PlanesV (W.heap.size + 2) w' v5 _ := hR 4 (by kernel_rfl)
    have HP := Lib.hid hp
    obtain ⟨⟨pa, pm, pc, rfl, _⟩, _⟩ := hp
    clear hR
    go_simp
    exact hK _ _ (by (repeat (first | exact brf | assumption | refine ble ?_ | refine blx ?_ | refine bla ?_ | refine bls ?_ | refine bld ?_))) ⟨each_new [_] [_] rfl rfl rfl (by
      intro q hq
      simp only [List.zip_cons_cons, List.zip_nil_right, List.mem_cons, List.not_mem_nil, or_false] at hq
      subst hq
      exact HP.out.below (by (repeat (first | exact brf | assumption | refine ble ?_ | refine blx ?_ | refine bla ?_ | refine bls ?_ | refine bld ?_)))), At.mk (by have := hb'.size; omega)⟩
  try go_frame
  refine wpG_step _ _ rfl rfl (by simp) (fun w' hb' hR K hK => ?_) (fun w0 => ?_)
  · clear hR
    go_simp
    exact hK _ _ (Below.refl _ _) rfl
  try go_frame
  refine wpG_step _ _ rfl rfl (by simp) (fun w' hb' hR K hK => ?_) (fun w1 => ?_)
  · obtain rfl : w0 = _ := hR 6 (by kernel_rfl)
    clear hR
    go_simp
    exact hK _ _ (Below.refl _ _) rfl
  try go_frame
  refine wpG_step _ _ rfl rfl (by simp) (fun w' hb' hR K hK => ?_) (fun w2 => ?_)
  · obtain rfl : w1 = _ := hR 7 (by kernel_rfl)
    have c2 := below_cell hb' c1
    have z2 := World.block_lt_of_cell? w' _ c2
    simp only at z2
    clear hR
    go_simp
    exact hK _ _ (Below.refl _ _) rfl
  try go_frame
  refine wpG_step _ _ rfl rfl (by simp) (fun w' hb' hR K hK => ?_) (fun w3 => ?_)
  · obtain rfl : w2 = _ := hR 8 (by kernel_rfl)
    clear hR
    go_simp
    refine ((h2 _).out).mono ?_
    rintro e w1 ⟨rfl, hb1⟩
    exact hK _ _ hb1 rfl
  try go_frame
  refine wpG_step _ _ rfl rfl (by simp) (fun w' hb' hR K hK => ?_) (fun w5 => ?_)
  · obtain rfl : w3 = _ := hR 9 (by kernel_rfl)
    clear hR
    go_simp
    exact hK _ _ (by (repeat (first | exact brf | assumption | refine ble ?_ | refine blx ?_ | refine bla ?_ | refine bls ?_ | refine bld ?_))) (planes_new [(q1, q2, q3, q4)] rfl (by have := hb'.size; omega) rfl)
  try go_frame
  refine wpG_step _ _ rfl rfl (by simp) (fun w' hb' hR K hK => ?_) (fun w6 => ?_)
  · have hp : PlanesV (W.heap.size + 2) w' w5 _ := hR 10 (by kernel_rfl)
    have HP := Lib.hid hp
    obtain ⟨⟨pa, pm, pc, rfl, _⟩, _⟩ := hp
    clear hR
    go_simp
    exact hK _ _ (by (repeat (first | exact brf | assumption | refine ble ?_ | refine blx ?_ | refine bla ?_ | refine bls ?_ | refine bld ?_))) ⟨each_new [_] [_] rfl rfl rfl (by
      intro q hq
      simp only [List.zip_cons_cons, List.zip_nil_right, List.mem_cons, List.not_mem_nil, or_false] at hq
      subst hq
      exact HP.out.below (by (repeat (first | exact brf | assumption | refine ble ?_ | refine blx ?_ | refine bla ?_ | refine bls ?_ | refine bld ?_)))), At.mk (by have := hb'.size; omega)⟩
  try go_frame
  refine wpG_step _ _ rfl rfl (by simp) (fun w' hb' hR K hK => ?_) (fun x1 => ?_)
  · have hp : CellsV (W.heap.size + 2) w' v6 _ := hR 5 (by kernel_rfl)
    have hq : CellsV (W.heap.size + 2) w' w6 _ := hR 11 (by kernel_rfl)
    have HP := Lib.hid hp
    have HQ := Lib.hid hq
    obtain ⟨⟨pa, pm, pc, rfl, _⟩, _⟩ := hp
    obtain ⟨⟨qa, qm, qc, rfl, _⟩, _⟩ := hq
    clear hR
    go_simp
    exact hK _ _ (by (repeat (first | exact brf | assumption | refine ble ?_ | refine blx ?_ | refine bla ?_ | refine bls ?_ | refine bld ?_))) ⟨each_new [_, _] [_, _] rfl rfl rfl (by
      intro q hq
      simp only [List.zip_cons_cons, List.zip_nil_right, List.mem_cons, List.not_mem_nil, or_false] at hq
      rcases hq with rfl | rfl
      · exact HP.out.below (by (repeat (first | exact brf | assumption | refine ble ?_ | refine blx ?_ | refine bla ?_ | refine bls ?_ | refine bld ?_)))
      · exact HQ.out.below (by (repeat (first | exact brf | assumption | refine ble ?_ | refine blx ?_ | refine bla ?_ | refine bls ?_ | refine bld ?_)))), At.mk (by have := hb'.size; omega)⟩
  try go_frame
  refine wpG_step _ _ rfl rfl (by simp) (fun w' hb' hR K hK => ?_) (fun x2 => ?_)
  · have hp : PartsV (W.heap.size + 2) w' x1 _ := hR 12 (by kernel_rfl)
    have HP := Lib.hid hp
    obtain ⟨⟨pa, pm, pc, rfl, _⟩, _⟩ := hp
    clear hR
    go_simp
    exact hK _ _ (Below.refl _ _) ⟨_, rfl, HP.out⟩
  go_frame
  refine wpG_nil (fun w' hb' hR => ?_)
  obtain ⟨u, rfl, hp⟩ : ∃ u, x2 = .agg #[u, .slice none 0 0] ∧ PartsV (W.heap.size + 2) w' u [[[(p1, p2, p3, p4)]], [[(q1, q2, q3, q4)]]] := hR 13 (by simp)
  have HP := Lib.hid hp
  obtain ⟨⟨pa, pm, pc, rfl, _⟩, _⟩ := hp
  have HR' : w'.heap[W.heap.size + 1]? = some (.cells #[.slice none 0 0, .slice none 0 0] 101 (0, 0)) := (hb'.block _ (blk_lt HR.out)).trans HR.out
  have e0 := (blk_cell HR' 0).trans rfl
  have e1 := (blk_cell HR' 1).trans rfl
  have f0 := blk_free HR' 0
  have f1 := blk_free HR' 1
  have zu := blk_lt HR'
  clear hR
  simp only [opsAt, List.filterMap_cons, List.filterMap_nil, List.getElem?_toArray, List.getElem?_cons_zero, List.getElem?_cons_succ]
  go_wp2
  refine NoPanic.normal ?_
  go_wp2
  refine bodyPost_ret (v := .agg #[.slice pa pm pc, .slice none 0 0]) (by simp [results, Tryz.results54, go_sem, e0, e1]) rfl ⟨_, rfl, ?_, ?_⟩
  · exact ((below_trans hW1 hb').setCell (by simp) _).setCell (by simp) _
  · exact ((HP.out.far (by omega)).far (by omega)).mono (by omega)
end
/- joint: inBox. -/
section
open Go.RowKit Go.Shelf
attribute [local go_sem] Ext.cell Ext.frozen
set_option maxRecDepth 100000 in
set_option maxHeartbeats 1000000 in
theorem between_v (ax : Nat) (lo hi : Int) (W : World) (hx : ax ≤ 2) (hlo : -1000000000 ≤ lo ∧ lo ≤ 1000000000) (hhi : -1000000000 ≤ hi ∧ hi ≤ 1000000000) :
    Calls Tryz.prog 105 #[.int .i64 ax, .int .i64 lo, .int .i64 hi] W fun e w' => ∃ r, e = .returned r ∧ Below W.heap.size W w' ∧ PlanesV W.heap.size w' r [axP ax (-1) (-lo), axP ax 1 hi] := by
  have h1 := fun W' => Lib.hid (least_any ax lo W' hx hlo)
  have h2 := fun W' => Lib.hid (most_any ax hi W' hx hhi)
  generalize axP ax (-1) (-lo) = p at *
  generalize axP ax 1 hi = q at *
  obtain ⟨p1, p2, p3, p4⟩ := p
  obtain ⟨q1, q2, q3, q4⟩ := q
  go_enter Tryz.func105, Tryz.ntmps105
  go_wp2_with fail
  refine ((h1 _).out).mono ?_
  rintro e w1 ⟨rfl, hb1⟩
  go_wp2_with fail
  refine ((h2 _).out).mono ?_
  rintro e w2 ⟨rfl, hb2⟩
  go_wp2
  go_ret
  have hs := (below_trans hb1 hb2).size
  exact ⟨_, rfl, below_trans (below_trans hb1 hb2) (by (repeat (first | exact brf | assumption | refine ble ?_ | refine blx ?_ | refine bla ?_ | refine bls ?_ | refine bld ?_))), planes_new [(p1, p2, p3, p4), (q1, q2, q3, q4)] rfl hs rfl⟩
/-- A row of planes that one owns. -/
def IsO (B n : Nat) (ps : List Q4) : Value → World → Prop := fun v w => w.ownsRow B 95 4 v n (ps.flatMap enc4)
theorem stab_o (B n : Nat) (ps : List Q4) : Stab (IsO B n ps) := fun _ _ _ hb h => own_below h hb
/-- The planes of a cell in a box. -/
def boxP (l w t : Int) (c : List Q4) : List Q4 := c ++ [axP 0 (-1) (-0), axP 0 1 l] ++ [axP 1 (-1) (-0), axP 1 1 w] ++ [axP 2 (-1) (-0), axP 2 1 t]
/-- The normal form of a cell, or none. -/
def normN (ps : List Q4) : List Q4 := if cellErr ps = 0 then normC ps else []
def inBoxC (l w t : Int) (c : List Q4) : List Q4 := normN (Lib.compact (boxP l w t c))
def RowsV (w : World) (B : Nat) (vs : List Value) (css : List (List Q4)) : Prop :=
  vs.length = css.length ∧ ∀ i (h1 : i < vs.length) (h2 : i < css.length), w.ownsRow B 95 4 vs[i] css[i].length (css[i].flatMap enc4)
theorem RowsV.below {w w' : World} {B : Nat} {vs : List Value} {css : List (List Q4)} (h : RowsV w B vs css) (hb : Below w.heap.size w w') : RowsV w' B vs css := ⟨h.1, fun i h1 h2 => own_below (h.2 i h1 h2) hb⟩
theorem RowsV.snoc {w : World} {B : Nat} {vs : List Value} {css : List (List Q4)} {v : Value} {cs : List Q4} (h : RowsV w B vs css) (hv : w.ownsRow B 95 4 v cs.length (cs.flatMap enc4)) : RowsV w B (vs ++ [v]) (css ++ [cs]) := by
  refine ⟨by simp [h.1], fun i h1 h2 => ?_⟩
  by_cases hi : i < vs.length
  · have hc : i < css.length := by rw [← h.1]; exact hi
    rw [List.getElem_append_left hi, List.getElem_append_left hc]
    exact h.2 i hi hc
  · have he : i = vs.length := by simp at h1; omega
    subst he
    have := h.1
    simp only [List.getElem_append_right (Nat.le_refl _), Nat.sub_self, List.getElem_cons_zero]
    rw [List.getElem_append_right (by omega)]
    simp only [this, Nat.sub_self, List.getElem_cons_zero]
    exact hv
theorem RowsV.nil {w : World} {B : Nat} : RowsV w B [] [] := ⟨rfl, fun _ h => by simp at h⟩
theorem RowsV.kept {w w' : World} {B : Nat} {vs : List Value} {css : List (List Q4)} {row : Option Nat} (h : RowsV w B vs css) (hg : w.grownBy w' row) (hne : ∀ g cs, row = some g → w.heap[g]? = some cs → ∃ c t, cs = .cells c t (0, 0) ∧ t ≠ 95) : RowsV w' B vs css := by
  refine ⟨h.1, fun i h1 h2 => (h.2 i h1 h2).kept hg ?_⟩
  cases hr : row with
  | none => cases hv : vs[i].ownBlock <;> simp
  | some g =>
    right
    intro e
    rcases (h.2 i h1 h2).2 with ⟨hv, _⟩ | ⟨g', cap, cur, hv, _, hh, _⟩
    · rw [hv] at e; simp [Value.ownBlock] at e
    · rw [hv] at e
      have : g' = g := by simpa [Value.ownBlock] using e
      subst this
      obtain ⟨c, t, h3, h4⟩ := hne _ _ hr hh
      cases h3
      exact h4 rfl
theorem RowsV.set {w : World} {B g i : Nat} {u : Value} {vs : List Value} {css : List (List Q4)} {c : Array Value} {T : TypeId} (h : RowsV w B vs css) (hg : w.heap[g]? = some (.cells c T (0, 0))) (hT : 95 ≠ T) : RowsV (w.setCell ⟨g, i, none⟩ u) B vs css :=
  ⟨h.1, fun k h1 h2 => own_setCell_far (h.2 k h1 h2) _ _ (fun e => own_blk_ne (h.2 k h1 h2) hg hT e.symm)⟩
theorem RowsV.mono {w : World} {B B' : Nat} {vs : List Value} {css : List (List Q4)} (h : RowsV w B vs css) (hb : B' ≤ B) : RowsV w B' vs css := ⟨h.1, fun i h1 h2 => own_mono (h.2 i h1 h2) hb⟩
theorem own_slice {w : World} {base : Nat} {e : TypeId} {size n : Nat} {v : Value} {xs : List Value} (h : w.ownsRow base e size v n xs) : ∃ a c, v = .slice a n c := by
  rcases h.2 with ⟨hv, h0⟩ | ⟨g, cap, cur, hv, _⟩
  · exact ⟨none, 0, by rw [hv, h0]⟩
  · exact ⟨_, _, hv⟩
theorem own_row_type {w : World} {base : Nat} {e : TypeId} {size n : Nat} {v : Value} {xs : List Value} (h : w.ownsRow base e size v n xs) : ∀ g cs, v.ownBlock = some g → w.heap[g]? = some cs → ∃ c t, cs = .cells c t (0, 0) ∧ t = e := by
  intro g cs hv hg
  rcases h.2 with ⟨rfl, _⟩ | ⟨g', cap, cur, rfl, _, hh, _⟩
  · simp [Value.ownBlock] at hv
  · have : g' = g := by simpa [Value.ownBlock] using hv
    subst this
    rw [hh] at hg
    cases hg
    exact ⟨_, _, rfl, rfl⟩
theorem info_cell : (Tryz.prog.info? 93).map (fun i => (i.zero, i.size, i.bytes)) = some (some (.agg #[.slice none 0 0]), 1, 24) := by kernel_rfl
theorem und_cellL : Tryz.prog.underlying 28 = some (.slice 93) := by kernel_rfl
theorem enc4s_one (ps : List Q4) : ∀ u ∈ ps.flatMap enc4, u.oneCell' = true := fun u hu => by
  obtain ⟨x, _, hx⟩ := List.mem_flatMap.1 hu
  exact enc4_one x u hx
theorem enc4s_len (ps : List Q4) : (ps.flatMap enc4).length = ps.length * 4 := by
  induction ps with
  | nil => rfl
  | cons p ps ih => simp [enc4] at ih ⊢; omega
set_option maxRecDepth 100000 in
set_option maxHeartbeats 4000000 in
theorem inBox_any (l w t : Int) (cv : Value) (cs : List (List Q4)) (W : World) (hl : -1000000 ≤ l ∧ l ≤ 1000000) (hw : -1000000 ≤ w ∧ w ≤ 1000000) (ht : -1000000 ≤ t ∧ t ≤ 1000000)
    (B : Nat) (hcv : CellsV B W cv cs) (hn : cs.length ≤ 1000000) (hps : ∀ c ∈ cs, c.length ≤ 1000) :
    Calls Tryz.prog 53 #[.agg #[.int .i64 l, .int .i64 w, .int .i64 t], cv] W fun e w' => ∃ v vs, e = .returned (.agg #[v]) ∧ Below W.heap.size W w' ∧
      w'.ownsRow W.heap.size 93 1 v cs.length vs ∧ RowsV w' W.heap.size vs (cs.map (inBoxC l w t)) := by
  have HCV := Lib.hid hcv
  obtain ⟨⟨a, n, cc, rfl, hlen, hnc, hx⟩, _⟩ := hcv
  have HX := Lib.hid hx
  have HN := Lib.hid hps
  have Hlen := Lib.hid hlen
  obtain ⟨i0, hi0, hz0, hz1, hz2⟩ := info_parts info_cell
  have Hi0 := Lib.hid (And.intro hi0 (And.intro hz0 (And.intro hz1 hz2)))
  have HB0 := fun W' => Lib.hid (between_v 0 0 l W' (by omega) (by omega) (by omega))
  have HB1 := fun W' => Lib.hid (between_v 1 0 w W' (by omega) (by omega) (by omega))
  have HB2 := fun W' => Lib.hid (between_v 2 0 t W' (by omega) (by omega) (by omega))
  clear hx hps hi0 hz0 hz1 hz2
  rw [hlen] at hn ⊢
  clear hlen
  go_enter Tryz.func53, Tryz.ntmps53
  go_wp2
  obtain ⟨W1, HW1⟩ : ∃ W1, Hid (((W.alloc (.cells #[.int .i64 l, .int .i64 w, .int .i64 t] 22)).alloc (.cells #[.slice none 0 0] 30)).alloc (.cells #[.slice none 0 0] 30) = W1) := ⟨_, Lib.hid rfl⟩
  rw [HW1.out]
  have hW1 : Below W.heap.size W W1 := by rw [← HW1.out]; (repeat (first | exact brf | assumption | refine ble ?_ | refine blx ?_ | refine bla ?_ | refine bls ?_ | refine bld ?_))
  have zW1 : W1.heap.size = W.heap.size + 3 := by rw [← HW1.out]; simp
  have HS1 : Hid (W1.heap[W.heap.size]? = some (.cells #[.int .i64 l, .int .i64 w, .int .i64 t] 22 (0, 0))) := Lib.hid (by rw [← HW1.out]; exact (heap_old (by simp; omega)).trans ((heap_old (by simp)).trans (heap_new rfl)))
  have HR1 : Hid (W1.heap[W.heap.size + 1]? = some (.cells #[.slice none 0 0] 30 (0, 0))) := Lib.hid (by rw [← HW1.out]; exact (heap_old (by simp)).trans (heap_new (by simp)))
  have HO1 : Hid (W1.heap[W.heap.size + 2]? = some (.cells #[.slice none 0 0] 30 (0, 0))) := Lib.hid (by rw [← HW1.out]; exact heap_new (by simp))
  clear HW1
  go_loopw [13] (fun i wr => ∃ k : Nat, k ≤ n ∧ i = .int .i64 k ∧ Below W.heap.size W wr ∧ W.heap.size + 3 ≤ wr.heap.size ∧ Hid (wr.heap[W.heap.size]? = some (.cells #[.int .i64 l, .int .i64 w, .int .i64 t] 22 (0, 0))) ∧
      Hid (wr.heap[W.heap.size + 1]? = some (.cells #[.slice none 0 0] 30 (0, 0))) ∧ ∃ s vs, Hid (wr.heap[W.heap.size + 2]? = some (.cells #[s] 30 (0, 0))) ∧ Hid (wr.ownsRow (W.heap.size + 3) 93 1 s k vs) ∧ Hid (RowsV wr (W.heap.size + 3) vs ((cs.take k).map (inBoxC l w t)))) (fun i _ => n - (intOf i).toNat)
  case atStart => exact ⟨0, by omega, rfl, hW1, by omega, HS1, HR1, .slice none 0 0, [], HO1, Lib.hid (World.ownsRow_nil _ _ _ _), Lib.hid RowsV.nil⟩
  case round =>
    clear hW1 zW1 HS1 HR1 HO1
    obtain ⟨k, hk, rfl, hb, zr, HS, HR, s, vs, HG, HO, HV⟩ := hrel
    by_cases hlt : k < n
    · have hk' : k < cs.length := by have := Hlen.out; omega
      obtain ⟨b, off, rfl, hi⟩ := HX.out (by omega)
      obtain ⟨u, hu, hpl⟩ := hi k hk'
      have cu := below_cell hb hu
      have zb := World.block_lt_of_cell? wr _ cu
      simp only at zb
      have HP := Lib.hid (hpl.below hb)
      have HPn := Lib.hid (HN.out cs[k] (List.getElem_mem hk'))
      have Hsn : Hid ((cs.take (k + 1)).map (inBoxC l w t) = (cs.take k).map (inBoxC l w t) ++ [inBoxC l w t cs[k]]) := Lib.hid (by rw [List.take_succ_eq_append_getElem hk', List.map_append]; rfl)
      generalize cs[k] = c at *
      clear hi hu hpl
      have q1 : (k : Int) < (n : Int) := by omega
      have q2 : (0 : Int) ≤ (k : Int) := by omega
      obtain ⟨pa, pm, pc, rfl⟩ : ∃ pa pm pc, u = .slice pa pm pc := by obtain ⟨⟨a, m, c, h, _⟩, _⟩ := HP.out; exact ⟨a, m, c, h⟩
      go_wp2
      have zO := HS.out
      have s0 := (blk_cell HS.out 0).trans rfl
      have s1 := (blk_cell HS.out 1).trans rfl
      have s2 := (blk_cell HS.out 2).trans rfl
      simp only [List.getElem?_toArray, List.getElem?_cons_zero, List.getElem?_cons_succ] at s0 s1 s2
      clear zO cu
      refine wp_region_grow [0, 1, 2, 3, 4, 5, 6, 7, 8, 9, 10, 11] 12 [] (pick [
        IsP B c, IsV (.pointer (some ⟨W.heap.size, 0, none⟩)), IsV (.int .i64 l), IsP 0 [axP 0 (-1) (-0), axP 0 1 l],
        IsV (.pointer (some ⟨W.heap.size, 1, none⟩)), IsV (.int .i64 w), IsP 0 [axP 1 (-1) (-0), axP 1 1 w],
        IsV (.pointer (some ⟨W.heap.size, 2, none⟩)), IsV (.int .i64 t), IsP 0 [axP 2 (-1) (-0), axP 2 1 t],
        IsC 0 [c, [axP 0 (-1) (-0), axP 0 1 l], [axP 1 (-1) (-0), axP 1 1 w], [axP 2 (-1) (-0), axP 2 1 t]], IsO wr.heap.size (boxP l w t c).length (boxP l w t c)]) (by kernel_rfl) (by kernel_rfl) (Stabs.pick (by repeat (first | exact Stabs.nil | refine Stabs.cons (by first | exact stab_v _ | exact stab_p _ _ | exact stab_c _ _ | exact stab_k _ _ | exact stab_kg _ _ | exact stab_o _ _ _) ?_))) ?_
      try go_frame
      refine wpG_step _ _ rfl rfl (by simp) (fun w' hb' hR K hK => ?_) (fun v0 => ?_)
      · clear hR
        have := HP.out.below hb'
        go_simp
        exact hK _ _ (Below.refl _ _) this
      try go_frame
      refine wpG_step _ _ rfl rfl (by simp) (fun w' hb' hR K hK => ?_) (fun v1 => ?_)
      · clear hR
        have z := hb'.size
        go_simp
        exact hK _ _ (Below.refl _ _) rfl
      try go_frame
      refine wpG_step _ _ rfl rfl (by simp) (fun w' hb' hR K hK => ?_) (fun v2 => ?_)
      · obtain rfl : v1 = _ := hR 1 (by kernel_rfl)
        have c2 := below_cell hb' s0
        have z2 := World.block_lt_of_cell? w' _ c2
        simp only at z2
        clear hR
        go_simp
        exact hK _ _ (Below.refl _ _) rfl
      try go_frame
      refine wpG_step _ _ rfl rfl (by simp) (fun w' hb' hR K hK => ?_) (fun v3 => ?_)
      · obtain rfl : v2 = _ := hR 2 (by kernel_rfl)
        clear hR
        go_simp
        refine ((HB0 _).out).mono ?_
        rintro e w1 ⟨r, rfl, hb1, hp⟩
        exact hK _ _ hb1 (hp.mono (Nat.zero_le _))
      try go_frame
      refine wpG_step _ _ rfl rfl (by simp) (fun w' hb' hR K hK => ?_) (fun v4 => ?_)
      · clear hR
        have z := hb'.size
        go_simp
        exact hK _ _ (Below.refl _ _) rfl
      try go_frame
      refine wpG_step _ _ rfl rfl (by simp) (fun w' hb' hR K hK => ?_) (fun v5 => ?_)
      · obtain rfl : v4 = _ := hR 4 (by kernel_rfl)
        have c2 := below_cell hb' s1
        have z2 := World.block_lt_of_cell? w' _ c2
        simp only at z2
        clear hR
        go_simp
        exact hK _ _ (Below.refl _ _) rfl
      try go_frame
      refine wpG_step _ _ rfl rfl (by simp) (fun w' hb' hR K hK => ?_) (fun v6 => ?_)
      · obtain rfl : v5 = _ := hR 5 (by kernel_rfl)
        clear hR
        go_simp
        refine ((HB1 _).out).mono ?_
        rintro e w1 ⟨r, rfl, hb1, hp⟩
        exact hK _ _ hb1 (hp.mono (Nat.zero_le _))
      try go_frame
      refine wpG_step _ _ rfl rfl (by simp) (fun w' hb' hR K hK => ?_) (fun v7 => ?_)
      · clear hR
        have z := hb'.size
        go_simp
        exact hK _ _ (Below.refl _ _) rfl
      try go_frame
      refine wpG_step _ _ rfl rfl (by simp) (fun w' hb' hR K hK => ?_) (fun v8 => ?_)
      · obtain rfl : v7 = _ := hR 7 (by kernel_rfl)
        have c2 := below_cell hb' s2
        have z2 := World.block_lt_of_cell? w' _ c2
        simp only at z2
        clear hR
        go_simp
        exact hK _ _ (Below.refl _ _) rfl
      try go_frame
      refine wpG_step _ _ rfl rfl (by simp) (fun w' hb' hR K hK => ?_) (fun v9 => ?_)
      · obtain rfl : v8 = _ := hR 8 (by kernel_rfl)
        clear hR
        go_simp
        refine ((HB2 _).out).mono ?_
        rintro e w1 ⟨r, rfl, hb1, hp⟩
        exact hK _ _ hb1 (hp.mono (Nat.zero_le _))
      try go_frame
      refine wpG_step _ _ rfl rfl (by simp) (fun w' hb' hR K hK => ?_) (fun v10 => ?_)
      · have hp0 : PlanesV B w' v0 _ := hR 0 (by kernel_rfl)
        have hp1 : PlanesV 0 w' v3 _ := hR 3 (by kernel_rfl)
        have hp2 : PlanesV 0 w' v6 _ := hR 6 (by kernel_rfl)
        have hp3 : PlanesV 0 w' v9 _ := hR 9 (by kernel_rfl)
        have HP0 := Lib.hid hp0
        have HP1 := Lib.hid hp1
        have HP2 := Lib.hid hp2
        have HP3 := Lib.hid hp3
        obtain ⟨⟨a0, m0, c0, rfl, _⟩, _⟩ := hp0
        obtain ⟨⟨a1, m1, c1, rfl, _⟩, _⟩ := hp1
        obtain ⟨⟨a2, m2, c2, rfl, _⟩, _⟩ := hp2
        obtain ⟨⟨a3, m3, c3, rfl, _⟩, _⟩ := hp3
        clear hR
        go_simp
        exact hK _ _ (by (repeat (first | exact brf | assumption | refine ble ?_ | refine blx ?_ | refine bla ?_ | refine bls ?_ | refine bld ?_))) ⟨each_new [_, _, _, _] [_, _, _, _] rfl rfl rfl (by
          intro q hq
          simp only [List.zip_cons_cons, List.zip_nil_right, List.mem_cons, List.not_mem_nil, or_false] at hq
          rcases hq with rfl | rfl | rfl | rfl
          · exact (HP0.out.below (by (repeat (first | exact brf | assumption | refine ble ?_ | refine blx ?_ | refine bla ?_ | refine bls ?_ | refine bld ?_)))).mono (Nat.zero_le _)
          · exact HP1.out.below (by (repeat (first | exact brf | assumption | refine ble ?_ | refine blx ?_ | refine bla ?_ | refine bls ?_ | refine bld ?_)))
          · exact HP2.out.below (by (repeat (first | exact brf | assumption | refine ble ?_ | refine blx ?_ | refine bla ?_ | refine bls ?_ | refine bld ?_)))
          · exact HP3.out.below (by (repeat (first | exact brf | assumption | refine ble ?_ | refine blx ?_ | refine bla ?_ | refine bls ?_ | refine bld ?_)))), At.mk (Nat.zero_le _)⟩
      try go_frame
      refine wpG_step _ _ rfl rfl (by simp) (fun w' hb' hR K hK => ?_) (fun v11 => ?_)
      · have hp : CellsV 0 w' v10 _ := hR 10 (by kernel_rfl)
        obtain ⟨⟨a0, m0, c0, rfl, hm0, _, hx0⟩, _⟩ := hp
        obtain rfl : m0 = 4 := by simpa using hm0.symm
        obtain ⟨b0, off0, rfl, hi0⟩ := hx0 (by omega)
        have e1 : (([c, [axP 0 (-1) (-0), axP 0 1 l], [axP 1 (-1) (-0), axP 1 1 w], [axP 2 (-1) (-0), axP 2 1 t]] : List (List Q4)).map (List.flatMap enc4)).flatten = (boxP l w t c).flatMap enc4 := by simp [boxP]
        have hcat := Lib.hid (concat_cell w' b0 off0 c0 (([c, [axP 0 (-1) (-0), axP 0 1 l], [axP 1 (-1) (-0), axP 1 1 w], [axP 2 (-1) (-0), axP 2 1 t]] : List (List Q4)).map (List.flatMap enc4)) (by
            intro i hi
            obtain ⟨u, hu, hpu⟩ := hi0 i (by simpa using hi)
            exact ⟨u, hu, by rw [List.getElem_map]; exact hpu.1⟩) (by simp) (by simp) (by
            intro cs' hcs'
            obtain ⟨x, _, rfl⟩ := List.mem_map.1 hcs'
            exact enc4s_one x) (by
            rw [e1, enc4s_len]
            have := HPn.out
            simp [boxP]
            omega))
        have hz := hb'.size
        have E1 := Lib.hid e1
        clear hR hi0 hx0 e1
        go_simp
        refine hcat.out.mono ?_
        rintro e w1 ⟨r, m, rfl, hb1, ho⟩
        refine hK _ _ hb1 ?_
        rw [E1.out] at ho
        have e2 : m = (boxP l w t c).length := by have := ho.1; rw [enc4s_len] at this; omega
        rw [e2] at ho
        exact own_mono ho (by omega)
      go_frame
      refine wpG_nil (fun w' hb' hR => ?_)
      have ho : w'.ownsRow wr.heap.size 95 4 v11 (boxP l w t c).length ((boxP l w t c).flatMap enc4) := hR 11 (by simp)
      have HQ := Lib.hid ho
      have Hbl : Hid ((boxP l w t c).length ≤ 10000) := Lib.hid (by have := HPn.out; simp [boxP]; omega)
      clear hR ho HP s0 s1 s2 zb
      obtain ⟨bp, Hbp⟩ : ∃ bp, Hid (boxP l w t c = bp) := ⟨_, Lib.hid rfl⟩
      rw [Hbp.out] at HQ Hbl
      have hcm := Lib.hid (compactCells_any bp wr.heap.size bp.length v11 w' rfl (by have := Hbl.out; omega) HQ.out)
      simp only [opsAt, List.filterMap_cons, List.filterMap_nil, List.getElem?_toArray, List.getElem?_cons_zero, List.getElem?_cons_succ]
      go_wp2
      refine NoPanic.normal ?_
      go_wp2_with fail
      refine hcm.out.mono ?_
      rintro e w2 ⟨cv', rfl, hg2, ⟨ca, cn, cc', rfl⟩, ho2⟩
      have hb2 : Below wr.heap.size wr w2 := hb'.grown hg2 hb'.size (fun q hq => (HQ.out.lt q hq).1)
      have hQ2 := q4s_own ho2
      have Hcl : Hid ((Lib.compact bp).length ≤ 10000) := Lib.hid (Nat.le_trans (compact_len bp) Hbl.out)
      obtain ⟨cb, Hcb⟩ : ∃ cb, Hid (Lib.compact bp = cb) := ⟨_, Lib.hid rfl⟩
      rw [Hcb.out] at hQ2 Hcl
      have hnm := Lib.hid (Normal_any cb (.slice ca cn cc') w2 (by have := Hcl.out; omega) hQ2)
      clear hcm hg2 ho2 hQ2 HQ hb'
      go_wp2_with fail
      refine hnm.out.mono ?_
      rintro e w3 ⟨hb3, hpost⟩
      obtain ⟨nv, err, rfl, hown3⟩ : ∃ nv err, e = .returned (.tuple #[.agg #[nv], .int .i64 err]) ∧ w3.ownsRow wr.heap.size 95 4 nv (normN cb).length ((normN cb).flatMap enc4) := by
        rcases hpost with ⟨h0, v, rfl, ho⟩ | ⟨h0, rfl⟩
        · exact ⟨_, _, rfl, by unfold normN; rw [if_pos h0]; exact own_mono ho hb2.size⟩
        · exact ⟨_, _, rfl, by unfold normN; rw [if_neg h0]; exact World.ownsRow_nil _ _ _ _⟩
      have hbw3 : Below wr.heap.size wr w3 := hb2.trans (hb3.mono hb2.size)
      obtain ⟨na, nn, nc, rfl⟩ : ∃ a m c, nv = .slice a m c := by obtain ⟨a, m, c, h, _⟩ := q4s_own hown3; exact ⟨a, m, c, h⟩
      have HN3 := Lib.hid hown3
      have HS3 : Hid (w3.heap[W.heap.size]? = _) := Lib.hid ((hbw3.block _ (blk_lt HS.out)).trans HS.out)
      have HR3 : Hid (w3.heap[W.heap.size + 1]? = _) := Lib.hid ((hbw3.block _ (blk_lt HR.out)).trans HR.out)
      have HG3 : Hid (w3.heap[W.heap.size + 2]? = _) := Lib.hid ((hbw3.block _ (blk_lt HG.out)).trans HG.out)
      have HO3 := Lib.hid (own_below HO.out hbw3)
      have HV3 := Lib.hid (HV.out.below hbw3)
      have hW3 := below_trans hb hbw3
      have zr3 := Nat.le_trans zr hbw3.size
      have Hnn : Hid (inBoxC l w t c = normN cb) := Lib.hid (by unfold inBoxC; rw [Hbp.out, Hcb.out])
      have HN4 := Lib.hid (own_mono HN3.out zr)
      clear hpost hown3 hnm hb2 hb3 hbw3 HS HR HG HO HV hb zr Hbp Hcb HN3
      obtain ⟨sa, sc, rfl⟩ := own_slice HO3.out
      have g0 : w3.cell? ⟨W.heap.size + 2, 0, none⟩ = some (.slice sa k sc) := (blk_cell HG3.out 0).trans rfl
      have zg := blk_lt HG3.out
      go_wp2_with (at_builtin; refine wpList_append_own _ rfl _ _ 28 rfl (W.heap.size + 3) 93 i0 (.agg #[.slice none 0 0]) 1 24 und_cellL Hi0.out.1 Hi0.out.2.1 Hi0.out.2.2.1 Hi0.out.2.2.2 rfl (by decide) (.slice sa k sc) k _ rfl ((HO3.out.alloc _).alloc _) ⟨w3.heap.size + 1, 0, none⟩ 1 1 [.slice na nn nc] rfl rfl ?c1 ?c2 ?c3 ?c4 ?c5 ?_)
      case c1 =>
        intro jj uu hu
        rw [add0, cell_new (by simp) jj]
        simpa using hu
      case c2 => intro v hv; simp at hv; subst hv; rfl
      case c3 => unfold maxLen; omega
      case c4 => omega
      case c5 => simp; omega
      intro v' w5 hown5 hg5 _
      obtain ⟨va, vc, rfl⟩ := own_slice hown5
      have e4 : ∀ g, g < w3.heap.size → ((w3.alloc (.cells #[.slice na nn nc] 93)).alloc (.cells #[.slice na nn nc] 93)).heap[g]? = w3.heap[g]? := fun g hg => (heap_old (by simp; omega)).trans (heap_old hg)
      have HO4 := Lib.hid ((HO3.out.alloc (.cells #[.slice na nn nc] 93)).alloc (.cells #[.slice na nn nc] 93))
      have HS5 : Hid (w5.heap[W.heap.size]? = _) := Lib.hid ((hg5.block _ (by simp; omega) (fun e => own_blk_ne HO4.out ((e4 _ (blk_lt HS3.out)).trans HS3.out) (by decide) e.symm)).trans ((e4 _ (blk_lt HS3.out)).trans HS3.out))
      have HR5 : Hid (w5.heap[W.heap.size + 1]? = _) := Lib.hid ((hg5.block _ (by simp; omega) (fun e => own_blk_ne HO4.out ((e4 _ (blk_lt HR3.out)).trans HR3.out) (by decide) e.symm)).trans ((e4 _ (blk_lt HR3.out)).trans HR3.out))
      have HG5 : Hid (w5.heap[W.heap.size + 2]? = _) := Lib.hid ((hg5.block _ (by simp; omega) (fun e => own_blk_ne HO4.out ((e4 _ (blk_lt HG3.out)).trans HG3.out) (by decide) e.symm)).trans ((e4 _ (blk_lt HG3.out)).trans HG3.out))
      have hb34 : Below w3.heap.size w3 ((w3.alloc (.cells #[.slice na nn nc] 93)).alloc (.cells #[.slice na nn nc] 93)) := by (repeat (first | exact brf | assumption | refine ble ?_ | refine blx ?_ | refine bla ?_ | refine bls ?_ | refine bld ?_))
      have HV5 := Lib.hid (((HV3.out.snoc HN4.out).below hb34).kept hg5 (fun g cs hr hc => by obtain ⟨c, t, h1, h2⟩ := own_row_type HO4.out g cs hr hc; exact ⟨c, t, h1, by rw [h2]; decide⟩))
      have hW5 : Below W.heap.size W w5 := (below_trans hW3 hb34).grown hg5 (by simp; omega) (fun q hq => by have := (HO4.out.lt q hq).1; omega)
      have zr5 : W.heap.size + 3 ≤ w5.heap.size := Nat.le_trans (by simp; omega) hg5.size
      have HO5 := Lib.hid hown5
      have g5 : w5.cell? ⟨W.heap.size + 2, 0, none⟩ = some (.slice sa k sc) := (blk_cell HG5.out 0).trans rfl
      have gf := blk_free HG5.out 0
      have zg5 := blk_lt HG5.out
      clear hown5 hg5 e4 HO4 HS3 HR3 HG3 HO3 HV3 hb34 hW3 zr3 zg g0 HN4
      go_wp2
      go_roundw
      case rel =>
        refine ⟨k + 1, by omega, by go_num, hW5.setCell (by simp <;> omega) _, (by simp; omega), Lib.hid ((Below.heap_setCell _ _ _ _ (by simp <;> omega)).trans HS5.out), Lib.hid ((Below.heap_setCell _ _ _ _ (by simp <;> omega)).trans HR5.out), .slice va (k + 1) vc, _, Lib.hid (blk_set HG5.out 0 _), Lib.hid (own_setCell_far HO5.out _ _ (fun e => own_blk_ne HO5.out HG5.out (by decide) e.symm)), Lib.hid ?_⟩
        rw [Hsn.out, Hnn.out]
        exact HV5.out.set HG5.out (by decide)
      case measure => simp [intOf]; omega
    · obtain rfl : k = n := by omega
      obtain ⟨sa, sc, rfl⟩ := own_slice HO.out
      have g0 : wr.cell? ⟨W.heap.size + 2, 0, none⟩ = some (.slice sa k sc) := (blk_cell HG.out 0).trans rfl
      have r0 : wr.cell? ⟨W.heap.size + 1, 0, none⟩ = some (.slice none 0 0) := (blk_cell HR.out 0).trans rfl
      have rf := blk_free HR.out 0
      have zg := blk_lt HG.out
      go_wp2
      refine bodyPost_ret (v := .agg #[.slice sa k sc]) (by simp [results, Tryz.results53, go_sem, r0]) rfl ⟨_, vs, rfl, hb.setCell (by simp) _, ?_, ?_⟩
      · exact own_mono (own_setCell_far HO.out _ _ (fun e => own_blk_ne HO.out HR.out (by decide) e.symm)) (by omega)
      · have := HV.out
        rw [List.take_of_length_le (by have := Hlen.out; omega)] at this
        exact (this.set HR.out (by decide)).mono (by omega)
end
end Go.Proofs.YtjglkglaogaenaaGreatDoor
