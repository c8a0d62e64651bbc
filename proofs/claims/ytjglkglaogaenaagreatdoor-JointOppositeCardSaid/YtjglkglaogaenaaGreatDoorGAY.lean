/- texts of mine, merged: H3, H4, H5. -/
import Derived.Test.YtjglkglaogaenaaGreatDoorGAX
import Derived.Test.YtjglkglaogaenaaGreatDoorGAT
import Derived.Test.YtjglkglaogaenaaGreatDoorGAU
/- solid: turns, an iterator. -/
namespace Go.Proofs.YtjglkglaogaenaaGreatDoor
section
open Go.RowKit Go.Shelf
attribute [local go_sem] Oper.semAt_some
/-- Every block of this type lies as it lay. -/
def KT (T : TypeId) (A B : World) : Prop := A.heap.size ≤ B.heap.size ∧ ∀ (g : Nat) (cs : Array Value), A.heap[g]? = some (Obj.cells cs T (0, 0)) → B.heap[g]? = some (Obj.cells cs T (0, 0))
theorem KT.refl (T : TypeId) (A : World) : KT T A A := ⟨Nat.le_refl _, fun _ _ h => h⟩
theorem KT.trans {T : TypeId} {A B C : World} (h : KT T A B) (k : KT T B C) : KT T A C := ⟨Nat.le_trans h.1 k.1, fun g cs e => k.2 g cs (h.2 g cs e)⟩
theorem KT.of_below {T : TypeId} {A B : World} (h : Below A.heap.size A B) : KT T A B := ⟨h.size, fun g _ e => (h.block g (blk_lt e)).trans e⟩
abbrev TurnS := { t : T6 // t ∈ turnsL }
set_option maxRecDepth 100000 in
set_option maxHeartbeats 4000000 in
theorem turns_in (l : Nat) (J Jx : List TurnS → World → Prop) (W0 : World) (hJa : AbidesFrom W0.heap.size J) (n : Nat) (hn : 1 ≤ n)
    (hY : ∀ pre x W1, J pre W1 → pre.length < 48 → YieldAt Fence.wide (n - 1) Tryz.prog l #[vT x.1] W1 fun e W' =>
      (e = .returned (.bool true) ∧ J (pre ++ [x]) W' ∧ KT 169 W1 W') ∨ (e = .returned (.bool false) ∧ Jx (pre ++ [x]) W'))
    (W : World) (h0 : J [] W) :
    CallsIn Fence.wide n Tryz.prog 189 #[.func (.yield l) #[] #[]] W fun e W' => (∃ v, e = .returned v) ∧ ((∃ xs : List TurnS, xs.map Subtype.val = turnsL ∧ J xs W') ∨ (∃ pre : List TurnS, True ∧ Jx pre W')) := by
  refine callsIn_of_wp Tryz.func189 rfl trivial ?_ rfl
  simp only [Tryz.ntmps189, List.size_toArray, List.length_cons, List.length_nil, Nat.reduceAdd, Nat.reduceSub, Array.replicate_succ, Array.replicate_zero, List.push_toArray, List.append_toArray, List.nil_append, List.cons_append]
  gi_wp2
  gi_loopw [6] (fun i wr => ∃ p : Nat, p ≤ 9 ∧ i = .int .i64 p ∧ ∃ pre : List TurnS, Hid (pre.map Subtype.val = tpre (8 * p)) ∧ J pre wr) (fun i _ => (9 - intOf i).toNat)
  case atStart => exact ⟨0, by omega, rfl, [], Lib.hid rfl, h0⟩
  case round =>
    obtain ⟨p, hp, rfl, pre, Hp, hJ⟩ := hrel
    by_cases hp9 : p < 9
    · have t1 : (p : Int) < 9 := by omega
      obtain ⟨a, Ha⟩ : ∃ a, Hid (p / 3 = a) := ⟨_, Lib.hid rfl⟩
      obtain ⟨b, Hb⟩ : ∃ b, Hid (p % 3 = b) := ⟨_, Lib.hid rfl⟩
      have ha := Ha.out
      have hb := Hb.out
      have ab : a ≤ 2 ∧ b ≤ 2 := by omega
      have e1 : (p : Int) / 3 = a := by omega
      have e2 : (p : Int) % 3 = b := by omega
      clear ha hb
      by_cases hab : a = b
      · gi_wp2
        have Hs := Lib.hid (tpre_skip (p := p) (by have := Ha.out; have := Hb.out; omega))
        have hJ2 := abide_alloc hJa hJ (.cells #[.int .i64 b, .int .i64 b, .int .i64 (3 - (b : Int) - b)] 169)
        go_roundw
        case rel => exact ⟨p + 1, by omega, by go_num, pre, Lib.hid (by rw [Hs.out]; exact Hp.out), hJ2⟩
        case measure => first | (simp [intOf]; done) | (simp [intOf]; omega)
      · have hab' : ((a : Int) == (b : Int)) = false := by simp; omega
        have Hne : Hid (p / 3 ≠ p % 3) := Lib.hid (by rw [Ha.out, Hb.out]; exact hab)
        clear hab
        gi_wp2
        obtain ⟨wo, HWo⟩ : ∃ wo, Hid (wr.alloc (.cells #[.int .i64 a, .int .i64 b, .int .i64 (3 - (a : Int) - b)] 169) = wo) := ⟨_, Lib.hid rfl⟩
        have hF : wo.heap[wr.heap.size]? = some (.cells #[.int .i64 a, .int .i64 b, .int .i64 (3 - (a : Int) - b)] 169 (0, 0)) := by rw [← HWo.out]; exact heap_new rfl
        have hJo : J pre wo := by rw [← HWo.out]; exact abide_alloc hJa hJ _
        rw [HWo.out]
        clear HWo hJ e1 e2
        generalize wr.heap.size = gF at *
        obtain ⟨f2, hf2⟩ : ∃ f2 : Int, 3 - (a : Int) - b = f2 := ⟨_, rfl⟩
        rw [hf2] at hF
        have Hf2 := Lib.hid hf2
        clear hf2
        gi_loopw [25] (fun i wi => ∃ s : Nat, s ≤ 8 ∧ i = .int .i64 s ∧ ∃ pre : List TurnS, Hid (pre.map Subtype.val = tpre (8 * p + s)) ∧ J pre wi ∧ wi.heap[gF]? = some (.cells #[.int .i64 a, .int .i64 b, .int .i64 f2] 169 (0, 0))) (fun i _ => (8 - intOf i).toNat)
        case atStart => exact ⟨0, by omega, rfl, pre, Hp, hJo, hF⟩
        case round =>
          clear hJo hF Hp pre
          obtain ⟨s, hs, rfl, pre, Hp, hJ, hF⟩ := hrel
          by_cases hs8 : s < 8
          · have t2 : (s : Int) < 8 := by omega
            obtain ⟨c, Hc⟩ : ∃ c, Hid (s / 4 = c) := ⟨_, Lib.hid rfl⟩
            obtain ⟨d, Hd⟩ : ∃ d, Hid (s / 2 % 2 = d) := ⟨_, Lib.hid rfl⟩
            obtain ⟨e, He⟩ : ∃ e, Hid (s % 2 = e) := ⟨_, Lib.hid rfl⟩
            have hc := Hc.out
            have hd := Hd.out
            have he := He.out
            have cb : c ≤ 1 ∧ d ≤ 1 ∧ e ≤ 1 := by omega
            have e3 : (s : Int) / 4 = c := by omega
            have e4 : (s : Int) / 2 % 2 = d := by omega
            have e5 : (s : Int) % 2 = e := by omega
            clear hc hd he
            have Hmem := Lib.hid (turn_mem hp9 hs8 Hne.out)
            have Hs := Lib.hid (tpre_at hs8 Hne.out)
            have Hfs : Hid ((fromT p, signT s) = ((((a : Int), (b : Int), f2), (1 - (c : Int) * 2, 1 - (d : Int) * 2, 1 - (e : Int) * 2)) : T6)) := Lib.hid (by
              unfold fromT signT
              rw [Ha.out, Hb.out, Hc.out, Hd.out, He.out, Hf2.out])
            rw [Hfs.out] at Hmem Hs
            have hpl : pre.length < 48 := by
              have h1 : pre.length = (tpre (8 * p + s)).length := by rw [← Hp.out]; simp
              rw [h1]
              exact tpre_lt (by omega) Hne.out hs8
            obtain ⟨c0, c1, c2, ff, zf⟩ := blk3 hF
            obtain ⟨fn, tmps, assign, body, hy, hR⟩ := hY pre ⟨_, Hmem.out⟩ (wr.alloc (.cells #[.int .i64 (1 - (c : Int) * 2), .int .i64 (1 - (d : Int) * 2), .int .i64 (1 - (e : Int) * 2)] 169)) (abide_alloc hJa hJ _) hpl
            dsimp only [vT] at hy
            have Hs' : Hid ((pre ++ [(⟨_, Hmem.out⟩ : TurnS)]).map Subtype.val = tpre (8 * p + (s + 1))) := Lib.hid (by
              rw [show 8 * p + (s + 1) = 8 * p + s + 1 by omega, Hs.out, List.map_append, Hp.out]; rfl)
            have hFa : (wr.alloc (.cells #[.int .i64 (1 - (c : Int) * 2), .int .i64 (1 - (d : Int) * 2), .int .i64 (1 - (e : Int) * 2)] 169)).heap[gF]? = some (.cells #[.int .i64 a, .int .i64 b, .int .i64 f2] 169 (0, 0)) := (heap_old zf).trans hF
            have hFA := Lib.hid hFa
            clear hY hJ hF Hs Hp Hfs hFa
            gi_wp2
            refine hR.mono ?_
            rintro ee W3 (⟨rfl, hJ3, hk3⟩ | ⟨rfl, hJx3⟩)
            · have hF3 := hk3.2 _ _ hFA.out
              gi_wp2
              go_roundw
              case rel => exact ⟨s + 1, by omega, by go_num, _, Hs', hJ3, hF3⟩
              case measure => first | (simp [intOf]; done) | (simp [intOf]; omega)
            · gi_wp2
              refine bodyPost_ret (results_none rfl _ _ _) rfl ?_
              exact ⟨⟨_, rfl⟩, .inr ⟨_, trivial, hJx3⟩⟩
          · obtain rfl : s = 8 := by omega
            have t2 : ¬ ((8 : Nat) : Int) < 8 := by omega
            gi_wp2
            go_roundw
            case rel => exact ⟨p + 1, by omega, by go_num, pre, Lib.hid (by rw [show 8 * (p + 1) = 8 * p + 8 by omega]; exact Hp.out), hJ⟩
            case measure => first | (simp [intOf]; done) | (simp [intOf]; omega)
    · obtain rfl : p = 9 := by omega
      gi_wp2
      go_end0
      exact ⟨⟨_, rfl⟩, .inl ⟨pre, Hp.out, hJ⟩⟩
end
/- solid: all turns by their numbers. -/
section
open Go.RowKit Go.Shelf
attribute [local go_sem] Oper.semAt_some
theorem info_turn : (Tryz.prog.info? 171).map (fun i => (i.zero, i.size, i.bytes)) = some (some (vT ((0, 0, 0), (0, 0, 0))), 6, 48) := by kernel_rfl
theorem und_turns : Tryz.prog.underlying 172 = some (.slice 171) := by kernel_rfl
def filT (p : T6 → Bool) (pre : List TurnS) : List T6 := (pre.map Subtype.val).filter p
theorem filT_hit (p : T6 → Bool) (pre : List TurnS) {x : TurnS} (h : p x.1 = true) : filT p (pre ++ [x]) = filT p pre ++ [x.1] := by simp [filT, h]
theorem filT_miss (p : T6 → Bool) (pre : List TurnS) {x : TurnS} (h : p x.1 = false) : filT p (pre ++ [x]) = filT p pre := by simp [filT, h]
theorem filT_len (p : T6 → Bool) (pre : List TurnS) : (filT p pre).length ≤ pre.length := by
  unfold filT
  exact Nat.le_trans (List.length_filter_le _ _) (by simp)
theorem filT_mem {p : T6 → Bool} {pre : List TurnS} {t : T6} (h : t ∈ filT p pre) : p t = true := (List.mem_filter.1 h).2
theorem turns_stops (n : Nat) (hn : 1 ≤ n) (w : World) : SeqStopsK Fence.wide n Tryz.prog 189 #[] (fun x : TurnS => #[vT x.1]) (KT 169) (fun xs => xs.map Subtype.val = turnsL) (fun _ => True) 48 w := fun l J Jx W _ hJ _ hY h0 => by
  have := turns_in l J Jx W hJ n hn hY W h0
  simpa using this
theorem kt_t {T : TypeId} {A B C : World} (h : KT T A B) (k : KT T B C) : KT T A C := h.trans k
theorem kt_b {T : TypeId} {w : World} (W : World) (l : Nat) (o o' : Obj) (_ : w.heap.size ≤ l) (h : W.heap[l]? = some o) (hc : o.isCells = false) (_ : o.isWalk = false) : KT T W (W.putObj l o') := by
  have hg := grownBy_putObj' W l o'
  refine ⟨hg.size, fun g cs e => ?_⟩
  by_cases hgl : g = l
  · subst hgl
    rw [e] at h
    cases h
    cases hc
  · exact (hg.block g (blk_lt e) (by simpa using hgl)).trans e
theorem enc6_inj {t u : T6} (h : enc6 t = enc6 u) : t = u := by
  obtain ⟨⟨a, b, c⟩, d, e, f⟩ := t
  obtain ⟨⟨a', b', c'⟩, d', e', f'⟩ := u
  simp [enc6] at h
  obtain ⟨rfl, rfl, rfl, rfl, rfl, rfl⟩ := h
  rfl
/-- Two rows of different turns lie in different blocks. -/
theorem rows_apart {w : World} {b1 b2 : Nat} {T : TypeId} {v v2 : Value} {xs ys : List T6} (h1 : w.ownsRow b1 T 6 v xs.length (xs.flatMap enc6)) (h2 : w.ownsRow b2 T 6 v2 ys.length (ys.flatMap enc6))
    (n1 : xs = [] → v = .slice none 0 0) (n2 : ys = [] → v2 = .slice none 0 0) (hd : ∀ t ∈ xs, ∀ u ∈ ys, t ≠ u) : v.ownBlock = none ∨ v.ownBlock ≠ v2.ownBlock := by
  rcases h1.2 with ⟨rfl, _⟩ | ⟨g, cap, cur, rfl, _, hh, _, _, _, ht⟩
  · exact .inl rfl
  · rcases h2.2 with ⟨rfl, _⟩ | ⟨g', cap', cur', rfl, _, hh', _, _, _, ht'⟩
    · exact .inr (by simp [Value.ownBlock])
    · refine .inr fun e => ?_
      obtain rfl : g = g' := by simpa [Value.ownBlock] using e
      rw [hh] at hh'
      cases hh'
      cases xs with
      | nil => cases n1 rfl
      | cons t xs =>
        cases ys with
        | nil => cases n2 rfl
        | cons u ys =>
          refine hd t (by simp) u (by simp) (enc6_inj ?_)
          have a1 : cur.toList.take 6 = enc6 t := by
            have := congrArg (List.take 6) ht
            rw [List.take_take, List.flatMap_cons] at this
            rw [show min 6 ((t :: xs).length * 6) = 6 by simp; omega] at this
            rw [this, List.take_append_of_le_length (by simp [enc6]), List.take_of_length_le (by simp [enc6])]
          have a2 : cur.toList.take 6 = enc6 u := by
            have := congrArg (List.take 6) ht'
            rw [List.take_take, List.flatMap_cons] at this
            rw [show min 6 ((u :: ys).length * 6) = 6 by simp; omega] at this
            rw [this, List.take_append_of_le_length (by simp [enc6]), List.take_of_length_le (by simp [enc6])]
          rw [← a1, a2]
theorem kt_app {T e t : TypeId} {X w3 : World} {B base size k : Nat} {v u : Value} {xs : List Value} {tmp : Obj} (hv : Boxed X B t v) (hrow : X.ownsRow base e size v k xs) (hgrow : (X.alloc tmp).grownBy w3 v.ownBlock) (hT : e ≠ T) (hT2 : t ≠ T) : KT T X (w3.setCell ⟨B, 0, none⟩ u) := by
  refine ⟨?_, fun g cs h => blk_app h hT hrow hgrow B u fun eq => ?_⟩
  · have := hgrow.size
    simp at this ⊢
    omega
  · subst eq
    rw [show X.heap[B]? = _ from hv] at h
    cases h
    exact hT2 rfl
theorem box_app {t' e : TypeId} {X w3 : World} {B B' base size k : Nat} {v v' u : Value} {xs : List Value} {tmp : Obj} (h : Boxed X B' t' v') (hT : e ≠ t') (hrow : X.ownsRow base e size v k xs) (hgrow : (X.alloc tmp).grownBy w3 v.ownBlock) (hb : B ≠ B') : Boxed (w3.setCell ⟨B, 0, none⟩ u) B' t' v' := blk_app h hT hrow hgrow B u hb
theorem row_app {e : TypeId} {X w3 : World} {B base base' size k k' : Nat} {v v' u : Value} {xs ys : List Value} {tmp : Obj} {t : TypeId} {v0 : Value} (h : X.ownsRow base' e size v' k' ys) (hgrow : (X.alloc tmp).grownBy w3 v.ownBlock) (hne : v'.ownBlock = none ∨ v'.ownBlock ≠ v.ownBlock) (hB : Boxed X B t v0) (ht : t ≠ e) (hrow : X.ownsRow base e size v k xs) : (w3.setCell ⟨B, 0, none⟩ u).ownsRow base' e size v' k' ys := by
  have h3 : w3.ownsRow base' e size v' k' ys := (h.alloc tmp).kept hgrow hne
  refine h3.kept (grownBy_setCell' w3 B u) ?_
  have hB3 : Boxed w3 B t v0 := (hB.alloc tmp).kept hgrow (hB.not_row ht hrow)
  exact .inr (hB3.not_row ht h3).symm
end
/- solid: all. -/
section
open Go.RowKit Go.Shelf
attribute [local go_sem] Oper.semAt_some
theorem own_cells {w : World} {base : Nat} {e : TypeId} {size n : Nat} {v : Value} {xs : List Value} (h : w.ownsRow base e size v n xs) : ∀ (j : Nat) (o : Obj), v.ownBlock = some j → w.heap[j]? = some o → o.isCells = true := by
  intro j o hj ho
  rcases h.2 with ⟨rfl, _⟩ | ⟨g, cap, cur, rfl, _, hh, _⟩
  · simp [Value.ownBlock] at hj
  · obtain rfl : g = j := by simpa [Value.ownBlock] using hj
    rw [hh] at ho
    cases ho
    rfl
theorem own_news {w : World} {base : Nat} {e : TypeId} {size n g cap : Nat} {xs : List Value} (h : w.ownsRow base e size (.slice (some ⟨g, 0, none⟩) n cap) n xs) : ∀ j u, xs[j]? = some u → w.cell? ((⟨g, 0, none⟩ : Addr).add j) = some u := by
  intro j u hu
  rcases h.2 with ⟨h, _⟩ | ⟨g', cap', cur, e', _, hh, _, _, _, ht⟩
  · cases h
  · cases e'
    rw [add0, blk_cell hh]
    have hj : j < xs.length := (List.getElem?_eq_some_iff.1 hu).1
    have h2 : (cur.toList.take (n * size))[j]? = some u := by rw [ht]; exact hu
    rw [List.getElem?_take_of_lt (by rw [← h.1]; exact hj)] at h2
    simpa using h2
set_option maxRecDepth 100000 in
set_option maxHeartbeats 4000000 in
theorem all_any (W : World) : Calls Tryz.prog 153 #[] W fun e w' => ∃ r, e = .returned r ∧ Below W.heap.size W w' ∧ w'.ownsRow W.heap.size 171 6 r all48.length (all48.flatMap enc6) := by
  obtain ⟨i0, hi0, hz0, hz1, hz2⟩ := info_parts info_turn
  have Hi0 := Lib.hid (And.intro hi0 (And.intro hz0 (And.intro hz1 hz2)))
  clear hi0 hz0 hz1 hz2
  have HMA := fun t (ht : t ∈ turnsL) X => Lib.hid (mirrors_any t (turns_ok _ ht) X)
  have HL : (turnsL.filter (fun t => !mirB t)).length = 24 ∧ (turnsL.filter mirB).length = 24 := by decide +kernel
  have HALL : Hid (turnsL.filter (fun t => !mirB t) ++ turnsL.filter mirB = all48) := Lib.hid rfl
  have HC : Hid (all48.length = 48) := Lib.hid all_len
  generalize mirB = mB at *
  obtain ⟨nB, hnB, HnB⟩ : ∃ nB : T6 → Bool, (fun t => !mB t) = nB ∧ Hid (∀ t, nB t = !mB t) := ⟨_, rfl, Lib.hid fun _ => rfl⟩
  rw [hnB] at HL HALL
  clear hnB
  refine (callsIn_wide (n := 6)).1 ?_
  refine callsIn_of_wp_marks Tryz.func153 rfl trivial ?_ rfl
  simp only [Tryz.ntmps153, List.size_toArray, List.length_nil, Nat.reduceSub, Array.replicate_succ, Array.replicate_zero, List.push_toArray, List.append_toArray, List.nil_append, List.cons_append]
  gi_wp2
  obtain ⟨W0, HW0⟩ : ∃ W0, Hid ((W.alloc (.cells #[.slice none 0 0] 172)).alloc (.cells #[.slice none 0 0] 172) = W0) := ⟨_, Lib.hid rfl⟩
  have hB0 : Below W.heap.size W W0 := by rw [← HW0.out]; (repeat (first | exact brf | assumption | refine ble ?_ | refine blx ?_ | refine bla ?_ | refine bls ?_ | refine bld ?_))
  have hO0 : Boxed W0 W.heap.size 172 (.slice none 0 0) := by rw [← HW0.out]; exact (heap_old (by simp)).trans (heap_new rfl)
  have hO1 : Boxed W0 (W.heap.size + 1) 172 (.slice none 0 0) := by rw [← HW0.out]; exact heap_new (by simp)
  have hsz : W0.heap.size = W.heap.size + 2 := by rw [← HW0.out]; simp
  rw [HW0.out]
  clear HW0
  refine wpIn_rangeFunc_ownH rfl (by omega) (gf := 189) (lb := #[]) rfl trivial (enters_of Tryz.func189 (by kernel_rfl) rfl)
    (turns_stops (6 - 1) (by omega) W0) kt_t kt_b (Below.refl _ _) (fun _ => rfl)
    (fun pre X => ((∃ v, Boxed X W.heap.size 172 v ∧ X.ownsRow W.heap.size 171 6 v (filT nB pre).length ((filT nB pre).flatMap enc6) ∧ (filT nB pre = [] → v = .slice none 0 0)) ∧ (∃ v, Boxed X (W.heap.size + 1) 172 v ∧ X.ownsRow W.heap.size 171 6 v (filT mB pre).length ((filT mB pre).flatMap enc6) ∧ (filT mB pre = [] → v = .slice none 0 0))) ∧ Below W.heap.size W X)
    (fun _ _ _ => False)
    (OwnFrom.and (OwnFrom.and (Own.from (holdsRow_own W.heap.size W.heap.size 172 171 6 (fun pre => (filT nB pre).length) (fun pre => (filT nB pre).flatMap enc6) (fun pre v => filT nB pre = [] → v = .slice none 0 0)) _) (Own.from (holdsRow_own W.heap.size (W.heap.size + 1) 172 171 6 (fun pre => (filT mB pre).length) (fun pre => (filT mB pre).flatMap enc6) (fun pre v => filT mB pre = [] → v = .slice none 0 0)) _)) (ownFrom_below (Nat.le_refl _) (by omega)))
    (fun _ _ _ _ _ hs _ _ => hs)
    ⟨⟨⟨_, hO0, World.ownsRow_nil _ _ _ _, fun _ => rfl⟩, ⟨_, hO1, World.ownsRow_nil _ _ _ _, fun _ => rfl⟩⟩, hB0⟩
    (fun x a' X => ∃ Bx, W.heap.size + 1 < Bx ∧ X.heap[Bx]? = some (.cells #[.int .i64 x.1.1.1, .int .i64 x.1.1.2.1, .int .i64 x.1.1.2.2, .int .i64 x.1.2.1, .int .i64 x.1.2.2.1, .int .i64 x.1.2.2.2] 171 (0, 0)) ∧ a' = { tmps := #[.slice none 0 0, .pointer (some ⟨W.heap.size, 0, none⟩), .pointer (some ⟨W.heap.size + 1, 0, none⟩), .pointer (some ⟨Bx, 0, none⟩), vT x.1, undef, undef, undef, undef, undef, undef, undef, undef, undef, undef, undef, undef, undef], defers := [] })
    (fun x a' _ X Y row hs hg hr => by obtain ⟨Bx, h1, h2, h3⟩ := hs; exact ⟨Bx, h1, blkS_own Bx (fun (_ : Unit) => #[.int .i64 x.1.1.1, .int .i64 x.1.1.2.1, .int .i64 x.1.1.2.2, .int .i64 x.1.2.1, .int .i64 x.1.2.2.1, .int .i64 x.1.2.2.2]) 171 () X Y row h2 hg (fun r e => (hr r e).2), h3⟩)
    ?assign ?body ?done ?stop
  case assign =>
    rintro L pre x X K ⟨⟨⟨v, hv, hrow, hnil⟩, v2, hv2, hrow2, hnil2⟩, hB⟩ hK
    obtain ⟨⟨⟨p0, p1, p2⟩, s0, s1, s2⟩, hx⟩ := x
    have hlt := hv2.lt
    simp only [vT]
    gi_wp2
    exact hK _ _ ((KeepsOthers.alloc _ _).from _) (KT.of_below (by (repeat (first | exact brf | assumption | refine ble ?_ | refine blx ?_ | refine bla ?_ | refine bls ?_ | refine bld ?_)))) ⟨⟨⟨v, hv.alloc _, hrow.alloc _, hnil⟩, v2, hv2.alloc _, hrow2.alloc _, hnil2⟩, hB.alloc hB.size _⟩ ⟨X.heap.size, by omega, heap_new rfl, rfl⟩
  case body =>
    rintro L pre x a' X hl ⟨r, hr⟩ ⟨⟨⟨v, hv, hrow, hnil⟩, v2, hv2, hrow2, hnil2⟩, hB⟩ ⟨Bx, hBx, hX, rfl⟩ hlt
    obtain ⟨⟨⟨p0, p1, p2⟩, s0, s1, s2⟩, hx⟩ := x
    simp only at hX
    have xc0 := (blk_cell hX 0).trans rfl
    have xc1 := (blk_cell hX 1).trans rfl
    have xc2 := (blk_cell hX 2).trans rfl
    have xc3 := (blk_cell hX 3).trans rfl
    have xc4 := (blk_cell hX 4).trans rfl
    have xc5 := (blk_cell hX 5).trans rfl
    simp only [List.getElem?_toArray, List.getElem?_cons_zero, List.getElem?_cons_succ] at xc0 xc1 xc2 xc3 xc4 xc5
    have xz := blk_lt hX
    have co := hv.cell
    have co2 := hv2.cell
    have HM := HMA ((p0, p1, p2), s0, s1, s2) hx X
    simp only [vT] at HM
    cases hm : mB ((p0, p1, p2), s0, s1, s2) with
    | true =>
      have hm' : nB ((p0, p1, p2), s0, s1, s2) = false := by rw [HnB.out, hm]; rfl
      rw [hm] at HM
      gi_wp2_with fail
      refine ⟨trivial, ?_⟩
      refine (CallsIn.inRound L (callsIn_wide.2 HM.out)).mono ?_
      rintro e w2 ⟨rfl, hb2⟩
      have hv' : Boxed w2 W.heap.size 172 v := (hb2.block _ hv.lt).trans hv
      have hv2' : Boxed w2 (W.heap.size + 1) 172 v2 := (hb2.block _ hv2.lt).trans hv2
      have hX2 := (hb2.block _ (blk_lt hX)).trans hX
      have hrow' := own_below hrow hb2
      have hrow2' := own_below hrow2 hb2
      have hBp : Below W.heap.size W w2 := hB.trans (hb2.mono hB.size)
      have hKp : KeepsFrom W0.heap.size X w2 := keeps_below hb2
      have ap1 := rows_apart hrow' hrow2' hnil hnil2 (fun t ht u hu e => by have h1 := filT_mem ht; have h2 := filT_mem hu; rw [e, HnB.out, h2] at h1; cases h1)
      have ap2 := rows_apart hrow2' hrow' hnil2 hnil (fun t ht u hu e => by have h1 := filT_mem ht; have h2 := filT_mem hu; rw [HnB.out, ← e, h1] at h2; cases h2)
      clear xc0 xc1 xc2 xc3 xc4 xc5 xz co co2
      have xc0 := (blk_cell hX2 0).trans rfl
      have xc1 := (blk_cell hX2 1).trans rfl
      have xc2 := (blk_cell hX2 2).trans rfl
      have xc3 := (blk_cell hX2 3).trans rfl
      have xc4 := (blk_cell hX2 4).trans rfl
      have xc5 := (blk_cell hX2 5).trans rfl
      simp only [List.getElem?_toArray, List.getElem?_cons_zero, List.getElem?_cons_succ] at xc0 xc1 xc2 xc3 xc4 xc5
      have xz := blk_lt hX2
      have co := hv'.cell
      have co2 := hv2'.cell
      gi_wp2_with (gi_at_builtin; refine wpListIn_append_own _ rfl _ _ 172 rfl W.heap.size 171 i0 (vT ((0, 0, 0), (0, 0, 0))) 6 48 und_turns Hi0.out.1 Hi0.out.2.1 Hi0.out.2.2.1 Hi0.out.2.2.2 rfl (by decide) _ _ _ rfl (hrow2'.alloc _) ⟨w2.heap.size, 0, none⟩ 1 1 (enc6 ((p0, p1, p2), (s0, s1, s2))) rfl rfl (fun jj uu hu => by rw [add0, cell_new rfl jj]; simpa [enc6] using hu) (fun u hu => by simp [enc6] at hu; rcases hu with rfl | rfl | rfl | rfl | rfl | rfl <;> rfl) (by have := filT_len mB pre; unfold maxLen; omega) (by have := filT_len mB pre; omega) (by have := hBp.size; simp; omega) ?_; intro v' w3 hown' hgrow hnn; obtain ⟨g', cap', rfl⟩ := ownsRow_succ hown'; obtain ⟨hv3, hv4, hr4, hk4, hb4⟩ := hv2'.appended (by decide) hrow2' hBp.size (by omega) hown' hgrow; have o1 := box_app (u := .slice (some ⟨g', 0, none⟩) ((filT mB pre).length + 1) cap') hv' (by decide) hrow2' hgrow (B := W.heap.size + 1) (by omega); have o2 := row_app (u := .slice (some ⟨g', 0, none⟩) ((filT mB pre).length + 1) cap') hrow' hgrow ap1 hv2' (by decide) hrow2'; have kt := kt_app (T := 169) (u := .slice (some ⟨g', 0, none⟩) ((filT mB pre).length + 1) cap') hv2' hrow2' hgrow (by decide) (by decide); have co3 := hv3.cell; have cf3 := hv3.frozen; clear hX2 xc0 xc1 xc2 xc3 xc4 xc5 xz co co2)
      exact ⟨hKp.trans (hk4.from _), (KT.of_below hb2).trans kt, ⟨⟨_, o1, by rw [filT_miss nB pre (x := ⟨((p0, p1, p2), s0, s1, s2), hx⟩) hm']; exact o2, by rw [filT_miss nB pre (x := ⟨((p0, p1, p2), s0, s1, s2), hx⟩) hm']; exact hnil⟩, ⟨_, hv4, by rw [filT_hit mB pre (x := ⟨((p0, p1, p2), s0, s1, s2), hx⟩) hm]; simpa using hr4, by rw [filT_hit mB pre (x := ⟨((p0, p1, p2), s0, s1, s2), hx⟩) hm]; simp⟩⟩, hBp.trans hb4⟩
    | false =>
      have hm' : nB ((p0, p1, p2), s0, s1, s2) = true := by rw [HnB.out, hm]; rfl
      rw [hm] at HM
      gi_wp2_with fail
      refine ⟨trivial, ?_⟩
      refine (CallsIn.inRound L (callsIn_wide.2 HM.out)).mono ?_
      rintro e w2 ⟨rfl, hb2⟩
      have hv' : Boxed w2 W.heap.size 172 v := (hb2.block _ hv.lt).trans hv
      have hv2' : Boxed w2 (W.heap.size + 1) 172 v2 := (hb2.block _ hv2.lt).trans hv2
      have hX2 := (hb2.block _ (blk_lt hX)).trans hX
      have hrow' := own_below hrow hb2
      have hrow2' := own_below hrow2 hb2
      have hBp : Below W.heap.size W w2 := hB.trans (hb2.mono hB.size)
      have hKp : KeepsFrom W0.heap.size X w2 := keeps_below hb2
      have ap1 := rows_apart hrow' hrow2' hnil hnil2 (fun t ht u hu e => by have h1 := filT_mem ht; have h2 := filT_mem hu; rw [e, HnB.out, h2] at h1; cases h1)
      have ap2 := rows_apart hrow2' hrow' hnil2 hnil (fun t ht u hu e => by have h1 := filT_mem ht; have h2 := filT_mem hu; rw [HnB.out, ← e, h1] at h2; cases h2)
      clear xc0 xc1 xc2 xc3 xc4 xc5 xz co co2
      have xc0 := (blk_cell hX2 0).trans rfl
      have xc1 := (blk_cell hX2 1).trans rfl
      have xc2 := (blk_cell hX2 2).trans rfl
      have xc3 := (blk_cell hX2 3).trans rfl
      have xc4 := (blk_cell hX2 4).trans rfl
      have xc5 := (blk_cell hX2 5).trans rfl
      simp only [List.getElem?_toArray, List.getElem?_cons_zero, List.getElem?_cons_succ] at xc0 xc1 xc2 xc3 xc4 xc5
      have xz := blk_lt hX2
      have co := hv'.cell
      have co2 := hv2'.cell
      gi_wp2_with (gi_at_builtin; refine wpListIn_append_own _ rfl _ _ 172 rfl W.heap.size 171 i0 (vT ((0, 0, 0), (0, 0, 0))) 6 48 und_turns Hi0.out.1 Hi0.out.2.1 Hi0.out.2.2.1 Hi0.out.2.2.2 rfl (by decide) _ _ _ rfl (hrow'.alloc _) ⟨w2.heap.size, 0, none⟩ 1 1 (enc6 ((p0, p1, p2), (s0, s1, s2))) rfl rfl (fun jj uu hu => by rw [add0, cell_new rfl jj]; simpa [enc6] using hu) (fun u hu => by simp [enc6] at hu; rcases hu with rfl | rfl | rfl | rfl | rfl | rfl <;> rfl) (by have := filT_len nB pre; unfold maxLen; omega) (by have := filT_len nB pre; omega) (by have := hBp.size; simp; omega) ?_; intro v' w3 hown' hgrow hnn; obtain ⟨g', cap', rfl⟩ := ownsRow_succ hown'; obtain ⟨hv3, hv4, hr4, hk4, hb4⟩ := hv'.appended (by decide) hrow' hBp.size (by omega) hown' hgrow; have o1 := box_app (u := .slice (some ⟨g', 0, none⟩) ((filT nB pre).length + 1) cap') hv2' (by decide) hrow' hgrow (B := W.heap.size) (by omega); have o2 := row_app (u := .slice (some ⟨g', 0, none⟩) ((filT nB pre).length + 1) cap') hrow2' hgrow ap2 hv' (by decide) hrow'; have kt := kt_app (T := 169) (u := .slice (some ⟨g', 0, none⟩) ((filT nB pre).length + 1) cap') hv' hrow' hgrow (by decide) (by decide); have co3 := hv3.cell; have cf3 := hv3.frozen; clear hX2 xc0 xc1 xc2 xc3 xc4 xc5 xz co co2)
      exact ⟨hKp.trans (hk4.from _), (KT.of_below hb2).trans kt, ⟨⟨_, hv4, by rw [filT_hit nB pre (x := ⟨((p0, p1, p2), s0, s1, s2), hx⟩) hm']; simpa using hr4, by rw [filT_hit nB pre (x := ⟨((p0, p1, p2), s0, s1, s2), hx⟩) hm']; simp⟩, ⟨_, o1, by rw [filT_miss mB pre (x := ⟨((p0, p1, p2), s0, s1, s2), hx⟩) hm]; exact o2, by rw [filT_miss mB pre (x := ⟨((p0, p1, p2), s0, s1, s2), hx⟩) hm]; exact hnil2⟩⟩, hBp.trans hb4⟩
  case done =>
    rintro D ys X hD hys ⟨⟨⟨v, hv, hrow, hnil⟩, v2, hv2, hrow2, hnil2⟩, hB⟩ hK
    have co := hv.cell
    have co2 := hv2.cell
    have e1 : filT nB ys = turnsL.filter nB := by unfold filT; rw [hys]
    have e2 : filT mB ys = turnsL.filter mB := by unfold filT; rw [hys]
    have l1 : (filT nB ys).length = 24 := by rw [e1]; exact HL.1
    have l2 : (filT mB ys).length = 24 := by rw [e2]; exact HL.2
    have Ef : Hid ((filT nB ys).flatMap enc6 ++ (filT mB ys).flatMap enc6 = all48.flatMap enc6) := Lib.hid (by rw [e1, e2, ← HALL.out, List.flatMap_append])
    obtain ⟨g2, cap2, rfl, _, _⟩ := own_form hrow2 (by omega)
    have Hnews := Lib.hid (own_news hrow2)
    have h63 : (filT nB ys).length + (filT mB ys).length ≤ maxLen := by unfold maxLen; omega
    have hby : ((filT nB ys).length + (filT mB ys).length) * 48 ≤ 140737488355328 := by omega
    have h1c : ∀ u ∈ (filT mB ys).flatMap enc6, u.oneCell' = true := fun u hu => by
      simp only [List.mem_flatMap] at hu
      obtain ⟨t, _, hu⟩ := hu
      simp [enc6] at hu
      rcases hu with rfl | rfl | rfl | rfl | rfl | rfl <;> rfl
    have hl3 : all48.length = (filT nB ys).length + (filT mB ys).length := by have := HC.out; omega
    have HH := Lib.hid (And.intro h63 (And.intro hby (And.intro h1c hl3)))
    have Hr := Lib.hid hrow
    have Hr2 := Lib.hid hrow2
    clear hrow hrow2 h63 hby h1c hl3 l1 l2 e1 e2 hnil hnil2 hys HMA HALL HL HC HnB
    gi_wp2_with (gi_at_builtin; refine wpListIn_append_own _ rfl _ _ 172 rfl W.heap.size 171 i0 (vT ((0, 0, 0), (0, 0, 0))) 6 48 und_turns Hi0.out.1 Hi0.out.2.1 Hi0.out.2.2.1 Hi0.out.2.2.2 rfl (by decide) _ _ _ rfl Hr.out ⟨g2, 0, none⟩ (filT mB ys).length cap2 _ rfl Hr2.out.1 Hnews.out HH.out.2.2.1 HH.out.1 HH.out.2.1 hB.size ?_; intro v' w3 hown' hgrow hnn; have Ho := Lib.hid hown'; clear hown' hnn)
    have hK3 := (KeepsOthers.of_grownBy hgrow (own_cells Hr.out)).same D _ hK rfl
    have hb3 : Below W.heap.size W w3 := hB.grown hgrow hB.size (fun z hz => (Hr.out.lt z hz).1)
    refine ⟨by simp, .inl ⟨_, _, rfl, run_takeDeferred hK3, ?_⟩⟩
    refine ⟨_, results_tmp rfl _ _ _, _, rfl, hb3.trans (belowK_b (w := W) (Nat.le_refl _) w3 D _ _ (by omega) hK3 rfl rfl), ?_⟩
    have ho2 := ownsRow_putObj Ho.out (.deferred none) hK3 rfl
    rw [Ef.out, ← HH.out.2.2.2] at ho2
    exact ho2
  case stop =>
    rintro D c' pre X _ _ h _
    exact h.elim
end
end Go.Proofs.YtjglkglaogaenaaGreatDoor
