/- texts: W6 W7 W8. -/
import Derived.Test.YtokhkhnofkcalaaGreatDoorGZS34
import Derived.Test.YtokhkhnofkcalaaGreatDoorGZS22
import Derived.Test.YtokhkhnofkcalaaGreatDoorGZS21
namespace Go.Proofs.YtokhkhnofkcalaaGreatDoor
set_option maxHeartbeats 8000000
set_option linter.unusedSimpArgs false
set_option linter.unusedVariables false
section
open Go.RowKit Go.Shelf
theorem lowP_ok (p : Q4) (h : okPl p) : okPl (lowP p) := by
 obtain ⟨a, b, c, d⟩ := p
 obtain ⟨ha, hb, hc, hd⟩ := h
 simp only at ha hb hc hd
 have e1 := tdiv_dvd (gcdL_dvd [a, b, c, d] a (by simp))
 have e2 := tdiv_dvd (gcdL_dvd [a, b, c, d] b (by simp))
 have e3 := tdiv_dvd (gcdL_dvd [a, b, c, d] c (by simp))
 have e4 := tdiv_dvd (gcdL_dvd [a, b, c, d] d (by simp))
 have t1 := tdiv_bd (g := gcdL [a, b, c, d]) ha
 have t2 := tdiv_bd (g := gcdL [a, b, c, d]) hb
 have t3 := tdiv_bd (g := gcdL [a, b, c, d]) hc
 have t4 := tdiv_bd (g := gcdL [a, b, c, d]) hd
 rw [e1] at t1
 rw [e2] at t2
 rw [e3] at t3
 rw [e4] at t4
 exact ⟨t1, t2, t3, t4⟩
theorem refPts_ok {ps : List Q4} (hps : ∀ p ∈ ps, okPl p) : ∀ c ∈ refPts ps, okCo c := fun c hc => by
 have hr := ((refPts_spec ps).2 c).1 hc
 obtain ⟨p, hp, q, hq, r, hr', h0, rfl⟩ := raw_planes (Nat.le_refl _) hr
 have := den_bd p q r (hps p hp) (hps q hq) (hps r hr')
 exact meetP_ok p q r _ (hps p hp) (hps q hq) (hps r hr') (by omega) h0
theorem refPts_len {ps : List Q4} (h : ps.length ≤ 64) : (refPts ps).length ≤ 300000 := by
 have h1 := accP_len (raw ps ps.length)
 have h2 := raw_len ps ps.length h
 unfold refPts
 unfold accP at h1
 omega
theorem rLowest_q (p : Q4) (w : World) (h : okPl0 p) : Calls Tryz.prog 128 #[v4 p] w (Ret w (v4 (lowP p))) := by
 obtain ⟨⟨h0, h1, h2, h3⟩, hne⟩ := h
 exact rLowest_any p.1 p.2.1 p.2.2.1 p.2.2.2 w (by omega) (by omega) (by omega) (by omega) hne
theorem lessPlane_q (p q : Q4) (w : World) : Calls Tryz.prog 130 #[v4 p, v4 q] w (Ret w (.bool (decide (cmpPl p q < 0)))) := lessPlane_any _ _ _ _ _ _ _ _ w
theorem cntOn_succ (p : Q4) (cs : List Q4) (k : Nat) (h : k < cs.length) : cntOn p (cs.take (k + 1)) = cntOn p (cs.take k) + if sd p cs[k] = 0 then 1 else 0 := by
 unfold cntOn
 rw [List.take_succ_eq_append_getElem h, List.filter_append, List.length_append]
 congr 1
 by_cases hs : sd p cs[k] = 0 <;> simp [hs]
theorem cntOn_le (p : Q4) (cs : List Q4) : cntOn p cs ≤ cs.length := List.length_filter_le _ _
section
variable (f : Q4 → Bool)
def twN (A : List Q4) : Nat := (A.takeWhile f).length
theorem twN_le (A : List Q4) : twN f A ≤ A.length := by
 have := congrArg List.length (List.takeWhile_append_dropWhile (p := f) (l := A))
 rw [List.length_append] at this
 unfold twN
 omega
theorem tw_take (A : List Q4) : A.takeWhile f = A.take (twN f A) := by
 have h := List.takeWhile_append_dropWhile (p := f) (l := A)
 have h2 : (A.takeWhile f ++ A.dropWhile f).take (twN f A) = A.takeWhile f := List.take_left
 rw [h] at h2
 exact h2.symm
theorem dw_drop (A : List Q4) : A.dropWhile f = A.drop (twN f A) := by
 have h := List.takeWhile_append_dropWhile (p := f) (l := A)
 have h2 : (A.takeWhile f ++ A.dropWhile f).drop (twN f A) = A.dropWhile f := List.drop_left
 rw [h] at h2
 exact h2.symm
theorem tw_in : ∀ (A : List Q4) (i : Nat) (h : i < A.length), i < twN f A → f A[i] = true
 | [], _, h, _ => by simp at h
 | a :: A, 0, _, h2 => by
  unfold twN at h2
  rw [List.takeWhile_cons] at h2
  split at h2
  ·rename_i h3; exact h3
  ·simp at h2
 | a :: A, i + 1, h, h2 => by
  unfold twN at h2
  rw [List.takeWhile_cons] at h2
  split at h2
  ·rename_i h3
   simp only [List.length_cons] at h2
   exact tw_in A i (by simpa using h) (by unfold twN; omega)
  ·simp at h2
theorem tw_out : ∀ (A : List Q4) (h : twN f A < A.length), f A[twN f A] = false
 | [], h => by simp at h
 | a :: A, h => by
  by_cases ha : f a = true
  ·have e : twN f (a :: A) = twN f A + 1 := by unfold twN; rw [List.takeWhile_cons, if_pos ha, List.length_cons]
   have h' : twN f A < A.length := by rw [e] at h; simpa using h
   have := tw_out A h'
   simpa [e] using this
  ·have e : twN f (a :: A) = 0 := by unfold twN; rw [List.takeWhile_cons, if_neg ha]; rfl
   simpa [e] using ha
end
def lessF (p : Q4) : Q4 → Bool := fun q => decide (cmpPl q p < 0)
theorem insP_is (A : List Q4) (p : Q4) : insP A p = if (A.drop (twN (lessF p) A)).head? = some p then A else A.take (twN (lessF p) A) ++ [p] ++ A.drop (twN (lessF p) A) := by
 unfold insP
 rw [show (fun q => decide (cmpPl q p < 0)) = lessF p from rfl, tw_take, dw_drop]
 simp
theorem ins_skip (A : List Q4) (p : Q4) (h : twN (lessF p) A < A.length) (he : A[twN (lessF p) A] = p) : insP A p = A := by
 rw [insP_is, if_pos]
 rw [List.head?_drop, List.getElem?_eq_getElem h, he]
theorem ins_end (A : List Q4) (p : Q4) (h : twN (lessF p) A = A.length) : insP A p = A.take (twN (lessF p) A) ++ [p] ++ A.drop (twN (lessF p) A) := by
 rw [insP_is, if_neg]
 rw [List.head?_drop, List.getElem?_eq_none (by omega)]
 simp
theorem ins_mid (A : List Q4) (p : Q4) (h : twN (lessF p) A < A.length) (he : A[twN (lessF p) A] ≠ p) : insP A p = A.take (twN (lessF p) A) ++ [p] ++ A.drop (twN (lessF p) A) := by
 rw [insP_is, if_neg]
 rw [List.head?_drop, List.getElem?_eq_getElem h]
 simpa using he
theorem insP_len (A : List Q4) (p : Q4) : (insP A p).length ≤ A.length + 1 := by
 rw [insP_is]
 split
 ·omega
 ·simp
  omega
def nrmTo (cs ps : List Q4) (i : Nat) : List Q4 := (ps.take i).foldl (refStep cs) []
theorem nrmTo_succ (cs ps : List Q4) (i : Nat) (h : i < ps.length) : nrmTo cs ps (i + 1) = refStep cs (nrmTo cs ps i) ps[i] := by
 unfold nrmTo
 rw [List.take_succ_eq_append_getElem h, List.foldl_append]
 rfl
theorem nrmTo_len (cs ps : List Q4) : ∀ i, i ≤ ps.length → (nrmTo cs ps i).length ≤ i
 | 0, _ => by simp [nrmTo]
 | i + 1, h => by
  rw [nrmTo_succ cs ps i (by omega)]
  have := nrmTo_len cs ps i (by omega)
  unfold refStep
  split
  ·have h2 := insP_len (nrmTo cs ps i) (lowP ps[i])
   omega
  ·omega
end
section
open Go.RowKit Go.Shelf
set_option maxRecDepth 100000
attribute [local go_sem] Ext.cell Ext.frozen
def IsMk (B : Nat) : Value → World → Prop := fun v w => ∃ g, v = .slice (some ⟨g, 0, none⟩) 0 0 ∧ B ≤ g ∧ w.heap[g]? = some (.cells #[] 69 (0, 0))
theorem stab_mk (B : Nat) : Stab (IsMk B) := fun _ _ _ hb ⟨g, h1, h2, h3⟩ => ⟨g, h1, h2, (hb.block g (blk_lt h3)).trans h3⟩
def IsP1 (p : Q4) : Value → World → Prop := fun v w => ∃ g, v = .slice (some ⟨g, 0, none⟩) 1 1 ∧ w.heap[g]? = some (.cells (enc4 p).toArray 69 (0, 0))
theorem stab_p1 (p : Q4) : Stab (IsP1 p) := fun _ _ _ hb ⟨g, h1, h2⟩ => ⟨g, h1, (hb.block g (blk_lt h2)).trans h2⟩
theorem q4At_some {w : World} {base : Nat} {T : TypeId} {g n c : Nat} {cs : List Q4} (h : w.ownsRow base T 4 (.slice (some ⟨g, 0, none⟩) n c) cs.length (cs.flatMap enc4)) : Q4At w g 0 cs := by
 obtain ⟨a, n', c', e, hn, _, hx⟩ := q4s_own h
 intro i hi
 obtain ⟨b, off, rfl, h4⟩ := hx (by omega)
 cases e
 exact h4 i hi
theorem src_take {w : World} {g : Nat} {A : List Q4} (h : Q4At w g 0 A) (k : Nat) : ∀ j u, ((A.take k).flatMap enc4)[j]? = some u → w.cell? ((⟨g, 0, none⟩ : Addr).add j) = some u := by
 intro j u hu
 rw [add0]
 have hlen : ∀ l : List Q4, (l.flatMap enc4).length = l.length * 4 := fun l => by
  induction l with
  | nil => rfl
  | cons x l ih => rw [List.flatMap_cons, List.length_append, ih, List.length_cons]; simp [enc4]; omega
 have hj : j < ((A.take k).flatMap enc4).length := (List.getElem?_eq_some_iff.1 hu).1
 rw [hlen] at hj
 obtain ⟨i, r, hr, rfl⟩ : ∃ i r, r < 4 ∧ j = i * 4 + r := ⟨j / 4, j % 4, by omega, by omega⟩
 have hi : i < (A.take k).length := by omega
 rw [flat_get enc4 4 (fun _ => rfl) _ i hi r hr] at hu
 have hi2 : i < A.length := by simp at hi; omega
 obtain ⟨c0, c1, c2, c3⟩ := h i hi2
 rw [List.getElem_take] at hu
 simp only [Nat.zero_add] at c0 c1 c2 c3
 rcases (by omega : r = 0 ∨ r = 1 ∨ r = 2 ∨ r = 3) with rfl | rfl | rfl | rfl
 ·rw [← hu]; exact c0
 ·rw [← hu]; exact c1
 ·rw [← hu]; exact c2
 ·rw [← hu]; exact c3
theorem src_drop {w : World} {g : Nat} {A : List Q4} (h : Q4At w g 0 A) (k : Nat) : ∀ j u, ((A.drop k).flatMap enc4)[j]? = some u → w.cell? ⟨g, k * 4 + j, none⟩ = some u := by
 intro j u hu
 have hlen : ∀ l : List Q4, (l.flatMap enc4).length = l.length * 4 := fun l => by
  induction l with
  | nil => rfl
  | cons x l ih => rw [List.flatMap_cons, List.length_append, ih, List.length_cons]; simp [enc4]; omega
 have hj : j < ((A.drop k).flatMap enc4).length := (List.getElem?_eq_some_iff.1 hu).1
 rw [hlen] at hj
 obtain ⟨i, r, hr, rfl⟩ : ∃ i r, r < 4 ∧ j = i * 4 + r := ⟨j / 4, j % 4, by omega, by omega⟩
 have hi : i < (A.drop k).length := by omega
 rw [flat_get enc4 4 (fun _ => rfl) _ i hi r hr] at hu
 have hi2 : k + i < A.length := by simp at hi; omega
 obtain ⟨c0, c1, c2, c3⟩ := h (k + i) hi2
 rw [List.getElem_drop] at hu
 simp only [Nat.zero_add, Nat.add_mul] at c0 c1 c2 c3
 rcases (by omega : r = 0 ∨ r = 1 ∨ r = 2 ∨ r = 3) with rfl | rfl | rfl | rfl
 ·rw [← hu]; exact c0
 ·rw [← hu]; exact c1
 ·rw [← hu]; exact c2
 ·rw [← hu]; exact c3
theorem src_dropA {w : World} {g : Nat} {A : List Q4} (h : Q4At w g 0 A) (k : Nat) : ∀ j u, ((A.drop k).flatMap enc4)[j]? = some u → w.cell? ((⟨g, k * 4, none⟩ : Addr).add j) = some u := fun j u hu => by
 rw [addO]
 exact src_drop h k j u hu
theorem src_one {w : World} {g : Nat} {p : Q4} (h : w.heap[g]? = some (.cells (enc4 p).toArray 69 (0, 0))) : ∀ j u, ([p].flatMap enc4)[j]? = some u → w.cell? ((⟨g, 0, none⟩ : Addr).add j) = some u := fun j u hu => by
 rw [add0, blk_cell h]
 simpa using hu
theorem wpList_planes_cat {ops : Array Oper} {rest : List Oper} {o : Oper} {a : Act} {Q : Exit → Act → World → Prop} {w W : World} {B n m c : Nat} {L ds : List Q4} {v : Value} {ad : Addr} (hown : w.ownsRow B 69 4 v n (L.flatMap enc4)) (hb : Below B W w) (hB : B ≤ w.heap.size) (hm : m = ds.length)
  (hsrc : ∀ j u, (ds.flatMap enc4)[j]? = some u → w.cell? (ad.add j) = some u) (s x : Operand) (hgd : o.guard = none) (ho : o.op = .call { callee := .builtin .append, args := #[s, x], argTypes := #[65, 65] }) (hs : a.eval s = v) (hx : a.eval x = .slice (some ad) m c) (hn : n + m ≤ 100000)
  (h : ∀ v' w', w'.ownsRow B 69 4 v' (L ++ ds).length ((L ++ ds).flatMap enc4) → Below B W w' → wpList Tryz.prog ops Q rest (a.put o.dst v') w') : wpList Tryz.prog ops Q (o :: rest) a w := by
 obtain ⟨i0, hi0, hz0, hz1, hz2⟩ := info_parts info_plane
 have hl := hown.1
 rw [enc4s_len] at hl
 obtain rfl : n = L.length := by omega
 subst hm
 refine wpList_append_own w hgd s x 65 ho B 69 i0 (v4 (0, 0, 0, 0)) 4 32 und_planes' hi0 hz0 hz1 hz2 rfl (by decide) v _ (L.flatMap enc4) hs hown ad ds.length c (ds.flatMap enc4) hx (enc4s_len ds) hsrc (fun u hu => ?_) (by unfold maxLen; omega) (by omega) hB fun v' w' h1 h2 _ => h v' w' ?_ (hb.grown h2 hB (fun z hz => (hown.lt z hz).1))
 ·obtain ⟨x, _, h⟩ := List.mem_flatMap.1 hu
  simp [enc4] at h
  rcases h with rfl | rfl | rfl | rfl <;> rfl
 ·rw [List.length_append, List.flatMap_append]
  exact h1
theorem rNormal_any (ps : List Q4) (pv : Value) (W : World) (hps : ∀ p ∈ ps, okPl0 p) (hl : ps.length ≤ 64) (hpv : Q4s W pv ps) :
  Calls Tryz.prog 93 #[pv] W fun e w' => ∃ r, e = .returned r ∧ Below W.heap.size W w' ∧ w'.ownsRow W.heap.size 69 4 r (refN ps).length ((refN ps).flatMap enc4) := by
 obtain ⟨i0, hi0, hz0, hz1, hz2⟩ := info_parts info_plane
 have Hi0 := Lib.hid (And.intro hi0 (And.intro hz0 (And.intro hz1 hz2)))
 clear hi0 hz0 hz1 hz2
 have hps' : ∀ p ∈ ps, okPl p := fun p hp => (hps p hp).1
 have HPt := Lib.hid (rPoints_any ps pv W hps' hl hpv)
 obtain ⟨a, n, cc, rfl, hn, _, hx⟩ := hpv
 have HX : Hid (0 < n → ∃ b off, a = some ⟨b, off, none⟩ ∧ Q4At W b off ps) := Lib.hid hx
 have HL := fun i (h : i < ps.length) W' => Lib.hid (rLowest_q ps[i] W' (hps _ (List.getElem_mem h)))
 have Hco := fun i (h : i < ps.length) k (hk : k < (refPts ps).length) W' => Lib.hid (rside_q (lowP ps[i]) (refPts ps)[k] W' (lowP_ok _ (hps' _ (List.getElem_mem h))) (refPts_ok hps' _ (List.getElem_mem hk)))
 have hcl := refPts_len hl
 have Hcn := fun p k h => Lib.hid (cntOn_succ p (refPts ps) k h)
 have Hcle := fun p k => Lib.hid (show cntOn p ((refPts ps).take k) ≤ 300000 from Nat.le_trans (cntOn_le _ _) (by rw [List.length_take]; omega))
 have Hcall := fun p => Lib.hid (show cntOn p ((refPts ps).take (refPts ps).length) = cntOn p (refPts ps) by rw [List.take_length])
 have Hs := fun i h => Lib.hid (nrmTo_succ (refPts ps) ps i h)
 have Hnl := fun i (h : i ≤ ps.length) => Lib.hid (nrmTo_len (refPts ps) ps i h)
 have H0 : Hid (nrmTo (refPts ps) ps 0 = []) := Lib.hid rfl
 have Hfin : Hid (nrmTo (refPts ps) ps n = refN ps) := Lib.hid (by
  unfold nrmTo refN
  rw [← hn, List.take_length])
 have Hst : Hid (∀ A p, refStep (refPts ps) A p = if 3 ≤ cntOn (lowP p) (refPts ps) then insP A (lowP p) else A) := Lib.hid (fun A p => rfl)
 generalize refN ps = res at *
 generalize nrmTo (refPts ps) ps = acc at *
 generalize refStep (refPts ps) = stp at *
 generalize refPts ps = cs at *
 clear hx hps hps'
 go_enter Tryz.func93, Tryz.ntmps93
 go_wp2_with fail
 refine (HPt.out).mono ?_
 rintro en W1 ⟨cv, rfl, hb1, hoc⟩
 have HC := Lib.hid (q4s_own hoc)
 obtain ⟨ca, cn, ccc, rfl, hcn, _, hcx⟩ := q4s_own hoc
 have HCX := Lib.hid hcx
 have HX1 : Hid (0 < n → ∃ b off, a = some ⟨b, off, none⟩ ∧ Q4At W1 b off ps) := Lib.hid (fun h => by obtain ⟨b, off, e, h2⟩ := HX.out h; exact ⟨b, off, e, h2.below hb1⟩)
 clear HX HPt hcx hoc HC
 have hcl' : cn ≤ 300000 := by omega
 go_wp2
 go_loopw [4, 5] (fun s x wr => ∃ i : Nat, i ≤ n ∧ x = .int .i64 i ∧ Below W1.heap.size W1 wr ∧ Hid (wr.ownsRow W1.heap.size 69 4 s (acc i).length ((acc i).flatMap enc4))) (fun _ x _ => n - (intOf x).toNat)
 case atStart => exact ⟨0, by omega, rfl, Below.refl _ _, Lib.hid (by rw [H0.out]; exact World.ownsRow_nil _ _ _ _)⟩
 case round =>
  obtain ⟨i, hi, rfl, hb, HO⟩ := hrel
  by_cases hlt : i < n
  ·have g1 : (i : Int) < (n : Int) := by omega
   have g2 : (0 : Int) ≤ (i : Int) := by omega
   have hil : i < ps.length := by omega
   obtain ⟨b, off, rfl, hi4⟩ := HX1.out (by omega)
   obtain ⟨x0, x1, x2, x3⟩ := (hi4.below hb) i hil
   have zx := World.block_lt_of_cell? wr _ x0
   simp only at zx
   have HLi := fun W' => Lib.hid ((HL i hil W').out)
   have Hsd := fun k hk W' => Lib.hid ((Hco i hil k hk W').out)
   have Hsi := Lib.hid ((Hs i hil).out.trans (Hst.out _ _))
   have hAl := (Hnl i (by omega)).out
   have hi64 : i ≤ 64 := by omega
   generalize lowP ps[i] = p at *
   generalize ps[i] = P at *
   generalize acc i = A at *
   obtain ⟨P0, P1, P2, P3⟩ := P
   obtain ⟨p0, p1, p2, p3⟩ := p
   simp only at x0 x1 x2 x3
   clear HL Hco Hs Hst Hnl hi4 HX1
   go_wp2_with fail
   refine ((HLi _).out).mono ?_
   rintro en w2 ⟨rfl, hb2⟩
   have hbw2 := below_trans hb hb2
   have HO2 := Lib.hid (own_below HO.out hb2)
   obtain ⟨X, HXX⟩ : ∃ X, Hid (w2.alloc (.cells #[.int .i64 p0, .int .i64 p1, .int .i64 p2, .int .i64 p3] 69) = X) := ⟨_, Lib.hid rfl⟩
   obtain ⟨g6, Hg6⟩ : ∃ g6, Hid (w2.heap.size = g6) := ⟨_, Lib.hid rfl⟩
   have hbX : Below w2.heap.size w2 X := by rw [← HXX.out]; exact bel
   have HGX : Hid (X.heap[g6]? = some (.cells #[.int .i64 p0, .int .i64 p1, .int .i64 p2, .int .i64 p3] 69 (0, 0))) := Lib.hid (by rw [← HXX.out, ← Hg6.out]; exact heap_new rfl)
   have hbwX := below_trans hbw2 hbX
   have HOX := Lib.hid (own_below HO2.out hbX)
   clear x0 x1 x2 x3 zx hb2 hbw2 HO2 HO hb HLi
   go_wp2
   rw [HXX.out, Hg6.out]
   clear HXX Hg6 hbX
   go_loopw [7, 8] (fun s x wr => ∃ k : Nat, k ≤ cn ∧ x = .int .i64 k ∧ s = .int .i64 (cntOn (p0, p1, p2, p3) (cs.take k) : Nat) ∧ Below X.heap.size X wr) (fun _ x _ => cn - (intOf x).toNat)
   case atStart => exact ⟨0, by omega, rfl, by simp [cntOn], Below.refl _ _⟩
   case round =>
    obtain ⟨k, hk, rfl, rfl, hbk⟩ := hrel
    by_cases hlk : k < cn
    ·have g3 : (k : Int) < (cn : Int) := by omega
     have g4 : (0 : Int) ≤ (k : Int) := by omega
     have hkl : k < cs.length := by omega
     obtain ⟨cb, co, rfl, hc4⟩ := HCX.out (by omega)
     obtain ⟨y0, y1, y2, y3⟩ := (hc4.below (below_trans hbwX hbk)) k hkl
     have zy := World.block_lt_of_cell? wr _ y0
     simp only at zy
     have HSk := fun W' => Lib.hid ((Hsd k hkl W').out)
     have Hc := Lib.hid ((Hcn (p0, p1, p2, p3) k hkl).out)
     have hcle := (Hcle (p0, p1, p2, p3) k).out
     have HGk := Lib.hid ((hbk.block _ (blk_lt HGX.out)).trans HGX.out)
     obtain ⟨f0, f1, f2, f3, _, fz⟩ := blk4 HGk.out
     generalize cntOn (p0, p1, p2, p3) (cs.take k) = cnt at *
     generalize sd (p0, p1, p2, p3) cs[k] = s9 at *
     generalize cs[k] = c at *
     obtain ⟨c0, c1, c2, c3⟩ := c
     simp only at y0 y1 y2 y3
     clear hc4 Hsd Hcn Hcle HCX
     by_cases hs : s9 = 0
     ·subst hs
      rw [if_pos rfl] at Hc
      go_wp2
      refine wqb ?_
      repeat (first | go_big_quiet_step ((go_at_call 129; exact quietB_ret ((HSk _).out))) | quiet_step ((go_at_call 129; exact quietB_ret ((HSk _).out))))
      refine wqn fun u => ?_
      go_wp2
      go_roundw
      case rel => exact ⟨k + 1, by omega, by go_num, by rw [Hc.out]; go_num, below_trans hbk u.below⟩
      case measure => first | (simp [intOf]; done) | (simp [intOf]; omega)
     ·have hs' : (s9 == 0) = false := by simpa using hs
      rw [if_neg hs] at Hc
      go_wp2
      refine wqb ?_
      repeat (first | go_big_quiet_step ((go_at_call 129; exact quietB_ret ((HSk _).out))) | quiet_step ((go_at_call 129; exact quietB_ret ((HSk _).out))))
      refine wqn fun u => ?_
      go_wp2
      go_roundw
      case rel => exact ⟨k + 1, by omega, by go_num, by rw [Hc.out]; rfl, below_trans hbk u.below⟩
      case measure => first | (simp [intOf]; done) | (simp [intOf]; omega)
    ·obtain rfl : k = cn := by omega
     have g3 : ¬ (k : Int) < (k : Int) := by omega
     have hcall := (Hcall (p0, p1, p2, p3)).out
     rw [hcn] at hcall
     rw [hcall]
     obtain ⟨cnt, Hcnt⟩ : ∃ cnt, Hid (cntOn (p0, p1, p2, p3) cs = cnt) := ⟨_, Lib.hid rfl⟩
     rw [Hcnt.out] at Hsi ⊢
     have hcnt : cnt ≤ 300000 := by rw [← Hcnt.out]; have := cntOn_le (p0, p1, p2, p3) cs; omega
     have Hin := Lib.hid (fun j (h : j < A.length) (h2 : j < twN (lessF (p0, p1, p2, p3)) A) => show cmpPl A[j] (p0, p1, p2, p3) < 0 by simpa [lessF] using tw_in (lessF (p0, p1, p2, p3)) A j h h2)
     have Hout := Lib.hid (fun (h : twN (lessF (p0, p1, p2, p3)) A < A.length) => show ¬ cmpPl A[twN (lessF (p0, p1, p2, p3)) A] (p0, p1, p2, p3) < 0 by simpa [lessF] using tw_out (lessF (p0, p1, p2, p3)) A h)
     have hTl := twN_le (lessF (p0, p1, p2, p3)) A
     have Hend := Lib.hid (ins_end A (p0, p1, p2, p3))
     have Hmid := Lib.hid (ins_mid A (p0, p1, p2, p3))
     have Hskip := Lib.hid (ins_skip A (p0, p1, p2, p3))
     have Hless := fun q W' => Lib.hid (lessPlane_q q (p0, p1, p2, p3) W')
     generalize twN (lessF (p0, p1, p2, p3)) A = T at *
     generalize insP A (p0, p1, p2, p3) = ins at *
     have hbwk := below_trans hbwX hbk
     have HOk := Lib.hid (own_below HOX.out hbk)
     have HGk := Lib.hid ((hbk.block _ (blk_lt HGX.out)).trans HGX.out)
     have zg6 := blk_lt HGk.out
     obtain ⟨wk, rfl⟩ : ∃ wk : World, wk = wr := ⟨_, rfl⟩
     clear hbk HOX HGX Hcn Hcle Hcall Hsd
     rcases HOk.out.2 with ⟨e, h0⟩ | ⟨g, cap, cur, e, hbg, hh, hnc, hcm, hcs, htk⟩
     ·subst e
      obtain rfl : A = [] := List.length_eq_zero_iff.1 h0
      obtain rfl : T = 0 := by simpa using hTl
      go_wp2
      go_loopw [9] (fun x wr => x = .int .i64 0 ∧ Below wk.heap.size wk wr) (fun _ _ => 0)
      case atStart => exact ⟨rfl, Below.refl _ _⟩
      case round =>
       obtain ⟨rfl, hbr⟩ := hrel
       have HG := Lib.hid ((hbr.block _ (blk_lt HGk.out)).trans HGk.out)
       have hbw := below_trans hbwk hbr
       have HO := Lib.hid (own_below HOk.out hbr)
       clear hbr HOk HGk
       obtain ⟨c0, c1, c2, c3, _, cz⟩ := blk4 HG.out
       go_wp2
       refine wqb ?_
       repeat (first | go_big_quiet_step (fail) | quiet_step (fail))
       refine wqn fun u => ?_
       have hbu := u.below
       have HOu := Lib.hid (own_below HO.out hbu)
       have HGu := Lib.hid ((hbu.block _ (blk_lt HG.out)).trans HG.out)
       have hbwu := below_trans hbw hbu
       clear HO HG hbw hbu c0 c1 c2 c3 cz
       have HO := HOu
       have HG := HGu
       have hbw := hbwu
       clear HOu HGu hbwu
       generalize u.val = wr at *
       clear u
       obtain ⟨c0, c1, c2, c3, _, cz⟩ := blk4 HG.out
       by_cases hc3 : 3 ≤ cnt
       ·have hd3 : decide ((3 : Int) ≤ (cnt : Int)) = true := decide_eq_true (by omega)
        rw [if_pos hc3] at Hsi
        have Hres := Lib.hid (Hsi.out.trans (Hend.out rfl))
        go_wp2
        refine wqb ?_
        repeat (first | go_big_quiet_step (fail) | quiet_step (fail))
        refine wqn fun u => ?_
        have hbu := u.below
        have HOu := Lib.hid (own_below HO.out hbu)
        have HGu := Lib.hid ((hbu.block _ (blk_lt HG.out)).trans HG.out)
        have hbwu := below_trans hbw hbu
        clear HO HG hbw hbu c0 c1 c2 c3 cz
        have HO := HOu
        have HG := HGu
        have hbw := hbwu
        clear HOu HGu hbwu
        generalize u.val = wr at *
        clear u
        obtain ⟨c0, c1, c2, c3, _, cz⟩ := blk4 HG.out
        go_wp2
        refine wp_region_growW [1, 2, 3, 8, 9, 10] [0, 1, 2, 3, 4, 5, 6, 8, 9, 10] 7 [11, 12] (pick [IsMk wr.heap.size, IsV (.slice none 0 0), IsV (.int .i64 0), IsV (.slice none 0 0), IsO wr.heap.size 0 [], IsV (v4 (p0, p1, p2, p3)), IsP1 (p0, p1, p2, p3), IsV undef, IsV (.slice none 0 0), IsV (.int .i64 0), IsV (.slice none 0 0)]) (by kernel_rfl) (by kernel_rfl) (Stabs.pick (by repeat (first | exact Stabs.nil | refine Stabs.cons (by first | exact stab_v _ | exact stab_mk _ | exact stab_p1 _ | exact stab_o _ _ _) ?_))) ?_ ?_
        ·repeat (refine wpWR_step rfl (fun K' hK' => ?_); go_simp; refine hK' _ _ (fun _ => rfl) ?_; clear hK' K')
         trivial
        try go_frame
        refine wgs rfl rfl (by simp) (fun w' hb' hR K hK => ?_) (fun o0 => ?_)
        ·clear hR
         have zz := hb'.size
         go_simp
         exact hK _ _ bel ⟨_, rfl, zz, heap_new rfl⟩
        try go_frame
        refine wgs rfl rfl (by simp) (fun w' hb' hR K hK => ?_) (fun o1 => ?_)
        ·clear hR
         go_simp
         exact hK _ _ brf rfl
        try go_frame
        refine wgs rfl rfl (by simp) (fun w' hb' hR K hK => ?_) (fun o2 => ?_)
        ·clear hR
         go_simp
         exact hK _ _ brf rfl
        try go_frame
        refine wgs rfl rfl (by simp) (fun w' hb' hR K hK => ?_) (fun o3 => ?_)
        ·obtain rfl : o1 = .slice none 0 0 := hR 1 (by kernel_rfl)
         obtain rfl : o2 = .int .i64 0 := hR 2 (by kernel_rfl)
         clear hR
         go_simp
         exact hK _ _ brf rfl
        try go_frame
        refine wgs rfl rfl (by simp) (fun w' hb' hR K hK => ?_) (fun o4 => ?_)
        ·have h0 : (IsMk wr.heap.size) o0 w' := hR 0 (by kernel_rfl)
         obtain rfl : o3 = .slice none 0 0 := hR 3 (by kernel_rfl)
         clear hR
         obtain ⟨gm, rfl, hgm, hgl⟩ := h0
         exact wp_append _ _ 65 rfl (append_nil 65 _ 69 i0 und_planes' Hi0.out.1 ⟨gm, 0, none⟩ _ _) (hK _ _ (Below.refl _ _) ⟨rfl, .inr ⟨gm, 0, #[], rfl, hgm, hgl, Nat.le_refl _, by unfold maxLen; omega, rfl, rfl⟩⟩)
        try go_frame
        refine wgs rfl rfl (by simp) (fun w' hb' hR K hK => ?_) (fun o5 => ?_)
        ·clear hR
         have q0 := below_cell hb' c0
         have q1 := below_cell hb' c1
         have q2 := below_cell hb' c2
         have q3 := below_cell hb' c3
         have qz := Nat.lt_of_lt_of_le cz hb'.size
         go_simp
         exact hK _ _ brf rfl
        try go_frame
        refine wgs rfl rfl (by simp) (fun w' hb' hR K hK => ?_) (fun o6 => ?_)
        ·obtain rfl : o5 = v4 (p0, p1, p2, p3) := hR 5 (by kernel_rfl)
         clear hR
         go_simp
         exact hK _ _ bel ⟨_, rfl, heap_new rfl⟩
        try go_frame
        refine wgs rfl rfl (by simp) (fun w' hb' hR K hK => ?_) (fun o8 => ?_)
        ·clear hR
         go_simp
         exact hK _ _ brf rfl
        try go_frame
        refine wgs rfl rfl (by simp) (fun w' hb' hR K hK => ?_) (fun o9 => ?_)
        ·clear hR
         go_simp
         exact hK _ _ brf rfl
        try go_frame
        refine wgs rfl rfl (by simp) (fun w' hb' hR K hK => ?_) (fun o10 => ?_)
        ·obtain rfl : o8 = .slice none 0 0 := hR 8 (by kernel_rfl)
         obtain rfl : o9 = .int .i64 0 := hR 9 (by kernel_rfl)
         clear hR
         go_simp
         exact hK _ _ brf rfl
        try go_frame
        refine wpG_nil (fun w' hb' hR => ?_)
        obtain rfl : o10 = .slice none 0 0 := hR 10 (by simp)
        have ho4 : w'.ownsRow wr.heap.size 69 4 o4 0 ((([] : List Q4)).flatMap enc4) := hR 4 (by simp)
        obtain ⟨gp, rfl, hgp⟩ : IsP1 (p0, p1, p2, p3) o6 w' := hR 6 (by simp)
        clear hR
        simp only [oas]
        refine wpList_planes_cat ho4 hb' hb'.size rfl (src_one hgp) _ _ rfl rfl rfl rfl (by first | omega | (simp; done) | (simp; omega)) fun v5 w5 hown5 hb5 => ?_
        clear ho4 hgp hb'
        go_frame
        refine wpList_append_own_none rfl _ _ 65 rfl wr.heap.size 69 i0 4 und_planes' Hi0.out.1 _ _ _ rfl hown5 rfl ?_
        go_frame
        iterate 1 (refine wpList_step (fun K hK => ?_); go_simp; refine hK _ _ ?_; clear hK K)
        refine NoPanic.normal ?_
        go_wp2
        go_roundw
        case rel => exact ⟨i + 1, by omega, by go_num, below_trans hbw hb5, Lib.hid (by rw [Hres.out]; exact own_mono (by simpa using hown5) hbw.size)⟩
        case measure => first | (simp [intOf]; done) | (simp [intOf]; omega)
       ·have hd3 : decide ((3 : Int) ≤ (cnt : Int)) = false := decide_eq_false (by omega)
        rw [if_neg hc3] at Hsi
        go_wp2
        refine wqb ?_
        repeat (first | go_big_quiet_step (fail) | quiet_step (fail))
        refine wqn fun u => ?_
        have hbu := u.below
        have HOu := Lib.hid (own_below HO.out hbu)
        have HGu := Lib.hid ((hbu.block _ (blk_lt HG.out)).trans HG.out)
        have hbwu := below_trans hbw hbu
        clear HO HG hbw hbu c0 c1 c2 c3 cz
        have HO := HOu
        have HG := HGu
        have hbw := hbwu
        clear HOu HGu hbwu
        generalize u.val = wr at *
        clear u
        obtain ⟨c0, c1, c2, c3, _, cz⟩ := blk4 HG.out
        go_wp2
        go_roundw
        case rel => exact ⟨i + 1, by omega, by go_num, hbw, Lib.hid (by rw [Hsi.out]; exact HO.out)⟩
        case measure => first | (simp [intOf]; done) | (simp [intOf]; omega)
     ·subst e
      have HQk := Lib.hid (q4At_some HOk.out)
      go_wp2
      go_loopw [9] (fun x wr => ∃ j : Nat, j ≤ T ∧ x = .int .i64 j ∧ Below wk.heap.size wk wr) (fun x _ => T - (intOf x).toNat)
      case atStart => exact ⟨0, by omega, rfl, Below.refl _ _⟩
      case round =>
       obtain ⟨j, hj, rfl, hbr⟩ := hrel
       have HG := Lib.hid ((hbr.block _ (blk_lt HGk.out)).trans HGk.out)
       have hbw := below_trans hbwk hbr
       have HO := Lib.hid (own_below HOk.out hbr)
       have HQ := Lib.hid (HQk.out.below hbr)
       clear HOk HGk HQk
       obtain ⟨c0, c1, c2, c3, _, cz⟩ := blk4 HG.out
       by_cases hjT : j < T
       ·have hjl : j < A.length := by omega
        obtain ⟨a0, a1, a2, a3⟩ := HQ.out j hjl
        have za := World.block_lt_of_cell? wr _ a0
        simp only [Nat.zero_add] at a0 a1 a2 a3 za
        have HL1 : ∀ W', Hid (Calls Tryz.prog 130 #[v4 A[j], v4 (p0, p1, p2, p3)] W' (Ret W' (.bool true))) := fun W' => Lib.hid (by have := (Hless A[j] W').out; rwa [decide_eq_true (Hin.out j hjl hjT)] at this)
        have g3 : (j : Int) < (A.length : Int) := by omega
        have g4 : (0 : Int) ≤ (j : Int) := by omega
        clear Hin Hout Hend Hmid Hskip Hless HQ
        generalize A[j] = q at *
        obtain ⟨q0, q1, q2, q3⟩ := q
        simp only at a0 a1 a2 a3
        go_wp2
        refine wqb ?_
        repeat (first | go_big_quiet_step ((go_at_call 130; exact quietB_ret ((HL1 _).out))) | quiet_step ((go_at_call 130; exact quietB_ret ((HL1 _).out))))
        refine wqn fun u => ?_
        go_wp2
        go_roundw
        case rel => exact ⟨j + 1, by omega, by go_num, below_trans hbr u.below⟩
        case measure => first | (simp [intOf]; done) | (simp [intOf]; omega)
       ·obtain rfl : j = T := by omega
        clear hbr hjT
        obtain ⟨T, rfl⟩ : ∃ T, T = j := ⟨_, rfl⟩
        have g4 : (0 : Int) ≤ (T : Int) := by omega
        by_cases hTA : T < A.length
        ·have Hq := Lib.hid (Hout.out hTA)
         obtain ⟨a0, a1, a2, a3⟩ := HQ.out T hTA
         have za := World.block_lt_of_cell? wr _ a0
         simp only [Nat.zero_add] at a0 a1 a2 a3 za
         have HL0 : ∀ W', Hid (Calls Tryz.prog 130 #[v4 A[T], v4 (p0, p1, p2, p3)] W' (Ret W' (.bool false))) := fun W' => Lib.hid (by have := (Hless A[T] W').out; rwa [decide_eq_false (by have := Hq.out; omega)] at this)
         have g3 : (T : Int) < (A.length : Int) := by omega
         have e58 : ((T : Int) == (A.length : Int)) = false := by simp; omega
         have Heq := Lib.hid (fun W' => eq_pl A[T] (p0, p1, p2, p3) W')
         have Hm2 := Lib.hid (fun h => Hmid.out hTA h)
         have Hs2 := Lib.hid (fun h => Hskip.out hTA h)
         clear Hin Hout Hend Hmid Hskip Hless Hq
         generalize A[T] = q at *
         obtain ⟨q0, q1, q2, q3⟩ := q
         simp only at a0 a1 a2 a3
         go_wp2
         refine wqb ?_
         repeat (first | go_big_quiet_step ((go_at_call 130; exact quietB_ret ((HL0 _).out))) | quiet_step ((go_at_call 130; exact quietB_ret ((HL0 _).out))))
         refine wqn fun u => ?_
         have a0 := below_cell u.below a0
         have a1 := below_cell u.below a1
         have a2 := below_cell u.below a2
         have a3 := below_cell u.below a3
         have za := Nat.lt_of_lt_of_le za u.below.size
         have HQu := Lib.hid (HQ.out.below u.below)
         clear HQ
         have HQ := HQu
         clear HQu
         have hbu := u.below
         have HOu := Lib.hid (own_below HO.out hbu)
         have HGu := Lib.hid ((hbu.block _ (blk_lt HG.out)).trans HG.out)
         have hbwu := below_trans hbw hbu
         clear HO HG hbw hbu c0 c1 c2 c3 cz
         have HO := HOu
         have HG := HGu
         have hbw := hbwu
         clear HOu HGu hbwu
         generalize u.val = wr at *
         clear u
         obtain ⟨c0, c1, c2, c3, _, cz⟩ := blk4 HG.out
         clear HL0
         by_cases hc3 : 3 ≤ cnt
         ·have hd3 : decide ((3 : Int) ≤ (cnt : Int)) = true := decide_eq_true (by omega)
          rw [if_pos hc3] at Hsi
          by_cases hE : ((q0, q1, q2, q3) : Q4) = (p0, p1, p2, p3)
          ·have Hres := Lib.hid (Hsi.out.trans (Hs2.out hE))
           have he := Heq.out
           have hd := decide_eq_true hE
           simp only [hd] at he
           clear hE hd
           go_wp2
           refine wqb ?_
           repeat (first | go_big_quiet_step (fail) | quiet_step (fail))
           refine wqn fun u => ?_
           have hbu := u.below
           have HOu := Lib.hid (own_below HO.out hbu)
           have HGu := Lib.hid ((hbu.block _ (blk_lt HG.out)).trans HG.out)
           have hbwu := below_trans hbw hbu
           clear HO HG hbw hbu c0 c1 c2 c3 cz
           have HO := HOu
           have HG := HGu
           have hbw := hbwu
           clear HOu HGu hbwu
           generalize u.val = wr at *
           clear u
           obtain ⟨c0, c1, c2, c3, _, cz⟩ := blk4 HG.out
           clear Hsi
           have Hsi := Hres
           go_wp2
           go_roundw
           case rel => exact ⟨i + 1, by omega, by go_num, hbw, Lib.hid (by rw [Hsi.out]; exact HO.out)⟩
           case measure => first | (simp [intOf]; done) | (simp [intOf]; omega)
          ·have Hres := Lib.hid (Hsi.out.trans (Hm2.out hE))
           have he := Heq.out
           have hd := decide_eq_false hE
           simp only [hd] at he
           clear hE hd
           go_wp2
           refine wqb ?_
           repeat (first | go_big_quiet_step (fail) | quiet_step (fail))
           refine wqn fun u => ?_
           have HQu := Lib.hid (HQ.out.below u.below)
           clear HQ
           have HQ := HQu
           clear HQu
           have hbu := u.below
           have HOu := Lib.hid (own_below HO.out hbu)
           have HGu := Lib.hid ((hbu.block _ (blk_lt HG.out)).trans HG.out)
           have hbwu := below_trans hbw hbu
           clear HO HG hbw hbu c0 c1 c2 c3 cz
           have HO := HOu
           have HG := HGu
           have hbw := hbwu
           clear HOu HGu hbwu
           generalize u.val = wr at *
           clear u
           obtain ⟨c0, c1, c2, c3, _, cz⟩ := blk4 HG.out
           clear he Heq Hm2 Hs2 e58 a0 a1 a2 a3 za
           have g5 : (T : Int) ≤ (cap : Int) := by omega
           have e6 : ¬ cap = T := by omega
           have e7 : ¬ cap = 0 := by omega
           go_wp2
           by_cases hT0 : T = 0
           ·subst hT0
            have z0 : ((0 : Nat) : Int) = 0 := rfl
            simp only [z0]
            refine wp_region_growW [1, 2, 3, 8, 9, 10] [0, 1, 2, 3, 4, 5, 6, 8, 9, 10] 7 [11, 12] (pick [IsMk wr.heap.size, IsV (.slice (some ⟨g, 0, none⟩) A.length cap), IsV (.int .i64 0), IsV (.slice (some ⟨g, 0, none⟩) 0 cap), IsO wr.heap.size 0 ([] : List Q4), IsV (v4 (p0, p1, p2, p3)), IsP1 (p0, p1, p2, p3), IsV undef, IsV (.slice (some ⟨g, 0, none⟩) A.length cap), IsV (.int .i64 0), IsV (.slice (some ⟨g, 0, none⟩) A.length cap)]) (by kernel_rfl) (by kernel_rfl) (Stabs.pick (by repeat (first | exact Stabs.nil | refine Stabs.cons (by first | exact stab_v _ | exact stab_mk _ | exact stab_p1 _ | exact stab_o _ _ _) ?_))) ?_ ?_
            ·repeat (refine wpWR_step rfl (fun K' hK' => ?_); go_simp; refine hK' _ _ (fun _ => rfl) ?_; clear hK' K')
             trivial
            try go_frame
            refine wgs rfl rfl (by simp) (fun w' hb' hR K hK => ?_) (fun o0 => ?_)
            ·clear hR
             have zz := hb'.size
             go_simp
             exact hK _ _ bel ⟨_, rfl, zz, heap_new rfl⟩
            try go_frame
            refine wgs rfl rfl (by simp) (fun w' hb' hR K hK => ?_) (fun o1 => ?_)
            ·clear hR
             go_simp
             exact hK _ _ brf rfl
            try go_frame
            refine wgs rfl rfl (by simp) (fun w' hb' hR K hK => ?_) (fun o2 => ?_)
            ·clear hR
             go_simp
             exact hK _ _ brf rfl
            try go_frame
            refine wgs rfl rfl (by simp) (fun w' hb' hR K hK => ?_) (fun o3 => ?_)
            ·obtain rfl : o1 = .slice (some ⟨g, 0, none⟩) A.length cap := hR 1 (by kernel_rfl)
             obtain rfl : o2 = .int .i64 0 := hR 2 (by kernel_rfl)
             clear hR
             go_simp
             exact hK _ _ brf rfl
            try go_frame
            refine wgs rfl rfl (by simp) (fun w' hb' hR K hK => ?_) (fun o4 => ?_)
            ·have h0 : (IsMk wr.heap.size) o0 w' := hR 0 (by kernel_rfl)
             obtain rfl : o3 = .slice (some ⟨g, 0, none⟩) 0 cap := hR 3 (by kernel_rfl)
             clear hR
             obtain ⟨gm, rfl, hgm, hgl⟩ := h0
             exact wp_append _ _ 65 rfl (append_nil 65 _ 69 i0 und_planes' Hi0.out.1 ⟨gm, 0, none⟩ _ _) (hK _ _ (Below.refl _ _) ⟨rfl, .inr ⟨gm, 0, #[], rfl, hgm, hgl, Nat.le_refl _, by unfold maxLen; omega, rfl, rfl⟩⟩)
            try go_frame
            refine wgs rfl rfl (by simp) (fun w' hb' hR K hK => ?_) (fun o5 => ?_)
            ·clear hR
             have q0 := below_cell hb' c0
             have q1 := below_cell hb' c1
             have q2 := below_cell hb' c2
             have q3 := below_cell hb' c3
             have qz := Nat.lt_of_lt_of_le cz hb'.size
             go_simp
             exact hK _ _ brf rfl
            try go_frame
            refine wgs rfl rfl (by simp) (fun w' hb' hR K hK => ?_) (fun o6 => ?_)
            ·obtain rfl : o5 = v4 (p0, p1, p2, p3) := hR 5 (by kernel_rfl)
             clear hR
             go_simp
             exact hK _ _ bel ⟨_, rfl, heap_new rfl⟩
            try go_frame
            refine wgs rfl rfl (by simp) (fun w' hb' hR K hK => ?_) (fun o8 => ?_)
            ·clear hR
             go_simp
             exact hK _ _ brf rfl
            try go_frame
            refine wgs rfl rfl (by simp) (fun w' hb' hR K hK => ?_) (fun o9 => ?_)
            ·clear hR
             go_simp
             exact hK _ _ brf rfl
            try go_frame
            refine wgs rfl rfl (by simp) (fun w' hb' hR K hK => ?_) (fun o10 => ?_)
            ·obtain rfl : o8 = .slice (some ⟨g, 0, none⟩) A.length cap := hR 8 (by kernel_rfl)
             obtain rfl : o9 = .int .i64 0 := hR 9 (by kernel_rfl)
             clear hR
             go_simp
             exact hK _ _ brf rfl
            try go_frame
            refine wpG_nil (fun w' hb' hR => ?_)
            obtain rfl : o10 = .slice (some ⟨g, 0, none⟩) A.length cap := hR 10 (by simp)
            have ho4 : w'.ownsRow wr.heap.size 69 4 o4 0 ((([] : List Q4)).flatMap enc4) := hR 4 (by simp)
            obtain ⟨gp, rfl, hgp⟩ : IsP1 (p0, p1, p2, p3) o6 w' := hR 6 (by simp)
            clear hR
            simp only [oas]
            refine wpList_planes_cat ho4 hb' hb'.size rfl (src_one hgp) _ _ rfl rfl rfl rfl (by first | omega | (simp; done) | (simp; omega)) fun v5 w5 hown5 hb5 => ?_
            clear ho4 hgp hb'
            go_frame
            refine wpList_planes_cat (ds := A.drop 0) hown5 hb5 hb5.size (by rw [List.length_drop]; try omega) (src_dropA (HQ.out.below hb5) 0) _ _ rfl rfl rfl rfl (by first | omega | (simp; done) | (simp; omega)) fun v6 w6 hown6 hb6 => ?_
            go_frame
            iterate 1 (refine wpList_step (fun K hK => ?_); go_simp; refine hK _ _ ?_; clear hK K)
            refine NoPanic.normal ?_
            go_wp2
            go_roundw
            case rel => exact ⟨i + 1, by omega, by go_num, below_trans hbw hb6, Lib.hid (by rw [Hres.out]; exact own_mono (by simpa using hown6) hbw.size)⟩
            case measure => first | (simp [intOf]; done) | (simp [intOf]; omega)
           ·have hT1 : 0 < T := by omega
            refine wp_region_growW [1, 2, 3, 8, 9, 10] [0, 1, 2, 3, 4, 5, 6, 8, 9, 10] 7 [11, 12] (pick [IsMk wr.heap.size, IsV (.slice (some ⟨g, 0, none⟩) A.length cap), IsV (.int .i64 T), IsV (.slice (some ⟨g, 0, none⟩) T cap), IsO wr.heap.size T (A.take T), IsV (v4 (p0, p1, p2, p3)), IsP1 (p0, p1, p2, p3), IsV undef, IsV (.slice (some ⟨g, 0, none⟩) A.length cap), IsV (.int .i64 T), IsV (.slice (some ⟨g, T * 4, none⟩) (A.length - T) (cap - T))]) (by kernel_rfl) (by kernel_rfl) (Stabs.pick (by repeat (first | exact Stabs.nil | refine Stabs.cons (by first | exact stab_v _ | exact stab_mk _ | exact stab_p1 _ | exact stab_o _ _ _) ?_))) ?_ ?_
            ·repeat (refine wpWR_step rfl (fun K' hK' => ?_); go_simp; refine hK' _ _ (fun _ => rfl) ?_; clear hK' K')
             trivial
            try go_frame
            refine wgs rfl rfl (by simp) (fun w' hb' hR K hK => ?_) (fun o0 => ?_)
            ·clear hR
             have zz := hb'.size
             go_simp
             exact hK _ _ bel ⟨_, rfl, zz, heap_new rfl⟩
            try go_frame
            refine wgs rfl rfl (by simp) (fun w' hb' hR K hK => ?_) (fun o1 => ?_)
            ·clear hR
             go_simp
             exact hK _ _ brf rfl
            try go_frame
            refine wgs rfl rfl (by simp) (fun w' hb' hR K hK => ?_) (fun o2 => ?_)
            ·clear hR
             go_simp
             exact hK _ _ brf rfl
            try go_frame
            refine wgs rfl rfl (by simp) (fun w' hb' hR K hK => ?_) (fun o3 => ?_)
            ·obtain rfl : o1 = .slice (some ⟨g, 0, none⟩) A.length cap := hR 1 (by kernel_rfl)
             obtain rfl : o2 = .int .i64 T := hR 2 (by kernel_rfl)
             clear hR
             go_simp
             exact hK _ _ brf rfl
            try go_frame
            refine wgs rfl rfl (by simp) (fun w' hb' hR K hK => ?_) (fun o4 => ?_)
            ·have h0 : (IsMk wr.heap.size) o0 w' := hR 0 (by kernel_rfl)
             obtain rfl : o3 = .slice (some ⟨g, 0, none⟩) T cap := hR 3 (by kernel_rfl)
             clear hR
             obtain ⟨gm, rfl, hgm, hgl⟩ := h0
             obtain ⟨v9, w9, hrun, hown9, hb9⟩ := append_new (P := Tryz.prog) (w := w') 65 65 69 i0 (v4 (0, 0, 0, 0)) 4 32 und_planes' Hi0.out.1 Hi0.out.2.1 Hi0.out.2.2.1 Hi0.out.2.2.2 rfl (by decide) ⟨gm, 0, none⟩ 0 0 [] rfl (fun _ _ h => by simp at h) ⟨g, 0, none⟩ T cap ((A.take T).flatMap enc4) (by rw [enc4s_len, List.length_take]; omega) (src_take (HQ.out.below hb') T) (by omega) (by unfold maxLen; omega) (by omega)
             exact wp_append _ _ 65 rfl hrun (hK _ _ hb9 (by have h9 := own_mono hown9 hb'.size; simp only [Nat.zero_add, List.nil_append] at h9; exact h9))
            try go_frame
            refine wgs rfl rfl (by simp) (fun w' hb' hR K hK => ?_) (fun o5 => ?_)
            ·clear hR
             have q0 := below_cell hb' c0
             have q1 := below_cell hb' c1
             have q2 := below_cell hb' c2
             have q3 := below_cell hb' c3
             have qz := Nat.lt_of_lt_of_le cz hb'.size
             go_simp
             exact hK _ _ brf rfl
            try go_frame
            refine wgs rfl rfl (by simp) (fun w' hb' hR K hK => ?_) (fun o6 => ?_)
            ·obtain rfl : o5 = v4 (p0, p1, p2, p3) := hR 5 (by kernel_rfl)
             clear hR
             go_simp
             exact hK _ _ bel ⟨_, rfl, heap_new rfl⟩
            try go_frame
            refine wgs rfl rfl (by simp) (fun w' hb' hR K hK => ?_) (fun o8 => ?_)
            ·clear hR
             go_simp
             exact hK _ _ brf rfl
            try go_frame
            refine wgs rfl rfl (by simp) (fun w' hb' hR K hK => ?_) (fun o9 => ?_)
            ·clear hR
             go_simp
             exact hK _ _ brf rfl
            try go_frame
            refine wgs rfl rfl (by simp) (fun w' hb' hR K hK => ?_) (fun o10 => ?_)
            ·obtain rfl : o8 = .slice (some ⟨g, 0, none⟩) A.length cap := hR 8 (by kernel_rfl)
             obtain rfl : o9 = .int .i64 T := hR 9 (by kernel_rfl)
             clear hR
             go_simp
             exact hK _ _ brf rfl
            try go_frame
            refine wpG_nil (fun w' hb' hR => ?_)
            obtain rfl : o10 = .slice (some ⟨g, T * 4, none⟩) (A.length - T) (cap - T) := hR 10 (by simp)
            have ho4 : w'.ownsRow wr.heap.size 69 4 o4 T (((A.take T)).flatMap enc4) := hR 4 (by simp)
            obtain ⟨gp, rfl, hgp⟩ : IsP1 (p0, p1, p2, p3) o6 w' := hR 6 (by simp)
            clear hR
            simp only [oas]
            refine wpList_planes_cat ho4 hb' hb'.size rfl (src_one hgp) _ _ rfl rfl rfl rfl (by first | omega | (simp; done) | (simp; omega)) fun v5 w5 hown5 hb5 => ?_
            clear ho4 hgp hb'
            go_frame
            refine wpList_planes_cat (ds := A.drop T) hown5 hb5 hb5.size (by rw [List.length_drop]; try omega) (src_dropA (HQ.out.below hb5) T) _ _ rfl rfl rfl rfl (by first | omega | (simp; done) | (simp; omega)) fun v6 w6 hown6 hb6 => ?_
            go_frame
            iterate 1 (refine wpList_step (fun K hK => ?_); go_simp; refine hK _ _ ?_; clear hK K)
            refine NoPanic.normal ?_
            go_wp2
            go_roundw
            case rel => exact ⟨i + 1, by omega, by go_num, below_trans hbw hb6, Lib.hid (by rw [Hres.out]; exact own_mono (by simpa using hown6) hbw.size)⟩
            case measure => first | (simp [intOf]; done) | (simp [intOf]; omega)
         ·have hd3 : decide ((3 : Int) ≤ (cnt : Int)) = false := decide_eq_false (by omega)
          rw [if_neg hc3] at Hsi
          go_wp2
          refine wqb ?_
          repeat (first | go_big_quiet_step (fail) | quiet_step (fail))
          refine wqn fun u => ?_
          have hbu := u.below
          have HOu := Lib.hid (own_below HO.out hbu)
          have HGu := Lib.hid ((hbu.block _ (blk_lt HG.out)).trans HG.out)
          have hbwu := below_trans hbw hbu
          clear HO HG hbw hbu c0 c1 c2 c3 cz
          have HO := HOu
          have HG := HGu
          have hbw := hbwu
          clear HOu HGu hbwu
          generalize u.val = wr at *
          clear u
          obtain ⟨c0, c1, c2, c3, _, cz⟩ := blk4 HG.out
          go_wp2
          go_roundw
          case rel => exact ⟨i + 1, by omega, by go_num, hbw, Lib.hid (by rw [Hsi.out]; exact HO.out)⟩
          case measure => first | (simp [intOf]; done) | (simp [intOf]; omega)
        ·have hT2 : A.length ≤ T := by omega
         clear hTA
         have g3 : ¬ (T : Int) < (A.length : Int) := by omega
         have g3' : (T : Int) ≤ (A.length : Int) := by omega
         have d3 : decide (T < A.length) = false := decide_eq_false (by omega)
         have e58 : ((T : Int) == (A.length : Int)) = true := by simp; omega
         clear Hin Hout Hmid Hskip Hless
         go_wp2
         refine wqb ?_
         repeat (first | go_big_quiet_step (fail) | quiet_step (fail))
         refine wqn fun u => ?_
         have HQu := Lib.hid (HQ.out.below u.below)
         clear HQ
         have HQ := HQu
         clear HQu
         have hbu := u.below
         have HOu := Lib.hid (own_below HO.out hbu)
         have HGu := Lib.hid ((hbu.block _ (blk_lt HG.out)).trans HG.out)
         have hbwu := below_trans hbw hbu
         clear HO HG hbw hbu c0 c1 c2 c3 cz
         have HO := HOu
         have HG := HGu
         have hbw := hbwu
         clear HOu HGu hbwu
         generalize u.val = wr at *
         clear u
         obtain ⟨c0, c1, c2, c3, _, cz⟩ := blk4 HG.out
         by_cases hc3 : 3 ≤ cnt
         ·have hd3 : decide ((3 : Int) ≤ (cnt : Int)) = true := decide_eq_true (by omega)
          rw [if_pos hc3] at Hsi
          have Hres := Lib.hid (Hsi.out.trans (Hend.out (by omega)))
          go_wp2
          refine wqb ?_
          repeat (first | go_big_quiet_step (fail) | quiet_step (fail))
          refine wqn fun u => ?_
          have HQu := Lib.hid (HQ.out.below u.below)
          clear HQ
          have HQ := HQu
          clear HQu
          have hbu := u.below
          have HOu := Lib.hid (own_below HO.out hbu)
          have HGu := Lib.hid ((hbu.block _ (blk_lt HG.out)).trans HG.out)
          have hbwu := below_trans hbw hbu
          clear HO HG hbw hbu c0 c1 c2 c3 cz
          have HO := HOu
          have HG := HGu
          have hbw := hbwu
          clear HOu HGu hbwu
          generalize u.val = wr at *
          clear u
          obtain ⟨c0, c1, c2, c3, _, cz⟩ := blk4 HG.out
          clear e58 g3
          have g5 : (T : Int) ≤ (cap : Int) := by omega
          go_wp2
          by_cases hT0 : T = 0
          ·subst hT0
           have z0 : ((0 : Nat) : Int) = 0 := rfl
           simp only [z0]
           have hA0 : A.length = 0 := by omega
           rw [hA0]
           by_cases e7 : cap = 0
           ·subst e7
            refine wp_region_growW [1, 2, 3, 8, 9, 10] [0, 1, 2, 3, 4, 5, 6, 8, 9, 10] 7 [11, 12] (pick [IsMk wr.heap.size, IsV (.slice (some ⟨g, 0, none⟩) 0 0), IsV (.int .i64 0), IsV (.slice (some ⟨g, 0, none⟩) 0 0), IsO wr.heap.size 0 ([] : List Q4), IsV (v4 (p0, p1, p2, p3)), IsP1 (p0, p1, p2, p3), IsV undef, IsV (.slice (some ⟨g, 0, none⟩) 0 0), IsV (.int .i64 0), IsV (.slice (some ⟨g, 0, none⟩) 0 0)]) (by kernel_rfl) (by kernel_rfl) (Stabs.pick (by repeat (first | exact Stabs.nil | refine Stabs.cons (by first | exact stab_v _ | exact stab_mk _ | exact stab_p1 _ | exact stab_o _ _ _) ?_))) ?_ ?_
            ·repeat (refine wpWR_step rfl (fun K' hK' => ?_); go_simp; refine hK' _ _ (fun _ => rfl) ?_; clear hK' K')
             trivial
            try go_frame
            refine wgs rfl rfl (by simp) (fun w' hb' hR K hK => ?_) (fun o0 => ?_)
            ·clear hR
             have zz := hb'.size
             go_simp
             exact hK _ _ bel ⟨_, rfl, zz, heap_new rfl⟩
            try go_frame
            refine wgs rfl rfl (by simp) (fun w' hb' hR K hK => ?_) (fun o1 => ?_)
            ·clear hR
             go_simp
             exact hK _ _ brf rfl
            try go_frame
            refine wgs rfl rfl (by simp) (fun w' hb' hR K hK => ?_) (fun o2 => ?_)
            ·clear hR
             go_simp
             exact hK _ _ brf rfl
            try go_frame
            refine wgs rfl rfl (by simp) (fun w' hb' hR K hK => ?_) (fun o3 => ?_)
            ·obtain rfl : o1 = .slice (some ⟨g, 0, none⟩) 0 0 := hR 1 (by kernel_rfl)
             obtain rfl : o2 = .int .i64 0 := hR 2 (by kernel_rfl)
             clear hR
             go_simp
             exact hK _ _ brf rfl
            try go_frame
            refine wgs rfl rfl (by simp) (fun w' hb' hR K hK => ?_) (fun o4 => ?_)
            ·have h0 : (IsMk wr.heap.size) o0 w' := hR 0 (by kernel_rfl)
             obtain rfl : o3 = .slice (some ⟨g, 0, none⟩) 0 0 := hR 3 (by kernel_rfl)
             clear hR
             obtain ⟨gm, rfl, hgm, hgl⟩ := h0
             exact wp_append _ _ 65 rfl (append_nil 65 _ 69 i0 und_planes' Hi0.out.1 ⟨gm, 0, none⟩ _ _) (hK _ _ (Below.refl _ _) ⟨rfl, .inr ⟨gm, 0, #[], rfl, hgm, hgl, Nat.le_refl _, by unfold maxLen; omega, rfl, rfl⟩⟩)
            try go_frame
            refine wgs rfl rfl (by simp) (fun w' hb' hR K hK => ?_) (fun o5 => ?_)
            ·clear hR
             have q0 := below_cell hb' c0
             have q1 := below_cell hb' c1
             have q2 := below_cell hb' c2
             have q3 := below_cell hb' c3
             have qz := Nat.lt_of_lt_of_le cz hb'.size
             go_simp
             exact hK _ _ brf rfl
            try go_frame
            refine wgs rfl rfl (by simp) (fun w' hb' hR K hK => ?_) (fun o6 => ?_)
            ·obtain rfl : o5 = v4 (p0, p1, p2, p3) := hR 5 (by kernel_rfl)
             clear hR
             go_simp
             exact hK _ _ bel ⟨_, rfl, heap_new rfl⟩
            try go_frame
            refine wgs rfl rfl (by simp) (fun w' hb' hR K hK => ?_) (fun o8 => ?_)
            ·clear hR
             go_simp
             exact hK _ _ brf rfl
            try go_frame
            refine wgs rfl rfl (by simp) (fun w' hb' hR K hK => ?_) (fun o9 => ?_)
            ·clear hR
             go_simp
             exact hK _ _ brf rfl
            try go_frame
            refine wgs rfl rfl (by simp) (fun w' hb' hR K hK => ?_) (fun o10 => ?_)
            ·obtain rfl : o8 = .slice (some ⟨g, 0, none⟩) 0 0 := hR 8 (by kernel_rfl)
             obtain rfl : o9 = .int .i64 0 := hR 9 (by kernel_rfl)
             clear hR
             go_simp
             exact hK _ _ brf rfl
            try go_frame
            refine wpG_nil (fun w' hb' hR => ?_)
            obtain rfl : o10 = .slice (some ⟨g, 0, none⟩) 0 0 := hR 10 (by simp)
            have ho4 : w'.ownsRow wr.heap.size 69 4 o4 0 ((([] : List Q4)).flatMap enc4) := hR 4 (by simp)
            obtain ⟨gp, rfl, hgp⟩ : IsP1 (p0, p1, p2, p3) o6 w' := hR 6 (by simp)
            clear hR
            simp only [oas]
            refine wpList_planes_cat ho4 hb' hb'.size rfl (src_one hgp) _ _ rfl rfl rfl rfl (by first | omega | (simp; done) | (simp; omega)) fun v5 w5 hown5 hb5 => ?_
            clear ho4 hgp hb'
            go_frame
            refine wpList_planes_cat (ds := A.drop 0) hown5 hb5 hb5.size (by rw [List.length_drop]; try omega) (src_dropA (HQ.out.below hb5) 0) _ _ rfl rfl rfl rfl (by first | omega | (simp; done) | (simp; omega)) fun v6 w6 hown6 hb6 => ?_
            go_frame
            iterate 1 (refine wpList_step (fun K hK => ?_); go_simp; refine hK _ _ ?_; clear hK K)
            refine NoPanic.normal ?_
            go_wp2
            go_roundw
            case rel => exact ⟨i + 1, by omega, by go_num, below_trans hbw hb6, Lib.hid (by rw [Hres.out]; exact own_mono (by simpa using hown6) hbw.size)⟩
            case measure => first | (simp [intOf]; done) | (simp [intOf]; omega)
           ·skip
            refine wp_region_growW [1, 2, 3, 8, 9, 10] [0, 1, 2, 3, 4, 5, 6, 8, 9, 10] 7 [11, 12] (pick [IsMk wr.heap.size, IsV (.slice (some ⟨g, 0, none⟩) 0 cap), IsV (.int .i64 0), IsV (.slice (some ⟨g, 0, none⟩) 0 cap), IsO wr.heap.size 0 ([] : List Q4), IsV (v4 (p0, p1, p2, p3)), IsP1 (p0, p1, p2, p3), IsV undef, IsV (.slice (some ⟨g, 0, none⟩) 0 cap), IsV (.int .i64 0), IsV (.slice (some ⟨g, 0, none⟩) 0 cap)]) (by kernel_rfl) (by kernel_rfl) (Stabs.pick (by repeat (first | exact Stabs.nil | refine Stabs.cons (by first | exact stab_v _ | exact stab_mk _ | exact stab_p1 _ | exact stab_o _ _ _) ?_))) ?_ ?_
            ·repeat (refine wpWR_step rfl (fun K' hK' => ?_); go_simp; refine hK' _ _ (fun _ => rfl) ?_; clear hK' K')
             trivial
            try go_frame
            refine wgs rfl rfl (by simp) (fun w' hb' hR K hK => ?_) (fun o0 => ?_)
            ·clear hR
             have zz := hb'.size
             go_simp
             exact hK _ _ bel ⟨_, rfl, zz, heap_new rfl⟩
            try go_frame
            refine wgs rfl rfl (by simp) (fun w' hb' hR K hK => ?_) (fun o1 => ?_)
            ·clear hR
             go_simp
             exact hK _ _ brf rfl
            try go_frame
            refine wgs rfl rfl (by simp) (fun w' hb' hR K hK => ?_) (fun o2 => ?_)
            ·clear hR
             go_simp
             exact hK _ _ brf rfl
            try go_frame
            refine wgs rfl rfl (by simp) (fun w' hb' hR K hK => ?_) (fun o3 => ?_)
            ·obtain rfl : o1 = .slice (some ⟨g, 0, none⟩) 0 cap := hR 1 (by kernel_rfl)
             obtain rfl : o2 = .int .i64 0 := hR 2 (by kernel_rfl)
             clear hR
             go_simp
             exact hK _ _ brf rfl
            try go_frame
            refine wgs rfl rfl (by simp) (fun w' hb' hR K hK => ?_) (fun o4 => ?_)
            ·have h0 : (IsMk wr.heap.size) o0 w' := hR 0 (by kernel_rfl)
             obtain rfl : o3 = .slice (some ⟨g, 0, none⟩) 0 cap := hR 3 (by kernel_rfl)
             clear hR
             obtain ⟨gm, rfl, hgm, hgl⟩ := h0
             exact wp_append _ _ 65 rfl (append_nil 65 _ 69 i0 und_planes' Hi0.out.1 ⟨gm, 0, none⟩ _ _) (hK _ _ (Below.refl _ _) ⟨rfl, .inr ⟨gm, 0, #[], rfl, hgm, hgl, Nat.le_refl _, by unfold maxLen; omega, rfl, rfl⟩⟩)
            try go_frame
            refine wgs rfl rfl (by simp) (fun w' hb' hR K hK => ?_) (fun o5 => ?_)
            ·clear hR
             have q0 := below_cell hb' c0
             have q1 := below_cell hb' c1
             have q2 := below_cell hb' c2
             have q3 := below_cell hb' c3
             have qz := Nat.lt_of_lt_of_le cz hb'.size
             go_simp
             exact hK _ _ brf rfl
            try go_frame
            refine wgs rfl rfl (by simp) (fun w' hb' hR K hK => ?_) (fun o6 => ?_)
            ·obtain rfl : o5 = v4 (p0, p1, p2, p3) := hR 5 (by kernel_rfl)
             clear hR
             go_simp
             exact hK _ _ bel ⟨_, rfl, heap_new rfl⟩
            try go_frame
            refine wgs rfl rfl (by simp) (fun w' hb' hR K hK => ?_) (fun o8 => ?_)
            ·clear hR
             go_simp
             exact hK _ _ brf rfl
            try go_frame
            refine wgs rfl rfl (by simp) (fun w' hb' hR K hK => ?_) (fun o9 => ?_)
            ·clear hR
             go_simp
             exact hK _ _ brf rfl
            try go_frame
            refine wgs rfl rfl (by simp) (fun w' hb' hR K hK => ?_) (fun o10 => ?_)
            ·obtain rfl : o8 = .slice (some ⟨g, 0, none⟩) 0 cap := hR 8 (by kernel_rfl)
             obtain rfl : o9 = .int .i64 0 := hR 9 (by kernel_rfl)
             clear hR
             go_simp
             exact hK _ _ brf rfl
            try go_frame
            refine wpG_nil (fun w' hb' hR => ?_)
            obtain rfl : o10 = .slice (some ⟨g, 0, none⟩) 0 cap := hR 10 (by simp)
            have ho4 : w'.ownsRow wr.heap.size 69 4 o4 0 ((([] : List Q4)).flatMap enc4) := hR 4 (by simp)
            obtain ⟨gp, rfl, hgp⟩ : IsP1 (p0, p1, p2, p3) o6 w' := hR 6 (by simp)
            clear hR
            simp only [oas]
            refine wpList_planes_cat ho4 hb' hb'.size rfl (src_one hgp) _ _ rfl rfl rfl rfl (by first | omega | (simp; done) | (simp; omega)) fun v5 w5 hown5 hb5 => ?_
            clear ho4 hgp hb'
            go_frame
            refine wpList_planes_cat (ds := A.drop 0) hown5 hb5 hb5.size (by rw [List.length_drop]; try omega) (src_dropA (HQ.out.below hb5) 0) _ _ rfl rfl rfl rfl (by first | omega | (simp; done) | (simp; omega)) fun v6 w6 hown6 hb6 => ?_
            go_frame
            iterate 1 (refine wpList_step (fun K hK => ?_); go_simp; refine hK _ _ ?_; clear hK K)
            refine NoPanic.normal ?_
            go_wp2
            go_roundw
            case rel => exact ⟨i + 1, by omega, by go_num, below_trans hbw hb6, Lib.hid (by rw [Hres.out]; exact own_mono (by simpa using hown6) hbw.size)⟩
            case measure => first | (simp [intOf]; done) | (simp [intOf]; omega)
          ·have hT1 : 0 < T := by omega
           have e7 : ¬ cap = 0 := by omega
           by_cases e6 : cap = T
           ·subst e6
            obtain ⟨T, rfl⟩ : ∃ T, T = cap := ⟨_, rfl⟩
            refine wp_region_growW [1, 2, 3, 8, 9, 10] [0, 1, 2, 3, 4, 5, 6, 8, 9, 10] 7 [11, 12] (pick [IsMk wr.heap.size, IsV (.slice (some ⟨g, 0, none⟩) A.length T), IsV (.int .i64 T), IsV (.slice (some ⟨g, 0, none⟩) T T), IsO wr.heap.size T (A.take T), IsV (v4 (p0, p1, p2, p3)), IsP1 (p0, p1, p2, p3), IsV undef, IsV (.slice (some ⟨g, 0, none⟩) A.length T), IsV (.int .i64 T), IsV (.slice (some ⟨g, 0, none⟩) 0 0)]) (by kernel_rfl) (by kernel_rfl) (Stabs.pick (by repeat (first | exact Stabs.nil | refine Stabs.cons (by first | exact stab_v _ | exact stab_mk _ | exact stab_p1 _ | exact stab_o _ _ _) ?_))) ?_ ?_
            ·repeat (refine wpWR_step rfl (fun K' hK' => ?_); go_simp; refine hK' _ _ (fun _ => rfl) ?_; clear hK' K')
             trivial
            try go_frame
            refine wgs rfl rfl (by simp) (fun w' hb' hR K hK => ?_) (fun o0 => ?_)
            ·clear hR
             have zz := hb'.size
             go_simp
             exact hK _ _ bel ⟨_, rfl, zz, heap_new rfl⟩
            try go_frame
            refine wgs rfl rfl (by simp) (fun w' hb' hR K hK => ?_) (fun o1 => ?_)
            ·clear hR
             go_simp
             exact hK _ _ brf rfl
            try go_frame
            refine wgs rfl rfl (by simp) (fun w' hb' hR K hK => ?_) (fun o2 => ?_)
            ·clear hR
             go_simp
             exact hK _ _ brf rfl
            try go_frame
            refine wgs rfl rfl (by simp) (fun w' hb' hR K hK => ?_) (fun o3 => ?_)
            ·obtain rfl : o1 = .slice (some ⟨g, 0, none⟩) A.length T := hR 1 (by kernel_rfl)
             obtain rfl : o2 = .int .i64 T := hR 2 (by kernel_rfl)
             clear hR
             go_simp
             exact hK _ _ brf rfl
            try go_frame
            refine wgs rfl rfl (by simp) (fun w' hb' hR K hK => ?_) (fun o4 => ?_)
            ·have h0 : (IsMk wr.heap.size) o0 w' := hR 0 (by kernel_rfl)
             obtain rfl : o3 = .slice (some ⟨g, 0, none⟩) T T := hR 3 (by kernel_rfl)
             clear hR
             obtain ⟨gm, rfl, hgm, hgl⟩ := h0
             obtain ⟨v9, w9, hrun, hown9, hb9⟩ := append_new (P := Tryz.prog) (w := w') 65 65 69 i0 (v4 (0, 0, 0, 0)) 4 32 und_planes' Hi0.out.1 Hi0.out.2.1 Hi0.out.2.2.1 Hi0.out.2.2.2 rfl (by decide) ⟨gm, 0, none⟩ 0 0 [] rfl (fun _ _ h => by simp at h) ⟨g, 0, none⟩ T T ((A.take T).flatMap enc4) (by rw [enc4s_len, List.length_take]; omega) (src_take (HQ.out.below hb') T) (by omega) (by unfold maxLen; omega) (by omega)
             exact wp_append _ _ 65 rfl hrun (hK _ _ hb9 (by have h9 := own_mono hown9 hb'.size; simp only [Nat.zero_add, List.nil_append] at h9; exact h9))
            try go_frame
            refine wgs rfl rfl (by simp) (fun w' hb' hR K hK => ?_) (fun o5 => ?_)
            ·clear hR
             have q0 := below_cell hb' c0
             have q1 := below_cell hb' c1
             have q2 := below_cell hb' c2
             have q3 := below_cell hb' c3
             have qz := Nat.lt_of_lt_of_le cz hb'.size
             go_simp
             exact hK _ _ brf rfl
            try go_frame
            refine wgs rfl rfl (by simp) (fun w' hb' hR K hK => ?_) (fun o6 => ?_)
            ·obtain rfl : o5 = v4 (p0, p1, p2, p3) := hR 5 (by kernel_rfl)
             clear hR
             go_simp
             exact hK _ _ bel ⟨_, rfl, heap_new rfl⟩
            try go_frame
            refine wgs rfl rfl (by simp) (fun w' hb' hR K hK => ?_) (fun o8 => ?_)
            ·clear hR
             go_simp
             exact hK _ _ brf rfl
            try go_frame
            refine wgs rfl rfl (by simp) (fun w' hb' hR K hK => ?_) (fun o9 => ?_)
            ·clear hR
             go_simp
             exact hK _ _ brf rfl
            try go_frame
            refine wgs rfl rfl (by simp) (fun w' hb' hR K hK => ?_) (fun o10 => ?_)
            ·obtain rfl : o8 = .slice (some ⟨g, 0, none⟩) A.length T := hR 8 (by kernel_rfl)
             obtain rfl : o9 = .int .i64 T := hR 9 (by kernel_rfl)
             clear hR
             go_simp
             exact hK _ _ brf rfl
            try go_frame
            refine wpG_nil (fun w' hb' hR => ?_)
            obtain rfl : o10 = .slice (some ⟨g, 0, none⟩) 0 0 := hR 10 (by simp)
            have ho4 : w'.ownsRow wr.heap.size 69 4 o4 T (((A.take T)).flatMap enc4) := hR 4 (by simp)
            obtain ⟨gp, rfl, hgp⟩ : IsP1 (p0, p1, p2, p3) o6 w' := hR 6 (by simp)
            clear hR
            simp only [oas]
            refine wpList_planes_cat ho4 hb' hb'.size rfl (src_one hgp) _ _ rfl rfl rfl rfl (by first | omega | (simp; done) | (simp; omega)) fun v5 w5 hown5 hb5 => ?_
            clear ho4 hgp hb'
            go_frame
            refine wpList_planes_cat (ds := A.drop T) hown5 hb5 hb5.size (by rw [List.length_drop]; try omega) (fun j u hu => by rw [List.drop_eq_nil_of_le (by omega)] at hu; simp at hu) _ _ rfl rfl rfl rfl (by first | omega | (simp; done) | (simp; omega)) fun v6 w6 hown6 hb6 => ?_
            go_frame
            iterate 1 (refine wpList_step (fun K hK => ?_); go_simp; refine hK _ _ ?_; clear hK K)
            refine NoPanic.normal ?_
            go_wp2
            go_roundw
            case rel => exact ⟨i + 1, by omega, by go_num, below_trans hbw hb6, Lib.hid (by rw [Hres.out]; exact own_mono (by simpa using hown6) hbw.size)⟩
            case measure => first | (simp [intOf]; done) | (simp [intOf]; omega)
           ·skip
            refine wp_region_growW [1, 2, 3, 8, 9, 10] [0, 1, 2, 3, 4, 5, 6, 8, 9, 10] 7 [11, 12] (pick [IsMk wr.heap.size, IsV (.slice (some ⟨g, 0, none⟩) A.length cap), IsV (.int .i64 T), IsV (.slice (some ⟨g, 0, none⟩) T cap), IsO wr.heap.size T (A.take T), IsV (v4 (p0, p1, p2, p3)), IsP1 (p0, p1, p2, p3), IsV undef, IsV (.slice (some ⟨g, 0, none⟩) A.length cap), IsV (.int .i64 T), IsV (.slice (some ⟨g, T * 4, none⟩) 0 (cap - T))]) (by kernel_rfl) (by kernel_rfl) (Stabs.pick (by repeat (first | exact Stabs.nil | refine Stabs.cons (by first | exact stab_v _ | exact stab_mk _ | exact stab_p1 _ | exact stab_o _ _ _) ?_))) ?_ ?_
            ·repeat (refine wpWR_step rfl (fun K' hK' => ?_); go_simp; refine hK' _ _ (fun _ => rfl) ?_; clear hK' K')
             trivial
            try go_frame
            refine wgs rfl rfl (by simp) (fun w' hb' hR K hK => ?_) (fun o0 => ?_)
            ·clear hR
             have zz := hb'.size
             go_simp
             exact hK _ _ bel ⟨_, rfl, zz, heap_new rfl⟩
            try go_frame
            refine wgs rfl rfl (by simp) (fun w' hb' hR K hK => ?_) (fun o1 => ?_)
            ·clear hR
             go_simp
             exact hK _ _ brf rfl
            try go_frame
            refine wgs rfl rfl (by simp) (fun w' hb' hR K hK => ?_) (fun o2 => ?_)
            ·clear hR
             go_simp
             exact hK _ _ brf rfl
            try go_frame
            refine wgs rfl rfl (by simp) (fun w' hb' hR K hK => ?_) (fun o3 => ?_)
            ·obtain rfl : o1 = .slice (some ⟨g, 0, none⟩) A.length cap := hR 1 (by kernel_rfl)
             obtain rfl : o2 = .int .i64 T := hR 2 (by kernel_rfl)
             clear hR
             go_simp
             exact hK _ _ brf rfl
            try go_frame
            refine wgs rfl rfl (by simp) (fun w' hb' hR K hK => ?_) (fun o4 => ?_)
            ·have h0 : (IsMk wr.heap.size) o0 w' := hR 0 (by kernel_rfl)
             obtain rfl : o3 = .slice (some ⟨g, 0, none⟩) T cap := hR 3 (by kernel_rfl)
             clear hR
             obtain ⟨gm, rfl, hgm, hgl⟩ := h0
             obtain ⟨v9, w9, hrun, hown9, hb9⟩ := append_new (P := Tryz.prog) (w := w') 65 65 69 i0 (v4 (0, 0, 0, 0)) 4 32 und_planes' Hi0.out.1 Hi0.out.2.1 Hi0.out.2.2.1 Hi0.out.2.2.2 rfl (by decide) ⟨gm, 0, none⟩ 0 0 [] rfl (fun _ _ h => by simp at h) ⟨g, 0, none⟩ T cap ((A.take T).flatMap enc4) (by rw [enc4s_len, List.length_take]; omega) (src_take (HQ.out.below hb') T) (by omega) (by unfold maxLen; omega) (by omega)
             exact wp_append _ _ 65 rfl hrun (hK _ _ hb9 (by have h9 := own_mono hown9 hb'.size; simp only [Nat.zero_add, List.nil_append] at h9; exact h9))
            try go_frame
            refine wgs rfl rfl (by simp) (fun w' hb' hR K hK => ?_) (fun o5 => ?_)
            ·clear hR
             have q0 := below_cell hb' c0
             have q1 := below_cell hb' c1
             have q2 := below_cell hb' c2
             have q3 := below_cell hb' c3
             have qz := Nat.lt_of_lt_of_le cz hb'.size
             go_simp
             exact hK _ _ brf rfl
            try go_frame
            refine wgs rfl rfl (by simp) (fun w' hb' hR K hK => ?_) (fun o6 => ?_)
            ·obtain rfl : o5 = v4 (p0, p1, p2, p3) := hR 5 (by kernel_rfl)
             clear hR
             go_simp
             exact hK _ _ bel ⟨_, rfl, heap_new rfl⟩
            try go_frame
            refine wgs rfl rfl (by simp) (fun w' hb' hR K hK => ?_) (fun o8 => ?_)
            ·clear hR
             go_simp
             exact hK _ _ brf rfl
            try go_frame
            refine wgs rfl rfl (by simp) (fun w' hb' hR K hK => ?_) (fun o9 => ?_)
            ·clear hR
             go_simp
             exact hK _ _ brf rfl
            try go_frame
            refine wgs rfl rfl (by simp) (fun w' hb' hR K hK => ?_) (fun o10 => ?_)
            ·obtain rfl : o8 = .slice (some ⟨g, 0, none⟩) A.length cap := hR 8 (by kernel_rfl)
             obtain rfl : o9 = .int .i64 T := hR 9 (by kernel_rfl)
             clear hR
             go_simp
             exact hK _ _ brf rfl
            try go_frame
            refine wpG_nil (fun w' hb' hR => ?_)
            obtain rfl : o10 = .slice (some ⟨g, T * 4, none⟩) 0 (cap - T) := hR 10 (by simp)
            have ho4 : w'.ownsRow wr.heap.size 69 4 o4 T (((A.take T)).flatMap enc4) := hR 4 (by simp)
            obtain ⟨gp, rfl, hgp⟩ : IsP1 (p0, p1, p2, p3) o6 w' := hR 6 (by simp)
            clear hR
            simp only [oas]
            refine wpList_planes_cat ho4 hb' hb'.size rfl (src_one hgp) _ _ rfl rfl rfl rfl (by first | omega | (simp; done) | (simp; omega)) fun v5 w5 hown5 hb5 => ?_
            clear ho4 hgp hb'
            go_frame
            refine wpList_planes_cat (ds := A.drop T) hown5 hb5 hb5.size (by rw [List.length_drop]; try omega) (src_dropA (HQ.out.below hb5) T) _ _ rfl rfl rfl rfl (by first | omega | (simp; done) | (simp; omega)) fun v6 w6 hown6 hb6 => ?_
            go_frame
            iterate 1 (refine wpList_step (fun K hK => ?_); go_simp; refine hK _ _ ?_; clear hK K)
            refine NoPanic.normal ?_
            go_wp2
            go_roundw
            case rel => exact ⟨i + 1, by omega, by go_num, below_trans hbw hb6, Lib.hid (by rw [Hres.out]; exact own_mono (by simpa using hown6) hbw.size)⟩
            case measure => first | (simp [intOf]; done) | (simp [intOf]; omega)
         ·have hd3 : decide ((3 : Int) ≤ (cnt : Int)) = false := decide_eq_false (by omega)
          rw [if_neg hc3] at Hsi
          go_wp2
          refine wqb ?_
          repeat (first | go_big_quiet_step (fail) | quiet_step (fail))
          refine wqn fun u => ?_
          have hbu := u.below
          have HOu := Lib.hid (own_below HO.out hbu)
          have HGu := Lib.hid ((hbu.block _ (blk_lt HG.out)).trans HG.out)
          have hbwu := below_trans hbw hbu
          clear HO HG hbw hbu c0 c1 c2 c3 cz
          have HO := HOu
          have HG := HGu
          have hbw := hbwu
          clear HOu HGu hbwu
          generalize u.val = wr at *
          clear u
          obtain ⟨c0, c1, c2, c3, _, cz⟩ := blk4 HG.out
          go_wp2
          go_roundw
          case rel => exact ⟨i + 1, by omega, by go_num, hbw, Lib.hid (by rw [Hsi.out]; exact HO.out)⟩
          case measure => first | (simp [intOf]; done) | (simp [intOf]; omega)
  ·obtain rfl : i = n := by omega
   have g1 : ¬ (i : Int) < (i : Int) := by omega
   go_wp2
   go_ret
   exact ⟨_, rfl, below_trans hb1 hb, by have := own_mono (base' := W.heap.size) HO.out hb1.size; rw [← Hfin.out]; exact this⟩
end
section
open Go.RowKit Go.Shelf
attribute [local go_sem] Ext.cell Ext.frozen
theorem rleast_any (a b c d : Int) (W : World) (ha : -10000000 ≤ a ∧ a ≤ 10000000) (hb : -10000000 ≤ b ∧ b ≤ 10000000) (hc : -10000000 ≤ c ∧ c ≤ 10000000) (hd : -10000000 ≤ d ∧ d ≤ 10000000) :
  Calls Tryz.prog 42 #[.int .i64 a, .int .i64 b, .int .i64 c, .int .i64 d] W (Ret W (v4 (-a, -b, -c, -d))) := by
 have wa : IntKind.i64.wrap (-a) = -a := IntWalk.i64_in _ (by omega)
 have wb : IntKind.i64.wrap (-b) = -b := IntWalk.i64_in _ (by omega)
 have wc : IntKind.i64.wrap (-c) = -c := IntWalk.i64_in _ (by omega)
 have wd : IntKind.i64.wrap (-d) = -d := IntWalk.i64_in _ (by omega)
 go_enter Tryz.func42, Tryz.ntmps42
 go_wp2
 refine bodyPost_ret (v := v4 (-a, -b, -c, -d)) (by simp [results, Tryz.results42, go_sem]) rfl ⟨rfl, ?_⟩
 exact bel
theorem rmost_any (a b c d : Int) (W : World) :
  Calls Tryz.prog 43 #[.int .i64 a, .int .i64 b, .int .i64 c, .int .i64 d] W (Ret W (v4 (a, b, c, d))) := by
 go_enter Tryz.func43, Tryz.ntmps43
 go_wp2
 refine bodyPost_ret (v := v4 (a, b, c, d)) (by simp [results, Tryz.results43, go_sem]) rfl ⟨rfl, ?_⟩
 exact bel
def IsN (B : Nat) (ps : List Q4) : Value → World → Prop := fun v w => ∃ g, v = .slice (some ⟨g, 0, none⟩) ps.length ps.length ∧ B ≤ g ∧ w.heap[g]? = some (.cells (ps.flatMap enc4).toArray 69 (0, 0))
theorem stab_n (B : Nat) (ps : List Q4) : Stab (IsN B ps) := fun _ _ _ hb ⟨g, h1, h2, h3⟩ => ⟨g, h1, h2, (hb.block g (blk_lt h3)).trans h3⟩
theorem rx_any (a b : Int) (W : World) (ha : -10000000 ≤ a ∧ a ≤ 10000000) :
  Calls Tryz.prog 40 #[.int .i64 a, .int .i64 b] W fun e w' => ∃ v, e = .returned v ∧ Below W.heap.size W w' ∧ IsN W.heap.size (btP 0 a b) v w' := by
 have h1 := fun W' => Lib.hid (rleast_any 1 0 0 a W' (by omega) (by omega) (by omega) ha)
 have h2 := fun W' => Lib.hid (rmost_any 1 0 0 b W')
 go_enter Tryz.func40, Tryz.ntmps40
 go_wp2_with fail
 refine ((h1 _).out).mono ?_
 rintro e w1 ⟨rfl, hb1⟩
 go_wp2_with fail
 refine ((h2 _).out).mono ?_
 rintro e w2 ⟨rfl, hb2⟩
 have hb := below_trans hb1 hb2
 go_wp2
 go_ret
 have hs := hb.size
 exact ⟨_, rfl, below_trans hb bel, _, rfl, hs, heap_new rfl⟩
theorem ry_any (a b : Int) (W : World) (ha : -10000000 ≤ a ∧ a ≤ 10000000) :
  Calls Tryz.prog 38 #[.int .i64 a, .int .i64 b] W fun e w' => ∃ v, e = .returned v ∧ Below W.heap.size W w' ∧ IsN W.heap.size (btP 1 a b) v w' := by
 have h1 := fun W' => Lib.hid (rleast_any 0 1 0 a W' (by omega) (by omega) (by omega) ha)
 have h2 := fun W' => Lib.hid (rmost_any 0 1 0 b W')
 go_enter Tryz.func38, Tryz.ntmps38
 go_wp2_with fail
 refine ((h1 _).out).mono ?_
 rintro e w1 ⟨rfl, hb1⟩
 go_wp2_with fail
 refine ((h2 _).out).mono ?_
 rintro e w2 ⟨rfl, hb2⟩
 have hb := below_trans hb1 hb2
 go_wp2
 go_ret
 have hs := hb.size
 exact ⟨_, rfl, below_trans hb bel, _, rfl, hs, heap_new rfl⟩
theorem rz_any (a b : Int) (W : World) (ha : -10000000 ≤ a ∧ a ≤ 10000000) :
  Calls Tryz.prog 37 #[.int .i64 a, .int .i64 b] W fun e w' => ∃ v, e = .returned v ∧ Below W.heap.size W w' ∧ IsN W.heap.size (btP 2 a b) v w' := by
 have h1 := fun W' => Lib.hid (rleast_any 0 0 1 a W' (by omega) (by omega) (by omega) ha)
 have h2 := fun W' => Lib.hid (rmost_any 0 0 1 b W')
 go_enter Tryz.func37, Tryz.ntmps37
 go_wp2_with fail
 refine ((h1 _).out).mono ?_
 rintro e w1 ⟨rfl, hb1⟩
 go_wp2_with fail
 refine ((h2 _).out).mono ?_
 rintro e w2 ⟨rfl, hb2⟩
 have hb := below_trans hb1 hb2
 go_wp2
 go_ret
 have hs := hb.size
 exact ⟨_, rfl, below_trans hb bel, _, rfl, hs, heap_new rfl⟩
end
end Go.Proofs.YtokhkhnofkcalaaGreatDoor
