/- texts: Z0. -/
import Derived.Test.YtokhkhnofkcalaaGreatDoorGZS27
import Derived.Test.YtokhkhnofkcalaaGreatDoorGZS25
namespace Go.Proofs.YtokhkhnofkcalaaGreatDoor
set_option maxHeartbeats 8000000
set_option linter.unusedSimpArgs false
set_option linter.unusedVariables false
section
open Go.RowKit Go.Shelf
def midS (sp : List Q4) (r y : Int) : List Q4 := [sp, btP 1 (y - r) (y + r)].flatten
def sqS (sp : List Q4) (r y z : Int) : List Q4 := [midS sp r y, btP 2 (z - r) (z + r)].flatten
def befS (sp : List Q4) (first : Bool) (s : Int) : List Q4 := if first then sp else [sp, [geP 1 s]].flatten
def aroundS (sp : List Q4) (r e : Int) (first : Bool) (s : Int) (last : Bool) (y z : Int) : List (List Q4) :=
 [[befS sp first s, [leP 1 (y - r)]].flatten] ++ (if last then [[sp, [geP 1 (y + r)]].flatten] else []) ++
 [[midS sp r y, [leP 2 (z - r)]].flatten, [midS sp r y, [geP 2 (z + r)]].flatten] ++ (cut4 e y z).map fun p => [sqS sp r y z, [trP p]].flatten
theorem aroundS_C (f g r e : Int) (first : Bool) (s : Int) (last : Bool) (y z : Int) : aroundS (btP 0 f g) r e first s last y z = aroundC f g r e first s last y z := by
 unfold aroundS aroundC midS sqS befS
 cases first <;> cases last <;> simp [midS]
def hsY (hs : List (Int × Int)) (i : Nat) : Int := (hs.getD i (0, 0)).1
def hsZ (hs : List (Int × Int)) (i : Nat) : Int := (hs.getD i (0, 0)).2
def prevS (hs : List (Int × Int)) (r : Int) (i : Nat) : Int := if i = 0 then 0 else hsY hs (i - 1) + r
def restS (sp : List Q4) (r e : Int) (hs : List (Int × Int)) (j : Nat) : List (List Q4) := (List.range j).flatMap fun i => aroundS sp r e (i == 0) (prevS hs r i) (i + 1 == hs.length) (hsY hs i) (hsZ hs i)
theorem restS_succ (sp : List Q4) (r e : Int) (hs : List (Int × Int)) (j : Nat) : restS sp r e hs (j + 1) = restS sp r e hs j ++ aroundS sp r e (j == 0) (prevS hs r j) (j + 1 == hs.length) (hsY hs j) (hsZ hs j) := by
 simp [restS, List.range_succ]
theorem restS_len (sp : List Q4) (r e : Int) (hs : List (Int × Int)) (j : Nat) : (restS sp r e hs j).length ≤ 8 * j := by
 induction j with
 | zero => simp [restS]
 | succ j ih =>
  rw [restS_succ, List.length_append]
  have : ∀ f s l y z, (aroundS sp r e f s l y z).length ≤ 8 := fun f s l y z => by
   unfold aroundS cut4
   cases l <;> simp
  have := this (j == 0) (prevS hs r j) (j + 1 == hs.length) (hsY hs j) (hsZ hs j)
  omega
theorem restS_pos (sp : List Q4) (r e : Int) (hs : List (Int × Int)) (j : Nat) : 0 < (restS sp r e hs (j + 1)).length := by
 rw [restS_succ, List.length_append]
 simp [aroundS]
 omega
theorem hsY_to (n : List Int) (m i : Nat) (h : i < m) : hsY (holesTo n m) i = n.getD (6 + 2 * i) 0 ∧ hsZ (holesTo n m) i = n.getD (7 + 2 * i) 0 := by
 simp [hsY, hsZ, holesTo, List.getD_eq_getElem?_getD, List.getElem?_map, List.getElem?_range h]
theorem restS_to (f g : Int) (n : List Int) (j : Nat) (hj : j ≤ holeN n) : restS (btP 0 f g) (n.getD 1 0) (n.getD 2 0) (holesTo n (holeN n)) j = restTo f g n j := by
 induction j with
 | zero => rfl
 | succ j ih =>
  rw [restS_succ, restTo_succ, ih (by omega), aroundS_C, (hsY_to n _ j (by omega)).1, (hsY_to n _ j (by omega)).2, holesTo_len]
  have : prevS (holesTo n (holeN n)) (n.getD 1 0) j = prevY n j := by
   unfold prevS prevY
   by_cases h : j = 0
   ·rw [if_pos h, if_pos h]
   ·rw [if_neg h, if_neg h, (hsY_to n _ (j - 1) (by omega)).1, show 6 + 2 * (j - 1) = 4 + 2 * j by omega]
  rw [this]
def Q2At (w : World) (b off : Nat) (hs : List (Int × Int)) : Prop := ∀ i, i < hs.length → w.cell? ⟨b, off + i * 2, none⟩ = some (.int .i64 (hsY hs i)) ∧ w.cell? ⟨b, off + i * 2 + 1, none⟩ = some (.int .i64 (hsZ hs i))
theorem Q2At.below {w w' : World} {b off : Nat} {hs : List (Int × Int)} (h : Q2At w b off hs) (hb : Below w.heap.size w w') : Q2At w' b off hs := fun i hi => ⟨below_cell hb (h i hi).1, below_cell hb (h i hi).2⟩
theorem enc2_len (x : Int × Int) : (enc2 x).length = 2 := rfl
theorem q2_own {w : World} {base : Nat} {T : TypeId} {v : Value} {hs : List (Int × Int)} (h : w.ownsRow base T 2 v hs.length (hs.flatMap enc2)) (h0 : 0 < hs.length) : ∃ g cap, v = .slice (some ⟨g, 0, none⟩) hs.length cap ∧ Q2At w g 0 hs := by
 rcases h.2 with ⟨rfl, h1⟩ | ⟨g, cap, cur, rfl, hb, hh, hc, hm, hcs, ht⟩
 ·omega
 ·refine ⟨g, cap, rfl, fun i hi => ?_⟩
  have key : ∀ j, j < 2 → w.cell? ⟨g, i * 2 + j, none⟩ = (enc2 hs[i])[j]? := fun j hj => by
   rw [blk_cell hh, ← flat_get enc2 2 enc2_len hs i hi j hj, ← ht, List.getElem?_take_of_lt (by omega), Array.getElem?_toList]
  have e : hs.getD i (0, 0) = hs[i] := by simp [List.getD_eq_getElem?_getD, List.getElem?_eq_getElem hi]
  simp only [Nat.zero_add, hsY, hsZ, e]
  exact ⟨key 0 (by omega), key 1 (by omega)⟩
theorem po_at {B : Nat} {ps : List Q4} {v : Value} {w : World} (h : PO B ps v w) (h0 : 0 < ps.length) : ∃ g cap, v = .slice (some ⟨g, 0, none⟩) ps.length cap ∧ ps.length ≤ cap := by
 rcases h.2 with ⟨rfl, h1⟩ | ⟨g, cap, cur, rfl, hb, hh, hc, hm, hcs, ht⟩
 ·omega
 ·exact ⟨g, cap, rfl, hc⟩
theorem po_q4 {B b off m c : Nat} {ps : List Q4} {w : World} (h : PO B ps (.slice (some ⟨b, off, none⟩) m c) w) (h0 : 0 < ps.length) : Q4At w b off ps := by
 obtain ⟨a, n, c', e, hn, hc, hx⟩ := q4s_own h
 obtain ⟨b', off', ha, hi⟩ := hx (by omega)
 injection e with e1
 rw [ha] at e1
 injection e1 with e2
 injection e2 with e3 e4
 subst e3
 subst e4
 exact hi
theorem PO.push {B B' : Nat} {ps : List Q4} {v r : Value} {cr : List (List Q4)} {w w' : World} (h : PO B ps v w) (hr : CO B' cr r w) (hg : w.grownBy w' r.ownBlock) : PO B ps v w' :=
 h.kept hg (by
  cases e1 : v.ownBlock with
  | none => exact .inl rfl
  | some g =>
   right
   intro e
   obtain ⟨vs, ho, _⟩ := hr
   rcases ho.2 with ⟨rfl, _⟩ | ⟨g', cap, cur, rfl, _, h2, _⟩
   ·cases e
   ·have : g' = g := by simpa [Value.ownBlock] using e.symm
    subst this
    exact own_blk_ne h h2 (by decide) e1)
structure RI (W : World) (hb : Nat) (y z : Int) (cs : List (List Q4)) (v : Value) (w : World) : Prop where
 below : Below W.heap.size W w
 ge : W.heap.size ≤ hb
 blk : w.heap[hb]? = some (.cells #[.int .i64 y, .int .i64 z] 157 (0, 0))
 co : CO W.heap.size cs v w
theorem RI.grow {W : World} {hb : Nat} {y z : Int} {cs : List (List Q4)} {v : Value} {w w' : World} (h : RI W hb y z cs v w) (hw : Below w.heap.size w w') : RI W hb y z cs v w' :=
 ⟨below_trans h.below hw, h.ge, (hw.block _ (blk_lt h.blk)).trans h.blk, stab_co _ _ _ _ _ hw h.co⟩
theorem RI.push {W : World} {hb : Nat} {y z : Int} {cs cs' : List (List Q4)} {v v' : Value} {w w' : World} (h : RI W hb y z cs v w) (hc : CO W.heap.size cs' v' w') (hg : w.grownBy w' v.ownBlock) : RI W hb y z cs' v' w' :=
 ⟨h.below.grown hg h.below.size (fun z hz => (co_lt h.co z hz).1), h.ge, (hg.block _ (blk_lt h.blk) (co_ne h.co h.blk (by decide))).trans h.blk, hc⟩
theorem po_newq {B g : Nat} {W : World} (p1 p2 p3 p4 : Int) (hg : g = W.heap.size) (hB : B ≤ W.heap.size) : PO B [(p1, p2, p3, p4)] (.slice (some ⟨g, 0, none⟩) 1 1) (W.alloc (.cells #[.int .i64 p1, .int .i64 p2, .int .i64 p3, .int .i64 p4] 69)) :=
 po_newg [(p1, p2, p3, p4)] hg hB
theorem fo_newq (p1 p2 p3 p4 : Int) (W : World) : FO 0 [[(p1, p2, p3, p4)]] (.slice (some ⟨W.heap.size + 1, 0, none⟩) 1 1) ((W.alloc (.cells #[.int .i64 p1, .int .i64 p2, .int .i64 p3, .int .i64 p4] 69)).alloc (.cells #[.slice (some ⟨W.heap.size, 0, none⟩) 1 1] 104)) := by
 have h := fo_new (B := 0) (W := W.alloc (.cells #[.int .i64 p1, .int .i64 p2, .int .i64 p3, .int .i64 p4] 69)) [.slice (some ⟨W.heap.size, 0, none⟩) 1 1] [[(p1, p2, p3, p4)]] (Nat.zero_le _) ⟨po_newq p1 p2 p3 p4 rfl (Nat.zero_le _), trivial⟩ bel
 simpa using h
end
end Go.Proofs.YtokhkhnofkcalaaGreatDoor
