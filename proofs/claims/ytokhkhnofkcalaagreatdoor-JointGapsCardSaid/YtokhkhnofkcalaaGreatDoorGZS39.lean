/- texts: Z1. -/
import Derived.Test.YtokhkhnofkcalaaGreatDoorGZS38
import Derived.Deep.DeepCutAuto
namespace Go.Proofs.YtokhkhnofkcalaaGreatDoor
set_option maxHeartbeats 8000000
set_option linter.unusedSimpArgs false
set_option linter.unusedVariables false
section
open Go.RowKit Go.Shelf
set_option maxRecDepth 100000
attribute [local go_sem] Ext.cell Ext.frozen
theorem rest_any (sp : List Q4) (r e : Int) (sv lv : Value) (B : Nat) (hs : List (Int × Int)) (W : World) (hsp : PO 0 sp sv W) (hl4 : sp.length ≤ 4) (hh : W.ownsRow B 157 2 lv hs.length (hs.flatMap enc2)) (h1 : 1 ≤ hs.length) (hn : hs.length ≤ 1000)
  (hb : ∀ i, -100000 ≤ hsY hs i ∧ hsY hs i ≤ 100000 ∧ -100000 ≤ hsZ hs i ∧ hsZ hs i ≤ 100000) (hrb : -100000 ≤ r ∧ r ≤ 100000) (he : -100000 ≤ e ∧ e ≤ 100000) :
  Calls Tryz.prog 124 #[sv, lv, .int .i64 r, .int .i64 e] W fun en w' => ∃ v, en = .returned v ∧ Below W.heap.size W w' ∧ CO W.heap.size (restS sp r e hs hs.length) v w' := by
 obtain ⟨g, cap, rfl, hat⟩ := q2_own hh (by omega)
 have HAt := Lib.hid hat
 have HS := Lib.hid hsp
 obtain ⟨sa, sc, rfl⟩ := hsp.shape
 have Hs := Lib.hid (restS_succ sp r e hs)
 have HLn := Lib.hid (restS_len sp r e hs)
 have HB := Lib.hid hb
 obtain ⟨N, HN⟩ : ∃ N, Hid (hs.length = N) := ⟨_, Lib.hid rfl⟩
 have HLi := Lib.hid (show hs.length ≤ 1000 from hn)
 have H0 : Hid (restS sp r e hs 0 = []) := Lib.hid rfl
 simp only [HN.out] at Hs ⊢
 generalize restS sp r e hs = RS at *
 clear hat hh hb hsp
 rw [HN.out] at h1 hn
 go_enter Tryz.func124, Tryz.ntmps124
 go_wp2
 go_loopw [9, 19] (fun s9 s19 wr => ∃ i : Nat, i ≤ N ∧ s19 = .int .i64 i ∧ Below W.heap.size W wr ∧ Hid (CO W.heap.size (RS i) s9 wr)) (fun _ s19 _ => N - (intOf s19).toNat)
 case atStart => exact ⟨0, by omega, rfl, Below.refl _ _, Lib.hid (by rw [H0.out]; exact CO.nil)⟩
 case round =>
  obtain ⟨i, hi, rfl, hbw, HO⟩ := hrel
  by_cases hlt : i < N
  ·obtain ⟨c0, c1⟩ := HAt.out i (by have := HN.out; omega)
   have c0 := below_cell hbw c0
   have c1 := below_cell hbw c1
   simp only [Nat.zero_add] at c0 c1
   have hy := HB.out i
   have Hp := Lib.hid (HB.out (i - 1))
   have Hsi := Lib.hid (Hs.out i)
   have HPc : Hid (0 < i → W.cell? ⟨g, (i - 1) * 2, none⟩ = some (.int .i64 (hsY hs (i - 1)))) := Lib.hid (fun h => by simpa only [Nat.zero_add] using (HAt.out (i - 1) (by have := HN.out; omega)).1)
   have HPS : Hid (0 < i → prevS hs r i = hsY hs (i - 1) + r) := Lib.hid (fun h => by unfold prevS; rw [if_neg (by omega)])
   generalize hsY hs (i - 1) = py at *
   generalize prevS hs r i = ps at *
   generalize hsY hs i = y at *
   generalize hsZ hs i = z at *
   have zg := World.block_lt_of_cell? wr _ c0
   simp only at zg
   have HLr := Lib.hid (HLn.out i)
   obtain ⟨oa, oc, rfl⟩ := HO.out.shape
   have g1 : (i : Int) < (N : Int) := by omega
   have g2 : (0 : Int) ≤ (i : Int) := by omega
   have hz : -100000 ≤ z ∧ z ≤ 100000 := ⟨hy.2.2.1, hy.2.2.2⟩
   have hy : -100000 ≤ y ∧ y ≤ 100000 := ⟨hy.1, hy.2.1⟩
   obtain ⟨X, HX⟩ : ∃ X, Hid (wr.alloc (.cells #[.int .i64 y, .int .i64 z] 157) = X) := ⟨_, Lib.hid rfl⟩
   have hbX : Below wr.heap.size wr X := by rw [← HX.out]; exact bel
   have HR : Hid (RI W wr.heap.size y z (RS i) (.slice oa (RS i).length oc) X) := Lib.hid ⟨below_trans hbw hbX, hbw.size, by rw [← HX.out]; exact heap_new rfl, stab_co _ _ _ _ _ hbX HO.out⟩
   have Hb0 : Hid (i = 0 → befS sp (i == 0) ps = sp) := Lib.hid (fun h => by subst h; rfl)
   have Hb1 : Hid (0 < i → befS sp (i == 0) ps = [sp, [geP 1 ps]].flatten) := Lib.hid (fun h => by rw [show (i == 0) = false by simp; omega]; rfl)
   have Hbl : Hid ((befS sp (i == 0) ps).length ≤ 5) := Lib.hid (by unfold befS; cases i == 0 <;> simp; all_goals omega)
   have Hbf : Hid (RS (i + 1) = RS i ++ aroundS sp r e (i == 0) ps (i + 1 == N) y z) := Hsi
   have HBA : Hid (∀ last, aroundS sp r e (i == 0) ps last y z = [[befS sp (i == 0) ps, [leP 1 (y - r)]].flatten] ++ (if last then [[sp, [geP 1 (y + r)]].flatten] else []) ++ [[midS sp r y, [leP 2 (z - r)]].flatten, [midS sp r y, [geP 2 (z + r)]].flatten] ++ (cut4 e y z).map fun p => [sqS sp r y z, [trP p]].flatten) := Lib.hid (fun _ => rfl)
   generalize befS sp (i == 0) ps = bp at *
   clear Hsi
   go_upto_if 26 with fail
   rw [HX.out]
   go_cut [12] (fun s12 wx => ∃ ba bc, s12 = .slice ba bp.length bc ∧ Below X.heap.size X wx ∧ Hid (PO 0 bp (.slice ba bp.length bc) wx))
   case first =>
    by_cases h0 : i = 0
    ·have e0 := Hb0.out h0
     subst e0
     have g3 : ¬ 0 < i := by omega
     clear h0
     go_wp2_with fail
     go_meet
     exact ⟨_, _, rfl, Below.refl _ _, Lib.hid (HS.out.below HR.out.below)⟩
    ·have g3 : 0 < i := by omega
     have cp := below_cell HR.out.below (HPc.out g3)
     have zp := World.block_lt_of_cell? X _ cp
     simp only at zp
     have eps := HPS.out g3
     have bpy := Hp.out
     have g4 : (0 : Int) ≤ (i : Int) - 1 := by omega
     have g5 : (i : Int) - 1 < (N : Int) := by omega
     have g6 : ((i : Int) - 1).toNat = i - 1 := by omega
     have e1 := fun W' => Lib.hid (show Calls Tryz.prog 75 #[.int .i64 1, .int .i64 (py + r)] W' (Ret W' (v4 (geP 1 (py + r)))) from least_any 1 (py + r) W' (by omega) (by omega))
     have ebp := Hb1.out g3
     rw [eps] at ebp
     generalize geP 1 (py + r) = q at *
     obtain ⟨q1, q2, q3, q4⟩ := q
     have e9 := fun cv lv W' hc hl => Lib.hid (cwith_o cv sp lv [[(q1, q2, q3, q4)]] W' hc hl (by simp) (by simp) (by simp; omega))
     rw [← ebp] at e9
     clear ebp eps
     have HS2 := Lib.hid (HS.out.below HR.out.below)
     go_wp2_with fail
     refine ((e1 _).out).mono ?_
     rintro en w3 ⟨rfl, hb3⟩
     obtain ⟨Y, HY⟩ : ∃ Y, Hid ((w3.alloc (.cells #[.int .i64 q1, .int .i64 q2, .int .i64 q3, .int .i64 q4] 69)).alloc (.cells #[.slice (some ⟨w3.heap.size, 0, none⟩) 1 1] 104) = Y) := ⟨_, Lib.hid rfl⟩
     have hbY : Below w3.heap.size w3 Y := by rw [← HY.out]; exact bel
     have HF : Hid (FO 0 [[(q1, q2, q3, q4)]] (.slice (some ⟨w3.heap.size + 1, 0, none⟩) 1 1) Y) := Lib.hid (by rw [← HY.out]; exact fo_newq _ _ _ _ _)
     have hb3Y := below_trans hb3 hbY
     have H9 := Lib.hid ((e9 _ _ Y ((HS2.out.below hb3Y).planes.mono (Nat.zero_le _)) HF.out.2.cells).out)
     go_wp2_with fail
     rw [HY.out]
     refine (H9.out).mono ?_
     rintro en w5 ⟨v5, rfl, hb5, hp5⟩
     obtain ⟨ra, rc, rfl⟩ := hp5.shape
     have hb35 := below_trans hb3Y hb5
     have HK5 := Lib.hid (hp5.mono (B' := W.heap.size) (by have := HR.out.below.size; have := hb3Y.size; omega))
     clear HF HY H9 hbY hp5 hb3 hb3Y hb5
     go_wp2_with fail
     go_meet
     exact ⟨_, _, rfl, hb35, Lib.hid (HK5.out.mono (Nat.zero_le _))⟩
   case rest =>
    rename World => X2
    obtain ⟨ba, bc, rfl, hb2, HP⟩ := hcut
    have HR := Lib.hid (HR.out.grow hb2)
    obtain ⟨x0, x1, xf, xz⟩ := blk2 HR.out.blk
    have f1 := fun W' => Lib.hid (show Calls Tryz.prog 76 #[.int .i64 1, .int .i64 (y - r)] W' (Ret W' (v4 (leP 1 (y - r)))) from most_any 1 (y - r) W' (by omega) (by omega))
    generalize leP 1 (y - r) = p at *
    obtain ⟨p1, p2, p3, p4⟩ := p
    have f9 := fun cv lv W' hc hl => Lib.hid (cwith_o cv bp lv [[(p1, p2, p3, p4)]] W' hc hl (by simp) (by simp) (by have := Hbl.out; simp; omega))
    generalize [bp, [(p1, p2, p3, p4)]].flatten = K1 at *
    go_wp2_with fail
    refine ((f1 _).out).mono ?_
    rintro en w3 ⟨rfl, hb3⟩
    obtain ⟨Y, HY⟩ : ∃ Y, Hid ((w3.alloc (.cells #[.int .i64 p1, .int .i64 p2, .int .i64 p3, .int .i64 p4] 69)).alloc (.cells #[.slice (some ⟨w3.heap.size, 0, none⟩) 1 1] 104) = Y) := ⟨_, Lib.hid rfl⟩
    have hbY : Below w3.heap.size w3 Y := by rw [← HY.out]; exact bel
    have HF : Hid (FO 0 [[(p1, p2, p3, p4)]] (.slice (some ⟨w3.heap.size + 1, 0, none⟩) 1 1) Y) := Lib.hid (by rw [← HY.out]; exact fo_newq _ _ _ _ _)
    have hb3Y := below_trans hb3 hbY
    have H9 := Lib.hid ((f9 _ _ Y ((HP.out.below hb3Y).planes.mono (Nat.zero_le _)) HF.out.2.cells).out)
    go_wp2_with fail
    rw [HY.out]
    refine (H9.out).mono ?_
    rintro en w5 ⟨v5, rfl, hb5, hp5⟩
    obtain ⟨ra, rc, rfl⟩ := hp5.shape
    have hb35 := below_trans hb3Y hb5
    have HK5 := Lib.hid (hp5.mono (B' := W.heap.size) (by have := HR.out.below.size; have := hb3Y.size; omega))
    clear HF HY H9 hbY hp5 hb3 hb3Y hb5
    have HLx := HLr
    have hbZ : Below w5.heap.size w5 (w5.alloc (.cells #[.slice ra (K1).length rc] 104)) := bel
    have HRZ := Lib.hid (HR.out.grow (below_trans hb35 hbZ))
    have HG : Hid (FO W.heap.size [K1] (.slice (some ⟨w5.heap.size, 0, none⟩) 1 1) (w5.alloc (.cells #[.slice ra (K1).length rc] 104))) := Lib.hid (fo_new [_] [_] (Nat.le_trans HR.out.below.size hb35.size) ⟨HK5.out, trivial⟩ hbZ)
    go_wp2_with (at_builtin; refine wpList_cells_push HRZ.out.co HG.out _ _ rfl rfl rfl rfl ?c1 ?c2 ?_)
    case c1 => have := HLx.out; have := HLr.out; simp; omega
    case c2 => exact HRZ.out.below.size
    intro v' w' hc' hg' _
    have HR := Lib.hid (HRZ.out.push hc' hg')
    obtain ⟨C1, HC1⟩ : ∃ C1, Hid (RS i ++ [K1] = C1) := ⟨_, Lib.hid rfl⟩
    rw [HC1.out] at hc' HR
    obtain ⟨va, vc, rfl⟩ := hc'.shape
    have HL1 : Hid (C1.length ≤ 8 * i + 1) := Lib.hid (by rw [← HC1.out]; have := HLr.out; simp; omega)
    clear hc' hg' HRZ HG hbZ hb35 HK5 x0 x1 xf xz HP f1 f9 hb2
    obtain ⟨C2, HC2⟩ : ∃ C2, Hid (C1 ++ (if (i + 1 == N) = true then [[sp, [geP 1 (y + r)]].flatten] else []) = C2) := ⟨_, Lib.hid rfl⟩
    have HL2 : Hid (C2.length ≤ 8 * i + 2) := Lib.hid (by rw [← HC2.out]; have := HL1.out; cases i + 1 == N <;> simp <;> omega)
    go_upto_if 56 with fail
    go_cut [9] (fun s9 wx => ∃ oa oc, s9 = .slice oa C2.length oc ∧ Hid (RI W wr.heap.size y z C2 (.slice oa C2.length oc) wx))
    case first =>
     by_cases hL : i + 1 = N
     ·have gL : ((i : Int) == (N : Int) - 1) = true := by simp; omega
      have hLb : (i + 1 == N) = true := by simpa using hL
      have f1 := fun W' => Lib.hid (show Calls Tryz.prog 75 #[.int .i64 1, .int .i64 (y + r)] W' (Ret W' (v4 (geP 1 (y + r)))) from least_any 1 (y + r) W' (by omega) (by omega))
      rw [hLb, if_pos rfl] at HC2
      generalize geP 1 (y + r) = p at *
      obtain ⟨p1, p2, p3, p4⟩ := p
      have f9 := fun cv lv W' hc hl => Lib.hid (cwith_o cv sp lv [[(p1, p2, p3, p4)]] W' hc hl (by simp) (by simp) (by simp; omega))
      generalize [sp, [(p1, p2, p3, p4)]].flatten = K2 at *
      obtain ⟨x0, x1, xf, xz⟩ := blk2 HR.out.blk
      have HS2 := Lib.hid (HS.out.below HR.out.below)
      have HLx := HL1
      clear hL hLb
      go_wp2_with fail
      go_wp2_with fail
      refine ((f1 _).out).mono ?_
      rintro en w3 ⟨rfl, hb3⟩
      obtain ⟨Y, HY⟩ : ∃ Y, Hid ((w3.alloc (.cells #[.int .i64 p1, .int .i64 p2, .int .i64 p3, .int .i64 p4] 69)).alloc (.cells #[.slice (some ⟨w3.heap.size, 0, none⟩) 1 1] 104) = Y) := ⟨_, Lib.hid rfl⟩
      have hbY : Below w3.heap.size w3 Y := by rw [← HY.out]; exact bel
      have HF : Hid (FO 0 [[(p1, p2, p3, p4)]] (.slice (some ⟨w3.heap.size + 1, 0, none⟩) 1 1) Y) := Lib.hid (by rw [← HY.out]; exact fo_newq _ _ _ _ _)
      have hb3Y := below_trans hb3 hbY
      have H9 := Lib.hid ((f9 _ _ Y ((HS2.out.below hb3Y).planes.mono (Nat.zero_le _)) HF.out.2.cells).out)
      go_wp2_with fail
      rw [HY.out]
      refine (H9.out).mono ?_
      rintro en w5 ⟨v5, rfl, hb5, hp5⟩
      obtain ⟨ra, rc, rfl⟩ := hp5.shape
      have hb35 := below_trans hb3Y hb5
      have HK5 := Lib.hid (hp5.mono (B' := W.heap.size) (by have := HR.out.below.size; have := hb3Y.size; omega))
      clear HF HY H9 hbY hp5 hb3 hb3Y hb5
      have hbZ : Below w5.heap.size w5 (w5.alloc (.cells #[.slice ra (K2).length rc] 104)) := bel
      have HRZ := Lib.hid (HR.out.grow (below_trans hb35 hbZ))
      have HG : Hid (FO W.heap.size [K2] (.slice (some ⟨w5.heap.size, 0, none⟩) 1 1) (w5.alloc (.cells #[.slice ra (K2).length rc] 104))) := Lib.hid (fo_new [_] [_] (Nat.le_trans HR.out.below.size hb35.size) ⟨HK5.out, trivial⟩ hbZ)
      go_wp2_with (at_builtin; refine wpList_cells_push HRZ.out.co HG.out _ _ rfl rfl rfl rfl ?c1 ?c2 ?_)
      case c1 => have := HLx.out; have := HLr.out; simp; omega
      case c2 => exact HRZ.out.below.size
      intro v' w' hc' hg' _
      rw [HC2.out] at hc'
      have HR := Lib.hid (HRZ.out.push hc' hg')
      obtain ⟨va2, vc2, rfl⟩ := hc'.shape
      go_wp2_with fail
      go_meet
      exact ⟨_, _, rfl, HR⟩
     ·have gL : ((i : Int) == (N : Int) - 1) = false := by simp; omega
      have hLb : (i + 1 == N) = false := by simpa using hL
      rw [hLb, if_neg (by simp), List.append_nil] at HC2
      have e2 := HC2.out
      subst e2
      clear hL hLb
      go_wp2_with fail
      go_meet
      exact ⟨_, _, rfl, HR⟩
    case rest =>
     rename World => X3
     obtain ⟨ta, tc, rfl, HR⟩ := hcut
     have HS3 := Lib.hid (HS.out.below HR.out.below)
     obtain ⟨x0, x1, xf, xz⟩ := blk2 HR.out.blk
     have f1 := fun W' => Lib.hid (show Calls Tryz.prog 72 #[.int .i64 1, .int .i64 (y - r), .int .i64 (y + r)] W' _ from between_o 1 (y - r) (y + r) W' (by omega) (by omega) (by omega))
     have f2 := fun W' => Lib.hid (show Calls Tryz.prog 72 #[.int .i64 2, .int .i64 (z - r), .int .i64 (z + r)] W' _ from between_o 2 (z - r) (z + r) W' (by omega) (by omega) (by omega))
     have f3 := fun W' => Lib.hid (show Calls Tryz.prog 76 #[.int .i64 2, .int .i64 (z - r)] W' (Ret W' (v4 (leP 2 (z - r)))) from most_any 2 (z - r) W' (by omega) (by omega))
     have f4 := fun W' => Lib.hid (show Calls Tryz.prog 75 #[.int .i64 2, .int .i64 (z + r)] W' (Ret W' (v4 (geP 2 (z + r)))) from least_any 2 (z + r) W' (by omega) (by omega))
     have f5 := fun W' => Lib.hid (shape_any y z r e W' (by omega) (by omega) (by omega) (by omega))
     have Hbf2 : Hid (RS (i + 1) = C2 ++ [[midS sp r y, [leP 2 (z - r)]].flatten, [midS sp r y, [geP 2 (z + r)]].flatten] ++ (cut4 e y z).map fun p => [sqS sp r y z, [trP p]].flatten) := Lib.hid (by
      rw [Hbf.out, HBA.out, ← HC2.out, ← HC1.out]
      simp only [List.append_assoc])
     have Hsq : Hid (sqS sp r y z = [midS sp r y, btP 2 (z - r) (z + r)].flatten) := Lib.hid rfl
     have Hmd : Hid (midS sp r y = [sp, btP 1 (y - r) (y + r)].flatten) := Lib.hid rfl
     have Hml : Hid ((midS sp r y).length ≤ 8 ∧ (sqS sp r y z).length ≤ 10) := Lib.hid (by simp [sqS, midS, btP]; omega)
     have Hcut : Hid (∀ j, j < 4 → ∃ a b c d, (shapeP r e y z)[4 + j]? = some (a, b, c, d) ∧ (cut4 e y z)[j]? = some (a, b, c, d) ∧ (-1 ≤ a ∧ a ≤ 1) ∧ (-1 ≤ b ∧ b ≤ 1) ∧ (-1 ≤ c ∧ c ≤ 1) ∧ -1000000 ≤ d ∧ d ≤ 1000000) := Lib.hid (fun j hj => by
      have : j = 0 ∨ j = 1 ∨ j = 2 ∨ j = 3 := by omega
      rcases this with rfl | rfl | rfl | rfl <;> exact ⟨_, _, _, _, rfl, rfl, by omega, by omega, by omega, by omega, by omega⟩)
     have H8l : Hid ((shapeP r e y z).length = 8) := Lib.hid rfl
     have H4l : Hid ((cut4 e y z).length = 4) := Lib.hid rfl
     have Hb1l : Hid ((btP 1 (y - r) (y + r)).length = 2) := Lib.hid rfl
     have Hb2l : Hid ((btP 2 (z - r) (z + r)).length = 2) := Lib.hid rfl
     clear Hs Hbf HBA Hb0 Hb1 HC1 HC2 HL1 Hp HPc HPS HAt HB HLn c0 c1 zg hbX HX HO Hbl
     generalize shapeP r e y z = shp at *
     generalize cut4 e y z = c4 at *
     generalize sqS sp r y z = sq at *
     generalize midS sp r y = md at *
     generalize btP 1 (y - r) (y + r) = bt at *
     generalize btP 2 (z - r) (z + r) = bt2 at *
     generalize leP 2 (z - r) = p at *
     generalize geP 2 (z + r) = q at *
     obtain ⟨p1, p2, p3, p4⟩ := p
     obtain ⟨q1, q2, q3, q4⟩ := q
     have f9 := fun cv lv W' hc hl => Lib.hid (cwith_o cv sp lv [bt] W' hc hl (by simp) (by simp) (by have := Hb1l.out; simp; omega))
     rw [← Hmd.out] at f9
     go_wp2_with fail
     refine ((f1 _).out).mono ?_
     rintro en w3 ⟨v3, rfl, hb3, hp3⟩
     obtain ⟨ya, yc, rfl⟩ := hp3.shape
     obtain ⟨Y, HY⟩ : ∃ Y, Hid (w3.alloc (.cells #[.slice ya bt.length yc] 104) = Y) := ⟨_, Lib.hid rfl⟩
     have hbY : Below w3.heap.size w3 Y := by rw [← HY.out]; exact bel
     have HF : Hid (FO 0 [bt] (.slice (some ⟨w3.heap.size, 0, none⟩) 1 1) Y) := Lib.hid (by rw [← HY.out]; exact fo_new [_] [_] (Nat.zero_le _) ⟨hp3.mono (Nat.zero_le _), trivial⟩ bel)
     have hb3Y := below_trans hb3 hbY
     clear hp3
     have H9 := Lib.hid ((f9 _ _ Y ((HS3.out.below hb3Y).planes.mono (Nat.zero_le _)) HF.out.2.cells).out)
     go_wp2_with fail
     rw [HY.out]
     refine (H9.out).mono ?_
     rintro en w5 ⟨v5, rfl, hb5, hp5⟩
     obtain ⟨ra, rc, rfl⟩ := hp5.shape
     have hb35 := below_trans hb3Y hb5
     have HK5 := Lib.hid (hp5.mono (B' := W.heap.size) (by have := HR.out.below.size; have := hb3Y.size; omega))
     clear HF HY H9 hbY hp5 hb3 hb3Y hb5
     have HR := Lib.hid (HR.out.grow hb35)
     go_wp2
     have HMD := HK5
     clear HK5
     obtain ⟨x0, x1, xf, xz⟩ := blk2 HR.out.blk
     have g3 := fun cv lv W' hc hl => Lib.hid (cwith_o cv md lv [[(p1, p2, p3, p4)]] W' hc hl (by simp) (by simp) (by have := Hml.out; simp; omega))
     have g4 := fun cv lv W' hc hl => Lib.hid (cwith_o cv md lv [[(q1, q2, q3, q4)]] W' hc hl (by simp) (by simp) (by have := Hml.out; simp; omega))
     generalize [md, [(p1, p2, p3, p4)]].flatten = K3 at *
     generalize [md, [(q1, q2, q3, q4)]].flatten = K4 at *
     have zW := HR.out.below.size
     have k1 : IntKind.i64.wrap (z - r) = z - r := IntWalk.i64_in _ (by omega)
     have k2 : IntKind.i64.wrap (z + r) = z + r := IntWalk.i64_in _ (by omega)
     clear hb35
     apply wp_region_growM [] [0, 1, 2, 3, 4, 5, 6, 7, 8, 9, 10, 11, 12, 13, 14, 15, 16, 17, 18, 19] 20 21 [] [sv _, sv _, sv _, sv _, sv _, sv _, sv _, sPO W.heap.size [(p1, p2, p3, p4)], sFO W.heap.size [[(p1, p2, p3, p4)]], sPO W.heap.size K3, sv _, sv _, sv _, sv _, sv _, sv _, sPO W.heap.size [(q1, q2, q3, q4)], sFO W.heap.size [[(q1, q2, q3, q4)]], sPO W.heap.size K4, sFO W.heap.size [K3, K4]] (fun _ => True) (by kernel_rfl) (by kernel_rfl) (by kernel_rfl) (fun _ => trivial)
     ·exact zs_nil
     iterate 6 ((try go_frame); refine wkV ?_; apply ex3; (focus (intro u K hK; go_simp; exact hK _ brf)); rfl)
     try go_frame
     refine wkV ?_
     apply ex3
     ·intro u K hK
      go_simp
      refine ((f3 _).out).mono ?_
      rintro e w9 ⟨rfl, hb9⟩
      exact hK _ hb9
     rfl
     try go_frame
     refine wkU (fun u hR K hK => ?_) (fun o7 => ?_)
     ·clear hR
      have zw := u.size
      go_simp
      exact hK _ _ bel (po_new [(p1, p2, p3, p4)] (by omega))
     try go_frame
     refine wkU (fun u hR K hK => ?_) (fun o8 => ?_)
     ·have h7 : (PO W.heap.size [(p1, p2, p3, p4)]) o7 u.val := hr hR 7
      clear hR
      have zw := u.size
      obtain ⟨ya, yc, rfl⟩ := (h7).shape
      have H1 := Lib.hid h7
      clear h7
      go_simp
      exact hK _ _ bel (fo_new [_] [_] (by omega) ⟨H1.out, trivial⟩ bel)
     try go_frame
     refine wkU (fun u hR K hK => ?_) (fun o9 => ?_)
     ·have h8 : (FO W.heap.size [[(p1, p2, p3, p4)]]) o8 u.val := hr hR 8
      clear hR
      go_simp
      refine ((g3 _ _ _ ((HMD.out.planes.below u.below).mono (Nat.zero_le _)) (h8.2.cells.mono (Nat.zero_le _))).out).mono ?_
      rintro e w9 ⟨v9, rfl, hb9, hp9⟩
      exact hK _ _ hb9 (own_mono hp9 (by have := u.size; omega))
     iterate 5 ((try go_frame); refine wkV ?_; apply ex3; (focus (intro u K hK; go_simp; exact hK _ brf)); rfl)
     try go_frame
     refine wkV ?_
     apply ex3
     ·intro u K hK
      go_simp
      refine ((f4 _).out).mono ?_
      rintro e w9 ⟨rfl, hb9⟩
      exact hK _ hb9
     rfl
     try go_frame
     refine wkU (fun u hR K hK => ?_) (fun o16 => ?_)
     ·clear hR
      have zw := u.size
      go_simp
      exact hK _ _ bel (po_new [(q1, q2, q3, q4)] (by omega))
     try go_frame
     refine wkU (fun u hR K hK => ?_) (fun o17 => ?_)
     ·have h16 : (PO W.heap.size [(q1, q2, q3, q4)]) o16 u.val := hr hR 16
      clear hR
      have zw := u.size
      obtain ⟨ya, yc, rfl⟩ := (h16).shape
      have H1 := Lib.hid h16
      clear h16
      go_simp
      exact hK _ _ bel (fo_new [_] [_] (by omega) ⟨H1.out, trivial⟩ bel)
     try go_frame
     refine wkU (fun u hR K hK => ?_) (fun o18 => ?_)
     ·have h17 : (FO W.heap.size [[(q1, q2, q3, q4)]]) o17 u.val := hr hR 17
      clear hR
      go_simp
      refine ((g4 _ _ _ ((HMD.out.planes.below u.below).mono (Nat.zero_le _)) (h17.2.cells.mono (Nat.zero_le _))).out).mono ?_
      rintro e w9 ⟨v9, rfl, hb9, hp9⟩
      exact hK _ _ hb9 (own_mono hp9 (by have := u.size; omega))
     try go_frame
     refine wkU (fun u hR K hK => ?_) (fun o19 => ?_)
     ·have h9 : (PO W.heap.size K3) o9 u.val := hr hR 9
      have h18 : (PO W.heap.size K4) o18 u.val := hr hR 18
      clear hR
      have zw := u.size
      obtain ⟨ya, yc, rfl⟩ := (h9).shape
      obtain ⟨xa, xc, rfl⟩ := (h18).shape
      have H1 := Lib.hid h9
      have H2 := Lib.hid h18
      clear h9 h18
      go_simp
      exact hK _ _ bel (fo_new [_, _] [_, _] (by omega) ⟨H1.out, H2.out, trivial⟩ bel)
     try go_frame
     refine wk_nil (fun u hR => ?_)
     have HF : Hid (FO W.heap.size [K3, K4] o19 u.val) := Lib.hid (hR 19 (by simp))
     have HR1 := Lib.hid (HR.out.grow u.below)
     have HMD1 := Lib.hid (HMD.out.below u.below)
     clear hR HR HMD x0 x1 xf xz zW k1 k2
     generalize u.val = wx at *
     clear u
     simp only [oas]
     refine wpList_cells_push HR1.out.co HF.out _ _ rfl rfl rfl rfl (by have := HL2.out; simp; omega) HR1.out.below.size fun v' w' hc' hg' _ => ?_
     have HR := Lib.hid (HR1.out.push hc' hg')
     have HMD := Lib.hid (HMD1.out.push HR1.out.co hg')
     obtain ⟨C3, HC3⟩ : ∃ C3, Hid (C2 ++ [K3, K4] = C3) := ⟨_, Lib.hid rfl⟩
     rw [HC3.out] at hc' HR Hbf2
     obtain ⟨ua, uc, rfl⟩ := hc'.shape
     have HL3 : Hid (C3.length ≤ 8 * i + 4) := Lib.hid (by rw [← HC3.out]; have := HL2.out; simp; omega)
     refine ⟨trivial, ?_⟩
     clear hc' hg' HR1 HMD1 HF HC3 f3 f4 g3 g4
     simp only [oas]
     go_wp2
     refine NoPanic.normal ?_
     obtain ⟨x0, x1, xf, xz⟩ := blk2 HR.out.blk
     have f9 := fun cv lv W' hc hl => Lib.hid (cwith_o cv md lv [bt2] W' hc hl (by simp) (by simp) (by have := Hb2l.out; have := Hml.out; simp; omega))
     rw [← Hsq.out] at f9
     go_wp2_with fail
     go_wp2_with fail
     refine ((f2 _).out).mono ?_
     rintro en w3 ⟨v3, rfl, hb3, hp3⟩
     obtain ⟨ya, yc, rfl⟩ := hp3.shape
     obtain ⟨Y, HY⟩ : ∃ Y, Hid (w3.alloc (.cells #[.slice ya bt2.length yc] 104) = Y) := ⟨_, Lib.hid rfl⟩
     have hbY : Below w3.heap.size w3 Y := by rw [← HY.out]; exact bel
     have HF : Hid (FO 0 [bt2] (.slice (some ⟨w3.heap.size, 0, none⟩) 1 1) Y) := Lib.hid (by rw [← HY.out]; exact fo_new [_] [_] (Nat.zero_le _) ⟨hp3.mono (Nat.zero_le _), trivial⟩ bel)
     have hb3Y := below_trans hb3 hbY
     clear hp3
     have H9 := Lib.hid ((f9 _ _ Y ((HMD.out.below hb3Y).planes.mono (Nat.zero_le _)) HF.out.2.cells).out)
     go_wp2_with fail
     rw [HY.out]
     refine (H9.out).mono ?_
     rintro en w5 ⟨v5, rfl, hb5, hp5⟩
     obtain ⟨ra, rc, rfl⟩ := hp5.shape
     have hb35 := below_trans hb3Y hb5
     have HK5 := Lib.hid (hp5.mono (B' := W.heap.size) (by have := HR.out.below.size; have := hb3Y.size; omega))
     clear HF HY H9 hbY hp5 hb3 hb3Y hb5
     have HR := Lib.hid (HR.out.grow hb35)
     have HSQ := HK5
     clear HK5 HMD f2 f9 x0 x1 xf xz
     obtain ⟨x0, x1, xf, xz⟩ := blk2 HR.out.blk
     go_wp2_with fail
     refine ((f5 _).out).mono ?_
     rintro en w7 ⟨v7, rfl, hb7, hp7⟩
     have HP8 := Lib.hid (hp7.mono (B' := W.heap.size) HR.out.below.size)
     obtain ⟨g8, c8, e8, hc8⟩ := po_at hp7 (by rw [H8l.out]; omega)
     rw [H8l.out] at e8 hc8
     subst e8
     have HR := Lib.hid (HR.out.grow hb7)
     have HSQ := Lib.hid (HSQ.out.below hb7)
     clear hp7 hb7 x0 x1 xf xz f5 hb35
     have gc8 : c8 ≠ 4 := by omega
     go_wp2
     obtain ⟨F, HF0, HFs, HF4, HFl⟩ : ∃ F : Nat → List (List Q4), Hid (F 0 = C3) ∧ Hid (∀ j, j < 4 → ∀ a b c d, c4[j]? = some (a, b, c, d) → F (j + 1) = F j ++ [[sq, [trP (a, b, c, d)]].flatten]) ∧ Hid (F 4 = RS (i + 1)) ∧ Hid (∀ j, (F j).length ≤ 8 * i + 8) := by
      refine ⟨fun j => C3 ++ (c4.take j).map fun p => [sq, [trP p]].flatten, Lib.hid (by simp), Lib.hid (fun j hj a b c d h => ?_), Lib.hid ?_, Lib.hid (fun j => ?_)⟩
      ·dsimp only
       rw [List.take_add_one, h]
       simp
      ·have h4 : c4.take 4 = c4 := List.take_of_length_le (Nat.le_of_eq H4l.out)
       dsimp only
       rw [Hbf2.out, h4]
      ·have := HL3.out
       have := H4l.out
       simp
       omega
     go_loopw [9, 120] (fun s9 s120 wq => ∃ j : Nat, j ≤ 4 ∧ s120 = .int .i64 j ∧ (∃ fa fc, s9 = .slice fa (F j).length fc ∧ Hid (RI W wr.heap.size y z (F j) (.slice fa (F j).length fc) wq)) ∧ Hid (PO W.heap.size sq (.slice ra sq.length rc) wq) ∧ Hid (PO W.heap.size shp (.slice (some ⟨g8, 0, none⟩) 8 c8) wq)) (fun _ s120 _ => 4 - (intOf s120).toNat)
     case atStart => exact ⟨0, by omega, rfl, ⟨_, _, by rw [HF0.out], by rw [HF0.out]; exact HR⟩, HSQ, HP8⟩
     case round =>
      clear HR HSQ HP8
      rename World => wq
      obtain ⟨j, hj, rfl, ⟨fa, fc, rfl, HR⟩, HSQ, HP8⟩ := hrel
      by_cases hjl : j < 4
      ·obtain ⟨a1, a2, a3, a4, hs1, hs2, ba1, ba2, ba3, ba4⟩ := Hcut.out j hjl
       have HFj := Lib.hid (HFs.out j hjl a1 a2 a3 a4 hs2)
       have hq4 := po_q4 HP8.out (by rw [H8l.out]; omega) (4 + j) (by rw [H8l.out]; omega)
       obtain ⟨_, es⟩ := List.getElem?_eq_some_iff.1 hs1
       rw [es] at hq4
       simp only at hq4
       obtain ⟨d0, d1, d2, d3⟩ := hq4
       have ea : 0 + (4 + j) * 4 = 16 + j * 4 := by omega
       rw [ea] at d0 d1 d2 d3
       have zd := World.block_lt_of_cell? wq _ d0
       simp only at zd
       have f6 := fun W' => Lib.hid (show Calls Tryz.prog 82 #[v4 (a1, a2, a3, a4)] W' (Ret W' (v4 (trP (a1, a2, a3, a4)))) from turned_any a1 a2 a3 a4 W' (by omega) (by omega) (by omega) (by omega))
       generalize trP (a1, a2, a3, a4) = p at *
       obtain ⟨p1, p2, p3, p4⟩ := p
       have f9 := fun cv lv W' hc hl => Lib.hid (cwith_o cv sq lv [[(p1, p2, p3, p4)]] W' hc hl (by simp) (by simp) (by have := Hml.out; simp; omega))
       generalize [sq, [(p1, p2, p3, p4)]].flatten = K at *
       have j1 : (j : Int) < 4 := by omega
       have j2 : (0 : Int) ≤ (j : Int) := by omega
       have HLx := Lib.hid (HFl.out j)
       have hbU : Below wq.heap.size wq (wq.alloc (.cells #[.int .i64 a1, .int .i64 a2, .int .i64 a3, .int .i64 a4] 69)) := bel
       have HR := Lib.hid (HR.out.grow hbU)
       have HSQ := Lib.hid (HSQ.out.below hbU)
       have HP8 := Lib.hid (HP8.out.below hbU)
       clear hs1 hs2 es ea hbU Hcut HFs HF0 HF4 Hbf2
       go_wp2_with fail
       refine ((f6 _).out).mono ?_
       rintro en w3 ⟨rfl, hb3⟩
       obtain ⟨Y, HY⟩ : ∃ Y, Hid ((w3.alloc (.cells #[.int .i64 p1, .int .i64 p2, .int .i64 p3, .int .i64 p4] 69)).alloc (.cells #[.slice (some ⟨w3.heap.size, 0, none⟩) 1 1] 104) = Y) := ⟨_, Lib.hid rfl⟩
       have hbY : Below w3.heap.size w3 Y := by rw [← HY.out]; exact bel
       have HF : Hid (FO 0 [[(p1, p2, p3, p4)]] (.slice (some ⟨w3.heap.size + 1, 0, none⟩) 1 1) Y) := Lib.hid (by rw [← HY.out]; exact fo_newq _ _ _ _ _)
       have hb3Y := below_trans hb3 hbY
       have H9 := Lib.hid ((f9 _ _ Y ((HSQ.out.below hb3Y).planes.mono (Nat.zero_le _)) HF.out.2.cells).out)
       go_wp2_with fail
       rw [HY.out]
       refine (H9.out).mono ?_
       rintro en w5 ⟨v5, rfl, hb5, hp5⟩
       obtain ⟨ra, rc, rfl⟩ := hp5.shape
       have hb35 := below_trans hb3Y hb5
       have HK5 := Lib.hid (hp5.mono (B' := W.heap.size) (by have := HR.out.below.size; have := hb3Y.size; omega))
       clear HF HY H9 hbY hp5 hb3 hb3Y hb5
       have hbZ : Below w5.heap.size w5 (w5.alloc (.cells #[.slice ra (K).length rc] 104)) := bel
       have HRZ := Lib.hid (HR.out.grow (below_trans hb35 hbZ))
       have HG : Hid (FO W.heap.size [K] (.slice (some ⟨w5.heap.size, 0, none⟩) 1 1) (w5.alloc (.cells #[.slice ra (K).length rc] 104))) := Lib.hid (fo_new [_] [_] (Nat.le_trans HR.out.below.size hb35.size) ⟨HK5.out, trivial⟩ hbZ)
       go_wp2_with (at_builtin; refine wpList_cells_push HRZ.out.co HG.out _ _ rfl rfl rfl rfl ?c1 ?c2 ?_)
       case c1 => have := HLx.out; have := HLr.out; simp; omega
       case c2 => exact HRZ.out.below.size
       intro v' w' hc' hg' _
       rw [← HFj.out] at hc'
       have hwz := below_trans hb35 hbZ
       have HSQ := Lib.hid ((HSQ.out.below hwz).push HRZ.out.co hg')
       have HP8 := Lib.hid ((HP8.out.below hwz).push HRZ.out.co hg')
       have HR := Lib.hid (HRZ.out.push hc' hg')
       obtain ⟨fa2, fc2, rfl⟩ := hc'.shape
       clear hc' hg' HRZ HG hbZ hb35 HK5 hwz f6 f9 d0 d1 d2 d3 zd
       go_wp2
       go_roundw
       case rel => exact ⟨j + 1, by omega, by go_num, ⟨_, _, rfl, HR⟩, HSQ, HP8⟩
       case measure => simp [intOf]; omega
      ·obtain rfl : j = 4 := by omega
       clear HFs HF0 Hcut HSQ HP8
       go_wp2
       go_roundw
       case rel => exact ⟨i + 1, by omega, by go_num, HR.out.below, Lib.hid (by rw [← HF4.out]; exact HR.out.co)⟩
       case measure => simp [intOf]; omega
  ·obtain rfl : i = N := by omega
   obtain ⟨oa, oc, rfl⟩ := HO.out.shape
   have g1 : ¬ (i : Int) < (i : Int) := by omega
   go_wp2
   go_ret
   exact ⟨_, rfl, hbw, HO.out⟩
end
end Go.Proofs.YtokhkhnofkcalaaGreatDoor
