/- NamesLaw: texts of mine, merged: Cmp3, B3. -/
import Derived.Test.YtfdgifcllelhiaaGreatDoorNamesLawM5
/- slices.Compact at corners, planes and cells of a joint, over a row that the call owns. -/
namespace Go.Proofs.YtfdgifcllelhiaaGreatDoor
open Go.RowKit Go.Shelf Go.Sort Go.Lib
attribute [local go_sem] Ext.cell Ext.frozen

theorem compact_len_le (d : Array Q4) (m : Nat) : (compactUpTo d m).length ≤ m := by
  unfold compactUpTo
  rw [List.length_map]
  exact Nat.le_trans (List.length_filter_le _ _) (by simp)
theorem und_corners' : Tryz.prog.underlying 189 = some (.slice 203) := by kernel_rfl
theorem und_planes' : Tryz.prog.underlying 88 = some (.slice 92) := by kernel_rfl

set_option maxRecDepth 100000 in
set_option maxHeartbeats 2000000 in
theorem compact_corner (d : Array Q4) (g n cap base : Nat) (w : World) (hd : d.size = n) (hn : n ≤ 10000000) (h2 : 2 ≤ n) (hown : w.ownsRow base 203 4 (.slice (some ⟨g, 0, none⟩) n cap) n (d.toList.flatMap enc4)) :
    Calls Tryz.prog 229 #[.slice (some ⟨g, 0, none⟩) n cap] w fun e w' => e = .returned (.slice (some ⟨g, 0, none⟩) (compactUpTo d n).length cap) ∧ w.grownBy w' (some g) ∧
      w'.ownsRow base 203 4 (.slice (some ⟨g, 0, none⟩) (compactUpTo d n).length cap) (compactUpTo d n).length ((compactUpTo d n).flatMap enc4) := by
  obtain ⟨sp, hrow, hbase, hcap, hnc, hsp⟩ := own_rowq d hown
  have HR := Lib.hid hrow
  clear hown hrow
  go_enter Tryz.func229, Tryz.ntmps229
  go_wp2
  go_loopw [3] (fun i wr => ∃ k : Nat, 1 ≤ k ∧ k ≤ n ∧ i = .int .i64 k ∧ w.grownBy wr (some g) ∧ Hid (RowQ wr g 203 d sp) ∧ Hid (∀ j, j < k → keeps d j = true)) (fun i _ => n - (intOf i).toNat)
  case atStart => exact ⟨1, by omega, by omega, rfl, ⟨rfl, rfl, rfl, Nat.le_refl _, fun _ _ _ => rfl⟩, HR, Lib.hid (keeps_lt_one d)⟩
  case round =>
    clear HR
    obtain ⟨k, hk1, hk, rfl, hgr, HR, Ha⟩ := hrel
    by_cases hlt : k < n
    · obtain ⟨c0, c1, c2, c3⟩ := HR.out.get k (by omega)
      obtain ⟨e0, e1, e2, e3⟩ := HR.out.get (k - 1) (by omega)
      have zg := blk_lt HR.out
      obtain ⟨x, Hx⟩ : ∃ x, Hid (d[k]! = x) := ⟨_, Lib.hid rfl⟩
      obtain ⟨y, Hy⟩ : ∃ y, Hid (d[k - 1]! = y) := ⟨_, Lib.hid rfl⟩
      rw [Hx.out] at c0 c1 c2 c3
      rw [Hy.out] at e0 e1 e2 e3
      have hq := eq_co x y
      by_cases hxy : x = y
      · have Hxy := Lib.hid hxy
        rw [decide_eq_true hxy] at hq
        clear hxy
        go_wp2
        refine wp_region_quietB (by kernel_rfl) (by kernel_rfl) ?_
        repeat (first | go_big_quiet_step (fail) | quiet_step (fail))
        refine wpQuiet_nil ?_
        rintro _ ⟨u, rfl⟩
        have HR1 : Hid (RowQ u.val g 203 d sp) := Lib.hid (HR.out.keep u.below)
        have hgr1 := grown_below hgr u.below
        clear c0 c1 c2 c3 e0 e1 e2 e3 hq HR hgr
        go_wp2
        go_loopw [3, 5] (fun s3 s5 wr => ∃ (kk k2 : Nat) (dk : Array Q4), s3 = .int .i64 kk ∧ s5 = .int .i64 k2 ∧ 1 ≤ k2 ∧ k + k2 ≤ n ∧ w.grownBy wr (some g) ∧ Hid (RowQ wr g 203 dk sp) ∧ Hid (CompInv d (k + k2) kk dk)) (fun _ i _ => n - (intOf i).toNat)
        case atStart => exact ⟨k, 1, d, rfl, rfl, Nat.le_refl _, by omega, hgr1, HR1, Lib.hid (CompInv.start Ha.out (keeps_neg (by omega) (by rw [Hx.out, Hy.out]; exact Hxy.out)))⟩
        case round =>
          clear HR1 hgr1
          obtain ⟨kk, k2, dk, rfl, rfl, h1, hle, hgr, HR, HI⟩ := hrel
          have hkk := HI.out.lt
          have hds := HI.out.size
          have zg := blk_lt HR.out
          have fz := HR.out.free
          by_cases hlt2 : k + k2 < n
          · obtain ⟨c0, c1, c2, c3⟩ := HR.out.get (k + k2) (by omega)
            obtain ⟨e0, e1, e2, e3⟩ := HR.out.get (k + k2 - 1) (by omega)
            obtain ⟨d0, d1, d2, d3⟩ := HR.out.get kk (by omega)
            rw [HI.out.high (k + k2) (by omega), show (k + k2) * 4 = k * 4 + k2 * 4 by omega] at c0 c1 c2 c3
            rw [HI.out.high (k + k2 - 1) (by omega), show (k + k2 - 1) * 4 = k * 4 + (k2 - 1) * 4 by omega] at e0 e1 e2 e3
            obtain ⟨x2, Hx2⟩ : ∃ x, Hid (d[k + k2]! = x) := ⟨_, Lib.hid rfl⟩
            obtain ⟨y2, Hy2⟩ : ∃ y, Hid (d[k + k2 - 1]! = y) := ⟨_, Lib.hid rfl⟩
            rw [Hx2.out] at c0 c1 c2 c3
            rw [Hy2.out] at e0 e1 e2 e3
            have hq := eq_co x2 y2
            have Hds := Lib.hid hds
            clear hds
            by_cases hxy2 : x2 = y2
            · have Hxy2 := Lib.hid hxy2
              rw [decide_eq_true hxy2] at hq
              clear hxy2
              go_wp2
              refine wp_region_quietB (by kernel_rfl) (by kernel_rfl) ?_
              repeat (first | go_big_quiet_step (fail) | quiet_step (fail))
              refine wpQuiet_nil ?_
              rintro _ ⟨u, rfl⟩
              have HR1 : Hid (RowQ u.val g 203 dk sp) := Lib.hid (HR.out.keep u.below)
              have hgr1 := grown_below hgr u.below
              clear c0 c1 c2 c3 e0 e1 e2 e3 d0 d1 d2 d3 hq HR hgr
              go_wp2
              go_roundw
              case rel => exact ⟨kk, k2 + 1, dk, rfl, by go_num, by omega, by omega, hgr1, HR1, Lib.hid (HI.out.skip (keeps_neg (by omega) (by rw [Hx2.out, Hy2.out]; exact Hxy2.out)))⟩
              case measure => simp [intOf]; omega
            · have Hxy2 := Lib.hid hxy2
              rw [decide_eq_false hxy2] at hq
              clear hxy2
              go_wp2
              refine wp_region_quietB (by kernel_rfl) (by kernel_rfl) ?_
              repeat (first | go_big_quiet_step (fail) | quiet_step (fail))
              refine wpQuiet_nil ?_
              rintro _ ⟨u, rfl⟩
              have HR1 : Hid (RowQ u.val g 203 dk sp) := Lib.hid (HR.out.keep u.below)
              have hgr1 := grown_below hgr u.below
              have zu : g < u.val.heap.size := blk_lt HR1.out
              go_wp2
              go_roundw
              case rel =>
                refine ⟨kk + 1, k2 + 1, dk.setIfInBounds kk x2, by go_num, by go_num, by omega, by omega, grown_set (grown_set (grown_set (grown_set hgr1 _ _) _ _) _ _) _ _, Lib.hid (HR1.out.set kk (by have := Hds.out; omega) x2), Lib.hid ?_⟩
                have := HI.out.keep (by omega) (keeps_pos (by rw [Hx2.out, Hy2.out]; exact Hxy2.out))
                rw [Hx2.out] at this
                exact this
              case measure => simp [intOf]; omega
          · have hend : k + k2 = n := by omega
            have hcl : ∀ ty, (Builtin.clear_ #[189] ty #[.slice (some ⟨g, kk * 4, none⟩) (n - kk) (cap - kk)]).run Tryz.prog wr = .ok (.tuple #[]) (wr.setCells g (kk * 4) (List.replicate ((n - kk) * 4) (.int .i64 0))) := fun ty =>
              run_clear4 wr _ _ ty und_corners' und_Corner g (kk * 4) _ _ (by omega) (fun j hj => by
                rw [blk_cell HR.out]
                have hl : (dk.toList.flatMap enc4).length = n * 4 := by rw [flat_len enc4 4 enc4_len]; simp; omega
                have hlt : kk * 4 + j < (dk.toList.flatMap enc4 ++ sp).toArray.size := by simp only [List.size_toArray, List.length_append, hl]; omega
                rw [Array.getElem?_eq_getElem hlt]; rfl) (fun j _ => fz _)
            have Hend := Lib.hid hend
            have Hds := Lib.hid hds
            clear hds hend fz
            go_wp2
            go_ret
            have hlen : (compactUpTo d n).length = kk := by have := HI.out.len; rwa [Hend.out] at this
            rw [hlen]
            refine ⟨rfl, grown_setCells _ _ _ hgr, ?_⟩
            have hlow : compactUpTo d n = dk.toList.take kk := by
              apply List.ext_getElem?
              intro i
              by_cases hi : i < kk
              · have := HI.out.low i hi
                rw [Hend.out] at this
                rw [this, List.getElem?_take_of_lt hi, Array.getElem?_toList, Array.getElem?_eq_getElem (by have := Hds.out; omega), getElem!_pos _ i (by have := Hds.out; omega)]
              · rw [List.getElem?_eq_none (by omega), List.getElem?_eq_none (by simp; omega)]
            obtain ⟨cur', hb', hs', hsame⟩ := setCells_blk g 203 (List.replicate ((n - kk) * 4) (.int .i64 0)) (kk * 4) wr _ HR.out
            have hown0 := rowq_own (m := kk) (n := n) HR.out hbase hcap (by have := Hds.out; omega) hsp (by omega)
            rw [hlow]
            refine ⟨hown0.1, .inr ⟨g, cap, cur', rfl, hbase, hb', by omega, hcap, ?_, ?_⟩⟩
            · rw [hs']; simp only [List.size_toArray, List.length_append]; rw [flat_len enc4 4 enc4_len]; simp; have := Hds.out; omega
            · rcases hown0.2 with ⟨h0, _⟩ | ⟨g', cap', cur, hv, _, hh, _, _, _, ht⟩
              · cases h0
              · injection hv with h1 h2 h3
                injection h1 with h1
                injection h1 with h1
                subst h1
                rw [HR.out] at hh
                injection hh with hh
                injection hh with hh
                subst hh
                rw [← ht]
                apply List.ext_getElem?
                intro i
                by_cases hi : i < kk * 4
                · rw [List.getElem?_take_of_lt hi, List.getElem?_take_of_lt hi]
                  simpa using hsame i hi
                · rw [List.getElem?_eq_none (by simp; omega), List.getElem?_eq_none (by simp; omega)]
      · have Hxy := Lib.hid hxy
        rw [decide_eq_false hxy] at hq
        clear hxy
        go_wp2
        refine wp_region_quietB (by kernel_rfl) (by kernel_rfl) ?_
        repeat (first | go_big_quiet_step (fail) | quiet_step (fail))
        refine wpQuiet_nil ?_
        rintro _ ⟨u, rfl⟩
        have HR1 : Hid (RowQ u.val g 203 d sp) := Lib.hid (HR.out.keep u.below)
        have hgr1 := grown_below hgr u.below
        clear c0 c1 c2 c3 e0 e1 e2 e3 hq HR hgr
        go_wp2
        go_roundw
        case rel => exact ⟨k + 1, by omega, by omega, by go_num, hgr1, HR1, Lib.hid (fun j hj => by
          by_cases e : j = k
          · subst e; exact keeps_pos (by rw [Hx.out, Hy.out]; exact Hxy.out)
          · exact Ha.out j (by omega))⟩
        case measure => simp [intOf]; omega
    · obtain rfl : k = n := by omega
      go_wp2
      go_ret
      have e : compactUpTo d k = d.toList := by rw [compactUpTo_all d _ Ha.out, ← hd, range_map_get]
      have hl : (compactUpTo d k).length = k := by rw [e]; simpa using hd
      rw [hl]
      refine ⟨rfl, hgr, ?_⟩
      have := rowq_own (m := k) HR.out hbase hcap hd hsp (Nat.le_refl _)
      rw [e]
      rwa [List.take_of_length_le (by simp [hd])] at this
set_option maxRecDepth 100000 in
set_option maxHeartbeats 2000000 in
theorem compact_plane (d : Array Q4) (g n cap base : Nat) (w : World) (hd : d.size = n) (hn : n ≤ 10000000) (h2 : 2 ≤ n) (hown : w.ownsRow base 92 4 (.slice (some ⟨g, 0, none⟩) n cap) n (d.toList.flatMap enc4)) :
    Calls Tryz.prog 206 #[.slice (some ⟨g, 0, none⟩) n cap] w fun e w' => e = .returned (.slice (some ⟨g, 0, none⟩) (compactUpTo d n).length cap) ∧ w.grownBy w' (some g) ∧
      w'.ownsRow base 92 4 (.slice (some ⟨g, 0, none⟩) (compactUpTo d n).length cap) (compactUpTo d n).length ((compactUpTo d n).flatMap enc4) := by
  obtain ⟨sp, hrow, hbase, hcap, hnc, hsp⟩ := own_rowq d hown
  have HR := Lib.hid hrow
  clear hown hrow
  go_enter Tryz.func206, Tryz.ntmps206
  go_wp2
  go_loopw [3] (fun i wr => ∃ k : Nat, 1 ≤ k ∧ k ≤ n ∧ i = .int .i64 k ∧ w.grownBy wr (some g) ∧ Hid (RowQ wr g 92 d sp) ∧ Hid (∀ j, j < k → keeps d j = true)) (fun i _ => n - (intOf i).toNat)
  case atStart => exact ⟨1, by omega, by omega, rfl, ⟨rfl, rfl, rfl, Nat.le_refl _, fun _ _ _ => rfl⟩, HR, Lib.hid (keeps_lt_one d)⟩
  case round =>
    clear HR
    obtain ⟨k, hk1, hk, rfl, hgr, HR, Ha⟩ := hrel
    by_cases hlt : k < n
    · obtain ⟨c0, c1, c2, c3⟩ := HR.out.get k (by omega)
      obtain ⟨e0, e1, e2, e3⟩ := HR.out.get (k - 1) (by omega)
      have zg := blk_lt HR.out
      obtain ⟨x, Hx⟩ : ∃ x, Hid (d[k]! = x) := ⟨_, Lib.hid rfl⟩
      obtain ⟨y, Hy⟩ : ∃ y, Hid (d[k - 1]! = y) := ⟨_, Lib.hid rfl⟩
      rw [Hx.out] at c0 c1 c2 c3
      rw [Hy.out] at e0 e1 e2 e3
      have hq := eq_pl x y
      by_cases hxy : x = y
      · have Hxy := Lib.hid hxy
        rw [decide_eq_true hxy] at hq
        clear hxy
        go_wp2
        refine wp_region_quietB (by kernel_rfl) (by kernel_rfl) ?_
        repeat (first | go_big_quiet_step (fail) | quiet_step (fail))
        refine wpQuiet_nil ?_
        rintro _ ⟨u, rfl⟩
        have HR1 : Hid (RowQ u.val g 92 d sp) := Lib.hid (HR.out.keep u.below)
        have hgr1 := grown_below hgr u.below
        clear c0 c1 c2 c3 e0 e1 e2 e3 hq HR hgr
        go_wp2
        go_loopw [3, 5] (fun s3 s5 wr => ∃ (kk k2 : Nat) (dk : Array Q4), s3 = .int .i64 kk ∧ s5 = .int .i64 k2 ∧ 1 ≤ k2 ∧ k + k2 ≤ n ∧ w.grownBy wr (some g) ∧ Hid (RowQ wr g 92 dk sp) ∧ Hid (CompInv d (k + k2) kk dk)) (fun _ i _ => n - (intOf i).toNat)
        case atStart => exact ⟨k, 1, d, rfl, rfl, Nat.le_refl _, by omega, hgr1, HR1, Lib.hid (CompInv.start Ha.out (keeps_neg (by omega) (by rw [Hx.out, Hy.out]; exact Hxy.out)))⟩
        case round =>
          clear HR1 hgr1
          obtain ⟨kk, k2, dk, rfl, rfl, h1, hle, hgr, HR, HI⟩ := hrel
          have hkk := HI.out.lt
          have hds := HI.out.size
          have zg := blk_lt HR.out
          have fz := HR.out.free
          by_cases hlt2 : k + k2 < n
          · obtain ⟨c0, c1, c2, c3⟩ := HR.out.get (k + k2) (by omega)
            obtain ⟨e0, e1, e2, e3⟩ := HR.out.get (k + k2 - 1) (by omega)
            obtain ⟨d0, d1, d2, d3⟩ := HR.out.get kk (by omega)
            rw [HI.out.high (k + k2) (by omega), show (k + k2) * 4 = k * 4 + k2 * 4 by omega] at c0 c1 c2 c3
            rw [HI.out.high (k + k2 - 1) (by omega), show (k + k2 - 1) * 4 = k * 4 + (k2 - 1) * 4 by omega] at e0 e1 e2 e3
            obtain ⟨x2, Hx2⟩ : ∃ x, Hid (d[k + k2]! = x) := ⟨_, Lib.hid rfl⟩
            obtain ⟨y2, Hy2⟩ : ∃ y, Hid (d[k + k2 - 1]! = y) := ⟨_, Lib.hid rfl⟩
            rw [Hx2.out] at c0 c1 c2 c3
            rw [Hy2.out] at e0 e1 e2 e3
            have hq := eq_pl x2 y2
            have Hds := Lib.hid hds
            clear hds
            by_cases hxy2 : x2 = y2
            · have Hxy2 := Lib.hid hxy2
              rw [decide_eq_true hxy2] at hq
              clear hxy2
              go_wp2
              refine wp_region_quietB (by kernel_rfl) (by kernel_rfl) ?_
              repeat (first | go_big_quiet_step (fail) | quiet_step (fail))
              refine wpQuiet_nil ?_
              rintro _ ⟨u, rfl⟩
              have HR1 : Hid (RowQ u.val g 92 dk sp) := Lib.hid (HR.out.keep u.below)
              have hgr1 := grown_below hgr u.below
              clear c0 c1 c2 c3 e0 e1 e2 e3 d0 d1 d2 d3 hq HR hgr
              go_wp2
              go_roundw
              case rel => exact ⟨kk, k2 + 1, dk, rfl, by go_num, by omega, by omega, hgr1, HR1, Lib.hid (HI.out.skip (keeps_neg (by omega) (by rw [Hx2.out, Hy2.out]; exact Hxy2.out)))⟩
              case measure => simp [intOf]; omega
            · have Hxy2 := Lib.hid hxy2
              rw [decide_eq_false hxy2] at hq
              clear hxy2
              go_wp2
              refine wp_region_quietB (by kernel_rfl) (by kernel_rfl) ?_
              repeat (first | go_big_quiet_step (fail) | quiet_step (fail))
              refine wpQuiet_nil ?_
              rintro _ ⟨u, rfl⟩
              have HR1 : Hid (RowQ u.val g 92 dk sp) := Lib.hid (HR.out.keep u.below)
              have hgr1 := grown_below hgr u.below
              have zu : g < u.val.heap.size := blk_lt HR1.out
              go_wp2
              go_roundw
              case rel =>
                refine ⟨kk + 1, k2 + 1, dk.setIfInBounds kk x2, by go_num, by go_num, by omega, by omega, grown_set (grown_set (grown_set (grown_set hgr1 _ _) _ _) _ _) _ _, Lib.hid (HR1.out.set kk (by have := Hds.out; omega) x2), Lib.hid ?_⟩
                have := HI.out.keep (by omega) (keeps_pos (by rw [Hx2.out, Hy2.out]; exact Hxy2.out))
                rw [Hx2.out] at this
                exact this
              case measure => simp [intOf]; omega
          · have hend : k + k2 = n := by omega
            have hcl : ∀ ty, (Builtin.clear_ #[88] ty #[.slice (some ⟨g, kk * 4, none⟩) (n - kk) (cap - kk)]).run Tryz.prog wr = .ok (.tuple #[]) (wr.setCells g (kk * 4) (List.replicate ((n - kk) * 4) (.int .i64 0))) := fun ty =>
              run_clear4 wr _ _ ty und_planes' und_Plane g (kk * 4) _ _ (by omega) (fun j hj => by
                rw [blk_cell HR.out]
                have hl : (dk.toList.flatMap enc4).length = n * 4 := by rw [flat_len enc4 4 enc4_len]; simp; omega
                have hlt : kk * 4 + j < (dk.toList.flatMap enc4 ++ sp).toArray.size := by simp only [List.size_toArray, List.length_append, hl]; omega
                rw [Array.getElem?_eq_getElem hlt]; rfl) (fun j _ => fz _)
            have Hend := Lib.hid hend
            have Hds := Lib.hid hds
            clear hds hend fz
            go_wp2
            go_ret
            have hlen : (compactUpTo d n).length = kk := by have := HI.out.len; rwa [Hend.out] at this
            rw [hlen]
            refine ⟨rfl, grown_setCells _ _ _ hgr, ?_⟩
            have hlow : compactUpTo d n = dk.toList.take kk := by
              apply List.ext_getElem?
              intro i
              by_cases hi : i < kk
              · have := HI.out.low i hi
                rw [Hend.out] at this
                rw [this, List.getElem?_take_of_lt hi, Array.getElem?_toList, Array.getElem?_eq_getElem (by have := Hds.out; omega), getElem!_pos _ i (by have := Hds.out; omega)]
              · rw [List.getElem?_eq_none (by omega), List.getElem?_eq_none (by simp; omega)]
            obtain ⟨cur', hb', hs', hsame⟩ := setCells_blk g 92 (List.replicate ((n - kk) * 4) (.int .i64 0)) (kk * 4) wr _ HR.out
            have hown0 := rowq_own (m := kk) (n := n) HR.out hbase hcap (by have := Hds.out; omega) hsp (by omega)
            rw [hlow]
            refine ⟨hown0.1, .inr ⟨g, cap, cur', rfl, hbase, hb', by omega, hcap, ?_, ?_⟩⟩
            · rw [hs']; simp only [List.size_toArray, List.length_append]; rw [flat_len enc4 4 enc4_len]; simp; have := Hds.out; omega
            · rcases hown0.2 with ⟨h0, _⟩ | ⟨g', cap', cur, hv, _, hh, _, _, _, ht⟩
              · cases h0
              · injection hv with h1 h2 h3
                injection h1 with h1
                injection h1 with h1
                subst h1
                rw [HR.out] at hh
                injection hh with hh
                injection hh with hh
                subst hh
                rw [← ht]
                apply List.ext_getElem?
                intro i
                by_cases hi : i < kk * 4
                · rw [List.getElem?_take_of_lt hi, List.getElem?_take_of_lt hi]
                  simpa using hsame i hi
                · rw [List.getElem?_eq_none (by simp; omega), List.getElem?_eq_none (by simp; omega)]
      · have Hxy := Lib.hid hxy
        rw [decide_eq_false hxy] at hq
        clear hxy
        go_wp2
        refine wp_region_quietB (by kernel_rfl) (by kernel_rfl) ?_
        repeat (first | go_big_quiet_step (fail) | quiet_step (fail))
        refine wpQuiet_nil ?_
        rintro _ ⟨u, rfl⟩
        have HR1 : Hid (RowQ u.val g 92 d sp) := Lib.hid (HR.out.keep u.below)
        have hgr1 := grown_below hgr u.below
        clear c0 c1 c2 c3 e0 e1 e2 e3 hq HR hgr
        go_wp2
        go_roundw
        case rel => exact ⟨k + 1, by omega, by omega, by go_num, hgr1, HR1, Lib.hid (fun j hj => by
          by_cases e : j = k
          · subst e; exact keeps_pos (by rw [Hx.out, Hy.out]; exact Hxy.out)
          · exact Ha.out j (by omega))⟩
        case measure => simp [intOf]; omega
    · obtain rfl : k = n := by omega
      go_wp2
      go_ret
      have e : compactUpTo d k = d.toList := by rw [compactUpTo_all d _ Ha.out, ← hd, range_map_get]
      have hl : (compactUpTo d k).length = k := by rw [e]; simpa using hd
      rw [hl]
      refine ⟨rfl, hgr, ?_⟩
      have := rowq_own (m := k) HR.out hbase hcap hd hsp (Nat.le_refl _)
      rw [e]
      rwa [List.take_of_length_le (by simp [hd])] at this
theorem und_cells' : Tryz.prog.underlying 127 = some (.slice 92) := by kernel_rfl
set_option maxRecDepth 100000 in
set_option maxHeartbeats 2000000 in
theorem compact_cell (d : Array Q4) (g n cap base : Nat) (w : World) (hd : d.size = n) (hn : n ≤ 10000000) (h2 : 2 ≤ n) (hown : w.ownsRow base 92 4 (.slice (some ⟨g, 0, none⟩) n cap) n (d.toList.flatMap enc4)) :
    Calls Tryz.prog 106 #[.slice (some ⟨g, 0, none⟩) n cap] w fun e w' => e = .returned (.slice (some ⟨g, 0, none⟩) (compactUpTo d n).length cap) ∧ w.grownBy w' (some g) ∧
      w'.ownsRow base 92 4 (.slice (some ⟨g, 0, none⟩) (compactUpTo d n).length cap) (compactUpTo d n).length ((compactUpTo d n).flatMap enc4) := by
  obtain ⟨sp, hrow, hbase, hcap, hnc, hsp⟩ := own_rowq d hown
  have HR := Lib.hid hrow
  clear hown hrow
  go_enter Tryz.func106, Tryz.ntmps106
  go_wp2
  go_loopw [3] (fun i wr => ∃ k : Nat, 1 ≤ k ∧ k ≤ n ∧ i = .int .i64 k ∧ w.grownBy wr (some g) ∧ Hid (RowQ wr g 92 d sp) ∧ Hid (∀ j, j < k → keeps d j = true)) (fun i _ => n - (intOf i).toNat)
  case atStart => exact ⟨1, by omega, by omega, rfl, ⟨rfl, rfl, rfl, Nat.le_refl _, fun _ _ _ => rfl⟩, HR, Lib.hid (keeps_lt_one d)⟩
  case round =>
    clear HR
    obtain ⟨k, hk1, hk, rfl, hgr, HR, Ha⟩ := hrel
    by_cases hlt : k < n
    · obtain ⟨c0, c1, c2, c3⟩ := HR.out.get k (by omega)
      obtain ⟨e0, e1, e2, e3⟩ := HR.out.get (k - 1) (by omega)
      have zg := blk_lt HR.out
      obtain ⟨x, Hx⟩ : ∃ x, Hid (d[k]! = x) := ⟨_, Lib.hid rfl⟩
      obtain ⟨y, Hy⟩ : ∃ y, Hid (d[k - 1]! = y) := ⟨_, Lib.hid rfl⟩
      rw [Hx.out] at c0 c1 c2 c3
      rw [Hy.out] at e0 e1 e2 e3
      have hq := eq_pl x y
      by_cases hxy : x = y
      · have Hxy := Lib.hid hxy
        rw [decide_eq_true hxy] at hq
        clear hxy
        go_wp2
        refine wp_region_quietB (by kernel_rfl) (by kernel_rfl) ?_
        repeat (first | go_big_quiet_step (fail) | quiet_step (fail))
        refine wpQuiet_nil ?_
        rintro _ ⟨u, rfl⟩
        have HR1 : Hid (RowQ u.val g 92 d sp) := Lib.hid (HR.out.keep u.below)
        have hgr1 := grown_below hgr u.below
        clear c0 c1 c2 c3 e0 e1 e2 e3 hq HR hgr
        go_wp2
        go_loopw [3, 5] (fun s3 s5 wr => ∃ (kk k2 : Nat) (dk : Array Q4), s3 = .int .i64 kk ∧ s5 = .int .i64 k2 ∧ 1 ≤ k2 ∧ k + k2 ≤ n ∧ w.grownBy wr (some g) ∧ Hid (RowQ wr g 92 dk sp) ∧ Hid (CompInv d (k + k2) kk dk)) (fun _ i _ => n - (intOf i).toNat)
        case atStart => exact ⟨k, 1, d, rfl, rfl, Nat.le_refl _, by omega, hgr1, HR1, Lib.hid (CompInv.start Ha.out (keeps_neg (by omega) (by rw [Hx.out, Hy.out]; exact Hxy.out)))⟩
        case round =>
          clear HR1 hgr1
          obtain ⟨kk, k2, dk, rfl, rfl, h1, hle, hgr, HR, HI⟩ := hrel
          have hkk := HI.out.lt
          have hds := HI.out.size
          have zg := blk_lt HR.out
          have fz := HR.out.free
          by_cases hlt2 : k + k2 < n
          · obtain ⟨c0, c1, c2, c3⟩ := HR.out.get (k + k2) (by omega)
            obtain ⟨e0, e1, e2, e3⟩ := HR.out.get (k + k2 - 1) (by omega)
            obtain ⟨d0, d1, d2, d3⟩ := HR.out.get kk (by omega)
            rw [HI.out.high (k + k2) (by omega), show (k + k2) * 4 = k * 4 + k2 * 4 by omega] at c0 c1 c2 c3
            rw [HI.out.high (k + k2 - 1) (by omega), show (k + k2 - 1) * 4 = k * 4 + (k2 - 1) * 4 by omega] at e0 e1 e2 e3
            obtain ⟨x2, Hx2⟩ : ∃ x, Hid (d[k + k2]! = x) := ⟨_, Lib.hid rfl⟩
            obtain ⟨y2, Hy2⟩ : ∃ y, Hid (d[k + k2 - 1]! = y) := ⟨_, Lib.hid rfl⟩
            rw [Hx2.out] at c0 c1 c2 c3
            rw [Hy2.out] at e0 e1 e2 e3
            have hq := eq_pl x2 y2
            have Hds := Lib.hid hds
            clear hds
            by_cases hxy2 : x2 = y2
            · have Hxy2 := Lib.hid hxy2
              rw [decide_eq_true hxy2] at hq
              clear hxy2
              go_wp2
              refine wp_region_quietB (by kernel_rfl) (by kernel_rfl) ?_
              repeat (first | go_big_quiet_step (fail) | quiet_step (fail))
              refine wpQuiet_nil ?_
              rintro _ ⟨u, rfl⟩
              have HR1 : Hid (RowQ u.val g 92 dk sp) := Lib.hid (HR.out.keep u.below)
              have hgr1 := grown_below hgr u.below
              clear c0 c1 c2 c3 e0 e1 e2 e3 d0 d1 d2 d3 hq HR hgr
              go_wp2
              go_roundw
              case rel => exact ⟨kk, k2 + 1, dk, rfl, by go_num, by omega, by omega, hgr1, HR1, Lib.hid (HI.out.skip (keeps_neg (by omega) (by rw [Hx2.out, Hy2.out]; exact Hxy2.out)))⟩
              case measure => simp [intOf]; omega
            · have Hxy2 := Lib.hid hxy2
              rw [decide_eq_false hxy2] at hq
              clear hxy2
              go_wp2
              refine wp_region_quietB (by kernel_rfl) (by kernel_rfl) ?_
              repeat (first | go_big_quiet_step (fail) | quiet_step (fail))
              refine wpQuiet_nil ?_
              rintro _ ⟨u, rfl⟩
              have HR1 : Hid (RowQ u.val g 92 dk sp) := Lib.hid (HR.out.keep u.below)
              have hgr1 := grown_below hgr u.below
              have zu : g < u.val.heap.size := blk_lt HR1.out
              go_wp2
              go_roundw
              case rel =>
                refine ⟨kk + 1, k2 + 1, dk.setIfInBounds kk x2, by go_num, by go_num, by omega, by omega, grown_set (grown_set (grown_set (grown_set hgr1 _ _) _ _) _ _) _ _, Lib.hid (HR1.out.set kk (by have := Hds.out; omega) x2), Lib.hid ?_⟩
                have := HI.out.keep (by omega) (keeps_pos (by rw [Hx2.out, Hy2.out]; exact Hxy2.out))
                rw [Hx2.out] at this
                exact this
              case measure => simp [intOf]; omega
          · have hend : k + k2 = n := by omega
            have hcl : ∀ ty, (Builtin.clear_ #[127] ty #[.slice (some ⟨g, kk * 4, none⟩) (n - kk) (cap - kk)]).run Tryz.prog wr = .ok (.tuple #[]) (wr.setCells g (kk * 4) (List.replicate ((n - kk) * 4) (.int .i64 0))) := fun ty =>
              run_clear4 wr _ _ ty und_cells' und_Plane g (kk * 4) _ _ (by omega) (fun j hj => by
                rw [blk_cell HR.out]
                have hl : (dk.toList.flatMap enc4).length = n * 4 := by rw [flat_len enc4 4 enc4_len]; simp; omega
                have hlt : kk * 4 + j < (dk.toList.flatMap enc4 ++ sp).toArray.size := by simp only [List.size_toArray, List.length_append, hl]; omega
                rw [Array.getElem?_eq_getElem hlt]; rfl) (fun j _ => fz _)
            have Hend := Lib.hid hend
            have Hds := Lib.hid hds
            clear hds hend fz
            go_wp2
            go_ret
            have hlen : (compactUpTo d n).length = kk := by have := HI.out.len; rwa [Hend.out] at this
            rw [hlen]
            refine ⟨rfl, grown_setCells _ _ _ hgr, ?_⟩
            have hlow : compactUpTo d n = dk.toList.take kk := by
              apply List.ext_getElem?
              intro i
              by_cases hi : i < kk
              · have := HI.out.low i hi
                rw [Hend.out] at this
                rw [this, List.getElem?_take_of_lt hi, Array.getElem?_toList, Array.getElem?_eq_getElem (by have := Hds.out; omega), getElem!_pos _ i (by have := Hds.out; omega)]
              · rw [List.getElem?_eq_none (by omega), List.getElem?_eq_none (by simp; omega)]
            obtain ⟨cur', hb', hs', hsame⟩ := setCells_blk g 92 (List.replicate ((n - kk) * 4) (.int .i64 0)) (kk * 4) wr _ HR.out
            have hown0 := rowq_own (m := kk) (n := n) HR.out hbase hcap (by have := Hds.out; omega) hsp (by omega)
            rw [hlow]
            refine ⟨hown0.1, .inr ⟨g, cap, cur', rfl, hbase, hb', by omega, hcap, ?_, ?_⟩⟩
            · rw [hs']; simp only [List.size_toArray, List.length_append]; rw [flat_len enc4 4 enc4_len]; simp; have := Hds.out; omega
            · rcases hown0.2 with ⟨h0, _⟩ | ⟨g', cap', cur, hv, _, hh, _, _, _, ht⟩
              · cases h0
              · injection hv with h1 h2 h3
                injection h1 with h1
                injection h1 with h1
                subst h1
                rw [HR.out] at hh
                injection hh with hh
                injection hh with hh
                subst hh
                rw [← ht]
                apply List.ext_getElem?
                intro i
                by_cases hi : i < kk * 4
                · rw [List.getElem?_take_of_lt hi, List.getElem?_take_of_lt hi]
                  simpa using hsame i hi
                · rw [List.getElem?_eq_none (by simp; omega), List.getElem?_eq_none (by simp; omega)]
      · have Hxy := Lib.hid hxy
        rw [decide_eq_false hxy] at hq
        clear hxy
        go_wp2
        refine wp_region_quietB (by kernel_rfl) (by kernel_rfl) ?_
        repeat (first | go_big_quiet_step (fail) | quiet_step (fail))
        refine wpQuiet_nil ?_
        rintro _ ⟨u, rfl⟩
        have HR1 : Hid (RowQ u.val g 92 d sp) := Lib.hid (HR.out.keep u.below)
        have hgr1 := grown_below hgr u.below
        clear c0 c1 c2 c3 e0 e1 e2 e3 hq HR hgr
        go_wp2
        go_roundw
        case rel => exact ⟨k + 1, by omega, by omega, by go_num, hgr1, HR1, Lib.hid (fun j hj => by
          by_cases e : j = k
          · subst e; exact keeps_pos (by rw [Hx.out, Hy.out]; exact Hxy.out)
          · exact Ha.out j (by omega))⟩
        case measure => simp [intOf]; omega
    · obtain rfl : k = n := by omega
      go_wp2
      go_ret
      have e : compactUpTo d k = d.toList := by rw [compactUpTo_all d _ Ha.out, ← hd, range_map_get]
      have hl : (compactUpTo d k).length = k := by rw [e]; simpa using hd
      rw [hl]
      refine ⟨rfl, hgr, ?_⟩
      have := rowq_own (m := k) HR.out hbase hcap hd hsp (Nat.le_refl _)
      rw [e]
      rwa [List.take_of_length_le (by simp [hd])] at this
set_option maxHeartbeats 1000000 in
theorem compact_corner_small (a : Option Addr) (n c : Nat) (w : World) (h : n < 2) : Calls Tryz.prog 229 #[.slice a n c] w fun e w' => e = .returned (.slice a n c) ∧ w = w' := by
  go_enter Tryz.func229, Tryz.ntmps229
  go_wp2
  go_ret
  exact ⟨rfl, rfl⟩
set_option maxHeartbeats 1000000 in
theorem compact_plane_small (a : Option Addr) (n c : Nat) (w : World) (h : n < 2) : Calls Tryz.prog 206 #[.slice a n c] w fun e w' => e = .returned (.slice a n c) ∧ w = w' := by
  go_enter Tryz.func206, Tryz.ntmps206
  go_wp2
  go_ret
  exact ⟨rfl, rfl⟩
set_option maxHeartbeats 1000000 in
theorem compact_cell_small (a : Option Addr) (n c : Nat) (w : World) (h : n < 2) : Calls Tryz.prog 106 #[.slice a n c] w fun e w' => e = .returned (.slice a n c) ∧ w = w' := by
  go_enter Tryz.func106, Tryz.ntmps106
  go_wp2
  go_ret
  exact ⟨rfl, rfl⟩
end Go.Proofs.YtfdgifcllelhiaaGreatDoor
/- The corners of planes: sorted, each once. -/
namespace Go.Proofs.YtfdgifcllelhiaaGreatDoor
open Go.RowKit Go.Shelf Go.Sort Go.Lib

theorem gcdL_neg4 (a b c d : Int) : gcdL [-a, -b, -c, -d] = gcdL [a, b, c, d] := by simp [gcdL]
theorem gcdL_div (a b c d : Int) (hp : 0 < gcdL [a, b, c, d]) : gcdL [a / gcdL [a, b, c, d], b / gcdL [a, b, c, d], c / gcdL [a, b, c, d], d / gcdL [a, b, c, d]] = 1 := by
  have key : ∀ x ∈ [a, b, c, d], x = (gcdL [a, b, c, d] : Int) * (x / gcdL [a, b, c, d]) := fun x hx => (Int.mul_ediv_cancel' (gcdL_dvd _ x hx)).symm
  have h1 : gcdL [a / gcdL [a, b, c, d], b / gcdL [a, b, c, d], c / gcdL [a, b, c, d], d / gcdL [a, b, c, d]] * gcdL [a, b, c, d] ∣ gcdL [a, b, c, d] := by
    apply dvd_gcdL
    intro x hx
    rw [key x hx, Int.natCast_mul, Int.mul_comm]
    apply Int.mul_dvd_mul_left
    simp only [List.mem_cons, List.not_mem_nil, or_false] at hx
    apply gcdL_dvd
    rcases hx with rfl | rfl | rfl | rfl <;> simp
  obtain ⟨k, hk⟩ := h1
  have h2 : gcdL [a, b, c, d] * 1 = gcdL [a, b, c, d] * (gcdL [a / gcdL [a, b, c, d], b / gcdL [a, b, c, d], c / gcdL [a, b, c, d], d / gcdL [a, b, c, d]] * k) := by
    rw [Nat.mul_one, ← Nat.mul_assoc, Nat.mul_comm (gcdL [a, b, c, d]) (gcdL [_, _, _, _])]; exact hk
  have h3 := Nat.eq_of_mul_eq_mul_left hp h2
  exact Nat.eq_one_of_mul_eq_one_right h3.symm
theorem ptOf_nrm (a b c den : Int) (ha : -10000000000 ≤ a ∧ a ≤ 10000000000) (hb : -10000000000 ≤ b ∧ b ≤ 10000000000) (hc : -10000000000 ≤ c ∧ c ≤ 10000000000)
    (hd : -1000000 ≤ den ∧ den ≤ 1000000) (h0 : den ≠ 0) : nrmCo (ptOf a b c den) := by
  refine ⟨ptOf_ok a b c den ha hb hc hd h0, ?_⟩
  have hp := gcdL4_pos a b c den h0
  unfold ptOf
  split
  · exact (gcdL_neg4 _ _ _ _).trans (gcdL_div a b c den hp)
  · exact gcdL_div a b c den hp
theorem meetP_nrm (p q r : Q4) (den : Int) (hp : okPl p) (hq : okPl q) (hr : okPl r) (hd : -1000000 ≤ den ∧ den ≤ 1000000) (h0 : den ≠ 0) : nrmCo (meetP p q r den) := by
  simp only [okPl] at hp hq hr
  refine ptOf_nrm _ _ _ _ ?_ ?_ ?_ hd h0
  · exact comb_bd hp.2.2.2 hq.2.2.2 hr.2.2.2 (cross_bd hq.2.1 hq.2.2.1 hr.2.1 hr.2.2.1) (cross_bd hr.2.1 hr.2.2.1 hp.2.1 hp.2.2.1) (cross_bd hp.2.1 hp.2.2.1 hq.2.1 hq.2.2.1)
  · exact comb_bd hp.2.2.2 hq.2.2.2 hr.2.2.2 (cross_bd hq.2.2.1 hq.1 hr.2.2.1 hr.1) (cross_bd hr.2.2.1 hr.1 hp.2.2.1 hp.1) (cross_bd hp.2.2.1 hp.1 hq.2.2.1 hq.1)
  · exact comb_bd hp.2.2.2 hq.2.2.2 hr.2.2.2 (cross_bd hq.1 hq.2.1 hr.1 hr.2.1) (cross_bd hr.1 hr.2.1 hp.1 hp.2.1) (cross_bd hp.1 hp.2.1 hq.1 hq.2.1)
theorem raw_nrm (ps : List Q4) (h : ∀ p ∈ ps, okPl p) (n : Nat) (hn : n ≤ ps.length) : ∀ c ∈ raw ps n, nrmCo c := by
  intro c hc
  simp only [raw, rawI, rawK, List.mem_flatMap, List.mem_range] at hc
  obtain ⟨i, hi, k, hk, m, hm, hc⟩ := hc
  unfold raw1 at hc
  split at hc
  · cases hc
  · rename_i h0
    split at hc
    · rw [List.mem_singleton] at hc
      subst hc
      have b := den_bd _ _ _ (getP_ok h i (by omega)) (getP_ok h k (by omega)) (getP_ok h m (by omega))
      exact meetP_nrm _ _ _ _ (getP_ok h i (by omega)) (getP_ok h k (by omega)) (getP_ok h m (by omega)) (by omega) h0
    · cases hc

/-- The corners of planes. -/
def cornersOf (ps : List Q4) : List Q4 := Lib.compact (sortP (raw ps ps.length))

theorem sortP_len (cs : List Q4) : (sortP cs).length = cs.length := by simp [sortP]
theorem sort_any (cs : List Q4) (hcs : ∀ c ∈ cs, nrmCo c) (base n : Nat) (cv : Value) (w : World) (hn : cs.length = n) (hs : n < 4611686018427387904)
    (hown : w.ownsRow base 203 4 cv n (cs.flatMap enc4)) :
    Calls Tryz.prog 227 #[cv, .func (.func 228) #[] #[]] w fun e w' =>
      e = .returned (.tuple #[]) ∧ w'.ownsRow base 203 4 cv n ((sortP cs).flatMap enc4) ∧ w.grownBy w' cv.ownBlock := by
  by_cases h0 : 0 < n
  · obtain ⟨g, cap, rfl, _, _⟩ := own_form hown h0
    exact sortCorners cs hcs base g n cap w hn hs hown
  · obtain rfl : n = 0 := by omega
    have hnil : cs = [] := List.length_eq_zero_iff.1 hn
    subst hnil
    have hf : ∃ a cap, cv = .slice a 0 cap := by
      rcases hown.2 with ⟨rfl, _⟩ | ⟨g, cap, cur, rfl, _⟩
      · exact ⟨_, _, rfl⟩
      · exact ⟨_, _, rfl⟩
    obtain ⟨a, cap, rfl⟩ := hf
    refine Calls.mono (show Calls Tryz.prog 227 _ _ _ from AnyF.slices_SortFunc_none Tryz.sortCorner a cap _ w) ?_
    rintro e w' ⟨rfl, rfl⟩
    exact ⟨rfl, by simpa [sortP] using hown, ⟨rfl, rfl, rfl, Nat.le_refl _, fun _ _ _ => rfl⟩⟩

theorem compact_any (cs : List Q4) (base n : Nat) (cv : Value) (w : World) (hn : cs.length = n) (hs : n ≤ 10000000) (hown : w.ownsRow base 203 4 cv n (cs.flatMap enc4)) :
    Calls Tryz.prog 229 #[cv] w fun e w' => ∃ cv', e = .returned cv' ∧ w.grownBy w' cv.ownBlock ∧ (∃ a m c, cv' = .slice a m c) ∧
      w'.ownsRow base 203 4 cv' (Lib.compact cs).length ((Lib.compact cs).flatMap enc4) := by
  by_cases h2 : 2 ≤ n
  · obtain ⟨g, cap, rfl, _, _⟩ := own_form hown (by omega)
    refine (compact_corner cs.toArray g n cap base w (by simpa using hn) hs h2 (by simpa using hown)).mono ?_
    rintro e w' ⟨rfl, hg, ho⟩
    have e : compactUpTo cs.toArray n = Lib.compact cs := by unfold Lib.compact; rw [hn]
    rw [e] at ho ⊢
    exact ⟨_, rfl, hg, ⟨_, _, _, rfl⟩, ho⟩
  · have hf : ∃ a cap, cv = .slice a n cap := by
      rcases hown.2 with ⟨rfl, h⟩ | ⟨g, cap, cur, rfl, _⟩
      · exact ⟨_, _, by rw [h]⟩
      · exact ⟨_, _, rfl⟩
    obtain ⟨a, cap, rfl⟩ := hf
    refine (compact_corner_small a n cap w (by omega)).mono ?_
    rintro e w' ⟨rfl, rfl⟩
    have e : Lib.compact cs = cs := compact_all cs (fun j hj => keeps_lt_one _ j (by omega))
    rw [e, hn]
    exact ⟨_, rfl, ⟨rfl, rfl, rfl, Nat.le_refl _, fun _ _ _ => rfl⟩, ⟨_, _, _, rfl⟩, hown⟩

/-- An owned row of structs of four ints reads as a list. -/
theorem q4s_own {w : World} {base : Nat} {T : TypeId} {v : Value} {cs : List Q4} (h : w.ownsRow base T 4 v cs.length (cs.flatMap enc4)) : Q4s w v cs := by
  rcases h.2 with ⟨rfl, h0⟩ | ⟨g, cap, cur, rfl, hb, hh, hc, hm, hcs, ht⟩
  · exact ⟨none, 0, 0, rfl, h0, Nat.le_refl _, fun h => absurd h (by omega)⟩
  · refine ⟨some ⟨g, 0, none⟩, cs.length, cap, rfl, rfl, hc, fun _ => ⟨g, 0, rfl, fun i hi => ?_⟩⟩
    have key : ∀ j, j < 4 → w.cell? ⟨g, i * 4 + j, none⟩ = (enc4 cs[i])[j]? := fun j hj => by
      rw [blk_cell hh, ← flat_get enc4 4 enc4_len cs i hi j hj, ← ht, List.getElem?_take_of_lt (by omega), Array.getElem?_toList]
    simp only [Nat.zero_add]
    exact ⟨key 0 (by omega), key 1 (by omega), key 2 (by omega), key 3 (by omega)⟩
end Go.Proofs.YtfdgifcllelhiaaGreatDoor
