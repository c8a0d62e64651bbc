/- texts: FO3. -/
import Derived.ArgAppend
import Derived.BigQuiet
import Derived.ChangeKeysEq
import Derived.Deep.AppendLies
import Derived.Deep.DeepAppendRoom
import Derived.Deep.DeepAppendWide
import Derived.Deep.DeepCutAuto
import Derived.Deep.QuietTactic
import Derived.Deep.RegionHeld
import Derived.Deep.RegionHeld3
import Derived.Deep.RegionHeldLaw
import Derived.DeepKeys4
import Derived.Laws.AppendOwnNone
import Derived.Laws.StructEq
import Derived.Lib.AppendIntMem
import Derived.Lib.AppendZerosOnto
import Derived.Lib.Hide
import Derived.Lib.ItoaLen
import Derived.Lib.SliceRun
import Derived.Lib.SlicesCompact
import Derived.LoopIn
import Derived.LoopNIn
import Derived.Maps.AppendAt
import Derived.Maps.OwnSet
import Derived.OwnWalkIn
import Derived.RangeFuncBound
import Derived.RangeFuncBox
import Derived.RangeFuncCalls
import Derived.RangeFuncFrom
import Derived.RangeFuncLeaves
import Derived.RangeFuncNested
import Derived.RangeFuncWrites
import Derived.Shelf.Abstract
import Derived.Shelf.Lays8
import Derived.Shelf.LaysM
import Derived.Shelf.RegionOpen
import Derived.Shelf.Small.Bits
import Derived.Shelf.Spec.TrailingZeros
import Derived.Shelf.Strconv.Itoa0
import Derived.Shelf.Strconv.Itoa1
import Derived.Shelf.Strconv.Itoa2
import Derived.Shelf.Strconv.Itoa3
import Derived.Shelf.Strings.Builder1
import Derived.Shelf.Strings.Builder2
import Derived.Shelf.Strings.Builder2Cap
import Derived.Shelf.Strings.BuilderCap
import Derived.Shelf.Strings.BuilderF
import Derived.Shelf.Strings.BuilderK
import Derived.Shelf.Strings.OnBuilder
import Derived.Sort.Grow
import Derived.StillTail
import Derived.TacticsInMore
import Derived.WalkKit
import Derived.WalkLawsBesides
import Derived.WalkSpells
import Derived.WideKeyEntry
import Derived.Test.YtoidbolmlckhnaaGreatDoorProg
import Derived.Test.YtoidbolmlckhnaaGreatDoorRows
import Derived.Test.YtoidbolmlckhnaaGreatDoorSort
import Derived.Test.YtoidbolmlckhnaaGreatDoorSES1
import Derived.Test.YtoidbolmlckhnaaGreatDoorSES2
import Derived.Test.YtoidbolmlckhnaaGreatDoorSES4
import Derived.Test.YtoidbolmlckhnaaGreatDoorSES5
import Derived.Test.YtoidbolmlckhnaaGreatDoorSES7
import Derived.Test.YtoidbolmlckhnaaGreatDoorSES8
import Derived.Test.YtoidbolmlckhnaaGreatDoorSES9
import Derived.Test.YtoidbolmlckhnaaGreatDoorSES10
import Derived.Test.YtoidbolmlckhnaaGreatDoorSES11
import Derived.Test.YtoidbolmlckhnaaGreatDoorSES15
import Derived.Test.YtoidbolmlckhnaaGreatDoorSES16
import Derived.Test.YtoidbolmlckhnaaGreatDoorSES17
import Derived.Test.YtoidbolmlckhnaaGreatDoorSES18
import Derived.Test.YtoidbolmlckhnaaGreatDoorSES19
import Derived.Test.YtoidbolmlckhnaaGreatDoorSES20
import Derived.Test.YtoidbolmlckhnaaGreatDoorSES21
import Derived.Test.YtoidbolmlckhnaaGreatDoorSES24
import Derived.Test.YtoidbolmlckhnaaGreatDoorSES25
import Derived.Test.YtoidbolmlckhnaaGreatDoorSES26
import Derived.Test.YtoidbolmlckhnaaGreatDoorSES27
import Derived.Test.YtoidbolmlckhnaaGreatDoorSES28
import Derived.Test.YtoidbolmlckhnaaGreatDoorSES29
import Derived.Test.YtoidbolmlckhnaaGreatDoorSES32
import Derived.Test.YtoidbolmlckhnaaGreatDoorSES33
import Derived.Test.YtoidbolmlckhnaaGreatDoorSES34
import Derived.Test.YtoidbolmlckhnaaGreatDoorSES35
import Derived.Test.YtoidbolmlckhnaaGreatDoorSES37
import Derived.Test.YtoidbolmlckhnaaGreatDoorSES39
import Derived.Test.YtoidbolmlckhnaaGreatDoorSES41
import Derived.Test.YtoidbolmlckhnaaGreatDoorOQS1
namespace Go.Proofs.YtoidbolmlckhnaaGreatDoor
set_option maxHeartbeats 8000000
set_option linter.unusedSimpArgs false
set_option linter.unusedVariables false
section
open Go.RowKit Go.Shelf Go.Lib
set_option maxRecDepth 100000
attribute [local go_sem] Ext.cell Ext.frozen
theorem wErr_bz {x y z:Int} (h:mK (x,y,z)=0):((-1≤x∧x≤1)∧(-1≤y∧y≤1)∧(-1≤z∧z≤1))∧¬(x=0∧y=0∧z=0):=by
 unfold mK at h
 simp only at h
 split at h
 ·rename_i hb
  split at h
  ·cases h
  ·rename_i hz
   exact⟨hb,hz⟩
 ·cases h
theorem wErr_neg {x y z:Int} (h:mK (x,y,z)=0):mK (-x, -y, -z)=0:=by
 obtain⟨hb,hz⟩:=wErr_bz h
 unfold mK
 simp only
 rw[if_pos (by omega),if_neg (by omega)]
theorem opp_B1 {p q:List (List Q4)} {x y z:Int} (hz:kw p q=0) (hw:mK (x,y,z)=0):blE p q (x,y,z)=0:=by
 have:=Gc hz
 unfold blE
 rw[if_pos this.1,if_pos this.2]
 exact hw
theorem opp_B2 {p q:List (List Q4)} {x y z:Int} (hz:kw p q=0) (hw:mK (x,y,z)=0):blE q p (-x, -y, -z)=0∧KZ q p (-x, -y, -z)=KZ p q (x,y,z):=by
 have h2:=Gc hz
 obtain⟨hb,hz'⟩:=wErr_bz hw
 refine⟨by unfold blE;rw[if_pos h2.2,if_pos h2.1];exact wErr_neg hw, ?_⟩
 unfold KZ
 exact KD (IL h2.1) (IL h2.2) (w:=(x,y,z)) (fun e=>hz' (by simp only[Prod.mk.injEq]at e;exact e))
theorem opp_clash {p q:List (List Q4)} {x y z t:Int} (hz:kw p q=0) (hw:mK (x,y,z)=0) (ht:0≤t) (h:Oh (p.map (·.map (movP (t*x,t*y,t*z)))) q=true):KZ p q (x,y,z)=true:=by
 have h2:=Gc hz
 obtain⟨hb,hz'⟩:=wErr_bz hw
 unfold KZ
 exact clash_moved (IL h2.1) (IL h2.2) (w:=(x,y,z)) (fun e=>hz' (by simp only[Prod.mk.injEq]at e;exact e)) ht h
theorem AssemblyOpposite_any (p:List (List Q4)) (sv:Value) (q:List (List Q4)) (tv:Value) (x y z:Int) (W:World) (hp:p.length≤maxLen∧∀c∈p,c.length≤maxLen) (h1:SolV W sv p) (hq:q.length≤maxLen∧∀c∈q,c.length≤maxLen) (h2:SolV W tv q) (ht:Lib.TabIs Tryz.prog W "internal/strconv.uint64pow10" .u64 Lib.pow10Tab∧TabAt 1 Lib.deBruijn64tab W):
  Calls Tryz.prog 3 #[.agg #[sv], .agg #[tv], .agg #[.int .i64 x, .int .i64 y, .int .i64 z]] W (Ret W (.bool true)):=by
 obtain⟨V,HV⟩:∃V,Hid (((W.alloc (.cells #[sv] 24)).alloc (.cells #[tv] 24)).alloc (.cells #[.int .i64 x, .int .i64 y, .int .i64 z] 26)=V):=⟨_,YJ rfl⟩
 have hV:Below W.heap.size W V:=by rw[←HV.out];exact bel
 have BP:Hid (V.heap[W.heap.size]? =some (.cells #[sv] 24 (0,0))):=YJ (by rw[←HV.out];exact(aB (by simp<;>omega)).trans ((aB (by simp)).trans (ai rfl)))
 have BQ:Hid (V.heap[W.heap.size+1]? =some (.cells #[tv] 24 (0,0))):=YJ (by rw[←HV.out];exact(aB (by simp)).trans (ai (by simp)))
 have BY:Hid (V.heap[W.heap.size+2]? =some (.cells #[.int .i64 x, .int .i64 y, .int .i64 z] 26 (0,0))):=YJ (by rw[←HV.out];exact ai (by simp))
 have HA:=YJ (Gv V (kl ht.1 hV) (ma ht.2 hV))
 have HF1:=fun W' (hb:Below W.heap.size W W')=>YJ (show Calls Tryz.prog 9 #[.agg #[sv], .int .i64 2] W' (Ret W' (.bool (Oa 2 p)))from PQ 2 p sv W' (by decide) hp.1 (SolV.below h1 hb))
 have HF2:=fun W' (hb:Below W.heap.size W W')=>YJ (show Calls Tryz.prog 9 #[.agg #[tv], .int .i64 2] W' (Ret W' (.bool (Oa 2 q)))from PQ 2 q tv W' (by decide) hq.1 (SolV.below h2 hb))
 have HT:=fun(hf:Oa 2 p=true) (hf2:Oa 2 q=true) W' (hb:Below W.heap.size W W')=>YJ (rCheckTwo_any p q sv tv W' (fun c hc=>Nat.le_trans ((QI (by decide) hf).2 c hc) (by decide)) (fun c hc=>Nat.le_trans ((QI (by decide) hf2).2 c hc) (by decide)) (SolV.below h1 hb) (SolV.below h2 hb))
 have HWe:=fun W'=>YJ (El x y z W')
 have HB1:=fun(hf:Oa 2 p=true) (hf2:Oa 2 q=true) (hz:kw p q=0) (hw:mK (x,y,z)=0) W' (hb:Below W.heap.size W W')=>YJ (show Calls Tryz.prog 12 #[.agg #[sv], .agg #[tv],V3 x y z] W' (Ret W' (.tuple #[.bool (KZ p q (x,y,z)), .int .i64 0]))from by
  have:=CO p q sv tv x y z W' (fun c hc=>Nat.le_trans ((QI (by decide) hf).2 c hc) (by decide)) (fun c hc=>Nat.le_trans ((QI (by decide) hf2).2 c hc) (by decide)) (SolV.below h1 hb) (SolV.below h2 hb)
  rw[opp_B1 hz hw]at this
  simpa using this)
 have HB2:=fun(hf:Oa 2 p=true) (hf2:Oa 2 q=true) (hz:kw p q=0) (hw:mK (x,y,z)=0) W' (hb:Below W.heap.size W W')=>YJ (show Calls Tryz.prog 12 #[.agg #[tv], .agg #[sv],V3 (-x) (-y) (-z)] W' (Ret W' (.tuple #[.bool (KZ p q (x,y,z)), .int .i64 0]))from by
  have:=CO q p tv sv (-x) (-y) (-z) W' (fun c hc=>Nat.le_trans ((QI (by decide) hf2).2 c hc) (by decide)) (fun c hc=>Nat.le_trans ((QI (by decide) hf).2 c hc) (by decide)) (SolV.below h2 hb) (SolV.below h1 hb)
  rw[(opp_B2 hz hw).1,(opp_B2 hz hw).2]at this
  simpa using this)
 have HOp:=fun(hw:mK (x,y,z)=0) W'=>YJ (rOpp4_any x y z W' (wErr_bz hw).1.1 (wErr_bz hw).1.2.1 (wErr_bz hw).1.2.2)
 have HMv:=fun(hf:Oa 2 p=true) (hz:kw p q=0) (a b c:Int) (hv:okV (a,b,c)) W' (hb:Below W.heap.size W W')=>YJ (rMove_any p sv a b c W' (Nat.le_trans (QI (by decide) hf).1 (by decide)) (fun c hc=>Dl (IL (Gc hz).1 c hc)) hv (SolV.below h1 hb))
 have HCl:=fun(hf:Oa 2 p=true) (hf2:Oa 2 q=true) (hz:kw p q=0) (b:Q3) (mv:Value) W' (hb:Below W.heap.size W W') (hm:SolV W' mv (p.map (·.map (movP b)))) (hok:∀c∈p.map (·.map (movP b)),∀k∈c,bI k)=>YJ (PG (p.map (·.map (movP b))) q mv tv W' (fun c hc=>⟨hok c hc,by
  obtain⟨d,hd,rfl⟩:=List.mem_map.1 hc
  rw[List.length_map]
  exact(Dl (IL (Gc hz).1 d hd)).2⟩) (fun c hc=>Dl (IL (Gc hz).2 c hc)) (by rw[List.length_map];exact Nat.le_trans (QI (by decide) hf).1 (by decide)) (Nat.le_trans (QI (by decide) hf2).1 (by decide)) hm (SolV.below h2 hb))
 have HCb:=fun(hz:kw p q=0) (hw:mK (x,y,z)=0) t (h0:0≤t)=>YJ (fun h=> @opp_clash p q x y z t hz hw h0 h)
 have Hwb:=YJ (fun(hw:mK (x,y,z)=0)=>(wErr_bz hw).1)
 have Hsv:Hid (∃a n c,sv= .slice a n c):=YJ (by obtain⟨a,n,c,rfl,_⟩:=h1;exact⟨a,n,c,rfl⟩)
 have Htv:Hid (∃a n c,tv= .slice a n c):=YJ (by obtain⟨a,n,c,rfl,_⟩:=h2;exact⟨a,n,c,rfl⟩)
 obtain⟨sa,sn,sc,rfl⟩:=Hsv.out
 obtain⟨ta,tn,tc,rfl⟩:=Htv.out
 clear h1 h2 hp hq ht Hsv Htv
 generalize Oa 2 p=f1 at*
 generalize Oa 2 q=f2 at*
 generalize KZ p q (x,y,z)=bk at*
 generalize kw p q=ctq at*
 generalize mK (x,y,z)=we at*
 go_enter Tryz.func3,Tryz.ntmps3
 go_wp2_with fail
 try rw[HV.out]
 refine(HA.out).mono ?_
 rintro e w1 ⟨rfl,hb1⟩
 have hw1:=fB hV hb1
 have HP1:=YJ ((hb1.block _ (ah BP.out)).trans BP.out)
 have HQ1:=YJ ((hb1.block _ (ah BQ.out)).trans BQ.out)
 have HY1:=YJ ((hb1.block _ (ah BY.out)).trans BY.out)
 have p0:w1.cell? ⟨W.heap.size,0,none⟩=some (.slice sa sn sc):=(ag HP1.out 0).trans rfl
 have pz:=ah HP1.out
 clear HA BP BQ BY hV HV hb1
 go_wp2_with fail
 refine((HF1 _ hw1).out).mono ?_
 rintro e w2 ⟨rfl,hb2⟩
 have hw2:=fB hw1 hb2
 have HP2:=YJ (((hb2).block _ (ah (HP1).out)).trans (HP1).out)
 have HQ2:=YJ (((hb2).block _ (ah (HQ1).out)).trans (HQ1).out)
 have HY2:=YJ (((hb2).block _ (ah (HY1).out)).trans (HY1).out)
 have p0:w2.cell? ⟨W.heap.size,0,none⟩=some (.slice sa sn sc):=(ag (HP2).out 0).trans rfl
 have pz:=ah (HP2).out
 have q0:w2.cell? ⟨W.heap.size+1,0,none⟩=some (.slice ta tn tc):=(ag (HQ2).out 0).trans rfl
 have qz:=ah (HQ2).out
 obtain⟨y0,y1,y2,_,yz⟩:=NO (HY2).out
 clear HP1 HQ1 HY1
 clear HF1
 cases f1 with
 |false=>
  clear HF2 HT HWe HB1 HB2 HOp HMv HCl HCb Hwb
  go_wp2
  go_ret
  exact⟨ay (by simp),hw2⟩
 |true=>
  have HF2':=YJ ((HF2 w2 hw2).out)
  clear HF2
  go_wp2_with fail
  refine(HF2'.out).mono ?_
  rintro e w3 ⟨rfl,hb3⟩
  have hw3:=fB hw2 hb3
  have HP3:=YJ (((hb3).block _ (ah (HP2).out)).trans (HP2).out)
  have HQ3:=YJ (((hb3).block _ (ah (HQ2).out)).trans (HQ2).out)
  have HY3:=YJ (((hb3).block _ (ah (HY2).out)).trans (HY2).out)
  have p0:w3.cell? ⟨W.heap.size,0,none⟩=some (.slice sa sn sc):=(ag (HP3).out 0).trans rfl
  have pz:=ah (HP3).out
  have q0:w3.cell? ⟨W.heap.size+1,0,none⟩=some (.slice ta tn tc):=(ag (HQ3).out 0).trans rfl
  have qz:=ah (HQ3).out
  obtain⟨y0,y1,y2,_,yz⟩:=NO (HY3).out
  clear HP2 HQ2 HY2
  clear HF2'
  cases f2 with
  |false=>
   clear HT HWe HB1 HB2 HOp HMv HCl HCb Hwb
   go_wp2
   go_ret
   exact⟨ay (by simp),hw3⟩
  |true=>
   have HT3:=YJ ((HT (by trivial) (by trivial) w3 hw3).out)
   clear HT
   go_wp2_with fail
   refine(HT3.out).mono ?_
   rintro e w4 ⟨rfl,hb4⟩
   have hw4:=fB hw3 hb4
   have HP4:=YJ (((hb4).block _ (ah (HP3).out)).trans (HP3).out)
   have HQ4:=YJ (((hb4).block _ (ah (HQ3).out)).trans (HQ3).out)
   have HY4:=YJ (((hb4).block _ (ah (HY3).out)).trans (HY3).out)
   have p0:w4.cell? ⟨W.heap.size,0,none⟩=some (.slice sa sn sc):=(ag (HP4).out 0).trans rfl
   have pz:=ah (HP4).out
   have q0:w4.cell? ⟨W.heap.size+1,0,none⟩=some (.slice ta tn tc):=(ag (HQ4).out 0).trans rfl
   have qz:=ah (HQ4).out
   obtain⟨y0,y1,y2,_,yz⟩:=NO (HY4).out
   clear HP3 HQ3 HY3
   clear HT3
   by_cases hct:ctq=0
   ·subst hct
    have HW4:=YJ ((HWe w4).out)
    clear HWe
    go_wp2_with fail
    refine(HW4.out).mono ?_
    rintro e w5 ⟨rfl,hb5⟩
    have hw5:=fB hw4 hb5
    have HP5:=YJ (((hb5).block _ (ah (HP4).out)).trans (HP4).out)
    have HQ5:=YJ (((hb5).block _ (ah (HQ4).out)).trans (HQ4).out)
    have HY5:=YJ (((hb5).block _ (ah (HY4).out)).trans (HY4).out)
    have p0:w5.cell? ⟨W.heap.size,0,none⟩=some (.slice sa sn sc):=(ag (HP5).out 0).trans rfl
    have pz:=ah (HP5).out
    have q0:w5.cell? ⟨W.heap.size+1,0,none⟩=some (.slice ta tn tc):=(ag (HQ5).out 0).trans rfl
    have qz:=ah (HQ5).out
    obtain⟨y0,y1,y2,_,yz⟩:=NO (HY5).out
    clear HP4 HQ4 HY4
    clear HW4
    by_cases hwe:we=0
    ·subst hwe
     have HB1':=YJ ((HB1 (by trivial) (by trivial) (by trivial) (by trivial) w5 hw5).out)
     have HB2':=fun W' hb=>YJ ((HB2 (by trivial) (by trivial) (by trivial) (by trivial) W' hb).out)
     have HOp':=fun W'=>YJ ((HOp (by trivial) W').out)
     have HMv':=fun a b c hv W' hb=>YJ ((HMv (by trivial) (by trivial) a b c hv W' hb).out)
     have HCl':=fun b mv W' hb hm hok=>YJ ((HCl (by trivial) (by trivial) (by trivial) b mv W' hb hm hok).out)
     have HCb':=fun t h0=>YJ ((HCb (by trivial) (by trivial) t h0).out)
     have hxyz:=Hwb.out (by trivial)
     clear HB1 HB2 HOp HMv HCl HCb Hwb
     go_wp2_with fail
     refine(HB1'.out).mono ?_
     rintro e w6 ⟨rfl,hb6⟩
     have hw6:=fB hw5 hb6
     have HP6:=YJ (((hb6).block _ (ah (HP5).out)).trans (HP5).out)
     have HQ6:=YJ (((hb6).block _ (ah (HQ5).out)).trans (HQ5).out)
     have HY6:=YJ (((hb6).block _ (ah (HY5).out)).trans (HY5).out)
     have p0:w6.cell? ⟨W.heap.size,0,none⟩=some (.slice sa sn sc):=(ag (HP6).out 0).trans rfl
     have pz:=ah (HP6).out
     have q0:w6.cell? ⟨W.heap.size+1,0,none⟩=some (.slice ta tn tc):=(ag (HQ6).out 0).trans rfl
     have qz:=ah (HQ6).out
     obtain⟨y0,y1,y2,_,yz⟩:=NO (HY6).out
     clear HP5 HQ5 HY5
     clear HB1'
     go_wp2
     apply aj [8] [0,1,2,3,4,5,6,7,8] 9 [] [sv _,sv _,sv _,sv _,sv _,sv _,sv _,sv _,sv _] (by kernel_rfl) (by kernel_rfl)
     iterate 3 ((try go_frame);refine wkQ ?_)
     try go_frame
     refine MM rfl rfl (by simp) rfl rfl ?_
     apply ex3
     ·intro u hR K hK
      clear hR
      go_simp
      refine((HOp' _).out).mono ?_
      rintro e w9 ⟨rfl,hb9⟩
      exact hK _ hb9
     rfl
     try go_frame
     refine MM rfl rfl (by simp) rfl rfl ?_
     apply ex3
     ·intro u hR K hK
      clear hR
      go_simp
      refine((HB2' _ (fB hw6 u.below)).out).mono ?_
      rintro e w9 ⟨rfl,hb9⟩
      exact hK _ hb9
     rfl
     iterate 3 ((try go_frame);refine wkQ ?_)
     try go_frame
     refine wkz rfl rfl rfl rfl ?_
     apply Exists.intro
     apply And.intro
     ·intro w9
      go_simp
      try rfl
     refine⟨rfl, ?_⟩
     try go_frame
     refine aI (fun u hR=> ?_)
     have hw7:=fB hw6 u.below
     have hbu:=u.below
     clear hR
     generalize u.val=w7 at*
     clear u
     have HP7:=YJ (((hbu).block _ (ah (HP6).out)).trans (HP6).out)
     have HQ7:=YJ (((hbu).block _ (ah (HQ6).out)).trans (HQ6).out)
     have HY7:=YJ (((hbu).block _ (ah (HY6).out)).trans (HY6).out)
     have p0:w7.cell? ⟨W.heap.size,0,none⟩=some (.slice sa sn sc):=(ag (HP7).out 0).trans rfl
     have pz:=ah (HP7).out
     have q0:w7.cell? ⟨W.heap.size+1,0,none⟩=some (.slice ta tn tc):=(ag (HQ7).out 0).trans rfl
     have qz:=ah (HQ7).out
     obtain⟨y0,y1,y2,_,yz⟩:=NO (HY7).out
     clear HP6 HQ6 HY6
     clear HB2' HOp' p0 pz q0 qz y0 y1 y2 yz
     simp only[oas]
     go_wp2
     refine NoPanic.normal ?_
     go_wp2
     go_loopw [11] (fun i wr=>∃k:Int,0≤k∧k≤7∧i= .int .i64 k∧Below w7.heap.size w7 wr) (fun i _=>7-(intOf i).toNat)
     case atStart=>exact⟨0,by omega,by omega,rfl,Below.refl _ _⟩
     case round=>
      obtain⟨k,h0,h7,rfl,hb⟩:=hrel
      have hwr:=fB hw7 hb
      by_cases hk6:k≤6
      ·have e1:=aJ (A:=6) (show -6≤k by omega) hk6 hxyz.1.1 hxyz.1.2
       have e2:=aJ (A:=6) (show -6≤k by omega) hk6 hxyz.2.1.1 hxyz.2.1.2
       have e3:=aJ (A:=6) (show -6≤k by omega) hk6 hxyz.2.2.1 hxyz.2.2.2
       have HCk:=YJ (HCb' k h0).out
       obtain⟨mx,Hmx⟩:∃mx,Hid (k*x=mx):=⟨_,YJ rfl⟩
       obtain⟨my,Hmy⟩:∃my,Hid (k*y=my):=⟨_,YJ rfl⟩
       obtain⟨mz,Hmz⟩:∃mz,Hid (k*z=mz):=⟨_,YJ rfl⟩
       have m0:wrap64 (k*x)=mx:=by rw[←Hmx.out];unfold wrap64;omega
       have m1:wrap64 (k*y)=my:=by rw[←Hmy.out];unfold wrap64;omega
       have m2:wrap64 (k*z)=mz:=by rw[←Hmz.out];unfold wrap64;omega
       rw[Hmx.out]at e1
       rw[Hmy.out]at e2
       rw[Hmz.out]at e3
       rw[Hmx.out,Hmy.out,Hmz.out]at HCk
       have HMk:=YJ (HMv' mx my mz ⟨by simp only;omega,by simp only;omega,by simp only;omega⟩ wr hwr).out
       have HP8:=HP7
       have HQ8:=HQ7
       have HY8:=HY7
       have HP9:=YJ (((hb).block _ (ah (HP8).out)).trans (HP8).out)
       have HQ9:=YJ (((hb).block _ (ah (HQ8).out)).trans (HQ8).out)
       have HY9:=YJ (((hb).block _ (ah (HY8).out)).trans (HY8).out)
       have p0:wr.cell? ⟨W.heap.size,0,none⟩=some (.slice sa sn sc):=(ag (HP9).out 0).trans rfl
       have pz:=ah (HP9).out
       have q0:wr.cell? ⟨W.heap.size+1,0,none⟩=some (.slice ta tn tc):=(ag (HQ9).out 0).trans rfl
       have qz:=ah (HQ9).out
       obtain⟨y0,y1,y2,_,yz⟩:=NO (HY9).out
       clear HP8 HQ8 HY8
       clear e1 e2 e3 HMv' HCb'
       go_wp2_with fail
       refine(HMk.out).mono ?_
       rintro e w8 ⟨a,n,c,d,rfl,hb8,hd⟩
       have hw8:=fB hwr hb8
       have HP8:=YJ (((hb8).block _ (ah (HP9).out)).trans (HP9).out)
       have HQ8:=YJ (((hb8).block _ (ah (HQ9).out)).trans (HQ9).out)
       have HY8:=YJ (((hb8).block _ (ah (HY9).out)).trans (HY9).out)
       have p0:w8.cell? ⟨W.heap.size,0,none⟩=some (.slice sa sn sc):=(ag (HP8).out 0).trans rfl
       have pz:=ah (HP8).out
       have q0:w8.cell? ⟨W.heap.size+1,0,none⟩=some (.slice ta tn tc):=(ag (HQ8).out 0).trans rfl
       have qz:=ah (HQ8).out
       obtain⟨y0,y1,y2,_,yz⟩:=NO (HY8).out
       clear HP9 HQ9 HY9
       clear HMk m0 m1 m2
       by_cases hd0:d=0
       ·subst hd0
        obtain⟨hm,hok⟩:=hd rfl
        obtain⟨Z,HZ⟩:∃Z,Hid (w8.alloc (.cells #[.slice a n c] 24)=Z):=⟨_,YJ rfl⟩
        have hbZ:Below w8.heap.size w8 Z:=by rw[←HZ.out];exact bel
        have HCz:=YJ (HCl' (mx,my,mz) (.slice a n c) Z (fB hw8 hbZ) (SolV.below hm hbZ) hok).out
        clear hd hm hok HCl'
        generalize Oh (p.map (·.map (movP (mx,my,mz)))) q=cl at*
        go_wp2_with fail
        try rw[HZ.out]
        refine(HCz.out).mono ?_
        rintro e w9 ⟨hb9,i9,k9,s9,n9,c9,rfl⟩
        have hb79:=fB hb (fB hb8 (fB hbZ hb9))
        clear HCz p0 pz q0 qz y0 y1 y2 yz HZ hbZ hb9
        cases cl with
        |false=>
         go_wp2
         go_roundw
         case rel=>exact⟨k+1,by omega,by omega,rfl,fB hb79 bel⟩
         case measure=>simp[intOf];omega
        |true=>
         obtain rfl:=HCk.out (by trivial)
         go_wp2
         go_roundw
         case rel=>exact⟨k+1,by omega,by omega,rfl,fB hb79 bel⟩
         case measure=>simp[intOf];omega
       ·have hd':(d !=0)=true:=by simpa using hd0
        clear HCl' HCk hd
        go_wp2
        go_ret
        exact⟨ay (by simp),fB hw8 bel⟩
      ·clear HMv' HCl' HCb'
       go_wp2
       go_ret
       exact⟨ay (by simp),hwr⟩
    ·have hwe':(we !=0)=true:=by simpa using hwe
     clear HB1 HB2 HOp HMv HCl HCb Hwb
     go_wp2
     go_ret
     exact⟨ay (by simp),hw5⟩
   ·have hct':(ctq !=0)=true:=by simpa using hct
    clear HWe HB1 HB2 HOp HMv HCl HCb Hwb
    go_wp2
    go_ret
    exact⟨ay (by simp),hw4⟩
end
end Go.Proofs.YtoidbolmlckhnaaGreatDoor
