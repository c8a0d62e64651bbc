/- texts: FG8. -/
import Derived.Test.YtoidbolmlckhnaaGreatDoorFIS43
namespace Go.Proofs.YtoidbolmlckhnaaGreatDoor
set_option maxHeartbeats 8000000
set_option linter.unusedSimpArgs false
set_option linter.unusedVariables false
section
open Go.RowKit Go.Shelf Go.Lib
set_option maxRecDepth 100000
attribute [local go_sem] Ext.cell Ext.frozen
theorem We {l:List (List (List Q4))} (hf:Ow l=true) (h:eB l=0):∀s∈l,s.length≤100∧∀c∈s,SI c:=fun s hs=>by
 have h0:=(sq h).2 s hs
 refine⟨(xb h0).1,fun c hc=> ?_⟩
 have h1:=IL h0 c hc
 refine⟨h1, ?_⟩
 have h2:=(jx h1).1
 unfold Ow at hf
 rw[Bool.and_eq_true,List.all_eq_true]at hf
 have hf:=hf.2 s hs
 unfold Oa at hf
 rw[Bool.and_eq_true,List.all_eq_true]at hf
 have h3:=hf.2 c hc
 unfold NX at h3
 simp only[Bool.or_eq_true,Bool.and_eq_true,decide_eq_true_eq]at h3
 omega
theorem Ve {xs:List Int} (h:∀x∈xs,0≤x):nI (xs.map Int.toNat)=xs:=by
 induction xs with
 |nil=>rfl
 |cons a xs ih=>
  show((a.toNat:Nat):Int)::nI (xs.map Int.toNat)=_
  rw[ih (fun x hx=>h x (by simp[hx])),Int.toNat_of_nonneg (h a (by simp))]
def fsR (l:List (List (List Q4))) (xs:List Int):Option (Q3×List Nat):=if fsE l xs=0 then TY l (xs.map Int.toNat)else none
def Vz (xs:List Int):Option (Q3×List Nat)→Spl
 |none=>([],[],(0,0,0))
 |some (v,o)=>(xs,nI o,v)
def FsX (s:Spl) (b:Bool) (d:Int) (W:World) (e:Ending) (w':World):Prop:=∃gv ov,e= .returned (.tuple #[.agg #[gv,ov, .int .i64 s.2.2.1, .int .i64 s.2.2.2.1, .int .i64 s.2.2.2.2], .bool b, .int .i64 d])∧Below W.heap.size W w'∧Ints w' gv s.1∧Ints w' ov s.2.1
theorem TL (w:World):Ints w (.slice none 0 0) []:=⟨none,0,0,rfl,rfl,Nat.le_refl _,fun h=>absurd h (by omega)⟩
theorem Wf {l:List (List (List Q4))} {xs:List Int} {W:World} {e:Ending} {w':World} (h:MY l xs W e w'):FsX (Vz xs (fsR l xs)) (fsR l xs).isSome (fsE l xs) W e w':=by
 obtain⟨hb,⟨h1,rfl⟩|⟨h1,h2,rfl⟩|⟨h1,v,o,cs,hv,h2,rfl,hs⟩⟩:=h
 ·have e:fsR l xs=none:=by unfold fsR;rw[if_neg h1]
  rw[e]
  exact⟨_,_,rfl,hb,TL _,TL _⟩
 ·have h0:eB l=0:=by
   unfold fsE at h1
   split at h1
   ·assumption
   ·exact absurd h1 (by assumption)
  have h9:gh xs l.length=0:=by unfold fsE at h1;rwa [if_pos h0]at h1
  have h12:=(sq h0).1
  have e:fsR l xs=none:=by
   unfold fsR
   rw[if_pos h1, ←Uf h9 (by omega), ←Vl h0 (KX _ (fun x hx=>by have:=DO h9 x hx;omega))]
   unfold fsA at h2
   rw[h2]
   rfl
  rw[e,h1]
  exact⟨_,_,rfl,hb,TL _,TL _⟩
 ·have h0:eB l=0:=by
   unfold fsE at h1
   split at h1
   ·assumption
   ·exact absurd h1 (by assumption)
  have h9:gh xs l.length=0:=by unfold fsE at h1;rwa [if_pos h0]at h1
  have h12:=(sq h0).1
  have e:fsR l xs=some (v,av o):=by
   unfold fsR
   rw[if_pos h1, ←Uf h9 (by omega), ←Vl h0 (KX _ (fun x hx=>by have:=DO h9 x hx;omega))]
   unfold fsA at h2
   rw[h2]
   rfl
  obtain⟨gv,ov,rfl,o1,o2⟩:=hs
  rw[e,h1]
  refine⟨gv,ov,rfl,hb, ?_,Vb o2⟩
  have h3:=Vb o1
  rw[Uf h9 (by omega),Ve (fun x hx=>(DO h9 x hx).1)]at h3
  exact h3
def RfX (s:Spl) (b:Bool) (W:World) (e:Ending) (w':World):Prop:=∃gv ov,e= .returned (.tuple #[.agg #[gv,ov, .int .i64 s.2.2.1, .int .i64 s.2.2.2.1, .int .i64 s.2.2.2.2], .bool b])∧Below W.heap.size W w'∧w'.ownsRow W.heap.size 3 1 gv s.1.length (s.1.map (Value.int .i64))∧w'.ownsRow W.heap.size 3 1 ov s.2.1.length (s.2.1.map (Value.int .i64))
theorem VR {B:Nat} {w:World} {v:Value} {l:List Nat} (h:OwnI B w v l):w.ownsRow B 3 1 v (nI l).length ((nI l).map (Value.int .i64)):=by
 rw[TO,Vm]
 exact h
theorem Wr {r:Option (Q3×List Nat)} {xs:List Int} (hx:∀x∈xs,0≤x) {W:World} {e:Ending} {w':World} (h:WG r (xs.map Int.toNat) W e w'):RfX (Vz xs r) r.isSome W e w':=by
 obtain⟨hb,⟨rfl,rfl⟩|⟨v,o,gv,ov,rfl,rfl,h1,h2⟩⟩:=h
 ·exact⟨_,_,rfl,hb,World.ownsRow_nil _ _ _ _,World.ownsRow_nil _ _ _ _⟩
 ·refine⟨gv,ov,rfl,hb, ?_,VR h2⟩
  have h3:=VR h1
  rw[Ve hx]at h3
  exact h3
theorem TW {w:World} {g:Nat} {gv ov:Value} {T:TypeId} {s:Spl} (h:w.heap[g]? =some (.cells #[gv,ov, .int .i64 s.2.2.1, .int .i64 s.2.2.2.1, .int .i64 s.2.2.2.2] T (0,0))) (h1:Ints w gv s.1) (h2:Ints w ov s.2.1):Kj w (.slice (some ⟨g,0,none⟩) 1 1) [s]:=
 ⟨_,_,_,rfl,rfl,Nat.le_refl _,fun _=>⟨g,0,rfl,fun i hi=>by
  have:i=0:=by simpa using hi
  subst this
  exact⟨gv,ov,(ag h 0).trans rfl,(ag h 1).trans rfl,(ag h 2).trans rfl,(ag h 3).trans rfl,(ag h 4).trans rfl,h1,h2⟩⟩⟩
theorem Ints.sl {w:World} {v:Value} {xs:List Int} (h:Ints w v xs):∃a n c,v= .slice a n c:=by obtain⟨a,n,c,rfl,_⟩:=h;exact⟨a,n,c,rfl⟩
theorem Uk (l:List (List (List Q4))) (lv:Value) (xs:List Int) (nv:Value) (W:World) (hl:l.length≤maxLen) (hL:∀s∈l,s.length≤maxLen∧∀c∈s,c.length≤maxLen) (h:SolsV W lv l) (hxm:xs.length≤maxLen) (hn:Ints W nv xs) (hnil:MW nv) (ht:Lib.TabIs Tryz.prog W "internal/strconv.uint64pow10" .u64 Lib.pow10Tab∧TabAt 1 Lib.deBruijn64tab W):
  Calls Tryz.prog 4 #[lv,nv] W (Ret W (.bool true)):=by
 have HA:=Lib.hid (Gv W ht.1 ht.2)
 have HF:=fun W' (hb:Below W.heap.size W W')=>Lib.hid (QD l lv W' hl (fun s hs=>(hL s hs).1) (SolsV.below h hb))
 have HC:=fun(hf:Ow l=true) W' (hb:Below W.heap.size W W')=>Lib.hid (Py l lv W' (Nat.le_trans (Ol hf).1 (by decide)) (fun s hs=>⟨Nat.le_trans ((Ol hf).2 s hs).1 (by decide),fun c hc=>Nat.le_trans (((Ol hf).2 s hs).2 c hc) (by decide)⟩) (SolsV.below h hb))
 have HCi:=fun(hx:xs.length≤20) W' (hb:Below W.heap.size W W')=>Lib.hid (Ui nv xs W' (hn.below hb) hnil (by omega))
 have HK:=fun(hf:Ow l=true) (hx:xs.length≤20) v v2 W' (hb:Below W.heap.size W W') (hv:SolsV W' v l) (hv2:Ints W' v2 xs)=>Lib.hid ((Iy l xs v v2 W' (fun s hs c hc=>Nat.le_trans (((Ol hf).2 s hs).2 c hc) (by decide)) (by omega) hv hv2 (ma ht.2 hb) (fun h=>KE h)).mono fun _ _ h=>Wf h)
 have HR:=fun(hf:Ow l=true) W' (hb:Below W.heap.size W W')=>Lib.hid (PP l lv W' (fun s hs c hc=>Nat.le_trans (((Ol hf).2 s hs).2 c hc) (by decide)) (SolsV.below h hb))
 rw[←QG]at HR
 have HSe:=fun(hf:Ow l=true) (hx:xs.length≤20) W' (hb:Below W.heap.size W W')=>Lib.hid (Vy xs nv l.length W' (Nat.le_trans (Ol hf).1 (by decide)) (by omega) (hn.below hb))
 have HGs:=fun(hf:Ow l=true) (h0:eB l=0) W' (hb:Below W.heap.size W W')=>Lib.hid (Vw l lv W' (Nat.le_trans (Ol hf).1 (by decide)) (We hf h0) (SolsV.below h hb))
 have HFi:=fun(hf:Ow l=true) (hx:xs.length≤20) (h9:gh xs l.length=0) gv W' (hb:Below W.heap.size W W') (hg:GsV W' gv (Uh l))=>Lib.hid ((VI l (xs.map Int.toNat) gv nv W' (Nat.le_trans (Ol hf).1 (by decide)) (by rw[List.length_map];omega) (fun y hy=>by
  obtain⟨x,hx,rfl⟩:=List.mem_map.1 hy
  have:=DO h9 x hx
  omega) hnil hg (by
   show Ints W' nv (nI (xs.map Int.toNat))
   rw[Ve (fun x hx=>(DO h9 x hx).1)]
   exact hn.below hb)).mono fun _ _ h=>Wr (fun x hx=>(DO h9 x hx).1) h)
 have HSa:=fun s (hs:s.1.length≤1000000∧s.2.1.length≤1000000) v v2 W' (k1:Kj W' v [s]) (k2:Kj W' v2 [s])=>Lib.hid (Wd [s] v v2 W' (by simp) (by simpa using hs) k1 k2)
 have He1:Hid (eB l≠0→fsE l xs=eB l):=Lib.hid (fun h=>by unfold fsE;rw[if_neg h])
 have He2:Hid (eB l=0→fsE l xs=gh xs l.length):=Lib.hid (fun h=>by unfold fsE;rw[if_pos h])
 have Hr1:Hid (fsE l xs≠0→fsR l xs=none):=Lib.hid (fun h=>by unfold fsR;rw[if_neg h])
 have Hr2:Hid (fsE l xs=0→fsR l xs=TY l (xs.map Int.toNat)):=Lib.hid (fun h=>by unfold fsR;rw[if_pos h])
 have Hsl:Hid (Ow l=true→xs.length≤20→(Vz xs (fsR l xs)).1.length≤1000000∧(Vz xs (fsR l xs)).2.1.length≤1000000):=Lib.hid (fun hf hx=>by
  cases hr:fsR l xs with
  |none=>simp[Vz]
  |some r=>
   obtain⟨v,o⟩:=r
   refine⟨by simp[Vz];omega, ?_⟩
   simp only[Vz]
   rw[TO]
   unfold fsR at hr
   split at hr
   ·unfold TY at hr
    obtain⟨u, -,hu⟩:=List.exists_of_findSome?_eq_some hr
    obtain⟨o',ho',e⟩:=Option.map_eq_some_iff.1 hu
    cases e
    unfold TQ at ho'
    have:=List.find?_some ho'
    simp at this
    omega
   ·cases hr)
 have Hlv:Hid (∃a n c,lv= .slice a n c∧l.length=n):=Lib.hid (by obtain⟨a,n,c,rfl,hn,_⟩:=h;exact⟨a,n,c,rfl,hn⟩)
 have Hnv:Hid (∃a n c,nv= .slice a n c∧xs.length=n):=Lib.hid (by obtain⟨a,n,c,rfl,hn',_⟩:=hn;exact⟨a,n,c,rfl,hn'⟩)
 obtain⟨la,ln,lc,rfl,hln⟩:=Hlv.out
 obtain⟨na,nn,nc,rfl,hnn⟩:=Hnv.out
 rw[hnn]at HCi HK HSe HFi Hsl hxm
 rw[hln]at HSe HFi He2
 have Hnn:=Lib.hid hnn
 clear h hl hL ht Hlv Hnv hn hnil hnn hln hxm
 generalize TY l (xs.map Int.toNat)=rr at*
 generalize fsR l xs=fr at*
 generalize fsE l xs=fe at*
 generalize Ow l=fl at*
 generalize eB l=ae at*
 generalize gh xs ln=se at*
 go_enter Tryz.func4,Tryz.ntmps4
 go_wp2_with fail
 refine(HA.out).mono ?_
 rintro e w1 ⟨rfl,hb1⟩
 clear HA
 go_wp2_with fail
 refine((HF _ hb1).out).mono ?_
 rintro e w2 ⟨rfl,hb2⟩
 have hw2:=fB hb1 hb2
 clear HF
 cases fl with
 |false=>
  clear HC HCi HK HR HSe HGs HFi HSa He1 He2 Hr1 Hr2 Hsl
  go_wp2
  go_ret
  exact⟨ay (by simp),hw2⟩
 |true=>
  by_cases hx20:nn≤20
  ·have g1:¬(20:Int)<(nn:Int):=by omega
   have HC2:=Lib.hid ((HC (by first|rfl|trivial) w2 hw2).out)
   have HCi':=fun W' hb=>Lib.hid (HCi hx20 W' hb).out
   have HK':=fun v v2 W' hb k1 k2=>Lib.hid (HK (by first|rfl|trivial) hx20 v v2 W' hb k1 k2).out
   have HR':=fun W' hb=>Lib.hid (HR (by first|rfl|trivial) W' hb).out
   have HSe':=fun W' hb=>Lib.hid (HSe (by first|rfl|trivial) hx20 W' hb).out
   have HGs':=fun h0 W' hb=>Lib.hid (HGs (by first|rfl|trivial) h0 W' hb).out
   have HFi':=fun h9 gv W' hb hg=>Lib.hid (HFi (by first|rfl|trivial) hx20 h9 gv W' hb hg).out
   have Hsl':=Lib.hid (Hsl.out (by first|rfl|trivial) hx20)
   clear HC HCi HK HR HSe HGs HFi Hsl
   obtain⟨sp,Hsp⟩:∃sp,Hid (Vz xs fr=sp):=⟨_,Lib.hid rfl⟩
   rw[Hsp.out]at HK' Hsl'
   go_wp2_with fail
   refine(HC2.out).mono ?_
   rintro e w3 ⟨v,rfl,hb3,hv⟩
   have hw3:=fB hw2 hb3
   have HV3:=Lib.hid hv
   obtain⟨va,vn,vc,rfl, -⟩:=hv
   clear HC2
   go_wp2_with fail
   refine((HCi' w3 hw3).out).mono ?_
   rintro e w4 ⟨v2,rfl,hb4,ho4⟩
   have hw4:=fB hw3 hb4
   have HK4:=Lib.hid (HK' _ v2 w4 hw4 (SolsV.below HV3.out hb4) (jy (by rw[Hnn.out];exact ho4))).out
   obtain⟨va2,vc2,rfl⟩:=aT ho4
   clear HCi' HK' HV3 ho4
   go_wp2_with fail
   refine(HK4.out).mono ?_
   rintro e w5 ⟨gv,ov,rfl,hb5,hi1,hi2⟩
   have hw5:=fB hw4 hb5
   obtain⟨ga,gn,gc,rfl⟩:=hi1.sl
   obtain⟨oa,on,oc,rfl⟩:=hi2.sl
   have HI1:=Lib.hid hi1
   have HI2:=Lib.hid hi2
   have HSa':=fun v v2 W' k1 k2=>Lib.hid (HSa sp Hsl'.out v v2 W' k1 k2).out
   clear HK4 hi1 hi2 HSa Hsl'
   go_wp2_with fail
   refine((HR' _ (fB hw5 bel)).out).mono ?_
   rintro e w6 ⟨rfl,hb6⟩
   have hb56:Below w5.heap.size w5 w6:=fB bel hb6
   have hw6:=fB hw5 hb56
   have HB6:Hid (w6.heap[w5.heap.size]? =some (.cells #[.slice ga gn gc, .slice oa on oc, .int .i64 sp.2.2.1, .int .i64 sp.2.2.2.1, .int .i64 sp.2.2.2.2] 48 (0,0))):=Lib.hid ((hb6.block _ (by simp)).trans (ai rfl))
   have HI16:=Lib.hid (HI1.out.below hb56)
   have HI26:=Lib.hid (HI2.out.below hb56)
   clear HR' hb6 HI1 HI2
   by_cases hae:ae=0
   ·subst hae
    have hfe:=He2.out (by first|rfl|trivial)
    have HGs2:=fun W' hb=>Lib.hid (HGs' (by first|rfl|trivial) W' hb).out
    clear HGs' He1 He2
    go_wp2_with fail
    refine((HSe' _ hw6).out).mono ?_
    rintro e w7 ⟨rfl,hb7⟩
    have hw7:=fB hw6 hb7
    have HB7:=Lib.hid ((hb7.block _ (ah HB6.out)).trans HB6.out)
    have HI17:=Lib.hid (HI16.out.below hb7)
    have HI27:=Lib.hid (HI26.out.below hb7)
    clear HSe' HB6 HI16 HI26
    by_cases hse:se=0
    ·subst hse
     subst hfe
     have hfr:=Hr2.out (by first|rfl|trivial)
     subst hfr
     rw[Hsp.out]at HFi'
     have HFi2:=fun gv W' hb hg=>Lib.hid (HFi' (by first|rfl|trivial) gv W' hb hg).out
     clear HFi' Hr1 Hr2
     go_wp2_with fail
     refine((HGs2 _ (fB hw7 bel)).out).mono ?_
     rintro e w8 ⟨gv8,rfl,hb8,hg8⟩
     have hb78:Below w7.heap.size w7 w8:=fB bel hb8
     have hw8:=fB hw7 hb78
     have HT8:Hid (w8.heap[w7.heap.size]? =some (.cells #[.slice none 0 0, .slice none 0 0, .int .i64 0, .int .i64 0, .int .i64 0] 48 (0,0))):=Lib.hid ((hb8.block _ (by simp)).trans (ai rfl))
     have HF8:=Lib.hid (HFi2 gv8 w8 hw8 hg8.gs).out
     obtain⟨g8a,g8n,g8c,rfl⟩:∃a n c,gv8= .slice a n c:=by obtain⟨vs,h,_⟩:=hg8;obtain⟨a,c,h⟩:=aT h;exact⟨_,_,_,h⟩
     clear HGs2 HFi2 hg8 hb8
     go_wp2_with fail
     refine(HF8.out).mono ?_
     rintro e w9 ⟨gv9,ov9,rfl,hb9,ho1,ho2⟩
     have hb79:=fB hb78 hb9
     have hw9:=fB hw7 hb79
     obtain⟨ga9,gn9,gc9,rfl⟩:∃a n c,gv9= .slice a n c:=by obtain⟨a,c,h⟩:=aT ho1;exact⟨_,_,_,h⟩
     obtain⟨oa9,on9,oc9,rfl⟩:∃a n c,ov9= .slice a n c:=by obtain⟨a,c,h⟩:=aT ho2;exact⟨_,_,_,h⟩
     have HT9:=Lib.hid ((hb9.block _ (ah HT8.out)).trans HT8.out)
     obtain⟨Y,hY,hbY,hRY,hoY⟩:=GO (Nat.le_refl _) HT9.out (.slice ga9 gn9 gc9) (.slice oa9 on9 oc9) (.int .i64 sp.2.2.1) (.int .i64 sp.2.2.2.1) (.int .i64 sp.2.2.2.2)
     have hb7Y:Below w7.heap.size w7 Y:=hb79.trans hbY
     have hwY:=fB hw7 hb7Y
     have HBY:=Lib.hid ((hb7Y.block _ (ah HB7.out)).trans HB7.out)
     have HI1Y:=Lib.hid (HI17.out.below hb7Y)
     have HI2Y:=Lib.hid (HI27.out.below hb7Y)
     have HJ1:=Lib.hid (jy (hoY (by decide) ho1))
     have HJ2:=Lib.hid (jy (hoY (by decide) ho2))
     have HRY:=Lib.hid hRY
     obtain⟨r0,r1,r2,r3,r4,rf,rz⟩:=bM HT9.out
     clear HF8 HB7 HI17 HI27 HT8 ho1 ho2 hoY hRY
     go_upto_region 13 with fail
     rw[←hY]
     clear r0 r1 r2 r3 r4 rf rz hY HT9
     obtain⟨r0,r1,r2,r3,r4,rf,rz⟩:=bM HRY.out
     obtain⟨s0,s1,s2,s3,s4,sf,sz⟩:=bM HBY.out
     obtain⟨Z,HZ⟩:∃Z,Hid ((Y.alloc (.cells #[.slice ga gn gc, .slice oa on oc, .int .i64 sp.2.2.1, .int .i64 sp.2.2.2.1, .int .i64 sp.2.2.2.2] 48)).alloc (.cells #[.slice ga9 gn9 gc9, .slice oa9 on9 oc9, .int .i64 sp.2.2.1, .int .i64 sp.2.2.2.1, .int .i64 sp.2.2.2.2] 48)=Z):=⟨_,Lib.hid rfl⟩
     have hbZ:Below Y.heap.size Y Z:=by rw[←HZ.out];exact bel
     have K1:Kj Z (.slice (some ⟨Y.heap.size,0,none⟩) 1 1) [sp]:=TW (T:=48) (by rw[←HZ.out];exact(aB (by simp)).trans (ai (by simp))) (HI1Y.out.below hbZ) (HI2Y.out.below hbZ)
     have K2:Kj Z (.slice (some ⟨Y.heap.size+1,0,none⟩) 1 1) [sp]:=TW (T:=48) (by rw[←HZ.out];exact ai (by simp)) (HJ1.out.below hbZ) (HJ2.out.below hbZ)
     have HSZ:=Lib.hid (HSa' _ _ Z K1 K2).out
     go_wp2_with fail
     try rw[HZ.out]
     refine(HSZ.out).mono ?_
     rintro e w10 ⟨rfl,hb10⟩
     have hw10:Below W.heap.size W w10:=fB (fB hwY hbZ) hb10
     clear HSa' HSZ
     go_wp2
     go_ret
     exact⟨ay (by simp),hw10⟩
    ·have hse':(se==0)=false:=by simpa using hse
     subst hfe
     have hfr:=Hr1.out hse
     subst hfr
     have Hsq:Hid (sp=([],[],(0,0,0))):=Lib.hid Hsp.out.symm
     obtain⟨s0,s1,s2,s3,s4,sf,sz⟩:=bM HB7.out
     clear HGs2 HFi' Hr1 Hr2
     obtain⟨Z,HZ⟩:∃Z,Hid (((w7.alloc (.cells #[.slice none 0 0, .slice none 0 0, .int .i64 0, .int .i64 0, .int .i64 0] 48)).alloc (.cells #[.slice ga gn gc, .slice oa on oc, .int .i64 sp.2.2.1, .int .i64 sp.2.2.2.1, .int .i64 sp.2.2.2.2] 48)).alloc (.cells #[.slice none 0 0, .slice none 0 0, .int .i64 0, .int .i64 0, .int .i64 0] 48)=Z):=⟨_,Lib.hid rfl⟩
     have hbZ:Below w7.heap.size w7 Z:=by rw[←HZ.out];exact bel
     have K1:Kj Z (.slice (some ⟨w7.heap.size+1,0,none⟩) 1 1) [sp]:=TW (T:=48) (by rw[←HZ.out];exact(aB (by simp)).trans (ai (by simp))) (HI17.out.below hbZ) (HI27.out.below hbZ)
     have K2:Kj Z (.slice (some ⟨w7.heap.size+1+1,0,none⟩) 1 1) [sp]:=by rw[Hsq.out];exact TW (T:=48) (by rw[←HZ.out];exact ai (by simp)) (TL _) (TL _)
     have HSZ:=Lib.hid (HSa' _ _ Z K1 K2).out
     go_wp2_with fail
     try rw[HZ.out]
     refine(HSZ.out).mono ?_
     rintro e w10 ⟨rfl,hb10⟩
     have hw10:Below W.heap.size W w10:=fB (fB hw7 hbZ) hb10
     clear HSa' HSZ
     go_wp2
     go_ret
     exact⟨ay (by simp),hw10⟩
   ·have hae':(ae==0)=false:=by simpa using hae
    have hfe:=He1.out hae
    subst hfe
    have hfr:=Hr1.out hae
    subst hfr
    have Hsq:Hid (sp=([],[],(0,0,0))):=Lib.hid Hsp.out.symm
    obtain⟨s0,s1,s2,s3,s4,sf,sz⟩:=bM HB6.out
    clear HGs' HFi' Hr1 Hr2 He1 He2 HSe'
    obtain⟨Z,HZ⟩:∃Z,Hid (((w6.alloc (.cells #[.slice none 0 0, .slice none 0 0, .int .i64 0, .int .i64 0, .int .i64 0] 48)).alloc (.cells #[.slice ga gn gc, .slice oa on oc, .int .i64 sp.2.2.1, .int .i64 sp.2.2.2.1, .int .i64 sp.2.2.2.2] 48)).alloc (.cells #[.slice none 0 0, .slice none 0 0, .int .i64 0, .int .i64 0, .int .i64 0] 48)=Z):=⟨_,Lib.hid rfl⟩
    have hbZ:Below w6.heap.size w6 Z:=by rw[←HZ.out];exact bel
    have K1:Kj Z (.slice (some ⟨w6.heap.size+1,0,none⟩) 1 1) [sp]:=TW (T:=48) (by rw[←HZ.out];exact(aB (by simp)).trans (ai (by simp))) (HI16.out.below hbZ) (HI26.out.below hbZ)
    have K2:Kj Z (.slice (some ⟨w6.heap.size+1+1,0,none⟩) 1 1) [sp]:=by rw[Hsq.out];exact TW (T:=48) (by rw[←HZ.out];exact ai (by simp)) (TL _) (TL _)
    have HSZ:=Lib.hid (HSa' _ _ Z K1 K2).out
    go_wp2_with fail
    try rw[HZ.out]
    refine(HSZ.out).mono ?_
    rintro e w10 ⟨rfl,hb10⟩
    have hw10:Below W.heap.size W w10:=fB (fB hw6 hbZ) hb10
    clear HSa' HSZ
    go_wp2
    go_ret
    exact⟨ay (by simp),hw10⟩
  ·have g1:(20:Int)<(nn:Int):=by omega
   clear HC HCi HK HR HSe HGs HFi HSa He1 He2 Hr1 Hr2 Hsl
   go_wp2
   go_ret
   exact⟨ay (by simp),hw2⟩
end
end Go.Proofs.YtoidbolmlckhnaaGreatDoor
