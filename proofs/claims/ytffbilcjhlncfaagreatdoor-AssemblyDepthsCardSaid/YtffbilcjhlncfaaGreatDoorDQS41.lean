/- texts: DPD FHD FHF DPL. -/
import Derived.Test.YtffbilcjhlncfaaGreatDoorDQS40
namespace Go.Proofs.YtffbilcjhlncfaaGreatDoor
set_option maxHeartbeats 8000000
set_option linter.all false
section
open Go.RowKit Go.Shelf Go.Lib
set_option maxRecDepth 100000
attribute [local go_sem] Oper.semAt_some Ext.cell Ext.frozen
attribute [-go_sem] Builtin.append_
def qgD (l:List (List (List Q4))) (part:Int):Int×Int:=if eB l≠0 then(0,eB l)else if part<0∨(l.length:Int)≤part then(0,6)else if qgz l part.toNat<0 then(0,19)else(qgz l part.toNat,0)
def qiJ (r:Int×Int) (W:World) (e:Ending) (w':World):Prop:=e= .returned (.tuple #[.int .i64 r.1, .int .i64 r.2])∧Below W.heap.size W w'
theorem qid (l:List (List (List Q4))) (part:Int) (lv:Value) (W:World) (hL:∀s∈l,∀c∈s,c.length≤1000000) (h:SolsV W lv l) (hT:TabAt 3 Lib.deBruijn64tab W) (hf:eB l=0→l.length≤4):
  Calls Tryz.prog 9 #[lv, .int .i64 part] W (qiJ (qgD l part) W):=by
 have HCk:=YJ (Gd l lv W hL h)
 have HSc:=fun(h0:eB l=0) W' (h':Below W.heap.size W W')=>YJ (XO W' h0 (SolsV.below h h'))
 have HAl:=fun(h0:eB l=0) (sb mb:Nat) (pv:Value) (W':World) k1 k3=>YJ (XS (psB l) sb mb pv W' (by rw[WM];exact(sq h0).1) k1 k3)
 have HGr:=fun(h0:eB l=0) (v:Q3) (hv:v∈ways26) (sb mb m0:Nat) (D:DataW Value) (pv:Value) (W':World) (hm:m0≤1000000) k1 k2 k3=>YJ (qhK h0 hv sb mb m0 D pv W' hm k1 k2 k3)
 have HE:=fun W'=>YJ (GM W')
 have HF:=fun(h0:eB l=0) (hp:part.toNat<l.length) (L:List Nat) (D:Nat→Option Nat) (k:Nat) (done:Nat→Prop) (B:Bfs (TS (mvA (psB l)) part.toNat) (2 ^ l.length-1) (2 ^ part.toNat) L D k done) (hk:k<L.length) (hg:L[k]=2 ^ part.toNat) (a:Nat) (ha:D L[k]=some a)=>YJ (qia h0 hp B hk hg ha)
 have HN:=fun(h0:eB l=0) (hp:part.toNat<l.length) (L:List Nat) (D:Nat→Option Nat) (done:Nat→Prop) B=>YJ (@qig l h0 part.toNat hp L D done B)
 have Ha1:Hid (eB l≠0→qgD l part=(0,eB l)):=YJ (fun h=>by unfold qgD;rw[if_pos h])
 have Ha2:Hid (eB l=0→(part<0∨(l.length:Int)≤part)→qgD l part=(0,6)):=YJ (fun h k=>by unfold qgD;rw[if_neg (by simpa using h),if_pos k])
 have Ha3:Hid (eB l=0→¬(part<0∨(l.length:Int)≤part)→qgD l part=if qgz l part.toNat<0 then(0,19)else(qgz l part.toNat,0)):=YJ (fun h k=>by unfold qgD;rw[if_neg (by simpa using h),if_neg k])
 have Hlt:=fun(h0:eB l=0) v=>YJ (XZ h0 v)
 have Hgl:=fun v=>YJ (WK l v)
 have HT:=YJ hT
 have HlV:Hid (∃a n c,lv= .slice a n c∧l.length=n):=YJ (by obtain⟨a,n,c,rfl,hn,_⟩:=h;exact⟨a,n,c,rfl,hn⟩)
 obtain⟨la,ln,lc,rfl,hln⟩:=HlV.out
 have Hps:=YJ (WM l)
 rw[hln]at HF HN Ha2 Ha3 Hgl Hps hf
 clear h hL hT HlV hln
 generalize qgz l part.toNat=dv at*
 generalize qgD l part=res at*
 obtain⟨ps,HP⟩:∃ps,Hid (psB l=ps):=⟨_,YJ rfl⟩
 rw[HP.out]at HSc HAl HGr HF HN Hlt Hgl Hps
 clear HP
 generalize eB l=A at*
 refine(callsIn_wide (n:=6)).1 ?_
 refine callsIn_of_wp_marks Tryz.func9 rfl trivial ?_ rfl
 simp only[Tryz.ntmps9,List.size_toArray,qdn,List.length_nil,Nat.reduceAdd,Nat.reduceSub,Array.replicate_succ,Array.replicate_zero,List.push_toArray,List.append_toArray,List.nil_append,List.cons_append]
 gi_wp2_with fail
 refine⟨trivial, ?_⟩
 refine(callsIn_wide.2 (HCk.out)).mono ?_
 rintro e w1 ⟨rfl,hb1⟩
 clear HCk
 by_cases hA:A=0
 ·subst hA
  have HSc':=fun W' h'=>YJ (HSc (by trivial) W' h').out
  have HAl':=fun sb mb pv W' k1 k3=>YJ (HAl (by trivial) sb mb pv W' k1 k3).out
  have HGr':=fun v hv sb mb m0 D pv W' hm k1 k2 k3=>YJ (HGr (by trivial) v hv sb mb m0 D pv W' hm k1 k2 k3).out
  have hl4:ln≤4:=hf (by trivial)
  have Ha2':=YJ (Ha2.out (by trivial))
  have Ha3':=YJ (Ha3.out (by trivial))
  have HF':=fun hp L D k done B hk hg a ha=>YJ (HF (by trivial) hp L D k done B hk hg a ha).out
  have HN':=fun hp L D done B=>YJ (HN (by trivial) hp L D done B).out
  have Hlt':=fun v=>YJ (Hlt (by trivial) v).out
  clear HSc HAl HGr Ha1 Ha2 Ha3 HF HN Hlt hf
  by_cases hp0:part<0
  ·have hr:=Ha2'.out (.inl hp0)
   subst hr
   clear HSc' HAl' HGr' HE Ha2' Ha3' HF' HN' Hlt' Hgl HT Hps
   gi_wp2
   exact⟨.tuple #[.int .i64 0, .int .i64 6],by simp[results,Tryz.results9,go_sem],rfl,hb1⟩
  ·by_cases hp1:part<(ln:Int)
   ·obtain⟨p,rfl⟩:∃p:Nat,part=(p:Int):=⟨part.toNat,by omega⟩
    have hpn:p<ln:=by omega
    have Hr:=YJ (Ha3'.out (by omega))
    simp only[Int.toNat_natCast]at HF' HN'
    have HF2:=fun L D k done B hk hg a ha=>YJ (HF' hpn L D k done B hk hg a ha).out
    have HN2:=fun L D done B=>YJ (HN' hpn L D done B).out
    clear Ha2' Ha3' HF' HN'
    gi_wp2_with fail
    refine⟨trivial, ?_⟩
    refine(callsIn_wide.2 ((HSc' _ hb1).out)).mono ?_
    rintro e w2 ⟨sb,mb,pv,rfl,hb2,hS2,hM2,hmb,hsb,hne,hP2⟩
    have hw2:=fB hb1 hb2
    have hmz:mb<w2.heap.size:=by
     obtain⟨es,ck,h,_⟩:=hM2
     exact(alsl.1 h).1
    have hsm:sb≠mb:=fun e=>hne e.symm
    have hsz:=ah hS2
    obtain⟨FU,HFU⟩:∃FU:Nat,Hid (2 ^ ln-1=FU):=⟨_,YJ rfl⟩
    have hFL:FU+1=2 ^ ln:=by
     have:=HFU.out
     have:=Nat.two_pow_pos ln
     omega
    have hFU0:FU≠0:=by
     have h1:2 ^ 1≤2 ^ ln:=Nat.pow_le_pow_right (by decide) (by omega)
     omega
    have hFU:FU<16:=by
     have:=qhP hl4
     have:=HFU.out
     have:=Nat.two_pow_pos ln
     omega
    have HAw:=fun W' k1 k3=>YJ (show Calls Tryz.prog 39 #[.pointer (some ⟨sb,0,none⟩)] W' (fun e w'=>e= .returned (.int .u64 ((FU:Nat):Int))∧w'=W')from by
     have:=(HAl' sb mb pv W' k1 k3).out
     rwa [Hps.out,HFU.out]at this)
    rw[HFU.out]at HF2 HN2
    clear HSc' HAl'
    obtain⟨V0,HV0⟩:∃V0,Hid (w2.alloc (.cells #[.pointer (some ⟨sb,0,none⟩)] 81)=V0):=⟨_,YJ rfl⟩
    have hV0:Below w2.heap.size w2 V0:=by rw[←HV0.out];exact bel
    have h70:V0.heap[w2.heap.size]? =some (.cells #[.pointer (some ⟨sb,0,none⟩)] 81 (0,0)):=by rw[←HV0.out];exact ai rfl
    have hs0:V0.heap.size=w2.heap.size+1:=by rw[←HV0.out];simp
    obtain⟨V1,HV1⟩:∃V1,Hid (V0.alloc (.map #[] 0)=V1):=⟨_,YJ rfl⟩
    have hV1:Below V0.heap.size V0 V1:=by rw[←HV1.out];exact bel
    have hM0:OwD V1 V0.heap.size 0 (fun _=>none):=by rw[←HV1.out];exact OwD.made V0
    obtain⟨w5,hrun,hO5,hg5⟩:=hM0.put (by unfold maxLen;omega) (x:=FU) (d:=0) (by omega) (by omega)
    have hb01:=fB hV0 hV1
    have HA1:=YJ (HAw V1 ((hb01.block _ hsz).trans hS2) (PtsV.below hP2 hb01)).out
    have hmm:= @run_makeMap Tryz.prog
    have c7:=(bq h70 0).trans (rfl:_=some (Value.pointer (some ⟨sb,0,none⟩)))
    have c71:=ab hV1 c7
    have z71:=qaC V1 _ c71
    simp only at z71
    gi_wp2_with fail
    try rw[HV0.out]
    try rw[HV1.out]
    refine⟨trivial, ?_⟩
    refine(callsIn_wide.2 (HA1.out)).mono ?_
    rintro e V ⟨rfl,rfl⟩
    clear HA1
    rw[hs0]at hrun hO5 hg5
    simp only[Int.natCast_zero,Int.cast_ofNat_Int]at hrun
    have hV5:Below V0.heap.size V0 w5:=hV1.grown hg5 (by have:=hV1.size;omega) (fun k e=>by injection e;omega)
    have hb5:=fB hV0 hV5
    have h75:=(hV5.block _ (by omega)).trans h70
    have c75:=(bq h75 0).trans (rfl:_=some (Value.pointer (some ⟨sb,0,none⟩)))
    have z75:=ah h75
    obtain⟨Z1,HZ1⟩:∃Z1,Hid (w5.alloc (.cells #[.map (some (w2.heap.size+1))] 86)=Z1):=⟨_,YJ rfl⟩
    have hZ1:Below w5.heap.size w5 Z1:=by rw[←HZ1.out];exact bel
    have h80:Z1.heap[w5.heap.size]? =some (.cells #[.map (some (w2.heap.size+1))] 86 (0,0)):=by rw[←HZ1.out];exact ai rfl
    have hbz:=fB hb5 hZ1
    have HA2:=YJ (HAw Z1 ((hbz.block _ hsz).trans hS2) (PtsV.below hP2 hbz)).out
    gi_wp2_with fail
    try rw[HZ1.out]
    refine⟨trivial, ?_⟩
    refine(callsIn_wide.2 (HA2.out)).mono ?_
    rintro e Z ⟨rfl,rfl⟩
    gi_wp2_with fail
    have hle5:=hb5.size
    have hle6:=hV5.size
    have hleZ:=hbz.size
    have hw5z:w5.heap.size<Z.heap.size:=by have:=ah h80;omega
    obtain⟨Y0,HY0⟩:∃Y0,Hid (((Z.alloc (.cells #[.int .u64 FU] 84)).alloc (.cells #[.slice (some ⟨Z.heap.size,0,none⟩) 1 1] 87))=Y0):=⟨_,YJ rfl⟩
    have hZY:Below Z.heap.size Z Y0:=by rw[←HY0.out];exact bel
    have hbY:=fB hbz hZY
    have hOU:OwU Y0 w2.heap.size (.slice (some ⟨Z.heap.size,0,none⟩) 1 1) (([FU].drop 0).map uV):=by rw[←HY0.out];exact(OwU.made hleZ).below bel
    have h90:Y0.heap[Z.heap.size+1]? =some (.cells #[.slice (some ⟨Z.heap.size,0,none⟩) 1 1] 87 (0,0)):=by rw[←HY0.out];exact ai (by simp)
    have hS0:DpS ps sb mb (w2.heap.size+1) w5.heap.size (Z.heap.size+1) w2 (1000*0) [FU].length (.slice (some ⟨Z.heap.size,0,none⟩) 1 1) (([FU].drop 0).map uV) (fun x=>if x=FU then some 0 else none) Y0:=
     {bm:= .of_below (by omega) hbY
      c7:=(hZY.block _ (by omega)).trans ((hZ1.block _ (by omega)).trans h75)
      c8:=(hZY.block _ hw5z).trans h80
      c9:=h90
      od:=((hO5.below hZ1).below hZY)
      ou:=hOU
      ms:=⟨0, .map [],Z.heap.size,by omega,rfl,(Yv hM2).kept hbY,MapAv.nil _⟩
      hmb:=hmz
      hdb:=by omega
      h8:=by omega
      h9:=by omega}
    rw[HY0.out]
    have HTX:=fun X (hb:ButM mb w2 X)=>YJ (show TabAt 3 Lib.deBruijn64tab X from(hb.ck hM2).tab ((CK.of_below hw2).tab HT.out))
    have HPX:=fun X (hb:ButM mb w2 X)=>YJ (show PtsV X pv ps from(hb.ck hM2).pts hP2)
    have HSX:=fun X (hb:ButM mb w2 X)=>YJ (show X.heap[sb]? =some (.cells #[pv, .map (some mb)] 168 (0,0))from(hb.2.2 _ hsz hsm).trans hS2)
    refine wpIn_loop_ghost_k (qiF ps (.slice la ln lc) p FU sb mb (w2.heap.size+1) w5.heap.size w2) 17 ?start ?round
    case start=>
     refine⟨[],0,Z.heap.size+1,_,[FU],_,by omega,hS0,MkOK.nil _ _,Bfs.start _ _ _, ?_, ?_⟩
     ·intro x hx
      obtain rfl:x=FU:=by simpa using hx
      exact⟨qaA _,by omega⟩
     ·unfold DpF9
      repeat apply Exists.intro
      rfl
    case round=>
     have hBW:Below mb W w2→True:=fun _=>trivial
     generalize w5.heap.size=b8 at*
     clear HY0 hZY hbY hOU h90 hS0 hle5 hle6 hleZ hw5z h75 c75 z75 HZ1 hZ1 h80 hbz HA2 hV5 hb5 hO5 hg5 hrun hV1 hV0 h70 hs0 c71 z71 c7 hmm hb01 HAw HV0 HV1 hM0 hBW
     intro n a X hI JL KL hJL hKL
     obtain⟨bs,k,b9,v,L,D,hnk,hS,hMk,hB,hL,hF⟩:=hI
     refine hF.elim ?_
     clear hF
     intro u10 u11 u12 u13 u14 u15 u16 u17 u18 u19 u20 u21 u22 u23 u24 u25 u26 u27 u28 u29 u30 u31 u32 u33 u34 u35 u36 u37 u38 u39 u40 u41 u42 u43 u44 u45 u46 u47 u48 u49 u50 u51 u52 u53 u54 u55 u56 u57 u58 u59 u60 u61 u62 u63 u64 u65 u66 u67 u68 u69 u70 u71 u72 u73 u74 u75 u76 u77 u78 u79 u80 u81 u82 u83 u84 u85 u86 u87 u88 u89 u90 u91 u92 u93 u94 u95 u96 u97 u98 u99 u100 u101 u102 e
     subst e
     have hou:=hS.ou
     obtain⟨g0,o0,cap0,cur0,rfl,hgb,hgg,hgl,hgm,hgs,hgt⟩:=hou
     have hL16:=qhY 16 L hB.nd (fun x hx=>by have:=hL x hx;omega)
     have hdl:((L.drop k).map uV).length=L.length-k:=by simp
     have Hdl:=YJ hdl
     have c9:=(bq hS.c9 0).trans (rfl:_=some (Value.slice (some ⟨g0,o0,none⟩) ((L.drop k).map uV).length cap0))
     have z9:=ah hS.c9
     rw[hdl]at c9 hgl
     clear hdl
     obtain⟨qn,Hqn⟩:∃qn,Hid (L.length-k=qn):=⟨_,YJ rfl⟩
     rw[Hqn.out]at c9 hgl
     have hqn:=Hqn.out
     by_cases hkL:k<L.length
     ·obtain⟨g,Hg⟩:∃g,Hid (L[k]? =some g):=⟨_,YJ (List.getElem?_eq_getElem hkL)⟩
      have hgL:=hL g (List.mem_of_getElem? Hg.out)
      have HkL:=YJ hkL
      have cg:=hS.ou.cells 0 (uV g) (by rw[List.getElem?_map,List.getElem?_drop,Nat.add_zero,Hg.out];rfl)
      have zg:=qaC X _ cg
      simp only at zg
      have cg':X.cell? ⟨g0,o0,none⟩=some (.int .u64 (g:Nat)):=by simpa [uV]using cg
      have t1:(0:Int)<(qn:Int):=by omega
      obtain⟨X1,HX1⟩:∃X1,Hid (X.alloc (.cells #[.int .u64 g] 84)=X1):=⟨_,YJ rfl⟩
      have hX1:Below X.heap.size X X1:=by rw[←HX1.out];exact bel
      have h10:X1.heap[X.heap.size]? =some (.cells #[uV g] 84 (0,0)):=by rw[←HX1.out];exact ai rfl
      have c10:=(bq h10 0).trans (rfl:_=some (Value.int .u64 (g:Nat)))
      have z10:=ah h10
      have hp12:p<12:=by omega
      obtain⟨P,HP2⟩:∃P:Nat,Hid (2 ^ p=P):=⟨_,YJ rfl⟩
      have HSp:=fun(g:Nat) (Y:World) (h:Y.heap[g]? =some (.cells #[.int .i64 p] 3 (0,0)))=>YJ (show Calls Tryz.prog 40 #[.slice (some ⟨g,0,none⟩) 1 1] Y (Ret Y (.int .u64 (P:Nat)))from by rw[←HP2.out];exact GK p hp12 g Y h)
      gi_wp2_with fail
      rw[HX1.out]
      refine wpIn_wide.2 ?_
      clear t1 hqn hkL cg cg' zg c9 z9
      generalize decide (0<qn)=b44
      apply aj [] [0,1,2,3] 4 [] [sv _,sv _,⟨JQ p,by first|exact Fg _⟩,sv _] (by kernel_rfl) (by kernel_rfl)
      iterate 2 ((try go_frame);refine wkQ ?_)
      try go_frame
      refine wkU (fun u hR K hK=> ?_) (fun o2=> ?_)
      ·clear hR
       go_simp
       exact hK _ _ bel ⟨_,rfl,ai rfl⟩
      try go_frame
      refine wkR ?_
      apply ex3
      ·intro u hR K hK
       have h2:(JQ p) o2 u.val:=hr hR 2
       clear hR
       obtain⟨g9,rfl,hg9⟩:=h2
       go_simp
       refine((HSp _ _ hg9).out).mono ?_
       rintro e w9 ⟨rfl,hb9⟩
       exact hK _ hb9
      rfl
      try go_frame
      refine aI (fun u hR=> ?_)
      have hub:=u.below
      have hxu:=fB hX1 hub
      have Hu10:=(hub.block _ z10).trans h10
      have HSu:=YJ (hS.below hxu)
      have HMu:=YJ (hMk.below hxu)
      clear hR
      by_cases hgp:g=P
      ·subst hgp
       have q1:((g:Int)==(g:Int))=true:=by simp
       obtain⟨d,hd⟩:=qhH hB Hg.out
       obtain⟨hkk,hge⟩:=List.getElem?_eq_some_iff.1 Hg.out
       have hdv:=(HF2 L D k _ hB hkk (by rw[hge,HP2.out]) d (by rw[hge];exact hd)).out
       have hres:res=((d:Int),0):=by rw[Hr.out,hdv,if_neg (by omega)]
       have c8:=(bq HSu.out.c8 0).trans (rfl:_=some (Value.map (some (w2.heap.size+1))))
       have z8:=ah HSu.out.c8
       have d10:=(bq Hu10 0).trans (rfl:_=some (Value.int .u64 (g:Nat)))
       have y10:=ah Hu10
       have hlook:=HSu.out.od.look (x:=g) (by omega) hd
       clear hdv hge hkk HF2 HN2 HE
       simp only[oas]
       go_wp2
       refine NoPanic.normal ?_
       gi_wp2_with fail
       refine qgt bs _ HMu.out HSu.out.le fun w' hb'=>⟨.tuple #[.int .i64 d, .int .i64 0],by simp[results,Tryz.results9,go_sem], ?_⟩
       rw[hres]
       have hz1:=hb1.size
       exact⟨rfl,hw2.trans ((HSu.out.bm.1.trans (hb'.mono (by omega))).mono (by omega))⟩
      ·have q1:((g:Int)==(P:Int))=false:=by simpa using(by omega:¬(g:Int)=P)
       obtain⟨n0,Hn0⟩:∃n0:Nat,Hid ((g-1)&&& g=n0):=⟨_,YJ rfl⟩
       have hbit:=bits_and_u64_nat (g-1) g (by omega) (by omega)
       have hwr:IntKind.u64.wrap ((g:Int)-1)=((g-1:Nat):Int):=by
        rw[IntKind.wrap_u64]
        omega
       rw[Hn0.out]at hbit
       obtain⟨hkk,hge⟩:=List.getElem?_eq_some_iff.1 Hg.out
       obtain⟨X2,HX2⟩:∃X2,Hid (u.val.alloc (.cells #[.int .u64 n0] 84)=X2):=⟨_,YJ rfl⟩
       have hX2:Below u.val.heap.size u.val X2:=by rw[←HX2.out];exact bel
       have hng0:n0<g:=by rw[←Hn0.out];exact qii g (by omega) g (by omega) (by omega)
       have hnn0:n0&&& g=n0:=by rw[←Hn0.out];exact qij g (by omega) g (by omega)
       have hI0:DpI ps p FU sb mb (w2.heap.size+1) b8 b9 X.heap.size u.val.heap.size w2 k g n0 (1000*k+60*(16-n0)) (.slice (some ⟨g0,o0,none⟩) ((L.drop k).map uV).length cap0) L D (fun x=>n0<x) X2:=
        {s:=(HSu.out.below hX2).more (by omega)
         c10:=(hX2.block _ (ah Hu10)).trans Hu10
         c11:=by rw[←HX2.out];exact ai rfl
         n10:=fun e=>by have:=ah hgg;have e':g0=X.heap.size:=qgb e;omega
         n11:=fun e=>by have:=ah hgg;have:=hxu.size;have e':g0=u.val.heap.size:=qgb e;omega
         h10:=hS.le
         h11:=HSu.out.le
         B:=by have:=qib hB hkk hge (by omega) (by omega);rwa [Hn0.out]at this
         hL:=hL
         hk:=hkk
         hg:=Hg.out}
       have hMk2:=hMk.below (fB hxu hX2)
       simp only[oas]
       go_wp2
       refine NoPanic.normal ?_
       gi_wp2_with fail
       try rw[HX2.out]
       refine wpIn_loop_ghost_k (qiG ps (.slice la ln lc) p FU sb mb (w2.heap.size+1) b8 b9 X.heap.size w2 k g) n0 ?start2 ?round2
       case start2=>
        refine⟨bs,u.val.heap.size,_,L,D,hI0,hMk2,hng0,hnn0, ?_⟩
        unfold DpF11
        repeat apply Exists.intro
        rfl
       case round2=>
        have hgg1:0<g∧g≤FU:=⟨by omega,hgL.1⟩
        have HgP:=YJ hgp
        have hXs:=hS.le
        clear hgp hng0 hnn0 hI0 hMk2 hX2 HX2 hbit hwr Hn0 hge hkk q1 HSu HMu Hu10 hxu hub c10 z10 h10 hX1 HX1 HkL Hqn hgs hgt hgm hgl hgg hgb hL16 Hdl hS hMk hB hL Hg hgL
        clear u X1
        generalize X.heap.size=b10 at*
        intro n a Y hI JM KM hJM hKM
        obtain⟨bs,b11,v,L,D,hI,hMk,hng,hnn,hF⟩:=hI
        refine hF.elim ?_
        clear hF
        intro u12 u13 u14 u15 u16 u17 u18 u19 u20 u21 u22 u23 u24 u25 u26 u27 u28 u29 u30 u31 u32 u33 u34 u35 u36 u37 u38 u39 u40 u41 u42 u43 u44 u45 u46 u47 u48 u49 u50 u51 u52 u53 u54 u55 u56 u57 u58 u59 u60 u61 u62 u63 u64 u65 u66 u67 u68 u69 u70 u71 u72 u73 u74 u75 u76 u77 u78 u79 u80 u81 u82 u83 u84 u85 u86 u87 u88 u89 u90 u91 u92 u93 u94 u95 u96 u97 u98 u99 u100 u101 u102 e
        subst e
        have c11:=(bq hI.c11 0).trans (rfl:_=some (Value.int .u64 (n:Nat)))
        have z11:=ah hI.c11
        have hkL:=hI.hk
        by_cases hn0:n=0
        ·subst hn0
         have hou:=hI.s.ou
         obtain⟨g1,o1,cap1,cur1,rfl,hgb,hgg,hgl,hgm,hgs,hgt⟩:=hou
         have hdl:((L.drop k).map uV).length=L.length-k:=by simp
         have c9:=(bq hI.s.c9 0).trans (rfl:_=some (Value.slice (some ⟨g1,o1,none⟩) ((L.drop k).map uV).length cap1))
         have z9:=ah hI.s.c9
         rw[hdl]at c9 hgl
         obtain⟨qn,Hqn⟩:∃qn,Hid (L.length-k=qn):=⟨_,YJ rfl⟩
         rw[Hqn.out]at c9 hgl
         have hqn:=Hqn.out
         have t1:(1:Int)≤(qn:Int):=by omega
         have t2:(1:Int)≤(cap1:Int):=by omega
         have t3:1≤cap1:=by omega
         have t4:1≤qn:=by omega
         have hL16:=hI.len hFU
         have hx:(L.drop k).map uV=uV g::(L.drop (k+1)).map uV:=by
          obtain⟨_,hge⟩:=List.getElem?_eq_some_iff.1 hI.hg
          rw[List.drop_eq_getElem_cons hkL,List.map_cons,hge]
         have hou:=hI.s.ou
         rw[hdl,Hqn.out,hx]at hou
         gi_wp2_with fail
         ·rename_i hcap
          obtain rfl:cap1=1:=by omega
          refine Handed.intro (16-k) (by omega) (hJL _ _ _ ⟨bs,k+1,Y.heap.size,_,L,D,by omega,(hI.s.tail bel hI.s.le (ai rfl) ((hou.done).1.below bel) rfl).more (by omega),hMk.below bel,qhM hI.B hI.hg (by omega) (by rw[HP2.out];exact HgP.out),hI.hL, ?_⟩)
          unfold DpF9
          repeat apply Exists.intro
          rfl
         ·rename_i hcap
          refine Handed.intro (16-k) (by omega) (hJL _ _ _ ⟨bs,k+1,Y.heap.size,_,L,D,by omega,(hI.s.tail bel hI.s.le (ai rfl) ((hou.tail (by omega)).below bel) rfl).more (by omega),hMk.below bel,qhM hI.B hI.hg (by omega) (by rw[HP2.out];exact HgP.out),hI.hL, ?_⟩)
          unfold DpF9
          repeat apply Exists.intro
          rfl
        ·have hn1:¬(n:Int)=0:=by omega
         obtain⟨n1,Hn1⟩:∃n1:Nat,Hid ((n-1)&&& g=n1):=⟨_,YJ rfl⟩
         have hbit:=bits_and_u64_nat (n-1) g (by omega) (by omega)
         have hwr:IntKind.u64.wrap ((n:Int)-1)=((n-1:Nat):Int):=by
          rw[IntKind.wrap_u64]
          omega
         rw[Hn1.out]at hbit
         have hn1n:n1<n:=by rw[←Hn1.out];exact qii n (by omega) g (by omega) hn0
         have hn1g:n1<g:=by omega
         have hn1a:n1&&& g=n1:=by rw[←Hn1.out];exact qij n (by omega) g (by omega)
         have HKn:=YJ (fun h=>qhF hI.B hI.hg (by omega) (by omega) hnn h)
         rw[Hn1.out]at HKn
         have c8:=(bq hI.s.c8 0).trans (rfl:_=some (Value.map (some (w2.heap.size+1))))
         have z8:=ah hI.s.c8
         obtain⟨dv0,hhas⟩:=hI.s.od.has (x:=n) (by omega)
         obtain⟨kn,Hkn⟩:∃kn,Hid ((D n).isSome=kn):=⟨_,YJ rfl⟩
         rw[Hkn.out]at hhas
         cases kn with
         |true=>
          have HB:=YJ (HKn.out (.inl (Option.isSome_iff_exists.1 Hkn.out)))
          gi_wp2_with fail
          refine wpIn_wide.2 ?_
          clear hhas c8 z8 c11 z11 hn1 hbit hwr
          refine wqf fun u=> ?_
          have hbit:=bits_and_u64_nat (n-1) g (by omega) (by omega)
          have hwr:IntKind.u64.wrap ((n:Int)-1)=((n-1:Nat):Int):=by
           rw[IntKind.wrap_u64]
           omega
          rw[Hn1.out]at hbit
          have HI3:=YJ (hI.below u.below)
          have HM3:=YJ (hMk.below u.below)
          have hI3:=HI3.out
          have c10:=(bq hI3.c10 0).trans (rfl:_=some (Value.int .u64 (g:Nat)))
          have z10:=ah hI3.c10
          have c11:=(bq hI3.c11 0).trans (rfl:_=some (Value.int .u64 (n:Nat)))
          have z11:=ah hI3.c11
          gi_wp2_with fail
          refine Handed.intro n1 hn1n (hJM _ _ _ ⟨_,u.val.heap.size,_,_,_,hI3.next bel (by omega) (qaA _) (ai rfl) HB.out,HM3.out.below bel,hn1g,hn1a, ?_⟩)
          unfold DpF11
          repeat apply Exists.intro
          rfl
         |false=>
          have hDn:D n=none:=by
           have h:=Hkn.out
           cases hd:D n with
           |none=>rfl
           |some d=>rw[hd]at h;cases h
          have HDn:=YJ hDn
          have hand:=bits_and_u64_nat n P (by omega) (by have:=HP2.out;have:2 ^ p<2 ^ 4:=Nat.pow_lt_pow_right (by decide) (by omega);omega)
          have Hbt:=YJ (qir n (by omega) p (by omega))
          rw[HP2.out]at Hbt
          obtain⟨A,HA⟩:∃A,Hid (n&&& P=A):=⟨_,YJ rfl⟩
          rw[HA.out]at Hbt hand
          by_cases hA0:A=0
          ·subst hA0
           have HB:=YJ (HKn.out (.inr (qiA (Hbt.out.1 rfl))))
           gi_wp2_with fail
           refine wpIn_wide.2 ?_
           clear hhas c8 z8 hn1 hbit hwr hDn
           try generalize((n:Int)!=0)=b63
           apply aj [] [0,1,2,3,4,5,6,7] 8 [] [sv _,sv _,sv _,sv _,⟨JQ p,by first|exact Fg _⟩,sv _,sv _,sv _] (by kernel_rfl) (by kernel_rfl)
           iterate 2 ((try go_frame);refine wkQ ?_)
           iterate 2 ((try go_frame);refine Ae rfl rfl (by simp) (by simp[Region.wanted,yielded]) ?_;apply ex3;(focus(intro u K hK;go_simp;exact hK _ brf));rfl)
           try go_frame
           refine Af rfl rfl (by simp) (by simp[Region.wanted,yielded]) (fun u hR K hK=> ?_) (fun o4=> ?_)
           ·clear hR
            go_simp
            exact hK _ _ bel ⟨_,rfl,ai rfl⟩
           try go_frame
           refine wkR ?_
           apply ex3
           ·intro u hR K hK
            have h4:(JQ p) o4 u.val:=hr hR 4
            clear hR
            obtain⟨g9,rfl,hg9⟩:=h4
            go_simp
            refine((HSp _ _ hg9).out).mono ?_
            rintro e w9 ⟨rfl,hb9⟩
            exact hK _ hb9
           rfl
           iterate 2 ((try go_frame);refine Ae rfl rfl (by simp) (by simp[Region.wanted,yielded]) ?_;apply ex3;(focus(intro u K hK;go_simp;exact hK _ brf));rfl)
           try go_frame
           refine aI (fun u hR=> ?_)
           have hbit:=bits_and_u64_nat (n-1) g (by omega) (by omega)
           have hwr:IntKind.u64.wrap ((n:Int)-1)=((n-1:Nat):Int):=by
            rw[IntKind.wrap_u64]
            omega
           rw[Hn1.out]at hbit
           have HI3:=YJ (hI.below u.below)
           have HM3:=YJ (hMk.below u.below)
           simp only[oas]
           go_wp2
           refine NoPanic.normal ?_
           have hI3:=HI3.out
           have c10:=(bq hI3.c10 0).trans (rfl:_=some (Value.int .u64 (g:Nat)))
           have z10:=ah hI3.c10
           have c11:=(bq hI3.c11 0).trans (rfl:_=some (Value.int .u64 (n:Nat)))
           have z11:=ah hI3.c11
           gi_wp2_with fail
           refine Handed.intro n1 hn1n (hJM _ _ _ ⟨_,u.val.heap.size,_,_,_,hI3.next bel (by omega) (qaA _) (ai rfl) HB.out,HM3.out.below bel,hn1g,hn1a, ?_⟩)
           unfold DpF11
           repeat apply Exists.intro
           rfl
          ·have hA1:¬(A:Int)=0:=by omega
           have hbt:n.testBit p=true:=by
            cases hc:n.testBit p with
            |true=>rfl
            |false=>exact absurd (Hbt.out.2 hc) hA0
           gi_wp2_with fail
           refine wpIn_wide.2 ?_
           clear hhas c8 z8 hn1 hbit hwr hDn
           try generalize((n:Int)!=0)=b63
           apply aj [] [0,1,2,3,4,5,6,7] 8 [] [sv _,sv _,sv _,sv _,⟨JQ p,by first|exact Fg _⟩,sv _,sv _,sv _] (by kernel_rfl) (by kernel_rfl)
           iterate 2 ((try go_frame);refine wkQ ?_)
           iterate 2 ((try go_frame);refine Ae rfl rfl (by simp) (by simp[Region.wanted,yielded]) ?_;apply ex3;(focus(intro u K hK;go_simp;exact hK _ brf));rfl)
           try go_frame
           refine Af rfl rfl (by simp) (by simp[Region.wanted,yielded]) (fun u hR K hK=> ?_) (fun o4=> ?_)
           ·clear hR
            go_simp
            exact hK _ _ bel ⟨_,rfl,ai rfl⟩
           try go_frame
           refine wkR ?_
           apply ex3
           ·intro u hR K hK
            have h4:(JQ p) o4 u.val:=hr hR 4
            clear hR
            obtain⟨g9,rfl,hg9⟩:=h4
            go_simp
            refine((HSp _ _ hg9).out).mono ?_
            rintro e w9 ⟨rfl,hb9⟩
            exact hK _ hb9
           rfl
           iterate 2 ((try go_frame);refine Ae rfl rfl (by simp) (by simp[Region.wanted,yielded]) ?_;apply ex3;(focus(intro u K hK;go_simp;exact hK _ brf));rfl)
           try go_frame
           refine aI (fun u hR=> ?_)
           have HI3:=YJ (hI.below u.below)
           have HM3:=YJ (hMk.below u.below)
           clear hR c11 z11 Hbt
           simp only[oas]
           go_wp2
           refine NoPanic.normal ?_
           generalize u.val=Z at*
           clear u
           clear hI hMk
           have hI:=HI3.out
           have hMk:=HM3.out
           clear HI3 HM3
           have hZw:=hI.s.le
           have hbl:∀j∈bs,j<Z.heap.size:=fun j hj=>ah (hMk.2 j hj).2
           have hdbZ:=hI.s.od.lt
           obtain⟨ag,hag⟩:=(hI.B.mem g).1 (List.mem_of_getElem? hI.hg)
           gi_wp2_with fail
           refine⟨trivial, ?_⟩
           refine(callsIn_wide.2 ((HE _).out)).mono ?_
           rintro e w9 ⟨rfl,rfl⟩
           gi_wp2
           refine wpIn_rangeFunc_ownH rfl (by omega) (gf:=91) (lb:=#[]) rfl trivial (enters_of Tryz.func91 (by kernel_rfl) rfl)
            (Dt (6-1) (by omega) mb w9) belowK_t (belowK_b (by omega)) (brf) (fun _=>rfl)
            (fun pre X=>w9.heap.size≤X.heap.size∧DpI ps p FU sb mb (w2.heap.size+1) b8 b9 b10 b11 w2 k g n (1000*k+60*(16-n)+2*pre.length) v L D (fun x=>n<x) X∧MkOK w2.heap.size bs X∧∀a∈pre,XM (eM ps a.1) g n=false)
            (fun c pre X=>c= .exit 5∧∃v',DpI ps p FU sb mb (w2.heap.size+1) b8 b9 b10 b11 w2 k g n (1000*k+60*(16-n)+54) v' (L++[n]) (fun x=>if x=n then some (ag+1)else D x) (fun x=>n1<x) X∧MkOK w2.heap.size bs X)
            (fun pre X Y row h hg hr=>⟨qaD h.1 hg.size,h.2.1.walks hg (fun j e=>⟨by have:=(hr j e).1;omega,by have:=(hr j e).1;omega,(hr j e).2⟩),h.2.2.1.own hg (fun j e=>(hr j e).1) hbl,h.2.2.2⟩)
            (fun c pre X Y row h hg hr=>by
             obtain⟨h1,v',h2,h3⟩:=h
             exact⟨h1,v',h2.walks hg (fun j e=>⟨by have:=(hr j e).1;omega,by have:=(hr j e).1;omega,(hr j e).2⟩),h3.own hg (fun j e=>(hr j e).1) hbl⟩)
            ⟨qaA _,hI,hMk,fun a h=>by cases h⟩
            (fun x a' X=>∃Bx,(w9.heap.size≤Bx∧X.heap[Bx]? =some (.cells #[.int .i64 x.1.1, .int .i64 x.1.2.1, .int .i64 x.1.2.2] 58 (0,0)))∧DpF14 (.slice la ln lc) p w2.heap.size b8 b9 b10 b11 Bx [] a')
            (fun x a' _ X Y row hs hg hr=>by obtain⟨Bx,⟨h1,h2⟩,h3⟩:=hs;exact⟨Bx,⟨h1,Ck Bx (fun(_:Unit)=>#[.int .i64 x.1.1, .int .i64 x.1.2.1, .int .i64 x.1.2.2]) 58 () X Y row h2 hg (fun r e=>(hr r e).2)⟩,h3⟩)
            ?assign ?body ?done ?stop
           case assign=>
            rintro lp pre x X K ⟨hsz,hI,hMk,hno⟩ hK
            obtain⟨⟨x0,x1,x2⟩,hx⟩:=x
            have hXle:=hI.s.le
            simp only[vW]
            gi_wp2
            have hbx:Below X.heap.size X (X.alloc (.cells #[.int .i64 x0, .int .i64 x1, .int .i64 x2] 58)):=(Below.refl _ X).alloc (qaA _) _
            refine hK _ _ (EV hbx) (hbx.mono (by omega)) ⟨qaD hsz hbx.size,hI.below hbx,hMk.below hbx,hno⟩ ⟨X.heap.size,⟨hsz,ai rfl⟩, ?_⟩
            unfold DpF14
            repeat apply Exists.intro
            rfl
           case body=>
            clear hI hMk
            rintro lp pre x a' X hLl ⟨r,hr⟩ ⟨hsz,hI,hMk,hno⟩ ⟨Bx,⟨hBx,hX⟩,hF⟩ hlt
            obtain⟨⟨x0,x1,x2⟩,hx⟩:=x
            simp only at hX
            refine hF.elim ?_
            clear hF
            intro u12 u13 u15 u16 u17 u18 u19 u20 u21 u22 u23 u24 u25 u26 u27 u28 u29 u30 u31 u32 u33 u34 u35 u36 u37 u38 u39 u40 u41 u42 u43 u44 u45 u46 u47 u48 u49 u50 u51 u52 u53 u54 u55 u56 u57 u58 u59 u60 u61 u62 u63 u64 u65 u66 u67 u68 u69 u70 u71 u72 u73 u74 u75 u76 u77 u78 u79 u80 u81 u82 u83 u84 u85 u86 u87 u88 u89 u90 u91 u92 u93 u94 u95 u96 u97 u98 u99 u100 u101 u102 e
            subst e
            obtain⟨m,Dm,rr,hmM,hvr,hMS,hMA⟩:=hI.s.ms
            have h1':1≤6-1-1:=by omega
            have hXle:=hI.s.le
            have hL16:=hI.len hFU
            have HC:=fun Y' (hb:Below X.heap.size X Y')=>YJ (show Calls Tryz.prog 42 #[.pointer (some ⟨sb,0,none⟩), .agg #[.int .i64 x0, .int .i64 x1, .int .i64 x2]] Y' (fun e w4=>∃g4,e= .returned (.slice (some ⟨g4,0,none⟩) ln ln)∧GphAt w4 g4 (eM ps (x0,x1,x2))∧ButM mb X w4∧DpI ps p FU sb mb (w2.heap.size+1) b8 b9 b10 b11 w2 k g n (1000*k+60*(16-n)+2*pre.length+2) v L D (fun x=>n<x) w4∧MkOK w2.heap.size bs w4)from by
             have hbm':ButM mb w2 Y':=hI.s.bm.trans (.of_below (by omega) hb)
             have hMS':=hMS.kept hb
             refine((HGr' (x0,x1,x2) hx sb mb m Dm pv Y' (by omega) (HSX Y' hbm').out hMS' (HPX Y' hbm').out).out).mono ?_
             rintro e w4 ⟨g4,m',D',rfl,hb4,hs4,hk4,hG4,hM4,hm4,hA4⟩
             refine⟨g4,by rw[(Hgl _).out],hG4,(ButM.of_below (by omega) hb).trans ⟨hb4,hs4,hk4⟩,(hI.below hb).graph hmM hvr hMA hb4 hs4 hk4 hM4 hm4 hA4,(hMk.below hb).keptc (qeY ⟨hb4,hs4,hk4⟩) (fun j e=> ?_)⟩
             cases e
             obtain⟨es,ck,h,_⟩:=hMS'.1
             rw[h]
             intro e
             cases e)
            obtain⟨mv,Hmv⟩:∃mv,Hid (XM (eM ps (x0,x1,x2)) g n=mv):=⟨_,YJ rfl⟩
            have HMv:=fun(g4:Nat) (Y':World) (hG:GphAt Y' g4 (eM ps (x0,x1,x2))) (hb:ButM mb w2 Y')=>YJ (show Calls Tryz.prog 43 #[.slice (some ⟨g4,0,none⟩) ln ln, .int .u64 (n:Nat), .int .u64 (g:Nat)] Y' (Ret Y' (.bool mv))from by
             have h:=Yk (eM ps (x0,x1,x2)) n g g4 ln Y' (Hlt' _).out (by rw[(Hgl _).out];omega) (by rw[(Hgl _).out, ←hFL];omega) (by omega) (by rw[(Hgl _).out];exact qaA _) hG (HTX Y' hb).out
             rw[(Hgl _).out,Hmv.out]at h
             exact h)
            have c7:=(bq hI.s.c7 0).trans (rfl:_=some (Value.pointer (some ⟨sb,0,none⟩)))
            have z7:=ah hI.s.c7
            have c10:=(bq hI.c10 0).trans (rfl:_=some (Value.int .u64 (g:Nat)))
            have z10:=ah hI.c10
            have c11:=(bq hI.c11 0).trans (rfl:_=some (Value.int .u64 (n:Nat)))
            have z11:=ah hI.c11
            obtain⟨xc0,xc1,xc2,xf,xz⟩:=NO hX
            have hmx:Tryz.prog.follows .mixedOrders=true:=by kernel_rfl
            clear HSX HPX HTX HGr' hMS hMA hvr hmM Hgl Hlt' HF2 HN2 HE HSp hand
            gi_wp2
            refine qet hmx (by kernel_rfl) ?_
            apply qeE [3,4] [0,1,3,4] 2 [] 5 [] [sv _,sv _,sv undef,sv _,sv _] (fun w'=>w'.cell? ⟨b10,0,none⟩=some (.int .u64 (g:Nat))∧w'.cell? ⟨b11,0,none⟩=some (.int .u64 (n:Nat))) (by kernel_rfl) (by kernel_rfl) (fun u=>⟨ab u.below c10,ab u.below c11⟩)
            ·(try go_frame)
             refine du rfl rfl ?_
             apply Exists.intro
             apply And.intro
             ·intro w9 h9
              obtain⟨k1,k2⟩:=h9
              go_simp
              first|rfl|(simp only[h9];rfl)
             refine⟨rfl, ?_⟩
             (try go_frame)
             refine du rfl rfl ?_
             apply Exists.intro
             apply And.intro
             ·intro w9 h9
              obtain⟨k1,k2⟩:=h9
              go_simp
              first|rfl|(simp only[h9];rfl)
             refine⟨rfl, ?_⟩
             exact gR
            iterate 4 ((try go_frame);refine wkQ ?_)
            try go_frame
            refine aI (fun u hR=> ?_)
            have HCu:=YJ (HC u.val u.below).out
            simp only[oas]
            go_wp2_with fail
            refine(HCu.out).mono ?_
            rintro e w4 ⟨g4,rfl,hG4,hbm4,hI4,hM4⟩
            have d10:=(bq hI4.c10 0).trans (rfl:_=some (Value.int .u64 (g:Nat)))
            have y10:=ah hI4.c10
            have d11:=(bq hI4.c11 0).trans (rfl:_=some (Value.int .u64 (n:Nat)))
            have y11:=ah hI4.c11
            have HMu:=YJ (HMv g4 w4 hG4 hI4.s.bm).out
            go_wp2_with fail
            refine⟨⟨d10,d11⟩, ?_⟩
            simp only[oas]
            go_wp2_with fail
            refine(HMu.out).mono ?_
            rintro e w7 ⟨rfl,hb47⟩
            go_wp2_with fail
            refine NoPanic.normal ?_
            refine OnlyN.normal ?_
            have hbm7:ButM mb X w7:=hbm4.trans (.of_below (by have:=hI4.s.le;omega) hb47)
            have hI7:=hI4.below hb47
            have hM7:=hM4.below hb47
            have hK7:KeepsFrom w9.heap.size X w7:=hbm7.keeps (by omega)
            have hs7:=hbm7.2.1
            clear hR HC HMv c7 z7 c10 z10 c11 z11 xc0 xc1 xc2 xf xz d10 y10 d11 y11 hI hMk hI4 hM4 hG4 hbm4 hb47
            cases mv with
            |false=>
             gi_wp2
             refine⟨hK7,hbm7.1,by omega,hI7.more (by simp;omega),hM7,fun a ha=> ?_⟩
             rcases altl.1 ha with ha|ha
             ·exact hno a ha
             ·obtain rfl:a=⟨(x0,x1,x2),hx⟩:=by simpa using ha
              exact Hmv.out
            |true=>
             have Hhit:=qis hI7.B hI7.hg (by omega) (by omega) hnn hag HDn.out (qiD (by omega) (by omega) hnn hng hbt ⟨(x0,x1,x2),hx,Hmv.out⟩)
             rw[Hn1.out]at Hhit
             have hagl:=hI7.B.dl g ag hag
             have hlook:=hI7.s.od.look (x:=g) (by omega) hag
             obtain⟨w8,hput,hO8,hg8⟩:=hI7.s.od.put (by unfold maxLen;omega) (x:=n) (d:=ag+1) (by omega) (by omega)
             rw[show((ag+1:Nat):Int)=(ag:Int)+1 from by omega]at hput
             have hwa:IntKind.i64.wrap ((ag:Int)+1)=(ag:Int)+1:=IntWalk.i64_in _ (by omega)
             have hs8:=hI7.s.put hg8 hO8
             have hdb7:=hI7.s.od.obj
             have h118:w8.heap[b11]? =some (.cells #[uV n] 84 (0,0)):=(hg8.block _ (ah hI7.c11) (fun e=>by obtain⟨o,ho,hc⟩:=hdb7;exact Hj hI7.c11 ho hc (qgb e))).trans hI7.c11
             obtain⟨X2,HX2⟩:∃X2,Hid (w8.alloc (.cells #[.int .u64 n] 84)=X2):=⟨_,YJ rfl⟩
             have hX2:Below w8.heap.size w8 X2:=by rw[←HX2.out];exact bel
             have h80:X2.heap[w8.heap.size]? =some (.cells #[uV n] 84 (0,0)):=by rw[←HX2.out];exact ai rfl
             obtain⟨i9,hi9,hz0,hz1,hz2⟩:=info_parts JP
             obtain⟨v',w9',hpush,hou9,hg9,hv9⟩:=(hs8.below hX2).ou.push hi9 hz0 hz1 hz2 rfl (by kernel_rfl) 87 (a:=⟨w8.heap.size,0,none⟩) (c:=1) (x:= .int .u64 (n:Nat)) ((bq h80 0).trans rfl) rfl (by rw[qdo,List.length_drop];omega) (hs8.below hX2).le
             have hsl:∃a n c,v'= .slice a n c:=by
              obtain⟨g9,o9,cap9,cur9,e9,_⟩:=hou9
              exact⟨_,_,_,e9⟩
             have k9:w9'.heap[b9]? =some (.cells #[v] 87 (0,0)):=(hg9.block _ (ah (hs8.below hX2).c9) (fun e=>by
              obtain⟨cs,r,e1,_,e2⟩:=(hs8.below hX2).mrow
              rw[e1]at e
              exact qhi e2 (hs8.below hX2).c9 (by decide) (qgb e).symm)).trans (hs8.below hX2).c9
             have HEnd:Hid (KeepsFrom w9.heap.size X (w9'.setCell ⟨b9,0,none⟩ v')∧DpI ps p FU sb mb (w2.heap.size+1) b8 b9 b10 b11 w2 k g n (1000*k+60*(16-n)+54) v' (L++[n]) (fun x=>if x=n then some (ag+1)else D x) (fun x=>n1<x) (w9'.setCell ⟨b9,0,none⟩ v')∧MkOK w2.heap.size bs (w9'.setCell ⟨b9,0,none⟩ v')):=YJ ⟨pm (((hK7.trans (KeepsFrom.of_grownBy hg8 (fun j e=>by cases e;omega))).trans (EV hX2)).trans ((KeepsOthers.of_grownBy hg9 (fun j o e ho=>by
               obtain⟨cs,r,e1,_,e2⟩:=(hs8.below hX2).mrow
               rw[e1]at e
               cases e
               rw[e2]at ho
               cases ho
               rfl)).from _)) _ _,(hI7.hit hg8 hO8 hX2 hg9 hou9 hv9 Hhit ⟨by omega,hn0⟩).more (by omega),((((hM7.keptc hg8 (fun j e=>by cases e;exact hI7.s.od.not_mark)).below hX2).keptc hg9 (fun j e=>by
               obtain⟨cs,r,e1,_,e2⟩:=(hs8.below hX2).mrow
               rw[e1]at e
               cases e
               exact qgy e2)).keptc (qhB w9' b9 0 v') (fun j e=>by cases e;exact qgy k9))⟩
             have c8:=(bq hI7.s.c8 0).trans (rfl:_=some (Value.map (some (w2.heap.size+1))))
             have z8:=ah hI7.s.c8
             have c10:=(bq hI7.c10 0).trans (rfl:_=some (Value.int .u64 (g:Nat)))
             have z10:=ah hI7.c10
             have c11:=(bq hI7.c11 0).trans (rfl:_=some (Value.int .u64 (n:Nat)))
             have z11:=ah hI7.c11
             have d11:=(bq h118 0).trans (rfl:_=some (Value.int .u64 (n:Nat)))
             have y11:=ah h118
             have d9:=(bq hs8.c9 0).trans (rfl:_=some v)
             have y9:=ah hs8.c9
             have e9:=(bq k9 0).trans (rfl:_=some v)
             have f9:=aC k9 0
             have x9:=ah k9
             clear hi9 hz0 hz1 hz2 hv9 hg9 hou9 hO8 hg8 hs8 hI7 hM7 Hhit
             rw[←HX2.out]at hpush
             obtain⟨va,vn,vc,rfl⟩:=hsl
             gi_wp2_with fail
             exact⟨HEnd.out.1,rfl,_,HEnd.out.2.1,HEnd.out.2.2⟩
           case done=>
            clear hI hMk
            rintro Dd ys X hD hys ⟨hsz,hI,hMk,hno⟩ hKd
            have hyl:ys.length=26:=by
             have:=congrArg List.length hys
             rw[qdo]at this
             rw[this]
             decide
            have Hno:∀v∈ways26,XM (eM ps v) g n=false:=fun v hv=>by
             rw[←hys]at hv
             obtain⟨a,ha,rfl⟩:=altt.1 hv
             exact hno a ha
            have hB3:=qhF hI.B hI.hg (by omega) (by omega) hnn (.inr (qiE Hno))
            rw[Hn1.out]at hB3
            have HB:=YJ hB3
            have HM3:=YJ (hMk.add hKd (by omega) (fun j hj=>by have:=hbl j hj;omega))
            have HI3:=YJ (hI.more (M':=1000*k+60*(16-n)+54) (by omega))
            clear hno Hno hys hyl
            have hbit:=bits_and_u64_nat (n-1) g (by omega) (by omega)
            have hwr:IntKind.u64.wrap ((n:Int)-1)=((n-1:Nat):Int):=by
             rw[IntKind.wrap_u64]
             omega
            rw[Hn1.out]at hbit
            have hI3:=HI3.out
            have c10:=(bq hI3.c10 0).trans (rfl:_=some (Value.int .u64 (g:Nat)))
            have z10:=ah hI3.c10
            have c11:=(bq hI3.c11 0).trans (rfl:_=some (Value.int .u64 (n:Nat)))
            have z11:=ah hI3.c11
            gi_wp2_with fail
            refine Handed.intro n1 hn1n (hJM _ _ _ ⟨_,X.heap.size,_,_,_,hI3.next bel (by omega) (qaA _) (ai rfl) HB.out,HM3.out.below bel,hn1g,hn1a, ?_⟩)
            unfold DpF11
            repeat apply Exists.intro
            rfl
           case stop=>
            clear hI hMk
            rintro Dd c' pre X hD hsp ⟨rfl,v',hI,hMk⟩ hKd
            have HB:=YJ hI.B
            have HM3:=YJ (hMk.add hKd (by omega) (fun j hj=>by have:=hbl j hj;omega))
            have HI3:=YJ hI
            have hbit:=bits_and_u64_nat (n-1) g (by omega) (by omega)
            have hwr:IntKind.u64.wrap ((n:Int)-1)=((n-1:Nat):Int):=by
             rw[IntKind.wrap_u64]
             omega
            rw[Hn1.out]at hbit
            have hI3:=HI3.out
            have c10:=(bq hI3.c10 0).trans (rfl:_=some (Value.int .u64 (g:Nat)))
            have z10:=ah hI3.c10
            have c11:=(bq hI3.c11 0).trans (rfl:_=some (Value.int .u64 (n:Nat)))
            have z11:=ah hI3.c11
            gi_wp2_with fail
            refine Handed.intro n1 hn1n (hJM _ _ _ ⟨_,X.heap.size,_,_,_,hI3.next bel (by omega) (qaA _) (ai rfl) HB.out,HM3.out.below bel,hn1g,hn1a, ?_⟩)
            unfold DpF11
            repeat apply Exists.intro
            rfl
     ·have hkk:=hB.kl
      obtain rfl:k=L.length:=by omega
      have hdv:=(HN2 L D _ hB).out
      have hres:res=(0,19):=by rw[Hr.out,hdv];rfl
      have hq0:qn=0:=by have:=Hqn.out;omega
      subst hq0
      clear HF2 HN2 HE HTX HPX HSX HGr' hdv
      gi_wp2_with fail
      refine qgt bs _ hMk hS.le fun w' hb'=>⟨.tuple #[.int .i64 0, .int .i64 19],by simp[results,Tryz.results9,go_sem], ?_⟩
      have hz1:=hb1.size
      rw[hres]
      exact⟨rfl,hw2.trans ((hS.bm.1.trans (hb'.mono (by omega))).mono (by omega))⟩
   ·have hr:=Ha2'.out (.inr (by omega))
    subst hr
    clear HSc' HAl' HGr' HE Ha2' Ha3' HF' HN' Hlt' Hgl HT Hps
    gi_wp2
    exact⟨.tuple #[.int .i64 0, .int .i64 6],by simp[results,Tryz.results9,go_sem],rfl,hb1⟩
 ·have hA':(A !=0)=true:=by simpa using hA
  have hr:=Ha1.out hA
  subst hr
  clear HSc HAl HGr HE Ha1 Ha2 Ha3 HF HN Hlt Hgl HT Hps
  gi_wp2
  exact⟨.tuple #[.int .i64 0, .int .i64 A],by simp[results,Tryz.results9,go_sem],rfl,hb1⟩
end
section
open Go.RowKit Go.Shelf Go.Lib
attribute [local go_sem] Ext.cell Ext.frozen
abbrev RSp:=Value×Value×Spl
def OwnR (w:World) (r:RSp):Prop:=w.ownsRow 0 3 1 r.1 r.2.2.1.length (r.2.2.1.map (Value.int .i64))∧w.ownsRow 0 3 1 r.2.1 r.2.2.2.1.length (r.2.2.2.1.map (Value.int .i64))
theorem OwnR.below {w w':World} {r:RSp} (h:OwnR w r) (hb:Below w.heap.size w w'):OwnR w' r:=⟨au h.1 hb,au h.2 hb⟩
theorem OwnR.kept {w w':World} {r:RSp} {row:Option Nat} (h:OwnR w r) (hg:w.grownBy w' row) (hr:∀g,row=some g→∃cs,w.heap[g]? =some (.cells cs 60 (0,0))):OwnR w' r:=by
 have key:∀g cs,row=some g→w.heap[g]? =some cs→∃c t,cs= .cells c t (0,0)∧t≠3:=fun g cs e k=>by
  obtain⟨c,hc⟩:=hr g e
  rw[hc]at k
  exact⟨c,_,(qgb k).symm,by decide⟩
 exact⟨Qu h.1 hg key,Qu h.2 hg key⟩
theorem qbS {mb m:Nat} {D:DataW Value} {w w':World} {B:Nat} {e:TypeId} {size n:Nat} {v:Value} {xs:List Value} (h:w.ownsRow B e size v n xs) (hb:ButM mb w w') (hm:OwM w mb m D):w'.ownsRow B e size v n xs:=
 h.kept (row:=some mb) ⟨hb.1.os,hb.1.tape,hb.1.output,hb.2.1,fun k hk hn=>hb.2.2 k hk (fun e=>hn (by rw[e]))⟩ (.inr (fun e=>by
  rcases h.2 with⟨h0,_⟩|⟨g,cap,cur,h0,_,hgb,_⟩
  ·rw[h0]at e;simp[Value.ownBlock]at e
  ·rw[h0]at e
   have:g=mb:=by simpa [Value.ownBlock]using e
   exact rt hm hgb this))
theorem OwnR.butm {mb m:Nat} {D:DataW Value} {w w':World} {r:RSp} (h:OwnR w r) (hb:ButM mb w w') (hm:OwM w mb m D):OwnR w' r:=⟨qbS h.1 hb hm,qbS h.2 hb hm⟩
def GrpQ (W w:World) (v:Value) (g:List Int):Prop:=Ints W v g∨w.ownsRow W.heap.size 3 1 v g.length (g.map (Value.int .i64))
theorem GrpQ.ints {W w:World} {v:Value} {g:List Int} (h:GrpQ W w v g) (hb:Below W.heap.size W w):Ints w v g:=h.elim (fun h=>h.below hb) (fun h=>jy h)
theorem GrpQ.below {W w w':World} {v:Value} {g:List Int} (h:GrpQ W w v g) (hb:Below w.heap.size w w'):GrpQ W w' v g:=h.imp id (fun h=>au h hb)
theorem GrpQ.kept {W w w':World} {v:Value} {g:List Int} {row:Option Nat} {T:TypeId} (hT:T≠3) (h:GrpQ W w v g) (hg:w.grownBy w' row) (hne:∀g cs,row=some g→w.heap[g]? =some cs→∃c t,cs= .cells c t (0,0)∧t=T):GrpQ W w' v g:=
 h.imp id (fun h=>Qu h hg (fun g cs k1 k2=>by obtain⟨c,t,h3,h4⟩:=hne g cs k1 k2;exact⟨c,t,h3,by rw[h4];exact hT⟩))
theorem RowsP.set {α:Type} {P:Value→α→Prop} {vs:List Value} {l:List α} {v:Value} {s:α} (h:RowsP P vs l) (hv:P v s) (k:Nat):RowsP P (vs.set k v) (l.set k s):=by
 refine⟨by simp[h.1],fun i h1 h2=> ?_⟩
 rw[List.getElem_set,List.getElem_set]
 split
 ·exact hv
 ·exact h.2 i (by simpa using h1) (by simpa using h2)
end
section
open Go.RowKit Go.Shelf Go.Lib
set_option maxRecDepth 100000
attribute [local go_sem] Ext.cell Ext.frozen
theorem qiH {l:List (List (List Q4))} (hf:Ow l=true) (h:eB l=0):l.length≤4:=by
 have h12:=(sq h).1
 unfold Ow Qi at hf
 simp only[qgf,qaF,qfV]at hf
 omega
theorem qiu (l:List (List (List Q4))) (part:Int) {n:Nat} (hn:l.length=n):(eB l≠0→qgD l part=(0,eB l))∧(eB l=0→(part<0∨(n:Int)≤part)→qgD l part=(0,6))∧(eB l=0→∀p:Nat,part=p→p<n→qgz l p<0→qgD l part=(0,19))∧(eB l=0→∀p:Nat,part=p→p<n→¬qgz l p<0→qgD l part=(qgz l p,0)∧qgz l p<n):=by
 subst hn
 unfold qgD
 refine⟨fun h=>by rw[if_pos h],fun h k=>by rw[if_neg (by simpa using h),if_pos k],fun h p e hp k=> ?_,fun h p e hp k=> ?_⟩
 ·subst e
  rw[if_neg (by simpa using h),if_neg (by omega),Int.toNat_natCast,if_pos k]
 ·subst e
  rw[if_neg (by simpa using h),if_neg (by omega),Int.toNat_natCast,if_neg k]
  exact⟨rfl,qip hp⟩
theorem qgA (l:List (List (List Q4))) (lv:Value) (part:Int) (W:World) (hl:l.length≤maxLen) (hL:∀s∈l,s.length≤maxLen∧∀c∈s,c.length≤maxLen) (h:SolsV W lv l) (_:(Lit.int .i64 part).wf=true) (ht:Lib.TabIs Tryz.prog W "internal/strconv.uint64pow10" .u64 Lib.pow10Tab∧TabAt 3 Lib.deBruijn64tab W):
  Calls Tryz.prog 3 #[lv, .int .i64 part] W (Ret W (.bool true)):=by
 have HA:=YJ (Gv W ht.1 ht.2)
 have HF:=fun W' (hb:Below W.heap.size W W')=>YJ (QD l lv W' hl (fun s hs=>(hL s hs).1) (SolsV.below h hb))
 have HC:=fun(hf:Ow l=true) W' (hb:Below W.heap.size W W')=>YJ (Py l lv W' (qaD (Ol hf).1 (by decide)) (fun s hs=>⟨qaD ((Ol hf).2 s hs).1 (by decide),fun c hc=>qaD (((Ol hf).2 s hs).2 c hc) (by decide)⟩) (SolsV.below h hb))
 have HM:=fun(hf:Ow l=true) v W' (hb:Below W.heap.size W W') (hv:SolsV W' v l)=>YJ (qid l part v W' (fun s hs c hc=>qaD (((Ol hf).2 s hs).2 c hc) (by decide)) hv (nz ht.2 hb) (qiH hf))
 have HR:=fun(hf:Ow l=true) W' (hb:Below W.heap.size W W')=>YJ (PP l lv W' (fun s hs c hc=>qaD (((Ol hf).2 s hs).2 c hc) (by decide)) (SolsV.below h hb))
 rw[←QG]at HR
 have HGs:=fun(hf:Ow l=true) (h0:eB l=0) W' (hb:Below W.heap.size W W')=>YJ (Vw l lv W' (qaD (Ol hf).1 (by decide)) (We hf h0) (SolsV.below h hb))
 have HAl:=fun(hf:Ow l=true) W'=>YJ (Yo l.length W' (qaD (Ol hf).1 (by decide)))
 have HDp:=fun(hf:Ow l=true) (h0:eB l=0) (p:Nat) (hp:p<l.length) gv pv W' (k1:GsV W' gv (Uh l)) (k2:NatV W' pv (List.range l.length))=>YJ (show Calls Tryz.prog 13 #[gv,pv, .int .i64 p] W' (Ret W' (.int .i64 (qgz l p)))from
  qhC l p (qaD (sq h0).1 (by decide)) l.length (List.range l.length) gv pv W' (by rw[qdA];exact qiH hf h0) (by rw[qdA];exact qaA _) (ultv.2 hp) (fun y hy=>by simpa using hy) k1 k2)
 have Hlv:Hid (∃a n c,lv= .slice a n c∧l.length=n):=YJ (by obtain⟨a,n,c,rfl,hn,_⟩:=h;exact⟨a,n,c,rfl,hn⟩)
 obtain⟨la,ln,lc,rfl,hln⟩:=Hlv.out
 obtain⟨i1,i2,i3,i4⟩:=qiu l part hln
 have H1:=YJ i1
 have H2:=YJ i2
 have H3:=YJ i3
 have H4:=YJ i4
 have H15:Hid (Ow l=true→ln≤15):=YJ (fun hf=>by rw[←hln];exact(Ol hf).1)
 rw[hln]at HAl HDp
 clear h hl hL ht Hlv hln i1 i2 i3 i4
 obtain⟨dA,HdA⟩:∃dA,Hid (qgD l part=dA):=⟨_,YJ rfl⟩
 rw[HdA.out]at H1 H2 H3 H4 HM
 clear HdA
 generalize qgz l=dV at*
 generalize Ow l=fl at*
 generalize eB l=ae at*
 go_enter Tryz.func3,Tryz.ntmps3
 go_wp2_with fail
 refine(HA.out).mono ?_
 rintro e w1 ⟨rfl,hb1⟩
 clear HA
 go_wp2_with fail
 refine((HF _ hb1).out).mono ?_
 rintro e w2 ⟨rfl,hb2⟩
 have hw2:=fB hb1 hb2
 clear HF
 cases fl with
 |false=>
  clear HC HM HR HGs HAl HDp
  go_wp2
  go_ret
  exact⟨ay (by simp),hw2⟩
 |true=>
  have HC2:=YJ (HC (by trivial) w2 hw2).out
  have HM':=fun v W' hb k1=>YJ (HM (by trivial) v W' hb k1).out
  have HR':=fun W' hb=>YJ (HR (by trivial) W' hb).out
  have HGs':=fun h0 W' hb=>YJ (HGs (by trivial) h0 W' hb).out
  have HAl':=fun W'=>YJ (HAl (by trivial) W').out
  have HDp':=fun h0 p hp gv pv W' k1 k2=>YJ (HDp (by trivial) h0 p hp gv pv W' k1 k2).out
  have h15:=H15.out (by trivial)
  clear HC HM HR HGs HAl HDp H15
  go_wp2_with fail
  refine(HC2.out).mono ?_
  rintro e w3 ⟨v3,rfl,hb3,hv3⟩
  have hw3:=fB hw2 hb3
  have HM3:=YJ (HM' _ w3 hw3 hv3).out
  obtain⟨v3a,v3n,v3c,rfl, -⟩:=hv3
  clear HC2 HM'
  go_wp2_with fail
  refine(HM3.out).mono ?_
  rintro e w4 ⟨rfl,hb4⟩
  have hw4:=fB hw3 hb4
  clear HM3
  go_wp2_with fail
  refine((HR' _ hw4).out).mono ?_
  rintro e w5 ⟨rfl,hb5⟩
  have hw5:=fB hw4 hb5
  clear HR'
  by_cases hae:ae=0
  ·subst hae
   have H2':=YJ (H2.out (by trivial))
   have H3':=YJ (H3.out (by trivial))
   have H4':=YJ (H4.out (by trivial))
   have HG5:=YJ (HGs' (by trivial) w5 hw5).out
   have HD5:=fun p hp gv pv W' k1 k2=>YJ (HDp' (by trivial) p hp gv pv W' k1 k2).out
   have hwr:IntKind.i64.wrap ((ln:Int)-1)=(ln:Int)-1:=IntWalk.i64_in _ (by omega)
   obtain⟨bn,Hbn⟩:∃bn,Hid (decide (0≤part∧part≤(ln:Int)-1)=bn):=⟨_,YJ rfl⟩
   have HWi:=fun W'=>YJ (ba Hbn.out W')
   clear H1 H2 H3 H4 HGs' HDp'
   go_wp2_with fail
   refine((HWi _).out).mono ?_
   rintro e w6 ⟨rfl,rfl⟩
   clear HWi hwr
   cases bn with
   |false=>
    have hh:part<0∨(ln:Int)≤part:=by
     have:=Hbn.out
     rw[decide_eq_false_iff_not]at this
     omega
    have hd:=H2'.out hh
    subst hd
    clear HG5 HD5 H2' H3' H4' HAl' Hbn hh
    go_wp2
    go_ret
    exact⟨ay (by simp),hw5⟩
   |true=>
    have hh:0≤part∧part≤(ln:Int)-1:=by
     have:=Hbn.out
     rwa [qfV]at this
    obtain⟨p,rfl⟩:∃p:Nat,part=(p:Int):=⟨part.toNat,by omega⟩
    have hp:p<ln:=by omega
    have H3p:=YJ (H3'.out p rfl hp)
    have H4p:=YJ (H4'.out p rfl hp)
    have HD6:=fun gv pv W' k1 k2=>YJ (HD5 p hp gv pv W' k1 k2).out
    clear HD5 H2' H3' H4' Hbn hh
    go_wp2_with fail
    refine(HG5.out).mono ?_
    rintro e w7 ⟨gv,rfl,hb7,hg7⟩
    have hw7:=fB hw5 hb7
    have HG7:=YJ hg7.gs
    obtain⟨ga,gn,gc,rfl⟩:∃a n c,gv= .slice a n c:=by obtain⟨vs,h,_⟩:=hg7;obtain⟨a,c,h⟩:=aT h;exact⟨_,_,_,h⟩
    clear HG5 hg7
    go_wp2_with fail
    refine((HAl' _).out).mono ?_
    rintro e w8 ⟨av,rfl,hb8,ho8⟩
    have hw8:=fB hw7 hb8
    have HG8:=YJ (GsV.below HG7.out hb8)
    have HD8:=YJ (HD6 _ av w8 HG8.out (jy ho8)).out
    obtain⟨ava,avc,rfl⟩:=aT ho8
    clear HAl' HD6 HG7 HG8 ho8
    go_wp2_with fail
    refine(HD8.out).mono ?_
    rintro e w9 ⟨rfl,hb9⟩
    have hw9:=fB hw8 hb9
    clear HD8
    generalize dV p=dv at*
    by_cases hdv:dv<0
    ·have hd:=H3p.out hdv
     subst hd
     clear H3p H4p
     go_wp2
     go_ret
     exact⟨ay (by simp),hw9⟩
    ·obtain⟨hd,hdl⟩:=H4p.out (by omega)
     subst hd
     clear H3p H4p
     go_wp2
     go_ret
     exact⟨ay (by simp[hdl]),hw9⟩
  ·have hd:=H1.out hae
   subst hd
   have hA':(ae !=0)=true:=by simpa using hae
   have hA2:(ae==0)=false:=by simpa using hae
   clear HGs' HAl' HDp' H1 H2 H3 H4
   go_wp2
   go_ret
   exact⟨ay (by simp),hw5⟩
end
end Go.Proofs.YtffbilcjhlncfaaGreatDoor
