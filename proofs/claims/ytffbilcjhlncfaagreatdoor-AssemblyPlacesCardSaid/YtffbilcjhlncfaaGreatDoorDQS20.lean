/- texts: IA2 IA4 G5 W6 R0 CA CB C0 GM GB C2 C4 D6 V4 S1a Y1 CC. -/
import Derived.Test.YtffbilcjhlncfaaGreatDoorDQS19
namespace Go.Proofs.YtffbilcjhlncfaaGreatDoor
set_option maxHeartbeats 8000000
set_option linter.all false
section
open Go.RowKit Go.Shelf Go.Lib
set_option maxRecDepth 100000
attribute [local go_sem] Ext.cell Ext.frozen
theorem Ec {p q:Bod} {w:Q3} (hf:CQ p.2 q.2 w=false) (i:Nat) (h:(p.1.take i).foldl (zn w) (some q)=none):eS p q w=false:=by
 rw[TX,hf,Dk (zn w) (Ie w) _ _ i h,DK];rfl
def Lp1 (p q:Bod) (d:Q3) (i:Nat) (qi:Bod):Prop:=(p.1.take i).foldl (zn d) (some q)=some qi∧okBd i qi
theorem Lp1.skip {p q qi:Bod} {d:Q3} {i:Nat} (h:Lp1 p q d i qi) (hi:i<p.1.length) (hs:¬bj (nrm p.1[i]) d≤0):Lp1 p q d (i+1) qi:=by
 refine⟨?_,h.2.mono (Nat.le_succ i)⟩
 rw[TJ _ _ _ _ hi,h.1];unfold zn;rw[if_neg hs]
theorem Lp1.cut {p q qi:Bod} {d:Q3} {i:Nat} (h:Lp1 p q d i qi) (hi:i<p.1.length) (hl:p.1.length≤16) (hx:okW p.1[i]) (hs:bj (nrm p.1[i]) d≤0) (hc:(qm qi p.1[i]).2=true):Lp1 p q d (i+1) (qm qi p.1[i]).1:=by
 refine⟨?_,EL h.2 (by omega) hx⟩
 rw[TJ _ _ _ _ hi,h.1];unfold zn BU;rw[if_pos hs];simp[hc]
theorem Lp1.out {p q qi:Bod} {d:Q3} {i:Nat} (h:Lp1 p q d i qi) (hi:i<p.1.length) (hs:bj (nrm p.1[i]) d≤0) (hc:(qm qi p.1[i]).2=false):(p.1.take (i+1)).foldl (zn d) (some q)=none:=by
 rw[TJ _ _ _ _ hi,h.1];unfold zn BU;rw[if_pos hs];simp[hc]
theorem EP {w:World} {g:Nat} {x0 x1 x2:Value} {t:TypeId} (h:w.heap[g]? =some (.cells #[x0,x1,x2] t (0,0))):w.cell? ⟨g,0,none⟩=some x0∧w.cell? ⟨g,1,none⟩=some x1∧w.cell? ⟨g,2,none⟩=some x2∧(∀i,w.frozen? ⟨g,i,none⟩=false)∧g<w.heap.size:=⟨(bq h 0).trans rfl,(bq h 1).trans rfl,(bq h 2).trans rfl,aC h,ah h⟩
theorem LJ {p:Q4} {w:Q3} (hp:bI p) (hw:(-1≤w.1∧w.1≤1)∧(-1≤w.2.1∧w.2.1≤1)∧(-1≤w.2.2∧w.2.2≤1)): -24≤bj (nrm p) w∧bj (nrm p) w≤24:=by
 unfold bI at hp
 have m0:=aJ hp.1.1 hp.1.2 hw.1.1 hw.1.2
 have m1:=aJ hp.2.1.1 hp.2.1.2 hw.2.1.1 hw.2.1.2
 have m2:=aJ hp.2.2.1.1 hp.2.2.1.2 hw.2.2.1 hw.2.2.2
 simp only[bj,nrm]
 omega
theorem FQ (p q:Bod) (d:Q3) (pv cv qv rv:Value) (W:World) (hp:∀x∈p.1,bI x) (hpc:∀c∈p.2,okX c) (hpl:p.1.length≤16) (hcl:p.2.length≤1000000) (hq:okBd 0 q)
  (hd:(-1≤d.1∧d.1≤1)∧(-1≤d.2.1∧d.2.1≤1)∧(-1≤d.2.2∧d.2.2≤1)) (h1:Q4s W pv p.1) (h2:Q4s W cv p.2) (h3:Q4s W qv q.1) (h4:Q4s W rv q.2):
  Calls Tryz.prog 131 #[.agg #[pv,cv], .agg #[qv,rv],V3 d.1 d.2.1 d.2.2] W (Ret W (.bool (eS p q d))):=by
 obtain⟨i0,Hi0⟩:=qfT CW
 obtain⟨V,HV⟩:∃V,Hid (((W.alloc (.cells #[pv,cv] 216)).alloc (.cells #[qv,rv] 216)).alloc (.cells #[.int .i64 d.1, .int .i64 d.2.1, .int .i64 d.2.2] 37)=V):=⟨_,YJ rfl⟩
 have hV:Below W.heap.size W V:=by rw[←HV.out];exact bel
 have HSV:Hid (SwS W.heap.size W pv cv d [] [] q (.slice none 0 0) (.slice none 0 0) qv rv V):=YJ {
  hW:=hV
  hs:=by rw[←HV.out];simp
  b:=by rw[←HV.out];exact(aB (by simp<;>omega)).trans ((aB (by simp)).trans (ai rfl))
  x:=by rw[←HV.out];exact(aB (by simp)).trans (ai (by simp))
  d:=by rw[←HV.out];exact ai (by simp)
  hq:=h3.below hV
  hr:=h4.below hV
  f:=qds _ _ _ _
  g:=qds _ _ _ _
  fg:=fun i h=>by simp[Value.ownBlock]at h
  aqf:=Ap.nil _
  aqg:=Ap.nil _
  arf:=Ap.nil _
  arg:=Ap.nil _}
 have Hpv:=YJ h1
 obtain⟨pa,pn,pc,rfl,hpn, -,hpx⟩:=h1
 have HPX:Hid (0<pn→∃g off,pa=some ⟨g,off,none⟩∧Q4At W g off p.1):=YJ hpx
 have Hcv:=YJ h2
 obtain⟨ca,cn,cc,rfl, -⟩:=h2
 obtain⟨qa,qn,qc,rfl, -⟩:=h3
 obtain⟨ra,rn,rc,rfl, -⟩:=h4
 have HFar:=fun W' h h'=>YJ (Jz p.2 q.2 (.slice pa pn pc) (.slice ca cn cc) (.slice qa qn qc) (.slice ra rn rc) d.1 d.2.1 d.2.2 W' hpc hq.2.2.2 hcl (qaD hq.2.1 (by decide)) ⟨_,_,_,rfl⟩ ⟨_,_,_,rfl⟩ (Hcv.out.below (w':=W') h) h')
 have HDt:=fun i (h:i<p.1.length) W'=>YJ (show Calls Tryz.prog 180 #[V3 p.1[i].1 p.1[i].2.1 p.1[i].2.2.1,V3 d.1 d.2.1 d.2.2] W' (Ret W' (.int .i64 (bj (nrm p.1[i]) d)))from by
  obtain⟨a1,a2,a3,_⟩:=hp _ (qaB h)
  exact Cf _ _ _ _ _ _ W' (by omega) (by omega) (by omega) (by omega) (by omega) (by omega))
 have HDg:=fun(x:Q4) (hx:bI x) W'=>YJ (show Calls Tryz.prog 180 #[V3 x.1 x.2.1 x.2.2.1,V3 d.1 d.2.1 d.2.2] W' (Ret W' (.int .i64 (bj (nrm x) d)))from by
  obtain⟨a1,a2,a3,_⟩:=hx
  exact Cf _ _ _ _ _ _ W' (by omega) (by omega) (by omega) (by omega) (by omega) (by omega))
 have HPw:=fun i (h:i<p.1.length)=>YJ (DW (hp _ (qaB h)))
 have HFr:=fun i (h:i<p.1.length)=>YJ (FM d p.1 i h)
 have HBe:=fun i (h:i<p.1.length)=>YJ (EM d p.1 i h)
 have HFB:=fun i=>YJ (FN d (p.1.take i))
 have HN1:=YJ (@Ec p q d)
 have HL0:Hid (Lp1 p q d 0 q):=YJ ⟨rfl,hq⟩
 have HPl:=YJ hpl
 have Hpn:=YJ hpn
 have Hp:=YJ hp
 have hpn16:pn≤16:=by omega
 have Hd:=YJ hd
 clear hp hpc hcl hq hd hpl hpn hpx
 obtain⟨vb0,vb1,_⟩:=nm HSV.out.b
 obtain⟨vx0,vx1,vxz⟩:=nm HSV.out.x
 go_enter Tryz.func131,Tryz.ntmps131
 go_wp2_with fail
 rw[HV.out]
 refine((HFar V hV (HSV.out.hr)).out).mono ?_
 rintro e w1 ⟨rfl,hb1⟩
 have HS1:=YJ (HSV.out.keep hb1)
 clear HFar HSV hb1 HV vb0 vb1 vx0 vx1 vxz hV
 obtain⟨vb0,vb1,_⟩:=nm HS1.out.b
 cases hf:CQ p.2 q.2 d with
 |true=>
  have hres:eS p q d=false:=by rw[TX,hf];rfl
  have HRs:=YJ hres
  clear hres hf
  go_wp2
  go_ret
  exact⟨ay HRs.out.symm,HS1.out.hW⟩
 |false=>
  have HF:=YJ hf
  clear hf
  have HN2:=fun i h=>YJ (HN1.out HF.out i h)
  have bz:=ah HS1.out.b
  go_wp2
  go_loopw [7,8,9,28] (fun s7 s8 s9 x wr=>∃(i:Nat) (qi:Bod) (b:Bool) (qv rv:Value),i≤pn∧x= .int .i64 i∧s9= .bool b∧Hid (SwS W.heap.size W (.slice pa pn pc) (.slice ca cn cc) d (cr (p.1.take i) d) (bc (p.1.take i) d) qi s7 s8 qv rv wr)∧Hid (Lp1 p q d i qi)) (fun _ _ _ x _=>pn-(intOf x).toNat)
  case atStart=>exact⟨0,q,true,_,_,by omega,rfl,rfl,HS1,HL0⟩
  case round=>
   clear HS1 HL0 vb0 vb1 bz
   obtain⟨i,qi,b,qv,rv,hi,rfl,rfl,HS,HL⟩:=hrel
   by_cases hlt:i<pn
   ·have hil:i<p.1.length:=by have:=Hpn.out;omega
    obtain⟨cg,co,rfl,hci⟩:=HPX.out (by omega)
    obtain⟨e0,e1,e2,e3⟩:=(hci.below HS.out.hW) i hil
    have ze:=qaC wr _ e0
    simp only at ze
    have HDi:=fun W=>YJ ((HDt i hil W).out)
    have HFi:=YJ ((HFr i hil).out)
    have HBi:=YJ ((HBe i hil).out)
    have HPi:=YJ ((HPw i hil).out)
    have hfb:=(HFB i).out
    have hfb2:(p.1.take i).length≤16:=by rw[qge];omega
    have HSk:=fun hs=>YJ (HL.out.skip hil hs)
    have HSc:=fun hs hc=>YJ (HL.out.cut hil HPl.out HPi.out hs hc)
    have HSo:=fun hs hc=>YJ (HN2 (i+1) (HL.out.out hil hs hc)).out
    have HCt:=fun qv rv W' (h1:Q4s W' qv qi.1) (h2:Q4s W' rv qi.2)=>YJ (GC qi p.1[i] qv rv W' HPi.out HL.out.2.2.2.1 HL.out.2.2.2.2 (by have:=HL.out.2.1;omega) (by have:=HL.out.2.2.1;omega) h1 h2)
    generalize cr (p.1.take i) d=fs at*
    generalize bc (p.1.take i) d=bs at*
    have hfl:fs.length≤16:=by omega
    have hbl:bs.length≤16:=by omega
    obtain⟨d0,d1,d2,df,dz⟩:=EP HS.out.d
    clear hci HDt HFr HBe HPw HFB hfb hfb2 HN2 HN1
    generalize p.1[i]=c at*
    obtain⟨c0,c1,c2,c3⟩:=c
    simp only at e0 e1 e2 e3
    generalize bj (nrm (c0,c1,c2,c3)) d=s at*
    obtain⟨fa,fc,rfl⟩:=aT HS.out.f
    obtain⟨ga,gc,rfl⟩:=aT HS.out.g
    go_wp2_with fail
    refine((HDi _).out).mono ?_
    rintro e w1 ⟨rfl,hb1⟩
    have HS1:=YJ (HS.out.keep (fB bel hb1))
    have HB1:Hid (w1.heap[wr.heap.size]? =some (.cells #[.int .i64 c0, .int .i64 c1, .int .i64 c2, .int .i64 c3] 261 (0,0))):=YJ ((hb1.block _ (by simp)).trans (ai rfl))
    have Hfo:=YJ HS.out.f
    have Hgo:=YJ HS.out.g
    obtain⟨qa',qn',qc',rfl, -⟩:=id HS.out.hq
    obtain⟨ra',rn',rc',rfl, -⟩:=id HS.out.hr
    clear e0 e1 e2 e3 ze hb1 HS d0 d1 d2 df dz
    obtain⟨x0,x1,x2,x3,xf,xz⟩:=am HB1.out
    rcases(by omega:0<s∨s<0∨s=0)with hs|hs|hs
    ·have HF2:Hid (cr (p.1.take (i+1)) d=fs++[(c0,c1,c2,c3)]):=YJ (by rw[HFi.out,if_pos hs])
     have HB2:Hid (bc (p.1.take (i+1)) d=bs):=YJ (by rw[HBi.out,if_neg (by omega),qgd])
     have HL2:=HSk (by omega)
     have HSa:=YJ (HS1.out.keep (w':=w1.alloc (.cells #[.int .i64 c0, .int .i64 c1, .int .i64 c2, .int .i64 c3] 261)) bel)
     clear HFi HBi HSk HSc HSo HCt HL
     go_wp2_with (at_builtin;refine wpList_append_own_at _ rfl _ _ 213 rfl (W.heap.size+3) 261 i0 (v4 (0,0,0,0)) 4 32 Rk Hi0.out.1 Hi0.out.2.1 Hi0.out.2.2.1 Hi0.out.2.2.2 rfl (by decide) _ fs.length _ rfl HSa.out.f ⟨_,0,none⟩ 1 1 (aH (c0,c1,c2,c3)) rfl rfl (fun jj uu hu=>by rw[jY,aq (by simp) jj];simpa [aH]using hu) (fun u hu=>by simp[aH]at hu;rcases hu with rfl|rfl|rfl|rfl<;>rfl) (by unfold maxLen;omega) (by omega) (by have:=HSa.out.hs;omega) ?_)
     intro v' w2 hown2 hg2 _ hu2
     obtain⟨va,vc,rfl⟩:=aT hown2
     have HX2:Hid (w2.heap[wr.heap.size]? =some (.cells #[.int .i64 c0, .int .i64 c1, .int .i64 c2, .int .i64 c3] 261 (0,0))):=YJ ((hg2.block _ (by have:=ah HB1.out;simp;omega) (fun e=>absurd (Ci Hfo.out e.symm) (Nat.lt_irrefl _))).trans ((aB (ah HB1.out)).trans HB1.out))
     have HD2:=YJ ((hg2.block _ (ah HSa.out.d) (fun e=>aG HSa.out.f HSa.out.d (by decide) e.symm)).trans HSa.out.d)
     clear x0 x1 x2 x3 xf xz
     obtain⟨x0,x1,x2,x3,xf,xz⟩:=am HX2.out
     obtain⟨d0,d1,d2,df,dz⟩:=EP HD2.out
     clear HD2
     go_wp2_with fail
     refine((HDi _).out).mono ?_
     rintro e w3 ⟨rfl,hb3⟩
     have HS2:=YJ ((HSa.out.front (c0,c1,c2,c3) hown2 hg2 (hu2.imp id fun h=>h.trans (by simp))).keep hb3)
     clear HSa hown2 hg2 hu2 hb3 HX2 d0 d1 d2 df dz x0 x1 x2 x3 xf xz
     go_wp2
     go_roundw
     case rel=>exact⟨i+1,qi,b, .slice qa' qn' qc', .slice ra' rn' rc',by omega,by go_num,rfl,YJ (by rw[HF2.out,HB2.out];exact HS2.out),HL2⟩
     simp[intOf];try omega
    ·have HF2:Hid (cr (p.1.take (i+1)) d=fs):=YJ (by rw[HFi.out,if_neg (by omega),qgd])
     have HB2:Hid (bc (p.1.take (i+1)) d=bs++[(c0,c1,c2,c3)]):=YJ (by rw[HBi.out,if_pos hs])
     have HSa:=YJ (HS1.out.keep (w':=w1.alloc (.cells #[.int .i64 c0, .int .i64 c1, .int .i64 c2, .int .i64 c3] 261)) bel)
     have HSc2:=fun hc=>YJ ((HSc (by omega) hc).out)
     have HSo2:=fun hc=>YJ ((HSo (by omega) hc).out)
     clear HFi HBi HSk HSc HSo HL
     go_wp2_with (at_builtin;refine wpList_append_own_at _ rfl _ _ 213 rfl (W.heap.size+3) 261 i0 (v4 (0,0,0,0)) 4 32 Rk Hi0.out.1 Hi0.out.2.1 Hi0.out.2.2.1 Hi0.out.2.2.2 rfl (by decide) _ bs.length _ rfl HSa.out.g ⟨_,0,none⟩ 1 1 (aH (c0,c1,c2,c3)) rfl rfl (fun jj uu hu=>by rw[jY,aq (by simp) jj];simpa [aH]using hu) (fun u hu=>by simp[aH]at hu;rcases hu with rfl|rfl|rfl|rfl<;>rfl) (by unfold maxLen;omega) (by omega) (by have:=HSa.out.hs;omega) ?_)
     intro v' w2 hown2 hg2 _ hu2
     obtain⟨va,vc,rfl⟩:=aT hown2
     have HX2:Hid (w2.heap[wr.heap.size]? =some (.cells #[.int .i64 c0, .int .i64 c1, .int .i64 c2, .int .i64 c3] 261 (0,0))):=YJ ((hg2.block _ (by have:=ah HB1.out;simp;omega) (fun e=>absurd (Ci Hgo.out e.symm) (Nat.lt_irrefl _))).trans ((aB (ah HB1.out)).trans HB1.out))
     have HD2:=YJ ((hg2.block _ (ah HSa.out.d) (fun e=>aG HSa.out.g HSa.out.d (by decide) e.symm)).trans HSa.out.d)
     clear x0 x1 x2 x3 xf xz
     obtain⟨x0,x1,x2,x3,xf,xz⟩:=am HX2.out
     obtain⟨d0,d1,d2,df,dz⟩:=EP HD2.out
     clear HD2
     go_wp2_with fail
     refine((HDi _).out).mono ?_
     rintro e w3 ⟨rfl,hb3⟩
     have HS2:=YJ ((HSa.out.behind (c0,c1,c2,c3) hown2 hg2 (hu2.imp id fun h=>h.trans (by simp))).keep hb3)
     have HX3:=YJ ((hb3.block _ (ah HX2.out)).trans HX2.out)
     clear HSa hown2 hg2 hu2 hb3 HX2 d0 d1 d2 df dz x0 x1 x2 x3 xf xz
     obtain⟨x0,x1,x2,x3,xf,xz⟩:=am HX3.out
     obtain⟨y0,y1,yz⟩:=nm HS2.out.x
     have HC3:=YJ ((HCt _ _ w3 HS2.out.hq HS2.out.hr).out)
     clear HCt HDi
     go_wp2_with fail
     refine(HC3.out).mono ?_
     rintro e w4 ⟨qv',rv',rfl,hb4,hq1,hq2,hf1,hf2⟩
     have HS4:=YJ (HS2.out.cut _ hb4 hq1 hq2 hf1 hf2)
     have HX4:=YJ ((hb4.block _ (ah HS2.out.x)).trans HS2.out.x)
     obtain⟨qa2,qn2,qc2,rfl, -⟩:=hq1
     obtain⟨ra2,rn2,rc2,rfl, -⟩:=hq2
     clear HC3 HX3 HS2 hb4 hf1 hf2 y0 y1 yz x0 x1 x2 x3 xf xz
     obtain⟨y0,y1,yz⟩:=nm HX4.out
     have yf:=aC HX4.out
     clear HX4
     cases hr:(qm qi (c0,c1,c2,c3)).2 with
     |true=>
      have HL2:=YJ ((HSc2 hr).out)
      clear hr HSc2 HSo2
      go_wp2
      go_roundw
      case rel=>exact⟨i+1,_,true, .slice qa2 qn2 qc2, .slice ra2 rn2 rc2,by omega,by go_num,rfl,YJ (by rw[HF2.out,HB2.out];exact HS4.out),HL2⟩
      simp[intOf];try omega
     |false=>
      have HR2:=YJ ((HSo2 hr).out)
      clear hr HSc2 HSo2
      go_wp2
      go_ret
      exact⟨ay HR2.out.symm,HS4.out.hW⟩
    ·have HF2:Hid (cr (p.1.take (i+1)) d=fs):=YJ (by rw[HFi.out,if_neg (by omega),qgd])
     have HB2:Hid (bc (p.1.take (i+1)) d=bs):=YJ (by rw[HBi.out,if_neg (by omega),qgd])
     have HSc2:=fun hc=>YJ ((HSc (by omega) hc).out)
     have HSo2:=fun hc=>YJ ((HSo (by omega) hc).out)
     clear HFi HBi HSk HSc HSo HL
     obtain⟨d0,d1,d2,df,dz⟩:=EP HS1.out.d
     go_wp2_with fail
     refine((HDi _).out).mono ?_
     rintro e w3 ⟨rfl,hb3⟩
     have HS2:=YJ (HS1.out.keep hb3)
     have HX3:=YJ ((hb3.block _ (ah HB1.out)).trans HB1.out)
     clear HS1 HB1 hb3 d0 d1 d2 df dz x0 x1 x2 x3 xf xz
     obtain⟨x0,x1,x2,x3,xf,xz⟩:=am HX3.out
     obtain⟨y0,y1,yz⟩:=nm HS2.out.x
     have HC3:=YJ ((HCt _ _ w3 HS2.out.hq HS2.out.hr).out)
     clear HCt HDi
     go_wp2_with fail
     refine(HC3.out).mono ?_
     rintro e w4 ⟨qv',rv',rfl,hb4,hq1,hq2,hf1,hf2⟩
     have HS4:=YJ (HS2.out.cut _ hb4 hq1 hq2 hf1 hf2)
     have HX4:=YJ ((hb4.block _ (ah HS2.out.x)).trans HS2.out.x)
     obtain⟨qa2,qn2,qc2,rfl, -⟩:=hq1
     obtain⟨ra2,rn2,rc2,rfl, -⟩:=hq2
     clear HC3 HX3 HS2 hb4 hf1 hf2 y0 y1 yz x0 x1 x2 x3 xf xz
     obtain⟨y0,y1,yz⟩:=nm HX4.out
     have yf:=aC HX4.out
     clear HX4
     cases hr:(qm qi (c0,c1,c2,c3)).2 with
     |true=>
      have HL2:=YJ ((HSc2 hr).out)
      clear hr HSc2 HSo2
      go_wp2
      go_roundw
      case rel=>exact⟨i+1,_,true, .slice qa2 qn2 qc2, .slice ra2 rn2 rc2,by omega,by go_num,rfl,YJ (by rw[HF2.out,HB2.out];exact HS4.out),HL2⟩
      simp[intOf];try omega
     |false=>
      have HR2:=YJ ((HSo2 hr).out)
      clear hr HSc2 HSo2
      go_wp2
      go_ret
      exact⟨ay HR2.out.symm,HS4.out.hW⟩
   ·obtain rfl:i=pn:=by omega
    have hpn':p.1.length≤i:=by have:=Hpn.out;omega
    have HE1:Hid (p.1.foldl (zn d) (some q)=some qi):=YJ (by have:=HL.out.1;rw[qaK hpn']at this;exact this)
    have HE2:Hid (okBd 16 qi):=YJ (HL.out.2.mono hpn16)
    have hS:=HS.out
    rw[qaK hpn']at hS
    have HS:=YJ hS
    clear hS
    have HN3:=fun j q2 hj h k hn=>YJ (Ea (i:=j) (q2:=q2) HF.out HE1.out hj h k hn)
    have HFin:=fun q2 h=>YJ (FO (q2:=q2) HF.out HE1.out h)
    have HFo:=YJ (Ju (d:=d) Hp.out)
    have HBo:=YJ (If (d:=d) Hp.out)
    have HC84:=fun j k hj hk=>YJ (LQ (d:=d) (i:=j) (k:=k) HPl.out hj hk)
    have hfb:=FN d p.1
    have hp16:=HPl.out
    clear HDt HPw HFr HBe HFB HN1 HN2 HL HE1 HPX HF
    generalize cr p.1 d=fs at*
    generalize bc p.1 d=bs at*
    have hfl:fs.length≤16:=by omega
    have hbl:bs.length≤16:=by omega
    clear hfb hp16 hpn' Hpn Hp HPl Hcv Hpv
    obtain⟨fa,fc,rfl⟩:=aT HS.out.f
    obtain⟨ga,gc,rfl⟩:=aT HS.out.g
    go_wp2
    go_loopw [9,66] (fun s9 x wr=>∃(j:Nat) (q2:Bod) (b:Bool) (qv rv:Value),j≤fs.length∧x= .int .i64 j∧s9= .bool b∧Hid (SwS W.heap.size W (.slice pa i pc) (.slice ca cn cc) d fs bs q2 (.slice fa fs.length fc) (.slice ga bs.length gc) qv rv wr)∧Hid (Lp2 fs bs d qi j q2)) (fun _ x _=>fs.length-(intOf x).toNat)
    case atStart=>exact⟨0,qi,b,qv,rv,Nat.zero_le _,rfl,rfl,HS,YJ ⟨rfl,by rw[Nat.zero_mul];exact HE2.out⟩⟩
    case round=>
     rename World=>wq
     clear HS
     obtain⟨j,q2,b2,qv2,rv2,hj,rfl,rfl,HS,HL⟩:=hrel
     by_cases hlt:j<fs.length
     ·obtain⟨g1,rfl,hci⟩:=EN HS.out.f (by omega)
      obtain⟨e0,e1,e2,e3⟩:=hci j hlt
      rw[qfW]at e0 e1 e2 e3
      have ze:=qaC _ _ e0
      simp only at ze
      have HXo:=YJ (HFo.out _ (qaB hlt))
      have HN4:=fun k hn=>YJ ((HN3 j q2 hlt HL.out k hn).out)
      have HNx:=fun q3 h=>YJ (HL.out.next (q3:=q3) hlt h)
      have HC4:=fun k hk=>YJ (HC84 j k hlt hk).out
      have HLk:=YJ HL.out.2
      clear hci HN3 HC84 HL
      generalize j*bs.length=jm at*
      generalize fs[j]=c at*
      obtain⟨c0,c1,c2,c3⟩:=c
      simp only at e0 e1 e2 e3
      have hqs:=HS.out.hs
      go_wp2
      go_loopw [9,72] (fun s9 x wr=>∃(k:Nat) (q3:Bod) (b:Bool) (qv rv:Value),k≤bs.length∧x= .int .i64 k∧s9= .bool b∧Hid (SwS W.heap.size W (.slice pa i pc) (.slice ca cn cc) d fs bs q3 (.slice (some ⟨g1,0,none⟩) fs.length fc) (.slice ga bs.length gc) qv rv wr)∧Hid (wr.heap[wq.heap.size]? =some (.cells #[.int .i64 c0, .int .i64 c1, .int .i64 c2, .int .i64 c3] 261 (0,0)))∧Hid (Lp3 (c0,c1,c2,c3) bs d q2 (16+jm) k q3)) (fun _ x _=>bs.length-(intOf x).toNat)
      case atStart=>exact⟨0,q2,b2,qv2,rv2,Nat.zero_le _,rfl,rfl,YJ (HS.out.keep bel),YJ (ai rfl),YJ ⟨rfl,HLk.out⟩⟩
      case round=>
       rename World=>wk
       clear HS e0 e1 e2 e3 ze
       obtain⟨k,q3,b3,qv3,rv3,hk,rfl,rfl,HS,HX,HL⟩:=hrel
       by_cases hkt:k<bs.length
       ·obtain⟨g2,rfl,hci⟩:=EN HS.out.g (by omega)
        obtain⟨e0,e1,e2,e3⟩:=hci k hkt
        rw[qfW]at e0 e1 e2 e3
        have ze:=qaC _ _ e0
        simp only at ze
        have HYo:=YJ (HBo.out _ (qaB hkt))
        have hmk:=(HC4 k hkt).out
        have HSk:=fun hz=>YJ (HL.out.skip hkt hz)
        have HMx:=YJ (Jf _ _ d HXo.out HYo.out Hd.out)
        have HSc:=fun hz hc=>YJ (HL.out.cut hkt hmk HMx.out hz hc)
        have HSo:=fun hz hc=>YJ (HN4 (k+1) (HL.out.out hkt hz hc)).out
        have HCt:=fun qv rv W' (h1:Q4s W' qv q3.1) (h2:Q4s W' rv q3.2)=>YJ (GC q3 _ qv rv W' HMx.out HL.out.2.2.2.1 HL.out.2.2.2.2 (by have:=HL.out.2.1;omega) (by have:=HL.out.2.2.1;omega) h1 h2)
        have HDx:=fun W'=>YJ ((HDg _ HXo.out W').out)
        have HDy:=fun W'=>YJ ((HDg _ HYo.out W').out)
        have hdx:=LJ HXo.out Hd.out
        have hdy:=LJ HYo.out Hd.out
        have hox:=HXo.out
        have hoy:=HYo.out
        clear hci HC4 HN4 HDg HNx HBo HFo HL
        generalize bs[k]=y at*
        obtain⟨y0,y1,y2,y3⟩:=y
        simp only[bI]at e0 e1 e2 e3 hox hoy
        obtain⟨x0,x1,x2,x3,xf,xz⟩:=am HX.out
        obtain⟨d0,d1,d2,df,dz⟩:=EP HS.out.d
        have Hmx:Hid (kv (c0,c1,c2,c3) (y0,y1,y2,y3) d=(c0* -(bj (nrm (y0,y1,y2,y3)) d)+y0*bj (nrm (c0,c1,c2,c3)) d,c1* -(bj (nrm (y0,y1,y2,y3)) d)+y1*bj (nrm (c0,c1,c2,c3)) d,c2* -(bj (nrm (y0,y1,y2,y3)) d)+y2*bj (nrm (c0,c1,c2,c3)) d,c3* -(bj (nrm (y0,y1,y2,y3)) d)+y3*bj (nrm (c0,c1,c2,c3)) d)):=YJ rfl
        generalize kv (c0,c1,c2,c3) (y0,y1,y2,y3) d=M at*
        generalize bj (nrm (c0,c1,c2,c3)) d=sx at*
        generalize bj (nrm (y0,y1,y2,y3)) d=sy at*
        clear HXo HYo
        go_wp2_with fail
        have hwy:Below wk.heap.size wk (wk.alloc (.cells #[.int .i64 y0, .int .i64 y1, .int .i64 y2, .int .i64 y3] 261)):=bel
        have dz1:W.heap.size+1<wk.heap.size:=by omega
        have dz2:W.heap.size+1+1<wk.heap.size+1:=by omega
        have xz1:wq.heap.size<wk.heap.size+1:=by omega
        apply aj [9] [0,1,2,3,4,5,6,7,8,9] 10 [] [sv _,sv _,sv _,sv _,sv _,sv _,sv _,sv _,sv _,sv _] (by kernel_rfl) (by kernel_rfl)
        iterate 3 ((try go_frame);refine wkQ ?_)
        try go_frame
        refine wkV ?_
        apply ex3
        ·intro u K hK
         go_simp
         refine((HDx _).out).mono ?_
         rintro e w9 ⟨rfl,hb9⟩
         exact hK _ hb9
        rfl
        iterate 3 ((try go_frame);refine wkQ ?_)
        try go_frame
        refine wkV ?_
        apply ex3
        ·intro u K hK
         go_simp
         refine((HDy _).out).mono ?_
         rintro e w9 ⟨rfl,hb9⟩
         exact hK _ hb9
        rfl
        ((try go_frame);refine wkQ ?_)
        try go_frame
        refine wkz rfl rfl rfl rfl ?_
        apply Exists.intro
        apply And.intro
        ·intro w9
         go_simp
         try rfl
        refine⟨rfl, ?_⟩
        try go_frame
        refine aI (fun u hR=> ?_)
        have hbu:=fB hwy u.below
        have HS2:=YJ (HS.out.keep hbu)
        have HX2:=YJ ((hbu.block _ (ah HX.out)).trans HX.out)
        have HY2:Hid (u.val.heap[wk.heap.size]? =some (.cells #[.int .i64 y0, .int .i64 y1, .int .i64 y2, .int .i64 y3] 261 (0,0))):=YJ ((u.below.block _ (by simp)).trans (ai rfl))
        have hks:=HS.out.hs
        have hkx:=ah HX.out
        clear dz1 dz2 xz1 hR hwy hbu HS HX HDx HDy e0 e1 e2 e3 ze x0 x1 x2 x3 xf xz d0 d1 d2 df dz
        generalize u.val=w2 at*
        clear u
        simp only[oas]
        go_wp2
        refine NoPanic.normal ?_
        go_wp2
        have hdn: -24≤ -sy∧ -sy≤24:=by omega
        clear hdy
        generalize -sy=ny at*
        have p0:=aJ hox.1.1 hox.1.2 hdn.1 hdn.2
        have p1:=aJ hox.2.1.1 hox.2.1.2 hdn.1 hdn.2
        have p2:=aJ hox.2.2.1.1 hox.2.2.1.2 hdn.1 hdn.2
        have p3:=aJ hox.2.2.2.1 hox.2.2.2.2 hdn.1 hdn.2
        have r0:=aJ hoy.1.1 hoy.1.2 hdx.1 hdx.2
        have r1:=aJ hoy.2.1.1 hoy.2.1.2 hdx.1 hdx.2
        have r2:=aJ hoy.2.2.1.1 hoy.2.2.1.2 hdx.1 hdx.2
        have r3:=aJ hoy.2.2.2.1 hoy.2.2.2.2 hdx.1 hdx.2
        have hkw:wk.heap.size<w2.heap.size:=ah HY2.out
        have hxw:wq.heap.size<w2.heap.size:=ah HX2.out
        clear hox hoy hdn hdx
        have j0:=qD (.int .i64 c0) (.int .i64 c1) (.int .i64 c2)
        have j1:=qE (.int .i64 c0) (.int .i64 c1) (.int .i64 c2)
        have j2:=qF (.int .i64 c0) (.int .i64 c1) (.int .i64 c2)
        go_loopw [85] (fun x wr=>∃n:Int,0≤n∧n≤3∧x= .int .i64 n∧Below w2.heap.size w2 wr∧Hid (wr.heap[w2.heap.size]? =some (.cells #[.int .i64 (if 1≤n then c0*ny+y0*sx else 0), .int .i64 (if 2≤n then c1*ny+y1*sx else 0), .int .i64 (if 3≤n then c2*ny+y2*sx else 0), .int .i64 0] 261 (0,0)))) (fun x _=>3-(intOf x).toNat)
        case atStart=>exact⟨0,by omega,by omega,rfl,bel,YJ (ai rfl)⟩
        case round=>
         rename World=>wm
         obtain⟨n,hn0,hn,rfl,hb,HM⟩:=hrel
         have HXm:=YJ ((hb.block _ hxw).trans HX2.out)
         have HYm:=YJ ((hb.block _ hkw).trans HY2.out)
         obtain⟨x0,x1,x2,x3,xf,xz⟩:=am HXm.out
         obtain⟨u0,u1,u2,u3,uf,uz⟩:=am HYm.out
         rcases(by omega:n=0∨n=1∨n=2∨n=3)with rfl|rfl|rfl|rfl
         ·have HM1:Hid (wm.heap[w2.heap.size]? =some (.cells #[.int .i64 0, .int .i64 0, .int .i64 0, .int .i64 0] 261 (0,0))):=YJ (by simpa using HM.out)
          clear HM
          obtain⟨m0,m1,m2,m3,mf,mz⟩:=am HM1.out
          go_wp2
          apply aj [] [0,1,2,3,4,5,6,7,8,9,10,11,12,13,14] 15 [16] [sv _,sv _,sv _,sv _,sv _,sv _,sv _,sv _,sv _,sv _,sv _,sv _,sv _,sv _,sv _] (by kernel_rfl) (by kernel_rfl)
          iterate 15 ((try go_frame);refine wkQ ?_)
          try go_frame
          refine aI (fun u hR=> ?_)
          have HM9:=YJ ((u.below.block _ (ah HM1.out)).trans HM1.out)
          have hb9:Below w2.heap.size w2 (u.val.setCell ⟨w2.heap.size,0,none⟩ (.int .i64 (c0*ny+y0*sx))):=qga (hb.trans (u.below.mono hb.size)) (qaA _) _
          clear hR HM1 m0 m1 m2 m3 mf mz x0 x1 x2 x3 xf xz u0 u1 u2 u3 uf uz
          generalize u.val=w9 at*
          clear u
          obtain⟨m0,m1,m2,m3,mf,mz⟩:=am HM9.out
          simp only[oas]
          go_wp2
          refine NoPanic.normal ?_
          go_wp2
          go_roundw
          case rel=>exact⟨1,by omega,by omega,by go_num,hb9,YJ (by have:=Tu HM9.out 0 (.int .i64 (c0*ny+y0*sx));simpa using this)⟩
          simp[intOf];try omega
         ·have HM1:Hid (wm.heap[w2.heap.size]? =some (.cells #[.int .i64 (c0*ny+y0*sx), .int .i64 0, .int .i64 0, .int .i64 0] 261 (0,0))):=YJ (by simpa using HM.out)
          clear HM
          obtain⟨m0,m1,m2,m3,mf,mz⟩:=am HM1.out
          go_wp2
          apply aj [] [0,1,2,3,4,5,6,7,8,9,10,11,12,13,14] 15 [16] [sv _,sv _,sv _,sv _,sv _,sv _,sv _,sv _,sv _,sv _,sv _,sv _,sv _,sv _,sv _] (by kernel_rfl) (by kernel_rfl)
          iterate 15 ((try go_frame);refine wkQ ?_)
          try go_frame
          refine aI (fun u hR=> ?_)
          have HM9:=YJ ((u.below.block _ (ah HM1.out)).trans HM1.out)
          have hb9:Below w2.heap.size w2 (u.val.setCell ⟨w2.heap.size,1,none⟩ (.int .i64 (c1*ny+y1*sx))):=qga (hb.trans (u.below.mono hb.size)) (qaA _) _
          clear hR HM1 m0 m1 m2 m3 mf mz x0 x1 x2 x3 xf xz u0 u1 u2 u3 uf uz
          generalize u.val=w9 at*
          clear u
          obtain⟨m0,m1,m2,m3,mf,mz⟩:=am HM9.out
          simp only[oas]
          go_wp2
          refine NoPanic.normal ?_
          go_wp2
          go_roundw
          case rel=>exact⟨2,by omega,by omega,by go_num,hb9,YJ (by have:=Tu HM9.out 1 (.int .i64 (c1*ny+y1*sx));simpa using this)⟩
          simp[intOf];try omega
         ·have HM1:Hid (wm.heap[w2.heap.size]? =some (.cells #[.int .i64 (c0*ny+y0*sx), .int .i64 (c1*ny+y1*sx), .int .i64 0, .int .i64 0] 261 (0,0))):=YJ (by simpa using HM.out)
          clear HM
          obtain⟨m0,m1,m2,m3,mf,mz⟩:=am HM1.out
          go_wp2
          apply aj [] [0,1,2,3,4,5,6,7,8,9,10,11,12,13,14] 15 [16] [sv _,sv _,sv _,sv _,sv _,sv _,sv _,sv _,sv _,sv _,sv _,sv _,sv _,sv _,sv _] (by kernel_rfl) (by kernel_rfl)
          iterate 15 ((try go_frame);refine wkQ ?_)
          try go_frame
          refine aI (fun u hR=> ?_)
          have HM9:=YJ ((u.below.block _ (ah HM1.out)).trans HM1.out)
          have hb9:Below w2.heap.size w2 (u.val.setCell ⟨w2.heap.size,2,none⟩ (.int .i64 (c2*ny+y2*sx))):=qga (hb.trans (u.below.mono hb.size)) (qaA _) _
          clear hR HM1 m0 m1 m2 m3 mf mz x0 x1 x2 x3 xf xz u0 u1 u2 u3 uf uz
          generalize u.val=w9 at*
          clear u
          obtain⟨m0,m1,m2,m3,mf,mz⟩:=am HM9.out
          simp only[oas]
          go_wp2
          refine NoPanic.normal ?_
          go_wp2
          go_roundw
          case rel=>exact⟨3,by omega,by omega,by go_num,hb9,YJ (by have:=Tu HM9.out 2 (.int .i64 (c2*ny+y2*sx));simpa using this)⟩
          simp[intOf];try omega
         ·have HM1:Hid (wm.heap[w2.heap.size]? =some (.cells #[.int .i64 (c0*ny+y0*sx), .int .i64 (c1*ny+y1*sx), .int .i64 (c2*ny+y2*sx), .int .i64 0] 261 (0,0))):=YJ (by simpa using HM.out)
          clear HM
          have HSm:=YJ (HS2.out.keep hb)
          obtain⟨t0,t1,t2,t3⟩:=M
          have hT:=Hmx.out
          simp only[Prod.mk.injEq]at hT
          have HT:=YJ hT
          clear hT Hmx
          rw[←HT.out.1, ←HT.out.2.1, ←HT.out.2.2.1]at HM1
          obtain⟨m0,m1,m2,m3,mf,mz⟩:=am HM1.out
          have hb5:Below w2.heap.size w2 (wm.setCell ⟨w2.heap.size,3,none⟩ (.int .i64 (c3*ny+y3*sx))):=qga hb (qaA _) _
          have HS5:=YJ (HS2.out.keep hb5)
          have HX5:=YJ ((hb5.block _ hxw).trans HX2.out)
          have HM5:Hid ((wm.setCell ⟨w2.heap.size,3,none⟩ (.int .i64 (c3*ny+y3*sx))).heap[w2.heap.size]? =some (.cells #[.int .i64 t0, .int .i64 t1, .int .i64 t2, .int .i64 t3] 261 (0,0))):=YJ (by
           have:=Tu HM1.out 3 (.int .i64 (c3*ny+y3*sx))
           rw[HT.out.2.2.2]
           simpa using this)
          clear HS2 HX2 HY2 HSm HXm HYm HM1 hb5 HT
          by_cases hz:t0=0∧t1=0∧t2=0
          ·have heq:∀w,(Op.equalIn 10000 37 (.agg #[.int .i64 t0, .int .i64 t1, .int .i64 t2]) (.agg #[.int .i64 0, .int .i64 0, .int .i64 0])).run Tryz.prog w= .ok true w:=fun w=>by rw[nL];simp[hz.1,hz.2.1,hz.2.2]
           have HL2:=YJ ((HSk (by simp[nrm,hz.1,hz.2.1,hz.2.2])).out)
           clear hz HSk HSc HSo HCt HMx
           go_wp2
           go_roundw
           case rel=>exact⟨k+1,q3,b3,qv3,rv3,by omega,by go_num,rfl,HS5,HX5,HL2⟩
           simp[intOf];try omega
          ·have heq:∀w,(Op.equalIn 10000 37 (.agg #[.int .i64 t0, .int .i64 t1, .int .i64 t2]) (.agg #[.int .i64 0, .int .i64 0, .int .i64 0])).run Tryz.prog w= .ok false w:=fun w=>by
            rw[nL]
            congr 1
            simpa [and_assoc]using hz
           have hz2:¬nrm (t0,t1,t2,t3)=(0,0,0):=fun h=>hz (by simpa [nrm]using h)
           have HSc2:=fun hc=>YJ ((HSc hz2 hc).out)
           have HSo2:=fun hc=>YJ ((HSo hz2 hc).out)
           clear hz hz2 HSk HSc HSo HMx
           go_upto_region 33 with fail
           clear heq m0 m1 m2 m3 mf mz x0 x1 x2 x3 xf xz u0 u1 u2 u3 uf uz p0 p1 p2 p3 r0 r1 r2 r3 j0 j1 j2
           generalize wm.setCell ⟨w2.heap.size,3,none⟩ (.int .i64 (c3*ny+y3*sx))=w5 at*
           obtain⟨qa',qn',qc',rfl, -⟩:=id HS5.out.hq
           obtain⟨ra',rn',rc',rfl, -⟩:=id HS5.out.hr
           obtain⟨x0,x1,x2,x3,xf,xz⟩:=am HM5.out
           obtain⟨z0,z1,zz⟩:=nm HS5.out.x
           have HC5:=YJ ((HCt _ _ w5 HS5.out.hq HS5.out.hr).out)
           clear HCt
           go_wp2_with fail
           refine(HC5.out).mono ?_
           rintro e w6 ⟨qv',rv',rfl,hb6,hq1,hq2,hf1,hf2⟩
           have HS6:=YJ (HS5.out.cut _ hb6 hq1 hq2 hf1 hf2)
           have HZ6:=YJ ((hb6.block _ (ah HS5.out.x)).trans HS5.out.x)
           have HX6:Hid (((w6.setCell ⟨W.heap.size+1,0,none⟩ qv').setCell ⟨W.heap.size+1,1,none⟩ rv').heap[wq.heap.size]? =some (.cells #[.int .i64 c0, .int .i64 c1, .int .i64 c2, .int .i64 c3] 261 (0,0))):=YJ ((qaH _ _ _ _ (by show wq.heap.size≠W.heap.size+1;omega)).trans ((qaH _ _ _ _ (by show wq.heap.size≠W.heap.size+1;omega)).trans ((hb6.block _ (ah HX5.out)).trans HX5.out)))
           obtain⟨qa2,qn2,qc2,rfl, -⟩:=hq1
           obtain⟨ra2,rn2,rc2,rfl, -⟩:=hq2
           clear HC5 HX5 HS5 HM5 hb6 hf1 hf2 z0 z1 zz x0 x1 x2 x3 xf xz
           obtain⟨z0,z1,zz⟩:=nm HZ6.out
           have zf:=aC HZ6.out
           clear HZ6
           cases hr:(qm q3 (t0,t1,t2,t3)).2 with
           |true=>
            have HL2:=YJ ((HSc2 hr).out)
            clear hr HSc2 HSo2
            go_wp2
            go_roundw
            case rel=>exact⟨k+1,_,true, .slice qa2 qn2 qc2, .slice ra2 rn2 rc2,by omega,by go_num,rfl,HS6,HX6,HL2⟩
            simp[intOf];try omega
           |false=>
            have HR2:=YJ ((HSo2 hr).out)
            clear hr HSc2 HSo2
            go_wp2
            go_ret
            exact⟨ay HR2.out.symm,HS6.out.hW⟩
       ·obtain rfl:k=bs.length:=by omega
        have HL2:=YJ ((HNx _ HL.out).out)
        go_wp2
        go_roundw
        case rel=>exact⟨j+1,q3,b3,qv3,rv3,by omega,by go_num,rfl,HS,HL2⟩
        simp[intOf];try omega
     ·obtain rfl:j=fs.length:=by omega
      have HR:=YJ ((HFin _ HL.out).out)
      go_wp2
      go_ret
      exact⟨ay HR.out.symm,HS.out.hW⟩
theorem BM (ps cs:List Q4):(nf ps cs).length≤ps.length∧∀p∈nf ps cs,p∈ps:=⟨qdz _ _,fun _ h=>(alsm.1 h).1⟩
def c2:Nat→Nat
 |0=>0
 |n+1=>c2 n+n
def c3:Nat→Nat
 |0=>0
 |n+1=>c3 n+c2 n
theorem LS (ps:List Q4) (i k m:Nat):(jo ps i k m).length≤1:=by
 unfold jo
 split
 ·simp
 ·split<;>simp
theorem LT (ps:List Q4) (i k m:Nat):(gI ps i k m).length≤m:=by
 induction m with
 |zero=>simp[gI]
 |succ m ih=>
  rw[gq,qaE]
  have:=LS ps i k m
  omega
theorem LU (ps:List Q4) (i k:Nat):(gJ ps i k).length≤c2 k:=by
 induction k with
 |zero=>simp[gJ]
 |succ k ih=>
  have h:gJ ps i (k+1)=gJ ps i k++gI ps i k k:=by simp[gJ,List.range_succ]
  have h2:=LT ps i k k
  rw[h,qaE]
  unfold c2
  omega
theorem MB (ps:List Q4) (n:Nat):(raw ps n).length≤c3 n:=by
 induction n with
 |zero=>simp[raw]
 |succ n ih=>
  have h:raw ps (n+1)=raw ps n++gJ ps n n:=by simp[raw,List.range_succ]
  have h2:=LU ps n n
  rw[h,qaE]
  unfold c3
  omega
theorem MC:∀n≤16,c3 n≤560:=by decide
theorem FR {ps:List Q4} (h:ps.length≤16):(ct ps).length≤600:=by
 unfold ct
 have h1:=Om (raw ps ps.length) []
 have h2:=MB ps ps.length
 have h3:=MC _ h
 simp only[List.length_nil]at h1
 omega
theorem Ig {ps:List Q4} (hl:ps.length≤16) (hp:∀p∈ps,bI p) (hc:∀c∈ct ps,okX c):okBd 0 (bp ps):=
 ⟨qaD (BM ps _).1 hl,FR hl,fun p h=>DW (hp p ((BM ps _).2 p h)),hc⟩
end
section
open Go.RowKit
section
variable {P:Program} {ops:Array Oper} {md:Region.Mode} {Q:Exit→Act→World→Prop}
def il (md:Region.Mode) (ops:Array Oper) (wi ci:List Nat) (t0:Nat) (ts:List Nat):Bool:=
 Region.noSelect ops&&gZ ops&&decide ci.Nodup&&decide (ci.Pairwise (· < ·))&&((t0::ts).all fun t=>decide (t<ops.size))&&decide (ci.length+(ts.length+1)=ops.size)&&fQ md ops t0 (ci.filter fun i=> !wi.contains i)&&(wi.all fun i=>ci.contains i)&&decide wi.Nodup&&pr md ops (fun _=>true) wi (Array.replicate ops.size false)&&cT md ops (t0::ts)&&
 (ci.all fun i=> !(t0::ts).contains i)&&((List.range ops.size).all fun j=>ci.contains j || (t0::ts).contains j)&&
 (ci.all fun i=>match ops[i]? with
  |some o=>(o.after.all fun e=> !Region.binds md e || (decide (e.on<i)&&ci.contains e.on))&&
    ((List.range ops.size).all fun j=>(t0::ts).contains j || Region.waitsFor md ops i j || !((aM ops j).any fun d=>(o.looksAt ops).contains d))
  |none=>false)&&
 bJ md ops (t0::ts) (bw ops ci ops.size)
theorem pT {wi ci:List Nat} (hn:ci.Nodup) (hw:wi.Nodup) (hs:∀i∈wi,i∈ci) {listed:Array Bool} (hl:∀i,listed.getD i false=true↔i∈wi):(ci.filter fun i=> !listed.getD i false).length+wi.length=ci.length:=by
 have h1:(ci.filter fun i=>listed.getD i false).length=wi.length:=by
  refine List.Perm.length_eq ((List.perm_ext_iff_of_nodup (hn.filter _) hw).2 fun x=> ?_)
  rw[alsm,hl x]
  exact⟨fun h=>h.2,fun h=>⟨hs x h,h⟩⟩
 have h2:∀l:List Nat,(l.filter fun i=> !listed.getD i false).length+(l.filter fun i=>listed.getD i false).length=l.length:=by
  intro l
  induction l with
  |nil=>rfl
  |cons x l ih=>
   rw[qgg,qgg]
   generalize(listed.getD x false)=b
   cases b<;>simp only[Bool.not_false,Bool.not_true,if_true,Bool.false_eq_true,if_false,qdn]<;>omega
 have:=h2 ci
 omega
end
end
section
open Go.RowKit Go.Shelf
theorem xJ (p:Q4) (h:bI p):bI (dG p):=by
 obtain⟨a,b,c,d⟩:=p
 obtain⟨ha,hb,hc,hd⟩:=h
 simp only at ha hb hc hd
 have e1:=bH (aY [a,b,c,d] a (by simp))
 have e2:=bH (aY [a,b,c,d] b (by simp))
 have e3:=bH (aY [a,b,c,d] c (by simp))
 have e4:=bH (aY [a,b,c,d] d (by simp))
 have t1:=bZ (g:=aU [a,b,c,d]) ha
 have t2:=bZ (g:=aU [a,b,c,d]) hb
 have t3:=bZ (g:=aU [a,b,c,d]) hc
 have t4:=bZ (g:=aU [a,b,c,d]) hd
 rw[e1]at t1
 rw[e2]at t2
 rw[e3]at t3
 rw[e4]at t4
 exact⟨t1,t2,t3,t4⟩
theorem tE {ps:List Q4} (hps:∀p∈ps,bI p):∀c∈ct ps,fD c:=fun c hc=>by
 have hr:=((kT ps).2 c).1 hc
 obtain⟨p,hp,q,hq,r,hr',h0,rfl⟩:=YN (qaA _) hr
 have:=lV p q r (hps p hp) (hps q hq) (hps r hr')
 exact lW p q r _ (hps p hp) (hps q hq) (hps r hr') (by omega) h0
theorem Qc {ps:List Q4} (h:ps.length≤64):(ct ps).length≤300000:=by
 have h1:=pO (raw ps ps.length)
 have h2:=jp ps ps.length h
 unfold ct
 unfold pN at h1
 omega
theorem tF (p:Q4) (w:World) (h:cI p):Calls Tryz.prog 189 #[v4 p] w (Ret w (v4 (dG p))):=by
 obtain⟨⟨h0,h1,h2,h3⟩,hne⟩:=h
 exact pF p.1 p.2.1 p.2.2.1 p.2.2.2 w (by omega) (by omega) (by omega) (by omega) hne
theorem pU (p q:Q4) (w:World):Calls Tryz.prog 190 #[v4 p,v4 q] w (Ret w (.bool (decide (bD p q<0)))):=mU _ _ _ _ _ _ _ _ w
theorem rx (p:Q4) (cs:List Q4) (k:Nat) (h:k<cs.length):cQ p (cs.take (k+1))=cQ p (cs.take k)+if sd p cs[k]=0 then 1 else 0:=by
 unfold cQ
 rw[qaI h,qgo,qaE]
 congr 1
 by_cases hs:sd p cs[k]=0<;>simp[hs]
theorem pV (p:Q4) (cs:List Q4):cQ p cs≤cs.length:=qdz _ _
section
variable (f:Q4→Bool)
def twN (A:List Q4):Nat:=(A.takeWhile f).length
theorem BF (A:List Q4):twN f A≤A.length:=by
 have:=congrArg List.length (List.takeWhile_append_dropWhile (p:=f) (l:=A))
 rw[qaE]at this
 unfold twN
 omega
theorem xK (A:List Q4):A.takeWhile f=A.take (twN f A):=by
 have h:=List.takeWhile_append_dropWhile (p:=f) (l:=A)
 have h2:(A.takeWhile f++A.dropWhile f).take (twN f A)=A.takeWhile f:=List.take_left
 rw[h]at h2
 exact h2.symm
theorem xL (A:List Q4):A.dropWhile f=A.drop (twN f A):=by
 have h:=List.takeWhile_append_dropWhile (p:=f) (l:=A)
 have h2:(A.takeWhile f++A.dropWhile f).drop (twN f A)=A.dropWhile f:=List.drop_left
 rw[h]at h2
 exact h2.symm
theorem yD:∀(A:List Q4) (i:Nat) (h:i<A.length),i<twN f A→f A[i]=true
 | [],_,h,_=>by simp at h
 |a::A,0,_,h2=>by
  unfold twN at h2
  rw[List.takeWhile_cons]at h2
  split at h2
  ·rename_i h3;exact h3
  ·simp at h2
 |a::A,i+1,h,h2=>by
  unfold twN at h2
  rw[List.takeWhile_cons]at h2
  split at h2
  ·rename_i h3
   simp only[qdn]at h2
   exact yD A i (by simpa using h) (by unfold twN;omega)
  ·simp at h2
theorem vE:∀(A:List Q4) (h:twN f A<A.length),f A[twN f A]=false
 | [],h=>by simp at h
 |a::A,h=>by
  by_cases ha:f a=true
  ·have e:twN f (a::A)=twN f A+1:=by unfold twN;rw[List.takeWhile_cons,if_pos ha,qdn]
   have h':twN f A<A.length:=by rw[e]at h;simpa using h
   have:=vE A h'
   simpa [e]using this
  ·have e:twN f (a::A)=0:=by unfold twN;rw[List.takeWhile_cons,if_neg ha];rfl
   simpa [e]using ha
end
def TG (p:Q4):Q4→Bool:=fun q=>decide (bD q p<0)
theorem lI (A:List Q4) (p:Q4):kp A p=if(A.drop (twN (TG p) A)).head?=some p then A else A.take (twN (TG p) A)++[p]++A.drop (twN (TG p) A):=by
 unfold kp
 rw[show(fun q=>decide (bD q p<0))=TG p from rfl,xK,xL]
 simp
theorem vF (A:List Q4) (p:Q4) (h:twN (TG p) A<A.length) (he:A[twN (TG p) A]=p):kp A p=A:=by
 rw[lI,if_pos]
 rw[List.head?_drop,List.getElem?_eq_getElem h,he]
theorem xM (A:List Q4) (p:Q4) (h:twN (TG p) A=A.length):kp A p=A.take (twN (TG p) A)++[p]++A.drop (twN (TG p) A):=by
 rw[lI,if_neg]
 rw[List.head?_drop,List.getElem?_eq_none (by omega)]
 simp
theorem xN (A:List Q4) (p:Q4) (h:twN (TG p) A<A.length) (he:A[twN (TG p) A]≠p):kp A p=A.take (twN (TG p) A)++[p]++A.drop (twN (TG p) A):=by
 rw[lI,if_neg]
 rw[List.head?_drop,List.getElem?_eq_getElem h]
 simpa using he
theorem vG (A:List Q4) (p:Q4):(kp A p).length≤A.length+1:=by
 rw[lI]
 split
 ·omega
 ·simp
  omega
def iT (cs ps:List Q4) (i:Nat):List Q4:=(ps.take i).foldl (dX cs) []
theorem mA (cs ps:List Q4) (i:Nat) (h:i<ps.length):iT cs ps (i+1)=dX cs (iT cs ps i) ps[i]:=by
 unfold iT
 rw[qaI h,List.foldl_append]
 rfl
theorem qeL (cs ps:List Q4):∀i,i≤ps.length→(iT cs ps i).length≤i
 |0,_=>by simp[iT]
 |i+1,h=>by
  rw[mA cs ps i (by omega)]
  have:=qeL cs ps i (by omega)
  unfold dX
  split
  ·have h2:=vG (iT cs ps i) (dG ps[i])
   omega
  ·omega
end
section
open Go.RowKit Go.Shelf
attribute [local go_sem] Ext.cell Ext.frozen
theorem de (n lo hi:Int) (w:World):Calls Tryz.prog 12 #[.int .i64 n, .int .i64 lo, .int .i64 hi] w fun e w'=>e= .returned (.bool (decide (lo≤n∧n≤hi)))∧w=w':=by
 by_cases h1:lo≤n
 ·by_cases h2:n≤hi
  ·go_enter Tryz.func12,Tryz.ntmps12
   go_wp2
   go_ret
   exact⟨ay (by simp[h1,h2]),rfl⟩
  ·go_enter Tryz.func12,Tryz.ntmps12
   go_wp2
   go_ret
   exact⟨ay (by simp[h2]),rfl⟩
 ·go_enter Tryz.func12,Tryz.ntmps12
  go_wp2
  go_ret
  exact⟨ay (by simp;omega),rfl⟩
end
section
open Go.RowKit Go.Shelf
set_option maxRecDepth 100000
attribute [local go_sem] Ext.cell Ext.frozen
theorem NZ {n lo hi:Int} {b:Bool} (h:decide (lo≤n∧n≤hi)=b) (w:World):Calls Tryz.prog 12 #[.int .i64 n, .int .i64 lo, .int .i64 hi] w (Ret w (.bool b)):=by
 subst h
 exact(de n lo hi w).mono fun e w' ⟨h1,h2⟩=>⟨h1,h2▸brf⟩
theorem PN (x y z q:Int) (w:World) (hq:0≤q∧q≤1000000):Calls Tryz.prog 114 #[V4 x y z q] w (Ret w (.bool (lw (x,y,z,q)))):=by
 obtain⟨m,hm⟩:∃m,300000*q=m:=⟨_,rfl⟩
 obtain⟨b1,h1⟩:∃b,decide (-m≤x∧x≤m)=b:=⟨_,rfl⟩
 obtain⟨b2,h2⟩:∃b,decide (-m≤y∧y≤m)=b:=⟨_,rfl⟩
 obtain⟨b3,h3⟩:∃b,decide (-m≤z∧z≤m)=b:=⟨_,rfl⟩
 have He:Hid (lw (x,y,z,q)=(b1&&(b2&&b3))):=YJ (by
  rw[←h1, ←h2, ←h3]
  unfold lw
  simp only[show -300000*q= -m by omega,hm,Bool.and_assoc])
 have H1:=fun W'=>YJ (NZ h1 W')
 have H2:=fun W'=>YJ (NZ h2 W')
 have H3:=fun W'=>YJ (NZ h3 W')
 have hp:wrap64 (300000*q)=m:=by unfold wrap64;omega
 have hn:wrap64 (-m)= -m:=by unfold wrap64;omega
 have hn2:IntKind.i64.wrap (-m)= -m:=IntWalk.i64_in _ (by omega)
 rw[He.out]
 clear h1 h2 h3 hm hq He
 go_enter Tryz.func114,Tryz.ntmps114
 go_wp2_with fail
 refine((H1 _).out).mono ?_
 rintro e w1 ⟨rfl,hb1⟩
 have hw1:Below w.heap.size w w1:=fB bel hb1
 have HX:=YJ ((hb1.block w.heap.size (by simp)).trans (ai rfl))
 have d0:=(bq HX.out 0).trans rfl
 have d1:=(bq HX.out 1).trans rfl
 have d2:=(bq HX.out 2).trans rfl
 simp only[qdp,qdq,qdr]at d0 d1 d2
 have dz:=ah HX.out
 clear hb1
 cases b1 with
 |false=>
  go_wp2
  go_ret
  exact⟨rfl,hw1⟩
 |true=>
  go_wp2_with fail
  refine((H2 _).out).mono ?_
  rintro e w2 ⟨rfl,hb2⟩
  have hw2:=fB hw1 hb2
  have HY:=YJ ((hb2.block _ dz).trans HX.out)
  clear d0 d1 d2 dz HX hb2 hw1
  have d2:=(bq HY.out 2).trans rfl
  simp only[qdp,qdq,qdr]at d2
  have dz:=ah HY.out
  cases b2 with
  |false=>
   go_wp2
   go_ret
   exact⟨rfl,hw2⟩
  |true=>
   go_wp2_with fail
   refine((H3 _).out).mono ?_
   rintro e w3 ⟨rfl,hb3⟩
   have hw3:=fB hw2 hb3
   go_wp2
   go_ret
   exact⟨rfl,hw3⟩
theorem Ps (a b c d:Int) (w:World):Calls Tryz.prog 135 #[V4 a b c d] w (Ret w (.int .i64 (bP (a,b,c,d)))):=by
 obtain⟨b1,h1⟩:∃t,decide (-8≤a∧a≤8)=t:=⟨_,rfl⟩
 obtain⟨b2,h2⟩:∃t,decide (-8≤b∧b≤8)=t:=⟨_,rfl⟩
 obtain⟨b3,h3⟩:∃t,decide (-8≤c∧c≤8)=t:=⟨_,rfl⟩
 obtain⟨b4,h4⟩:∃t,decide (-10000000≤d∧d≤10000000)=t:=⟨_,rfl⟩
 have H1:=fun W'=>YJ (NZ h1 W')
 have H2:=fun W'=>YJ (NZ h2 W')
 have H3:=fun W'=>YJ (NZ h3 W')
 have H4:=fun W'=>YJ (NZ h4 W')
 have E0:Hid ((b1&&b2&&b3&&b4)=false→bP (a,b,c,d)=2):=YJ (fun h=>cH (by
  rw[←h1, ←h2, ←h3, ←h4]at h
  simp at h
  omega))
 have E1:Hid ((b1&&b2&&b3&&b4)=true→bP (a,b,c,d)=if a=0∧b=0∧c=0 then 11 else 0):=YJ (fun h=>by
  rw[←h1, ←h2, ←h3, ←h4]at h
  simp at h
  exact oO (by omega) (by omega) (by omega) (by omega))
 clear h1 h2 h3 h4
 generalize bP (a,b,c,d)=r at*
 obtain⟨V,HV⟩:∃V,Hid (w.alloc (.cells #[.int .i64 a, .int .i64 b, .int .i64 c, .int .i64 d] 190)=V):=⟨_,YJ rfl⟩
 have hv:Below w.heap.size w V:=by rw[←HV.out];exact bel
 have HX:Hid (V.heap[w.heap.size]? =some (.cells #[.int .i64 a, .int .i64 b, .int .i64 c, .int .i64 d] 190 (0,0))):=YJ (by rw[←HV.out];exact ai rfl)
 have d0:=(bq HX.out 0).trans rfl
 have d1:=(bq HX.out 1).trans rfl
 have d2:=(bq HX.out 2).trans rfl
 have d3:=(bq HX.out 3).trans rfl
 simp only[qdp,qdq,qdr]at d0 d1 d2 d3
 have dz:=ah HX.out
 go_enter Tryz.func135,Tryz.ntmps135
 go_wp2_with fail
 rw[HV.out]
 go_wp2_with fail
 refine((H1 _).out).mono ?_
 rintro e w1 ⟨rfl,hy⟩
 have hb1:=fB hv hy
 have HX:=YJ ((hy.block _ dz).trans HX.out)
 clear d0 d1 d2 d3 dz hy hv
 have d0:=(bq HX.out 0).trans rfl
 have d1:=(bq HX.out 1).trans rfl
 have d2:=(bq HX.out 2).trans rfl
 have d3:=(bq HX.out 3).trans rfl
 simp only[qdp,qdq,qdr]at d0 d1 d2 d3
 have dz:=ah HX.out
 cases b1 with
 |false=>
  go_wp2
  go_ret
  exact⟨aK (E0.out (by simp)).symm,by first|assumption|(exact fB (by assumption) (by assumption))⟩
 |true=>
  go_wp2_with fail
  refine((H2 _).out).mono ?_
  rintro e w2 ⟨rfl,hy⟩
  have hb2:=fB hb1 hy
  have HX:=YJ ((hy.block _ dz).trans HX.out)
  clear d0 d1 d2 d3 dz hy hb1
  have d0:=(bq HX.out 0).trans rfl
  have d1:=(bq HX.out 1).trans rfl
  have d2:=(bq HX.out 2).trans rfl
  have d3:=(bq HX.out 3).trans rfl
  simp only[qdp,qdq,qdr]at d0 d1 d2 d3
  have dz:=ah HX.out
  cases b2 with
  |false=>
   go_wp2
   go_ret
   exact⟨aK (E0.out (by simp)).symm,by first|assumption|(exact fB (by assumption) (by assumption))⟩
  |true=>
   go_wp2_with fail
   refine((H3 _).out).mono ?_
   rintro e w3 ⟨rfl,hy⟩
   have hb3:=fB hb2 hy
   have HX:=YJ ((hy.block _ dz).trans HX.out)
   clear d0 d1 d2 d3 dz hy hb2
   have d0:=(bq HX.out 0).trans rfl
   have d1:=(bq HX.out 1).trans rfl
   have d2:=(bq HX.out 2).trans rfl
   have d3:=(bq HX.out 3).trans rfl
   simp only[qdp,qdq,qdr]at d0 d1 d2 d3
   have dz:=ah HX.out
   cases b3 with
   |false=>
    go_wp2
    go_ret
    exact⟨aK (E0.out (by simp)).symm,by first|assumption|(exact fB (by assumption) (by assumption))⟩
   |true=>
    go_wp2_with fail
    refine((H4 _).out).mono ?_
    rintro e w4 ⟨rfl,hy⟩
    have hb4:=fB hb3 hy
    have HX:=YJ ((hy.block _ dz).trans HX.out)
    clear d0 d1 d2 d3 dz hy hb3
    have d0:=(bq HX.out 0).trans rfl
    have d1:=(bq HX.out 1).trans rfl
    have d2:=(bq HX.out 2).trans rfl
    have d3:=(bq HX.out 3).trans rfl
    simp only[qdp,qdq,qdr]at d0 d1 d2 d3
    have dz:=ah HX.out
    cases b4 with
    |false=>
     go_wp2
     go_ret
     exact⟨aK (E0.out (by simp)).symm,by first|assumption|(exact fB (by assumption) (by assumption))⟩
    |true=>
     have E2:=YJ (E1.out (by simp))
     clear E0 E1 H1 H2 H3 H4
     by_cases ha:a=0
     ·subst ha
      by_cases hb:b=0
      ·subst hb
       by_cases hc:c=0
       ·subst hc
        go_wp2
        go_ret
        exact⟨aK (by rw[E2.out];simp),hb4⟩
       ·have hc':(c==0)=false:=by simpa using hc
        go_wp2
        go_ret
        exact⟨aK (by rw[E2.out];simp[hc]),hb4⟩
      ·have hb':(b==0)=false:=by simpa using hb
       go_wp2
       go_ret
       exact⟨aK (by rw[E2.out];simp[hb]),hb4⟩
     ·have ha':(a==0)=false:=by simpa using ha
      go_wp2
      go_ret
      exact⟨aK (by rw[E2.out];simp[ha]),hb4⟩
def Pd (ps:List Q4) (v:Q3):Bool:= !(ps.any fun p=>decide (0<bj (nrm p) v))&&nzB v
theorem QQ {ps:List Q4} {v:Q3} (i:Nat) (h:i<ps.length) (hs:0<bj (nrm ps[i]) v):Pd ps v=false:=by
 unfold Pd
 rw[ultj.2 ⟨ps[i],qaB h,by simpa using hs⟩]
 rfl
theorem QJ {ps:List Q4} {v:Q3} (h:∀i (h:i<ps.length),¬0<bj (nrm ps[i]) v):Pd ps v=nzB v:=by
 unfold Pd
 have:(ps.any fun p=>decide (0<bj (nrm p) v))=false:=by
  rw[ultp]
  intro p hp
  obtain⟨i,hi,rfl⟩:=qaJ hp
  simpa using h i hi
 rw[this];rfl
theorem Qy (ps:List Q4) (v0 v1 v2:Int) (pv:Value) (W:World) (hps:∀p∈ps,bI p) (hv0: -128≤v0∧v0≤128) (hv1: -128≤v1∧v1≤128) (hv2: -128≤v2∧v2≤128) (hl:ps.length≤1000000) (hpv:Q4s W pv ps):
  Calls Tryz.prog 187 #[pv,V3 v0 v1 v2] W (Ret W (.bool (Pd ps (v0,v1,v2)))):=by
 obtain⟨a,n,cc,rfl,hn,_,hx⟩:=hpv
 have HD:=fun i (h:i<ps.length) W'=>YJ (pG ps[i].1 ps[i].2.1 ps[i].2.2.1 v0 v1 v2 W' (hps _ (qaB h)).1 (hps _ (qaB h)).2.1 (hps _ (qaB h)).2.2.1 hv0 hv1 hv2)
 have Hno:Hid (∀i (h:i<ps.length),0<bj (nrm ps[i]) (v0,v1,v2)→Pd ps (v0,v1,v2)=false):=YJ (fun i h hs=>QQ i h hs)
 have Hyes:Hid ((∀i (h:i<ps.length),¬0<bj (nrm ps[i]) (v0,v1,v2))→Pd ps (v0,v1,v2)=(v0 !=0 || v1 !=0 || v2 !=0)):=YJ (fun h=>by
  rw[QJ h]
  unfold nzB
  by_cases a0:v0=0<;>by_cases a1:v1=0<;>by_cases a2:v2=0<;>first|rfl|simp[a0,a1,a2])
 generalize Pd ps (v0,v1,v2)=res at*
 obtain⟨V,HV⟩:∃V,Hid (W.alloc (.cells #[.int .i64 v0, .int .i64 v1, .int .i64 v2] 37)=V):=⟨_,YJ rfl⟩
 have hV:Below W.heap.size W V:=by rw[←HV.out];exact bel
 have HC:Hid (V.heap[W.heap.size]? =some (.cells #[.int .i64 v0, .int .i64 v1, .int .i64 v2] 37 (0,0))):=YJ (by rw[←HV.out];exact ai rfl)
 have HX:Hid (0<n→∃b off,a=some ⟨b,off,none⟩∧Q4At V b off ps):=YJ (fun h=>by obtain⟨b,off,e,h2⟩:=hx h;exact⟨b,off,e,h2.below hV⟩)
 clear hx hps
 go_enter Tryz.func187,Tryz.ntmps187
 go_wp2
 rw[HV.out]
 go_loopw [5] (fun x wr=>∃i:Nat,i≤n∧x= .int .i64 i∧Below V.heap.size V wr∧Hid (∀j (h:j<ps.length),j<i→¬0<bj (nrm ps[j]) (v0,v1,v2))) (fun x _=>n-(intOf x).toNat)
 case atStart=>exact⟨0,by omega,rfl,brf,YJ (fun j _ h=>by omega)⟩
 case round=>
  obtain⟨i,hi,rfl,hb,Hd⟩:=hrel
  have HCr:=YJ ((hb.block _ (ah HC.out)).trans HC.out)
  have f0:=(bq HCr.out 0).trans rfl
  have f1:=(bq HCr.out 1).trans rfl
  have f2:=(bq HCr.out 2).trans rfl
  simp only[qdp,qdq,qdr]at f0 f1 f2
  have zf:=ah HCr.out
  by_cases hlt:i<n
  ·have g1:(i:Int)<(n:Int):=by omega
   have g2:(0:Int)≤(i:Int):=by omega
   have hil:i<ps.length:=by omega
   obtain⟨b,off,rfl,hi4⟩:=HX.out (by omega)
   obtain⟨e0,e1,e2,e3⟩:=(hi4.below hb) i hil
   have ze:=qaC wr _ e0
   simp only at ze
   have HSi:=fun W'=>YJ ((HD i hil W').out)
   have Hno':=YJ (Hno.out i hil)
   have Hst:Hid (¬0<bj (nrm ps[i]) (v0,v1,v2)→∀j (h:j<ps.length),j<i+1→¬0<bj (nrm ps[j]) (v0,v1,v2)):=YJ (fun h j hj hji=>by
    by_cases e:j=i
    ·subst e;exact h
    ·exact Hd.out j hj (by omega))
   clear HD Hno Hd hi4 HX
   rw[show bj (nrm ps[i]) (v0,v1,v2)=ps[i].1*v0+ps[i].2.1*v1+ps[i].2.2.1*v2 from rfl]at Hno' Hst
   generalize ps[i].1*v0+ps[i].2.1*v1+ps[i].2.2.1*v2=s at*
   generalize ps[i]=p at*
   obtain⟨p0,p1,p2,p3⟩:=p
   simp only at e0 e1 e2 e3 HSi
   by_cases hs:0<s
   ·have hs':decide (0<s)=true:=qfX hs
    go_wp2
    refine wqb ?_
    repeat(first|go_big_quiet_step ((first|(go_at_call 113;exact aE (NN _ _ _ _ _))|(go_at_call 112;exact aE ((HSi _).out))))|quiet_step ((first|(go_at_call 113;exact aE (NN _ _ _ _ _))|(go_at_call 112;exact aE ((HSi _).out)))))
    refine wqn fun u=> ?_
    go_wp2
    go_ret
    exact⟨ay (Hno'.out hs).symm,fB hV (fB hb u.below)⟩
   ·have hs':decide (0<s)=false:=qfZ hs
    go_wp2
    refine wqb ?_
    repeat(first|go_big_quiet_step ((first|(go_at_call 113;exact aE (NN _ _ _ _ _))|(go_at_call 112;exact aE ((HSi _).out))))|quiet_step ((first|(go_at_call 113;exact aE (NN _ _ _ _ _))|(go_at_call 112;exact aE ((HSi _).out)))))
    refine wqn fun u=> ?_
    go_wp2
    go_roundw
    case rel=>exact⟨i+1,by omega,by go_num,fB hb u.below,YJ (fun j h hj=>by have:=Hst.out hs j h hj;omega)⟩
    simp[intOf];try omega
  ·obtain rfl:i=n:=by omega
   have g1:¬(i:Int)<(i:Int):=by omega
   have heq:=nL v0 v1 v2 0 0 0
   have hr:=YJ (Hyes.out (fun j h=>by have:=Hd.out j h (by omega);omega))
   go_wp2
   go_ret
   exact⟨ay (by rw[hr.out];rfl),fB hV hb⟩
def dnB (ps:List Q4) (i k m:Nat):Bool:=bj (dJ ps i k) (nrm (fk ps m))!=0
def ful (ps:List Q4) (i k m:Nat):Bool:=((List.range i).any fun i=>(List.range i).any fun k=>(List.range k).any (dnB ps i k)) || ((List.range k).any fun k=>(List.range k).any (dnB ps i k)) || (List.range m).any (dnB ps i k)
theorem QZ (ps:List Q4) (i k m:Nat):ful ps i k (m+1)=(ful ps i k m || dnB ps i k m):=by simp[ful,List.range_succ,Bool.or_assoc]
theorem Ra (ps:List Q4) (i k:Nat):ful ps i k k=ful ps i (k+1) 0:=by simp[ful,List.range_succ,Bool.or_assoc]
theorem Rb (ps:List Q4) (i:Nat):ful ps i i 0=ful ps (i+1) 0 0:=by simp[ful,List.range_succ,Bool.or_assoc]
theorem QK (a b:Q3):bj a (-b.1, -b.2.1, -b.2.2)= -bj a b:=by unfold bj;grind
theorem QR (b:Q3):nzB (-b.1, -b.2.1, -b.2.2)=nzB b:=by
 obtain⟨x,y,z⟩:=b
 unfold nzB
 rw[decide_eq_decide]
 simp only[ne_eq,Prod.mk.injEq]
 omega
theorem Qs (ps:List Q4) (i k:Nat):ij ps i k= !(Pd ps (dJ ps i k) || Pd ps (-(dJ ps i k).1, -(dJ ps i k).2.1, -(dJ ps i k).2.2)):=by
 unfold ij Pd mR mS
 rw[qgi,QR]
 generalize dJ ps i k=l
 have h1:(ps.any fun p=>decide (0<bj (nrm p) l))=ps.any fun r=>decide (0<bj l (nrm r)):=by simp only[vu l]
 have h2:(ps.any fun p=>decide (0<bj (nrm p) (-l.1, -l.2.1, -l.2.2)))=ps.any fun r=>decide (bj l (nrm r)<0):=by
  simp only[QK,vu l]
  congr 1
  funext r
  rw[decide_eq_decide]
  omega
 rw[h1,h2]
 generalize(ps.any fun r=>decide (0<bj l (nrm r)))=A
 generalize(ps.any fun r=>decide (bj l (nrm r)<0))=B
 cases A<;>cases B<;>cases nzB l<;>rfl
theorem QL (ps:List Q4) (h:∀i k,i<ps.length→k<i→ij ps i k=true):jw ps ps.length=ful ps ps.length 0 0:=by
 have e:∀a b:Bool,(a=true↔b=true)→a=b:=fun a b h=>by cases a<;>cases b<;>simp_all
 refine e _ _ ?_
 unfold jw Rq ful
 simp only[ultj,ultv,List.range_zero,List.any_nil,Bool.or_false]
 constructor
 ·rintro⟨i,hi,k,hk,hz⟩
  have hg:=h i k hi hk
  unfold ij at hg
  rw[hz]at hg
  simp only[Bool.not_true,Bool.false_or,qaF]at hg
  have ha:=hg.1
  unfold mR at ha
  rw[qgi,ultj]at ha
  obtain⟨r,hr,hd⟩:=ha
  obtain⟨m,hm,rfl⟩:=jA hr
  have hd':bN (fk ps i) (fk ps k) (fk ps m)≠0:=by
   have:0<bj (dJ ps i k) (nrm (fk ps m)):=by simpa using hd
   show bj (dJ ps i k) (nrm (fk ps m))≠0
   omega
  have hmi:m≠i:=fun e=>hd' (by rw[e];exact tt _ _)
  have hmk:m≠k:=fun e=>hd' (by rw[e];exact tr _ _)
  have q1:bN (fk ps i) (fk ps m) (fk ps k)≠0:=by rw[iH];omega
  have q2:bN (fk ps m) (fk ps i) (fk ps k)≠0:=by rw[gC];omega
  rcases(by omega:m<k∨(k<m∧m<i)∨i<m)with h1|h1|h1
  ·exact⟨i,hi,k,hk,m,h1,(show(bj (dJ ps i k) (nrm (fk ps m))!=0)=true from bne_iff_ne.2 hd')⟩
  ·exact⟨i,hi,m,h1.2,k,h1.1,(show(bj (dJ ps i m) (nrm (fk ps k))!=0)=true from bne_iff_ne.2 q1)⟩
  ·exact⟨m,hm,i,h1,k,hk,(show(bj (dJ ps m i) (nrm (fk ps k))!=0)=true from bne_iff_ne.2 q2)⟩
 ·rintro⟨i,hi,k,hk,m,hm,hd⟩
  refine⟨i,hi,k,hk, ?_⟩
  unfold nzB
  rw[qfV]
  intro e
  unfold dnB at hd
  rw[e]at hd
  simp[bj]at hd
theorem QS (a b c x y z:Int) (w:World) (h1: -1000000000000≤a*x∧a*x≤1000000000000) (h2: -1000000000000≤b*y∧b*y≤1000000000000) (h3: -1000000000000≤c*z∧c*z≤1000000000000):
  Calls Tryz.prog 112 #[V3 a b c,V3 x y z] w (Ret w (.int .i64 (a*x+b*y+c*z))):=by
 go_enter Tryz.func112,Tryz.ntmps112
 go_wp2
 go_ret
 exact⟨rfl,bel⟩
set_option maxRecDepth 100000 in
theorem PE (ps:List Q4) (pv:Value) (W:World) (hps:∀p∈ps,bI p) (hl:ps.length≤1000000) (hpv:Q4s W pv ps):
  Calls Tryz.prog 136 #[pv] W (Ret W (.bool (bx ps))):=by
 have Hpv:=YJ hpv
 obtain⟨a,n,cc,rfl,hn,_,hx⟩:=hpv
 have HX:Hid (0<n→∃b off,a=some ⟨b,off,none⟩∧Q4At W b off ps):=YJ hx
 have Hok:=fun i (h:i<ps.length)=>YJ (eV hps i h)
 have Hge:=fun i (h:i<ps.length)=>YJ (eN (ps:=ps) i h)
 have HRy:=fun v0 v1 v2 W' (h0: -128≤v0∧v0≤128) (h1: -128≤v1∧v1≤128) (h2: -128≤v2∧v2≤128) hb=>YJ (Qy ps v0 v1 v2 _ W' hps h0 h1 h2 hl (Hpv.out.below hb))
 have Hbad:=YJ (EI ps)
 have Hfin:Hid ((∀i k,i<n→k<i→ij ps i k=true)→bx ps=ful ps n 0 0):=YJ (fun h=>by
  rw[←hn]at h ⊢
  rw[nU ps h]
  exact QL ps h)
 have Hgd:=fun i k=>YJ (Qs ps i k)
 have Hm:=fun i k m=>YJ (QZ ps i k m)
 have Hk:=fun i k=>YJ (Ra ps i k)
 have Hi:=fun i=>YJ (Rb ps i)
 have H0:Hid (ful ps 0 0 0=false):=YJ rfl
 have Hdn:=fun i k m=>YJ (show dnB ps i k m=(bj (dJ ps i k) (nrm (fk ps m))!=0)from rfl)
 have Hli:=fun i k=>YJ (show dJ ps i k=aN (nrm (fk ps i)) (nrm (fk ps k))from rfl)
 generalize bx ps=res at*
 generalize ful ps=fl at*
 generalize dnB ps=dn at*
 generalize ij ps=gd at*
 generalize dJ ps=li at*
 clear hx hps Hpv
 go_enter Tryz.func136,Tryz.ntmps136
 go_wp2
 go_loopw [3,4] (fun s x wr=>∃i:Nat,i≤n∧x= .int .i64 i∧s= .bool (fl i 0 0)∧Below W.heap.size W wr∧Hid (∀i' k',i'<i→k'<i'→gd i' k'=true)) (fun _ x _=>n-(intOf x).toNat)
 case atStart=>exact⟨0,by omega,rfl,by rw[H0.out],brf,YJ (fun i j h=>by omega)⟩
 case round=>
  obtain⟨i,hi,rfl,rfl,hb,Hg⟩:=hrel
  by_cases hlt:i<n
  ·have g1:(i:Int)<(n:Int):=by omega
   have g2:(0:Int)≤(i:Int):=by omega
   have hil:i<ps.length:=by omega
   go_wp2
   go_loopw [3,5] (fun s x wr=>∃k:Nat,k≤i∧x= .int .i64 k∧s= .bool (fl i k 0)∧Below W.heap.size W wr∧Hid (∀k',k'<k→gd i k'=true)) (fun _ x _=>i-(intOf x).toNat)
   case atStart=>exact⟨0,by omega,rfl,rfl,hb,YJ (fun j h=>by omega)⟩
   case round=>
    clear hb
    obtain⟨k,hk,rfl,rfl,hb,Hgi⟩:=hrel
    by_cases hlk:k<i
    ·have g3:(k:Int)<(i:Int):=by omega
     have g4:(0:Int)≤(k:Int):=by omega
     have g4':(k:Int)<(n:Int):=by omega
     have hkl:k<ps.length:=by omega
     obtain⟨b,off,rfl,hi4⟩:=HX.out (by omega)
     obtain⟨x0,x1,x2,x3⟩:=(hi4.below hb) i hil
     obtain⟨y0,y1,y2,y3⟩:=(hi4.below hb) k hkl
     rw[(Hge i hil).out]at x0 x1 x2 x3
     rw[(Hge k hkl).out]at y0 y1 y2 y3
     have zx:=qaC wr _ x0
     simp only at zx
     have oP:=(Hok i hil).out
     have oQ:=(Hok k hkl).out
     have HLi:=YJ ((Hli i k).out)
     have Hgik:=YJ ((Hgd i k).out)
     have Hbik:=YJ (Hbad.out i k hil hlk)
     have Hdk:=fun m=>YJ ((Hdn i k m).out)
     have HI4:=YJ hi4
     have Hmk:=fun m=>YJ ((Hm i k m).out)
     have Hkk:=YJ ((Hk i k).out)
     clear hi4 Hdn Hli Hgd Hbad Hm Hk
     generalize fk ps i=P at*
     generalize fk ps k=Q at*
     obtain⟨P0,P1,P2,P3⟩:=P
     obtain⟨Q0,Q1,Q2,Q3⟩:=Q
     simp only at x0 x1 x2 x3 y0 y1 y2 y3
     simp only[bI]at oP oQ
     have bL0:=aL oP.2.1 oP.2.2.1 oQ.2.1 oQ.2.2.1
     have bL1:=aL oP.2.2.1 oP.1 oQ.2.2.1 oQ.1
     have bL2:=aL oP.1 oP.2.1 oQ.1 oQ.2.1
     rw[show aN (nrm (P0,P1,P2,P3)) (nrm (Q0,Q1,Q2,Q3))=(P1*Q2-P2*Q1,P2*Q0-P0*Q2,P0*Q1-P1*Q0)from rfl]at HLi
     have HC:=fun W'=>YJ (qeV P0 P1 P2 Q0 Q1 Q2 W' oP.1 oP.2.1 oP.2.2.1 oQ.1 oQ.2.1 oQ.2.2.1)
     generalize P1*Q2-P2*Q1=l0 at*
     generalize P2*Q0-P0*Q2=l1 at*
     generalize P0*Q1-P1*Q0=l2 at*
     generalize li i k=LL at*
     obtain rfl:=HLi.out
     clear HLi
     go_wp2
     apply aj [] [0,1,2,3,4,5,6,7,8,9,10,11] 12 [] [sv _,sv _,sv _,sv _,sv _,sv _,sv _,sv _,sv _,sv _,sv _,⟨yd wr.heap.size 37 #[.int .i64 0, .int .i64 0, .int .i64 0],by exact ar _ _ _⟩] (by kernel_rfl) (by kernel_rfl)
     iterate 4 ((try go_frame);refine wkQ ?_)
     try go_frame
     refine wkV ?_
     apply ex3
     ·intro u K hK
      go_simp
      refine(NN _ _ _ _ _).mono ?_
      rintro e w9 ⟨rfl,hb9⟩
      exact hK _ hb9
     rfl
     iterate 4 ((try go_frame);refine wkQ ?_)
     try go_frame
     refine wkV ?_
     apply ex3
     ·intro u K hK
      go_simp
      refine(NN _ _ _ _ _).mono ?_
      rintro e w9 ⟨rfl,hb9⟩
      exact hK _ hb9
     rfl
     try go_frame
     refine wkV ?_
     apply ex3
     ·intro u K hK
      go_simp
      refine((HC _).out).mono ?_
      rintro e w9 ⟨rfl,hb9⟩
      exact hK _ hb9
     rfl
     try go_frame
     refine wkU (fun u hR K hK=> ?_) (fun o11=> ?_)
     ·clear hR
      have zw:=u.size
      go_simp
      exact hK _ _ bel ⟨_,rfl,zw,ai rfl⟩
     try go_frame
     refine aI (fun u hR=> ?_)
     obtain⟨g,rfl,hg,hB⟩:yd wr.heap.size 37 #[.int .i64 0, .int .i64 0, .int .i64 0] o11 u.val:=hR 11 (by simp)
     have hbu:=u.below
     clear hR
     generalize u.val=wl at*
     clear u
     simp only[oas]
     have c0:=(bq hB 0).trans rfl
     have c1:=(bq hB 1).trans rfl
     have c2:=(bq hB 2).trans rfl
     have cf:=aC hB
     have cz:=ah hB
     simp only[qdp,qdq,qdr]at c0 c1 c2
     obtain⟨X,HX3⟩:∃X,Hid (jd wl g (.int .i64 l0) (.int .i64 l1) (.int .i64 l2)=X):=⟨_,YJ rfl⟩
     have hwX:Below W.heap.size W X:=by rw[←HX3.out];exact fB hb (dt hbu hg _ _ _)
     have HL:Hid (X.heap[g]? =some (.cells #[.int .i64 l0, .int .i64 l1, .int .i64 l2] 37 (0,0))):=YJ (by rw[←HX3.out];exact eh hB _ _ _)
     have eX:((wl.setCell ⟨g,0,none⟩ (.int .i64 l0)).setCell ⟨g,1,none⟩ (.int .i64 l1)).setCell ⟨g,2,none⟩ (.int .i64 l2)=X:=HX3.out
     clear hB hbu x0 x1 x2 x3 y0 y1 y2 y3 zx HC hb
     have hb:=hwX
     clear hwX
     go_wp2
     refine NoPanic.normal ?_
     try rw[eX]
     clear eX HX3 c0 c1 c2 cf cz
     have e0:=(bq HL.out 0).trans rfl
     have e1:=(bq HL.out 1).trans rfl
     have e2:=(bq HL.out 2).trans rfl
     simp only[qdp,qdq,qdr]at e0 e1 e2
     have ez:=ah HL.out
     have HR1:=YJ ((HRy l0 l1 l2 X (by omega) (by omega) (by omega) hb).out)
     have HR2:=fun W' hb=>YJ ((HRy (-l0) (-l1) (-l2) W' (by omega) (by omega) (by omega) hb).out)
     clear HRy
     generalize Pd ps (l0,l1,l2)=ra at*
     try simp only at Hgik
     generalize Pd ps (-l0, -l1, -l2)=rb at*
     have n0:wrap64 (-l0)= -l0:=by unfold wrap64;omega
     have n1:wrap64 (-l1)= -l1:=by unfold wrap64;omega
     have n2:wrap64 (-l2)= -l2:=by unfold wrap64;omega
     have n0':IntKind.i64.wrap (-l0)= -l0:=IntWalk.i64_in _ (by omega)
     have n1':IntKind.i64.wrap (-l1)= -l1:=IntWalk.i64_in _ (by omega)
     have n2':IntKind.i64.wrap (-l2)= -l2:=IntWalk.i64_in _ (by omega)
     go_wp2_with fail
     refine(HR1.out).mono ?_
     rintro e w1 ⟨rfl,hb1⟩
     have HL1:=YJ ((hb1.block _ ez).trans HL.out)
     have hb':=fB hb hb1
     clear hb HL e0 e1 e2 ez hb1 HR1
     have hb:=hb'
     have HL:=HL1
     clear hb' HL1
     have e0:=(bq HL.out 0).trans rfl
     have e1:=(bq HL.out 1).trans rfl
     have e2:=(bq HL.out 2).trans rfl
     simp only[qdp,qdq,qdr]at e0 e1 e2
     have ez:=ah HL.out
     cases ra with
     |true=>
      go_wp2
      go_ret
      exact⟨ay (Hbik.out (by rw[Hgik.out];rfl)).symm,hb⟩
     |false=>
      go_wp2_with fail
      refine((HR2 _ hb).out).mono ?_
      rintro e w2 ⟨rfl,hb1⟩
      have HL1:=YJ ((hb1.block _ ez).trans HL.out)
      have hb':=fB hb hb1
      clear hb HL e0 e1 e2 ez hb1 HR2 n0 n1 n2 n0' n1' n2'
      have hb:=hb'
      have HL:=HL1
      clear hb' HL1
      have e0:=(bq HL.out 0).trans rfl
      have e1:=(bq HL.out 1).trans rfl
      have e2:=(bq HL.out 2).trans rfl
      simp only[qdp,qdq,qdr]at e0 e1 e2
      have ez:=ah HL.out
      cases rb with
      |true=>
       go_wp2
       go_ret
       exact⟨ay (Hbik.out (by rw[Hgik.out];rfl)).symm,hb⟩
      |false=>
       have Hgt:Hid (gd i k=true):=YJ (by rw[Hgik.out];rfl)
       clear Hgik Hbik
       go_wp2
       go_loopw [3,7] (fun s x wr=>∃m:Nat,m≤k∧x= .int .i64 m∧s= .bool (fl i k m)∧Below W.heap.size W wr∧Hid (wr.heap[g]? =some (.cells #[.int .i64 l0, .int .i64 l1, .int .i64 l2] 37 (0,0)))) (fun _ x _=>k-(intOf x).toNat)
       case atStart=>exact⟨0,by omega,rfl,rfl,hb,HL⟩
       case round=>
        clear hb HL e0 e1 e2 ez
        obtain⟨m,hm,rfl,rfl,hb,HL⟩:=hrel
        by_cases hlm:m<k
        ·have g5:(m:Int)<(k:Int):=by omega
         have g6:(0:Int)≤(m:Int):=by omega
         have g6':(m:Int)<(n:Int):=by omega
         have hml:m<ps.length:=by omega
         obtain⟨x0,x1,x2,x3⟩:=(HI4.out.below hb) m hml
         rw[(Hge m hml).out]at x0 x1 x2 x3
         have zx:=qaC wr _ x0
         simp only at zx
         have oR:=(Hok m hml).out
         have Hd:=YJ ((Hdk m).out)
         have Hm':=YJ ((Hmk m).out)
         clear Hmk Hdk
         generalize fk ps m=R at*
         obtain⟨R0,R1,R2,R3⟩:=R
         simp only at x0 x1 x2 x3
         simp only[bI]at oR
         have m0:=aJ bL0.1 bL0.2 oR.1.1 oR.1.2
         have m1:=aJ bL1.1 bL1.2 oR.2.1.1 oR.2.1.2
         have m2:=aJ bL2.1 bL2.2 oR.2.2.1.1 oR.2.2.1.2
         have HD:=fun W'=>YJ (QS l0 l1 l2 R0 R1 R2 W' (by omega) (by omega) (by omega))
         rw[show bj (l0,l1,l2) (nrm (R0,R1,R2,R3))=l0*R0+l1*R1+l2*R2 from rfl]at Hd
         generalize l0*R0+l1*R1+l2*R2=s at*
         generalize fl i k m=F at*
         generalize dn i k m=d at*
         have e0:=(bq HL.out 0).trans rfl
         have e1:=(bq HL.out 1).trans rfl
         have e2:=(bq HL.out 2).trans rfl
         simp only[qdp,qdq,qdr]at e0 e1 e2
         have ez:=ah HL.out
         clear m0 m1 m2
         cases F with
         |true=>
          go_wp2
          refine wqf fun u=> ?_
          go_wp2
          go_roundw
          case rel=>exact⟨m+1,by omega,by go_num,by rw[Hm'.out];first|(rw[Bool.true_or];done)|(rw[Bool.true_or];rfl),fB hb u.below,YJ ((u.below.block _ ez).trans HL.out)⟩
          simp[intOf];try omega
         |false=>
          by_cases hs:s=0
          ·have hs':(s !=0)=false:=by simpa using hs
           rw[hs']at Hd
           go_wp2
           refine wqb ?_
           repeat(first|go_big_quiet_step ((first|(go_at_call 113;exact aE (NN _ _ _ _ _))|(go_at_call 112;exact aE ((HD _).out))))|quiet_step ((first|(go_at_call 113;exact aE (NN _ _ _ _ _))|(go_at_call 112;exact aE ((HD _).out)))))
           refine wqn fun u=> ?_
           go_wp2
           go_roundw
           case rel=>exact⟨m+1,by omega,by go_num,by rw[Hm'.out];first|(rw[Hd.out];done)|(rw[Hd.out];rfl),fB hb u.below,YJ ((u.below.block _ ez).trans HL.out)⟩
           simp[intOf];try omega
          ·have hs':(s !=0)=true:=by simpa using hs
           rw[hs']at Hd
           go_wp2
           refine wqb ?_
           repeat(first|go_big_quiet_step ((first|(go_at_call 113;exact aE (NN _ _ _ _ _))|(go_at_call 112;exact aE ((HD _).out))))|quiet_step ((first|(go_at_call 113;exact aE (NN _ _ _ _ _))|(go_at_call 112;exact aE ((HD _).out)))))
           refine wqn fun u=> ?_
           go_wp2
           go_roundw
           case rel=>exact⟨m+1,by omega,by go_num,by rw[Hm'.out];first|(rw[Hd.out];done)|(rw[Hd.out];rfl),fB hb u.below,YJ ((u.below.block _ ez).trans HL.out)⟩
           simp[intOf];try omega
        ·obtain rfl:m=k:=by omega
         have g5:¬(m:Int)<(m:Int):=by omega
         go_wp2
         go_roundw
         case rel=>exact⟨m+1,by omega,by go_num,by rw[Hkk.out],hb,YJ (fun k' h=>by
          by_cases e:k'=m
          ·subst e;exact Hgt.out
          ·exact Hgi.out k' (by omega))⟩
         simp[intOf];try omega
    ·obtain rfl:k=i:=by omega
     have g3:¬(k:Int)<(k:Int):=by omega
     go_wp2
     go_roundw
     case rel=>exact⟨k+1,by omega,by go_num,by rw[(Hi k).out],hb,YJ (fun i' k' h1 h2=>by
      by_cases e:i'=k
      ·subst e;exact Hgi.out k' (by omega)
      ·exact Hg.out i' k' (by omega) h2)⟩
     simp[intOf];try omega
  ·obtain rfl:i=n:=by omega
   have g1:¬(i:Int)<(i:Int):=by omega
   go_wp2
   go_ret
   exact⟨ay (Hfin.out Hg.out).symm,hb⟩
def bV (n:List Int) (i:Nat):Int:=if i=0 then -(n.getD 1 0)else n.getD (4+2*i) 0
def eZ (t:Int) (n:List Int) (i:Nat):Bool:=
 decide (bV n i+2*n.getD 1 0<n.getD (6+2*i) 0)&&decide (n.getD 1 0<n.getD (7+2*i) 0∧n.getD (7+2*i) 0<t-n.getD 1 0)
def dW (l:Int) (n:List Int):Bool:=aD [0,n.getD 1 0,n.getD 2 0,2*n.getD 1 0]&&
 decide (0<n.getD 3 0∧0<n.getD 4 0∧0≤n.getD 5 0∧n.getD 4 0+n.getD 5 0<n.getD 0 0∧n.getD 0 0+n.getD 3 0+n.getD 5 0<l)
def bQ (l w t:Int) (n:List Int):Bool:=
 dW l n&&(List.range ((n.length-6) / 2)).all (eZ t n)&&decide (bV n ((n.length-6) / 2)+n.getD 1 0<w)
def fH (l t:Int) (n:List Int):Bool:=
 decide (1≤n.getD 1 0∧n.getD 1 0≤8)&&decide (-8≤n.getD 2 0∧n.getD 2 0≤8)&&decide (n.getD 2 0≠0)&&((n.getD 2 0*t).tmod (n.getD 1 0)==0)&&
 bB 0 l [n.getD 0 0,n.getD 0 0+(n.getD 2 0*t).tdiv (n.getD 1 0)]
def iG (l w t:Int) (n:List Int):Bool:=
 decide (l=w∧0<n.getD 1 0∧0<n.getD 2 0∧n.getD 1 0+n.getD 2 0≤n.getD 0 0∧n.getD 0 0+n.getD 1 0+n.getD 2 0≤2*l)&&aD [0,n.getD 3 0,n.getD 4 0,t]
def fj (l:Int) (n:List Int):Bool:=decide (0<n.getD 0 0∧0≤n.getD 1 0∧n.getD 0 0+n.getD 1 0<l)
def cU (k l w t:Int) (n:List Int):Bool:=
 if k=0 then aD [0,n.getD 0 0,t]
 else if k=1 then aD [0,n.getD 0 0,n.getD 1 0,t]
 else if k=2 then aD [0,n.getD 0 0,n.getD 1 0,w]&&aD [0,n.getD 2 0,n.getD 3 0,t]
 else if k=3 then aD [0,n.getD 2 0,n.getD 3 0,w]&&aD [0,n.getD 4 0,n.getD 5 0,t]&&fj l n
 else if k=4 then aD [0,n.getD 2 0,n.getD 3 0,t]&&fj l n
 else if k=5 then bF l w n
 else if k=6 then fH l t n
 else if k=7 then aD ([0]++n++[w])
 else if k=8 then bQ l w t n
 else if k=9 then iG l w t n
 else aD [0,n.getD 0 0,t]&&aD [0,n.getD 1 0,n.getD 2 0,l]&&aD [0,n.getD 3 0,n.getD 4 0,w]
end
section
open Go.RowKit
section
variable {P:Program} {ops:Array Oper} {md:Region.Mode} {Q:Exit→Act→World→Prop}
def vK (P:Program) (ops:Array Oper) (S:World→Prop) (Q:Exit→Act→World→Prop) (fin:List Nat):List Nat→Exit→Act→World→Prop
 | []=>Mid P ops S Q (bu ops fin)
 |m::ms=>fun e a w=>match e with
  | .normal=>S w∧wpList P ops (vK P ops S Q fin ms) (bu ops [m]) a w
  |_=>False
theorem pY {S:World→Prop} {fin:List Nat} {m g:Nat} {listed:Array Bool} {a:Act} {w:World} (hB:Region.ready md ops listed=[m]) {R:Exit→Act→World→Prop} {T:Act→World→Prop} (hR:R=fun e a w=>match e with| .normal=>S w∧T a w|_=>False)
  (h:wpList P ops R (bu ops [m]) a w) (hT:∀a' w',T a' w'→jX P md ops Q S fin g (listed.setIfInBounds m true) a' w'):jX P md ops Q S fin (g+1) listed a w:=by
 have hi:m∈Region.ready md ops listed:=by rw[hB];simp
 obtain⟨_,om,hom,_⟩:=mem_ready.1 hi
 refine⟨fun h1=>(by rw[hB]at h1;cases h1),fun j hj=> ?_⟩
 rw[hB]at hj
 have hji:j=m:=by simpa using hj
 subst hji
 have h':wpList P ops R [om] a w:=by simpa [bu,hom]using h
 have:=lR (Q:=Q) h' j hom (fun e a w he=>by subst hR;cases e<;>first|rfl|exact he.elim)
 refine wpOp_mono (fun a' w' h'=> ?_) this
 subst hR
 exact⟨fun _=>h'.1,hT _ _ h'.2⟩
theorem qbW {S:World→Prop} {f0:Nat} {fs:List Nat}:∀(ms:List Nat) (t0:Nat) (listed:Array Bool) (a:Act) (w:World),bJ md ops (t0::(ms++f0::fs)) listed=true→wpList P ops (vK P ops S Q (f0::fs) ms) (bu ops [t0]) a w→
  jX P md ops (NoPanic Q) S (f0::fs) (1+(ms.length+(fs.length+1))) listed a w
 | [],t0,listed,a,w,hB,h=>by
  simp only[bJ,List.nil_append,qaF,qfV]at hB
  rw[show 1+(([]:List Nat).length+(fs.length+1))=(fs.length+1)+1 by simp;omega]
  refine pY hB.1 (T:=fun a' w'=>wpList P ops (NoPanic Q) (bu ops (f0::fs)) a' w') (by funext e a w;cases e<;>rfl) h fun a' w' h'=> ?_
  exact ie (f0::fs) _ a' w' (fun _ h=>h) (by simp only[bJ,qaF,qfV];exact hB.2) h'
 |m::ms,t0,listed,a,w,hB,h=>by
  rw[List.cons_append]at hB
  have hB1:Region.ready md ops listed=[t0]∧bJ md ops (m::(ms++f0::fs)) (listed.setIfInBounds t0 true)=true:=by
   rw[bJ,qaF,qfV]at hB
   exact hB
  rw[show 1+((m::ms).length+(fs.length+1))=(1+(ms.length+(fs.length+1)))+1 by simp;omega]
  exact pY hB1.1 (T:=fun a' w'=>wpList P ops (vK P ops S Q (f0::fs) ms) (bu ops [m]) a' w') (by funext e a w;cases e<;>rfl) h fun a' w' h'=>qbW ms m _ a' w' hB1.2 h'
theorem Pp {f0:Nat} {fs:List Nat}:∀(l:List Nat),cT md ops (l++f0::fs)=true→cT md ops (f0::fs)=true
 | [],h=>h
 | [x],h=>by
  simp only[List.cons_append,List.nil_append,cT,qaF]at h
  simpa only[cT]using h.2
 |x::y::l,h=>Pp (y::l) (by
  simp only[List.cons_append,cT,qaF]at h ⊢
  simpa only[cT]using h.2)
theorem ot {wi ci:List Nat} {t0 f0:Nat} {ms fs:List Nat} (hB:il md ops wi ci t0 (ms++f0::fs)=true) {S:World→Prop} {R:Nat→Value→World→Prop} {a0:Act} {w0:World}
  (hS:∀u:Ext w0,S u.val) (hst:∀i v w w',Below w.heap.size w w'→R i v w→R i v w')
  (hob:∀i∈ci,∀vals,gOp P md ops R w0 Q i vals (frm ops a0 vals (bw ops ci i)))
  (hfin:∀vals w',Below w0.heap.size w0 w'→(∀i∈ci,R i (vals i) w')→wpList P ops (vK P ops S Q (f0::fs) ms) (bu ops [t0]) (frm ops a0 vals (bw ops ci ops.size)) w'):
  ∀(f:Nat) (listed:Array Bool) (vals:Nat→Value) (w:World),Inv md ops (t0::(ms++f0::fs)) listed→(∀i∈wi,listed.getD i false=true)→(ci.filter fun i=> !listed.getD i false).length=f→Below w0.heap.size w0 w→
   (∀j,listed.getD j false=true→R j (vals j) w)→jX P md ops (NoPanic Q) S (f0::fs) (f+(1+(ms.length+(fs.length+1)))) listed (frm ops a0 vals listed) w:=by
 simp only[il,qaF,qfV]at hB
 obtain⟨⟨⟨⟨⟨⟨⟨⟨⟨⟨⟨⟨⟨⟨hsel,hd⟩,hnd⟩,_⟩,htl⟩,hsz⟩,hs⟩,_⟩,_⟩,_⟩,hc⟩,hdis⟩,hcov⟩,hop⟩,hfo⟩:=hB
 have hit:∀i∈ci,i ∉ t0::(ms++f0::fs):=fun i hi=>by have:=alsi.1 hdis i hi;simpa using this
 have hcv:∀j,j<ops.size→j∈ci∨j∈t0::(ms++f0::fs):=fun j hj=>by have:=alsi.1 hcov j (ultv.2 hj);simpa using this
 have hops:∀i∈ci,∃o,ops[i]? =some o∧(∀e∈o.after,Region.binds md e=true→e.on<i∧e.on∈ci)∧(∀j,j<ops.size→j∈t0::(ms++f0::fs)∨Region.waitsFor md ops i j=true∨∀d,aM ops j=some d→d ∉ o.looksAt ops):=fun i hi=>by
  have h:=alsi.1 hop i hi
  cases ho:ops[i]? with
  |none=>rw[ho]at h;cases h
  |some o=>
   rw[ho]at h
   simp only[qaF]at h
   obtain⟨he,hl⟩:=h
   refine⟨o,rfl,fun e hem hb=> ?_,fun j hj=> ?_⟩
   ·have:=Array.all_eq_true'.1 he e hem
    simpa [hb]using this
   ·have:=alsi.1 hl j (ultv.2 hj)
    simp only[qgf]at this
    rcases this with(h|h)|h
    ·exact .inl (by simpa using h)
    ·exact .inr (.inl h)
    ·refine .inr (.inr fun d hd hm=> ?_)
     rw[hd]at h
     simp[hm]at h
 intro f
 induction f with
 |zero=>
  intro listed vals w inv hwi hcnt hb hR
  have hall:∀i∈ci,listed.getD i false=true:=fun i hi=>by
   have:=List.filter_eq_nil_iff.1 (alto.1 hcnt) i hi
   simpa using this
  have hL:listed=bw ops ci ops.size:=by
   have hsz2:(bw ops ci ops.size).size=ops.size:=by simp[bw]
   apply Array.ext (by rw[inv.size,hsz2])
   intro j h1 h2
   have e1:listed[j]=listed.getD j false:=by simp[Array.getD,h1]
   have e2:(bw ops ci ops.size)[j]=(bw ops ci ops.size).getD j false:=by simp[Array.getD,h2]
   have hj:j<ops.size:=by rw[←inv.size];exact h1
   rw[e1,e2,bg]
   rcases hcv j hj with h|h
   ·rw[hall j h];simp[hj,h]
   ·rw[getD_both (inv.tail j h hj)]
    have:j ∉ ci:=fun hh=>hit j hh h
    simp[this]
  subst hL
  rw[qfW]
  exact qbW ms t0 _ _ w hfo (hfin vals w hb fun i hi=>hR i (hall i hi))
 |succ f ih=>
  intro listed vals w inv hwi hcnt hb hR
  have hlt:∀i∈ci,i<listed.size:=fun i hi=>by
   obtain⟨o,ho,_⟩:=hops i hi
   rw[inv.size];exact(alsl.1 ho).1
  have hun:∃i∈ci,listed.getD i true=false:=by
   cases hfl:(ci.filter fun i=> !listed.getD i false)with
   |nil=>rw[hfl]at hcnt;cases hcnt
   |cons i l=>
    have hi:i∈ci.filter fun i=> !listed.getD i false:=by rw[hfl];simp
    obtain⟨h1,h2⟩:=alsm.1 hi
    exact⟨i,h1,getD_in (hlt i h1) (by simpa using h2)⟩
  have hex:∀n i,i≤n→i∈ci→listed.getD i true=false→∃k,k∈Region.ready md ops listed:=by
   intro n
   induction n with
   |zero=>
    intro i hin hi hu
    obtain⟨o,ho,he,_⟩:=hops i hi
    exact⟨i,mem_ready.2 ⟨hu,o,ho,fun e hem hb=>by have:=(he e hem hb).1;omega⟩⟩
   |succ n ihn=>
    intro i hin hi hu
    obtain⟨o,ho,he,_⟩:=hops i hi
    by_cases hall:∀e∈o.after,Region.binds md e=true→listed.getD e.on false=true
    ·exact⟨i,mem_ready.2 ⟨hu,o,ho,hall⟩⟩
    ·simp only[Classical.not_forall]at hall
     obtain⟨e,hem,hb,hn⟩:=hall
     obtain⟨h1,h2⟩:=he e hem hb
     exact ihn e.on (by omega) h2 (getD_in (hlt _ h2) (by simpa using hn))
  obtain⟨i1,hi1,hu1⟩:=hun
  obtain⟨k,hk⟩:=hex i1 i1 (qaA _) hi1 hu1
  rw[show f+1+(1+(ms.length+(fs.length+1)))=(f+(1+(ms.length+(fs.length+1))))+1 by omega]
  refine⟨fun h0=>(by rw[h0]at hk;cases hk),fun i hi=> ?_⟩
  have htt:∀t∈t0::(ms++f0::fs),listed.getD t true=false:=fun t ht=>inv.tail t ht (by have:=alsi.1 htl t ht;simpa using this)
  have hnt:i ∉ t0::(ms++f0::fs):=fun h=>by
   rcases alsk.1 h with rfl|h
   ·exact dm inv _ hs ⟨i1,alsm.2 ⟨hi1,by
     have hnw:i1 ∉ wi:=fun hh=>by have:=hwi i1 hh;rw[getD_both hu1]at this;cases this
     simpa using hnw⟩,hu1⟩ hi
   ·exact Bd htt t0 (ms++f0::fs) (fun _ h=>h) hc i h hi
  obtain⟨hu,o,ho,hall⟩:=mem_ready.1 hi
  have hic:i∈ci:=by
   rcases hcv i (alsl.1 ho).1 with h|h
   ·exact h
   ·exact absurd h hnt
  obtain⟨o',ho',he,hlk⟩:=hops i hic
  obtain rfl:o=o':=qgb (ho.symm.trans ho')
  have hdep:∀j,Region.waitsFor md ops i j=true→listed.getD j false=true∧j<i∧j∈ci:=fun j hj=>by
   obtain⟨oj,hoj,e,hem,hb',hon⟩:=Region.waitsFor_spec hj
   obtain rfl:o=oj:=qgb (ho.symm.trans hoj)
   subst hon
   exact⟨hall e hem hb',he e hem hb'⟩
  obtain⟨o2,d,ho2,hdst,hds,hwp⟩:=hob i hic vals w hb (fun j hj=>hR j (hdep j hj).1)
  obtain rfl:o=o2:=qgb (ho.symm.trans ho2)
  have hag:∀d∈o.looksAt ops,∀j,aM ops j=some d→listed.getD j false=(bw ops ci i).getD j false:=(fun d hd j hj=>by
   have hjs:j<ops.size:=by
    rcases Nat.lt_or_ge j ops.size with h|h
    ·exact h
    ·unfold aM at hj;rw[Array.getElem?_eq_none h]at hj;cases hj
   rw[bg]
   rcases hlk j hjs with h|h|h
   ·rw[getD_both (htt j h)]
    have:j ∉ ci:=fun hh=>hit j hh h
    simp[this]
   ·obtain⟨h1,h2,h3⟩:=hdep j h
    rw[h1];simp[hjs,h2,h3]
   ·exact absurd hd (h d hj))
  have hex2:execOp (frm ops a0 vals listed).eval o=execOp (frm ops a0 vals (bw ops ci i)).eval o:=gA o (fun cs b=>Region.noSelect_spec hsel i o cs b ho) hag
  have hwn:=eC (a0:=a0) (vals:=vals) o hag
  have hdo:aM ops i=o.dst:=by simp[aM,ho]
  have key:∀v w'',Below w.heap.size w w''→R i v w''→(i ∉ f0::fs→S w'')∧jX P md ops (NoPanic Q) S (f0::fs) (f+(1+(ms.length+(fs.length+1)))) (listed.setIfInBounds i true) ((frm ops a0 vals listed).put o.dst v) w'':=fun v w'' hbw hRv=>by
   refine⟨fun _=>hS ⟨w'',fB hb hbw⟩, ?_⟩
   rw[←hdo,dU hd (hlt i hic)]
   refine ih _ _ w'' (inv.set hi hnt) (fun k hk=>by
    by_cases hki:i=k
    ·subst hki
     have:=hwi i hk
     rw[getD_both hu]at this;cases this
    ·rw[getD_set_ne false hki];exact hwi k hk) ?_ (fB hb hbw) (fun j hj=> ?_)
   ·have:=fy hnd hic hu
    omega
   ·by_cases hji:j=i
    ·subst hji;simpa [upd]using hRv
    ·rw[getD_set_ne false (fun h=>hji h.symm)]at hj
     simp only[upd,if_neg hji]
     exact hst j _ _ _ hbw (hR j hj)
  unfold wpOp
  simp only[ho]
  rw[hwn]
  split
  ·rename_i hw
   rw[if_pos hw]at hwp
   refine .inl (Oper.wp_mono ?_ (iB hex2 hdst hds hwp))
   rintro x w'' ⟨v,rfl,hbw,hRv⟩
   exact key v w'' hbw hRv
  ·rename_i hw
   rw[if_neg hw]at hwp
   exact key undef w (brf) hwp
def pZ (P:Program) (ops:Array Oper) (S:World→Prop) (R:Nat→Value→World→Prop):List Nat→Act→Prop
 | [],_=>True
 |i::l,a=>∃o v,ops[i]? =some o∧YieldsIf P ops S o v a∧R i=IsV v∧pZ P ops S R l (a.put o.dst v)
theorem gR {S:World→Prop} {R:Nat→Value→World→Prop} {a:Act}:pZ P ops S R [] a:=trivial
theorem du {S:World→Prop} {R:Nat→Value→World→Prop} {i:Nat} {l:List Nat} {a:Act} {o:Oper} (ho:ops[i]? =some o) (hg:o.guard=none)
  (h:∃v,(∀w,S w→(execOp a.eval o).run P w= .ok (.value v) w)∧R i=IsV v∧pZ P ops S R l (a.put o.dst v)):pZ P ops S R (i::l) a:=by
 obtain⟨v,h1,h2,h3⟩:=h
 exact⟨o,v,ho, .inl ⟨by unfold Region.wanted;rw[hg],h1⟩,h2,h3⟩
theorem nA {wi cs:List Nat} {f0:Nat} {fs:List Nat} (hsel:Region.noSelect ops=true) (hd:gZ ops=true) {S:World→Prop} {R:Nat→Value→World→Prop} {a0:Act} {w:World} {g:Nat}
  (hB2:fQ md ops f0 cs=true) (hc:cT md ops (f0::fs)=true) (hwc:∀i∈wi,i∈cs) (hit:∀i∈wi,i ∉ f0::fs) (hSw:S w)
  (hK:∀listed vals,Inv md ops (f0::fs) listed→(∀i,listed.getD i false=true↔i∈wi)→(∀j,listed.getD j false=true→R j (vals j) w)→jX P md ops (NoPanic Q) S (f0::fs) g listed (frm ops a0 vals listed) w):
  ∀(l pre:List Nat) (listed:Array Bool) (vals:Nat→Value),wi=pre++l→(∀i,listed.getD i false=true↔i∈pre)→Inv md ops (f0::fs) listed→(∀j,listed.getD j false=true→R j (vals j) w)→
   pr md ops (fun _=>true) l listed=true→pZ P ops S R l (frm ops a0 vals listed)→jX P md ops (NoPanic Q) S (f0::fs) (l.length+g) listed (frm ops a0 vals listed) w
 | [],pre,listed,vals,he,hl,inv,hR,_,_=>by
  rw[qgd]at he
  subst he
  simpa using hK listed vals inv hl hR
 |i::l,pre,listed,vals,he,hl,inv,hR,hB,h=>by
  simp only[pr,qaF]at hB
  obtain⟨⟨hr,hf⟩,hB'⟩:=hB
  have hr':i∈Region.ready md ops listed:=by simpa using hr
  obtain⟨hu,oi,hoi,_⟩:=mem_ready.1 hr'
  obtain⟨o,v,ho,hy,hRv,h'⟩:=h
  obtain rfl:oi=o:=qgb (hoi.symm.trans ho)
  have hdo:aM ops i=oi.dst:=by simp[aM,ho]
  have hlt:i<listed.size:=by rw[inv.size];exact(alsl.1 ho).1
  have hiw:i∈wi:=by rw[he];simp
  have hset:(listed.setIfInBounds i true).getD i false=true:=by simp[Array.getD,hlt]
  rw[show(i::l).length+g=(l.length+g)+1 by simp;omega]
  refine lQ hoi (Region.noSelect_spec hsel) (fun c a w h=>h) cs hB2 hc (hwc i hiw) _ listed _ w inv (Region.free_spec hoi hf) hr' hy hSw ?_
  rw[←hdo,dU hd hlt]at h' ⊢
  refine nA hsel hd hB2 hc hwc hit hSw hK l (pre++[i]) _ _ (by rw[he];simp) (fun k=> ?_) (inv.set hr' (hit i hiw)) (fun j hj=> ?_) hB' h'
  ·by_cases hki:k=i
   ·subst hki;rw[hset];simp
   ·rw[getD_set_ne false (fun h=>hki h.symm),hl k];simp[hki]
  ·by_cases hji:j=i
   ·subst hji;rw[hRv];simp[upd,IsV]
   ·rw[getD_set_ne false (fun h=>hji h.symm)]at hj
    simp only[upd,if_neg hji]
    exact hR j hj
theorem Ae {R:Nat→Value→World→Prop} {w0:World} {F:(Nat→Value)→Act→Prop} {i:Nat} {l:List Nat} {vals:Nat→Value} {a:Act} {o:Oper} {d:Nat} (ho:ops[i]? =some o) (hd:o.dst=some d) (hlt:d<a.tmps.size) (hg:Region.wanted o (yielded ops a.tmps)=true)
  (h:∃c,(∀(u:Ext w0) (K:Act→World→Prop),(∀w'',Below u.val.heap.size u.val w''→K (a.put (some d) c) w'')→o.wp P a u.val K (NoPanic Q))∧R i=IsV c∧wpK P md ops R w0 Q [] F l (upd vals i c) (a.put (some d) c)):wpK P md ops R w0 Q [] F (i::l) vals a:=by
 obtain⟨c,h1,h2,h3⟩:=h
 have e:aM ops i=some d:=by simp[aM,ho,hd]
 refine⟨fun w' hb _=> ?_, .inl ⟨c,fun v w hv=>by rw[h2]at hv;exact hv,by rw[e];exact h3⟩⟩
 rw[if_neg (by simp)]
 refine⟨o,d,ho,hd,hlt, ?_⟩
 rw[if_pos hg]
 exact h1 ⟨w',hb⟩ _ fun w'' hb'=>⟨c,by rw[hd],hb',by rw[h2];rfl⟩
theorem Af {R:Nat→Value→World→Prop} {w0:World} {F:(Nat→Value)→Act→Prop} {i:Nat} {l:List Nat} {vals:Nat→Value} {a:Act} {o:Oper} {d:Nat} (ho:ops[i]? =some o) (hd:o.dst=some d) (hlt:d<a.tmps.size) (hg:Region.wanted o (yielded ops a.tmps)=true)
  (h1:∀u:Ext w0,(∀j,Region.waitsFor md ops i j=true→R j (vals j) u.val)→
   ∀K:Act→World→Prop,(∀v w'',Below u.val.heap.size u.val w''→R i v w''→K (a.put (some d) v) w'')→o.wp P a u.val K (NoPanic Q))
  (h2:∀v,wpK P md ops R w0 Q [] F l (upd vals i v) (a.put (some d) v)):wpK P md ops R w0 Q [] F (i::l) vals a:=by
 have e:aM ops i=some d:=by simp[aM,ho,hd]
 refine⟨fun w' hb hR=> ?_, .inr fun v=>by rw[e];exact h2 v⟩
 rw[if_neg (by simp)]
 refine⟨o,d,ho,hd,hlt, ?_⟩
 rw[if_pos hg]
 exact h1 ⟨w',hb⟩ hR _ fun v w'' hb' hr=>⟨v,by rw[hd],hb',hr⟩
theorem bW {id:Nat} {a:Act} {w:World} {l:List Oper} (wi ci:List Nat) (t0:Nat) (ms:List Nat) (f0:Nat) (fs:List Nat) (R:List SP) (S:World→Prop) (hm:P.follows .mixedOrders=true) (hB:il .any l.toArray wi ci t0 (ms++f0::fs)=true)
  (hB2:fQ .any l.toArray f0 (ci++t0::ms)=true)
  (hS:∀u:Ext w,S u.val) (hz:pZ P l.toArray S (xm R) wi a)
  (h:wpK P .any l.toArray (xm R) w Q [] (fun vals a'=>∀u:Ext w,(∀i∈ci,xm R i (vals i) u.val)→wpList P l.toArray (vK P l.toArray S Q (f0::fs) ms) (bu l.toArray [t0]) a' u.val) ci (fun _=>undef) a):
  (Code.region id l.toArray true).wp P Q a w:=by
 refine wp_region_noPanic (wp_region_any hm ?_)
 have hst:∀i v w w',Below w.heap.size w w'→xm R i v w→xm R i v w':=fun i v w w' hb h=>(R.getD i (sv undef)).2 v w w' hb h
 have hB':=hB
 simp only[il,qaF,qfV]at hB
 obtain⟨⟨⟨⟨⟨⟨⟨⟨⟨⟨⟨⟨⟨⟨hsel,hd⟩,hnd⟩,hpw⟩,htl⟩,hsz⟩,hs⟩,hwc⟩,hwn⟩,hfr⟩,hc⟩,hdis⟩,hcov⟩,hop⟩,hfo⟩:=hB
 have hlt:∀i∈ci,i<l.toArray.size:=fun i hi=>by
  have h:=alsi.1 hop i hi
  rcases Nat.lt_or_ge i l.toArray.size with h'|h'
  ·exact h'
  ·rw[Array.getElem?_eq_none h']at h;cases h
 have hdep:∀i∈ci,∀j,Region.waitsFor .any l.toArray i j=true→j<i∧j∈ci:=fun i hi j hj=>by
  have h:=alsi.1 hop i hi
  obtain⟨o,ho,e,hem,hb,rfl⟩:=Region.waitsFor_spec hj
  rw[ho]at h
  simp only[qaF]at h
  have:=Array.all_eq_true'.1 h.1 e hem
  simpa [hb]using this
 have hlk:∀i∈ci,∀o,l.toArray[i]? =some o→∀j∈ci,Region.waitsFor .any l.toArray i j=true∨∀d,aM l.toArray j=some d→d ∉ o.looksAt l.toArray:=fun i hi o ho j hj=>by
  have h:=alsi.1 hop i hi
  rw[ho]at h
  simp only[qaF]at h
  have h2:=alsi.1 h.2 j (ultv.2 (hlt j hj))
  have hnt:j ∉ t0::(ms++f0::fs):=by have:=alsi.1 hdis j hj;simpa using this
  simp only[qgf]at h2
  rcases h2 with(h3|h3)|h3
  ·exact absurd (by simpa using h3) hnt
  ·exact .inl h3
  ·refine .inr fun d hd hm=> ?_
   rw[hd]at h3
   simp[hm]at h3
 have hnil:∀j,(bw l.toArray [] l.toArray.size).getD j false=false:=fun j=>by rw[bg];simp
 have hobs:=gK (P:=P) (md:= .any) (Q:=Q) (zi:=[]) (R:=xm R) (a0:=a) (w0:=w) hsel hd hpw hlt hdep hlk ci [] (fun _=>undef) rfl (by rw[dD hnil];exact h)
 have hrep:∀j,(Array.replicate l.toArray.size false).getD j false=false:=fun j=>getD_replicate_false _ _
 have hwc':∀i∈wi,i∈ci:=fun i hi=>by have:=alsi.1 hwc i hi;simpa using this
 have hcf:cT .any l.toArray (f0::fs)=true:=Pp (t0::ms) hc
 have hit:∀i∈wi,i ∉ t0::(ms++f0::fs):=fun i hi=>by have:=alsi.1 hdis i (hwc' i hi);simpa using this
 have hgo:=ot (P:=P) (Q:=Q) hB' (a0:=a) (w0:=w) hS hst (fun i hi vals=>by
   have h1:=hobs.1 i hi vals (by simp)
   intro w' hb hR
   have h2:=h1 w' hb hR
   simpa using h2) (fun vals w' hb hR=>by
   obtain⟨vals1,h1,h2⟩:=hobs.2 vals (by simp) (fun j hj=>⟨w',hR j hj⟩)
   rw[dO (vals:=vals) (vals':=vals1) (fun j hj=>h1 j (by rw[bg]at hj;simp at hj;exact hj.2))]
   exact h2 ⟨w',hb⟩ (fun i hi=>by rw[←h1 i hi];exact hR i hi))
 have hb0:Below w.heap.size w {w with drawn:=w.drawn+1}:=⟨rfl,rfl,rfl,qaA _,fun _ _=>rfl⟩
 have htl':∀t∈t0::(ms++f0::fs),t<l.toArray.size:=fun t ht=>by have:=alsi.1 htl t ht;simpa using this
 have:=nA (P:=P) (md:= .any) (Q:=Q) (wi:=wi) (cs:=ci++t0::ms) (f0:=f0) (fs:=fs) (S:=S) (R:=xm R) (a0:=a) (w:={w with drawn:=w.drawn+1}) (g:=(ci.length-wi.length)+(1+(ms.length+(fs.length+1)))) hsel hd hB2 hcf (fun i hi=>List.mem_append_left _ (hwc' i hi)) (fun i hi h=>hit i hi (List.mem_cons_of_mem _ (List.mem_append_right _ h))) (hS ⟨_,hb0⟩)
  (fun listed vals inv hl hR=>hgo (ci.length-wi.length) listed vals _ ⟨inv.closed,fun t ht hts=>by
    refine getD_in (by rw[inv.size];exact hts) ?_
    cases hx:listed.getD t false with
    |false=>rfl
    |true=>exact absurd ht (hit t ((hl t).1 hx)),inv.size⟩ (fun i hi=>(hl i).2 hi) (by have:=pT hnd hwn hwc' hl;omega) hb0 hR)
  wi [] (Array.replicate l.toArray.size false) (fun _=>undef) rfl (fun i=>by rw[hrep];simp) ⟨fun j oj _ hl=>(by rw[hrep]at hl;cases hl),fun t _ ht=>getD_in (by simpa using ht) (getD_replicate_false _ _),by simp⟩
  (fun j hj=>by rw[hrep]at hj;cases hj) hfr (by rw[dD hrep];exact hz)
 rw[dD hrep]at this
 have hle:wi.length≤ci.length:=by
  have h2:(ci.filter fun i=>wi.contains i).length=wi.length:=by
   refine List.Perm.length_eq ((List.perm_ext_iff_of_nodup (hnd.filter _) hwn).2 fun x=> ?_)
   rw[alsm]
   exact⟨fun h=>by simpa using h.2,fun h=>⟨hwc' x h,by simpa using h⟩⟩
  have:=qdz (fun i=>wi.contains i) ci
  omega
 have h9:=zj _ _ _ _ this
 simp only[qaE,qdn]at hsz
 rw[show wi.length+(ci.length-wi.length+(1+(ms.length+(fs.length+1))))=l.toArray.size by omega]at h9
 exact h9
end
end
section
open Go.RowKit
section
variable {P:Program} {ops:Array Oper} {md:Region.Mode} {Q:Exit→Act→World→Prop} {R:Nat→Value→World→Prop} {w0:World} {F:(Nat→Value)→Act→Prop} {i:Nat} {l:List Nat} {vals:Nat→Value} {a:Act} {o:Oper} {d:Nat}
theorem wkr (ho:ops[i]? =some o) (hd:o.dst=some d) (hlt:d<a.tmps.size) (hg:Region.wanted o (yielded ops a.tmps)=true)
  (h:∃c,(∀u:Ext w0,(∀j,Region.waitsFor md ops i j=true→R j (vals j) u.val)→∀K:Act→World→Prop,(∀w'',Below u.val.heap.size u.val w''→K (a.put (some d) c) w'')→o.wp P a u.val K (NoPanic Q))∧R i=IsV c∧wpK P md ops R w0 Q [] F l (upd vals i c) (a.put (some d) c)):wpK P md ops R w0 Q [] F (i::l) vals a:=by
 obtain⟨c,h1,h2,h3⟩:=h
 have e:aM ops i=some d:=by simp[aM,ho,hd]
 refine⟨fun w' hb hR=> ?_, .inl ⟨c,fun v w hv=>by rw[h2]at hv;exact hv,by rw[e];exact h3⟩⟩
 rw[if_neg (by simp)]
 refine⟨o,d,ho,hd,hlt, ?_⟩
 rw[if_pos hg]
 exact h1 ⟨w',hb⟩ hR _ fun w'' hb'=>⟨c,by rw[hd],hb',by rw[h2];rfl⟩
theorem wkR (h:∃c,(∀u:Ext w0,(∀j,Region.waitsFor md ops i j=true→R j (vals j) u.val)→∀K:Act→World→Prop,(∀w'',Below u.val.heap.size u.val w''→K (a.put (some d) c) w'')→o.wp P a u.val K (NoPanic Q))∧R i=IsV c∧wpK P md ops R w0 Q [] F l (upd vals i c) (a.put (some d) c))
  (ho:ops[i]? =some o:=by rfl) (hd:o.dst=some d:=by rfl) (hlt:d<a.tmps.size:=by simp) (hg:Region.wanted o (yielded ops a.tmps)=true:=by simp[Region.wanted,yielded]):wpK P md ops R w0 Q [] F (i::l) vals a:=wkr ho hd hlt hg h
end
end
section
open Go.RowKit Go.Shelf
attribute [local go_sem] Ext.cell Ext.frozen
def MW (v:Value):Prop:=∀m c,v= .slice none m c→m=0∧c=0
theorem vp (b o j:Nat):(⟨b,o,none⟩:Addr).add j=⟨b,o+j,none⟩:=by
 unfold Addr.add
 split
 ·rename_i h;subst h;rfl
 ·rfl
theorem jy {w:World} {base:Nat} {T:TypeId} {v:Value} {xs:List Int} (h:w.ownsRow base T 1 v xs.length (xs.map (Value.int .i64))):Ints w v xs:=by
 rcases h.2 with⟨rfl,h0⟩|⟨g,cap,cur,rfl,hb,hh,hc,hm,hcs,ht⟩
 ·exact⟨none,0,0,rfl,h0,qaA _,fun h=>absurd h (by omega)⟩
 ·refine⟨some ⟨g,0,none⟩,xs.length,cap,rfl,rfl,hc,fun _=>⟨g,0,rfl,fun i hi=> ?_⟩⟩
  rw[qfW,bq hh]
  have h2:(cur.toList.take (xs.length*1))[i]? =some (Value.int .i64 xs[i]):=by rw[ht];simp[hi]
  rw[qdx (by omega)]at h2
  simpa using h2
theorem Ba {k:Int} {n:List Int} (h:Bf k n.length=true) (hk:0≤k∧k≤10):(k=0→n.length=1)∧(k=1→n.length=2)∧(k=2→n.length=4)∧(k=3→n.length=6)∧(k=4→n.length=4)∧(k=5→3≤n.length)∧(k=6→n.length=3)∧(k=7→1≤n.length)∧(k=8→8≤n.length∧n.length % 2=0)∧(k=9→n.length=5)∧(k=10→n.length=5):=by
 generalize n.length=m at*
 rcases(by omega:k=0∨k=1∨k=2∨k=3∨k=4∨k=5∨k=6∨k=7∨k=8∨k=9∨k=10)with rfl|rfl|rfl|rfl|rfl|rfl|rfl|rfl|rfl|rfl|rfl
 all_goals (simp[Bf]at h;first|omega|(have h2:=h.2;rw[Int.tmod_eq_emod_of_nonneg (by omega)]at h2;omega))
structure Good (k l w t:Int) (n:List Int):Prop where
 kind:0≤k∧k≤10
 size:bB 1 100000 [l,w,t]=true
 len:n.length≤24
 cnt:Bf k n.length=true
 rng:bB (-100000) 100000 n=true
 right:cU k l w t n=true
theorem Good.h8 {k l w t:Int} {n:List Int} (h:Good k l w t n) (h8:k=8):8≤n.length∧n.length % 2=0:=(Ba h.cnt h.kind).2.2.2.2.2.2.2.2.1 h8
end
section
open Go.RowKit
set_option linter.unusedSectionVars false
def aP (l w t:Int):List Q4:=[axP 0 (-1) (-0),axP 0 1 l,axP 1 (-1) (-0),axP 1 1 w,axP 2 (-1) (-0),axP 2 1 t]
structure Cell (l w t:Int) (c e:List Q4):Prop where
 len:c.length≤10
 ok:∀p∈c,cI p
 sub:∀p∈c,p∈e∨p∈aP l w t
 sup:∀p∈e,p∈c∨p∈aP l w t
 pt:∃(x:Q3) (W:Int),0<W∧(∀p∈c,0<slk p x W)∧(0<x.1∧x.1<l*W)∧(0<x.2.1∧x.2.1<w*W)∧(0<x.2.2∧x.2.2<t*W)
def Cells (l w t:Int):List (List Q4)→List (List Q4)→Prop
 | [],[]=>True
 |c::cs,e::es=>Cell l w t c e∧Cells l w t cs es
 |_,_=>False
theorem Cells.append {l w t:Int}:∀{cs es cs' es':List (List Q4)},Cells l w t cs es→Cells l w t cs' es'→Cells l w t (cs++cs') (es++es')
 | [],[],_,_,_,h=>h
 |_::_,_::_,_,_,h,h'=>⟨h.1,Cells.append h.2 h'⟩
 | [],_::_,_,_,h,_=>h.elim
 |_::_,[],_,_,h,_=>h.elim
theorem Cells.map {l w t:Int} {α:Type} (f g:α→List Q4):∀(xs:List α),(∀x∈xs,Cell l w t (f x) (g x))→Cells l w t (xs.map f) (xs.map g)
 | [],_=>trivial
 |x::xs,h=>⟨h x (by simp),Cells.map f g xs (fun y hy=>h y (by simp[hy]))⟩
section
variable {l w t:Int} (hl:1≤l∧l≤100000) (hw:1≤w∧w≤100000) (ht:1≤t∧t≤100000)
include hl hw ht
end
end
section
open Go.RowKit Go.Shelf
def OkV (w:World) (v:Value):Prop:=MW v∧∀b off m c,v= .slice (some ⟨b,off,none⟩) m c→∃cs,w.heap[b]? =some (.cells cs 3 (0,0))
theorem OkV.below {w w':World} {v:Value} (h:OkV w v) (hb:Below w.heap.size w w'):OkV w' v:=
 ⟨h.1,fun b off m c e=>by obtain⟨cs,hh⟩:=h.2 b off m c e;exact⟨cs,(hb.block _ (ah hh)).trans hh⟩⟩
end
section
open Go.RowKit Go.Shelf
attribute [local go_sem] Ext.cell Ext.frozen
def SolV (w:World) (v:Value) (css:List (List Q4)):Prop:=Each w v Q4s css
theorem SolV.below {w w':World} {v:Value} {css:List (List Q4)} (h:SolV w v css) (hb:Below w.heap.size w w'):SolV w' v css:=Each.below (fun _ _ _ _ hb h=>Q4s.below h hb) h hb
theorem qp {w:World} {B:Nat} {v:Value} {vs:List Value} {css:List (List Q4)} (h:w.ownsRow B 164 1 v css.length vs) (hr:RowsV w B vs css):SolV w v css:=by
 have hlen:=h.1
 rcases h.2 with⟨rfl,h0⟩|⟨g,cap,cur,rfl,hb,hh,hnc,hcm,hcs,htk⟩
 ·obtain rfl:css=[]:=alto.1 h0
  exact⟨none,0,0,rfl,rfl,qaA _,fun h=>absurd h (by omega)⟩
 ·refine⟨_,_,_,rfl,rfl,hnc,fun _=>⟨g,0,rfl,fun i hi=> ?_⟩⟩
  have hiu:i<vs.length:=by omega
  refine⟨vs[i], ?_,jz (hr.2 i hiu hi)⟩
  rw[qfW,bq hh]
  have e:vs[i]? =some vs[i]:=List.getElem?_eq_getElem hiu
  generalize vs[i]=ui at*
  rw[←htk,List.getElem?_take]at e
  split at e
  ·simpa using e
  ·cases e
def inK (cs:List Q4) (p:Q4) (k:Nat):Bool:=(cs.take k).any fun c=>decide (sd p c<0)
theorem Qz (cs:List Q4) (p:Q4) (k:Nat) (h:k<cs.length):inK cs p (k+1)=(inK cs p k || decide (sd p cs[k]<0)):=by
 unfold inK
 rw[qaI h,List.any_append]
 simp
theorem DB {p:Q4} (h:bP p=0):bI p:=(iR p h).1
theorem Qp (ps:List Q4) (c:Q4):c∈ct ps↔c∈aS ps:=by rw[(kT ps).2,UP]
theorem Oo {l l':List Q4} (h:∀x,x∈l↔x∈l') (f:Q4→Bool):l.any f=l'.any f:=by
 have e:∀a b:Bool,(a=true↔b=true)→a=b:=fun a b h=>by cases a<;>cases b<;>simp_all
 refine e _ _ ?_
 simp only[ultj]
 exact⟨fun⟨x,hx,hf⟩=>⟨x,(h x).1 hx,hf⟩,fun⟨x,hx,hf⟩=>⟨x,(h x).2 hx,hf⟩⟩
theorem Pe (ps:List Q4):gM (ct ps)=gM (aS ps):=by
 funext p
 exact Oo (Qp ps) _
theorem FS {ps:List Q4} (h:bx ps=true):0<ps.length:=by
 cases ps with
 |nil=>simp[bx,jw]at h
 |cons p ps=>simp
theorem Pz (ps:List Q4):(16<ps.length→bK ps=8)∧(ps.length≤16→cJ ps≠0→bK ps=cJ ps)∧(ps.length≤16→cJ ps=0→(bx ps=false→bK ps=14)∧(bx ps=true→
  (ps.all (gM (ct ps))=false→bK ps=13)∧(ps.all (gM (ct ps))=true→((∃i,∃h:i<(ct ps).length,lw (ct ps)[i]=false)→bK ps=2)∧((∀i (h:i<(ct ps).length),lw (ct ps)[i]=true)→bK ps=0)))):=by
 have hr:qbM (aS ps)= !((ct ps).any fun c=> !lw c):=by
  unfold qbM
  rw[Oo (Qp ps)]
 unfold bK fh
 rw[hr, ←Pe]
 refine⟨fun h=>by rw[if_pos h],fun h h1=>by rw[if_neg (by omega),if_pos h1],fun h h1=>⟨fun h2=>by rw[if_neg (by omega),if_neg (by simpa using h1),if_pos h2],fun h2=>⟨fun h3=> ?_,fun h3=>⟨fun h4=> ?_,fun h4=> ?_⟩⟩⟩⟩
 ·rw[if_neg (by omega),if_neg (by simpa using h1),if_neg (by simp[h2]),if_pos (by rw[h3];rfl)]
 ·obtain⟨i,hi,e⟩:=h4
  have:((ct ps).any fun c=> !lw c)=true:=ultj.2 ⟨(ct ps)[i],qaB hi,by rw[e];rfl⟩
  rw[if_neg (by omega),if_neg (by simpa using h1),if_neg (by simp[h2]),if_neg (by rw[h3,qfX (FS h2)];simp),this]
  rfl
 ·have:((ct ps).any fun c=> !lw c)=false:=ultp.2 (fun c hc=>by
   obtain⟨i,hi,rfl⟩:=qaJ hc
   rw[h4 i hi];simp)
  rw[if_neg (by omega),if_neg (by simpa using h1),if_neg (by simp[h2]),if_neg (by rw[h3,qfX (FS h2)];simp),this]
  rfl
end
end Go.Proofs.YtffbilcjhlncfaaGreatDoor
