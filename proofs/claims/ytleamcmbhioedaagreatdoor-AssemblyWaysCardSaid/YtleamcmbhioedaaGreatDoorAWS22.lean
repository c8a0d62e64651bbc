/- texts: IA2 IA4 G5 W6 R0 GM GB C2 V4 S1a Y1 CC CD U0. -/
import Derived.Test.YtleamcmbhioedaaGreatDoorAWS21
namespace Go.Proofs.YtleamcmbhioedaaGreatDoor
set_option maxHeartbeats 8000000
set_option linter.unusedSimpArgs false
set_option linter.unusedVariables false
section
open Go.RowKit Go.Shelf Go.Lib
set_option maxRecDepth 100000
attribute [local go_sem] Ext.cell Ext.frozen
theorem Ec {p q:Bod} {w:Q3} (hf:CQ p.2 q.2 w=false) (i:Nat) (h:(p.1.take i).foldl (zn w) (some q)=none):eS p q w=false:=by
 rw[ws,hf,Dk (zn w) (Ie w) _ _ i h,DK];rfl
def Lp1 (p q:Bod) (d:Q3) (i:Nat) (qi:Bod):Prop:=(p.1.take i).foldl (zn d) (some q)=some qi∧okBd i qi
theorem Lp1.skip {p q qi:Bod} {d:Q3} {i:Nat} (h:Lp1 p q d i qi) (hi:i<p.1.length) (hs:¬bj (nrm p.1[i]) d≤0):Lp1 p q d (i+1) qi:=by
 refine⟨?_,h.2.mono (Nat.le_succ i)⟩
 rw[kb _ _ _ _ hi,h.1];unfold zn;rw[if_neg hs]
theorem Lp1.cut {p q qi:Bod} {d:Q3} {i:Nat} (h:Lp1 p q d i qi) (hi:i<p.1.length) (hl:p.1.length≤16) (hx:okW p.1[i]) (hs:bj (nrm p.1[i]) d≤0) (hc:(qm qi p.1[i]).2=true):Lp1 p q d (i+1) (qm qi p.1[i]).1:=by
 refine⟨?_,EL h.2 (by omega) hx⟩
 rw[kb _ _ _ _ hi,h.1];unfold zn BU;rw[if_pos hs];simp[hc]
theorem Lp1.out {p q qi:Bod} {d:Q3} {i:Nat} (h:Lp1 p q d i qi) (hi:i<p.1.length) (hs:bj (nrm p.1[i]) d≤0) (hc:(qm qi p.1[i]).2=false):(p.1.take (i+1)).foldl (zn d) (some q)=none:=by
 rw[kb _ _ _ _ hi,h.1];unfold zn BU;rw[if_pos hs];simp[hc]
theorem EP {w:World} {g:Nat} {x0 x1 x2:Value} {t:TypeId} (h:w.heap[g]? =some (.cells #[x0,x1,x2] t (0,0))):w.cell? ⟨g,0,none⟩=some x0∧w.cell? ⟨g,1,none⟩=some x1∧w.cell? ⟨g,2,none⟩=some x2∧(∀i,w.frozen? ⟨g,i,none⟩=false)∧g<w.heap.size:=⟨(ag h 0).trans rfl,(ag h 1).trans rfl,(ag h 2).trans rfl,aC h,ah h⟩
theorem LJ {p:Q4} {w:Q3} (hp:bI p) (hw:(-1≤w.1∧w.1≤1)∧(-1≤w.2.1∧w.2.1≤1)∧(-1≤w.2.2∧w.2.2≤1)): -24≤bj (nrm p) w∧bj (nrm p) w≤24:=by
 unfold bI at hp
 have m0:=aJ hp.1.1 hp.1.2 hw.1.1 hw.1.2
 have m1:=aJ hp.2.1.1 hp.2.1.2 hw.2.1.1 hw.2.1.2
 have m2:=aJ hp.2.2.1.1 hp.2.2.1.2 hw.2.2.1 hw.2.2.2
 simp only[bj,nrm]
 omega
theorem FQ (p q:Bod) (d:Q3) (pv cv qv rv:Value) (W:World) (hp:∀x∈p.1,bI x) (hpc:∀c∈p.2,okX c) (hpl:p.1.length≤16) (hcl:p.2.length≤1000000) (hq:okBd 0 q)
  (hd:(-1≤d.1∧d.1≤1)∧(-1≤d.2.1∧d.2.1≤1)∧(-1≤d.2.2∧d.2.2≤1)) (h1:Q4s W pv p.1) (h2:Q4s W cv p.2) (h3:Q4s W qv q.1) (h4:Q4s W rv q.2):
  Calls Tryz.prog 60 #[.agg #[pv,cv], .agg #[qv,rv],V3 d.1 d.2.1 d.2.2] W (Ret W (.bool (eS p q d))):=by
 obtain⟨i0,hi0,hz0,hz1,hz2⟩:=info_parts CW
 have Hi0:=Lib.hid (And.intro hi0 (And.intro hz0 (And.intro hz1 hz2)))
 clear hi0 hz0 hz1 hz2
 obtain⟨V,HV⟩:∃V,Hid (((W.alloc (.cells #[pv,cv] 123)).alloc (.cells #[qv,rv] 123)).alloc (.cells #[.int .i64 d.1, .int .i64 d.2.1, .int .i64 d.2.2] 104)=V):=⟨_,Lib.hid rfl⟩
 have hV:Below W.heap.size W V:=by rw[←HV.out];exact bel
 have HSV:Hid (SwS W.heap.size W pv cv d [] [] q (.slice none 0 0) (.slice none 0 0) qv rv V):=Lib.hid {
  hW:=hV
  hs:=by rw[←HV.out];simp
  b:=by rw[←HV.out];exact(aB (by simp<;>omega)).trans ((aB (by simp)).trans (ai rfl))
  x:=by rw[←HV.out];exact(aB (by simp)).trans (ai (by simp))
  d:=by rw[←HV.out];exact ai (by simp)
  hq:=h3.below hV
  hr:=h4.below hV
  f:=World.ownsRow_nil _ _ _ _
  g:=World.ownsRow_nil _ _ _ _
  fg:=fun i h=>by simp[Value.ownBlock]at h
  aqf:=Ap.nil _
  aqg:=Ap.nil _
  arf:=Ap.nil _
  arg:=Ap.nil _}
 have Hpv:=Lib.hid h1
 obtain⟨pa,pn,pc,rfl,hpn, -,hpx⟩:=h1
 have HPX:Hid (0<pn→∃g off,pa=some ⟨g,off,none⟩∧Q4At W g off p.1):=Lib.hid hpx
 have Hcv:=Lib.hid h2
 obtain⟨ca,cn,cc,rfl, -⟩:=h2
 obtain⟨qa,qn,qc,rfl, -⟩:=h3
 obtain⟨ra,rn,rc,rfl, -⟩:=h4
 have HFar:=fun W' h h'=>Lib.hid (Jz p.2 q.2 (.slice pa pn pc) (.slice ca cn cc) (.slice qa qn qc) (.slice ra rn rc) d.1 d.2.1 d.2.2 W' hpc hq.2.2.2 hcl (Nat.le_trans hq.2.1 (by decide)) ⟨_,_,_,rfl⟩ ⟨_,_,_,rfl⟩ (Hcv.out.below (w':=W') h) h')
 have HDt:=fun i (h:i<p.1.length) W'=>Lib.hid (show Calls Tryz.prog 96 #[V3 p.1[i].1 p.1[i].2.1 p.1[i].2.2.1,V3 d.1 d.2.1 d.2.2] W' (Ret W' (.int .i64 (bj (nrm p.1[i]) d)))from by
  obtain⟨a1,a2,a3,_⟩:=hp _ (List.getElem_mem h)
  exact Cf _ _ _ _ _ _ W' (by omega) (by omega) (by omega) (by omega) (by omega) (by omega))
 have HDg:=fun(x:Q4) (hx:bI x) W'=>Lib.hid (show Calls Tryz.prog 96 #[V3 x.1 x.2.1 x.2.2.1,V3 d.1 d.2.1 d.2.2] W' (Ret W' (.int .i64 (bj (nrm x) d)))from by
  obtain⟨a1,a2,a3,_⟩:=hx
  exact Cf _ _ _ _ _ _ W' (by omega) (by omega) (by omega) (by omega) (by omega) (by omega))
 have HPw:=fun i (h:i<p.1.length)=>Lib.hid (DW (hp _ (List.getElem_mem h)))
 have HFr:=fun i (h:i<p.1.length)=>Lib.hid (FM d p.1 i h)
 have HBe:=fun i (h:i<p.1.length)=>Lib.hid (EM d p.1 i h)
 have HFB:=fun i=>Lib.hid (FN d (p.1.take i))
 have HN1:=Lib.hid (@Ec p q d)
 have HL0:Hid (Lp1 p q d 0 q):=Lib.hid ⟨rfl,hq⟩
 have HPl:=Lib.hid hpl
 have Hpn:=Lib.hid hpn
 have Hp:=Lib.hid hp
 have hpn16:pn≤16:=by omega
 have Hd:=Lib.hid hd
 clear hp hpc hcl hq hd hpl hpn hpx
 obtain⟨vb0,vb1,_⟩:=nm HSV.out.b
 obtain⟨vx0,vx1,vxz⟩:=nm HSV.out.x
 go_enter Tryz.func60,Tryz.ntmps60
 go_wp2_with fail
 rw[HV.out]
 refine((HFar V hV (HSV.out.hr)).out).mono ?_
 rintro e w1 ⟨rfl,hb1⟩
 have HS1:=Lib.hid (HSV.out.keep hb1)
 clear HFar HSV hb1 HV vb0 vb1 vx0 vx1 vxz hV
 obtain⟨vb0,vb1,_⟩:=nm HS1.out.b
 cases hf:CQ p.2 q.2 d with
 |true=>
  have hres:eS p q d=false:=by rw[ws,hf];rfl
  have HRs:=Lib.hid hres
  clear hres hf
  go_wp2
  go_ret
  exact⟨ay HRs.out.symm,HS1.out.hW⟩
 |false=>
  have HF:=Lib.hid hf
  clear hf
  have HN2:=fun i h=>Lib.hid (HN1.out HF.out i h)
  have bz:=ah HS1.out.b
  go_wp2
  go_loopw [7,8,9,28] (fun s7 s8 s9 x wr=>∃(i:Nat) (qi:Bod) (b:Bool) (qv rv:Value),i≤pn∧x= .int .i64 i∧s9= .bool b∧Hid (SwS W.heap.size W (.slice pa pn pc) (.slice ca cn cc) d (cr (p.1.take i) d) (bc (p.1.take i) d) qi s7 s8 qv rv wr)∧Hid (Lp1 p q d i qi)) (fun _ _ _ x _=>pn-(intOf x).toNat)
  case atStart=>exact⟨0,q,true,_,_,by omega,rfl,rfl,HS1,HL0⟩
  case round=>
   clear HS1 HL0 vb0 vb1 bz
   obtain⟨i,qi,b,qv,rv,hi,rfl,rfl,HS,HL⟩:=hrel
   by_cases hlt:i<pn
   ·have hil:i<p.1.length:=by have:=Hpn.out;omega
    obtain⟨cg,co,rfl,hci⟩:=HPX.out (by omega)
    obtain⟨e0,e1,e2,e3⟩:=(hci.below HS.out.hW) i hil
    have ze:=World.block_lt_of_cell? wr _ e0
    simp only at ze
    have HDi:=fun W=>Lib.hid ((HDt i hil W).out)
    have HFi:=Lib.hid ((HFr i hil).out)
    have HBi:=Lib.hid ((HBe i hil).out)
    have HPi:=Lib.hid ((HPw i hil).out)
    have hfb:=(HFB i).out
    have hfb2:(p.1.take i).length≤16:=by rw[List.length_take];omega
    have HSk:=fun hs=>Lib.hid (HL.out.skip hil hs)
    have HSc:=fun hs hc=>Lib.hid (HL.out.cut hil HPl.out HPi.out hs hc)
    have HSo:=fun hs hc=>Lib.hid (HN2 (i+1) (HL.out.out hil hs hc)).out
    have HCt:=fun qv rv W' (h1:Q4s W' qv qi.1) (h2:Q4s W' rv qi.2)=>Lib.hid (GC qi p.1[i] qv rv W' HPi.out HL.out.2.2.2.1 HL.out.2.2.2.2 (by have:=HL.out.2.1;omega) (by have:=HL.out.2.2.1;omega) h1 h2)
    generalize cr (p.1.take i) d=fs at*
    generalize bc (p.1.take i) d=bs at*
    have hfl:fs.length≤16:=by omega
    have hbl:bs.length≤16:=by omega
    obtain⟨d0,d1,d2,df,dz⟩:=EP HS.out.d
    clear hci HDt HFr HBe HPw HFB hfb hfb2 HN2 HN1
    generalize p.1[i]=c at*
    obtain⟨c0,c1,c2,c3⟩:=c
    simp only at e0 e1 e2 e3
    generalize bj (nrm (c0,c1,c2,c3)) d=s at*
    obtain⟨fa,fc,rfl⟩:=aT HS.out.f
    obtain⟨ga,gc,rfl⟩:=aT HS.out.g
    go_wp2_with fail
    refine((HDi _).out).mono ?_
    rintro e w1 ⟨rfl,hb1⟩
    have HS1:=Lib.hid (HS.out.keep (ae bel hb1))
    have HB1:Hid (w1.heap[wr.heap.size]? =some (.cells #[.int .i64 c0, .int .i64 c1, .int .i64 c2, .int .i64 c3] 166 (0,0))):=Lib.hid ((hb1.block _ (by simp)).trans (ai rfl))
    have Hfo:=Lib.hid HS.out.f
    have Hgo:=Lib.hid HS.out.g
    obtain⟨qa',qn',qc',rfl, -⟩:=id HS.out.hq
    obtain⟨ra',rn',rc',rfl, -⟩:=id HS.out.hr
    clear e0 e1 e2 e3 ze hb1 HS d0 d1 d2 df dz
    obtain⟨x0,x1,x2,x3,xf,xz⟩:=am HB1.out
    rcases(by omega:0<s∨s<0∨s=0)with hs|hs|hs
    ·have HF2:Hid (cr (p.1.take (i+1)) d=fs++[(c0,c1,c2,c3)]):=Lib.hid (by rw[HFi.out,if_pos hs])
     have HB2:Hid (bc (p.1.take (i+1)) d=bs):=Lib.hid (by rw[HBi.out,if_neg (by omega),List.append_nil])
     have HL2:=HSk (by omega)
     have HSa:=Lib.hid (HS1.out.keep (w':=w1.alloc (.cells #[.int .i64 c0, .int .i64 c1, .int .i64 c2, .int .i64 c3] 166)) bel)
     clear HFi HBi HSk HSc HSo HCt HL
     go_wp2_with (at_builtin;refine wpList_append_own_at _ rfl _ _ 120 rfl (W.heap.size+3) 166 i0 (v4 (0,0,0,0)) 4 32 wn Hi0.out.1 Hi0.out.2.1 Hi0.out.2.2.1 Hi0.out.2.2.2 rfl (by decide) _ fs.length _ rfl HSa.out.f ⟨_,0,none⟩ 1 1 (aH (c0,c1,c2,c3)) rfl rfl (fun jj uu hu=>by rw[jY,aq (by simp) jj];simpa [aH]using hu) (fun u hu=>by simp[aH]at hu;rcases hu with rfl|rfl|rfl|rfl<;>rfl) (by unfold maxLen;omega) (by omega) (by have:=HSa.out.hs;omega) ?_)
     intro v' w2 hown2 hg2 _ hu2
     obtain⟨va,vc,rfl⟩:=aT hown2
     have HX2:Hid (w2.heap[wr.heap.size]? =some (.cells #[.int .i64 c0, .int .i64 c1, .int .i64 c2, .int .i64 c3] 166 (0,0))):=Lib.hid ((hg2.block _ (by have:=ah HB1.out;simp;omega) (fun e=>absurd (Ci Hfo.out e.symm) (Nat.lt_irrefl _))).trans ((aB (ah HB1.out)).trans HB1.out))
     have HD2:=Lib.hid ((hg2.block _ (ah HSa.out.d) (fun e=>aG HSa.out.f HSa.out.d (by decide) e.symm)).trans HSa.out.d)
     clear x0 x1 x2 x3 xf xz
     obtain⟨x0,x1,x2,x3,xf,xz⟩:=am HX2.out
     obtain⟨d0,d1,d2,df,dz⟩:=EP HD2.out
     clear HD2
     go_wp2_with fail
     refine((HDi _).out).mono ?_
     rintro e w3 ⟨rfl,hb3⟩
     have HS2:=Lib.hid ((HSa.out.front (c0,c1,c2,c3) hown2 hg2 (hu2.imp id fun h=>h.trans (by simp))).keep hb3)
     clear HSa hown2 hg2 hu2 hb3 HX2 d0 d1 d2 df dz x0 x1 x2 x3 xf xz
     go_wp2
     go_roundw
     case rel=>exact⟨i+1,qi,b, .slice qa' qn' qc', .slice ra' rn' rc',by omega,by go_num,rfl,Lib.hid (by rw[HF2.out,HB2.out];exact HS2.out),HL2⟩
     case measure=>first|(simp[intOf];done)|(simp[intOf];omega)
    ·have HF2:Hid (cr (p.1.take (i+1)) d=fs):=Lib.hid (by rw[HFi.out,if_neg (by omega),List.append_nil])
     have HB2:Hid (bc (p.1.take (i+1)) d=bs++[(c0,c1,c2,c3)]):=Lib.hid (by rw[HBi.out,if_pos hs])
     have HSa:=Lib.hid (HS1.out.keep (w':=w1.alloc (.cells #[.int .i64 c0, .int .i64 c1, .int .i64 c2, .int .i64 c3] 166)) bel)
     have HSc2:=fun hc=>Lib.hid ((HSc (by omega) hc).out)
     have HSo2:=fun hc=>Lib.hid ((HSo (by omega) hc).out)
     clear HFi HBi HSk HSc HSo HL
     go_wp2_with (at_builtin;refine wpList_append_own_at _ rfl _ _ 120 rfl (W.heap.size+3) 166 i0 (v4 (0,0,0,0)) 4 32 wn Hi0.out.1 Hi0.out.2.1 Hi0.out.2.2.1 Hi0.out.2.2.2 rfl (by decide) _ bs.length _ rfl HSa.out.g ⟨_,0,none⟩ 1 1 (aH (c0,c1,c2,c3)) rfl rfl (fun jj uu hu=>by rw[jY,aq (by simp) jj];simpa [aH]using hu) (fun u hu=>by simp[aH]at hu;rcases hu with rfl|rfl|rfl|rfl<;>rfl) (by unfold maxLen;omega) (by omega) (by have:=HSa.out.hs;omega) ?_)
     intro v' w2 hown2 hg2 _ hu2
     obtain⟨va,vc,rfl⟩:=aT hown2
     have HX2:Hid (w2.heap[wr.heap.size]? =some (.cells #[.int .i64 c0, .int .i64 c1, .int .i64 c2, .int .i64 c3] 166 (0,0))):=Lib.hid ((hg2.block _ (by have:=ah HB1.out;simp;omega) (fun e=>absurd (Ci Hgo.out e.symm) (Nat.lt_irrefl _))).trans ((aB (ah HB1.out)).trans HB1.out))
     have HD2:=Lib.hid ((hg2.block _ (ah HSa.out.d) (fun e=>aG HSa.out.g HSa.out.d (by decide) e.symm)).trans HSa.out.d)
     clear x0 x1 x2 x3 xf xz
     obtain⟨x0,x1,x2,x3,xf,xz⟩:=am HX2.out
     obtain⟨d0,d1,d2,df,dz⟩:=EP HD2.out
     clear HD2
     go_wp2_with fail
     refine((HDi _).out).mono ?_
     rintro e w3 ⟨rfl,hb3⟩
     have HS2:=Lib.hid ((HSa.out.behind (c0,c1,c2,c3) hown2 hg2 (hu2.imp id fun h=>h.trans (by simp))).keep hb3)
     have HX3:=Lib.hid ((hb3.block _ (ah HX2.out)).trans HX2.out)
     clear HSa hown2 hg2 hu2 hb3 HX2 d0 d1 d2 df dz x0 x1 x2 x3 xf xz
     obtain⟨x0,x1,x2,x3,xf,xz⟩:=am HX3.out
     obtain⟨y0,y1,yz⟩:=nm HS2.out.x
     have HC3:=Lib.hid ((HCt _ _ w3 HS2.out.hq HS2.out.hr).out)
     clear HCt HDi
     go_wp2_with fail
     refine(HC3.out).mono ?_
     rintro e w4 ⟨qv',rv',rfl,hb4,hq1,hq2,hf1,hf2⟩
     have HS4:=Lib.hid (HS2.out.cut _ hb4 hq1 hq2 hf1 hf2)
     have HX4:=Lib.hid ((hb4.block _ (ah HS2.out.x)).trans HS2.out.x)
     obtain⟨qa2,qn2,qc2,rfl, -⟩:=hq1
     obtain⟨ra2,rn2,rc2,rfl, -⟩:=hq2
     clear HC3 HX3 HS2 hb4 hf1 hf2 y0 y1 yz x0 x1 x2 x3 xf xz
     obtain⟨y0,y1,yz⟩:=nm HX4.out
     have yf:=aC HX4.out
     clear HX4
     cases hr:(qm qi (c0,c1,c2,c3)).2 with
     |true=>
      have HL2:=Lib.hid ((HSc2 hr).out)
      clear hr HSc2 HSo2
      go_wp2
      go_roundw
      case rel=>exact⟨i+1,_,true, .slice qa2 qn2 qc2, .slice ra2 rn2 rc2,by omega,by go_num,rfl,Lib.hid (by rw[HF2.out,HB2.out];exact HS4.out),HL2⟩
      case measure=>first|(simp[intOf];done)|(simp[intOf];omega)
     |false=>
      have HR2:=Lib.hid ((HSo2 hr).out)
      clear hr HSc2 HSo2
      go_wp2
      go_ret
      exact⟨ay HR2.out.symm,HS4.out.hW⟩
    ·have HF2:Hid (cr (p.1.take (i+1)) d=fs):=Lib.hid (by rw[HFi.out,if_neg (by omega),List.append_nil])
     have HB2:Hid (bc (p.1.take (i+1)) d=bs):=Lib.hid (by rw[HBi.out,if_neg (by omega),List.append_nil])
     have HSc2:=fun hc=>Lib.hid ((HSc (by omega) hc).out)
     have HSo2:=fun hc=>Lib.hid ((HSo (by omega) hc).out)
     clear HFi HBi HSk HSc HSo HL
     obtain⟨d0,d1,d2,df,dz⟩:=EP HS1.out.d
     go_wp2_with fail
     refine((HDi _).out).mono ?_
     rintro e w3 ⟨rfl,hb3⟩
     have HS2:=Lib.hid (HS1.out.keep hb3)
     have HX3:=Lib.hid ((hb3.block _ (ah HB1.out)).trans HB1.out)
     clear HS1 HB1 hb3 d0 d1 d2 df dz x0 x1 x2 x3 xf xz
     obtain⟨x0,x1,x2,x3,xf,xz⟩:=am HX3.out
     obtain⟨y0,y1,yz⟩:=nm HS2.out.x
     have HC3:=Lib.hid ((HCt _ _ w3 HS2.out.hq HS2.out.hr).out)
     clear HCt HDi
     go_wp2_with fail
     refine(HC3.out).mono ?_
     rintro e w4 ⟨qv',rv',rfl,hb4,hq1,hq2,hf1,hf2⟩
     have HS4:=Lib.hid (HS2.out.cut _ hb4 hq1 hq2 hf1 hf2)
     have HX4:=Lib.hid ((hb4.block _ (ah HS2.out.x)).trans HS2.out.x)
     obtain⟨qa2,qn2,qc2,rfl, -⟩:=hq1
     obtain⟨ra2,rn2,rc2,rfl, -⟩:=hq2
     clear HC3 HX3 HS2 hb4 hf1 hf2 y0 y1 yz x0 x1 x2 x3 xf xz
     obtain⟨y0,y1,yz⟩:=nm HX4.out
     have yf:=aC HX4.out
     clear HX4
     cases hr:(qm qi (c0,c1,c2,c3)).2 with
     |true=>
      have HL2:=Lib.hid ((HSc2 hr).out)
      clear hr HSc2 HSo2
      go_wp2
      go_roundw
      case rel=>exact⟨i+1,_,true, .slice qa2 qn2 qc2, .slice ra2 rn2 rc2,by omega,by go_num,rfl,Lib.hid (by rw[HF2.out,HB2.out];exact HS4.out),HL2⟩
      case measure=>first|(simp[intOf];done)|(simp[intOf];omega)
     |false=>
      have HR2:=Lib.hid ((HSo2 hr).out)
      clear hr HSc2 HSo2
      go_wp2
      go_ret
      exact⟨ay HR2.out.symm,HS4.out.hW⟩
   ·obtain rfl:i=pn:=by omega
    have hpn':p.1.length≤i:=by have:=Hpn.out;omega
    have HE1:Hid (p.1.foldl (zn d) (some q)=some qi):=Lib.hid (by have:=HL.out.1;rw[List.take_of_length_le hpn']at this;exact this)
    have HE2:Hid (okBd 16 qi):=Lib.hid (HL.out.2.mono hpn16)
    have hS:=HS.out
    rw[List.take_of_length_le hpn']at hS
    have HS:=Lib.hid hS
    clear hS
    have HN3:=fun j q2 hj h k hn=>Lib.hid (Ea (i:=j) (q2:=q2) HF.out HE1.out hj h k hn)
    have HFin:=fun q2 h=>Lib.hid (FO (q2:=q2) HF.out HE1.out h)
    have HFo:=Lib.hid (Ju (d:=d) Hp.out)
    have HBo:=Lib.hid (If (d:=d) Hp.out)
    have HC84:=fun j k hj hk=>Lib.hid (LQ (d:=d) (i:=j) (k:=k) HPl.out hj hk)
    have hfb:=FN d p.1
    have hp16:=HPl.out
    clear HDt HPw HFr HBe HFB HN1 HN2 HL HE1 HPX HF
    generalize cr p.1 d=fs at*
    generalize bc p.1 d=bs at*
    have hfl:fs.length≤16:=by omega
    have hbl:bs.length≤16:=by omega
    clear hfb hp16 hpn' Hpn Hp HPl Hcv Hpv
    obtain⟨fa,fc,rfl⟩:=aT HS.out.f
    obtain⟨ga,gc,rfl⟩:=aT HS.out.g
    go_wp2
    go_loopw [9,66] (fun s9 x wr=>∃(j:Nat) (q2:Bod) (b:Bool) (qv rv:Value),j≤fs.length∧x= .int .i64 j∧s9= .bool b∧Hid (SwS W.heap.size W (.slice pa i pc) (.slice ca cn cc) d fs bs q2 (.slice fa fs.length fc) (.slice ga bs.length gc) qv rv wr)∧Hid (Lp2 fs bs d qi j q2)) (fun _ x _=>fs.length-(intOf x).toNat)
    case atStart=>exact⟨0,qi,b,qv,rv,Nat.zero_le _,rfl,rfl,HS,Lib.hid ⟨rfl,by rw[Nat.zero_mul];exact HE2.out⟩⟩
    case round=>
     rename World=>wq
     clear HS
     obtain⟨j,q2,b2,qv2,rv2,hj,rfl,rfl,HS,HL⟩:=hrel
     by_cases hlt:j<fs.length
     ·obtain⟨g1,rfl,hci⟩:=EN HS.out.f (by omega)
      obtain⟨e0,e1,e2,e3⟩:=hci j hlt
      rw[Nat.zero_add]at e0 e1 e2 e3
      have ze:=World.block_lt_of_cell? _ _ e0
      simp only at ze
      have HXo:=Lib.hid (HFo.out _ (List.getElem_mem hlt))
      have HN4:=fun k hn=>Lib.hid ((HN3 j q2 hlt HL.out k hn).out)
      have HNx:=fun q3 h=>Lib.hid (HL.out.next (q3:=q3) hlt h)
      have HC4:=fun k hk=>Lib.hid (HC84 j k hlt hk).out
      have HLk:=Lib.hid HL.out.2
      clear hci HN3 HC84 HL
      generalize j*bs.length=jm at*
      generalize fs[j]=c at*
      obtain⟨c0,c1,c2,c3⟩:=c
      simp only at e0 e1 e2 e3
      have hqs:=HS.out.hs
      go_wp2
      go_loopw [9,72] (fun s9 x wr=>∃(k:Nat) (q3:Bod) (b:Bool) (qv rv:Value),k≤bs.length∧x= .int .i64 k∧s9= .bool b∧Hid (SwS W.heap.size W (.slice pa i pc) (.slice ca cn cc) d fs bs q3 (.slice (some ⟨g1,0,none⟩) fs.length fc) (.slice ga bs.length gc) qv rv wr)∧Hid (wr.heap[wq.heap.size]? =some (.cells #[.int .i64 c0, .int .i64 c1, .int .i64 c2, .int .i64 c3] 166 (0,0)))∧Hid (Lp3 (c0,c1,c2,c3) bs d q2 (16+jm) k q3)) (fun _ x _=>bs.length-(intOf x).toNat)
      case atStart=>exact⟨0,q2,b2,qv2,rv2,Nat.zero_le _,rfl,rfl,Lib.hid (HS.out.keep bel),Lib.hid (ai rfl),Lib.hid ⟨rfl,HLk.out⟩⟩
      case round=>
       rename World=>wk
       clear HS e0 e1 e2 e3 ze
       obtain⟨k,q3,b3,qv3,rv3,hk,rfl,rfl,HS,HX,HL⟩:=hrel
       by_cases hkt:k<bs.length
       ·obtain⟨g2,rfl,hci⟩:=EN HS.out.g (by omega)
        obtain⟨e0,e1,e2,e3⟩:=hci k hkt
        rw[Nat.zero_add]at e0 e1 e2 e3
        have ze:=World.block_lt_of_cell? _ _ e0
        simp only at ze
        have HYo:=Lib.hid (HBo.out _ (List.getElem_mem hkt))
        have hmk:=(HC4 k hkt).out
        have HSk:=fun hz=>Lib.hid (HL.out.skip hkt hz)
        have HMx:=Lib.hid (Jf _ _ d HXo.out HYo.out Hd.out)
        have HSc:=fun hz hc=>Lib.hid (HL.out.cut hkt hmk HMx.out hz hc)
        have HSo:=fun hz hc=>Lib.hid (HN4 (k+1) (HL.out.out hkt hz hc)).out
        have HCt:=fun qv rv W' (h1:Q4s W' qv q3.1) (h2:Q4s W' rv q3.2)=>Lib.hid (GC q3 _ qv rv W' HMx.out HL.out.2.2.2.1 HL.out.2.2.2.2 (by have:=HL.out.2.1;omega) (by have:=HL.out.2.2.1;omega) h1 h2)
        have HDx:=fun W'=>Lib.hid ((HDg _ HXo.out W').out)
        have HDy:=fun W'=>Lib.hid ((HDg _ HYo.out W').out)
        have hdx:=LJ HXo.out Hd.out
        have hdy:=LJ HYo.out Hd.out
        have hox:=HXo.out
        have hoy:=HYo.out
        clear hci HC4 HN4 HDg HNx HBo HFo HL
        generalize bs[k]=y at*
        obtain⟨y0,y1,y2,y3⟩:=y
        simp only[bI]at e0 e1 e2 e3 hox hoy
        obtain⟨x0,x1,x2,x3,xf,xz⟩:=am HX.out
        obtain⟨d0,d1,d2,df,dz⟩:=EP HS.out.d
        have Hmx:Hid (kv (c0,c1,c2,c3) (y0,y1,y2,y3) d=(c0* -(bj (nrm (y0,y1,y2,y3)) d)+y0*bj (nrm (c0,c1,c2,c3)) d,c1* -(bj (nrm (y0,y1,y2,y3)) d)+y1*bj (nrm (c0,c1,c2,c3)) d,c2* -(bj (nrm (y0,y1,y2,y3)) d)+y2*bj (nrm (c0,c1,c2,c3)) d,c3* -(bj (nrm (y0,y1,y2,y3)) d)+y3*bj (nrm (c0,c1,c2,c3)) d)):=Lib.hid rfl
        generalize kv (c0,c1,c2,c3) (y0,y1,y2,y3) d=M at*
        generalize bj (nrm (c0,c1,c2,c3)) d=sx at*
        generalize bj (nrm (y0,y1,y2,y3)) d=sy at*
        clear HXo HYo
        go_wp2_with fail
        have hwy:Below wk.heap.size wk (wk.alloc (.cells #[.int .i64 y0, .int .i64 y1, .int .i64 y2, .int .i64 y3] 166)):=bel
        have dz1:W.heap.size+1<wk.heap.size:=by omega
        have dz2:W.heap.size+1+1<wk.heap.size+1:=by omega
        have xz1:wq.heap.size<wk.heap.size+1:=by omega
        apply aj [9] [0,1,2,3,4,5,6,7,8,9] 10 [] [sv _,sv _,sv _,sv _,sv _,sv _,sv _,sv _,sv _,sv _] (by kernel_rfl) (by kernel_rfl)
        iterate 3 ((try go_frame);refine wkQ ?_)
        try go_frame
        refine wkV ?_
        apply ex3
        ·intro u K hK
         go_simp
         refine((HDx _).out).mono ?_
         rintro e w9 ⟨rfl,hb9⟩
         exact hK _ hb9
        rfl
        iterate 3 ((try go_frame);refine wkQ ?_)
        try go_frame
        refine wkV ?_
        apply ex3
        ·intro u K hK
         go_simp
         refine((HDy _).out).mono ?_
         rintro e w9 ⟨rfl,hb9⟩
         exact hK _ hb9
        rfl
        ((try go_frame);refine wkQ ?_)
        try go_frame
        refine wkz rfl rfl rfl rfl ?_
        apply Exists.intro
        apply And.intro
        ·intro w9
         go_simp
         try rfl
        refine⟨rfl, ?_⟩
        try go_frame
        refine aI (fun u hR=> ?_)
        have hbu:=ae hwy u.below
        have HS2:=Lib.hid (HS.out.keep hbu)
        have HX2:=Lib.hid ((hbu.block _ (ah HX.out)).trans HX.out)
        have HY2:Hid (u.val.heap[wk.heap.size]? =some (.cells #[.int .i64 y0, .int .i64 y1, .int .i64 y2, .int .i64 y3] 166 (0,0))):=Lib.hid ((u.below.block _ (by simp)).trans (ai rfl))
        have hks:=HS.out.hs
        have hkx:=ah HX.out
        clear dz1 dz2 xz1 hR hwy hbu HS HX HDx HDy e0 e1 e2 e3 ze x0 x1 x2 x3 xf xz d0 d1 d2 df dz
        generalize u.val=w2 at*
        clear u
        simp only[oas]
        go_wp2
        refine NoPanic.normal ?_
        go_wp2
        have hdn: -24≤ -sy∧ -sy≤24:=by omega
        clear hdy
        generalize -sy=ny at*
        have p0:=aJ hox.1.1 hox.1.2 hdn.1 hdn.2
        have p1:=aJ hox.2.1.1 hox.2.1.2 hdn.1 hdn.2
        have p2:=aJ hox.2.2.1.1 hox.2.2.1.2 hdn.1 hdn.2
        have p3:=aJ hox.2.2.2.1 hox.2.2.2.2 hdn.1 hdn.2
        have r0:=aJ hoy.1.1 hoy.1.2 hdx.1 hdx.2
        have r1:=aJ hoy.2.1.1 hoy.2.1.2 hdx.1 hdx.2
        have r2:=aJ hoy.2.2.1.1 hoy.2.2.1.2 hdx.1 hdx.2
        have r3:=aJ hoy.2.2.2.1 hoy.2.2.2.2 hdx.1 hdx.2
        have hkw:wk.heap.size<w2.heap.size:=ah HY2.out
        have hxw:wq.heap.size<w2.heap.size:=ah HX2.out
        clear hox hoy hdn hdx
        have j0:=qD (.int .i64 c0) (.int .i64 c1) (.int .i64 c2)
        have j1:=qE (.int .i64 c0) (.int .i64 c1) (.int .i64 c2)
        have j2:=qF (.int .i64 c0) (.int .i64 c1) (.int .i64 c2)
        go_loopw [85] (fun x wr=>∃n:Int,0≤n∧n≤3∧x= .int .i64 n∧Below w2.heap.size w2 wr∧Hid (wr.heap[w2.heap.size]? =some (.cells #[.int .i64 (if 1≤n then c0*ny+y0*sx else 0), .int .i64 (if 2≤n then c1*ny+y1*sx else 0), .int .i64 (if 3≤n then c2*ny+y2*sx else 0), .int .i64 0] 166 (0,0)))) (fun x _=>3-(intOf x).toNat)
        case atStart=>exact⟨0,by omega,by omega,rfl,bel,Lib.hid (ai rfl)⟩
        case round=>
         rename World=>wm
         obtain⟨n,hn0,hn,rfl,hb,HM⟩:=hrel
         have HXm:=Lib.hid ((hb.block _ hxw).trans HX2.out)
         have HYm:=Lib.hid ((hb.block _ hkw).trans HY2.out)
         obtain⟨x0,x1,x2,x3,xf,xz⟩:=am HXm.out
         obtain⟨u0,u1,u2,u3,uf,uz⟩:=am HYm.out
         rcases(by omega:n=0∨n=1∨n=2∨n=3)with rfl|rfl|rfl|rfl
         ·have HM1:Hid (wm.heap[w2.heap.size]? =some (.cells #[.int .i64 0, .int .i64 0, .int .i64 0, .int .i64 0] 166 (0,0))):=Lib.hid (by simpa using HM.out)
          clear HM
          obtain⟨m0,m1,m2,m3,mf,mz⟩:=am HM1.out
          go_wp2
          apply aj [] [0,1,2,3,4,5,6,7,8,9,10,11,12,13,14] 15 [16] [sv _,sv _,sv _,sv _,sv _,sv _,sv _,sv _,sv _,sv _,sv _,sv _,sv _,sv _,sv _] (by kernel_rfl) (by kernel_rfl)
          iterate 15 ((try go_frame);refine wkQ ?_)
          try go_frame
          refine aI (fun u hR=> ?_)
          have HM9:=Lib.hid ((u.below.block _ (ah HM1.out)).trans HM1.out)
          have hb9:Below w2.heap.size w2 (u.val.setCell ⟨w2.heap.size,0,none⟩ (.int .i64 (c0*ny+y0*sx))):=Below.setCell (hb.trans (u.below.mono hb.size)) (Nat.le_refl _) _
          clear hR HM1 m0 m1 m2 m3 mf mz x0 x1 x2 x3 xf xz u0 u1 u2 u3 uf uz
          generalize u.val=w9 at*
          clear u
          obtain⟨m0,m1,m2,m3,mf,mz⟩:=am HM9.out
          simp only[oas]
          go_wp2
          refine NoPanic.normal ?_
          go_wp2
          go_roundw
          case rel=>exact⟨1,by omega,by omega,by go_num,hb9,Lib.hid (by have:=br HM9.out 0 (.int .i64 (c0*ny+y0*sx));simpa using this)⟩
          case measure=>first|(simp[intOf];done)|(simp[intOf];omega)
         ·have HM1:Hid (wm.heap[w2.heap.size]? =some (.cells #[.int .i64 (c0*ny+y0*sx), .int .i64 0, .int .i64 0, .int .i64 0] 166 (0,0))):=Lib.hid (by simpa using HM.out)
          clear HM
          obtain⟨m0,m1,m2,m3,mf,mz⟩:=am HM1.out
          go_wp2
          apply aj [] [0,1,2,3,4,5,6,7,8,9,10,11,12,13,14] 15 [16] [sv _,sv _,sv _,sv _,sv _,sv _,sv _,sv _,sv _,sv _,sv _,sv _,sv _,sv _,sv _] (by kernel_rfl) (by kernel_rfl)
          iterate 15 ((try go_frame);refine wkQ ?_)
          try go_frame
          refine aI (fun u hR=> ?_)
          have HM9:=Lib.hid ((u.below.block _ (ah HM1.out)).trans HM1.out)
          have hb9:Below w2.heap.size w2 (u.val.setCell ⟨w2.heap.size,1,none⟩ (.int .i64 (c1*ny+y1*sx))):=Below.setCell (hb.trans (u.below.mono hb.size)) (Nat.le_refl _) _
          clear hR HM1 m0 m1 m2 m3 mf mz x0 x1 x2 x3 xf xz u0 u1 u2 u3 uf uz
          generalize u.val=w9 at*
          clear u
          obtain⟨m0,m1,m2,m3,mf,mz⟩:=am HM9.out
          simp only[oas]
          go_wp2
          refine NoPanic.normal ?_
          go_wp2
          go_roundw
          case rel=>exact⟨2,by omega,by omega,by go_num,hb9,Lib.hid (by have:=br HM9.out 1 (.int .i64 (c1*ny+y1*sx));simpa using this)⟩
          case measure=>first|(simp[intOf];done)|(simp[intOf];omega)
         ·have HM1:Hid (wm.heap[w2.heap.size]? =some (.cells #[.int .i64 (c0*ny+y0*sx), .int .i64 (c1*ny+y1*sx), .int .i64 0, .int .i64 0] 166 (0,0))):=Lib.hid (by simpa using HM.out)
          clear HM
          obtain⟨m0,m1,m2,m3,mf,mz⟩:=am HM1.out
          go_wp2
          apply aj [] [0,1,2,3,4,5,6,7,8,9,10,11,12,13,14] 15 [16] [sv _,sv _,sv _,sv _,sv _,sv _,sv _,sv _,sv _,sv _,sv _,sv _,sv _,sv _,sv _] (by kernel_rfl) (by kernel_rfl)
          iterate 15 ((try go_frame);refine wkQ ?_)
          try go_frame
          refine aI (fun u hR=> ?_)
          have HM9:=Lib.hid ((u.below.block _ (ah HM1.out)).trans HM1.out)
          have hb9:Below w2.heap.size w2 (u.val.setCell ⟨w2.heap.size,2,none⟩ (.int .i64 (c2*ny+y2*sx))):=Below.setCell (hb.trans (u.below.mono hb.size)) (Nat.le_refl _) _
          clear hR HM1 m0 m1 m2 m3 mf mz x0 x1 x2 x3 xf xz u0 u1 u2 u3 uf uz
          generalize u.val=w9 at*
          clear u
          obtain⟨m0,m1,m2,m3,mf,mz⟩:=am HM9.out
          simp only[oas]
          go_wp2
          refine NoPanic.normal ?_
          go_wp2
          go_roundw
          case rel=>exact⟨3,by omega,by omega,by go_num,hb9,Lib.hid (by have:=br HM9.out 2 (.int .i64 (c2*ny+y2*sx));simpa using this)⟩
          case measure=>first|(simp[intOf];done)|(simp[intOf];omega)
         ·have HM1:Hid (wm.heap[w2.heap.size]? =some (.cells #[.int .i64 (c0*ny+y0*sx), .int .i64 (c1*ny+y1*sx), .int .i64 (c2*ny+y2*sx), .int .i64 0] 166 (0,0))):=Lib.hid (by simpa using HM.out)
          clear HM
          have HSm:=Lib.hid (HS2.out.keep hb)
          obtain⟨t0,t1,t2,t3⟩:=M
          have hT:=Hmx.out
          simp only[Prod.mk.injEq]at hT
          have HT:=Lib.hid hT
          clear hT Hmx
          rw[←HT.out.1, ←HT.out.2.1, ←HT.out.2.2.1]at HM1
          obtain⟨m0,m1,m2,m3,mf,mz⟩:=am HM1.out
          have hb5:Below w2.heap.size w2 (wm.setCell ⟨w2.heap.size,3,none⟩ (.int .i64 (c3*ny+y3*sx))):=Below.setCell hb (Nat.le_refl _) _
          have HS5:=Lib.hid (HS2.out.keep hb5)
          have HX5:=Lib.hid ((hb5.block _ hxw).trans HX2.out)
          have HM5:Hid ((wm.setCell ⟨w2.heap.size,3,none⟩ (.int .i64 (c3*ny+y3*sx))).heap[w2.heap.size]? =some (.cells #[.int .i64 t0, .int .i64 t1, .int .i64 t2, .int .i64 t3] 166 (0,0))):=Lib.hid (by
           have:=br HM1.out 3 (.int .i64 (c3*ny+y3*sx))
           rw[HT.out.2.2.2]
           simpa using this)
          clear HS2 HX2 HY2 HSm HXm HYm HM1 hb5 HT
          by_cases hz:t0=0∧t1=0∧t2=0
          ·have heq:∀w,(Op.equalIn 10000 104 (.agg #[.int .i64 t0, .int .i64 t1, .int .i64 t2]) (.agg #[.int .i64 0, .int .i64 0, .int .i64 0])).run Tryz.prog w= .ok true w:=fun w=>by rw[nL];simp[hz.1,hz.2.1,hz.2.2]
           have HL2:=Lib.hid ((HSk (by simp[nrm,hz.1,hz.2.1,hz.2.2])).out)
           clear hz HSk HSc HSo HCt HMx
           go_wp2
           go_roundw
           case rel=>exact⟨k+1,q3,b3,qv3,rv3,by omega,by go_num,rfl,HS5,HX5,HL2⟩
           case measure=>first|(simp[intOf];done)|(simp[intOf];omega)
          ·have heq:∀w,(Op.equalIn 10000 104 (.agg #[.int .i64 t0, .int .i64 t1, .int .i64 t2]) (.agg #[.int .i64 0, .int .i64 0, .int .i64 0])).run Tryz.prog w= .ok false w:=fun w=>by
            rw[nL]
            congr 1
            simpa [and_assoc]using hz
           have hz2:¬nrm (t0,t1,t2,t3)=(0,0,0):=fun h=>hz (by simpa [nrm]using h)
           have HSc2:=fun hc=>Lib.hid ((HSc hz2 hc).out)
           have HSo2:=fun hc=>Lib.hid ((HSo hz2 hc).out)
           clear hz hz2 HSk HSc HSo HMx
           go_upto_region 33 with fail
           clear heq m0 m1 m2 m3 mf mz x0 x1 x2 x3 xf xz u0 u1 u2 u3 uf uz p0 p1 p2 p3 r0 r1 r2 r3 j0 j1 j2
           generalize wm.setCell ⟨w2.heap.size,3,none⟩ (.int .i64 (c3*ny+y3*sx))=w5 at*
           obtain⟨qa',qn',qc',rfl, -⟩:=id HS5.out.hq
           obtain⟨ra',rn',rc',rfl, -⟩:=id HS5.out.hr
           obtain⟨x0,x1,x2,x3,xf,xz⟩:=am HM5.out
           obtain⟨z0,z1,zz⟩:=nm HS5.out.x
           have HC5:=Lib.hid ((HCt _ _ w5 HS5.out.hq HS5.out.hr).out)
           clear HCt
           go_wp2_with fail
           refine(HC5.out).mono ?_
           rintro e w6 ⟨qv',rv',rfl,hb6,hq1,hq2,hf1,hf2⟩
           have HS6:=Lib.hid (HS5.out.cut _ hb6 hq1 hq2 hf1 hf2)
           have HZ6:=Lib.hid ((hb6.block _ (ah HS5.out.x)).trans HS5.out.x)
           have HX6:Hid (((w6.setCell ⟨W.heap.size+1,0,none⟩ qv').setCell ⟨W.heap.size+1,1,none⟩ rv').heap[wq.heap.size]? =some (.cells #[.int .i64 c0, .int .i64 c1, .int .i64 c2, .int .i64 c3] 166 (0,0))):=Lib.hid ((Below.heap_setCell _ _ _ _ (by show wq.heap.size≠W.heap.size+1;omega)).trans ((Below.heap_setCell _ _ _ _ (by show wq.heap.size≠W.heap.size+1;omega)).trans ((hb6.block _ (ah HX5.out)).trans HX5.out)))
           obtain⟨qa2,qn2,qc2,rfl, -⟩:=hq1
           obtain⟨ra2,rn2,rc2,rfl, -⟩:=hq2
           clear HC5 HX5 HS5 HM5 hb6 hf1 hf2 z0 z1 zz x0 x1 x2 x3 xf xz
           obtain⟨z0,z1,zz⟩:=nm HZ6.out
           have zf:=aC HZ6.out
           clear HZ6
           cases hr:(qm q3 (t0,t1,t2,t3)).2 with
           |true=>
            have HL2:=Lib.hid ((HSc2 hr).out)
            clear hr HSc2 HSo2
            go_wp2
            go_roundw
            case rel=>exact⟨k+1,_,true, .slice qa2 qn2 qc2, .slice ra2 rn2 rc2,by omega,by go_num,rfl,HS6,HX6,HL2⟩
            case measure=>first|(simp[intOf];done)|(simp[intOf];omega)
           |false=>
            have HR2:=Lib.hid ((HSo2 hr).out)
            clear hr HSc2 HSo2
            go_wp2
            go_ret
            exact⟨ay HR2.out.symm,HS6.out.hW⟩
       ·obtain rfl:k=bs.length:=by omega
        have HL2:=Lib.hid ((HNx _ HL.out).out)
        go_wp2
        go_roundw
        case rel=>exact⟨j+1,q3,b3,qv3,rv3,by omega,by go_num,rfl,HS,HL2⟩
        case measure=>first|(simp[intOf];done)|(simp[intOf];omega)
     ·obtain rfl:j=fs.length:=by omega
      have HR:=Lib.hid ((HFin _ HL.out).out)
      go_wp2
      go_ret
      exact⟨ay HR.out.symm,HS.out.hW⟩
end
section
open Go.RowKit
theorem BM (ps cs:List Q4):(jz ps cs).length≤ps.length∧∀p∈jz ps cs,p∈ps:=⟨List.length_filter_le _ _,fun _ h=>(List.mem_filter.1 h).1⟩
def c2:Nat→Nat
 |0=>0
 |n+1=>c2 n+n
def c3:Nat→Nat
 |0=>0
 |n+1=>c3 n+c2 n
theorem LS (ps:List Q4) (i k m:Nat):(jo ps i k m).length≤1:=by
 unfold jo
 split
 ·simp
 ·split<;>simp
theorem LT (ps:List Q4) (i k m:Nat):(gI ps i k m).length≤m:=by
 induction m with
 |zero=>simp[gI]
 |succ m ih=>
  rw[gq,List.length_append]
  have:=LS ps i k m
  omega
theorem LU (ps:List Q4) (i k:Nat):(gJ ps i k).length≤c2 k:=by
 induction k with
 |zero=>simp[gJ]
 |succ k ih=>
  have h:gJ ps i (k+1)=gJ ps i k++gI ps i k k:=by simp[gJ,List.range_succ]
  have h2:=LT ps i k k
  rw[h,List.length_append]
  unfold c2
  omega
theorem MB (ps:List Q4) (n:Nat):(raw ps n).length≤c3 n:=by
 induction n with
 |zero=>simp[raw]
 |succ n ih=>
  have h:raw ps (n+1)=raw ps n++gJ ps n n:=by simp[raw,List.range_succ]
  have h2:=LU ps n n
  rw[h,List.length_append]
  unfold c3
  omega
theorem MC:∀n≤16,c3 n≤560:=by decide
theorem FR {ps:List Q4} (h:ps.length≤16):(cd ps).length≤600:=by
 unfold cd
 have h1:=zX (raw ps ps.length) []
 have h2:=MB ps ps.length
 have h3:=MC _ h
 simp only[List.length_nil]at h1
 omega
theorem Ig {ps:List Q4} (hl:ps.length≤16) (hp:∀p∈ps,bI p) (hc:∀c∈cd ps,okX c):okBd 0 (bp ps):=
 ⟨Nat.le_trans (BM ps _).1 hl,FR hl,fun p h=>DW (hp p ((BM ps _).2 p h)),hc⟩
end
section
open Go.RowKit
section
variable {P:Program} {ops:Array Oper} {md:Region.Mode} {Q:Exit→Act→World→Prop}
def il (md:Region.Mode) (ops:Array Oper) (wi ci:List Nat) (t0:Nat) (ts:List Nat):Bool:=
 Region.noSelect ops&&gZ ops&&decide ci.Nodup&&decide (ci.Pairwise (· < ·))&&((t0::ts).all fun t=>decide (t<ops.size))&&decide (ci.length+(ts.length+1)=ops.size)&&fQ md ops t0 (ci.filter fun i=> !wi.contains i)&&(wi.all fun i=>ci.contains i)&&decide wi.Nodup&&pr md ops (fun _=>true) wi (Array.replicate ops.size false)&&cT md ops (t0::ts)&&
 (ci.all fun i=> !(t0::ts).contains i)&&((List.range ops.size).all fun j=>ci.contains j || (t0::ts).contains j)&&
 (ci.all fun i=>match ops[i]? with
  |some o=>(o.after.all fun e=> !Region.binds md e || (decide (e.on<i)&&ci.contains e.on))&&
    ((List.range ops.size).all fun j=>(t0::ts).contains j || Region.waitsFor md ops i j || !((aM ops j).any fun d=>(o.looksAt ops).contains d))
  |none=>false)&&
 bJ md ops (t0::ts) (bw ops ci ops.size)
theorem pT {wi ci:List Nat} (hn:ci.Nodup) (hw:wi.Nodup) (hs:∀i∈wi,i∈ci) {listed:Array Bool} (hl:∀i,listed.getD i false=true↔i∈wi):(ci.filter fun i=> !listed.getD i false).length+wi.length=ci.length:=by
 have h1:(ci.filter fun i=>listed.getD i false).length=wi.length:=by
  refine List.Perm.length_eq ((List.perm_ext_iff_of_nodup (hn.filter _) hw).2 fun x=> ?_)
  rw[List.mem_filter,hl x]
  exact⟨fun h=>h.2,fun h=>⟨hs x h,h⟩⟩
 have h2:∀l:List Nat,(l.filter fun i=> !listed.getD i false).length+(l.filter fun i=>listed.getD i false).length=l.length:=by
  intro l
  induction l with
  |nil=>rfl
  |cons x l ih=>
   rw[List.filter_cons,List.filter_cons]
   generalize(listed.getD x false)=b
   cases b<;>simp only[Bool.not_false,Bool.not_true,if_true,Bool.false_eq_true,if_false,List.length_cons]<;>omega
 have:=h2 ci
 omega
end
end
section
open Go.RowKit Go.Shelf
theorem tE {ps:List Q4} (hps:∀p∈ps,bI p):∀c∈cd ps,fD c:=fun c hc=>by
 have hr:=((lf ps).2 c).1 hc
 obtain⟨p,hp,q,hq,r,hr',h0,rfl⟩:=mx (Nat.le_refl _) hr
 have:=lV p q r (hps p hp) (hps q hq) (hps r hr')
 exact lW p q r _ (hps p hp) (hps q hq) (hps r hr') (by omega) h0
theorem tF (p:Q4) (w:World) (h:cI p):Calls Tryz.prog 61 #[v4 p] w (Ret w (v4 (dG p))):=by
 obtain⟨⟨h0,h1,h2,h3⟩,hne⟩:=h
 exact pF p.1 p.2.1 p.2.2.1 p.2.2.2 w (by omega) (by omega) (by omega) (by omega) hne
section
variable (f:Q4→Bool)
end
end
section
open Go.RowKit Go.Shelf
attribute [local go_sem] Ext.cell Ext.frozen
theorem de (n lo hi:Int) (w:World):Calls Tryz.prog 32 #[.int .i64 n, .int .i64 lo, .int .i64 hi] w fun e w'=>e= .returned (.bool (decide (lo≤n∧n≤hi)))∧w=w':=by
 by_cases h1:lo≤n
 ·by_cases h2:n≤hi
  ·go_enter Tryz.func32,Tryz.ntmps32
   go_wp2
   go_ret
   exact⟨ay (by simp[h1,h2]),rfl⟩
  ·go_enter Tryz.func32,Tryz.ntmps32
   go_wp2
   go_ret
   exact⟨ay (by simp[h2]),rfl⟩
 ·go_enter Tryz.func32,Tryz.ntmps32
  go_wp2
  go_ret
  exact⟨ay (by simp;omega),rfl⟩
end
section
open Go.RowKit
section
variable {P:Program} {ops:Array Oper} {md:Region.Mode} {Q:Exit→Act→World→Prop}
def vK (P:Program) (ops:Array Oper) (S:World→Prop) (Q:Exit→Act→World→Prop) (fin:List Nat):List Nat→Exit→Act→World→Prop
 | []=>Mid P ops S Q (bu ops fin)
 |m::ms=>fun e a w=>match e with
  | .normal=>S w∧wpList P ops (vK P ops S Q fin ms) (bu ops [m]) a w
  |_=>False
theorem pY {S:World→Prop} {fin:List Nat} {m g:Nat} {listed:Array Bool} {a:Act} {w:World} (hB:Region.ready md ops listed=[m]) {R:Exit→Act→World→Prop} {T:Act→World→Prop} (hR:R=fun e a w=>match e with| .normal=>S w∧T a w|_=>False)
  (h:wpList P ops R (bu ops [m]) a w) (hT:∀a' w',T a' w'→jX P md ops Q S fin g (listed.setIfInBounds m true) a' w'):jX P md ops Q S fin (g+1) listed a w:=by
 have hi:m∈Region.ready md ops listed:=by rw[hB];simp
 obtain⟨_,om,hom,_⟩:=mem_ready.1 hi
 refine⟨fun h1=>(by rw[hB]at h1;cases h1),fun j hj=> ?_⟩
 rw[hB]at hj
 have hji:j=m:=by simpa using hj
 subst hji
 have h':wpList P ops R [om] a w:=by simpa [bu,hom]using h
 have:=lR (Q:=Q) h' j hom (fun e a w he=>by subst hR;cases e<;>first|rfl|exact he.elim)
 refine wpOp_mono (fun a' w' h'=> ?_) this
 subst hR
 exact⟨fun _=>h'.1,hT _ _ h'.2⟩
theorem nz {S:World→Prop} {f0:Nat} {fs:List Nat}:∀(ms:List Nat) (t0:Nat) (listed:Array Bool) (a:Act) (w:World),bJ md ops (t0::(ms++f0::fs)) listed=true→wpList P ops (vK P ops S Q (f0::fs) ms) (bu ops [t0]) a w→
  jX P md ops (NoPanic Q) S (f0::fs) (1+(ms.length+(fs.length+1))) listed a w
 | [],t0,listed,a,w,hB,h=>by
  simp only[bJ,List.nil_append,Bool.and_eq_true,decide_eq_true_eq]at hB
  rw[show 1+(([]:List Nat).length+(fs.length+1))=(fs.length+1)+1 by simp;omega]
  refine pY hB.1 (T:=fun a' w'=>wpList P ops (NoPanic Q) (bu ops (f0::fs)) a' w') (by funext e a w;cases e<;>rfl) h fun a' w' h'=> ?_
  exact ie (f0::fs) _ a' w' (fun _ h=>h) (by simp only[bJ,Bool.and_eq_true,decide_eq_true_eq];exact hB.2) h'
 |m::ms,t0,listed,a,w,hB,h=>by
  rw[List.cons_append]at hB
  have hB1:Region.ready md ops listed=[t0]∧bJ md ops (m::(ms++f0::fs)) (listed.setIfInBounds t0 true)=true:=by
   rw[bJ,Bool.and_eq_true,decide_eq_true_eq]at hB
   exact hB
  rw[show 1+((m::ms).length+(fs.length+1))=(1+(ms.length+(fs.length+1)))+1 by simp;omega]
  exact pY hB1.1 (T:=fun a' w'=>wpList P ops (vK P ops S Q (f0::fs) ms) (bu ops [m]) a' w') (by funext e a w;cases e<;>rfl) h fun a' w' h'=>nz ms m _ a' w' hB1.2 h'
theorem li {f0:Nat} {fs:List Nat}:∀(l:List Nat),cT md ops (l++f0::fs)=true→cT md ops (f0::fs)=true
 | [],h=>h
 | [x],h=>by
  simp only[List.cons_append,List.nil_append,cT,Bool.and_eq_true]at h
  simpa only[cT]using h.2
 |x::y::l,h=>li (y::l) (by
  simp only[List.cons_append,cT,Bool.and_eq_true]at h ⊢
  simpa only[cT]using h.2)
theorem ot {wi ci:List Nat} {t0 f0:Nat} {ms fs:List Nat} (hB:il md ops wi ci t0 (ms++f0::fs)=true) {S:World→Prop} {R:Nat→Value→World→Prop} {a0:Act} {w0:World}
  (hS:∀u:Ext w0,S u.val) (hst:∀i v w w',Below w.heap.size w w'→R i v w→R i v w')
  (hob:∀i∈ci,∀vals,gOp P md ops R w0 Q i vals (frm ops a0 vals (bw ops ci i)))
  (hfin:∀vals w',Below w0.heap.size w0 w'→(∀i∈ci,R i (vals i) w')→wpList P ops (vK P ops S Q (f0::fs) ms) (bu ops [t0]) (frm ops a0 vals (bw ops ci ops.size)) w'):
  ∀(f:Nat) (listed:Array Bool) (vals:Nat→Value) (w:World),Inv md ops (t0::(ms++f0::fs)) listed→(∀i∈wi,listed.getD i false=true)→(ci.filter fun i=> !listed.getD i false).length=f→Below w0.heap.size w0 w→
   (∀j,listed.getD j false=true→R j (vals j) w)→jX P md ops (NoPanic Q) S (f0::fs) (f+(1+(ms.length+(fs.length+1)))) listed (frm ops a0 vals listed) w:=by
 simp only[il,Bool.and_eq_true,decide_eq_true_eq]at hB
 obtain⟨⟨⟨⟨⟨⟨⟨⟨⟨⟨⟨⟨⟨⟨hsel,hd⟩,hnd⟩,_⟩,htl⟩,hsz⟩,hs⟩,_⟩,_⟩,_⟩,hc⟩,hdis⟩,hcov⟩,hop⟩,hfo⟩:=hB
 have hit:∀i∈ci,i ∉ t0::(ms++f0::fs):=fun i hi=>by have:=List.all_eq_true.1 hdis i hi;simpa using this
 have hcv:∀j,j<ops.size→j∈ci∨j∈t0::(ms++f0::fs):=fun j hj=>by have:=List.all_eq_true.1 hcov j (List.mem_range.2 hj);simpa using this
 have hops:∀i∈ci,∃o,ops[i]? =some o∧(∀e∈o.after,Region.binds md e=true→e.on<i∧e.on∈ci)∧(∀j,j<ops.size→j∈t0::(ms++f0::fs)∨Region.waitsFor md ops i j=true∨∀d,aM ops j=some d→d ∉ o.looksAt ops):=fun i hi=>by
  have h:=List.all_eq_true.1 hop i hi
  cases ho:ops[i]? with
  |none=>rw[ho]at h;cases h
  |some o=>
   rw[ho]at h
   simp only[Bool.and_eq_true]at h
   obtain⟨he,hl⟩:=h
   refine⟨o,rfl,fun e hem hb=> ?_,fun j hj=> ?_⟩
   ·have:=Array.all_eq_true'.1 he e hem
    simpa [hb]using this
   ·have:=List.all_eq_true.1 hl j (List.mem_range.2 hj)
    simp only[Bool.or_eq_true]at this
    rcases this with(h|h)|h
    ·exact .inl (by simpa using h)
    ·exact .inr (.inl h)
    ·refine .inr (.inr fun d hd hm=> ?_)
     rw[hd]at h
     simp[hm]at h
 intro f
 induction f with
 |zero=>
  intro listed vals w inv hwi hcnt hb hR
  have hall:∀i∈ci,listed.getD i false=true:=fun i hi=>by
   have:=List.filter_eq_nil_iff.1 (List.length_eq_zero_iff.1 hcnt) i hi
   simpa using this
  have hL:listed=bw ops ci ops.size:=by
   have hsz2:(bw ops ci ops.size).size=ops.size:=by simp[bw]
   apply Array.ext (by rw[inv.size,hsz2])
   intro j h1 h2
   have e1:listed[j]=listed.getD j false:=by simp[Array.getD,h1]
   have e2:(bw ops ci ops.size)[j]=(bw ops ci ops.size).getD j false:=by simp[Array.getD,h2]
   have hj:j<ops.size:=by rw[←inv.size];exact h1
   rw[e1,e2,bg]
   rcases hcv j hj with h|h
   ·rw[hall j h];simp[hj,h]
   ·rw[getD_both (inv.tail j h hj)]
    have:j ∉ ci:=fun hh=>hit j hh h
    simp[this]
  subst hL
  rw[Nat.zero_add]
  exact nz ms t0 _ _ w hfo (hfin vals w hb fun i hi=>hR i (hall i hi))
 |succ f ih=>
  intro listed vals w inv hwi hcnt hb hR
  have hlt:∀i∈ci,i<listed.size:=fun i hi=>by
   obtain⟨o,ho,_⟩:=hops i hi
   rw[inv.size];exact(Array.getElem?_eq_some_iff.1 ho).1
  have hun:∃i∈ci,listed.getD i true=false:=by
   cases hfl:(ci.filter fun i=> !listed.getD i false)with
   |nil=>rw[hfl]at hcnt;cases hcnt
   |cons i l=>
    have hi:i∈ci.filter fun i=> !listed.getD i false:=by rw[hfl];simp
    obtain⟨h1,h2⟩:=List.mem_filter.1 hi
    exact⟨i,h1,getD_in (hlt i h1) (by simpa using h2)⟩
  have hex:∀n i,i≤n→i∈ci→listed.getD i true=false→∃k,k∈Region.ready md ops listed:=by
   intro n
   induction n with
   |zero=>
    intro i hin hi hu
    obtain⟨o,ho,he,_⟩:=hops i hi
    exact⟨i,mem_ready.2 ⟨hu,o,ho,fun e hem hb=>by have:=(he e hem hb).1;omega⟩⟩
   |succ n ihn=>
    intro i hin hi hu
    obtain⟨o,ho,he,_⟩:=hops i hi
    by_cases hall:∀e∈o.after,Region.binds md e=true→listed.getD e.on false=true
    ·exact⟨i,mem_ready.2 ⟨hu,o,ho,hall⟩⟩
    ·simp only[Classical.not_forall]at hall
     obtain⟨e,hem,hb,hn⟩:=hall
     obtain⟨h1,h2⟩:=he e hem hb
     exact ihn e.on (by omega) h2 (getD_in (hlt _ h2) (by simpa using hn))
  obtain⟨i1,hi1,hu1⟩:=hun
  obtain⟨k,hk⟩:=hex i1 i1 (Nat.le_refl _) hi1 hu1
  rw[show f+1+(1+(ms.length+(fs.length+1)))=(f+(1+(ms.length+(fs.length+1))))+1 by omega]
  refine⟨fun h0=>(by rw[h0]at hk;cases hk),fun i hi=> ?_⟩
  have htt:∀t∈t0::(ms++f0::fs),listed.getD t true=false:=fun t ht=>inv.tail t ht (by have:=List.all_eq_true.1 htl t ht;simpa using this)
  have hnt:i ∉ t0::(ms++f0::fs):=fun h=>by
   rcases List.mem_cons.1 h with rfl|h
   ·exact dm inv _ hs ⟨i1,List.mem_filter.2 ⟨hi1,by
     have hnw:i1 ∉ wi:=fun hh=>by have:=hwi i1 hh;rw[getD_both hu1]at this;cases this
     simpa using hnw⟩,hu1⟩ hi
   ·exact Bd htt t0 (ms++f0::fs) (fun _ h=>h) hc i h hi
  obtain⟨hu,o,ho,hall⟩:=mem_ready.1 hi
  have hic:i∈ci:=by
   rcases hcv i (Array.getElem?_eq_some_iff.1 ho).1 with h|h
   ·exact h
   ·exact absurd h hnt
  obtain⟨o',ho',he,hlk⟩:=hops i hic
  obtain rfl:o=o':=Option.some.inj (ho.symm.trans ho')
  have hdep:∀j,Region.waitsFor md ops i j=true→listed.getD j false=true∧j<i∧j∈ci:=fun j hj=>by
   obtain⟨oj,hoj,e,hem,hb',hon⟩:=Region.waitsFor_spec hj
   obtain rfl:o=oj:=Option.some.inj (ho.symm.trans hoj)
   subst hon
   exact⟨hall e hem hb',he e hem hb'⟩
  obtain⟨o2,d,ho2,hdst,hds,hwp⟩:=hob i hic vals w hb (fun j hj=>hR j (hdep j hj).1)
  obtain rfl:o=o2:=Option.some.inj (ho.symm.trans ho2)
  have hag:∀d∈o.looksAt ops,∀j,aM ops j=some d→listed.getD j false=(bw ops ci i).getD j false:=(fun d hd j hj=>by
   have hjs:j<ops.size:=by
    rcases Nat.lt_or_ge j ops.size with h|h
    ·exact h
    ·unfold aM at hj;rw[Array.getElem?_eq_none h]at hj;cases hj
   rw[bg]
   rcases hlk j hjs with h|h|h
   ·rw[getD_both (htt j h)]
    have:j ∉ ci:=fun hh=>hit j hh h
    simp[this]
   ·obtain⟨h1,h2,h3⟩:=hdep j h
    rw[h1];simp[hjs,h2,h3]
   ·exact absurd hd (h d hj))
  have hex2:execOp (frm ops a0 vals listed).eval o=execOp (frm ops a0 vals (bw ops ci i)).eval o:=gA o (fun cs b=>Region.noSelect_spec hsel i o cs b ho) hag
  have hwn:=eC (a0:=a0) (vals:=vals) o hag
  have hdo:aM ops i=o.dst:=by simp[aM,ho]
  have key:∀v w'',Below w.heap.size w w''→R i v w''→(i ∉ f0::fs→S w'')∧jX P md ops (NoPanic Q) S (f0::fs) (f+(1+(ms.length+(fs.length+1)))) (listed.setIfInBounds i true) ((frm ops a0 vals listed).put o.dst v) w'':=fun v w'' hbw hRv=>by
   refine⟨fun _=>hS ⟨w'',ae hb hbw⟩, ?_⟩
   rw[←hdo,dU hd (hlt i hic)]
   refine ih _ _ w'' (inv.set hi hnt) (fun k hk=>by
    by_cases hki:i=k
    ·subst hki
     have:=hwi i hk
     rw[getD_both hu]at this;cases this
    ·rw[getD_set_ne false hki];exact hwi k hk) ?_ (ae hb hbw) (fun j hj=> ?_)
   ·have:=fy hnd hic hu
    omega
   ·by_cases hji:j=i
    ·subst hji;simpa [upd]using hRv
    ·rw[getD_set_ne false (fun h=>hji h.symm)]at hj
     simp only[upd,if_neg hji]
     exact hst j _ _ _ hbw (hR j hj)
  unfold wpOp
  simp only[ho]
  rw[hwn]
  split
  ·rename_i hw
   rw[if_pos hw]at hwp
   refine .inl (Oper.wp_mono ?_ (iB hex2 hdst hds hwp))
   rintro x w'' ⟨v,rfl,hbw,hRv⟩
   exact key v w'' hbw hRv
  ·rename_i hw
   rw[if_neg hw]at hwp
   exact key undef w (Below.refl _ _) hwp
def pZ (P:Program) (ops:Array Oper) (S:World→Prop) (R:Nat→Value→World→Prop):List Nat→Act→Prop
 | [],_=>True
 |i::l,a=>∃o v,ops[i]? =some o∧YieldsIf P ops S o v a∧R i=IsV v∧pZ P ops S R l (a.put o.dst v)
theorem gR {S:World→Prop} {R:Nat→Value→World→Prop} {a:Act}:pZ P ops S R [] a:=trivial
theorem du {S:World→Prop} {R:Nat→Value→World→Prop} {i:Nat} {l:List Nat} {a:Act} {o:Oper} (ho:ops[i]? =some o) (hg:o.guard=none)
  (h:∃v,(∀w,S w→(execOp a.eval o).run P w= .ok (.value v) w)∧R i=IsV v∧pZ P ops S R l (a.put o.dst v)):pZ P ops S R (i::l) a:=by
 obtain⟨v,h1,h2,h3⟩:=h
 exact⟨o,v,ho, .inl ⟨by unfold Region.wanted;rw[hg],h1⟩,h2,h3⟩
theorem nA {wi cs:List Nat} {f0:Nat} {fs:List Nat} (hsel:Region.noSelect ops=true) (hd:gZ ops=true) {S:World→Prop} {R:Nat→Value→World→Prop} {a0:Act} {w:World} {g:Nat}
  (hB2:fQ md ops f0 cs=true) (hc:cT md ops (f0::fs)=true) (hwc:∀i∈wi,i∈cs) (hit:∀i∈wi,i ∉ f0::fs) (hSw:S w)
  (hK:∀listed vals,Inv md ops (f0::fs) listed→(∀i,listed.getD i false=true↔i∈wi)→(∀j,listed.getD j false=true→R j (vals j) w)→jX P md ops (NoPanic Q) S (f0::fs) g listed (frm ops a0 vals listed) w):
  ∀(l pre:List Nat) (listed:Array Bool) (vals:Nat→Value),wi=pre++l→(∀i,listed.getD i false=true↔i∈pre)→Inv md ops (f0::fs) listed→(∀j,listed.getD j false=true→R j (vals j) w)→
   pr md ops (fun _=>true) l listed=true→pZ P ops S R l (frm ops a0 vals listed)→jX P md ops (NoPanic Q) S (f0::fs) (l.length+g) listed (frm ops a0 vals listed) w
 | [],pre,listed,vals,he,hl,inv,hR,_,_=>by
  rw[List.append_nil]at he
  subst he
  simpa using hK listed vals inv hl hR
 |i::l,pre,listed,vals,he,hl,inv,hR,hB,h=>by
  simp only[pr,Bool.and_eq_true]at hB
  obtain⟨⟨hr,hf⟩,hB'⟩:=hB
  have hr':i∈Region.ready md ops listed:=by simpa using hr
  obtain⟨hu,oi,hoi,_⟩:=mem_ready.1 hr'
  obtain⟨o,v,ho,hy,hRv,h'⟩:=h
  obtain rfl:oi=o:=Option.some.inj (hoi.symm.trans ho)
  have hdo:aM ops i=oi.dst:=by simp[aM,ho]
  have hlt:i<listed.size:=by rw[inv.size];exact(Array.getElem?_eq_some_iff.1 ho).1
  have hiw:i∈wi:=by rw[he];simp
  have hset:(listed.setIfInBounds i true).getD i false=true:=by simp[Array.getD,hlt]
  rw[show(i::l).length+g=(l.length+g)+1 by simp;omega]
  refine lQ hoi (Region.noSelect_spec hsel) (fun c a w h=>h) cs hB2 hc (hwc i hiw) _ listed _ w inv (Region.free_spec hoi hf) hr' hy hSw ?_
  rw[←hdo,dU hd hlt]at h' ⊢
  refine nA hsel hd hB2 hc hwc hit hSw hK l (pre++[i]) _ _ (by rw[he];simp) (fun k=> ?_) (inv.set hr' (hit i hiw)) (fun j hj=> ?_) hB' h'
  ·by_cases hki:k=i
   ·subst hki;rw[hset];simp
   ·rw[getD_set_ne false (fun h=>hki h.symm),hl k];simp[hki]
  ·by_cases hji:j=i
   ·subst hji;rw[hRv];simp[upd,IsV]
   ·rw[getD_set_ne false (fun h=>hji h.symm)]at hj
    simp only[upd,if_neg hji]
    exact hR j hj
theorem bW {id:Nat} {a:Act} {w:World} {l:List Oper} (wi ci:List Nat) (t0:Nat) (ms:List Nat) (f0:Nat) (fs:List Nat) (R:List SP) (S:World→Prop) (hm:P.follows .mixedOrders=true) (hB:il .any l.toArray wi ci t0 (ms++f0::fs)=true)
  (hB2:fQ .any l.toArray f0 (ci++t0::ms)=true)
  (hS:∀u:Ext w,S u.val) (hz:pZ P l.toArray S (xm R) wi a)
  (h:wpK P .any l.toArray (xm R) w Q [] (fun vals a'=>∀u:Ext w,(∀i∈ci,xm R i (vals i) u.val)→wpList P l.toArray (vK P l.toArray S Q (f0::fs) ms) (bu l.toArray [t0]) a' u.val) ci (fun _=>undef) a):
  (Code.region id l.toArray true).wp P Q a w:=by
 refine wp_region_noPanic (wp_region_any hm ?_)
 have hst:∀i v w w',Below w.heap.size w w'→xm R i v w→xm R i v w':=fun i v w w' hb h=>(R.getD i (sv undef)).2 v w w' hb h
 have hB':=hB
 simp only[il,Bool.and_eq_true,decide_eq_true_eq]at hB
 obtain⟨⟨⟨⟨⟨⟨⟨⟨⟨⟨⟨⟨⟨⟨hsel,hd⟩,hnd⟩,hpw⟩,htl⟩,hsz⟩,hs⟩,hwc⟩,hwn⟩,hfr⟩,hc⟩,hdis⟩,hcov⟩,hop⟩,hfo⟩:=hB
 have hlt:∀i∈ci,i<l.toArray.size:=fun i hi=>by
  have h:=List.all_eq_true.1 hop i hi
  rcases Nat.lt_or_ge i l.toArray.size with h'|h'
  ·exact h'
  ·rw[Array.getElem?_eq_none h']at h;cases h
 have hdep:∀i∈ci,∀j,Region.waitsFor .any l.toArray i j=true→j<i∧j∈ci:=fun i hi j hj=>by
  have h:=List.all_eq_true.1 hop i hi
  obtain⟨o,ho,e,hem,hb,rfl⟩:=Region.waitsFor_spec hj
  rw[ho]at h
  simp only[Bool.and_eq_true]at h
  have:=Array.all_eq_true'.1 h.1 e hem
  simpa [hb]using this
 have hlk:∀i∈ci,∀o,l.toArray[i]? =some o→∀j∈ci,Region.waitsFor .any l.toArray i j=true∨∀d,aM l.toArray j=some d→d ∉ o.looksAt l.toArray:=fun i hi o ho j hj=>by
  have h:=List.all_eq_true.1 hop i hi
  rw[ho]at h
  simp only[Bool.and_eq_true]at h
  have h2:=List.all_eq_true.1 h.2 j (List.mem_range.2 (hlt j hj))
  have hnt:j ∉ t0::(ms++f0::fs):=by have:=List.all_eq_true.1 hdis j hj;simpa using this
  simp only[Bool.or_eq_true]at h2
  rcases h2 with(h3|h3)|h3
  ·exact absurd (by simpa using h3) hnt
  ·exact .inl h3
  ·refine .inr fun d hd hm=> ?_
   rw[hd]at h3
   simp[hm]at h3
 have hnil:∀j,(bw l.toArray [] l.toArray.size).getD j false=false:=fun j=>by rw[bg];simp
 have hobs:=gK (P:=P) (md:= .any) (Q:=Q) (zi:=[]) (R:=xm R) (a0:=a) (w0:=w) hsel hd hpw hlt hdep hlk ci [] (fun _=>undef) rfl (by rw[dD hnil];exact h)
 have hrep:∀j,(Array.replicate l.toArray.size false).getD j false=false:=fun j=>getD_replicate_false _ _
 have hwc':∀i∈wi,i∈ci:=fun i hi=>by have:=List.all_eq_true.1 hwc i hi;simpa using this
 have hcf:cT .any l.toArray (f0::fs)=true:=li (t0::ms) hc
 have hit:∀i∈wi,i ∉ t0::(ms++f0::fs):=fun i hi=>by have:=List.all_eq_true.1 hdis i (hwc' i hi);simpa using this
 have hgo:=ot (P:=P) (Q:=Q) hB' (a0:=a) (w0:=w) hS hst (fun i hi vals=>by
   have h1:=hobs.1 i hi vals (by simp)
   intro w' hb hR
   have h2:=h1 w' hb hR
   simpa using h2) (fun vals w' hb hR=>by
   obtain⟨vals1,h1,h2⟩:=hobs.2 vals (by simp) (fun j hj=>⟨w',hR j hj⟩)
   rw[dO (vals:=vals) (vals':=vals1) (fun j hj=>h1 j (by rw[bg]at hj;simp at hj;exact hj.2))]
   exact h2 ⟨w',hb⟩ (fun i hi=>by rw[←h1 i hi];exact hR i hi))
 have hb0:Below w.heap.size w {w with drawn:=w.drawn+1}:=⟨rfl,rfl,rfl,Nat.le_refl _,fun _ _=>rfl⟩
 have htl':∀t∈t0::(ms++f0::fs),t<l.toArray.size:=fun t ht=>by have:=List.all_eq_true.1 htl t ht;simpa using this
 have:=nA (P:=P) (md:= .any) (Q:=Q) (wi:=wi) (cs:=ci++t0::ms) (f0:=f0) (fs:=fs) (S:=S) (R:=xm R) (a0:=a) (w:={w with drawn:=w.drawn+1}) (g:=(ci.length-wi.length)+(1+(ms.length+(fs.length+1)))) hsel hd hB2 hcf (fun i hi=>List.mem_append_left _ (hwc' i hi)) (fun i hi h=>hit i hi (List.mem_cons_of_mem _ (List.mem_append_right _ h))) (hS ⟨_,hb0⟩)
  (fun listed vals inv hl hR=>hgo (ci.length-wi.length) listed vals _ ⟨inv.closed,fun t ht hts=>by
    refine getD_in (by rw[inv.size];exact hts) ?_
    cases hx:listed.getD t false with
    |false=>rfl
    |true=>exact absurd ht (hit t ((hl t).1 hx)),inv.size⟩ (fun i hi=>(hl i).2 hi) (by have:=pT hnd hwn hwc' hl;omega) hb0 hR)
  wi [] (Array.replicate l.toArray.size false) (fun _=>undef) rfl (fun i=>by rw[hrep];simp) ⟨fun j oj _ hl=>(by rw[hrep]at hl;cases hl),fun t _ ht=>getD_in (by simpa using ht) (getD_replicate_false _ _),by simp⟩
  (fun j hj=>by rw[hrep]at hj;cases hj) hfr (by rw[dD hrep];exact hz)
 rw[dD hrep]at this
 have hle:wi.length≤ci.length:=by
  have h2:(ci.filter fun i=>wi.contains i).length=wi.length:=by
   refine List.Perm.length_eq ((List.perm_ext_iff_of_nodup (hnd.filter _) hwn).2 fun x=> ?_)
   rw[List.mem_filter]
   exact⟨fun h=>by simpa using h.2,fun h=>⟨hwc' x h,by simpa using h⟩⟩
  have:=List.length_filter_le (fun i=>wi.contains i) ci
  omega
 have h9:=zj _ _ _ _ this
 simp only[List.length_append,List.length_cons]at hsz
 rw[show wi.length+(ci.length-wi.length+(1+(ms.length+(fs.length+1))))=l.toArray.size by omega]at h9
 exact h9
end
end
section
open Go.RowKit
section
variable {P:Program} {ops:Array Oper} {md:Region.Mode} {Q:Exit→Act→World→Prop} {R:Nat→Value→World→Prop} {w0:World} {F:(Nat→Value)→Act→Prop} {i:Nat} {l:List Nat} {vals:Nat→Value} {a:Act} {o:Oper} {d:Nat}
theorem wkr (ho:ops[i]? =some o) (hd:o.dst=some d) (hlt:d<a.tmps.size) (hg:Region.wanted o (yielded ops a.tmps)=true)
  (h:∃c,(∀u:Ext w0,(∀j,Region.waitsFor md ops i j=true→R j (vals j) u.val)→∀K:Act→World→Prop,(∀w'',Below u.val.heap.size u.val w''→K (a.put (some d) c) w'')→o.wp P a u.val K (NoPanic Q))∧R i=IsV c∧wpK P md ops R w0 Q [] F l (upd vals i c) (a.put (some d) c)):wpK P md ops R w0 Q [] F (i::l) vals a:=by
 obtain⟨c,h1,h2,h3⟩:=h
 have e:aM ops i=some d:=by simp[aM,ho,hd]
 refine⟨fun w' hb hR=> ?_, .inl ⟨c,fun v w hv=>by rw[h2]at hv;exact hv,by rw[e];exact h3⟩⟩
 rw[if_neg (by simp)]
 refine⟨o,d,ho,hd,hlt, ?_⟩
 rw[if_pos hg]
 exact h1 ⟨w',hb⟩ hR _ fun w'' hb'=>⟨c,by rw[hd],hb',by rw[h2];rfl⟩
theorem wkR (h:∃c,(∀u:Ext w0,(∀j,Region.waitsFor md ops i j=true→R j (vals j) u.val)→∀K:Act→World→Prop,(∀w'',Below u.val.heap.size u.val w''→K (a.put (some d) c) w'')→o.wp P a u.val K (NoPanic Q))∧R i=IsV c∧wpK P md ops R w0 Q [] F l (upd vals i c) (a.put (some d) c))
  (ho:ops[i]? =some o:=by rfl) (hd:o.dst=some d:=by rfl) (hlt:d<a.tmps.size:=by simp) (hg:Region.wanted o (yielded ops a.tmps)=true:=by simp[Region.wanted,yielded]):wpK P md ops R w0 Q [] F (i::l) vals a:=wkr ho hd hlt hg h
end
end
section
open Go.RowKit Go.Shelf
attribute [local go_sem] Ext.cell Ext.frozen
def MW (v:Value):Prop:=∀m c,v= .slice none m c→m=0∧c=0
theorem jy {w:World} {base:Nat} {T:TypeId} {v:Value} {xs:List Int} (h:w.ownsRow base T 1 v xs.length (xs.map (Value.int .i64))):Ints w v xs:=by
 rcases h.2 with⟨rfl,h0⟩|⟨g,cap,cur,rfl,hb,hh,hc,hm,hcs,ht⟩
 ·exact⟨none,0,0,rfl,h0,Nat.le_refl _,fun h=>absurd h (by omega)⟩
 ·refine⟨some ⟨g,0,none⟩,xs.length,cap,rfl,rfl,hc,fun _=>⟨g,0,rfl,fun i hi=> ?_⟩⟩
  rw[Nat.zero_add,ag hh]
  have h2:(cur.toList.take (xs.length*1))[i]? =some (Value.int .i64 xs[i]):=by rw[ht];simp[hi]
  rw[List.getElem?_take_of_lt (by omega)]at h2
  simpa using h2
end
section
open Go.RowKit
set_option linter.unusedSectionVars false
def aP (l w t:Int):List Q4:=[axP 0 (-1) (-0),axP 0 1 l,axP 1 (-1) (-0),axP 1 1 w,axP 2 (-1) (-0),axP 2 1 t]
structure Cell (l w t:Int) (c e:List Q4):Prop where
 len:c.length≤10
 ok:∀p∈c,cI p
 sub:∀p∈c,p∈e∨p∈aP l w t
 sup:∀p∈e,p∈c∨p∈aP l w t
 pt:∃(x:Q3) (W:Int),0<W∧(∀p∈c,0<slk p x W)∧(0<x.1∧x.1<l*W)∧(0<x.2.1∧x.2.1<w*W)∧(0<x.2.2∧x.2.2<t*W)
def Cells (l w t:Int):List (List Q4)→List (List Q4)→Prop
 | [],[]=>True
 |c::cs,e::es=>Cell l w t c e∧Cells l w t cs es
 |_,_=>False
theorem Cells.map {l w t:Int} {α:Type} (f g:α→List Q4):∀(xs:List α),(∀x∈xs,Cell l w t (f x) (g x))→Cells l w t (xs.map f) (xs.map g)
 | [],_=>trivial
 |x::xs,h=>⟨h x (by simp),Cells.map f g xs (fun y hy=>h y (by simp[hy]))⟩
section
variable {l w t:Int} (hl:1≤l∧l≤100000) (hw:1≤w∧w≤100000) (ht:1≤t∧t≤100000)
include hl hw ht
end
end
section
open Go.RowKit Go.Shelf
def OkV (w:World) (v:Value):Prop:=MW v∧∀b off m c,v= .slice (some ⟨b,off,none⟩) m c→∃cs,w.heap[b]? =some (.cells cs 3 (0,0))
theorem OkV.below {w w':World} {v:Value} (h:OkV w v) (hb:Below w.heap.size w w'):OkV w' v:=
 ⟨h.1,fun b off m c e=>by obtain⟨cs,hh⟩:=h.2 b off m c e;exact⟨cs,(hb.block _ (ah hh)).trans hh⟩⟩
end
section
open Go.RowKit Go.Shelf
attribute [local go_sem] Ext.cell Ext.frozen
def SolV (w:World) (v:Value) (css:List (List Q4)):Prop:=Each w v Q4s css
theorem SolV.below {w w':World} {v:Value} {css:List (List Q4)} (h:SolV w v css) (hb:Below w.heap.size w w'):SolV w' v css:=Each.below (fun _ _ _ _ hb h=>Q4s.below h hb) h hb
theorem DB {p:Q4} (h:bP p=0):bI p:=(iR p h).1
theorem FS {ps:List Q4} (h:bx ps=true):0<ps.length:=by
 cases ps with
 |nil=>simp[bx,jw]at h
 |cons p ps=>simp
def lr:List (List Q4)→Int
 | []=>0
 |c::cs=>if bK c=0 then lr cs else bK c
theorem FT (cs:List (List Q4)) (k:Nat) (hk:k<cs.length) (h:∀i (hi:i<cs.length),i<k→bK cs[i]=0) (hx:bK cs[k]≠0):lr cs=bK cs[k]:=by
 induction cs generalizing k with
 |nil=>simp at hk
 |cons p ps ih=>
  cases k with
  |zero=>simp only[List.getElem_cons_zero]at hx;simp[lr,hx]
  |succ k=>
   have h0:=h 0 (by simp) (by omega)
   simp only[List.getElem_cons_zero]at h0
   simp only[lr,h0,if_true,List.getElem_cons_succ]
   exact ih k (by simpa using hk) (fun i hi hik=>by have:=h (i+1) (by simpa using hi) (by omega);simpa using this) (by simpa using hx)
theorem EQ (cs:List (List Q4)) (h:∀i (hi:i<cs.length),bK cs[i]=0):lr cs=0:=by
 induction cs with
 |nil=>rfl
 |cons p ps ih=>
  have h0:=h 0 (by simp)
  simp only[List.getElem_cons_zero]at h0
  simp only[lr,h0,if_true]
  exact ih (fun i hi=>by have:=h (i+1) (by simpa using hi);simpa using this)
def aa (css:List (List Q4)):Int:=if 100<css.length then 8 else lr css
theorem CM {w w':World} {B B' n m sz sz':Nat} {e e':TypeId} {v u:Value} {xs ys:List Value} (h:w.ownsRow B e sz v n xs) (g:w.ownsRow B' e' sz' u m ys) (he:e≠e') (hg:w.grownBy w' u.ownBlock):w'.ownsRow B e sz v n xs:=
 ⟨h.1,h.2.imp id (fun⟨q,cap,cur,hv,hq,hh,r⟩=>⟨q,cap,cur,hv,hq,(hg.block _ (ah hh) (fun e=>aG g hh he.symm e.symm)).trans hh,r⟩)⟩
def BodX (W:World) (w:World) (B:Nat) (css:List (List Q4)) (xs:List Value):Prop:=
 ∀i (h:i<css.length),∃p c,xs[i*2]? =some p∧xs[i*2+1]? =some c∧Q4s W p css[i]∧w.ownsRow B 131 4 c (aS css[i]).length ((aS css[i]).flatMap aH)
def BodR (W:World) (w:World) (B:Nat) (v:Value) (css:List (List Q4)):Prop:=∃xs,w.ownsRow B 114 2 v css.length xs∧xs.length=css.length*2∧BodX W w B css xs
theorem BodX.below {W w w':World} {B:Nat} {css:List (List Q4)} {xs:List Value} (h:BodX W w B css xs) (hb:Below w.heap.size w w'):BodX W w' B css xs:=fun i hi=>by
 obtain⟨p,c,h1,h2,h3,h4⟩:=h i hi
 exact⟨p,c,h1,h2,h3,au h4 hb⟩
theorem BodR.below {W w w':World} {B:Nat} {v:Value} {css:List (List Q4)} (h:BodR W w B v css) (hb:Below w.heap.size w w'):BodR W w' B v css:=by
 obtain⟨xs,h1,h2,h3⟩:=h
 exact⟨xs,au h1 hb,h2,h3.below hb⟩
theorem BodX.snoc {W w w2:World} {B:Nat} {css:List (List Q4)} {xs:List Value} {v p c:Value} {ps:List Q4} (h:BodX W w B css xs) (hl:xs.length=css.length*2) (ho:w.ownsRow B 114 2 v css.length xs) (hg:w.grownBy w2 v.ownBlock)
  (hp:Q4s W p ps) (hc:w.ownsRow B 131 4 c (aS ps).length ((aS ps).flatMap aH)):BodX W w2 B (css++[ps]) (xs++[p,c]):=fun i hi=>by
 by_cases h1:i<css.length
 ·obtain⟨p',c',e1,e2,e3,e4⟩:=h i h1
  rw[List.getElem_append_left h1]
  exact⟨p',c',by rw[List.getElem?_append_left (by omega)];exact e1,by rw[List.getElem?_append_left (by omega)];exact e2,e3,CM e4 ho (by decide) hg⟩
 ·have h2:i=css.length:=by simp at hi;omega
  subst h2
  refine⟨p,c,by rw[List.getElem?_append_right (by omega),hl,Nat.sub_self];rfl,by rw[List.getElem?_append_right (by omega),hl,Nat.add_sub_cancel_left];rfl, ?_⟩
  simp only[List.getElem_append_right (Nat.le_refl css.length),Nat.sub_self,List.getElem_cons_zero]
  exact⟨hp,CM hc ho (by decide) hg⟩
theorem Ih:(Tryz.prog.info? 114).map (fun i=>(i.zero,i.size,i.bytes))=some (some (.agg #[.slice none 0 0, .slice none 0 0]),2,48):=by kernel_rfl
theorem FU:Tryz.prog.underlying 108=some (.slice 114):=by kernel_rfl
def BodPost (css:List (List Q4)) (W:World) (e:Ending) (w':World):Prop:=
 Below W.heap.size W w'∧((aa css=0∧∃v,e= .returned (.tuple #[v, .int .i64 0])∧BodR W w' W.heap.size v css)∨
  (aa css≠0∧e= .returned (.tuple #[.slice none 0 0, .int .i64 (aa css)])))
theorem MD {css:List (List Q4)} (h:100<css.length):aa css=8:=by unfold aa;rw[if_pos h]
theorem KW {css:List (List Q4)} (h:¬100<css.length) (k:Nat) (hk:k<css.length) (h0:∀i (hi:i<css.length),i<k→bK css[i]=0) (hx:bK css[k]≠0):aa css=bK css[k]:=by
 unfold aa;rw[if_neg h];exact FT css k hk h0 hx
theorem JA {css:List (List Q4)} (h:¬100<css.length) (h0:∀i (hi:i<css.length),bK css[i]=0):aa css=0:=by
 unfold aa;rw[if_neg h];exact EQ css h0
theorem BodPost.err {css:List (List Q4)} {W w':World} {n:Int} (hb:Below W.heap.size W w') (hn:aa css=n) (h0:n≠0):BodPost css W (.returned (.tuple #[.slice none 0 0, .int .i64 n])) w':=⟨hb, .inr ⟨by rw[hn];exact h0,by rw[hn]⟩⟩
set_option maxRecDepth 100000 in
theorem BX (css:List (List Q4)) (sv:Value) (W:World) (hl:∀c∈css,c.length≤1000000) (h:SolV W sv css):
  Calls Tryz.prog 51 #[.agg #[sv]] W (BodPost css W):=by
 obtain⟨V,HV⟩:∃V,Hid (W.alloc (.cells #[sv] 31)=V):=⟨_,Lib.hid rfl⟩
 have hV:Below W.heap.size W V:=by rw[←HV.out];exact bel
 obtain⟨a,n,cc,rfl,hn,_,hx⟩:=h
 have HX:=Lib.hid hx
 have HLn:=fun i (h:i<css.length)=>Lib.hid (hl _ (List.getElem_mem h))
 have Hn:=Lib.hid hn
 obtain⟨i0,hi0,hz0,hz1,hz2⟩:=info_parts Ih
 have Hi0:=Lib.hid (And.intro hi0 (And.intro hz0 (And.intro hz1 hz2)))
 clear hx hl hi0 hz0 hz1 hz2
 go_enter Tryz.func51,Tryz.ntmps51
 by_cases hl16:100<n
 ·have g0:(100:Int)<(n:Int):=by omega
  go_wp2
  refine bodyPost_ret (v:= .tuple #[.slice none 0 0, .int .i64 8]) (by simp[results,Tryz.results51,go_sem]) rfl (BodPost.err ?_ (MD (by omega)) (by decide))
  exact bel
 ·have g0:¬(100:Int)<(n:Int):=by omega
  go_wp2
  rw[HV.out]
  go_loopw [4,16] (fun s x wr=>∃k:Nat,k≤n∧x= .int .i64 k∧Below W.heap.size W wr∧Hid (∀j (h:j<css.length),j<k→bK css[j]=0)∧Hid (BodR W wr W.heap.size s (css.take k))) (fun _ x _=>n-(intOf x).toNat)
  case atStart=>exact⟨0,by omega,rfl,hV,Lib.hid (fun j _ h=>by omega),Lib.hid ⟨[],World.ownsRow_nil _ _ _ _,rfl,fun i h=>by simp at h⟩⟩
  case round=>
   obtain⟨k,hk,rfl,hb,Hd,HR⟩:=hrel
   obtain⟨xs,ho,hxl,hX⟩:=HR.out
   have Htl:Hid ((css.take k).length=k):=Lib.hid (by rw[List.length_take];omega)
   rw[Htl.out]at ho
   obtain⟨sa,sc,rfl⟩:=aT ho
   have HO:=Lib.hid ho
   have HXL:=Lib.hid hxl
   have HBX:=Lib.hid hX
   by_cases hlt:k<n
   ·have g1:(k:Int)<(n:Int):=by omega
    have g2:(0:Int)≤(k:Int):=by omega
    have hil:k<css.length:=by omega
    obtain⟨b,off,rfl,hi4⟩:=HX.out (by omega)
    obtain⟨cu,e0,hq⟩:=hi4 k hil
    have e0:=ab hb e0
    have ze:=World.block_lt_of_cell? wr _ e0
    simp only at ze
    have HQ:=Lib.hid hq
    have HEk:=Lib.hid (KW (css:=css) (by omega) k hil Hd.out)
    have Hst:Hid (bK css[k]=0→∀j (h:j<css.length),j<k+1→bK css[j]=0):=Lib.hid (fun h j hj hji=>by
     by_cases e:j=k
     ·subst e;exact h
     ·exact Hd.out j hj (by omega))
    have Htk:Hid (css.take (k+1)=css.take k++[css[k]]):=Lib.hid (List.take_succ_eq_append_getElem hil)
    have HRd:=fun W' (h:Below W.heap.size W W')=>Lib.hid (By css[k] cu W' (by have:=(HLn k hil).out;omega) (HQ.out.below h))
    obtain⟨ua,um,uc,rfl, -⟩:=hq
    have hbc:Below W.heap.size W (wr.alloc (.cells #[.slice ua um uc] 68)):=ae hb bel
    clear hi4 HX HLn Hd HR ho hxl hX
    generalize css[k]=ps at*
    go_wp2_with fail
    refine((HRd _ hbc).out).mono ?_
    rintro en w1 ⟨hb1,hp⟩
    have hbw1:Below wr.heap.size wr w1:=ae bel hb1
    have hbW1:=ae hbc hb1
    have HO1:=Lib.hid (au HO.out hbw1)
    have HBX1:=Lib.hid (HBX.out.below hbw1)
    clear HRd e0 ze HO HBX
    rcases hp with⟨h0,cv,rfl,hcv⟩|⟨h0,rfl⟩
    ·obtain⟨ca,ccp,rfl⟩:=aT hcv
     have HC1:=Lib.hid (AY hcv hbc.size)
     have HZ:=Lib.hid (Hst.out h0)
     clear Hst HEk hcv h0
     obtain⟨cl,HCL⟩:∃cl,Hid ((aS ps).length=cl):=⟨_,Lib.hid rfl⟩
     rw[HCL.out]at HC1 ⊢
     have za:w1.heap.size<(w1.alloc (.cells #[.slice ua um uc, .slice ca cl ccp] 114)).heap.size:=by simp
     go_wp2_with (at_builtin;refine wpList_append_own _ rfl _ _ 108 rfl W.heap.size 114 i0 (.agg #[.slice none 0 0, .slice none 0 0]) 2 48 FU Hi0.out.1 Hi0.out.2.1 Hi0.out.2.2.1 Hi0.out.2.2.2 rfl (by decide) _ k _ rfl ((HO1.out.alloc _).alloc _) ⟨_,0,none⟩ 1 1 [.slice ua um uc, .slice ca cl ccp] rfl rfl ?c1 ?c2 ?c3 ?c4 ?c5 ?_)
     case c1=>
      intro jj uu hu
      rw[jY,aq (by simp) jj]
      simpa using hu
     case c2=>intro v hv;simp at hv;rcases hv with rfl|rfl<;>rfl
     case c3=>unfold maxLen;omega
     case c4=>omega
     case c5=>simp;have:=hbW1.size;omega
     intro v' w4 hown4 hg4 _
     have hx:Below w1.heap.size w1 ((w1.alloc (.cells #[.slice ua um uc, .slice ca cl ccp] 114)).alloc (.cells #[.slice ua um uc, .slice ca cl ccp] 114)):=bel
     have HO2:=Lib.hid (au HO1.out hx)
     have hb4:Below W.heap.size W w4:=(ae hbW1 hx).grown hg4 (ae hbW1 hx).size (fun z hz=>by have:=(HO2.out.lt z hz).1;omega)
     have hO2:((w1.alloc (.cells #[.slice ua um uc, .slice ca cl ccp] 114)).alloc (.cells #[.slice ua um uc, .slice ca cl ccp] 114)).ownsRow W.heap.size 114 2 (.slice sa k sc) (css.take k).length xs:=by rw[Htl.out];exact HO2.out
     have HB4:=Lib.hid ((HBX1.out.below hx).snoc HXL.out hO2 hg4 HQ.out (by rw[HCL.out];exact au HC1.out hx))
     have H4:Hid (BodR W w4 W.heap.size v' (css.take (k+1))):=Lib.hid (by
      rw[Htk.out]
      exact⟨_,by simpa [Htl.out]using hown4,by simp[HXL.out,Htl.out];omega,HB4.out⟩)
     clear hown4 hg4 hx HO2 hO2 HB4 HO1 HBX1 HC1
     go_wp2
     go_roundw
     case rel=>exact⟨k+1,by omega,by go_num,hb4,HZ,H4⟩
     case measure=>first|(simp[intOf];done)|(simp[intOf];omega)
    ·have hne:(bK ps !=0)=true:=by simpa using h0
     have HE:=Lib.hid (HEk.out h0)
     clear Hst HEk
     generalize bK ps=ce at*
     go_wp2
     refine bodyPost_ret (v:= .tuple #[.slice none 0 0, .int .i64 ce]) (by simp[results,Tryz.results51,go_sem]) rfl (BodPost.err ?_ HE.out h0)
     exact ae hbW1 bel
   ·obtain rfl:k=n:=by omega
    have g1:¬(k:Int)<(k:Int):=by omega
    have HN:=Lib.hid (JA (css:=css) (by omega) (fun j h=>Hd.out j h (by omega)))
    have e:css.take k=css:=List.take_of_length_le (by omega)
    have HF:Hid (BodR W wr W.heap.size (.slice sa k sc) css):=Lib.hid (by have:=HR.out;rwa [e]at this)
    go_wp2
    refine bodyPost_ret (v:= .tuple #[.slice sa k sc, .int .i64 0]) (by simp[results,Tryz.results51,go_sem]) rfl ⟨hb, .inl ⟨HN.out,_,rfl,HF.out⟩⟩
theorem BY (css:List (List Q4)) (sv:Value) (W:World) (hl:∀c∈css,c.length≤1000000) (h:SolV W sv css):
  Calls Tryz.prog 24 #[.agg #[sv]] W (Ret W (.int .i64 (aa css))):=by
 have HB:=fun W' hb=>Lib.hid (BX css sv W' hl (SolV.below (w':=W') h hb))
 obtain⟨a,n,cc,rfl,_,_,_⟩:=h
 go_enter Tryz.func24,Tryz.ntmps24
 go_wp2_with fail
 refine((HB _ bel).out).mono ?_
 rintro e w1 ⟨hb1,⟨h0,v,rfl,xs,ho,_⟩|⟨h0,rfl⟩⟩
 ·obtain⟨ra,rc,rfl⟩:=aT ho
  go_wp2
  go_ret
  exact⟨aK h0.symm,ae bel hb1⟩
 ·generalize aa css=e at*
  go_wp2
  go_ret
  exact⟨rfl,ae bel hb1⟩
end
end Go.Proofs.YtleamcmbhioedaaGreatDoor
