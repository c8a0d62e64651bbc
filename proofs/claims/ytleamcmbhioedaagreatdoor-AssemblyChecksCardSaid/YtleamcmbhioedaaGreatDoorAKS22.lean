/- texts: I9. -/
import Derived.Test.YtleamcmbhioedaaGreatDoorAKS21
namespace Go.Proofs.YtleamcmbhioedaaGreatDoor
set_option maxHeartbeats 8000000
set_option linter.unusedSimpArgs false
set_option linter.unusedVariables false
section
open Go.RowKit Go.Shelf Go.Lib
set_option maxRecDepth 100000
attribute [local go_sem] Ext.cell Ext.frozen
theorem bq {p q:List Q4} {w:Q3} (k:Nat) (hk:k=0∨k=1∨k=2) (h:ko p q w k=true):CQ p q w=true:=by
 unfold CQ
 rcases hk with rfl|rfl|rfl<;>simp[h]
theorem KV {p q:List Q4} {w:Q3} (h0:ko p q w 0=false) (h1:ko p q w 1=false) (h2:ko p q w 2=false):CQ p q w=false:=by
 unfold CQ
 simp[h0,h1,h2]
theorem nm {w:World} {g:Nat} {x0 x1:Value} {t:TypeId} (h:w.heap[g]? =some (.cells #[x0,x1] t (0,0))):w.cell? ⟨g,0,none⟩=some x0∧w.cell? ⟨g,1,none⟩=some x1∧g<w.heap.size:=⟨(ag h 0).trans rfl,(ag h 1).trans rfl,ah h⟩
theorem Jz (ps qs:List Q4) (pv1 cv1 pv2 cv2:Value) (a b c:Int) (w:World) (hps:∀c∈ps,okX c) (hqs:∀c∈qs,okX c) (hl1:ps.length≤1000000) (hl2:qs.length≤1000000)
  (hp1:∃a n c,pv1= .slice a n c) (hp2:∃a n c,pv2= .slice a n c) (hc1:Q4s w cv1 ps) (hc2:Q4s w cv2 qs):
  Calls Tryz.prog 95 #[.agg #[pv1,cv1], .agg #[pv2,cv2],V3 a b c] w (Ret w (.bool (CQ ps qs (a,b,c)))):=by
 have H1:=fun i (h:i<3) W hb=>Lib.hid (EO ps i h pv1 cv1 W hps hl1 hp1 (hc1.below (w':=W) hb))
 have H2:=fun i (h:i<3) W hb=>Lib.hid (EO qs i h pv2 cv2 W hqs hl2 hp2 (hc2.below (w':=W) hb))
 obtain⟨pa,pn,pc,rfl⟩:=hp1
 obtain⟨qa,qn,qc,rfl⟩:=hp2
 obtain⟨ca,cn,cc,rfl, -⟩:=hc1
 obtain⟨da,dn,dc,rfl, -⟩:=hc2
 have HN:=Lib.hid (@KV ps qs (a,b,c))
 obtain⟨V,HV⟩:∃V,Hid (((w.alloc (.cells #[.slice pa pn pc, .slice ca cn cc] 123)).alloc (.cells #[.slice qa qn qc, .slice da dn dc] 123)).alloc (.cells #[.int .i64 a, .int .i64 b, .int .i64 c] 104)=V):=⟨_,Lib.hid rfl⟩
 have hV:Below w.heap.size w V:=by rw[←HV.out];exact bel
 have HB:Hid (V.heap[w.heap.size]? =some (.cells #[.slice pa pn pc, .slice ca cn cc] 123 (0,0))∧V.heap[w.heap.size+1]? =some (.cells #[.slice qa qn qc, .slice da dn dc] 123 (0,0))):=Lib.hid (by
  rw[←HV.out]
  exact⟨(aB (by simp<;>omega)).trans ((aB (by simp)).trans (ai rfl)),(aB (by simp)).trans (ai (by simp))⟩)
 have j0:=qD (.int .i64 a) (.int .i64 b) (.int .i64 c)
 have j1:=qE (.int .i64 a) (.int .i64 b) (.int .i64 c)
 have j2:=qF (.int .i64 a) (.int .i64 b) (.int .i64 c)
 clear hps hqs
 go_enter Tryz.func95,Tryz.ntmps95
 go_wp2
 rw[HV.out]
 go_loopw [14] (fun x wr=>∃k:Int,0≤k∧k≤3∧x= .int .i64 k∧Below V.heap.size V wr∧Hid ((1≤k→ko ps qs (a,b,c) 0=false)∧(2≤k→ko ps qs (a,b,c) 1=false)∧(3≤k→ko ps qs (a,b,c) 2=false))) (fun x _=>3-(intOf x).toNat)
 case atStart=>exact⟨0,by omega,by omega,rfl,Below.refl _ _,Lib.hid ⟨fun h=>by omega,fun h=>by omega,fun h=>by omega⟩⟩
 case round=>
  obtain⟨k,hk0,hk,rfl,hb,Hf⟩:=hrel
  have hwr:Below w.heap.size w wr:=hV.trans (hb.mono hV.size)
  have HBr:Hid (wr.heap[w.heap.size]? =some (.cells #[.slice pa pn pc, .slice ca cn cc] 123 (0,0))∧wr.heap[w.heap.size+1]? =some (.cells #[.slice qa qn qc, .slice da dn dc] 123 (0,0))):=Lib.hid ⟨(hb.block _ (ah HB.out.1)).trans HB.out.1,(hb.block _ (ah HB.out.2)).trans HB.out.2⟩
  rcases(by omega:k=0∨k=1∨k=2∨k=3)with rfl|rfl|rfl|rfl
  ·have hE:ko ps qs (a,b,c) 0=((decide (a≤0)&&decide (bt 0 ps≤eT 0 qs)) || (decide (0≤a)&&decide (bt 0 qs≤eT 0 ps))):=rfl
   have H1k:=fun W h=>Lib.hid ((H1 0 (by decide) W h).out)
   have H2k:=fun W h=>Lib.hid ((H2 0 (by decide) W h).out)
   clear H1 H2
   obtain⟨e0,e1,ez⟩:=nm HBr.out.1
   generalize bt 0 ps=h1 at*
   generalize eT 0 qs=l2 at*
   generalize bt 0 qs=h2 at*
   generalize eT 0 ps=l1 at*
   go_wp2_with fail
   refine((H1k _ hwr).out).mono ?_
   rintro e w1 ⟨rfl,hb1⟩
   have hD:=Lib.hid ((hb1.block _ (ah HBr.out.2)).trans HBr.out.2)
   have hw1:=fB hwr hb1
   have hb1':=fB hb hb1
   clear e0 e1 ez hb1 H1k
   obtain⟨d0,d1,dz⟩:=nm hD.out
   go_wp2_with fail
   refine((H2k _ hw1).out).mono ?_
   rintro e w2 ⟨rfl,hb2'⟩
   have hb2:=fB hb1' hb2'
   clear d0 d1 dz hb1' hb2' H2k hw1 hwr
   by_cases c1:a≤0
   ·by_cases c2:h1≤l2
    ·by_cases c3:0≤a
     ·by_cases c4:h2≤l1
      ·have hF:=Lib.hid (bq 0 (by decide) (hE.trans (by simp[c1,c2,c3,c4])))
       go_wp2
       go_ret
       exact⟨ay hF.out.symm,fB hV hb2⟩
      ·have hF:=Lib.hid (bq 0 (by decide) (hE.trans (by simp[c1,c2,c3,c4])))
       go_wp2
       go_ret
       exact⟨ay hF.out.symm,fB hV hb2⟩
     ·by_cases c4:h2≤l1
      ·have hF:=Lib.hid (bq 0 (by decide) (hE.trans (by simp[c1,c2,c3,c4])))
       go_wp2
       go_ret
       exact⟨ay hF.out.symm,fB hV hb2⟩
      ·have hF:=Lib.hid (bq 0 (by decide) (hE.trans (by simp[c1,c2,c3,c4])))
       go_wp2
       go_ret
       exact⟨ay hF.out.symm,fB hV hb2⟩
    ·by_cases c3:0≤a
     ·by_cases c4:h2≤l1
      ·have hF:=Lib.hid (bq 0 (by decide) (hE.trans (by simp[c1,c2,c3,c4])))
       go_wp2
       go_ret
       exact⟨ay hF.out.symm,fB hV hb2⟩
      ·have hF:Hid (ko ps qs (a,b,c) 0=false):=Lib.hid (hE.trans (by simp[c1,c2,c3,c4]))
       go_wp2
       go_roundw
       case rel=>exact⟨1,by omega,by omega,rfl,hb2,Lib.hid (by have h9:=Hf.out;simp only[hF.out]at*;refine⟨fun _=> ?_,fun h=> ?_,fun h=> ?_⟩<;>first|rfl|exact h9.1 (by omega)|exact h9.2.1 (by omega)|exact h9.2.2 (by omega)|exact hF.out|omega)⟩
       case measure=>first|decide|(simp[intOf];done)
     ·by_cases c4:h2≤l1
      ·have hF:Hid (ko ps qs (a,b,c) 0=false):=Lib.hid (hE.trans (by simp[c1,c2,c3,c4]))
       go_wp2
       go_roundw
       case rel=>exact⟨1,by omega,by omega,rfl,hb2,Lib.hid (by have h9:=Hf.out;simp only[hF.out]at*;refine⟨fun _=> ?_,fun h=> ?_,fun h=> ?_⟩<;>first|rfl|exact h9.1 (by omega)|exact h9.2.1 (by omega)|exact h9.2.2 (by omega)|exact hF.out|omega)⟩
       case measure=>first|decide|(simp[intOf];done)
      ·have hF:Hid (ko ps qs (a,b,c) 0=false):=Lib.hid (hE.trans (by simp[c1,c2,c3,c4]))
       go_wp2
       go_roundw
       case rel=>exact⟨1,by omega,by omega,rfl,hb2,Lib.hid (by have h9:=Hf.out;simp only[hF.out]at*;refine⟨fun _=> ?_,fun h=> ?_,fun h=> ?_⟩<;>first|rfl|exact h9.1 (by omega)|exact h9.2.1 (by omega)|exact h9.2.2 (by omega)|exact hF.out|omega)⟩
       case measure=>first|decide|(simp[intOf];done)
   ·have c3:0≤a:=by omega
    by_cases c2:h1≤l2
    ·by_cases c4:h2≤l1
     ·have hF:=Lib.hid (bq 0 (by decide) (hE.trans (by simp[c1,c2,c3,c4])))
      go_wp2
      go_ret
      exact⟨ay hF.out.symm,fB hV hb2⟩
     ·have hF:Hid (ko ps qs (a,b,c) 0=false):=Lib.hid (hE.trans (by simp[c1,c2,c3,c4]))
      go_wp2
      go_roundw
      case rel=>exact⟨1,by omega,by omega,rfl,hb2,Lib.hid (by have h9:=Hf.out;simp only[hF.out]at*;refine⟨fun _=> ?_,fun h=> ?_,fun h=> ?_⟩<;>first|rfl|exact h9.1 (by omega)|exact h9.2.1 (by omega)|exact h9.2.2 (by omega)|exact hF.out|omega)⟩
      case measure=>first|decide|(simp[intOf];done)
    ·by_cases c4:h2≤l1
     ·have hF:=Lib.hid (bq 0 (by decide) (hE.trans (by simp[c1,c2,c3,c4])))
      go_wp2
      go_ret
      exact⟨ay hF.out.symm,fB hV hb2⟩
     ·have hF:Hid (ko ps qs (a,b,c) 0=false):=Lib.hid (hE.trans (by simp[c1,c2,c3,c4]))
      go_wp2
      go_roundw
      case rel=>exact⟨1,by omega,by omega,rfl,hb2,Lib.hid (by have h9:=Hf.out;simp only[hF.out]at*;refine⟨fun _=> ?_,fun h=> ?_,fun h=> ?_⟩<;>first|rfl|exact h9.1 (by omega)|exact h9.2.1 (by omega)|exact h9.2.2 (by omega)|exact hF.out|omega)⟩
      case measure=>first|decide|(simp[intOf];done)
  ·have hE:ko ps qs (a,b,c) 1=((decide (b≤0)&&decide (bt 1 ps≤eT 1 qs)) || (decide (0≤b)&&decide (bt 1 qs≤eT 1 ps))):=rfl
   have H1k:=fun W h=>Lib.hid ((H1 1 (by decide) W h).out)
   have H2k:=fun W h=>Lib.hid ((H2 1 (by decide) W h).out)
   clear H1 H2
   obtain⟨e0,e1,ez⟩:=nm HBr.out.1
   generalize bt 1 ps=h1 at*
   generalize eT 1 qs=l2 at*
   generalize bt 1 qs=h2 at*
   generalize eT 1 ps=l1 at*
   go_wp2_with fail
   refine((H1k _ hwr).out).mono ?_
   rintro e w1 ⟨rfl,hb1⟩
   have hD:=Lib.hid ((hb1.block _ (ah HBr.out.2)).trans HBr.out.2)
   have hw1:=fB hwr hb1
   have hb1':=fB hb hb1
   clear e0 e1 ez hb1 H1k
   obtain⟨d0,d1,dz⟩:=nm hD.out
   go_wp2_with fail
   refine((H2k _ hw1).out).mono ?_
   rintro e w2 ⟨rfl,hb2'⟩
   have hb2:=fB hb1' hb2'
   clear d0 d1 dz hb1' hb2' H2k hw1 hwr
   by_cases c1:b≤0
   ·by_cases c2:h1≤l2
    ·by_cases c3:0≤b
     ·by_cases c4:h2≤l1
      ·have hF:=Lib.hid (bq 1 (by decide) (hE.trans (by simp[c1,c2,c3,c4])))
       go_wp2
       go_ret
       exact⟨ay hF.out.symm,fB hV hb2⟩
      ·have hF:=Lib.hid (bq 1 (by decide) (hE.trans (by simp[c1,c2,c3,c4])))
       go_wp2
       go_ret
       exact⟨ay hF.out.symm,fB hV hb2⟩
     ·by_cases c4:h2≤l1
      ·have hF:=Lib.hid (bq 1 (by decide) (hE.trans (by simp[c1,c2,c3,c4])))
       go_wp2
       go_ret
       exact⟨ay hF.out.symm,fB hV hb2⟩
      ·have hF:=Lib.hid (bq 1 (by decide) (hE.trans (by simp[c1,c2,c3,c4])))
       go_wp2
       go_ret
       exact⟨ay hF.out.symm,fB hV hb2⟩
    ·by_cases c3:0≤b
     ·by_cases c4:h2≤l1
      ·have hF:=Lib.hid (bq 1 (by decide) (hE.trans (by simp[c1,c2,c3,c4])))
       go_wp2
       go_ret
       exact⟨ay hF.out.symm,fB hV hb2⟩
      ·have hF:Hid (ko ps qs (a,b,c) 1=false):=Lib.hid (hE.trans (by simp[c1,c2,c3,c4]))
       go_wp2
       go_roundw
       case rel=>exact⟨2,by omega,by omega,rfl,hb2,Lib.hid (by have h9:=Hf.out;simp only[hF.out]at*;refine⟨fun _=> ?_,fun h=> ?_,fun h=> ?_⟩<;>first|rfl|exact h9.1 (by omega)|exact h9.2.1 (by omega)|exact h9.2.2 (by omega)|exact hF.out|omega)⟩
       case measure=>first|decide|(simp[intOf];done)
     ·by_cases c4:h2≤l1
      ·have hF:Hid (ko ps qs (a,b,c) 1=false):=Lib.hid (hE.trans (by simp[c1,c2,c3,c4]))
       go_wp2
       go_roundw
       case rel=>exact⟨2,by omega,by omega,rfl,hb2,Lib.hid (by have h9:=Hf.out;simp only[hF.out]at*;refine⟨fun _=> ?_,fun h=> ?_,fun h=> ?_⟩<;>first|rfl|exact h9.1 (by omega)|exact h9.2.1 (by omega)|exact h9.2.2 (by omega)|exact hF.out|omega)⟩
       case measure=>first|decide|(simp[intOf];done)
      ·have hF:Hid (ko ps qs (a,b,c) 1=false):=Lib.hid (hE.trans (by simp[c1,c2,c3,c4]))
       go_wp2
       go_roundw
       case rel=>exact⟨2,by omega,by omega,rfl,hb2,Lib.hid (by have h9:=Hf.out;simp only[hF.out]at*;refine⟨fun _=> ?_,fun h=> ?_,fun h=> ?_⟩<;>first|rfl|exact h9.1 (by omega)|exact h9.2.1 (by omega)|exact h9.2.2 (by omega)|exact hF.out|omega)⟩
       case measure=>first|decide|(simp[intOf];done)
   ·have c3:0≤b:=by omega
    by_cases c2:h1≤l2
    ·by_cases c4:h2≤l1
     ·have hF:=Lib.hid (bq 1 (by decide) (hE.trans (by simp[c1,c2,c3,c4])))
      go_wp2
      go_ret
      exact⟨ay hF.out.symm,fB hV hb2⟩
     ·have hF:Hid (ko ps qs (a,b,c) 1=false):=Lib.hid (hE.trans (by simp[c1,c2,c3,c4]))
      go_wp2
      go_roundw
      case rel=>exact⟨2,by omega,by omega,rfl,hb2,Lib.hid (by have h9:=Hf.out;simp only[hF.out]at*;refine⟨fun _=> ?_,fun h=> ?_,fun h=> ?_⟩<;>first|rfl|exact h9.1 (by omega)|exact h9.2.1 (by omega)|exact h9.2.2 (by omega)|exact hF.out|omega)⟩
      case measure=>first|decide|(simp[intOf];done)
    ·by_cases c4:h2≤l1
     ·have hF:=Lib.hid (bq 1 (by decide) (hE.trans (by simp[c1,c2,c3,c4])))
      go_wp2
      go_ret
      exact⟨ay hF.out.symm,fB hV hb2⟩
     ·have hF:Hid (ko ps qs (a,b,c) 1=false):=Lib.hid (hE.trans (by simp[c1,c2,c3,c4]))
      go_wp2
      go_roundw
      case rel=>exact⟨2,by omega,by omega,rfl,hb2,Lib.hid (by have h9:=Hf.out;simp only[hF.out]at*;refine⟨fun _=> ?_,fun h=> ?_,fun h=> ?_⟩<;>first|rfl|exact h9.1 (by omega)|exact h9.2.1 (by omega)|exact h9.2.2 (by omega)|exact hF.out|omega)⟩
      case measure=>first|decide|(simp[intOf];done)
  ·have hE:ko ps qs (a,b,c) 2=((decide (c≤0)&&decide (bt 2 ps≤eT 2 qs)) || (decide (0≤c)&&decide (bt 2 qs≤eT 2 ps))):=rfl
   have H1k:=fun W h=>Lib.hid ((H1 2 (by decide) W h).out)
   have H2k:=fun W h=>Lib.hid ((H2 2 (by decide) W h).out)
   clear H1 H2
   obtain⟨e0,e1,ez⟩:=nm HBr.out.1
   generalize bt 2 ps=h1 at*
   generalize eT 2 qs=l2 at*
   generalize bt 2 qs=h2 at*
   generalize eT 2 ps=l1 at*
   go_wp2_with fail
   refine((H1k _ hwr).out).mono ?_
   rintro e w1 ⟨rfl,hb1⟩
   have hD:=Lib.hid ((hb1.block _ (ah HBr.out.2)).trans HBr.out.2)
   have hw1:=fB hwr hb1
   have hb1':=fB hb hb1
   clear e0 e1 ez hb1 H1k
   obtain⟨d0,d1,dz⟩:=nm hD.out
   go_wp2_with fail
   refine((H2k _ hw1).out).mono ?_
   rintro e w2 ⟨rfl,hb2'⟩
   have hb2:=fB hb1' hb2'
   clear d0 d1 dz hb1' hb2' H2k hw1 hwr
   by_cases c1:c≤0
   ·by_cases c2:h1≤l2
    ·by_cases c3:0≤c
     ·by_cases c4:h2≤l1
      ·have hF:=Lib.hid (bq 2 (by decide) (hE.trans (by simp[c1,c2,c3,c4])))
       go_wp2
       go_ret
       exact⟨ay hF.out.symm,fB hV hb2⟩
      ·have hF:=Lib.hid (bq 2 (by decide) (hE.trans (by simp[c1,c2,c3,c4])))
       go_wp2
       go_ret
       exact⟨ay hF.out.symm,fB hV hb2⟩
     ·by_cases c4:h2≤l1
      ·have hF:=Lib.hid (bq 2 (by decide) (hE.trans (by simp[c1,c2,c3,c4])))
       go_wp2
       go_ret
       exact⟨ay hF.out.symm,fB hV hb2⟩
      ·have hF:=Lib.hid (bq 2 (by decide) (hE.trans (by simp[c1,c2,c3,c4])))
       go_wp2
       go_ret
       exact⟨ay hF.out.symm,fB hV hb2⟩
    ·by_cases c3:0≤c
     ·by_cases c4:h2≤l1
      ·have hF:=Lib.hid (bq 2 (by decide) (hE.trans (by simp[c1,c2,c3,c4])))
       go_wp2
       go_ret
       exact⟨ay hF.out.symm,fB hV hb2⟩
      ·have hF:Hid (ko ps qs (a,b,c) 2=false):=Lib.hid (hE.trans (by simp[c1,c2,c3,c4]))
       go_wp2
       go_roundw
       case rel=>exact⟨3,by omega,by omega,rfl,hb2,Lib.hid (by have h9:=Hf.out;simp only[hF.out]at*;refine⟨fun _=> ?_,fun h=> ?_,fun h=> ?_⟩<;>first|rfl|exact h9.1 (by omega)|exact h9.2.1 (by omega)|exact h9.2.2 (by omega)|exact hF.out|omega)⟩
       case measure=>first|decide|(simp[intOf];done)
     ·by_cases c4:h2≤l1
      ·have hF:Hid (ko ps qs (a,b,c) 2=false):=Lib.hid (hE.trans (by simp[c1,c2,c3,c4]))
       go_wp2
       go_roundw
       case rel=>exact⟨3,by omega,by omega,rfl,hb2,Lib.hid (by have h9:=Hf.out;simp only[hF.out]at*;refine⟨fun _=> ?_,fun h=> ?_,fun h=> ?_⟩<;>first|rfl|exact h9.1 (by omega)|exact h9.2.1 (by omega)|exact h9.2.2 (by omega)|exact hF.out|omega)⟩
       case measure=>first|decide|(simp[intOf];done)
      ·have hF:Hid (ko ps qs (a,b,c) 2=false):=Lib.hid (hE.trans (by simp[c1,c2,c3,c4]))
       go_wp2
       go_roundw
       case rel=>exact⟨3,by omega,by omega,rfl,hb2,Lib.hid (by have h9:=Hf.out;simp only[hF.out]at*;refine⟨fun _=> ?_,fun h=> ?_,fun h=> ?_⟩<;>first|rfl|exact h9.1 (by omega)|exact h9.2.1 (by omega)|exact h9.2.2 (by omega)|exact hF.out|omega)⟩
       case measure=>first|decide|(simp[intOf];done)
   ·have c3:0≤c:=by omega
    by_cases c2:h1≤l2
    ·by_cases c4:h2≤l1
     ·have hF:=Lib.hid (bq 2 (by decide) (hE.trans (by simp[c1,c2,c3,c4])))
      go_wp2
      go_ret
      exact⟨ay hF.out.symm,fB hV hb2⟩
     ·have hF:Hid (ko ps qs (a,b,c) 2=false):=Lib.hid (hE.trans (by simp[c1,c2,c3,c4]))
      go_wp2
      go_roundw
      case rel=>exact⟨3,by omega,by omega,rfl,hb2,Lib.hid (by have h9:=Hf.out;simp only[hF.out]at*;refine⟨fun _=> ?_,fun h=> ?_,fun h=> ?_⟩<;>first|rfl|exact h9.1 (by omega)|exact h9.2.1 (by omega)|exact h9.2.2 (by omega)|exact hF.out|omega)⟩
      case measure=>first|decide|(simp[intOf];done)
    ·by_cases c4:h2≤l1
     ·have hF:=Lib.hid (bq 2 (by decide) (hE.trans (by simp[c1,c2,c3,c4])))
      go_wp2
      go_ret
      exact⟨ay hF.out.symm,fB hV hb2⟩
     ·have hF:Hid (ko ps qs (a,b,c) 2=false):=Lib.hid (hE.trans (by simp[c1,c2,c3,c4]))
      go_wp2
      go_roundw
      case rel=>exact⟨3,by omega,by omega,rfl,hb2,Lib.hid (by have h9:=Hf.out;simp only[hF.out]at*;refine⟨fun _=> ?_,fun h=> ?_,fun h=> ?_⟩<;>first|rfl|exact h9.1 (by omega)|exact h9.2.1 (by omega)|exact h9.2.2 (by omega)|exact hF.out|omega)⟩
      case measure=>first|decide|(simp[intOf];done)
  ·go_wp2
   go_ret
   have h9:=Hf.out
   exact⟨ay (HN.out (h9.1 (by omega)) (h9.2.1 (by omega)) (h9.2.2 (by omega))).symm,fB hV hb⟩
end
end Go.Proofs.YtleamcmbhioedaaGreatDoor
