/- texts: BWC CCq CD U0 M1. -/
import Derived.Test.YtffbilcjhlncfaaGreatDoorDQS20
import Derived.Test.YtffbilcjhlncfaaGreatDoorDQS21
namespace Go.Proofs.YtffbilcjhlncfaaGreatDoor
set_option maxHeartbeats 8000000
set_option linter.all false
section
open Go.RowKit Go.Shelf
set_option maxRecDepth 100000
attribute [local go_sem] Ext.cell Ext.frozen
theorem SC (ps cs:List Q4) (pv cv:Value) (W:World) (hps:∀p∈ps,okW p) (hcs:∀c∈cs,okX c) (hl:ps.length≤1000000) (hlc:cs.length≤1000000) (hpv:Q4s W pv ps) (hcv:Q4s W cv cs):
  Calls Tryz.prog 97 #[pv,cv] W (Ret W (.bool (ps.all (gM cs)))):=by
 obtain⟨a,n,cc,rfl,hn,_,hx⟩:=hpv
 obtain⟨a',n',cc',rfl,hn',_,hx'⟩:=hcv
 have HX:Hid (0<n→∃b off,a=some ⟨b,off,none⟩∧Q4At W b off ps):=YJ hx
 have HX':Hid (0<n'→∃b off,a'=some ⟨b,off,none⟩∧Q4At W b off cs):=YJ hx'
 have HS:=fun i j (h:i<ps.length) (h':j<cs.length) W'=>YJ (SE ps[i] cs[j] W' (hps _ (qaB h)) (hcs _ (qaB h')))
 have Hno:Hid (∀i (h:i<ps.length),inK cs ps[i] n'=false→ps.all (gM cs)=false):=YJ (fun i h e=>by
  rw[List.all_eq_false]
  refine⟨ps[i],qaB h, ?_⟩
  unfold inK at e
  rw[←hn',qgi]at e
  unfold gM
  rw[e]
  simp)
 have Hyes:Hid ((∀i (h:i<ps.length),inK cs ps[i] n'=true)→ps.all (gM cs)=true):=YJ (fun h=>by
  rw[alsi]
  intro p hp
  obtain⟨i,hi,rfl⟩:=qaJ hp
  have e:=h i hi
  unfold inK at e
  rw[←hn',qgi]at e
  exact e)
 have Hs:=fun i k (h:i<ps.length) (h':k<cs.length)=>YJ (Qz cs ps[i] k h')
 have H0:=fun i (h:i<ps.length)=>YJ (show inK cs ps[i] 0=false from rfl)
 generalize ps.all (gM cs)=res at*
 generalize inK cs=ik at*
 clear hx hx' hps hcs
 go_enter Tryz.func97,Tryz.ntmps97
 go_wp2
 go_loopw [5] (fun x wr=>∃i:Nat,i≤n∧x= .int .i64 i∧Below W.heap.size W wr∧Hid (∀j (h:j<ps.length),j<i→ik ps[j] n'=true)) (fun x _=>n-(intOf x).toNat)
 case atStart=>exact⟨0,by omega,rfl,brf,YJ (fun j _ h=>by omega)⟩
 case round=>
  obtain⟨i,hi,rfl,hb,Hd⟩:=hrel
  by_cases hlt:i<n
  ·have g1:(i:Int)<(n:Int):=by omega
   have g2:(0:Int)≤(i:Int):=by omega
   have hil:i<ps.length:=by omega
   obtain⟨b,off,rfl,hi4⟩:=HX.out (by omega)
   have HI4:=YJ hi4
   have Hno':=YJ (Hno.out i hil)
   have Hst:Hid (ik ps[i] n'=true→∀j (h:j<ps.length),j<i+1→ik ps[j] n'=true):=YJ (fun h j hj hji=>by
    by_cases e:j=i
    ·subst e;exact h
    ·exact Hd.out j hj (by omega))
   have HS':=fun j (h':j<cs.length) W'=>YJ ((HS i j hil h' W').out)
   have Hs':=fun j (h':j<cs.length)=>YJ ((Hs i j hil h').out)
   have H0':=YJ ((H0 i hil).out)
   have HE:Hid (∃p,p=ps[i]):=YJ ⟨_,rfl⟩
   have HP:Hid (∀w,Below W.heap.size W w→w.cell? ⟨b,off+i*4,none⟩=some (.int .i64 ps[i].1)∧w.cell? ⟨b,off+i*4+1,none⟩=some (.int .i64 ps[i].2.1)∧w.cell? ⟨b,off+i*4+2,none⟩=some (.int .i64 ps[i].2.2.1)∧w.cell? ⟨b,off+i*4+3,none⟩=some (.int .i64 ps[i].2.2.2)):=YJ (fun w hw=>(HI4.out.below hw) i hil)
   clear HS Hs H0 Hno Hd hi4 HX HI4 HE
   generalize ps[i]=p at*
   obtain⟨p0,p1,p2,p3⟩:=p
   simp only at HP
   go_wp2
   go_loopw [6,7] (fun s x wr=>∃k:Nat,k≤n'∧x= .int .i64 k∧s= .bool (ik (p0,p1,p2,p3) k)∧Below W.heap.size W wr) (fun _ x _=>n'-(intOf x).toNat)
   case atStart=>exact⟨0,by omega,rfl,by rw[H0'.out],hb⟩
   case round=>
    clear hb
    obtain⟨k,hk,rfl,rfl,hb⟩:=hrel
    by_cases hlk:k<n'
    ·have g3:(k:Int)<(n':Int):=by omega
     have g4:(0:Int)≤(k:Int):=by omega
     have hkl:k<cs.length:=by omega
     obtain⟨b',off',rfl,hi5⟩:=HX'.out (by omega)
     obtain⟨e0,e1,e2,e3⟩:=HP.out wr hb
     obtain⟨f0,f1,f2,f3⟩:=(hi5.below hb) k hkl
     have ze:=qaC wr _ e0
     have zf:=qaC wr _ f0
     simp only at ze zf
     have HSi:=fun W'=>YJ ((HS' k hkl W').out)
     have Hik:=(Hs' k hkl).out
     clear HS' Hs' hi5 HX'
     generalize sd (p0,p1,p2,p3) cs[k]=s at*
     generalize cs[k]=c at*
     obtain⟨c0,c1,c2,c3⟩:=c
     simp only at f0 f1 f2 f3 HSi
     generalize ik (p0,p1,p2,p3) k=F at*
     cases F with
     |true=>
      go_wp2
      refine wqf fun u=> ?_
      go_wp2
      go_roundw
      case rel=>exact⟨k+1,by omega,by go_num,by rw[Hik];first|(rw[Bool.true_or];done)|(rw[Bool.true_or];rfl),fB hb u.below⟩
      simp[intOf];try omega
     |false=>
      by_cases hs:s<0
      ·have hs':decide (s<0)=true:=qfX hs
       go_wp2
       refine wqb ?_
       repeat(first|go_big_quiet_step ((go_at_call 140;exact aE ((HSi _).out)))|quiet_step ((go_at_call 140;exact aE ((HSi _).out))))
       refine wqn fun u=> ?_
       go_wp2
       go_roundw
       case rel=>exact⟨k+1,by omega,by go_num,by rw[Hik];first|(rw[hs'];done)|(rw[hs'];rfl),fB hb u.below⟩
       simp[intOf];try omega
      ·have hs':decide (s<0)=false:=qfZ hs
       go_wp2
       refine wqb ?_
       repeat(first|go_big_quiet_step ((go_at_call 140;exact aE ((HSi _).out)))|quiet_step ((go_at_call 140;exact aE ((HSi _).out))))
       refine wqn fun u=> ?_
       go_wp2
       go_roundw
       case rel=>exact⟨k+1,by omega,by go_num,by rw[Hik];first|(rw[hs'];done)|(rw[hs'];rfl),fB hb u.below⟩
       simp[intOf];try omega
    ·obtain rfl:k=n':=by omega
     have g3:¬(k:Int)<(k:Int):=by omega
     obtain⟨F,hF⟩:∃F,ik (p0,p1,p2,p3) k=F:=⟨_,rfl⟩
     rw[hF]at Hno' Hst ⊢
     cases F with
     |true=>
      go_wp2
      go_roundw
      case rel=>exact⟨i+1,by omega,by go_num,hb,YJ (Hst.out (by trivial))⟩
      simp[intOf];try omega
     |false=>
      go_wp2
      go_ret
      exact⟨ay (Hno'.out (by trivial)).symm,hb⟩
  ·obtain rfl:i=n:=by omega
   have g1:¬(i:Int)<(i:Int):=by omega
   go_wp2
   go_ret
   exact⟨ay (Hyes.out (fun j h=>Hd.out j h (by omega))).symm,hb⟩
theorem WI (ps cs:List Q4) (pv cv:Value) (W:World) (hps:∀p∈ps,bI p) (hcs:∀c∈cs,fD c) (hl:ps.length≤1000000) (hlc:cs.length≤1000000) (hpv:Q4s W pv ps) (hcv:Q4s W cv cs):
  Calls Tryz.prog 97 #[pv,cv] W (Ret W (.bool (ps.all (gM cs)))):=
 SC ps cs pv cv W (fun p hp=>DW (hps p hp)) (fun c hc=>IX (hcs c hc)) hl hlc hpv hcv
theorem Px (ps:List Q4) (pv:Value) (W:World) (hl:ps.length≤1000000) (hpv:Q4s W pv ps):
  Calls Tryz.prog 94 #[.agg #[pv]] W (Ret W (.int .i64 (bK ps))):=by
 obtain⟨h16,hfe,hrest⟩:=Pz ps
 obtain⟨V,HV⟩:∃V,Hid (W.alloc (.cells #[pv] 164)=V):=⟨_,YJ rfl⟩
 have hV:Below W.heap.size W V:=by rw[←HV.out];exact bel
 have HC:Hid (V.heap[W.heap.size]? =some (.cells #[pv] 164 (0,0))):=YJ (by rw[←HV.out];exact ai rfl)
 have Hpv:=YJ (hpv.below hV)
 obtain⟨a,n,cc,rfl,hn,_,hx⟩:=hpv
 have HX:Hid (0<n→∃b off,a=some ⟨b,off,none⟩∧Q4At V b off ps):=YJ (fun h=>by obtain⟨b,off,e,h2⟩:=hx h;exact⟨b,off,e,h2.below hV⟩)
 have H16:=YJ h16
 have HFE:=YJ hfe
 have HRS:=YJ hrest
 have Hhit:=YJ (nV ps)
 have Hnone:=YJ (iQ ps)
 have HPt:=fun(h:∀p∈ps,bI p) (h2:n≤64) W' hb=>YJ (WH ps _ W' h (by omega) (Hpv.out.below hb))
 have HBd:=fun(h:∀p∈ps,bI p) W' hb=>YJ (PE ps _ W' h hl (Hpv.out.below hb))
 have HIn:=fun(h:∀p∈ps,bI p) cv W' (hcv:Q4s W' cv (ct ps)) (h2:(ct ps).length≤1000000) hb=>YJ (WI ps (ct ps) _ cv W' h (fun c hc=>tE h c hc) hl h2 (Hpv.out.below hb) hcv)
 have HOc:=fun(h:∀p∈ps,bI p)=>YJ (fun c (hc:c∈ct ps)=>tE h c hc)
 have HLc:=fun(h:n≤64)=>YJ (Qc (ps:=ps) (by omega))
 generalize bK ps=r at*
 clear h16 hfe hrest hx Hpv
 generalize ct ps=pts at*
 generalize bx ps=bd at*
 generalize ps.all (gM pts)=ins at*
 go_enter Tryz.func94,Tryz.ntmps94
 by_cases hl16:16<n
 ·have g0:(16:Int)<(n:Int):=by omega
  go_wp2
  go_ret
  exact⟨aK (H16.out (by omega)).symm,bel⟩
 ·have g0:¬(16:Int)<(n:Int):=by omega
  go_wp2
  rw[HV.out]
  go_loopw [3,4] (fun x _ wr=>∃i:Nat,i≤n∧x= .int .i64 i∧Below V.heap.size V wr∧Hid (∀j (h:j<ps.length),j<i→bP ps[j]=0)) (fun x _ _=>n-(intOf x).toNat)
  case atStart=>exact⟨0,by omega,rfl,brf,YJ (fun j _ h=>by omega)⟩
  case round=>
   obtain⟨i,hi,rfl,hb,Hd⟩:=hrel
   have HXr:=YJ ((hb.block _ (ah HC.out)).trans HC.out)
   have b0:wr.cell? ⟨W.heap.size,0,none⟩=some (.slice a n cc):=(bq HXr.out 0).trans rfl
   have bz:=ah HXr.out
   by_cases hlt:i<n
   ·have g1:(i:Int)<(n:Int):=by omega
    have g2:(0:Int)≤(i:Int):=by omega
    have hil:i<ps.length:=by omega
    obtain⟨b,off,rfl,hi4⟩:=HX.out (by omega)
    obtain⟨e0,e1,e2,e3⟩:=(hi4.below hb) i hil
    have ze:=qaC wr _ e0
    simp only at ze
    have HEi:Hid (bP ps[i]≠0→r=bP ps[i]):=YJ (fun h=>by
     have h2:=Hhit.out i hil Hd.out h
     rw[HFE.out (by omega) (by rw[h2];exact h),h2])
    have Hst:Hid (bP ps[i]=0→∀j (h:j<ps.length),j<i+1→bP ps[j]=0):=YJ (fun h j hj hji=>by
     by_cases e:j=i
     ·subst e;exact h
     ·exact Hd.out j hj (by omega))
    clear hi4 HX Hhit Hnone HPt HBd HIn HOc HLc HRS HFE H16
    generalize ps[i]=p at*
    obtain⟨p0,p1,p2,p3⟩:=p
    simp only at e0 e1 e2 e3
    have HCP:=fun W'=>YJ (Ps p0 p1 p2 p3 W')
    generalize bP (p0,p1,p2,p3)=e at*
    go_wp2_with fail
    refine((HCP _).out).mono ?_
    rintro en w1 ⟨rfl,hb1⟩
    by_cases hz:e=0
    ·have hz':(e !=0)=false:=by simpa using hz
     go_wp2
     go_roundw
     case rel=>exact⟨i+1,by omega,by go_num,fB hb hb1,YJ (Hst.out hz)⟩
     simp[intOf];try omega
    ·have hz':(e !=0)=true:=by simpa using hz
     go_wp2
     go_ret
     exact⟨aK (HEi.out hz).symm,fB hV (fB hb hb1)⟩
   ·obtain rfl:i=n:=by omega
    have g1:¬(i:Int)<(i:Int):=by omega
    have hok:∀p∈ps,bI p:=fun p hp=>by
     obtain⟨j,hj,rfl⟩:=qaJ hp
     exact DB (Hd.out j hj (by omega))
    obtain⟨hB0,hB1⟩:=HRS.out (by omega) (Hnone.out (fun j hj=>Hd.out j hj (by omega)))
    have HB0:=YJ hB0
    have HB1:=YJ hB1
    have HBd':=fun W' hb=>YJ ((HBd hok W' hb).out)
    have HPt':=fun W' hb=>YJ ((HPt hok (by omega) W' hb).out)
    have hpl:=(HLc (by omega)).out
    have HIn':=fun cv W' hcv hb=>YJ ((HIn hok cv W' hcv (by omega) hb).out)
    have HOc':=HOc hok
    have hbW:=fB hV hb
    clear Hd hB0 hB1 HRS Hhit Hnone HPt HBd HIn HOc HLc HFE H16 HX hok
    go_wp2_with fail
    refine((HBd' _ hb).out).mono ?_
    rintro en w1 ⟨rfl,hb1⟩
    have hbv:=fB hb hb1
    have hbw1:=fB hbW hb1
    have HY:=YJ ((hb1.block _ bz).trans HXr.out)
    clear b0 bz HXr hb1 hb hbW HBd'
    have b0:w1.cell? ⟨W.heap.size,0,none⟩=some (.slice a i cc):=(bq HY.out 0).trans rfl
    have bz:=ah HY.out
    cases bd with
    |false=>
     go_wp2
     go_ret
     exact⟨aK (HB0.out (by trivial)).symm,hbw1⟩
    |true=>
     obtain⟨hI0,hI1⟩:=HB1.out (by trivial)
     have HI0:=YJ hI0
     have HI1:=YJ hI1
     clear hI0 hI1 HB0 HB1
     go_wp2_with fail
     refine((HPt' _ hbv).out).mono ?_
     rintro en w2 ⟨rv,rfl,hb2,ho⟩
     obtain⟨ra,rc,rfl⟩:=aT ho
     have hq:=jz ho
     have hbv2:=fB hbv hb2
     have hbw2:=fB hbw1 hb2
     have HY2:=YJ ((hb2.block _ bz).trans HY.out)
     have HQ:=YJ hq
     have HIn2:=YJ ((HIn' _ w2 hq hbv2).out)
     clear b0 bz HY hb2 hbv hbw1 HPt' HIn' ho hq
     have b0:w2.cell? ⟨W.heap.size,0,none⟩=some (.slice a i cc):=(bq HY2.out 0).trans rfl
     have bz:=ah HY2.out
     go_wp2_with fail
     refine(HIn2.out).mono ?_
     rintro en w3 ⟨rfl,hb3⟩
     have hbw3:=fB hbw2 hb3
     have HQ3:=YJ (HQ.out.below hb3)
     clear b0 bz HY2 HIn2 HQ hbw2 hb3 hbv2
     cases ins with
     |false=>
      go_wp2
      go_ret
      exact⟨aK (HI0.out (by trivial)).symm,hbw3⟩
     |true=>
      obtain⟨hR0,hR1⟩:=HI1.out (by trivial)
      have HR0:=YJ hR0
      have HR1:=YJ hR1
      clear hR0 hR1 HI0 HI1
      obtain⟨_,m,_,e9,hm,_,hx9⟩:=HQ3.out
      cases e9
      have HX9:=YJ hx9
      clear hx9
      go_wp2
      go_loopw [6] (fun x wr=>∃k:Nat,k≤pts.length∧x= .int .i64 k∧Below w3.heap.size w3 wr∧Hid (∀j (h:j<pts.length),j<k→lw pts[j]=true)) (fun x _=>pts.length-(intOf x).toNat)
      case atStart=>exact⟨0,by omega,rfl,brf,YJ (fun j _ h=>by omega)⟩
      case round=>
       obtain⟨k,hk,rfl,hb,Hd⟩:=hrel
       by_cases hlk:k<pts.length
       ·have g3:(k:Int)<(pts.length:Int):=by omega
        have g4:(0:Int)≤(k:Int):=by omega
        obtain⟨b',off',rfl,hi5⟩:=HX9.out (by omega)
        obtain⟨f0,f1,f2,f3⟩:=(hi5.below hb) k hlk
        have zf:=qaC wr _ f0
        simp only at zf
        have hoc:=HOc'.out pts[k] (qaB hlk)
        have HEk:Hid (lw pts[k]=false→r=2):=YJ (fun h=>HR0.out ⟨k,hlk,h⟩)
        have Hst:Hid (lw pts[k]=true→∀j (h:j<pts.length),j<k+1→lw pts[j]=true):=YJ (fun h j hj hji=>by
         by_cases e:j=k
         ·subst e;exact h
         ·exact Hd.out j hj (by omega))
        clear hi5 HX9 HOc' HR0 HR1 Hd HQ3
        generalize pts[k]=c at*
        obtain⟨c0,c1,c2,c3⟩:=c
        simp only at f0 f1 f2 f3
        simp only[fD]at hoc
        have HRm:=fun W'=>YJ (PN c0 c1 c2 c3 W' (by omega))
        generalize lw (c0,c1,c2,c3)=q at*
        go_wp2_with fail
        refine((HRm _).out).mono ?_
        rintro en w4 ⟨rfl,hb4⟩
        cases q with
        |false=>
         go_wp2
         go_ret
         exact⟨aK (HEk.out (by trivial)).symm,fB hbw3 (fB hb hb4)⟩
        |true=>
         go_wp2
         go_roundw
         case rel=>exact⟨k+1,by omega,by go_num,fB hb hb4,YJ (Hst.out (by trivial))⟩
         simp[intOf];try omega
       ·obtain rfl:k=pts.length:=by omega
        have g3:¬(pts.length:Int)<(pts.length:Int):=by omega
        go_wp2
        go_ret
        exact⟨aK (HR1.out (fun j h=>Hd.out j h h)).symm,fB hbw3 hb⟩
def lr:List (List Q4)→Int
 | []=>0
 |c::cs=>if bK c=0 then lr cs else bK c
theorem FT (cs:List (List Q4)) (k:Nat) (hk:k<cs.length) (h:∀i (hi:i<cs.length),i<k→bK cs[i]=0) (hx:bK cs[k]≠0):lr cs=bK cs[k]:=by
 induction cs generalizing k with
 |nil=>simp at hk
 |cons p ps ih=>
  cases k with
  |zero=>simp only[qdt]at hx;simp[lr,hx]
  |succ k=>
   have h0:=h 0 (by simp) (by omega)
   simp only[qdt]at h0
   simp only[lr,h0,if_true,List.getElem_cons_succ]
   exact ih k (by simpa using hk) (fun i hi hik=>by have:=h (i+1) (by simpa using hi) (by omega);simpa using this) (by simpa using hx)
theorem EQ (cs:List (List Q4)) (h:∀i (hi:i<cs.length),bK cs[i]=0):lr cs=0:=by
 induction cs with
 |nil=>rfl
 |cons p ps ih=>
  have h0:=h 0 (by simp)
  simp only[qdt]at h0
  simp only[lr,h0,if_true]
  exact ih (fun i hi=>by have:=h (i+1) (by simpa using hi);simpa using this)
def Tv (css:List (List Q4)):Int:=if 100<css.length then 8 else lr css
theorem PO (css:List (List Q4)) (sv:Value) (W:World) (hl:∀c∈css,c.length≤1000000) (h:SolV W sv css):
  Calls Tryz.prog 45 #[.agg #[sv]] W (Ret W (.int .i64 (Tv css))):=by
 obtain⟨V,HV⟩:∃V,Hid (W.alloc (.cells #[sv] 75)=V):=⟨_,YJ rfl⟩
 have hV:Below W.heap.size W V:=by rw[←HV.out];exact bel
 have HC:Hid (V.heap[W.heap.size]? =some (.cells #[sv] 75 (0,0))):=YJ (by rw[←HV.out];exact ai rfl)
 obtain⟨a,n,cc,rfl,hn,_,hx⟩:=h.below hV
 have HX:=YJ hx
 have HLn:=fun i (h:i<css.length)=>YJ (hl _ (qaB h))
 have H100:Hid (100<n→Tv css=8):=YJ (fun h=>by unfold Tv;rw[if_pos (by omega)])
 have Hs:Hid (¬100<n→Tv css=lr css):=YJ (fun h=>by unfold Tv;rw[if_neg (by omega)])
 have Hhit:=YJ (FT css)
 have Hnone:=YJ (EQ css)
 generalize Tv css=r at*
 clear hx hl h
 go_enter Tryz.func45,Tryz.ntmps45
 by_cases hl16:100<n
 ·have g0:(100:Int)<(n:Int):=by omega
  go_wp2
  go_ret
  exact⟨aK (H100.out hl16).symm,bel⟩
 ·have g0:¬(100:Int)<(n:Int):=by omega
  have Hs':=YJ (Hs.out hl16)
  clear H100 Hs
  go_wp2
  rw[HV.out]
  go_loopw [3,4] (fun x _ wr=>∃i:Nat,i≤n∧x= .int .i64 i∧Below V.heap.size V wr∧Hid (∀j (h:j<css.length),j<i→bK css[j]=0)) (fun x _ _=>n-(intOf x).toNat)
  case atStart=>exact⟨0,by omega,rfl,brf,YJ (fun j _ h=>by omega)⟩
  case round=>
   obtain⟨i,hi,rfl,hb,Hd⟩:=hrel
   have HXr:=YJ ((hb.block _ (ah HC.out)).trans HC.out)
   have b0:wr.cell? ⟨W.heap.size,0,none⟩=some (.slice a n cc):=(bq HXr.out 0).trans rfl
   have bz:=ah HXr.out
   by_cases hlt:i<n
   ·have g1:(i:Int)<(n:Int):=by omega
    have g2:(0:Int)≤(i:Int):=by omega
    have hil:i<css.length:=by omega
    obtain⟨b,off,rfl,hi4⟩:=HX.out (by omega)
    obtain⟨cu,e0,hq⟩:=hi4 i hil
    have e0:=ab hb e0
    have ze:=qaC wr _ e0
    simp only at ze
    have HEi:Hid (bK css[i]≠0→r=bK css[i]):=YJ (fun h=>by
     rw[Hs'.out]
     exact Hhit.out i hil Hd.out h)
    have Hst:Hid (bK css[i]=0→∀j (h:j<css.length),j<i+1→bK css[j]=0):=YJ (fun h j hj hji=>by
     by_cases e:j=i
     ·subst e;exact h
     ·exact Hd.out j hj (by omega))
    have HCP:=fun W' hb'=>YJ (Px css[i] cu W' (HLn i hil).out ((hq.below hb).below hb'))
    obtain⟨ua,um,uc,rfl, -⟩:=hq
    clear hi4 HX Hhit Hnone HLn Hs' Hd
    generalize bK css[i]=e at*
    go_wp2_with fail
    refine((HCP _ (brf)).out).mono ?_
    rintro en w1 ⟨rfl,hb1⟩
    by_cases hz:e=0
    ·have hz':(e !=0)=false:=by simpa using hz
     go_wp2
     go_roundw
     case rel=>exact⟨i+1,by omega,by go_num,fB hb hb1,YJ (Hst.out hz)⟩
     simp[intOf];try omega
    ·have hz':(e !=0)=true:=by simpa using hz
     go_wp2
     go_ret
     exact⟨aK (HEi.out hz).symm,fB hV (fB hb hb1)⟩
   ·obtain rfl:i=n:=by omega
    have g1:¬(i:Int)<(i:Int):=by omega
    go_wp2
    go_ret
    exact⟨aK (by rw[Hs'.out];exact(Hnone.out (fun j h=>Hd.out j h (by omega))).symm),fB hV hb⟩
theorem CM {w w':World} {B B' n m sz sz':Nat} {e e':TypeId} {v u:Value} {xs ys:List Value} (h:w.ownsRow B e sz v n xs) (g:w.ownsRow B' e' sz' u m ys) (he:e≠e') (hg:w.grownBy w' u.ownBlock):w'.ownsRow B e sz v n xs:=
 ⟨h.1,h.2.imp id (fun⟨q,cap,cur,hv,hq,hh,r⟩=>⟨q,cap,cur,hv,hq,(hg.block _ (ah hh) (fun e=>aG g hh he.symm e.symm)).trans hh,r⟩)⟩
def BodX (W:World) (w:World) (B:Nat) (css:List (List Q4)) (xs:List Value):Prop:=
 ∀i (h:i<css.length),∃p c,xs[i*2]? =some p∧xs[i*2+1]? =some c∧Q4s W p css[i]∧w.ownsRow B 186 4 c (aS css[i]).length ((aS css[i]).flatMap aH)
def BodR (W:World) (w:World) (B:Nat) (v:Value) (css:List (List Q4)):Prop:=∃xs,w.ownsRow B 184 2 v css.length xs∧xs.length=css.length*2∧BodX W w B css xs
theorem BodX.below {W w w':World} {B:Nat} {css:List (List Q4)} {xs:List Value} (h:BodX W w B css xs) (hb:Below w.heap.size w w'):BodX W w' B css xs:=fun i hi=>by
 obtain⟨p,c,h1,h2,h3,h4⟩:=h i hi
 exact⟨p,c,h1,h2,h3,au h4 hb⟩
theorem BodR.below {W w w':World} {B:Nat} {v:Value} {css:List (List Q4)} (h:BodR W w B v css) (hb:Below w.heap.size w w'):BodR W w' B v css:=by
 obtain⟨xs,h1,h2,h3⟩:=h
 exact⟨xs,au h1 hb,h2,h3.below hb⟩
theorem BodX.snoc {W w w2:World} {B:Nat} {css:List (List Q4)} {xs:List Value} {v p c:Value} {ps:List Q4} (h:BodX W w B css xs) (hl:xs.length=css.length*2) (ho:w.ownsRow B 184 2 v css.length xs) (hg:w.grownBy w2 v.ownBlock)
  (hp:Q4s W p ps) (hc:w.ownsRow B 186 4 c (aS ps).length ((aS ps).flatMap aH)):BodX W w2 B (css++[ps]) (xs++[p,c]):=fun i hi=>by
 by_cases h1:i<css.length
 ·obtain⟨p',c',e1,e2,e3,e4⟩:=h i h1
  rw[qgn h1]
  exact⟨p',c',by rw[List.getElem?_append_left (by omega)];exact e1,by rw[List.getElem?_append_left (by omega)];exact e2,e3,CM e4 ho (by decide) hg⟩
 ·have h2:i=css.length:=by simp at hi;omega
  subst h2
  refine⟨p,c,by rw[List.getElem?_append_right (by omega),hl,Nat.sub_self];rfl,by rw[List.getElem?_append_right (by omega),hl,Nat.add_sub_cancel_left];rfl, ?_⟩
  simp only[List.getElem_append_right (qaA css.length),Nat.sub_self,qdt]
  exact⟨hp,CM hc ho (by decide) hg⟩
theorem Ih:(Tryz.prog.info? 184).map (fun i=>(i.zero,i.size,i.bytes))=some (some (.agg #[.slice none 0 0, .slice none 0 0]),2,48):=by kernel_rfl
theorem qhR:Tryz.prog.underlying 179=some (.slice 184):=by kernel_rfl
def BodPost (css:List (List Q4)) (W:World) (e:Ending) (w':World):Prop:=
 Below W.heap.size W w'∧((Tv css=0∧∃v,e= .returned (.tuple #[v, .int .i64 0])∧BodR W w' W.heap.size v css)∨
  (Tv css≠0∧e= .returned (.tuple #[.slice none 0 0, .int .i64 (Tv css)])))
theorem MD {css:List (List Q4)} (h:100<css.length):Tv css=8:=by unfold Tv;rw[if_pos h]
theorem KW {css:List (List Q4)} (h:¬100<css.length) (k:Nat) (hk:k<css.length) (h0:∀i (hi:i<css.length),i<k→bK css[i]=0) (hx:bK css[k]≠0):Tv css=bK css[k]:=by
 unfold Tv;rw[if_neg h];exact FT css k hk h0 hx
theorem JA {css:List (List Q4)} (h:¬100<css.length) (h0:∀i (hi:i<css.length),bK css[i]=0):Tv css=0:=by
 unfold Tv;rw[if_neg h];exact EQ css h0
theorem BodPost.err {css:List (List Q4)} {W w':World} {n:Int} (hb:Below W.heap.size W w') (hn:Tv css=n) (h0:n≠0):BodPost css W (.returned (.tuple #[.slice none 0 0, .int .i64 n])) w':=⟨hb, .inr ⟨by rw[hn];exact h0,by rw[hn]⟩⟩
set_option maxRecDepth 100000 in
theorem BX (css:List (List Q4)) (sv:Value) (W:World) (hl:∀c∈css,c.length≤1000000) (h:SolV W sv css):
  Calls Tryz.prog 100 #[.agg #[sv]] W (BodPost css W):=by
 obtain⟨V,HV⟩:∃V,Hid (W.alloc (.cells #[sv] 75)=V):=⟨_,YJ rfl⟩
 have hV:Below W.heap.size W V:=by rw[←HV.out];exact bel
 obtain⟨a,n,cc,rfl,hn,_,hx⟩:=h
 have HX:=YJ hx
 have HLn:=fun i (h:i<css.length)=>YJ (hl _ (qaB h))
 have Hn:=YJ hn
 obtain⟨i0,hi0,hz0,hz1,hz2⟩:=info_parts Ih
 have Hi0:=YJ (And.intro hi0 (And.intro hz0 (And.intro hz1 hz2)))
 clear hx hl hi0 hz0 hz1 hz2
 go_enter Tryz.func100,Tryz.ntmps100
 by_cases hl16:100<n
 ·have g0:(100:Int)<(n:Int):=by omega
  go_wp2
  refine bodyPost_ret (v:= .tuple #[.slice none 0 0, .int .i64 8]) (by simp[results,Tryz.results100,go_sem]) rfl (BodPost.err ?_ (MD (by omega)) (by decide))
  exact bel
 ·have g0:¬(100:Int)<(n:Int):=by omega
  go_wp2
  rw[HV.out]
  go_loopw [4,16] (fun s x wr=>∃k:Nat,k≤n∧x= .int .i64 k∧Below W.heap.size W wr∧Hid (∀j (h:j<css.length),j<k→bK css[j]=0)∧Hid (BodR W wr W.heap.size s (css.take k))) (fun _ x _=>n-(intOf x).toNat)
  case atStart=>exact⟨0,by omega,rfl,hV,YJ (fun j _ h=>by omega),YJ ⟨[],qds _ _ _ _,rfl,fun i h=>by simp at h⟩⟩
  case round=>
   obtain⟨k,hk,rfl,hb,Hd,HR⟩:=hrel
   obtain⟨xs,ho,hxl,hX⟩:=HR.out
   have Htl:Hid ((css.take k).length=k):=YJ (by rw[qge];omega)
   rw[Htl.out]at ho
   obtain⟨sa,sc,rfl⟩:=aT ho
   have HO:=YJ ho
   have HXL:=YJ hxl
   have HBX:=YJ hX
   by_cases hlt:k<n
   ·have g1:(k:Int)<(n:Int):=by omega
    have g2:(0:Int)≤(k:Int):=by omega
    have hil:k<css.length:=by omega
    obtain⟨b,off,rfl,hi4⟩:=HX.out (by omega)
    obtain⟨cu,e0,hq⟩:=hi4 k hil
    have e0:=ab hb e0
    have ze:=qaC wr _ e0
    simp only at ze
    have HQ:=YJ hq
    have HEk:=YJ (KW (css:=css) (by omega) k hil Hd.out)
    have Hst:Hid (bK css[k]=0→∀j (h:j<css.length),j<k+1→bK css[j]=0):=YJ (fun h j hj hji=>by
     by_cases e:j=k
     ·subst e;exact h
     ·exact Hd.out j hj (by omega))
    have Htk:Hid (css.take (k+1)=css.take k++[css[k]]):=YJ (qaI hil)
    have HRd:=fun W' (h:Below W.heap.size W W')=>YJ (By css[k] cu W' (by have:=(HLn k hil).out;omega) (HQ.out.below h))
    obtain⟨ua,um,uc,rfl, -⟩:=hq
    have hbc:Below W.heap.size W (wr.alloc (.cells #[.slice ua um uc] 164)):=fB hb bel
    clear hi4 HX HLn Hd HR ho hxl hX
    generalize css[k]=ps at*
    go_wp2_with fail
    refine((HRd _ hbc).out).mono ?_
    rintro en w1 ⟨hb1,hp⟩
    have hbw1:Below wr.heap.size wr w1:=fB bel hb1
    have hbW1:=fB hbc hb1
    have HO1:=YJ (au HO.out hbw1)
    have HBX1:=YJ (HBX.out.below hbw1)
    clear HRd e0 ze HO HBX
    rcases hp with⟨h0,cv,rfl,hcv⟩|⟨h0,rfl⟩
    ·obtain⟨ca,ccp,rfl⟩:=aT hcv
     have HC1:=YJ (AY hcv hbc.size)
     have HZ:=YJ (Hst.out h0)
     clear Hst HEk hcv h0
     obtain⟨cl,HCL⟩:∃cl,Hid ((aS ps).length=cl):=⟨_,YJ rfl⟩
     rw[HCL.out]at HC1 ⊢
     have za:w1.heap.size<(w1.alloc (.cells #[.slice ua um uc, .slice ca cl ccp] 184)).heap.size:=by simp
     go_wp2_with (at_builtin;refine wpList_append_own _ rfl _ _ 179 rfl W.heap.size 184 i0 (.agg #[.slice none 0 0, .slice none 0 0]) 2 48 qhR Hi0.out.1 Hi0.out.2.1 Hi0.out.2.2.1 Hi0.out.2.2.2 rfl (by decide) _ k _ rfl ((HO1.out.alloc _).alloc _) ⟨_,0,none⟩ 1 1 [.slice ua um uc, .slice ca cl ccp] rfl rfl ?c1 ?c2 ?c3 ?c4 ?c5 ?_)
     case c1=>
      intro jj uu hu
      rw[jY,aq (by simp) jj]
      simpa using hu
     case c2=>intro v hv;simp at hv;rcases hv with rfl|rfl<;>rfl
     case c3=>unfold maxLen;omega
     case c4=>omega
     case c5=>simp;have:=hbW1.size;omega
     intro v' w4 hown4 hg4 _
     have hx:Below w1.heap.size w1 ((w1.alloc (.cells #[.slice ua um uc, .slice ca cl ccp] 184)).alloc (.cells #[.slice ua um uc, .slice ca cl ccp] 184)):=bel
     have HO2:=YJ (au HO1.out hx)
     have hb4:Below W.heap.size W w4:=(fB hbW1 hx).grown hg4 (fB hbW1 hx).size (fun z hz=>by have:=(HO2.out.lt z hz).1;omega)
     have hO2:((w1.alloc (.cells #[.slice ua um uc, .slice ca cl ccp] 184)).alloc (.cells #[.slice ua um uc, .slice ca cl ccp] 184)).ownsRow W.heap.size 184 2 (.slice sa k sc) (css.take k).length xs:=by rw[Htl.out];exact HO2.out
     have HB4:=YJ ((HBX1.out.below hx).snoc HXL.out hO2 hg4 HQ.out (by rw[HCL.out];exact au HC1.out hx))
     have H4:Hid (BodR W w4 W.heap.size v' (css.take (k+1))):=YJ (by
      rw[Htk.out]
      exact⟨_,by simpa [Htl.out]using hown4,by simp[HXL.out,Htl.out];omega,HB4.out⟩)
     clear hown4 hg4 hx HO2 hO2 HB4 HO1 HBX1 HC1
     go_wp2
     go_roundw
     case rel=>exact⟨k+1,by omega,by go_num,hb4,HZ,H4⟩
     simp[intOf];try omega
    ·have hne:(bK ps !=0)=true:=by simpa using h0
     have HE:=YJ (HEk.out h0)
     clear Hst HEk
     generalize bK ps=ce at*
     go_wp2
     refine bodyPost_ret (v:= .tuple #[.slice none 0 0, .int .i64 ce]) (by simp[results,Tryz.results100,go_sem]) rfl (BodPost.err ?_ HE.out h0)
     exact fB hbW1 bel
   ·obtain rfl:k=n:=by omega
    have g1:¬(k:Int)<(k:Int):=by omega
    have HN:=YJ (JA (css:=css) (by omega) (fun j h=>Hd.out j h (by omega)))
    have e:css.take k=css:=qaK (by omega)
    have HF:Hid (BodR W wr W.heap.size (.slice sa k sc) css):=YJ (by have:=HR.out;rwa [e]at this)
    go_wp2
    refine bodyPost_ret (v:= .tuple #[.slice sa k sc, .int .i64 0]) (by simp[results,Tryz.results100,go_sem]) rfl ⟨hb, .inl ⟨HN.out,_,rfl,HF.out⟩⟩
theorem Rr (css:List (List Q4)) (sv:Value) (W:World) (hl:∀c∈css,c.length≤1000000) (h:SolV W sv css):
  Calls Tryz.prog 85 #[.agg #[sv]] W (Ret W (.int .i64 (Tv css))):=by
 have HB:=fun W' hb=>YJ (BX css sv W' hl (SolV.below (w':=W') h hb))
 obtain⟨a,n,cc,rfl,_,_,_⟩:=h
 go_enter Tryz.func85,Tryz.ntmps85
 go_wp2_with fail
 refine((HB _ bel).out).mono ?_
 rintro e w1 ⟨hb1,⟨h0,v,rfl,xs,ho,_⟩|⟨h0,rfl⟩⟩
 ·obtain⟨ra,rc,rfl⟩:=aT ho
  go_wp2
  go_ret
  exact⟨aK h0.symm,fB bel hb1⟩
 ·generalize Tv css=e at*
  go_wp2
  go_ret
  exact⟨rfl,fB bel hb1⟩
def mK (v:Q3):Int:=if(-1≤v.1∧v.1≤1)∧(-1≤v.2.1∧v.2.1≤1)∧(-1≤v.2.2∧v.2.2≤1)then(if v.1=0∧v.2.1=0∧v.2.2=0 then 11 else 0)else 2
def Cj (v:Q3):Prop:=(-1≤v.1∧v.1≤1)∧(-1≤v.2.1∧v.2.1≤1)∧(-1≤v.2.2∧v.2.2≤1)
theorem gL {a b c:Int} (h:(a< -1∨1<a)∨(b< -1∨1<b)∨(c< -1∨1<c)):mK (a,b,c)=2:=by
 unfold mK;exact if_neg (by simp only;omega)
theorem GD {a b c:Int} (ha: -1≤a∧a≤1) (hb: -1≤b∧b≤1) (hc: -1≤c∧c≤1):mK (a,b,c)=if a=0∧b=0∧c=0 then 11 else 0:=by
 unfold mK;exact if_pos (by simp only;omega)
theorem BN {v:Q3} (h:mK v=0):Cj v:=by
 unfold mK at h
 split at h
 ·assumption
 ·cases h
set_option maxRecDepth 100000 in
theorem Ru (a b c:Int) (w:World):Calls Tryz.prog 65 #[V3 a b c] w (Ret w (.int .i64 (mK (a,b,c)))):=by
 go_enter Tryz.func65,Tryz.ntmps65
 go_wp2
 go_loop [12] (fun i=>∃k:Int,0≤k∧k≤3∧i= .int .i64 k∧(1≤k→ -1≤a∧a≤1)∧(2≤k→ -1≤b∧b≤1)∧(3≤k→ -1≤c∧c≤1)) (fun i=>3-(intOf i).toNat)
 case atStart=>exact⟨0,by omega,by omega,rfl,by omega,by omega,by omega⟩
 case round=>
  obtain⟨k,hk0,hk,rfl,h1,h2,h3⟩:=hrel
  have i0:=qD (.int .i64 a) (.int .i64 b) (.int .i64 c)
  have i1:=qE (.int .i64 a) (.int .i64 b) (.int .i64 c)
  have i2:=qF (.int .i64 a) (.int .i64 b) (.int .i64 c)
  rcases(by omega:k=0∨k=1∨k=2∨k=3)with rfl|rfl|rfl|rfl
  ·clear h1 h2 h3
   have hx:(a< -1∨1<a)∨(-1≤a∧a≤1):=by omega
   rcases hx with(hx|hx)|hx
   ·go_wp2
    go_ret
    exact⟨aK (gL (by omega)).symm,bel⟩
   ·go_wp2
    go_ret
    exact⟨aK (gL (by omega)).symm,bel⟩
   ·go_wp2
    go_round
    case rel=>exact⟨1,by omega,by omega,rfl,by omega,by omega,by omega⟩
    first|decide|(simp[intOf];done)
  ·have h1':=h1 (by omega)
   clear h1 h2 h3
   have hx:(b< -1∨1<b)∨(-1≤b∧b≤1):=by omega
   rcases hx with(hx|hx)|hx
   ·go_wp2
    go_ret
    exact⟨aK (gL (by omega)).symm,bel⟩
   ·go_wp2
    go_ret
    exact⟨aK (gL (by omega)).symm,bel⟩
   ·go_wp2
    go_round
    case rel=>exact⟨2,by omega,by omega,rfl,by omega,by omega,by omega⟩
    first|decide|(simp[intOf];done)
  ·have h1':=h1 (by omega)
   have h2':=h2 (by omega)
   clear h1 h2 h3
   have hx:(c< -1∨1<c)∨(-1≤c∧c≤1):=by omega
   rcases hx with(hx|hx)|hx
   ·go_wp2
    go_ret
    exact⟨aK (gL (by omega)).symm,bel⟩
   ·go_wp2
    go_ret
    exact⟨aK (gL (by omega)).symm,bel⟩
   ·go_wp2
    go_round
    case rel=>exact⟨3,by omega,by omega,rfl,by omega,by omega,by omega⟩
    first|decide|(simp[intOf];done)
  ·have h1':=h1 (by omega)
   have h2':=h2 (by omega)
   have h3':=h3 (by omega)
   clear h1 h2 h3 i0 i1 i2
   have Hp:=YJ (GD h1' h2' h3')
   clear h1' h2' h3'
   by_cases ex:a=0
   ·subst ex
    by_cases ey:b=0
    ·subst ey
     by_cases ez:c=0
     ·subst ez
      go_wp2
      go_ret
      exact⟨aK (by rw[Hp.out];simp),bel⟩
     ·go_wp2
      go_ret
      exact⟨aK (by rw[Hp.out,if_neg (by omega)]),bel⟩
    ·go_wp2
     go_ret
     exact⟨aK (by rw[Hp.out,if_neg (by omega)]),bel⟩
   ·go_wp2
    go_ret
    exact⟨aK (by rw[Hp.out,if_neg (by omega)]),bel⟩
theorem ER (x y z:Int) (W:World) (hx: -1≤x∧x≤1) (hy: -1≤y∧y≤1) (hz: -1≤z∧z≤1):Calls Tryz.prog 92 #[V3 x y z] W (Ret W (V3 (-x) (-y) (-z))):=by
 go_enter Tryz.func92,Tryz.ntmps92
 go_wp2
 refine bodyPost_ret (v:= .agg #[.int .i64 (-x), .int .i64 (-y), .int .i64 (-z)]) (by simp[results,Tryz.results92,go_sem]) rfl ⟨rfl, ?_⟩
 exact bel
end
end Go.Proofs.YtffbilcjhlncfaaGreatDoor
