/- texts: FGD FGE FGX FGY FGZ FGW. -/
import Derived.Test.YtnpmkepfpekhfaaGreatDoorGGS43
namespace Go.Proofs.YtnpmkepfpekhfaaGreatDoor
set_option maxHeartbeats 8000000
set_option linter.all false
section
open Go.RowKit Go.Shelf Go.Lib
set_option maxRecDepth 100000
attribute [local go_sem] Ext.cell Ext.frozen
theorem GS {w:World} {B:Nat} {v:Value} {l:List Nat} (h:w.ownsRow B 3 1 v (nI l).length ((nI l).map (Value.int .i64))):OwnI B w v l:=by
 rw[TO,Vm]at h
 exact h
theorem Yn (E:Nat→Nat→Bool) (A:List Nat) (n:Nat):(TU E A n).length≤A.length:=List.length_filter_le _ _
theorem qaa (g:List (List Nat)) (i k:Nat) (gv:Value) (W:World) (hg:∀r∈g,r.length≤1000) (hgl:g.length≤1000) (hi:i<g.length) (h1:GrfV W gv g):
  Calls Tryz.prog 62 #[gv, .int .i64 i, .int .i64 k] W (Ret W (.bool ((TU (gE g) (List.range g.length) i).contains k))):=by
 have HAl:=YJ (Yo g.length W (by omega))
 have HCa:=fun pv W' (hb:Below W.heap.size W W') (h2:NatV W' pv (List.range g.length))=>YJ (Vn g (List.range g.length) i gv pv W' hg (by simpa using hgl) hi (fun y hy=>by simpa using hy) (h1.below hb) h2)
 have HHa:=fun v W' (h2:NatV W' v (TU (gE g) (List.range g.length) i))=>YJ (Vu v _ k W' (qaD (Yn _ _ _) (by simp;omega)) h2)
 have hg1:=h1
 obtain⟨ga,gn,gc,rfl,hgn, -, -⟩:=hg1
 rw[hgn]at HAl HCa HHa ⊢
 clear h1
 generalize(TU (gE g) (List.range gn) i).contains k=rb at*
 generalize TU (gE g) (List.range gn) i=rc at*
 go_enter Tryz.func62,Tryz.ntmps62
 go_wp2_with fail
 refine(HAl.out).mono ?_
 rintro e w1 ⟨v1,rfl,hb1,ho1⟩
 have HC1:=YJ (HCa v1 w1 hb1 (GS ho1).ints).out
 obtain⟨va,vc,rfl⟩:=aT ho1
 clear HAl HCa ho1
 go_wp2_with fail
 refine(HC1.out).mono ?_
 rintro e w2 ⟨v2,rfl,hb2,ho2⟩
 have HH2:=YJ (HHa v2 w2 (GS ho2).ints).out
 obtain⟨va2,vc2,rfl⟩:=aT ho2
 clear HC1 HHa ho2
 go_wp2_with fail
 refine(HH2.out).mono ?_
 rintro e w3 ⟨rfl,rfl⟩
 clear HH2
 go_wp2
 go_ret
 exact⟨by first|rfl|trivial,fB hb1 hb2⟩
theorem qab (g:List (List Nat)) (v v2:Value) (W:World) (hg:∀r∈g,r.length≤1000) (hgl:g.length≤10000) (h1:GrfV W v g) (h2:GrfV W v2 g):
  Calls Tryz.prog 21 #[v,v2] W (Ret W (.bool true)):=by
 have HI:=fun k (h:k<g.length) v v2 W' (k1:NatV W' v g[k]) (k2:NatV W' v2 g[k])=>YJ (show Calls Tryz.prog 61 #[v,v2] W' (Ret W' (.bool true))from by have:=VU v v2 (nI g[k]) (nI g[k]) W' (by rw[TO];have:=hg _ (qaB h);omega) k1 k2;simpa using this)
 obtain⟨a,n,c,rfl,hn, -,hx⟩:=h1
 obtain⟨a2,n2,c2,rfl,hn2, -,hy⟩:=h2
 obtain rfl:n2=n:=by omega
 have HX:=YJ hx
 have HY:=YJ hy
 have HN:=YJ hn
 have hn1:n2≤10000:=by omega
 clear hx hy hn hn2 hg hgl
 go_enter Tryz.func21,Tryz.ntmps21
 go_wp2
 go_loopw [5] (fun x wr=>∃k:Nat,k≤n2∧x= .int .i64 k∧Below W.heap.size W wr) (fun x _=>n2-(intOf x).toNat)
 case atStart=>exact⟨0,by omega,rfl,brf⟩
 case round=>
  obtain⟨k,hk,rfl,hb⟩:=hrel
  by_cases hlt:k<n2
  ·have g1:(k:Int)<(n2:Int):=by omega
   have g2:(0:Int)≤(k:Int):=by omega
   have hil:k<g.length:=by have:=HN.out;omega
   obtain⟨b,off,rfl,hx⟩:=HX.out (by omega)
   obtain⟨b2,off2,rfl,hy⟩:=HY.out (by omega)
   obtain⟨r1,c0,i1⟩:=hx k hil
   obtain⟨r2,d0,i2⟩:=hy k hil
   have c0:=ab hb c0
   have d0:=ab hb d0
   have HA:=fun W' (h:Below W.heap.size W W')=>YJ (HI k hil r1 r2 W' (NatV.below i1 h) (NatV.below i2 h)).out
   have z1:=qaC wr _ c0
   have z2:=qaC wr _ d0
   simp only at z1 z2
   obtain⟨_,_,_,rfl, -⟩:=i1
   obtain⟨_,_,_,rfl, -⟩:=i2
   clear hx hy HX HY HI
   go_wp2
   refine wqb ?_
   repeat(first|go_big_quiet_step ((go_at_call 61;exact aE ((HA _ (fB hb (Ext.below _))).out)))|quiet_step ((go_at_call 61;exact aE ((HA _ (fB hb (Ext.below _))).out))))
   refine wqn fun u=> ?_
   go_wp2
   go_roundw
   case rel=>exact⟨k+1,by omega,by go_num,fB hb u.below⟩
   case measure=>first|(simp[intOf];done)|(simp[intOf];omega)
  ·obtain rfl:k=n2:=by omega
   clear HX HY HI
   go_wp2
   go_ret
   exact⟨by first|rfl|trivial,hb⟩
end
section
open Go.RowKit Go.Shelf Go.Lib
theorem XC (l:List (List (List Q4))) (w:Q3):∀r∈TF l w,r.length≤l.length:=Ww l w
def YG (ce:Int) (CL:List Nat) (W:World) (e:Ending) (w':World):Prop:=∃ca cn cc,e= .returned (.tuple #[.slice ca cn cc, .int .i64 ce])∧Below W.heap.size W w'∧(ce≠0→cn=0)∧(ce=0→NatV w' (.slice ca cn cc) CL)
theorem CarP.q {l:List (List (List Q4))} {n:Int} {w:Q3} {W:World} {e:Ending} {w':World} (h:CarP l n w W e w'):YG (crE l n w) (crL l n.toNat w) W e w':=by
 obtain⟨hb,⟨h,rfl⟩|⟨h,v,rfl,ho⟩⟩:=h
 ·exact⟨none,0,0,rfl,hb,fun _=>rfl,fun h'=>absurd h' h⟩
 ·have h2:=ho
  unfold OwnI at h2
  obtain⟨a,c,rfl⟩:=aT h2
  exact⟨_,_,_,by rw[h],hb,fun h'=>absurd h h',fun _=>OwnI.ints ho⟩
end
section
open Go.RowKit Go.Shelf Go.Lib
set_option maxRecDepth 100000
attribute [local go_sem] Ext.cell Ext.frozen
def slN:Value→Nat
 | .slice _ n _=>n
 |_=>0
theorem qau {v v2:Value} {left cl:List Nat} {W:World} (h1:left.length≤1000000) (h2:cl.length≤1000000) (k1:NatV W v left) (k2:NatV W v2 cl):Calls Tryz.prog 64 #[v,v2] W (fun e w'=>∃r,e= .returned r∧Below W.heap.size W w'∧OwnI W.heap.size w' r (left.filter fun y=> !cl.contains y)):=by
 refine(Vs v v2 (nI left) (nI cl) W (by rw[TO];exact h1) (by rw[TO];exact h2) k1 k2).mono ?_
 rintro e w' ⟨r,rfl,hb,ho⟩
 refine⟨r,rfl,hb, ?_⟩
 have e2:Ug (nI left) (nI cl)=nI (left.filter fun y=> !cl.contains y):=VV _ _
 rw[e2]at ho
 exact GS ho
theorem ZW (g:List (List Nat)) (G:List Nat) (gv:Value) (W:World) (hE:∀j k,gE g j k=true↔Vf G j k) (hgl:g.length≤12) (hg:∀r∈g,r.length≤1000) (h1:GrfV W gv g):
  Calls Tryz.prog 22 #[gv] W (GrO (Yw (gE g) (List.range g.length) 4096 (List.range g.length)) W):=by
 obtain⟨i0,hi0,hz0,hz1,hz2⟩:=info_parts In
 have Hi0:=YJ (And.intro hi0 (And.intro hz0 (And.intro hz1 hz2)))
 obtain⟨i1,hj0,hy0,hy1,hy2⟩:=info_parts VX
 have Hi1:=YJ (And.intro hj0 (And.intro hy0 (And.intro hy1 hy2)))
 clear hi0 hz0 hz1 hz2 hj0 hy0 hy1 hy2
 obtain⟨all,Hall⟩:∃all,Hid (2 ^ g.length-1=all):=⟨_,YJ rfl⟩
 have ha:all<4096:=by rw[←Hall.out];exact WQ hgl
 have hr:List.range g.length=av all:=by rw[←Hall.out,WT hgl]
 have HAl:=YJ (Yo g.length W (by omega))
 have HRe:=fun i k (hi:i<g.length) W' (hb:Below W.heap.size W W')=>YJ (qaa g i k gv W' hg (by omega) hi (h1.below hb))
 have HMo:=fun left cl v v2 W' (hl:left.length≤1000) (hc:cl.length≤1000) (hcl:∀j∈cl,j<g.length) (hb:Below W.heap.size W W') (k1:NatV W' v left) (k2:NatV W' v2 cl)=>YJ (XV g left cl gv v v2 W' hg hl hc hcl (h1.below hb) k1 k2)
 have HIn:=fun rest (h:ClI G all rest)=>YJ (fun x (hx:x∈av rest)=>show x<g.length from by
  have:=(Tz ha).2 (h.sub x ((Tz h.lt).1 hx))
  rw[←hr]at this
  simpa using this)
 have HLe:=fun rest (h:ClI G all rest)=>YJ (show(av rest).length≤12 from by
  rw[TS rest h.lt]
  exact qaD (List.length_filter_le _ _) (by simp))
 have HSt:Hid (ClI G all all):=YJ (ClI.start ha)
 rw[hr]at HAl ⊢
 rw[hr]at HRe
 have HNx:=fun rest f (h:ClI G all rest) i hi h0 h1 hf=>YJ (ClI.next hE ha h (f:=f) i hi h0 h1 hf)
 have HSm:=fun rest (h:ClI G all rest) hl h0=>YJ (ClI.some hE ha h hl h0)
 have HTk:=fun left n k (h:k<left.length)=>YJ (@qae (gE g) (av all) left n k h)
 have HNil:=fun f=>YJ (qam (gE g) (av all) f)
 obtain⟨RES,HRES⟩:∃RES,Hid (Yw (gE g) (av all) 4096 (av all)=RES):=⟨_,YJ rfl⟩
 rw[HRES.out]
 obtain⟨ga,gn,gc,rfl,hgn, -, -⟩:=h1
 have Hgn:=YJ hgn
 rw[hgn]at HAl hr hgl
 clear hgn hE hg
 go_enter Tryz.func22,Tryz.ntmps22
 go_wp2_with fail
 refine(HAl.out).mono ?_
 rintro e w1 ⟨v1,rfl,hb1,ho1⟩
 have HL1:Hid (OwnI W.heap.size w1 v1 (av all)):=YJ (GS ho1)
 clear HAl ho1 hr
 obtain⟨l1a,l1n,l1c,rfl⟩:∃a n c,v1= .slice a n c:=by have:=HL1.out;unfold OwnI at this;obtain⟨a,c,h⟩:=aT this;exact⟨_,_,_,h⟩
 go_wp2
 go_loopw [3,4] (fun s l wr=>∃(rest f:Nat) (outs:List (List Nat)) (vs:List Value),Hid (ClI G all rest)∧rest≤f∧Below W.heap.size W wr∧Hid (wr.ownsRow W.heap.size 49 1 s outs.length vs)∧Hid (RowsP (OwnI W.heap.size wr) vs outs)∧Hid (OwnI W.heap.size wr l (av rest))∧Hid (outs++Yw (gE g) (av all) f (av rest)=RES)∧outs.length+(av rest).length≤12) (fun s l _=>slN l)
 case atStart=>exact⟨all,4096,[],[],HSt,by omega,hb1,YJ (World.ownsRow_nil _ _ _ _),YJ RowsP.nil,HL1,YJ (by rw[List.nil_append];exact HRES.out),by have:=(HLe all HSt.out).out;simpa using this⟩
 case round=>
  clear HL1 HSt HRES
  obtain⟨rest,f,outs,vs,HI,hrf,hb,HO,HR,HL,HE,hsum⟩:=hrel
  obtain⟨oa,oc,rfl⟩:=aT HO.out
  have hL2:=HL.out
  unfold OwnI at hL2
  obtain⟨la,lc,rfl⟩:=aT hL2
  clear hL2
  have HI2:=YJ (HIn rest HI.out).out
  have hle:=(HLe rest HI.out).out
  by_cases hpos:0<(av rest).length
  ·have HN2:=fun i hi h0 h1=>YJ (HNx rest f HI.out i hi h0 h1 hrf).out
   have HS2:=YJ (HSm rest HI.out hpos)
   have HLn:=NatV.at (OwnI.ints HL.out)
   obtain⟨_,_,_,heq,hln,hlx⟩:=HLn
   injection heq with e1 e2 e3
   subst e1
   subst e3
   obtain⟨lb,loff,rfl,hlx2⟩:=hlx (by omega)
   have HX:=YJ hlx2
   clear hlx hlx2 hln e2 HNx HSm HIn HLe
   generalize av rest=lf at*
   obtain⟨m,Hm⟩:∃m,Hid (lf.length=m):=⟨_,YJ rfl⟩
   have hposI:(0:Int)<(lf.length:Int):=by omega
   obtain⟨wo,rfl⟩:∃wo:World,wo=wr:=⟨_,rfl⟩
   have HLm:Hid (OwnI W.heap.size wo (.slice (some ⟨lb,loff,none⟩) m lc) lf):=YJ (by rw[←Hm.out];exact HL.out)
   rw[Hm.out]at hpos hle hposI ⊢
   go_wp2
   go_loopw [3,4,5] (fun s3 s4 i wr=>s3= .slice oa outs.length oc∧s4= .slice (some ⟨lb,loff,none⟩) m lc∧∃j:Nat,j≤m∧i= .int .i64 j∧Below wo.heap.size wo wr∧Hid (∀q (hq:q<lf.length),q<j→XU (gE g) (av all) lf lf[q]=false)) (fun _ _ i _=>m-(intOf i).toNat)
   case atStart=>exact⟨rfl,rfl,0,by omega,rfl,brf,YJ (fun q _ h=>by omega)⟩
   case round=>
    obtain⟨rfl,rfl,j,hj,rfl,hbw,Hd⟩:=hrel
    by_cases hjm:j<m
    ·have g1:(j:Int)<(m:Int):=by omega
     have g2:(0:Int)≤(j:Int):=by omega
     have hjl:j<lf.length:=by have:=Hm.out;omega
     have hn:=HI2.out _ (qaB hjl)
     have HNj:=fun h1=>YJ (HN2 j hjl (fun q hq hqj=>Hd.out q hq hqj) h1).out
     have Hst:Hid (XU (gE g) (av all) lf lf[j]=false→∀q (hq:q<lf.length),q<j+1→XU (gE g) (av all) lf lf[q]=false):=YJ (fun h q hq hqj=>by
      by_cases e:q=j
      ·subst e;exact h
      ·exact Hd.out q hq (by omega))
     have HX0:=YJ (HX.out j hjl)
     have HTj:=fun k h=>YJ (HTk lf lf[j] k h).out
     have HT0:Hid (WJ (gE g) (av all) (lf.take 0) lf[j]=[]):=YJ (by simp[WJ])
     have HTm:Hid (lf.take m=lf):=YJ (by rw[←Hm.out];exact List.take_length)
     have Hpd:Hid (XU (gE g) (av all) lf lf[j]=WP (gE g) lf (WJ (gE g) (av all) lf lf[j])):=YJ rfl
     have HRl:=fun k=>YJ (ZZ (gE g) (av all) (lf.take k) lf[j])
     have HRs:Hid (∀y∈WJ (gE g) (av all) lf lf[j],y∈lf):=YJ (fun y hy=>by unfold WJ at hy;exact(alsm.1 hy).1)
     clear HN2 HS2 Hd HTk
     generalize lf[j]=nj at*
     have HRj:=fun k W' hb=>YJ (HRe nj k hn W' hb).out
     have HRk:=fun k (h:k<lf.length) W' hb=>YJ (HRe lf[k] nj (HI2.out _ (qaB h)) W' hb).out
     obtain⟨wi,rfl⟩:∃wi:World,wi=wr:=⟨_,rfl⟩
     have hbi:=fB hb hbw
     clear HRe
     go_wp2
     go_loopw [6,7] (fun c i wr=>∃k:Nat,k≤m∧i= .int .i64 k∧Below wi.heap.size wi wr∧Hid (wr.ownsRow wi.heap.size 3 1 c (WJ (gE g) (av all) (lf.take k) nj).length ((WJ (gE g) (av all) (lf.take k) nj).map iV))) (fun _ i _=>m-(intOf i).toNat)
     case atStart=>exact⟨0,by omega,rfl,brf,YJ (by rw[HT0.out];exact World.ownsRow_nil _ _ _ _)⟩
     case round=>
      obtain⟨k,hk,rfl,hbk,HC⟩:=hrel
      obtain⟨ca,cc,rfl⟩:=aT HC.out
      have hbik:=fB hbw hbk
      have hbWk:=fB hbi hbk
      by_cases hkm:k<m
      ·have g3:(k:Int)<(m:Int):=by omega
       have g4:(0:Int)≤(k:Int):=by omega
       have hkl:k<lf.length:=by have:=Hm.out;omega
       have e0:=ab hbik HX0.out
       have e1:=ab hbik (HX.out k hkl)
       have z0:=qaC wr _ e0
       simp only at z0
       have HTk2:=YJ (HTj k hkl).out
       have hPl:(WJ (gE g) (av all) (lf.take k) nj).length≤1000:=by have:=(HRl k).out;rw[List.length_take]at this;omega
       have HC1:=fun W' (h':Below W.heap.size W W')=>YJ (HRj lf[k] W' h').out
       have HC2:=fun W' (h':Below W.heap.size W W')=>YJ (HRk k hkl W' h').out
       obtain⟨P2,HP2⟩:∃P2,Hid (WJ (gE g) (av all) (lf.take (k+1)) nj=P2):=⟨_,YJ rfl⟩
       rw[HP2.out]at HTk2
       clear HTj HRk HRj HRl HNj Hst HRs HX
       generalize WJ (gE g) (av all) (lf.take k) nj=P at*
       generalize(TU (gE g) (av all) nj).contains lf[k]=cb1 at*
       generalize(TU (gE g) (av all) lf[k]).contains nj=cb2 at*
       generalize lf[k]=yy at*
       cases cb1 with
       |false=>
        have HS2':P2=P:=by rw[HTk2.out];simp
        clear HC2 HTk2
        go_wp2
        refine wqb ?_
        repeat(first|go_big_quiet_step ((go_at_call 62;exact aE ((HC1 _ (fB hbWk (Ext.below _))).out)))|quiet_step ((go_at_call 62;exact aE ((HC1 _ (fB hbWk (Ext.below _))).out))))
        refine wqn fun u=> ?_
        have hbu:=fB hbk u.below
        have HCu:=YJ (au HC.out u.below)
        go_wp2
        go_roundw
        case rel=>exact⟨k+1,by omega,by go_num,hbu,YJ (by rw[HP2.out,HS2'];exact HCu.out)⟩
        case measure=>first|(simp[intOf];done)|(simp[intOf];omega)
       |true=>
        go_wp2
        apply aj [] [0,1,2,3,4,5,6,7,8,9,10,11,12,13,14,15,16,17,18,19,20] 21 [] [sv _,sv _,sv _,sv _,sv _,sv _,sv _,sv _,sv _,sv _,sv _,sv _,sv _,sv _,sv _,sv _,sv _,sv _,sv _,sv _,sv _] (by kernel_rfl) (by kernel_rfl)
        iterate 9 ((try go_frame);refine wkQ ?_)
        try go_frame
        refine wkV ?_
        apply ex3
        ·intro u K hK
         go_simp
         refine((HC1 _ (fB hbWk u.below)).out).mono ?_
         rintro e w9 ⟨rfl,hb9⟩
         exact hK _ hb9
        rfl
        ((try go_frame);refine wkQ ?_)
        iterate 9 ((try go_frame);refine Ae rfl rfl (by simp) (by simp[Region.wanted,yielded]) ?_;apply ex3;(focus(intro u K hK;go_simp;exact hK _ brf));rfl)
        try go_frame
        refine Ae rfl rfl (by simp) (by simp[Region.wanted,yielded]) ?_
        apply ex3
        ·intro u K hK
         go_simp
         refine((HC2 _ (fB hbWk u.below)).out).mono ?_
         rintro e w9 ⟨rfl,hb9⟩
         exact hK _ hb9
        rfl
        try go_frame
        refine aI (fun u hR=> ?_)
        have hbu:=fB hbk u.below
        have HCu:Hid (u.val.ownsRow wi.heap.size 3 1 (.slice ca P.length cc) P.length (P.map iV)):=YJ (au HC.out u.below)
        have f1:=ab u.below e1
        have z3:=qaC u.val _ f1
        simp only at z3
        clear hR HC1 HC2 HC e0 e1 z0
        generalize u.val=w5 at*
        clear u
        simp only[oas]
        go_wp2
        refine NoPanic.normal ?_
        cases cb2 with
        |false=>
         have HS2':P2=P:=by rw[HTk2.out];simp
         go_wp2
         go_roundw
         case rel=>exact⟨k+1,by omega,by go_num,hbu,YJ (by rw[HP2.out,HS2'];exact HCu.out)⟩
         case measure=>first|(simp[intOf];done)|(simp[intOf];omega)
        |true=>
         have HS2':P2=P++[yy]:=by rw[HTk2.out];simp
         clear HTk2
         go_wp2_with (at_builtin;refine wpList_append_own _ rfl _ _ 49 rfl wi.heap.size 3 i0 (.int .i64 0) 1 8 Io Hi0.out.1 Hi0.out.2.1 Hi0.out.2.2.1 Hi0.out.2.2.2 rfl (by decide) _ P.length _ rfl ((HCu).out.alloc _) ⟨_,0,none⟩ 1 1 [.int .i64 yy] rfl rfl ?c1 ?c2 ?c3 ?c4 ?c5 ?_)
         case c1=>
          intro jj uu hu
          rw[jY,aq (by simp) jj]
          simpa using hu
         case c2=>intro v hv;simp at hv;subst hv;rfl
         case c3=>unfold maxLen;omega
         case c4=>omega
         case c5=>simp;have:=(hbu).size;omega
         intro v' w4 hown4 hg4 hu4
         have hb4:Below wi.heap.size wi w4:=((hbu).alloc (hbu).size _).grown hg4 (by simp;have:=(hbu).size;omega) (fun z hz=>by have:=((HCu).out.lt z hz).1;omega)
         have HO4:Hid (w4.ownsRow wi.heap.size 3 1 v' (P2).length ((P2).map iV)):=YJ (by rw[show P2=P++[yy]from HS2',qaE,List.map_append];exact hown4)
         clear hown4 hg4 hu4
         obtain⟨va,vc,rfl⟩:=aT HO4.out
         clear HCu f1 z3
         go_wp2
         go_roundw
         case rel=>exact⟨k+1,by omega,by go_num,hb4,YJ (by rw[HP2.out];exact HO4.out)⟩
         case measure=>first|(simp[intOf];done)|(simp[intOf];omega)
      ·obtain rfl:k=m:=by omega
       rw[HTm.out]at HC ⊢
       have hcl:(WJ (gE g) (av all) lf nj).length≤12:=by have:=(HRl k).out;rw[HTm.out]at this;omega
       have hsl:outs.length+k≤12:=by have:=Hm.out;omega
       clear HTj HRk HRj HRl HX HX0 HT0 HTm HL
       generalize WJ (gE g) (av all) lf nj=cl at*
       have HCn:Hid (OwnI wi.heap.size wr (.slice ca cl.length cc) cl):=HC
       have HLr:=YJ (HLm.out.below hbik)
       have HM:=YJ (HMo lf cl _ _ wr (by have:=Hm.out;omega) (by omega) (fun y hy=>HI2.out y (HRs.out y hy)) hbWk HLr.out.ints HCn.out.ints).out
       rw[Hpd.out]at Hst HNj
       generalize WP (gE g) lf cl=mb at*
       clear HMo HI2 HRs Hpd HC HLr
       go_wp2_with fail
       refine(HM.out).mono ?_
       rintro e w5 ⟨rfl,hb5⟩
       clear HM
       cases mb with
       |false=>
        have Hs3:=YJ (Hst.out (by trivial))
        clear HNj Hst
        go_wp2
        go_roundw
        case rel=>exact⟨rfl,rfl,j+1,by omega,by go_num,fB hbw (fB hbk hb5),Hs3⟩
        case measure=>first|(simp[intOf];done)|(simp[intOf];omega)
       |true=>
        obtain⟨r,f',hI',hr4,hrf',her,hlr,hcls⟩:=(HNj (by trivial)).out
        have hbo5:=fB hbik hb5
        have hbW5:=fB hb hbo5
        have HO5:=YJ (au HO.out hbo5)
        have HR5:=YJ (HR.out.imp fun _ _ h=>OwnI.below h hbo5)
        have HL5:=YJ (HLm.out.below hbo5)
        have HC5:=YJ ((HCn.out.below hb5).mono hbi.size)
        have Hhl:=YJ hlr
        have Hher:=YJ her
        have Hhcls:=YJ hcls
        have HIr:=YJ hI'
        clear HNj Hst HO HR HLm HCn hlr her hcls hI'
        have hbx:Below w5.heap.size w5 (w5.alloc (.cells #[.slice ca cl.length cc] 49)):=bel
        have HOx:=YJ (au (HO5).out hbx)
        have HNx:Hid ((w5.alloc (.cells #[.slice ca cl.length cc] 49)).heap[w5.heap.size]? =some (.cells #[.slice ca cl.length cc] 49 (0,0))):=YJ (ai rfl)
        have HRx:=YJ (RowsP.snoc ((HR5).out.imp fun _ _ h=>h.below hbx) ((HC5).out.below hbx))
        have zw1:=(hbW5).size
        go_wp2_with (at_builtin;refine fq _ rfl _ _ 37 rfl W.heap.size 49 i1 (.slice none 0 0) 1 24 VY Hi1.out.1 Hi1.out.2.1 Hi1.out.2.2.1 Hi1.out.2.2.2 rfl (by decide) _ outs.length vs rfl HOx.out ⟨w5.heap.size,0,none⟩ 1 1 [.slice ca cl.length cc] rfl rfl ?c1 ?c2 ?c3 ?c4 ?c5 ?_)
        case c1=>
         intro j u hu
         rw[jY,ag HNx.out]
         simpa using hu
        case c2=>
         intro u hu
         simp at hu
         subst hu
         rfl
        case c3=>unfold maxLen;omega
        case c4=>omega
        case c5=>simp;omega
        intro v' w4 hown4 hg4 _
        have hb4:Below W.heap.size W w4:=(fB (hbW5) hbx).grown hg4 (by simp;omega) (fun z hz=>(HOx.out.lt z hz).1)
        have HR4:=YJ (HRx.out.imp fun _ _ h=>h.kept (T:=49) (by decide) hg4 (jC HOx.out))
        have HO4:=YJ hown4
        have HL4:=YJ (((HL5).out.below hbx).kept (T:=49) (by decide) hg4 (jC HOx.out))
        have HN4:=YJ (((HC5).out.below hbx).kept (T:=49) (by decide) hg4 (jC HOx.out))
        clear hown4 hg4 HOx HNx HRx hbx
        have HW4:=YJ (qau (by have:=Hm.out;omega) (by omega) (OwnI.ints HL4.out) (OwnI.ints HN4.out))
        clear HO5 HR5 HL5 HC5 HL4 HN4
        rw[←Hher.out]at HW4
        go_wp2_with fail
        refine(HW4.out).mono ?_
        rintro e w6 ⟨v6,rfl,hb6,ho6⟩
        have HL6:=YJ (OwnI.mono ho6 hb4.size)
        have HO6:=YJ (au HO4.out hb6)
        have HR6:=YJ (HR4.out.imp fun _ _ h=>OwnI.below h hb6)
        have hlv:slN v6=(av r).length:=by
         have h:=ho6
         unfold OwnI at h
         obtain⟨a,c,rfl⟩:=aT h
         rfl
        have Hlv:=YJ hlv
        have hw6:=fB hb4 hb6
        clear HW4 HO4 HR4 ho6 hlv
        go_wp2
        go_roundw
        case rel=>exact⟨r,f',outs++[cl],_,HIr,hrf',hw6,YJ (by rw[qaE];exact HO6.out),HR6,HL6,YJ (by rw[List.append_assoc,List.singleton_append, ←Hhcls.out];exact HE.out),by have:=Hhl.out;have:=Hm.out;rw[qaE,List.length_singleton];omega⟩
        case measure=>
         have h1:=Hlv.out
         have h2:=Hhl.out
         have h3:=Hm.out
         show slN v6<k
         rw[h1]
         omega
    ·exfalso
     obtain rfl:j=m:=by omega
     exact(HS2.out (fun q hq=>Hd.out q hq (by have:=Hm.out;omega))).out
  ·have he:av rest=[]:=List.eq_nil_of_length_eq_zero (by omega)
   have h0:¬(0:Int)<((av rest).length:Int):=by omega
   have hfin:outs=RES:=by
    have:=HE.out
    rwa [he,(HNil f).out,List.append_nil]at this
   clear HE HNx HSm HIn HLe HTk HRe HMo HNil HL
   obtain⟨ln,Hln⟩:∃ln,Hid ((av rest).length=ln):=⟨_,YJ rfl⟩
   rw[Hln.out]at h0 hpos ⊢
   subst hfin
   go_wp2
   go_ret
   exact⟨_,rfl,hb,vs,HO.out,HR.out⟩
theorem qao:∀args w,(callFunc 59 args).run Tryz.prog w= .ok (.enter 59 args) w:=enters_of Tryz.func59 (by kernel_rfl) rfl
def qaf (G:List Nat) (rest own:Nat) (x:Int):Bool:=car G rest x.toNat !=own
theorem qap {G:List Nat} {rest own:Nat}:(nI (av own)).any (qaf G rest own)=(av own).any fun k=>car G rest k !=own:=by
 unfold nI
 rw[List.any_map]
 rfl
theorem qac (G:List Nat) (x rest own gb cap b1 b2 b3:Nat) (W:World) (hG:∀x∈G,x<4096) (hm:G.length≤12) (hn:x<G.length) (hg:rest<2 ^ G.length) (hcap:G.length≤cap) (hat:GphAt W gb G) (hT:TabAt 1 Lib.deBruijn64tab W)
  (h1:W.heap[b1]? =some (.cells #[.slice (some ⟨gb,0,none⟩) G.length cap] 95 (0,0))) (h2:W.heap[b2]? =some (.cells #[.int .u64 rest] 98 (0,0))) (h3:W.heap[b3]? =some (.cells #[.int .u64 own] 98 (0,0))):
  Calls Tryz.prog 59 #[.int .i64 x, .pointer (some ⟨b1,0,none⟩), .pointer (some ⟨b2,0,none⟩), .pointer (some ⟨b3,0,none⟩)] W (Ret W (.bool (qaf G rest own x))):=by
 have HC:=fun W' (hb:Below W.heap.size W W')=>YJ (Ff G x rest gb cap W' hG hm hn hg hcap (hat.below hb) (ma hT hb))
 obtain⟨b,hb⟩:∃b,Hid (((car G rest x:Int)!=(own:Int))=b):=⟨_,YJ rfl⟩
 have hr:qaf G rest own x=b:=by
  rw[←hb.out]
  unfold qaf
  rw[Int.toNat_natCast,Bool.eq_iff_iff,bne_iff_ne,bne_iff_ne,ne_eq,ne_eq,Int.natCast_inj]
 rw[hr]
 have c1:=(ag h1 0).trans rfl
 have c2:=(ag h2 0).trans rfl
 have c3:=(ag h3 0).trans rfl
 have z1:=ah h1
 have z2:=ah h2
 have z3:=ah h3
 have hbb:=hb.out
 generalize car G rest x=cv at*
 clear hG hat hT h1 h2 h3 hb hr
 go_enter Tryz.func59,Tryz.ntmps59
 go_wp2
 refine wqb ?_
 repeat(first|go_big_quiet_step ((go_at_call 57;exact aE ((HC _ (Ext.below _)).out)))|quiet_step ((go_at_call 57;exact aE ((HC _ (Ext.below _)).out))))
 refine wqn fun u=> ?_
 have hbu:=u.below
 go_wp2
 go_ret
 exact⟨by first|rfl|trivial,hbu⟩
def qad (w:World):Value→Nat
 | .pointer (some ad)=>match w.cell? ad with
  |some (.int _ n)=>n.toNat
  |_=>0
 |_=>0
def qax (l:List (List (List Q4))) (w:Q3) (W:World) (e:Ending) (w':World):Prop:=Below W.heap.size W w'∧
 ((gwE l w≠0∧e= .returned (.tuple #[.slice none 0 0, .int .i64 (gwE l w)]))∨(gwE l w=0∧∃v,e= .returned (.tuple #[v, .int .i64 0])∧OwnG W.heap.size w' v ((ZU (eM (psB l) w) 4096 (2 ^ l.length-1)).map av)))
theorem qai {G:List Nat} {f rest:Nat} (hr:rest<4096) (h0:rest≠0) (hf:rest≤f) (i:Nat) (hi:i<(av rest).length) (hb:∀j (hj:j<(av rest).length),j<i→okC G rest (av rest)[j]=false) (ho:okC G rest (av rest)[i]=true):
  ∃f',dN rest (car G rest (av rest)[i])<rest∧dN rest (car G rest (av rest)[i])≤f'∧ZU G f rest=car G rest (av rest)[i]::ZU G f' (dN rest (car G rest (av rest)[i])):=by
 have hn:=(Tz hr).1 (qaB hi)
 have hd:=Ye (p:=okC G rest) _ i hi hb ho
 have hc:=VK G rest (av rest)[i] hr (rr hr hn) (av rest)[i]
 have hdec:dN rest (car G rest (av rest)[i])<rest:=YC hn (hc.2 .base)
 obtain⟨f',rfl⟩:∃f',f=f'+1:=⟨f-1,by omega⟩
 refine⟨f',hdec,by omega, ?_⟩
 conv=>lhs;unfold ZU
 rw[hd]
theorem qaj (G:List Nat):∀f,ZU G f 0=[]
 |0=>rfl
 |f+1=>rfl
theorem qaq {G:List Nat} {rest:Nat} (hr:rest<4096) (h0:rest≠0) (hb:∀j (hj:j<(av rest).length),okC G rest (av rest)[j]=false):False:=by
 obtain⟨n,hn⟩:=Yr (G:=G) hr h0
 have hm:=List.mem_of_find?_eq_some hn
 have hp:=List.find?_some hn
 obtain⟨j,hj,rfl⟩:=qaJ hm
 rw[hb j hj]at hp
 cases hp
theorem qar {G:List Nat} {rest n:Nat}:(nI (av (car G rest n))).any (qaf G rest (car G rest n))= !okC G rest n:=by
 rw[qap]
 unfold okC
 induction av (car G rest n)with
 |nil=>rfl
 |cons a l ih=>
  rw[List.any_cons,List.all_cons,ih]
  cases h:(car G rest a==car G rest n)<;>simp[bne,h]
theorem qas {G:List Nat} {rest n m:Nat} (hr:rest<4096) (hn:rest.testBit n=true) (h:m∈av (car G rest n)):m∈av rest:=by
 have hn12:=rr hr hn
 exact(Tz hr).2 (Rch.inG (g:=fun k=>rest.testBit k=true) hn ((VK G rest n hr hn12 m).1 ((Tz (Me G rest n hr hn12)).1 h)))
theorem ZY (l:List (List (List Q4))) (lv:Value) (x y z:Int) (W:World) (hL:∀s∈l,∀c∈s,c.length≤1000000) (h:SolsV W lv l) (hT:TabAt 1 Lib.deBruijn64tab W):
  Calls Tryz.prog 18 #[lv,V3 x y z] W (qax l (x,y,z) W):=by
 obtain⟨i1,hj0,hy0,hy1,hy2⟩:=info_parts VX
 have Hi1:=YJ (And.intro hj0 (And.intro hy0 (And.intro hy1 hy2)))
 clear hj0 hy0 hy1 hy2
 have HCk:=fun W' (h':Below W.heap.size W W')=>YJ (Gd l lv W' hL (SolsV.below h h'))
 have HCW:=fun W'=>YJ (Ru x y z W')
 have HSc:=fun(h0:eB l=0) W' (h':Below W.heap.size W W')=>YJ (XO W' h0 (SolsV.below h h'))
 have HGr:=fun(h0:eB l=0) (h1:mK (x,y,z)=0) sb mb pv X W' hmb hXW k1 k2 hne k3=>YJ (Ya (l:=l) h0 h1 sb mb pv X W' hmb hXW k1 k2 hne k3)
 have HAl:=fun(h0:eB l=0) sb mb pv W' k1 k3=>YJ (show Calls Tryz.prog 56 #[.pointer (some ⟨sb,0,none⟩)] W' (fun e w'=>e= .returned (.int .u64 ((2 ^ l.length-1:Nat):Int))∧w'=W')from by have:=XS (psB l) sb mb pv W' (by rw[WM];exact(sq h0).1) k1 k3;rwa [WM]at this)
 have HTb:=fun W' (hb:Below W.heap.size W W')=>YJ (ma hT hb)
 have Hlt:=fun(h0:eB l=0)=>YJ (XZ h0 (x,y,z))
 have Hl12:=fun(h0:eB l=0)=>YJ (show(eM (psB l) (x,y,z)).length≤12∧(eM (psB l) (x,y,z)).length=l.length from by rw[WK];exact⟨(sq h0).1,rfl⟩)
 have He1:Hid (eB l≠0→gwE l (x,y,z)=eB l):=YJ (fun h=>by unfold gwE;rw[if_neg h])
 have He2:Hid (eB l=0→gwE l (x,y,z)=mK (x,y,z)):=YJ (fun h=>by unfold gwE;rw[if_pos h])
 obtain⟨G,HG⟩:∃G,Hid (eM (psB l) (x,y,z)=G):=⟨_,YJ rfl⟩
 obtain⟨RES,HRES⟩:∃RES,Hid ((ZU (eM (psB l) (x,y,z)) 4096 (2 ^ l.length-1)).map av=RES):=⟨_,YJ rfl⟩
 have Hpost:Hid (∀e w',(Below W.heap.size W w'∧((gwE l (x,y,z)≠0∧e= .returned (.tuple #[.slice none 0 0, .int .i64 (gwE l (x,y,z))]))∨(gwE l (x,y,z)=0∧∃v,e= .returned (.tuple #[v, .int .i64 0])∧OwnG W.heap.size w' v RES)))→qax l (x,y,z) W e w'):=YJ (fun e w' h=>by rw[←HRES.out]at h;exact h)
 rw[HG.out]at Hl12 Hlt HGr HRES
 refine Calls.mono ?_ Hpost.out
 have HlV:Hid (∃a n c,lv= .slice a n c):=YJ (by obtain⟨a,n,c,rfl,_⟩:=h;exact⟨a,n,c,rfl⟩)
 obtain⟨la,ln,lc,rfl⟩:=HlV.out
 clear h hL HlV hT HG Hpost
 generalize l.length=ll at*
 obtain⟨AL,HALe⟩:∃AL:Nat,Hid (2 ^ ll-1=AL):=⟨_,YJ rfl⟩
 rw[HALe.out]at HAl HRES
 generalize eB l=A at*
 generalize mK (x,y,z)=E at*
 generalize gwE l (x,y,z)=R at*
 go_enter Tryz.func18,Tryz.ntmps18
 go_wp2_with fail
 refine((HCk _ bel).out).mono ?_
 rintro e w1 ⟨rfl,hb1⟩
 have hw1:Below W.heap.size W w1:=fB bel hb1
 have HB1:Hid (w1.heap[W.heap.size]? =some (.cells #[.int .i64 x, .int .i64 y, .int .i64 z] 36 (0,0))):=YJ ((hb1.block _ (by simp)).trans (ai rfl))
 clear HCk hb1
 by_cases hA:A=0
 ·subst hA
  have hRE:=He2.out (by trivial)
  subst hRE
  have HSc':=fun W' h'=>YJ (HSc (by trivial) W' h').out
  have HGr2:=fun h1 sb mb pv X W' a b c d e f=>YJ (HGr (by trivial) h1 sb mb pv X W' a b c d e f).out
  have HAl':=fun sb mb pv W' k1 k3=>YJ (HAl (by trivial) sb mb pv W' k1 k3).out
  have Hlt':=YJ (Hlt (by trivial)).out
  obtain⟨hl12,hlen⟩:=(Hl12 (by trivial)).out
  obtain⟨x0,x1,x2,xf,xz⟩:=NO HB1.out
  clear HSc HGr HAl Hlt Hl12 He1 He2
  go_wp2_with fail
  refine((HCW _).out).mono ?_
  rintro e w2 ⟨rfl,hb2⟩
  have hw2:=fB hw1 hb2
  have HB2:=YJ ((hb2.block _ (ah HB1.out)).trans HB1.out)
  clear HCW x0 x1 x2 xf xz hb2 HB1
  by_cases hE:R=0
  ·subst hE
   have HGr3:=fun sb mb pv X W' a b c d e f=>YJ (HGr2 (by trivial) sb mb pv X W' a b c d e f).out
   clear HGr2
   go_wp2_with fail
   refine((HSc' _ hw2).out).mono ?_
   rintro e w4 ⟨sb,mm,pv,rfl,hb4,hS4,hM4,hmb4,hsb4,hne4,hP4⟩
   have HB4:=YJ ((hb4.block _ (ah HB2.out)).trans HB2.out)
   obtain⟨x0,x1,x2,xf,xz⟩:=NO HB4.out
   have HG5:=YJ (HGr3 sb mm pv w2 w4 hmb4 hb4 hS4 hM4 hne4 hP4).out
   obtain⟨gl,Hgl⟩:∃gl,Hid (G.length=gl):=⟨_,YJ rfl⟩
   have HSG:=fun e w' (h:SGr l sb G w4 e w')=>YJ (show ∃g mb pv,e= .returned (.slice (some ⟨g,0,none⟩) gl gl)∧CK w4 w'∧GphAt w' g G∧w'.heap[sb]? =some (.cells #[pv, .map (some mb)] 171 (0,0))∧PtsV w' pv (psB l)from by rw[←Hgl.out];exact h)
   clear HSc' HGr3 hS4 hM4 hP4 HB2
   go_wp2_with fail
   refine(HG5.out).mono ?_
   rintro e w5 ⟨hsg,hb25⟩
   obtain⟨g,mm5,pv5,rfl, -,hG5,hS5,hP5⟩:=(HSG e w5 hsg).out
   have hw5:=fB hw2 hb25
   obtain⟨Z,HZ⟩:∃Z,Hid (w5.alloc (.cells #[.slice (some ⟨g,0,none⟩) gl gl] 95)=Z):=⟨_,YJ rfl⟩
   have hbZ:Below w5.heap.size w5 Z:=by rw[←HZ.out];exact bel
   have hwZ:=fB hw5 hbZ
   have HGb:Hid (Z.heap[w5.heap.size]? =some (.cells #[.slice (some ⟨g,0,none⟩) gl gl] 95 (0,0))):=YJ (by rw[←HZ.out];exact ai rfl)
   have HGZ:=YJ (hG5.below hbZ)
   have HAlZ:=YJ (HAl' sb mm5 pv5 Z ((hbZ.block _ (ah hS5)).trans hS5) (PtsV.below hP5 hbZ)).out
   clear HG5 hsg HSG HAl' hG5 hS5 hP5 x0 x1 x2 xf xz HB4
   go_wp2_with fail
   try rw[HZ.out]
   refine(HAlZ.out).mono ?_
   rintro e Z ⟨rfl,rfl⟩
   have hgl:gl≤12:=by rw[←Hgl.out];exact hl12
   have hAL:AL<2 ^ gl:=by rw[←HALe.out, ←Hgl.out,hlen];have:=Nat.two_pow_pos ll;omega
   have hgp:2 ^ gl≤4096:=Nat.pow_le_pow_right (n:=2) (by decide) hgl
   have HLs:=fun(s:Nat) (W':World) (hs:s<4096) (hb:Below Z.heap.size Z W')=>YJ (ES s W' hs (HTb W' (fB hwZ hb)).out)
   have HCr:=fun(n rest:Nat) (W':World) (hn:n<gl) (hr:rest<2 ^ gl) (hb:Below Z.heap.size Z W')=>YJ (show Calls Tryz.prog 57 #[.slice (some ⟨g,0,none⟩) gl gl, .int .i64 n, .int .u64 rest] W' (Ret W' (.int .u64 (car G rest n)))from by
    have:=Ff G n rest g gl W' Hlt'.out hl12 (by rw[Hgl.out];exact hn) (by rw[Hgl.out];exact hr) (by rw[Hgl.out];exact qaA _) (HGZ.out.below hb) (HTb W' (fB hwZ hb)).out
    rwa [Hgl.out]at this)
   have HCl:=fun(x rest own b2 b3:Nat) (W':World) (hn:x<gl) (hr:rest<2 ^ gl) (hb:Below Z.heap.size Z W') (h2:W'.heap[b2]? =some (.cells #[.int .u64 rest] 98 (0,0))) (h3:W'.heap[b3]? =some (.cells #[.int .u64 own] 98 (0,0)))=>YJ (show Calls Tryz.prog 59 #[.int .i64 x, .pointer (some ⟨w5.heap.size,0,none⟩), .pointer (some ⟨b2,0,none⟩), .pointer (some ⟨b3,0,none⟩)] W' (Ret W' (.bool (qaf G rest own x)))from by
    have k1:W'.heap[w5.heap.size]? =some (.cells #[.slice (some ⟨g,0,none⟩) G.length gl] 95 (0,0)):=by rw[Hgl.out];exact(hb.block _ (ah HGb.out)).trans HGb.out
    exact qac G x rest own g gl w5.heap.size b2 b3 W' Hlt'.out hl12 (by rw[Hgl.out];exact hn) (by rw[Hgl.out];exact hr) (by rw[Hgl.out];exact qaA _) (HGZ.out.below hb) (HTb W' (fB hwZ hb)).out k1 h2 h3)
   have zZ:=hwZ.size
   clear HAlZ HTb Hlt' HGZ HALe
   go_wp2
   go_loopw [10,11] (fun s b wr=>∃(rest f:Nat) (outs:List (List Nat)) (vs:List Value) (bk:Nat),b= .pointer (some ⟨bk,0,none⟩)∧Hid (wr.heap[bk]? =some (.cells #[.int .u64 rest] 98 (0,0)))∧Z.heap.size≤bk∧rest<2 ^ gl∧rest≤f∧Below Z.heap.size Z wr∧Hid (wr.ownsRow Z.heap.size 49 1 s outs.length vs)∧Hid (RowsP (OwnI Z.heap.size wr) vs outs)∧Hid (outs++(ZU G f rest).map av=RES)∧outs.length+rest≤5000) (fun _ b w=>qad w b)
   case atStart=>exact⟨AL,4096,[],[],Z.heap.size,rfl,YJ (ai rfl),qaA _,hAL,by omega,bel,YJ (World.ownsRow_nil _ _ _ _),YJ RowsP.nil,YJ (by rw[List.nil_append];exact HRES.out),by simp;omega⟩
   case round=>
    clear HRES
    obtain⟨rest,f,outs,vs,bk,rfl,HK,hbk,hrest,hrf,hb,HO,HR,HE,hsum⟩:=hrel
    have k0:wr.cell? ⟨bk,0,none⟩=some (.int .u64 rest):=(ag HK.out 0).trans rfl
    have kz:=ah HK.out
    obtain⟨oa,oc,rfl⟩:=aT HO.out
    by_cases h0:rest=0
    ·have h0':((rest:Int)!=0)=false:=by simpa using h0
     have hfin:outs=RES:=by
      have:=HE.out
      rwa [h0,qaj,List.map_nil,List.append_nil]at this
     subst hfin
     clear HLs HCr HCl HE
     go_wp2
     go_ret2
     exact⟨fB hwZ hb,_,rfl,vs,AY HO.out zZ,RowsP.imp (fun _ _ h=>OwnI.mono h zZ) HR.out⟩
    ·have h0':((rest:Int)!=0)=true:=by simpa using h0
     have hr4:rest<4096:=by omega
     have HL6:=YJ (HLs rest wr hr4 hb).out
     have HSt:=fun i hi hb ho=>YJ (qai (G:=G) hr4 h0 hrf i hi hb ho)
     have HNo:=YJ (fun hb=>qaq (G:=G) hr4 h0 hb)
     have HSub:=fun n (hn:n∈av rest)=>YJ (fun m (hm:m∈av (car G rest n))=>qas hr4 ((Tz hr4).1 hn) hm)
     have HCl4:=fun n (hn:n∈av rest)=>YJ (Me G rest n hr4 (rr hr4 ((Tz hr4).1 hn)))
     have HIn:=YJ (fun k (hk:k∈av rest)=>Cz gl rest rest hr4 hrest k hk)
     have hle:(av rest).length≤12:=by rw[TS rest hr4];exact qaD (List.length_filter_le _ _) (by simp)
     generalize av rest=L at*
     unfold ME at HL6
     obtain⟨wq,rfl⟩:∃wq:World,wq=wr:=⟨_,rfl⟩
     go_wp2_with fail
     refine(HL6.out).mono ?_
     rintro e w6 ⟨lv,rfl,hb6,hown⟩
     obtain⟨va,vc,rfl⟩:=aT hown
     obtain⟨N,HN⟩:∃N,Hid (L.length=N):=⟨_,YJ rfl⟩
     have hRow:=fun(h:0<N)=>(show ∃g cap,va=some ⟨g,0,none⟩∧vc=cap∧N≤cap∧∀i (hi:i<L.length),w6.cell? ⟨g,i,none⟩=some (.int .i64 (L[i]:Nat))from by
      obtain⟨g,cp,e,h1,_,_,h2⟩:=JK hown (by rw[HN.out];exact h)
      injection e with e1 e2 e3
      exact⟨g,cp,e1,e3,by rw[←HN.out];exact h1,h2⟩)
     have HRow:=YJ hRow
     rw[HN.out]at hle ⊢
     clear HL6 hown hRow
     go_wp2
     go_loopw [10,37] (fun s i wr=>s= .slice oa outs.length oc∧∃k:Nat,k≤N∧i= .int .i64 k∧Below w6.heap.size w6 wr∧Hid (∀j (hj:j<L.length),j<k→okC G rest L[j]=false)) (fun _ i _=>N-(intOf i).toNat)
     case atStart=>exact⟨rfl,0,by omega,rfl,brf,YJ (fun j _ h=>by omega)⟩
     case round=>
      obtain⟨rfl,k,hk,rfl,hbw,Hd⟩:=hrel
      by_cases hlt:k<N
      ·have g1:(k:Int)<(N:Int):=by omega
       have g2:(0:Int)≤(k:Int):=by omega
       have hkl:k<L.length:=by have:=HN.out;omega
       obtain⟨lb,cp,rfl,rfl,hcp,hcl⟩:=HRow.out (by omega)
       have c0:=ab hbw (hcl k hkl)
       have z0:=qaC wr _ c0
       simp only at z0
       have hin:=HIn.out _ (qaB hkl)
       have HSk:=fun ho=>YJ (HSt k hkl (fun j hj hjk=>Hd.out j hj hjk) ho).out
       have Hst:Hid (okC G rest L[k]=false→∀j (hj:j<L.length),j<k+1→okC G rest L[j]=false):=YJ (fun h j hj hjk=>by
        by_cases e:j=k
        ·subst e;exact h
        ·exact Hd.out j hj (by omega))
       have HSm:=YJ (fun(m:Nat) (hm:m∈av (car G rest L[k]))=>HIn.out m ((HSub L[k] (qaB hkl)).out m hm))
       have how4:=(HCl4 L[k] (qaB hkl)).out
       have Hany:=YJ (@qar G rest L[k])
       clear HRow hcl HSt HNo HIn Hd HSub HCl4
       generalize L[k]=n at*
       have hb6w:=fB hb6 hbw
       have hZr:=fB hb hb6w
       have HKr:=YJ ((hb6w.block _ kz).trans HK.out)
       have HGr:=YJ ((hZr.block _ (ah HGb.out)).trans HGb.out)
       have r0:wr.cell? ⟨bk,0,none⟩=some (.int .u64 rest):=(ag HKr.out 0).trans rfl
       have rz:=ah HKr.out
       have gb0:wr.cell? ⟨w5.heap.size,0,none⟩=some (.slice (some ⟨g,0,none⟩) gl gl):=(ag HGr.out 0).trans rfl
       have gbz:=ah HGr.out
       have HC:=YJ (HCr n rest wr hin hrest hZr).out
       generalize car G rest n=ow at*
       go_wp2_with fail
       refine(HC.out).mono ?_
       rintro e w7 ⟨rfl,hb7⟩
       have hZ7:=fB hZr hb7
       obtain⟨Y,HY⟩:∃Y,Hid (w7.alloc (.cells #[.int .u64 ow] 98)=Y):=⟨_,YJ rfl⟩
       have hb7Y:Below w7.heap.size w7 Y:=by rw[←HY.out];exact bel
       have HOY:Hid (Y.heap[w7.heap.size]? =some (.cells #[.int .u64 ow] 98 (0,0))):=YJ (by rw[←HY.out];exact ai rfl)
       have hZY:=fB hZ7 hb7Y
       have HLo:=YJ (HLs ow Y how4 hZY).out
       unfold ME at HLo
       clear HC r0 rz gb0 gbz c0 z0
       go_wp2_with fail
       try rw[HY.out]
       refine(HLo.out).mono ?_
       rintro e w8 ⟨lo,rfl,hb8,hown8⟩
       have hZ8:=fB hZY hb8
       have hwr8:=fB hb7 (fB hb7Y hb8)
       have HO8:=YJ ((hb8.block _ (ah HOY.out)).trans HOY.out)
       have HK8:=YJ ((hwr8.block _ (ah HKr.out)).trans HKr.out)
       have hI8:=Vb hown8
       have HCf:=YJ (jV lo (nI (av ow)) (qaf G rest ow) 59 #[.pointer (some ⟨w5.heap.size,0,none⟩), .pointer (some ⟨bk,0,none⟩), .pointer (some ⟨w7.heap.size,0,none⟩)] w8 hI8 (by rw[TO];exact qaD (BS ow ow) (by omega)) qao (fun x hx w' hb'=>by
        obtain⟨m,hm,rfl⟩:=List.mem_map.1 hx
        exact(HCl m rest ow bk w7.heap.size w' (HSm.out m hm) hrest (fB hZ8 hb') ((hb'.block _ (ah HK8.out)).trans HK8.out) ((hb'.block _ (ah HO8.out)).trans HO8.out)).out))
       rw[Hany.out]at HCf
       obtain⟨loa,loc,rfl⟩:=aT hown8
       generalize(av ow).length=ol at*
       clear HLo HCr HCl hown8 hI8 HOY HY Hany HSm
       generalize okC G rest n=ok at*
       go_wp2_with fail
       refine(HCf.out).mono ?_
       rintro e w9 ⟨rfl,hb9⟩
       have hwr9:=fB hwr8 hb9
       have hZ9:=fB hZ8 hb9
       clear HCf
       cases ok with
       |false=>
        have Hs3:=YJ (Hst.out (by trivial))
        clear HSk Hst
        go_wp2
        go_roundw
        case rel=>exact⟨rfl,k+1,by omega,by go_num,fB hbw hwr9,Hs3⟩
        case measure=>first|(simp[intOf];done)|(simp[intOf];omega)
       |true=>
        obtain⟨f',hdec,hfl,hcls⟩:=(HSk (by trivial)).out
        have Hcls:=YJ hcls
        have hq9:=fB hb6w hwr9
        have HO9:=YJ ((hb9.block _ (ah HO8.out)).trans HO8.out)
        have HK9:=YJ ((hb9.block _ (ah HK8.out)).trans HK8.out)
        have HU9:=YJ (au HO.out hq9)
        have HR9:=YJ (RowsP.imp (fun _ _ h=>OwnI.below h hq9) HR.out)
        have HL9:=YJ (HLs ow w9 how4 hZ9).out
        unfold ME at HL9
        have o0:w9.cell? ⟨w7.heap.size,0,none⟩=some (.int .u64 ow):=(ag HO9.out 0).trans rfl
        have oz:=ah HO9.out
        clear HSk Hst HLs HO8 HK8 HO HR hcls
        go_wp2_with fail
        refine(HL9.out).mono ?_
        rintro e w10 ⟨lv2,rfl,hb10,hown10⟩
        obtain⟨l2a,l2c,rfl⟩:=aT hown10
        have hZ10:=fB hZ9 hb10
        have HN10:=YJ (show OwnI Z.heap.size w10 (.slice l2a (av ow).length l2c) (av ow)from AY hown10 hZ9.size)
        obtain⟨X,HX⟩:∃X,Hid (w10.alloc (.cells #[.slice l2a (av ow).length l2c] 49)=X):=⟨_,YJ rfl⟩
        have hbx:Below w10.heap.size w10 X:=by rw[←HX.out];exact bel
        have hb9X:=fB hb10 hbx
        have HNx:Hid (X.heap[w10.heap.size]? =some (.cells #[.slice l2a (av ow).length l2c] 49 (0,0))):=YJ (by rw[←HX.out];exact ai rfl)
        have HUx:=YJ (au HU9.out hb9X)
        have HRx:=YJ (RowsP.snoc (RowsP.imp (fun _ _ h=>OwnI.below h hb9X) HR9.out) (HN10.out.below hbx))
        have HOx:=YJ ((hb9X.block _ (ah HO9.out)).trans HO9.out)
        have HKx:=YJ ((hb9X.block _ (ah HK9.out)).trans HK9.out)
        have hZX:=fB hZ10 hbx
        have zX:=hZX.size
        clear HL9 hown10 o0 oz HN10 HU9 HR9 HO9 HK9
        generalize(av ow).length=ol2 at*
        go_wp2_with (at_builtin;(try rw[HX.out]);refine fq _ rfl _ _ 37 rfl Z.heap.size 49 i1 (.slice none 0 0) 1 24 VY Hi1.out.1 Hi1.out.2.1 Hi1.out.2.2.1 Hi1.out.2.2.2 rfl (by decide) _ outs.length vs rfl HUx.out ⟨w10.heap.size,0,none⟩ 1 1 [.slice l2a ol2 l2c] rfl rfl ?c1 ?c2 ?c3 ?c4 ?c5 ?_)
        case c1=>
         intro jj u hu
         rw[jY,ag HNx.out]
         simpa using hu
        case c2=>
         intro u hu
         simp at hu
         subst hu
         rfl
        case c3=>unfold maxLen;omega
        case c4=>omega
        case c5=>have:=hZ10.size;omega
        intro v' w4 hown4 hg4 _
        have hb4:Below Z.heap.size Z w4:=hZX.grown hg4 zX (fun z hz=>(HUx.out.lt z hz).1)
        have HR4:=YJ (RowsP.imp (fun _ _ h=>OwnI.kept (T:=49) (by decide) h hg4 (jC HUx.out)) HRx.out)
        have HK4:=YJ ((hg4.block _ (ah HKx.out) (fun e=>aG HUx.out HKx.out (by decide) e.symm)).trans HKx.out)
        have HO4:=YJ ((hg4.block _ (ah HOx.out) (fun e=>aG HUx.out HOx.out (by decide) e.symm)).trans HOx.out)
        have HU4:=YJ hown4
        have z4:=hb4.size
        clear hown4 hg4 HUx HRx HKx HOx HNx HX hbx
        have e1:=CT rest ow (by omega) (by omega)
        have k4:w4.cell? ⟨bk,0,none⟩=some (.int .u64 rest):=(ag HK4.out 0).trans rfl
        have kz4:=ah HK4.out
        have kf4:=aC HK4.out
        have o4:w4.cell? ⟨w7.heap.size,0,none⟩=some (.int .u64 ow):=(ag HO4.out 0).trans rfl
        have oz4:=ah HO4.out
        generalize dN rest ow=dd at*
        have hc:((w4.setCell ⟨bk,0,none⟩ (.int .u64 dd)).alloc (.cells #[.int .u64 dd] 98)).cell? ⟨w4.heap.size,0,none⟩=some (.int .u64 dd):=(ag (ai (by simp)) 0).trans rfl
        have Hm1:Hid (qad wq (.pointer (some ⟨bk,0,none⟩))=rest):=YJ (by simp[qad,k0])
        have Hm2:Hid (qad ((w4.setCell ⟨bk,0,none⟩ (.int .u64 dd)).alloc (.cells #[.int .u64 dd] 98)) (.pointer (some ⟨w4.heap.size,0,none⟩))=dd):=YJ (by simp[qad,hc])
        clear hc
        go_wp2
        go_roundw
        case rel=>exact⟨dd,f',outs++[av ow],_,w4.heap.size,rfl,YJ (ai (by simp)),by omega,by omega,hfl,(hb4.setCell (p:=⟨bk,0,none⟩) hbk _).alloc (by simp;omega) _,YJ (by rw[qaE];exact(PR HU4.out HK4.out (by decide)).alloc _),YJ (RowsP.imp (fun _ _ h=>World.ownsRow.alloc (PR h HK4.out (by decide)) _) HR4.out),YJ (by rw[List.append_assoc,List.singleton_append, ←List.map_cons, ←Hcls.out];exact HE.out),by rw[qaE,List.length_singleton];omega⟩
        case measure=>
         rw[Hm1.out]
         first|(rw[Hm2.out];omega)|(have:=Hm2.out;simp at this ⊢;omega)
      ·exfalso
       obtain rfl:k=N:=by omega
       exact HNo.out (fun j hj=>Hd.out j hj (by have:=HN.out;omega))
  ·have hE':(R !=0)=true:=by simpa using hE
   clear HSc' HGr2 HAl'
   go_wp2
   go_ret2
   exact⟨hw2, .inl ⟨hE,rfl⟩⟩
 ·have hA':(A !=0)=true:=by simpa using hA
  have hf:=He1.out hA
  subst hf
  clear HSc HGr HAl HCW He1 He2
  go_wp2
  go_ret2
  exact⟨hw1, .inl ⟨hA,rfl⟩⟩
theorem qay {l:List (List (List Q4))} {w:Q3} (h:eB l=0) (hw:w≠(0,0,0)):(eM (psB l) w).map av=TF l w:=by
 unfold TF
 refine List.ext_getElem (by rw[List.length_map,List.length_map,WK,List.length_range]) fun i h1 h2=> ?_
 rw[List.getElem_map,List.getElem_map,List.getElem_range]
 have hi:i<l.length:=by simpa using h2
 have:=qak h hw hi
 rw[←this]
 congr 1
 have h3:i<(eM (psB l) w).length:=by rw[WK];exact hi
 show(eM (psB l) w)[i]=(eM (psB l) w).getD i 0
 simp[List.getD,h3]
theorem qat {l:List (List (List Q4))} {w:Q3} (h:eB l=0) (hw:w≠(0,0,0)):(ZU (eM (psB l) w) 4096 (2 ^ l.length-1)).map av=Yw (gE (TF l w)) (List.range l.length) 4096 (List.range l.length):=by
 have h12:=(sq h).1
 rw[WF, ←WT h12]
 exact qal (Wz h hw) (WQ h12) 4096 _ (WQ h12) (fun _ h=>h) (fun _ _ h1 h2=>absurd h1 h2)
theorem qag {E:Nat→Nat→Bool} {A:List Nat}:∀f left,(Yw E A f left).length≤f∧∀r∈Yw E A f left,r.length≤left.length
 |0,left=>⟨qaA _,fun r hr=>by cases hr⟩
 |f+1,left=>by
  unfold Yw
  cases left.find? (fun n=>WP E left (WJ E A left n))with
  |none=>exact⟨by simp,fun r hr=>by cases hr⟩
  |some n=>
   have h:=qag (E:=E) (A:=A) f (left.filter fun y=> !(WJ E A left n).contains y)
   refine⟨by simp only[List.length_cons];have:=h.1;omega,fun r hr=> ?_⟩
   rcases alsk.1 hr with rfl|hr
   ·exact ZZ E A left n
   ·exact qaD (h.2 r hr) (List.length_filter_le _ _)
def qav (ce:Int) (CL:List (List Nat)) (W:World) (e:Ending) (w':World):Prop:=∃ca cn cc,e= .returned (.tuple #[.slice ca cn cc, .int .i64 ce])∧Below W.heap.size W w'∧(ce≠0→cn=0)∧(ce=0→GrfV w' (.slice ca cn cc) CL)
theorem qaz {ce:Int} {CL:List (List Nat)} {W:World} {e:Ending} {w':World} (h:Below W.heap.size W w'∧((ce≠0∧e= .returned (.tuple #[.slice none 0 0, .int .i64 ce]))∨(ce=0∧∃v,e= .returned (.tuple #[v, .int .i64 0])∧OwnG W.heap.size w' v CL))):qav ce CL W e w':=by
 obtain⟨hb,⟨h,rfl⟩|⟨h,v,rfl,ho⟩⟩:=h
 ·exact⟨none,0,0,rfl,hb,fun _=>rfl,fun h'=>absurd h' h⟩
 ·have h2:=ho
  obtain⟨vs,h3,_⟩:=h2
  obtain⟨a,c,rfl⟩:=aT h3
  exact⟨_,_,_,by rw[h],hb,fun h'=>absurd h h',fun _=>OwnG.grf ho⟩
theorem Zg (l:List (List (List Q4))) (lv:Value) (x y z:Int) (W:World) (hl:l.length≤maxLen) (hL:∀s∈l,s.length≤maxLen∧∀c∈s,c.length≤maxLen) (h:SolsV W lv l) (ht:Lib.TabIs Tryz.prog W "internal/strconv.uint64pow10" .u64 Lib.pow10Tab∧TabAt 1 Lib.deBruijn64tab W):
  Calls Tryz.prog 4 #[lv, .agg #[.int .i64 x, .int .i64 y, .int .i64 z]] W (Ret W (.bool true)):=by
 obtain⟨V,HV⟩:∃V,Hid (W.alloc (.cells #[.int .i64 x, .int .i64 y, .int .i64 z] 36)=V):=⟨_,YJ rfl⟩
 have hV:Below W.heap.size W V:=by rw[←HV.out];exact bel
 have HB0:Hid (V.heap[W.heap.size]? =some (.cells #[.int .i64 x, .int .i64 y, .int .i64 z] 36 (0,0))):=YJ (by rw[←HV.out];exact ai rfl)
 have HA:=YJ (Gv V (kl ht.1 hV) (ma ht.2 hV))
 have HF:=fun W' (hb:Below W.heap.size W W')=>YJ (QD l lv W' hl (fun s hs=>(hL s hs).1) (SolsV.below h hb))
 have HC:=fun(hf:Ow l=true) W' (hb:Below W.heap.size W W')=>YJ (Py l lv W' (qaD (Ol hf).1 (by decide)) (fun s hs=>⟨qaD ((Ol hf).2 s hs).1 (by decide),fun c hc=>qaD (((Ol hf).2 s hs).2 c hc) (by decide)⟩) (SolsV.below h hb))
 obtain⟨GL,HGL⟩:∃GL,Hid ((eM (psB l) (x,y,z)).map av=GL):=⟨_,YJ rfl⟩
 obtain⟨CL,HCL⟩:∃CL,Hid ((ZU (eM (psB l) (x,y,z)) 4096 (2 ^ l.length-1)).map av=CL):=⟨_,YJ rfl⟩
 have HM:=fun(hf:Ow l=true) v W' (hb:Below W.heap.size W W') (hv:SolsV W' v l)=>YJ (show Calls Tryz.prog 17 #[v,V3 x y z] W' (qav (gwE l (x,y,z)) GL W')from(qah l v x y z W' (fun s hs c hc=>qaD (((Ol hf).2 s hs).2 c hc) (by decide)) hv (ma ht.2 hb)).mono fun _ _ h=>qaz (by rw[←HGL.out];exact h))
 have HK:=fun(hf:Ow l=true) v W' (hb:Below W.heap.size W W') (hv:SolsV W' v l)=>YJ (show Calls Tryz.prog 18 #[v,V3 x y z] W' (qav (gwE l (x,y,z)) CL W')from(ZY l v x y z W' (fun s hs c hc=>qaD (((Ol hf).2 s hs).2 c hc) (by decide)) hv (ma ht.2 hb)).mono fun _ _ h=>qaz (by rw[←HCL.out];exact h))
 have HR:=fun(hf:Ow l=true) W' (hb:Below W.heap.size W W')=>YJ (PP l lv W' (fun s hs c hc=>qaD (((Ol hf).2 s hs).2 c hc) (by decide)) (SolsV.below h hb))
 rw[←QG]at HR
 have HWe:=fun W'=>YJ (El x y z W')
 have Hge:=fun(h0:eB l=0) (hw:mK (x,y,z)=0)=>YJ (show TF l (x,y,z)=GL from by rw[←HGL.out];exact(qay h0 (SV hw).2).symm)
 have HGr:=fun(hf:Ow l=true) (h0:eB l=0) (hw:mK (x,y,z)=0) W' (hb:Below W.heap.size W W')=>YJ (show Calls Tryz.prog 20 #[lv,V3 x y z] W' (GrO GL W')from by
  rw[←(Hge h0 hw).out]
  exact VE l lv x y z W' (qaD (Ol hf).1 (by decide)) (We hf h0) (SV hw).1 (SV hw).2 (SolsV.below h hb))
 have Hrow:=fun(hf:Ow l=true) (h0:eB l=0) (hw:mK (x,y,z)=0)=>YJ (show(∀r∈GL,r.length≤1000)∧GL.length≤12 from by
  rw[←(Hge h0 hw).out]
  exact⟨fun r hr=>qaD (XC l _ r hr) (qaD (Ol hf).1 (by decide)),by rw[TV];exact(sq h0).1⟩)
 have HCs:=fun(hf:Ow l=true) (h0:eB l=0) (hw:mK (x,y,z)=0) gv W' (h1:GrfV W' gv GL)=>YJ (show Calls Tryz.prog 22 #[gv] W' (GrO CL W')from by
  rw[←HCL.out,qat h0 (SV hw).2]
  rw[←(Hge h0 hw).out]at h1
  have:=ZW (TF l (x,y,z)) (eM (psB l) (x,y,z)) gv W' (by rw[WF];exact Wz h0 (SV hw).2) (by rw[TV];exact(sq h0).1) (fun r hr=>qaD (XC l _ r hr) (qaD (Ol hf).1 (by decide))) h1
  rwa [TV]at this)
 have Hcr:=fun(h0:eB l=0) (hw:mK (x,y,z)=0)=>YJ (show(∀r∈CL,r.length≤1000)∧CL.length≤10000 from by
  rw[←HCL.out,qat h0 (SV hw).2]
  have hb:=qag (E:=gE (TF l (x,y,z))) (A:=List.range l.length) 4096 (List.range l.length)
  exact⟨fun r hr=>qaD (hb.2 r hr) (by rw[List.length_range];exact qaD (sq h0).1 (by decide)),qaD hb.1 (by decide)⟩)
 have Hc1:Hid (eB l≠0→gwE l (x,y,z)=eB l):=YJ (fun h=>by unfold gwE;rw[if_neg h])
 have Hc2:Hid (eB l=0→gwE l (x,y,z)=mK (x,y,z)):=YJ (fun h=>by unfold gwE;rw[if_pos h])
 have Hlv:Hid (∃a n c,lv= .slice a n c):=YJ (by obtain⟨a,n,c,rfl,_⟩:=h;exact⟨a,n,c,rfl⟩)
 obtain⟨la,ln,lc,rfl⟩:=Hlv.out
 clear h hl hL ht Hlv HGL HCL Hge
 generalize gwE l (x,y,z)=ce at*
 generalize Ow l=fl at*
 generalize eB l=ae at*
 generalize mK (x,y,z)=we at*
 go_enter Tryz.func4,Tryz.ntmps4
 go_wp2_with fail
 try rw[HV.out]
 refine(HA.out).mono ?_
 rintro e w1 ⟨rfl,hb1⟩
 have hw1:=fB hV hb1
 have HB1:=YJ ((hb1.block _ (ah HB0.out)).trans HB0.out)
 clear HA HB0 HV hV hb1
 go_wp2_with fail
 refine((HF _ hw1).out).mono ?_
 rintro e w2 ⟨rfl,hb2⟩
 have hw2:=fB hw1 hb2
 have HB2:=YJ ((hb2.block _ (ah HB1.out)).trans HB1.out)
 clear HF HB1 hb2
 cases fl with
 |false=>
  clear HC HM HK HR HWe HGr HCs Hrow Hcr Hc1 Hc2 HB2
  go_wp2
  go_ret
  exact⟨ay (by simp),hw2⟩
 |true=>
  have HC':=fun W' hb=>YJ (HC (by trivial) W' hb).out
  have HM':=fun v W' hb k1=>YJ (HM (by trivial) v W' hb k1).out
  have HK':=fun v W' hb k1=>YJ (HK (by trivial) v W' hb k1).out
  have HR':=fun W' hb=>YJ (HR (by trivial) W' hb).out
  have HGr1:=fun h0 hw W' hb=>YJ (HGr (by trivial) h0 hw W' hb).out
  have HCs1:=fun h0 hw gv W' k1=>YJ (HCs (by trivial) h0 hw gv W' k1).out
  have Hrow1:=fun h0 hw=>YJ (Hrow (by trivial) h0 hw).out
  clear HC HM HK HR HGr HCs Hrow
  obtain⟨x0,x1,x2,xf,xz⟩:=NO (HB2).out
  go_wp2
  go_cut [5,6] (fun sa sb wx=>∃ca cn cc,sa= .slice ca cn cc∧sb= .int .i64 ce∧Below w2.heap.size w2 wx∧(ce≠0→cn=0)∧(ce=0→GrfV wx (.slice ca cn cc) GL))
  case first=>
   go_region_held (fun w'=>w'.cell? ⟨W.heap.size,0,none⟩=some (.int .i64 x)∧w'.cell? ⟨W.heap.size,1,none⟩=some (.int .i64 y)∧w'.cell? ⟨W.heap.size,2,none⟩=some (.int .i64 z)∧Below w2.heap.size w2 w') (exact⟨ab bel x0,ab bel x1,ab bel x2,bel⟩) (first|(have hv4':=hv4;go_at_call 17;refine((HM' _ _ (fB hw2 hb4) hv4).out).mono ?_;rintro e w5 ⟨ca,cn,cc,rfl,hb5,hcn,hcl⟩;have hb35:Below w2.heap.size w2 w5:=fB hb4 hb5;have zz5:=hb35.size)|(go_at_call 13;refine((HC' _ (fB hw2 bel)).out).mono ?_;rintro e w4 ⟨v4,rfl,hb4,hv4⟩;replace hb4:Below w2.heap.size w2 w4:=fB bel hb4;have zz4:=hb4.size;obtain⟨v4a,v4n,v4c,rfl⟩:∃a n c,v4= .slice a n c:=(by obtain⟨a,n,c,h,_⟩:=hv4;exact⟨a,n,c,h⟩)))
   all_goals (go_wp2_with fail;go_meet;exact⟨ca,cn,cc,rfl,rfl,hb35,hcn,hcl⟩)
  rename World=>w3
  obtain⟨c3a,c3n,c3c,rfl,rfl,hb3,hcn,hcl⟩:=hcut
  have hw3:=fB hw2 hb3
  have HB3:=YJ (((hb3).block _ (ah (HB2).out)).trans (HB2).out)
  have Hn3:=YJ hcn
  have Hl3:=YJ hcl
  clear x0 x1 x2 xf xz HB2 hcn hcl HM'
  obtain⟨x0,x1,x2,xf,xz⟩:=NO (HB3).out
  go_wp2
  go_cut [7,8] (fun sa sb wx=>∃ca cn cc,sa= .slice ca cn cc∧sb= .int .i64 ce∧Below w3.heap.size w3 wx∧(ce≠0→cn=0)∧(ce=0→GrfV wx (.slice ca cn cc) CL))
  case first=>
   go_region_held (fun w'=>w'.cell? ⟨W.heap.size,0,none⟩=some (.int .i64 x)∧w'.cell? ⟨W.heap.size,1,none⟩=some (.int .i64 y)∧w'.cell? ⟨W.heap.size,2,none⟩=some (.int .i64 z)∧Below w3.heap.size w3 w') (exact⟨ab bel x0,ab bel x1,ab bel x2,bel⟩) (first|(have hv4':=hv4;go_at_call 18;refine((HK' _ _ (fB hw3 hb4) hv4).out).mono ?_;rintro e w5 ⟨ca,cn,cc,rfl,hb5,hcn,hcl⟩;have hb35:Below w3.heap.size w3 w5:=fB hb4 hb5;have zz5:=hb35.size)|(go_at_call 13;refine((HC' _ (fB hw3 bel)).out).mono ?_;rintro e w4 ⟨v4,rfl,hb4,hv4⟩;replace hb4:Below w3.heap.size w3 w4:=fB bel hb4;have zz4:=hb4.size;obtain⟨v4a,v4n,v4c,rfl⟩:∃a n c,v4= .slice a n c:=(by obtain⟨a,n,c,h,_⟩:=hv4;exact⟨a,n,c,h⟩)))
   all_goals (go_wp2_with fail;go_meet;exact⟨ca,cn,cc,rfl,rfl,hb35,hcn,hcl⟩)
  rename World=>w9
  obtain⟨c9a,c9n,c9c,rfl,rfl,hb9,hcn,hcl⟩:=hcut
  have hw9:=fB hw3 hb9
  have HB9:=YJ (((hb9).block _ (ah (HB3).out)).trans (HB3).out)
  have Hn9:=YJ hcn
  have Hl9:=YJ hcl
  clear x0 x1 x2 xf xz HB3 hcn hcl HK'
  have Hl3':Hid (ce=0→GrfV w9 (.slice c3a c3n c3c) GL):=YJ (fun h=>GrfV.below (Hl3.out h) hb9)
  clear Hl3 HC'
  go_wp2_with fail
  refine((HR' _ hw9).out).mono ?_
  rintro e w6 ⟨rfl,hb6⟩
  have hw6:=fB hw9 hb6
  have HB6:=YJ ((hb6.block _ (ah HB9.out)).trans HB9.out)
  by_cases hae:ae=0
  ·subst hae
   obtain rfl:ce=we:=Hc2.out (by trivial)
   obtain⟨x0,x1,x2,xf,xz⟩:=NO HB6.out
   clear HR' HB9 Hc1 Hc2
   go_wp2_with fail
   refine((HWe _).out).mono ?_
   rintro e w7 ⟨rfl,hb7⟩
   have hw7:=fB hw6 hb7
   have hb97:=fB hb6 hb7
   have HB7:=YJ ((hb7.block _ (ah HB6.out)).trans HB6.out)
   clear HWe x0 x1 x2 xf xz HB6
   by_cases hce:ce=0
   ·subst hce
    have HG3:=YJ (GrfV.below (Hl3'.out (by trivial)) hb97)
    have HG9:=YJ (GrfV.below (Hl9.out (by trivial)) hb97)
    have HGr7:=YJ (HGr1 (by trivial) (by trivial) w7 hw7).out
    have HCs7:=fun gv W' k1=>YJ (HCs1 (by trivial) (by trivial) gv W' k1).out
    obtain⟨hr1,hr2⟩:=(Hrow1 (by trivial) (by trivial)).out
    obtain⟨hc1,hc2⟩:=(Hcr (by trivial) (by trivial)).out
    obtain⟨x0,x1,x2,xf,xz⟩:=NO HB7.out
    have HE1:=fun v v2 W' k1 k2=>YJ (qab GL v v2 W' hr1 (by omega) k1 k2)
    have HE2:=fun v v2 W' k1 k2=>YJ (qab CL v v2 W' hc1 hc2 k1 k2)
    clear HGr1 HCs1 Hrow1 Hcr Hl3' Hl9 Hn3 Hn9 hr1 hr2 hc1 hc2
    go_wp2_with fail
    refine(HGr7.out).mono ?_
    rintro e wa ⟨gv,rfl,hba,hga⟩
    have hwa:=fB hw7 hba
    have HGa:=YJ (OwnG.grf hga)
    obtain⟨gaa,gan,gac,rfl⟩:∃a n c,gv= .slice a n c:=by obtain⟨vs,h,_⟩:=hga;obtain⟨a,c,h⟩:=aT h;exact⟨_,_,_,h⟩
    have HEa:=YJ (HE1 _ _ wa (GrfV.below HG3.out hba) HGa.out).out
    have HG9a:=YJ (GrfV.below HG9.out hba)
    clear HGr7 hga x0 x1 x2 xf xz HE1 HG3 HG9
    go_wp2_with fail
    refine(HEa.out).mono ?_
    rintro e wb ⟨rfl,hbb⟩
    have hwb:=fB hwa hbb
    have HCb:=YJ (HCs7 _ wb (GrfV.below HGa.out hbb)).out
    have HG9b:=YJ (GrfV.below HG9a.out hbb)
    clear HEa HCs7 HGa HG9a
    go_wp2_with fail
    refine(HCb.out).mono ?_
    rintro e wc ⟨cv,rfl,hbc,hgc⟩
    have hwc:=fB hwb hbc
    have HEc:=YJ (HE2 _ cv wc (GrfV.below HG9b.out hbc) (OwnG.grf hgc)).out
    obtain⟨cva,cvn,cvc,rfl⟩:∃a n c,cv= .slice a n c:=by obtain⟨vs,h,_⟩:=hgc;obtain⟨a,c,h⟩:=aT h;exact⟨_,_,_,h⟩
    clear HCb HE2 hgc HG9b
    go_wp2_with fail
    refine(HEc.out).mono ?_
    rintro e wd ⟨rfl,hbd⟩
    have hwd:=fB hwc hbd
    clear HEc
    go_wp2
    go_ret
    exact⟨ay (by simp),hwd⟩
   ·have hce':(ce !=0)=true:=by simpa using hce
    obtain rfl:=Hn3.out hce
    obtain rfl:=Hn9.out hce
    clear HGr1 HCs1 Hrow1 Hcr Hl3' Hl9 Hn3 Hn9
    go_wp2
    go_ret
    exact⟨ay (by simp),hw7⟩
  ·have hae':(ae !=0)=true:=by simpa using hae
   obtain rfl:ce=ae:=Hc1.out hae
   obtain rfl:=Hn3.out hae
   obtain rfl:=Hn9.out hae
   clear HR' HWe HGr1 HCs1 Hrow1 Hcr Hl3' Hl9 Hn3 Hn9 Hc1 Hc2
   go_wp2
   go_ret
   exact⟨ay (by simp),hw6⟩
end
end Go.Proofs.YtnpmkepfpekhfaaGreatDoor
