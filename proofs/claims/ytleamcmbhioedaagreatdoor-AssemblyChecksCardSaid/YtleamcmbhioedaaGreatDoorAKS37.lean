/- texts: MG MO MQ MR Ms MH MI M6 M7 M8. -/
import Derived.Test.YtleamcmbhioedaaGreatDoorAKS36
namespace Go.Proofs.YtleamcmbhioedaaGreatDoor
set_option maxHeartbeats 8000000
set_option linter.unusedSimpArgs false
set_option linter.unusedVariables false
section
open Go.RowKit Go.Shelf Go.Lib
set_option maxRecDepth 100000
attribute [local go_sem] Oper.semAt_some
theorem Dt (n:Nat) (hn:1≤n) (n₀:Nat) (w:World):SeqStopsK Fence.wide n Tryz.prog 68 #[] (fun x:On=>#[vW x.1]) (Below n₀) (fun xs=>xs.map Subtype.val=ways26) (fun pre=>∃m,m≤27∧pre.map Subtype.val=hO m) 26 w:=fun l J Jx W _ hJ _ hY h0=>by
 have:=Lk l J Jx W hJ n hn n₀ hY W h0
 simpa using this
def Mi (ps:List (List Bod)) (grp mb m0:Nat) (W:World) (e:Ending) (w':World):Prop:=
 ButM mb W w'∧(∃m D,MapS w' mb m D (eM ps)∧m≤m0+52)∧
 ((Ok ps grp=none∧e= .returned (.tuple #[.agg #[.slice none 0 0, .slice none 0 0, .int .i64 0, .int .i64 0, .int .i64 0], .bool false]))∨(∃v o cs,v∈ways26∧Ok ps grp=some (v,o)∧e= .returned (.tuple #[.agg cs, .bool true])∧Mf W.heap.size w' grp o v cs))
theorem Iv (ps:List (List Bod)) (grp sb mb m0:Nat) (D:DataW Value) (pv:Value) (W:World) (hps:∀p∈ps,(∀b∈p,Ii b)∧p.length≤1000000) (hl:ps.length≤12) (hgrp:grp<2 ^ ps.length) (hS:W.heap[sb]? =some (.cells #[pv, .map (some mb)] 143 (0,0))) (hM:MapS W mb m0 D (eM ps)) (hm0:m0≤900) (hsym:∀v∈ways26,∀i k,Cb ps (-v.1, -v.2.1, -v.2.2) k i=Cb ps v i k) (hP:PtsV W pv ps) (hT:TabAt 1 Lib.deBruijn64tab W):
  Calls Tryz.prog 43 #[.pointer (some ⟨sb,0,none⟩), .int .u64 grp] W (Mi ps grp mb m0 W):=by
 have HE:=fun W'=>Lib.hid (GM W')
 have hmbW:mb<W.heap.size:=by
  obtain⟨⟨es,ck,h,_⟩,_⟩:=hM
  exact(Array.getElem?_eq_some_iff.1 h).1
 have hsm:sb≠mb:=rt hM.1 hS
 have hg12:grp<4096:=Nat.lt_of_lt_of_le hgrp (by have:=Nat.pow_le_pow_right (n:=2) (by decide) hl;simpa using this)
 have HGR:=fun(v:Q3) (hv:v∈ways26) (X:World) (m:Nat) (D:DataW Value) (hb:ButM mb W X) (hM2:MapS X mb m D (eM ps)) (hm:m≤1000)=>Lib.hid (Iu m D ps v sb mb pv X hv hps hl ((hb.2.2 _ (ah hS) hsm).trans hS) hM2 hm (hsym v hv) ((hb.ck hM.1).pts hP))
 have HL:=fun(X:World) (s:Nat) (hs:s<4096) (hb:ButM mb W X)=>Lib.hid (ES s X hs ((hb.ck hM.1).tab hT))
 have HTX:=fun(X:World) (hb:ButM mb W X)=>Lib.hid ((hb.ck hM.1).tab hT)
 refine(callsIn_wide (n:=6)).1 ?_
 refine callsIn_of_wp_marks Tryz.func43 rfl trivial ?_ rfl
 simp only[Tryz.ntmps43,List.size_toArray,List.length_cons,List.length_nil,Nat.reduceAdd,Nat.reduceSub,Array.replicate_succ,Array.replicate_zero,List.push_toArray,List.append_toArray,List.nil_append,List.cons_append]
 gi_wp2_with fail
 refine⟨trivial, ?_⟩
 refine(callsIn_wide.2 ((HE _).out)).mono ?_
 rintro e w1 ⟨rfl,rfl⟩
 gi_wp2
 obtain⟨W0,HW0⟩:∃W0,Hid ((((W.alloc (.cells #[.pointer (some ⟨sb,0,none⟩)] 88)).alloc (.cells #[.int .u64 grp] 92)).alloc (.cells #[.slice none 0 0, .slice none 0 0, .int .i64 0, .int .i64 0, .int .i64 0] 50)).alloc (.cells #[.bool false] 4)=W0):=⟨_,Lib.hid rfl⟩
 have hB0:Below W.heap.size W W0:=by rw[←HW0.out];exact bel
 have hA0:Boxed W0 W.heap.size 88 (.pointer (some ⟨sb,0,none⟩)):=by rw[←HW0.out];exact(aB (by first|(simp;done)|(simp;omega))).trans ((aB (by first|(simp;done)|(simp;omega))).trans ((aB (by simp)).trans (ai rfl)))
 have hG0:Boxed W0 (W.heap.size+1) 92 (.int .u64 grp):=by rw[←HW0.out];exact(aB (by first|(simp;done)|(simp;omega))).trans ((aB (by simp)).trans (ai (by simp)))
 have hR0:W0.heap[W.heap.size+1+1]? =some (.cells #[.slice none 0 0, .slice none 0 0, .int .i64 0, .int .i64 0, .int .i64 0] 50 (0,0)):=by rw[←HW0.out];exact(aB (by simp)).trans (ai (by simp))
 have hF0:Boxed W0 (W.heap.size+1+1+1) 4 (.bool false):=by rw[←HW0.out];exact ai (by simp)
 have hsz:W0.heap.size=W.heap.size+4:=by rw[←HW0.out];simp
 rw[HW0.out]
 clear HW0 HE
 have hM0:MapS W0 mb m0 D (eM ps):=hM.kept hB0
 have hbm0:ButM mb W W0:= .of_below (by omega) hB0
 refine wpIn_rangeFunc_ownH rfl (by omega) (gf:=68) (lb:=#[]) rfl trivial (enters_of Tryz.func68 (by kernel_rfl) rfl)
  (Dt (6-1) (by omega) mb W0) belowK_t (belowK_b (by omega)) (Below.refl _ _) (fun _=>rfl)
  (FI ps grp mb m0 W0)
  (FX ps grp mb m0 W (W.heap.size+1+1))
  (Mg ps grp mb m0 W0 (by omega))
  (Mh ps grp mb m0 W (W.heap.size+1+1) W0.heap.size hmbW (by omega))
  ⟨ButM.refl _ _,⟨m0,D,hM0,by simp⟩,by simp⟩
  (fun x a' X=>∃Bx,W0.heap.size≤Bx∧X.heap[Bx]? =some (.cells #[.int .i64 x.1.1, .int .i64 x.1.2.1, .int .i64 x.1.2.2] 33 (0,0))∧a'={tmps:=#[.pointer (some ⟨sb,0,none⟩), .int .u64 grp, .pointer (some ⟨W.heap.size,0,none⟩), .pointer (some ⟨W.heap.size+1,0,none⟩), .pointer (some ⟨W.heap.size+1+1,0,none⟩), .pointer (some ⟨W.heap.size+1+1+1,0,none⟩), .pointer (some ⟨Bx,0,none⟩),undef,undef,undef,undef, .func (.func 68) #[] #[],vW x.1,undef,undef,undef,undef,undef,undef,undef,undef,undef,undef,undef,undef,undef,undef,undef,undef,undef,undef,undef,undef,undef,undef,undef,undef,undef],defers:=[]})
  (fun x a' _ X Y row hs hg hr=>by obtain⟨Bx,h1,h2,h3⟩:=hs;exact⟨Bx,h1,Ck Bx (fun(_:Unit)=>#[.int .i64 x.1.1, .int .i64 x.1.2.1, .int .i64 x.1.2.2]) 33 () X Y row h2 hg (fun r e=>(hr r e).2),h3⟩)
  ?assign ?body ?done ?stop
 case assign=>
  rintro L pre x X K ⟨hbm,⟨m,D,hM,hm⟩,hno⟩ hK
  obtain⟨⟨x0,x1,x2⟩,hx⟩:=x
  have hXs:=hbm.2.1
  simp only[vW]
  gi_wp2
  have hbx:Below X.heap.size X (X.alloc (.cells #[.int .i64 x0, .int .i64 x1, .int .i64 x2] 33)):=(Below.refl _ X).alloc (Nat.le_refl _) _
  exact hK _ _ (EV hbx) (hbx.mono (by omega)) ⟨hbm.trans (.of_below (by omega) hbx),⟨m,D,hM.kept hbx,hm⟩,hno⟩ ⟨X.heap.size,by omega,ai rfl,rfl⟩
 case body=>
  rintro L pre x a' X hLl ⟨r,hr⟩ ⟨hbm,⟨m,D,hM,hm⟩,hno⟩ ⟨Bx,hBx,hX,rfl⟩ hlt
  obtain⟨⟨x0,x1,x2⟩,hx⟩:=x
  simp only at hX
  have hXs:=hbm.2.1
  have hbX:=hbm0.trans hbm
  obtain⟨xc0,xc1,xc2,xf,xz⟩:=NO hX
  have hAX:Boxed X W.heap.size 88 (.pointer (some ⟨sb,0,none⟩)):=(hbm.2.2 _ (by omega) (by omega)).trans hA0
  have ca:=hAX.cell
  have h1':1≤6-1-1:=by omega
  have HC:=HGR (x0,x1,x2) hx X m D hbX hM (by omega)
  simp only[vW]at HC ⊢
  gi_wp2_with fail
  refine⟨trivial, ?_⟩
  refine(CallsIn.inRound L (callsIn_wide.2 (HC.out))).mono ?_
  rintro e w2 ⟨g,m2,D2,rfl,hb2,hs2,hk2,hG2,hM2,hm2⟩
  have hbm2:ButM mb X w2:=⟨hb2,hs2,hk2⟩
  have hbW2:ButM mb W w2:=hbX.trans hbm2
  obtain⟨G,HG⟩:∃G,Hid (eM ps (x0,x1,x2)=G):=⟨_,Lib.hid rfl⟩
  have hgl:G.length=ps.length:=by rw[←HG.out];simp[eM]
  have HGlt:Hid (∀x∈G,x<4096):=Lib.hid (fun x hx=>by
   rw[←HG.out]at hx
   obtain⟨i,_,rfl⟩:=List.mem_map.1 hx
   exact Ei _ _ _ _ hl)
  rw[HG.out]at hG2 ⊢
  have HG2:=Lib.hid hG2
  have hGB:Boxed w2 (W.heap.size+1) 92 (.int .u64 grp):=((hbm.trans hbm2).2.2 _ (by omega) (by omega)).trans hG0
  have hXB:w2.heap[Bx]? =some (.cells #[.int .i64 x0, .int .i64 x1, .int .i64 x2] 33 (0,0)):=(hbm2.2.2 _ xz (by omega)).trans hX
  have HM2:=Lib.hid hM2
  clear xc0 xc1 xc2 xf ca HC hG2 hM2
  have cg:=hGB.cell
  have hz1:=hGB.lt
  gi_wp2_with fail
  refine⟨trivial, ?_⟩
  refine(CallsIn.inRound L (callsIn_wide.2 ((HL w2 grp hg12 hbW2).out))).mono ?_
  rintro e w3 ⟨lv,rfl,hb3,hown3⟩
  obtain⟨la,lc,rfl⟩:=aT hown3
  obtain⟨Ls,HLs⟩:∃Ls,Hid (av grp=Ls):=⟨_,Lib.hid rfl⟩
  rw[HLs.out]at hown3 ⊢
  have HO3:=Lib.hid hown3
  have hll:Ls.length≤4096:=by rw[←HLs.out];exact Nat.le_trans (BS grp grp) (by omega)
  have HLm:Hid (∀n∈Ls,n<ps.length):=Lib.hid (fun n hn=>Cz ps.length grp grp hg12 hgrp n (by rw[←HLs.out]at hn;exact hn))
  clear hown3 cg
  have hGB3:Boxed w3 (W.heap.size+1) 92 (.int .u64 grp):=(hb3.block _ hz1).trans hGB
  have hXB3:=(hb3.block _ (ah hXB)).trans hXB
  have hbW3:ButM mb W w3:=hbW2.trans (.of_below (by have:=hbW2.2.1;omega) hb3)
  have HG3:=Lib.hid (HG2.out.below hb3)
  have HM3:=Lib.hid (HM2.out.kept hb3)
  gi_wp2
  gi_loopw [19] (fun i wr=>∃k:Nat,k≤Ls.length∧i= .int .i64 k∧Below w3.heap.size w3 wr∧Hid (∀j (h:j<Ls.length),j<k→car G grp Ls[j]=grp)) (fun i _=>(Ls.length-intOf i).toNat)
  case atStart=>exact⟨0,by omega,rfl,Below.refl _ _,Lib.hid (fun j _ h=>by omega)⟩
  case round=>
   obtain⟨k,hk,rfl,hbr,H0⟩:=hrel
   by_cases hkl:k<Ls.length
   ·have t1:(k:Int)<Ls.length:=by omega
    obtain⟨ga,gcap,e,hcc,hgz,_,hcell⟩:=JK HO3.out (by omega)
    injection e with e1 e2 e3
    subst e1
    subst e3
    have cn:=ab hbr (hcell k hkl)
    have hnm:=HLm.out _ (List.getElem_mem hkl)
    obtain⟨n,Hn⟩:∃n,Hid (Ls[k]=n):=⟨_,Lib.hid rfl⟩
    rw[Hn.out]at cn hnm
    clear hcell
    have hGBr:Boxed wr (W.heap.size+1) 92 (.int .u64 grp):=(hbr.block _ hGB3.lt).trans hGB3
    have hXBr:=(hbr.block _ (ah hXB3)).trans hXB3
    have hbWr:ButM mb W wr:=hbW3.trans (.of_below (by have:=hbW3.2.1;omega) hbr)
    have cg:=hGBr.cell
    have hz2:=hGBr.lt
    have HCa:=Ff G n grp g G.length wr HGlt.out (by omega) (by omega) (by rw[hgl];exact hgrp) (Nat.le_refl _) (HG3.out.below hbr) (HTX wr hbWr).out
    rw[hgl]at HCa
    have hgz2:ga<wr.heap.size:=Nat.lt_of_lt_of_le hgz hbr.size
    gi_wp2_with fail
    refine⟨trivial, ?_⟩
    refine(CallsIn.inRound L (callsIn_wide.2 HCa)).mono ?_
    rintro e w5 ⟨rfl,hb5⟩
    obtain⟨o,Ho⟩:∃o,Hid (car G grp n=o):=⟨_,Lib.hid rfl⟩
    rw[Ho.out]
    have hGB5:Boxed w5 (W.heap.size+1) 92 (.int .u64 grp):=(hb5.block _ hGBr.lt).trans hGBr
    have cg5:=hGB5.cell
    by_cases hog:o=grp
    ·have hc:((o:Int)!=(grp:Int))=false:=by simp[hog]
     gi_wp2
     go_roundw
     case rel=>exact⟨k+1,by omega,by go_num,fB hbr hb5,Lib.hid (fun j h hj=>by
      by_cases e:j=k
      ·subst e;rw[Hn.out,Ho.out];exact hog
      ·exact H0.out j h (by omega))⟩
     case measure=>first|(simp[intOf];done)|(simp[intOf];omega)
    ·have hc:((o:Int)!=(grp:Int))=true:=by simp only[bne_iff_ne,ne_eq,Int.natCast_inj];exact hog
     gi_wp2
     have hmx:Tryz.prog.follows .mixedOrders=true:=by kernel_rfl
     have hbW5:ButM mb W w5:=hbWr.trans (.of_below (by have:=hbWr.2.1;omega) hb5)
     have hmz:mb≤w5.heap.size:=by have:=hbW5.2.1;omega
     have HLg:=fun(Y:World) (h:Below w5.heap.size w5 Y)=>Lib.hid (HL Y grp hg12 (hbW5.trans (.of_below hmz h))).out
     have HLo:=fun(Y:World) (h:Below w5.heap.size w5 Y)=>Lib.hid (HL Y o (by rw[←Ho.out];exact Me _ _ _ hg12 (by omega)) (hbW5.trans (.of_below hmz h))).out
     have hRX:w5.heap[W.heap.size+1+1]? =some (.cells #[.slice none 0 0, .slice none 0 0, .int .i64 0, .int .i64 0, .int .i64 0] 50 (0,0)):=by
      refine Eq.trans ?_ hR0
      have h1:=(hbm.trans hbm2).2.2 (W.heap.size+1+1) (by omega) (by omega)
      have h2:=hb3.block (W.heap.size+1+1) (by have:=hbm2.2.1;omega)
      have h3:=(fB hbr hb5).block (W.heap.size+1+1) (by have:=hbm2.2.1;have:=hb3.size;omega)
      rw[h3,h2,h1]
     have hFX:Boxed w5 (W.heap.size+1+1+1) 4 (.bool false):=by
      refine Eq.trans ?_ hF0
      have h1:=(hbm.trans hbm2).2.2 (W.heap.size+1+1+1) (by omega) (by omega)
      have h2:=hb3.block (W.heap.size+1+1+1) (by have:=hbm2.2.1;omega)
      have h3:=(fB hbr hb5).block (W.heap.size+1+1+1) (by have:=hbm2.2.1;have:=hb3.size;omega)
      rw[h3,h2,h1]
     have hXB5:=(hb5.block _ (ah hXBr)).trans hXBr
     clear cg cn
     have hz5:W.heap.size≤w5.heap.size:=hbW5.2.1
     have hz6:∀{Y:World},Below w5.heap.size w5 Y→W.heap.size≤Y.heap.size:=fun h=>Nat.le_trans hz5 h.size
     have hm2z:mb≤w2.heap.size:=by have:=hbm2.2.1;omega
     have hm7:m2≤m0+2*(pre++[(⟨(x0,x1,x2),hx⟩:On)]).length:=by simp;omega
     have Hhit:Hid (ei ps grp (x0,x1,x2)=some o):=Lib.hid (Fk HG.out HLs.out hkl Hn.out Ho.out H0.out hog)
     obtain⟨xc0,xc1,xc2,xf,xz5⟩:=NO hXB5
     obtain⟨r0,r1,r2,r3,r4,rf,rz⟩:=bM hRX
     gi_region_with_o (first|(have hb6X':=hb6X;refine⟨trivial, ?_⟩;gi_at_call 71;refine(CallsIn.inRound L (callsIn_wide.2 ((HLo _ (fB hb6X bel)).out))).mono ?_;rintro e w7 ⟨v2,rfl,hb7,hown7⟩;obtain⟨a2,c2,rfl⟩:=aT hown7;have hb7X:Below w6.heap.size w6 w7:=fB bel hb7;have HO7:=Lib.hid hown7;clear hown7 hb6X';have hb75:=fB hb6X hb7X;have hXB7:=(hb7X.block _ yz).trans hXB6;obtain⟨zc0,zc1,zc2,zf,zz⟩:=NO hXB7;have hR7:=(hb75.block _ rz).trans hRX;have hF7:Boxed w7 (W.heap.size+1+1+1) 4 (.bool false):=(hb75.block _ hFX.lt).trans hFX;obtain⟨s0,s1,s2,s3,s4,sf,sz⟩:=bM hR7;have fc:=hF7.cell;have ff:=hF7.frozen;have fz:=hF7.lt)|(refine⟨trivial, ?_⟩;gi_at_call 71;refine(CallsIn.inRound L (callsIn_wide.2 ((HLg _ bel).out))).mono ?_;rintro e w6 ⟨v1,rfl,hb6,hown6⟩;obtain⟨a1,c1,rfl⟩:=aT hown6;have hb6X:Below w5.heap.size w5 w6:=fB bel hb6;have HO6:=Lib.hid hown6;clear hown6;have hXB6:=(hb6X.block _ xz5).trans hXB5;obtain⟨yc0,yc1,yc2,yf,yz⟩:=NO hXB6))
     all_goals
      have h7X:ButM mb X w7:=hbm2.trans (.of_below hm2z (fB hb3 (fB hbr (fB hb5 hb75))))
      have hM7:=HM3.out.kept (fB hbr (fB hb5 hb75))
      have hw1:=Cn (au HO6.out hb7X) (show W.heap.size≤_ by first|exact hz5|(simp;exact hz5))
      have hw2:=Cn HO7.out (show W.heap.size≤_ by first|exact hz6 hb6X|(simp;exact hz6 hb6X))
      gi_wp2
      exact Ll (v:=⟨(x0,x1,x2),hx⟩) (X:=X) (w7:=w7) (b:=W.heap.size+1+1) hmbW (by omega) (by omega) hbX h7X hM7 hm7 hno Hhit.out hR7 hF7 hw1 hw2
   ·have t1:¬(k:Int)<Ls.length:=by omega
    have hbR:ButM mb X wr:=hbm2.trans (.of_below (by have:=hbm2.2.1;omega) (fB hb3 hbr))
    have hMr:=HM3.out.kept hbr
    have Hno:Hid (ei ps grp (x0,x1,x2)=none):=Lib.hid (Ek HG.out HLs.out (fun j hj=>H0.out j hj (by omega)))
    gi_wp2
    refine⟨hbR.keeps (by omega),hbR.1,hbm.trans hbR,⟨m2,D2,hMr,by simp;omega⟩,fun a ha=> ?_⟩
    rcases List.mem_append.1 ha with ha|ha
    ·exact hno a ha
    ·obtain rfl:a=⟨(x0,x1,x2),hx⟩:=by simpa using ha
     exact Hno.out
 case done=>
  rintro Dd ys X hD hys ⟨hbm,⟨m,D,hM,hm⟩,hno⟩ hK
  have hRX:X.heap[W.heap.size+1+1]? =some (.cells #[.slice none 0 0, .slice none 0 0, .int .i64 0, .int .i64 0, .int .i64 0] 50 (0,0)):=(hbm.2.2 _ (by omega) (by omega)).trans hR0
  have hFX:Boxed X (W.heap.size+1+1+1) 4 (.bool false):=(hbm.2.2 _ (by omega) (by omega)).trans hF0
  obtain⟨r0,r1,r2,r3,r4,rf,rz⟩:=bM hRX
  have fc:=hFX.cell
  have ff:=hFX.frozen
  have fz:=hFX.lt
  obtain⟨Y,hY,hbY,hMY,hRY,hFY,hkY⟩:=Lm hmbW (by omega) (hbm0.trans hbm) hM hRX hFX (.slice none 0 0) (.slice none 0 0) (.int .i64 0) (.int .i64 0) (.int .i64 0) (.bool false)
  have hKY:=(hkY Dd (by omega)).trans hK
  have Hn:=Lib.hid (Fj hys hno)
  have hyl:ys.length=26:=by
   have:=congrArg List.length hys
   rw[List.length_map]at this
   rw[this]
   decide
  gi_wp2
  rw[←hY]
  clear hY r0 r1 r2 r3 r4 rf rz fc ff fz hRX hFX
  refine⟨by simp, .inl ⟨_,_,rfl,run_takeDeferred hKY, ?_⟩⟩
  obtain⟨Z,hZ,hbZ,hMZ,hRZ,hFZ,_⟩:=Fl hmbW (by omega) hbY hMY hRY hFY (by omega) hKY
  rw[←hZ]
  obtain⟨c0,c1,c2,c3,c4,_,_⟩:=bM hRZ
  have fc:=hFZ.cell
  refine⟨.tuple #[.agg #[.slice none 0 0, .slice none 0 0, .int .i64 0, .int .i64 0, .int .i64 0], .bool false],by simp[results,Tryz.results43,go_sem,c0,c1,c2,c3,c4,fc],hbZ,⟨m,D,hMZ,by omega⟩, .inl ⟨Hn.out,rfl⟩⟩
 case stop=>
  rintro Dd c' pre X hD ⟨mm,hmm,hpre⟩ ⟨rfl,pre0,v,o,rfl,hno,hv,hbm,⟨m,D,hM,hm⟩,⟨cs,hcs,gv,ov,rfl,ho1,ho2⟩,hbx⟩ hK
  gi_wp2
  refine⟨by simp, .inl ⟨_,_,rfl,run_takeDeferred hK, ?_⟩⟩
  obtain⟨Z,hZ,hbZ,hMZ,hRZ,hFZ,hoZ⟩:=Fl hmbW (by omega) hbm hM hcs hbx (by omega) hK
  rw[←hZ]
  obtain⟨c0,c1,c2,c3,c4,_,_⟩:=bM hRZ
  have fc:=hFZ.cell
  have hlen:(pre0++[v]).length≤26:=by
   have h1:=congrArg List.length hpre
   rw[List.length_map]at h1
   have h2:=Ln mm (by omega)
   omega
  refine⟨.tuple #[.agg #[gv,ov, .int .i64 v.1.1, .int .i64 v.1.2.1, .int .i64 v.1.2.2], .bool true],by simp[results,Tryz.results43,go_sem,c0,c1,c2,c3,c4,fc],hbZ,⟨m,D,hMZ,by omega⟩, .inr ⟨v.1,o,_,v.2,Gp hmm hpre hno hv,rfl,gv,ov,rfl,hoZ ho1,hoZ ho2⟩⟩
end
section
open Go.RowKit Go.Shelf Go.Lib
attribute [local go_sem] Ext.cell Ext.frozen
theorem ba {n lo hi:Int} {b:Bool} (h:decide (lo≤n∧n≤hi)=b) (w:World):Calls Tryz.prog 32 #[.int .i64 n, .int .i64 lo, .int .i64 hi] w fun e w'=>e= .returned (.bool b)∧w'=w:=(de n lo hi w).mono fun e w' h'=>⟨by rw[h'.1,h],h'.2.symm⟩
end
section
open Go.RowKit Go.Shelf Go.Lib
set_option maxRecDepth 100000
attribute [local go_sem] Ext.cell Ext.frozen
theorem Lo (xs:List Int) (v:Value) (W:World) (hx:∀x∈xs, -300000≤x∧x≤300000) (hl:xs.length≤1000000) (hv:Ints W v xs):
  Calls Tryz.prog 102 #[v] W (Ret W (.bool true)):=by
 obtain⟨a,n,c,rfl,hn,_,hi⟩:=hv
 have HX:=Lib.hid hi
 have HN:=Lib.hid hn
 have HB:=fun i (h:i<xs.length)=>Lib.hid (hx _ (List.getElem_mem h))
 clear hi hn hx
 go_enter Tryz.func102,Tryz.ntmps102
 go_wp2
 go_loopw [3] (fun x wr=>wr=W∧∃k:Nat,k≤n∧x= .int .i64 k) (fun x _=>n-(intOf x).toNat)
 case atStart=>exact⟨rfl,0,by omega,rfl⟩
 case round=>
  obtain⟨rfl,k,hk,rfl⟩:=hrel
  by_cases hlt:k<n
  ·have g1:(k:Int)<(n:Int):=by omega
   have g2:(0:Int)≤(k:Int):=by omega
   have hil:k<xs.length:=by have:=HN.out;omega
   have hnl:n≤1000000:=by have:=HN.out;omega
   obtain⟨b,off,rfl,hi4⟩:=HX.out (by omega)
   have e0:=hi4 k hil
   have ze:=World.block_lt_of_cell? wr _ e0
   simp only at ze
   have gb:decide (-300000≤xs[k]∧xs[k]≤300000)=true:=decide_eq_true (HB k hil).out
   clear HX HB hi4
   generalize xs[k]=y at*
   go_wp2_with fail
   refine(ba gb _).mono ?_
   rintro e w2 ⟨rfl,rfl⟩
   go_wp2
   go_roundw
   case rel=>exact⟨by first|trivial|rfl,k+1,by omega,by go_num⟩
   case measure=>first|(simp[intOf];done)|(simp[intOf];omega)
  ·obtain rfl:k=n:=by omega
   clear HX HB
   go_wp2
   go_ret
   exact⟨by first|rfl|trivial,bel⟩
def CV (x1 y1 z1 x2 y2 z2:Int):List Q4:=[dG (-1,0,0, -x1),dG (0, -1,0, -y1),dG (0,0, -1, -z1),dG (0,0,1,z2),dG (0,1,0,y2),dG (1,0,0,x2)]
theorem Gq (x1 y1 z1 x2 y2 z2:Int) (W:World) (h1: -300000≤x1∧x1≤300000) (h2: -300000≤y1∧y1≤300000) (h3: -300000≤z1∧z1≤300000) (h4: -300000≤x2∧x2≤300000) (h5: -300000≤y2∧y2≤300000) (h6: -300000≤z2∧z2≤300000):
  Calls Tryz.prog 103 #[.agg #[.int .i64 x1, .int .i64 y1, .int .i64 z1, .int .i64 x2, .int .i64 y2, .int .i64 z2]] W (fun e w'=>∃pv,e= .returned (.agg #[pv])∧Below W.heap.size W w'∧Q4s w' pv (CV x1 y1 z1 x2 y2 z2)):=by
 have L1:=fun w=>Lib.hid (tF (-1,0,0, -x1) w (by unfold cI bI;simp;omega))
 have L2:=fun w=>Lib.hid (tF (0, -1,0, -y1) w (by unfold cI bI;simp;omega))
 have L3:=fun w=>Lib.hid (tF (0,0, -1, -z1) w (by unfold cI bI;simp;omega))
 have L4:=fun w=>Lib.hid (tF (0,0,1,z2) w (by unfold cI bI;simp;omega))
 have L5:=fun w=>Lib.hid (tF (0,1,0,y2) w (by unfold cI bI;simp;omega))
 have L6:=fun w=>Lib.hid (tF (1,0,0,x2) w (by unfold cI bI;simp;omega))
 have w1:IntKind.i64.wrap (-x1)= -x1:=IntWalk.i64_in _ (by omega)
 have w2:IntKind.i64.wrap (-y1)= -y1:=IntWalk.i64_in _ (by omega)
 have w3:IntKind.i64.wrap (-z1)= -z1:=IntWalk.i64_in _ (by omega)
 obtain⟨B,HBx⟩:∃B,Hid (CV x1 y1 z1 x2 y2 z2=B):=⟨_,Lib.hid rfl⟩
 rw[HBx.out]
 unfold CV at HBx
 generalize dG (-1,0,0, -x1)=p1 at*
 generalize dG (0, -1,0, -y1)=p2 at*
 generalize dG (0,0, -1, -z1)=p3 at*
 generalize dG (0,0,1,z2)=p4 at*
 generalize dG (0,1,0,y2)=p5 at*
 generalize dG (1,0,0,x2)=p6 at*
 obtain⟨a1,b1,c1,d1⟩:=p1
 obtain⟨a2,b2,c2,d2⟩:=p2
 obtain⟨a3,b3,c3,d3⟩:=p3
 obtain⟨a4,b4,c4,d4⟩:=p4
 obtain⟨a5,b5,c5,d5⟩:=p5
 obtain⟨a6,b6,c6,d6⟩:=p6
 simp only[v4]at L1 L2 L3 L4 L5 L6
 clear h1 h2 h3 h4 h5 h6
 go_enter Tryz.func103,Tryz.ntmps103
 go_wp2
 apply aj [] [0,1,2,3,4,5,6,7,8,9,10,11,12,13,14,15,16,17,18,19,20,21,22,23,24,25,26] 27 [28,29] [sv _,sv _,sv _,sv _,sv _,sv _,sv _,sv _,sv _,sv _,sv _,sv _,sv _,sv _,sv _,sv _,sv _,sv _,sv _,sv _,sv _,sv _,sv _,sv _,sv _,sv _,sv _] (by kernel_rfl) (by kernel_rfl)
 iterate 4 ((try go_frame);refine wkQ ?_)
 try go_frame
 refine wkV ?_
 apply ex3
 ·intro u K hK
  go_simp
  refine((L1 _).out).mono ?_
  rintro e w9 ⟨rfl,hb9⟩
  exact hK _ hb9
 rfl
 iterate 4 ((try go_frame);refine wkQ ?_)
 try go_frame
 refine wkV ?_
 apply ex3
 ·intro u K hK
  go_simp
  refine((L2 _).out).mono ?_
  rintro e w9 ⟨rfl,hb9⟩
  exact hK _ hb9
 rfl
 iterate 4 ((try go_frame);refine wkQ ?_)
 try go_frame
 refine wkV ?_
 apply ex3
 ·intro u K hK
  go_simp
  refine((L3 _).out).mono ?_
  rintro e w9 ⟨rfl,hb9⟩
  exact hK _ hb9
 rfl
 iterate 3 ((try go_frame);refine wkQ ?_)
 try go_frame
 refine wkV ?_
 apply ex3
 ·intro u K hK
  go_simp
  refine((L4 _).out).mono ?_
  rintro e w9 ⟨rfl,hb9⟩
  exact hK _ hb9
 rfl
 iterate 3 ((try go_frame);refine wkQ ?_)
 try go_frame
 refine wkV ?_
 apply ex3
 ·intro u K hK
  go_simp
  refine((L5 _).out).mono ?_
  rintro e w9 ⟨rfl,hb9⟩
  exact hK _ hb9
 rfl
 iterate 3 ((try go_frame);refine wkQ ?_)
 try go_frame
 refine wkV ?_
 apply ex3
 ·intro u K hK
  go_simp
  refine((L6 _).out).mono ?_
  rintro e w9 ⟨rfl,hb9⟩
  exact hK _ hb9
 rfl
 try go_frame
 refine aI (fun u hR=> ?_)
 have hbu:=u.below
 have hC0:u.val.heap[W.heap.size+1]? =some (.cells #[.slice none 0 0] 68 (0,0)):=(hbu.block _ (by simp)).trans (ai (by simp))
 have hbW:Below W.heap.size W u.val:=fB bel hbu
 have c0:=(ag hC0 0).trans rfl
 have cf:=aC hC0
 have cz:=ah hC0
 generalize u.val=V at*
 clear u
 simp only[oas]
 iterate 3 (refine wpList_step (fun K hK=> ?_);go_simp;refine hK _ _ ?_;clear hK K)
 refine NoPanic.normal ?_
 go_wp2
 have hS:=br hC0 0 (.slice (some ⟨V.heap.size,0,none⟩) 6 6)
 obtain⟨Y,HY⟩:∃Y,Hid (((V.setCell ⟨W.heap.size+1,0,none⟩ (.slice (some ⟨V.heap.size,0,none⟩) 6 6)).alloc (.cells #[.int .i64 a1, .int .i64 b1, .int .i64 c1, .int .i64 d1, .int .i64 a2, .int .i64 b2, .int .i64 c2, .int .i64 d2, .int .i64 a3, .int .i64 b3, .int .i64 c3, .int .i64 d3, .int .i64 a4, .int .i64 b4, .int .i64 c4, .int .i64 d4, .int .i64 a5, .int .i64 b5, .int .i64 c5, .int .i64 d5, .int .i64 a6, .int .i64 b6, .int .i64 c6, .int .i64 d6] 127))=Y):=⟨_,Lib.hid rfl⟩
 have hbY:Below W.heap.size W Y:=by rw[←HY.out];exact(hbW.setCell (p:=⟨W.heap.size+1,0,none⟩) (by show _≤W.heap.size+1;omega) _).alloc (by simp;omega) _
 have hN:Y.heap[V.heap.size]? =some (.cells #[.int .i64 a1, .int .i64 b1, .int .i64 c1, .int .i64 d1, .int .i64 a2, .int .i64 b2, .int .i64 c2, .int .i64 d2, .int .i64 a3, .int .i64 b3, .int .i64 c3, .int .i64 d3, .int .i64 a4, .int .i64 b4, .int .i64 c4, .int .i64 d4, .int .i64 a5, .int .i64 b5, .int .i64 c5, .int .i64 d5, .int .i64 a6, .int .i64 b6, .int .i64 c6, .int .i64 d6] 127 (0,0)):=by rw[←HY.out];exact ai (by simp)
 have hr:Y.cell? ⟨W.heap.size+1,0,none⟩=some (.slice (some ⟨V.heap.size,0,none⟩) 6 6):=by rw[←HY.out];exact(ag ((aB (by simp;omega)).trans hS) 0).trans rfl
 rw[HY.out]
 refine bodyPost_ret (v:= .agg #[.slice (some ⟨V.heap.size,0,none⟩) 6 6]) (by simp[results,Tryz.results103,go_sem,hr]) rfl ⟨_,rfl,hbY,_,6,6,rfl,by rw[←HBx.out];rfl,Nat.le_refl _,fun _=>⟨V.heap.size,0,rfl, ?_⟩⟩
 rw[←HBx.out]
 intro i hi
 have cs:=fun j=>ag hN j
 match i,hi with
 |0,_=>exact⟨(cs 0).trans rfl,(cs 1).trans rfl,(cs 2).trans rfl,(cs 3).trans rfl⟩
 |1,_=>exact⟨(cs 4).trans rfl,(cs 5).trans rfl,(cs 6).trans rfl,(cs 7).trans rfl⟩
 |2,_=>exact⟨(cs 8).trans rfl,(cs 9).trans rfl,(cs 10).trans rfl,(cs 11).trans rfl⟩
 |3,_=>exact⟨(cs 12).trans rfl,(cs 13).trans rfl,(cs 14).trans rfl,(cs 15).trans rfl⟩
 |4,_=>exact⟨(cs 16).trans rfl,(cs 17).trans rfl,(cs 18).trans rfl,(cs 19).trans rfl⟩
 |5,_=>exact⟨(cs 20).trans rfl,(cs 21).trans rfl,(cs 22).trans rfl,(cs 23).trans rfl⟩
end
section
section
variable {α:Type} (le:α→α→Bool)
def mgF:Nat→List α→List α→List α
 |0,xs,ys=>xs++ys
 |_+1,[],ys=>ys
 |_+1,xs,[]=>xs
 |f+1,x::xs,y::ys=>if le x y then x::mgF f xs (y::ys)else y::mgF f (x::xs) ys
theorem rR:∀(f:Nat) (xs ys:List α),xs.length+ys.length≤f→List.merge xs ys le=mgF le f xs ys
 |0,xs,ys,h=>by
  obtain rfl:xs=[]:=List.length_eq_zero_iff.1 (by omega)
  obtain rfl:ys=[]:=List.length_eq_zero_iff.1 (by omega)
  simp[mgF]
 |f+1,[],ys,_=>by simp[mgF]
 |f+1,x::xs,[],_=>by simp[mgF]
 |f+1,x::xs,y::ys,h=>by
  rw[List.cons_merge_cons]
  simp only[mgF]
  split
  ·rw[rR f xs (y::ys) (by simp at h ⊢;omega)]
  ·rw[rR f (x::xs) ys (by simp at h ⊢;omega)]
def msF:Nat→List α→List α
 |0,l=>l
 |_+1,[]=>[]
 |_+1,[a]=>[a]
 |f+1,a::b::xs=>let l:=a::b::xs;mgF le l.length (msF f (l.take ((l.length+1) / 2))) (msF f (l.drop ((l.length+1) / 2)))
theorem lL:∀(f:Nat) (l:List α),l.length≤f→l.mergeSort le=msF le f l
 |0,l,h=>by
  obtain rfl:l=[]:=List.length_eq_zero_iff.1 (by omega)
  simp[msF]
 |f+1,[],_=>by simp[msF]
 |f+1,[a],_=>by simp[msF]
 |f+1,a::b::xs,h=>by
  rw[List.mergeSort]
  simp only[msF,List.MergeSort.Internal.splitInTwo_fst,List.MergeSort.Internal.splitInTwo_snd]
  have h1:((a::b::xs).take (((a::b::xs).length+1) / 2)).length≤f:=by simp at h ⊢;omega
  have h2:((a::b::xs).drop (((a::b::xs).length+1) / 2)).length≤f:=by simp at h ⊢;omega
  rw[←lL f _ h1, ←lL f _ h2, ←rR le _ _ _ (by simp;omega)]
end
end
section
open Go.RowKit Go.Shelf Go.Lib
set_option maxRecDepth 100000
attribute [local go_sem] Ext.cell Ext.frozen
theorem CZ (xs:List Int) (j:Nat) (h:j<xs.length):xs.getD j 0=xs[j]:=by simp[List.getD,h]
def gh (xs:List Int) (n:Int):Int:=if(∀x∈xs,0≤x∧x<n)then(if(∀i,i<xs.length→1≤i→xs.getD (i-1) 0<xs.getD i 0)then 0 else 9)else 6
theorem Kc {xs:List Int} {n:Int} {k:Nat} (hk:k<xs.length) (h:xs[k]<0∨n≤xs[k]):gh xs n=6:=by
 unfold gh
 rw[if_neg]
 intro h'
 have:=h' _ (List.getElem_mem hk)
 omega
theorem Kd {xs:List Int} {n:Int} {k:Nat} (h0:∀j (h:j<xs.length),0≤xs[j]∧xs[j]<n) (hk:k<xs.length) (h1:1≤k) (h:xs[k]≤xs[k-1]'(by omega)):gh xs n=9:=by
 unfold gh
 rw[if_pos (fun x hx=>by obtain⟨j,hj,rfl⟩:=List.mem_iff_getElem.1 hx;exact h0 j hj),if_neg]
 intro h'
 have:=h' k hk h1
 rw[CZ _ _ hk,CZ _ _ (show k-1<xs.length by omega)]at this
 omega
theorem Ke {xs:List Int} {n:Int} (h0:∀j (h:j<xs.length),0≤xs[j]∧xs[j]<n) (h:∀j (h:j<xs.length),1≤j→xs[j-1]'(by omega)<xs[j]):gh xs n=0:=by
 unfold gh
 rw[if_pos (fun x hx=>by obtain⟨j,hj,rfl⟩:=List.mem_iff_getElem.1 hx;exact h0 j hj),if_pos]
 intro i hi h1
 rw[CZ _ _ hi,CZ _ _ (show i-1<xs.length by omega)]
 exact h i hi h1
theorem En (xs:List Int) (v:Value) (m:Int) (W:World) (hl:xs.length≤1000000) (hv:Ints W v xs):
  Calls Tryz.prog 41 #[v, .int .i64 m] W (Ret W (.int .i64 (gh xs m))):=by
 have H6:=fun k (h:k<xs.length)=>Lib.hid (@Kc xs m k h)
 have H9:=fun h0 k (h:k<xs.length) (h1:1≤k)=>Lib.hid (@Kd xs m k h0 h h1)
 have H0:=Lib.hid (@Ke xs m)
 obtain⟨a,n,c,rfl,hn,_,hi⟩:=hv
 have HX:=Lib.hid hi
 have HN:=Lib.hid hn
 clear hi hn
 generalize gh xs m=res at*
 go_enter Tryz.func41,Tryz.ntmps41
 go_wp2
 go_loopw [10] (fun x wr=>∃k:Nat,k≤n∧x= .int .i64 k∧Below W.heap.size W wr∧Hid (∀j (h:j<xs.length),j<k→0≤xs[j]∧xs[j]<m)) (fun x _=>n-(intOf x).toNat)
 case atStart=>exact⟨0,by omega,rfl,bel,Lib.hid (fun j _ h=>by omega)⟩
 case round=>
  obtain⟨k,hk,rfl,hb,Hd⟩:=hrel
  by_cases hlt:k<n
  ·have g1:(k:Int)<(n:Int):=by omega
   have g2:(0:Int)≤(k:Int):=by omega
   have hil:k<xs.length:=by have:=HN.out;omega
   obtain⟨b,off,rfl,hi4⟩:=HX.out (by omega)
   have e0:=ab hb (hi4 k hil)
   have ze:=World.block_lt_of_cell? wr _ e0
   simp only at ze
   have HK:=Lib.hid (H6 k hil).out
   have Hst:Hid (0≤xs[k]∧xs[k]<m→∀j (h:j<xs.length),j<k+1→0≤xs[j]∧xs[j]<m):=Lib.hid (fun h j hj hji=>by
    by_cases e:j=k
    ·subst e;exact h
    ·exact Hd.out j hj (by omega))
   clear HX H6 H9 H0 hi4 Hd
   generalize xs[k]=y at*
   by_cases y0:y<0
   ·have hr:=HK.out (.inl y0)
    subst hr
    go_wp2
    go_ret
    exact⟨by first|rfl|trivial,bel⟩
   ·by_cases y1:m≤y
    ·have hr:=HK.out (.inr y1)
     subst hr
     go_wp2
     go_ret
     exact⟨by first|rfl|trivial,bel⟩
    ·go_wp2
     go_roundw
     case rel=>exact⟨k+1,by omega,by go_num,bel,Lib.hid (Hst.out ⟨by omega,by omega⟩)⟩
     case measure=>first|(simp[intOf];done)|(simp[intOf];omega)
  ·obtain rfl:k=n:=by omega
   have Hd2:Hid (∀j (h:j<xs.length),0≤xs[j]∧xs[j]<m):=Lib.hid (fun j h=>Hd.out j h (by have:=HN.out;omega))
   have H9b:=fun k (h:k<xs.length) (h1:1≤k)=>Lib.hid (H9 Hd2.out k h h1).out
   have H0b:=Lib.hid (H0.out Hd2.out)
   clear H6 H9 H0 Hd Hd2
   go_wp2
   go_loopw [7] (fun x ww=>∃i:Nat,1≤i∧i≤k+1∧x= .int .i64 i∧Below W.heap.size W ww∧Hid (∀j (h:j<xs.length),j<i→1≤j→xs[j-1]'(by omega)<xs[j])) (fun x _=>k+1-(intOf x).toNat)
   case atStart=>exact⟨1,by omega,by omega,rfl,bel,Lib.hid (fun j _ h h1=>by omega)⟩
   case round=>
    obtain⟨i,hi1,hik,rfl,hbw,Hd⟩:=hrel
    by_cases hin:i<k
    ·have g1:(i:Int)<(k:Int):=by omega
     have g2:(0:Int)≤(i:Int):=by omega
     have g3:(0:Int)≤(i:Int)-1:=by omega
     have hil:i<xs.length:=by have:=HN.out;omega
     obtain⟨b,off,rfl,hi4⟩:=HX.out (by omega)
     have e0:=ab hbw (hi4 i hil)
     have e1:=ab hbw (hi4 (i-1) (by omega))
     have ez:((i:Int)-1).toNat=i-1:=by omega
     have ez2:(i:Int)-1=((i-1:Nat):Int):=by omega
     have g5:i-1<k:=by omega
     have g6:(i:Int)-1<(k:Int):=by omega
     have ze:=World.block_lt_of_cell? _ _ e0
     have bw2:=fun(u:Ext _)=>fB hbw u.below
     simp only at ze
     have HK:=Lib.hid (H9b i hil hi1).out
     have Hst:Hid (xs[i-1]'(by omega)<xs[i]→∀j (h:j<xs.length),j<i+1→1≤j→xs[j-1]'(by omega)<xs[j]):=Lib.hid (fun h j hj hji h1=>by
      by_cases e:j=i
      ·subst e;exact h
      ·exact Hd.out j hj (by omega) h1)
     clear HX H9b H0b hi4 Hd
     generalize xs[i]=y at*
     generalize xs[i-1]'(by omega)=z at*
     by_cases hyz:y≤z
     ·have hr:=HK.out hyz
      subst hr
      go_wp2
      have q5:IntKind.i64.wrap ((i-1:Nat):Int)=((i-1:Nat):Int):=IntWalk.i64_in _ (by have:=HN.out;omega)
      refine px (C:=fun w'=>∃u:Ext _,w'=u.val) [] [0,1,2,3,4,5,6,7,8] 9 [] (by kernel_rfl) (by kernel_rfl) ⟨Ext.drew,rfl⟩ ?_
      simp only[oas]
      repeat(refine zd (fun K' hK'=> ?_);go_simp;refine hK' _ ?_;clear hK' K')
      refine lG ?_
      repeat(first|go_big_quiet_step (fail)|quiet_step (fail))
      refine wpQuiet_nil ?_
      rintro _ ⟨u,rfl⟩
      have hbu:=bw2 u
      iterate 1 (refine wpList_step (fun K hK=> ?_);go_simp;refine hK _ _ ?_;clear hK K)
      refine NoPanic.normal ?_
      go_wp2
      go_ret
      exact⟨by first|rfl|trivial,hbu⟩
     ·go_wp2
      have q5:IntKind.i64.wrap ((i-1:Nat):Int)=((i-1:Nat):Int):=IntWalk.i64_in _ (by have:=HN.out;omega)
      refine px (C:=fun w'=>∃u:Ext _,w'=u.val) [] [0,1,2,3,4,5,6,7,8] 9 [] (by kernel_rfl) (by kernel_rfl) ⟨Ext.drew,rfl⟩ ?_
      simp only[oas]
      repeat(refine zd (fun K' hK'=> ?_);go_simp;refine hK' _ ?_;clear hK' K')
      refine lG ?_
      repeat(first|go_big_quiet_step (fail)|quiet_step (fail))
      refine wpQuiet_nil ?_
      rintro _ ⟨u,rfl⟩
      have hbu:=bw2 u
      iterate 1 (refine wpList_step (fun K hK=> ?_);go_simp;refine hK _ _ ?_;clear hK K)
      refine NoPanic.normal ?_
      go_wp2
      go_roundw
      case rel=>exact⟨i+1,by omega,by omega,by go_num,hbu,Lib.hid (Hst.out (by omega))⟩
      case measure=>first|(simp[intOf];done)|(simp[intOf];omega)
    ·have g1:¬(i:Int)<(k:Int):=by omega
     have hr:=H0b.out (fun j h h1=>Hd.out j h (by have:=HN.out;omega) h1)
     subst hr
     go_wp2
     go_ret
     exact⟨by first|rfl|trivial,bel⟩
theorem Kf (m:Nat) (l:List Int) (h:∀x∈l,0≤x∧x<m):nr l<2 ^ m:=by
 unfold nr
 have key:∀(l:List Int) (s:Nat),s<2 ^ m→(∀x∈l,0≤x∧x<m)→l.foldl (fun s n=>s |||2 ^ n.toNat) s<2 ^ m:=by
  intro l
  induction l with
  |nil=>intro s hs _;exact hs
  |cons x l ih=>
   intro s hs h
   have hx:=h x (by simp)
   exact ih _ (Nat.or_lt_two_pow hs (Nat.pow_lt_pow_right (by decide) (by omega))) (fun y hy=>h y (by simp[hy]))
 exact key l 0 (Nat.two_pow_pos m) h
theorem sq {l:List (List (List Q4))} (h:eB l=0):l.length≤12∧∀s∈l,aa s=0:=by
 unfold eB at h
 split at h
 ·cases h
 ·rename_i h12
  refine⟨by omega, ?_⟩
  have hp:cx l=0:=by
   split at h
   ·assumption
   ·exact h
  clear h h12
  induction l with
  |nil=>intro s hs;cases hs
  |cons p l ih=>
   unfold cx at hp
   by_cases h0:nb p=0
   ·rw[if_pos h0]at hp
    intro s hs
    rcases List.mem_cons.1 hs with rfl|hs
    ·unfold nb at h0
     by_cases h1:aa s=0
     ·exact h1
     ·rw[if_neg h1]at h0;exact h0
    ·exact ih hp s hs
   ·rw[if_neg h0]at hp
    exact absurd hp h0
theorem DO {xs:List Int} {n:Int} (h:gh xs n=0):∀x∈xs,0≤x∧x<n:=by
 unfold gh at h
 split at h
 ·assumption
 ·cases h
def fsE (l:List (List (List Q4))) (xs:List Int):Int:=if eB l=0 then gh xs l.length else eB l
noncomputable def fsA (l:List (List (List Q4))) (xs:List Int):Option (Q3×Nat):=Ok (l.map (·.map bp)) (nr xs)
def Fn:Value:= .agg #[.slice none 0 0, .slice none 0 0, .int .i64 0, .int .i64 0, .int .i64 0]
theorem GO {X:World} {b B:Nat} {c0 c1 c2 c3 c4:Value} {T:TypeId} (hB:B≤b) (hR:X.heap[b]? =some (.cells #[c0,c1,c2,c3,c4] T (0,0))) (u0 u1 u2 u3 u4:Value):
  ∃Y,Y=(((((X.setCell ⟨b,0,none⟩ u0).setCell ⟨b,1,none⟩ u1).setCell ⟨b,2,none⟩ u2).setCell ⟨b,3,none⟩ u3).setCell ⟨b,4,none⟩ u4)∧Below B X Y∧Y.heap[b]? =some (.cells #[u0,u1,u2,u3,u4] T (0,0))∧
   ∀{base n:Nat} {v:Value} {xs:List Value} {e:TypeId},e≠T→X.ownsRow base e 1 v n xs→Y.ownsRow base e 1 v n xs:=by
 have r1:=br hR 0 u0
 have r2:=br r1 1 u1
 have r3:=br r2 2 u2
 have r4:=br r3 3 u3
 have r5:=br r4 4 u4
 exact⟨_,rfl,(((((Below.refl B X).setCell (p:=⟨b,0,none⟩) hB u0).setCell (p:=⟨b,1,none⟩) hB u1).setCell (p:=⟨b,2,none⟩) hB u2).setCell (p:=⟨b,3,none⟩) hB u3).setCell (p:=⟨b,4,none⟩) hB u4,r5,fun hT h=>eU (eU (eU (eU (eU h hR hT) r1 hT) r2 hT) r3 hT) r4 hT⟩
def MY (l:List (List (List Q4))) (xs:List Int) (W:World) (e:Ending) (w':World):Prop:=Below W.heap.size W w'∧
 ((fsE l xs≠0∧e= .returned (.tuple #[Fn, .bool false, .int .i64 (fsE l xs)]))∨
 (fsE l xs=0∧fsA l xs=none∧e= .returned (.tuple #[Fn, .bool false, .int .i64 0]))∨
 (fsE l xs=0∧∃v o cs,v∈ways26∧fsA l xs=some (v,o)∧e= .returned (.tuple #[.agg cs, .bool true, .int .i64 0])∧Mf W.heap.size w' (nr xs) o v cs))
theorem Iy (l:List (List (List Q4))) (xs:List Int) (lv nv:Value) (W:World) (hL:∀s∈l,∀c∈s,c.length≤1000000) (hxl:xs.length≤1000000) (h:SolsV W lv l) (hn:Ints W nv xs) (hT:TabAt 1 Lib.deBruijn64tab W)
  (hsym:eB l=0→∀v∈ways26,∀i k,Cb (l.map (·.map bp)) (-v.1, -v.2.1, -v.2.2) k i=Cb (l.map (·.map bp)) v i k):
  Calls Tryz.prog 22 #[lv,nv] W (MY l xs W):=by
 have HCk:=fun W' (h':Below W.heap.size W W')=>Lib.hid (Gd l lv W' hL (SolsV.below h h'))
 have HCs:=fun W' (h':Below W.heap.size W W')=>Lib.hid (En xs nv l.length W' hxl (Ints.below hn h'))
 have HSc:=fun(h0:eB l=0) W' (h':Below W.heap.size W W')=>Lib.hid (Fe l lv W' (fun s hs=>⟨(rk ((sq h0).2 s hs)).1,Nat.le_trans (rk ((sq h0).2 s hs)).2 (by decide)⟩) (Nat.le_trans (sq h0).1 (by decide)) (SolsV.below h h'))
 have HSt:=fun(h0:eB l=0) (h1:gh xs l.length=0) W' (h':Below W.heap.size W W')=>Lib.hid (Cx xs nv W' (fun x hx=>by have:=DO h1 x hx;have:=(sq h0).1;omega) hxl (Ints.below hn h'))
 have HFi:=fun(h0:eB l=0) (h1:gh xs l.length=0) (sb mb:Nat) (pv:Value) (W':World) (h':Below W.heap.size W W') (k1:W'.heap[sb]? =some (.cells #[pv, .map (some mb)] 143 (0,0))) (k2:OwM W' mb 0 (.map [])) (k3:PtsV W' pv (l.map (·.map bp)))=>
  Lib.hid (Iv (l.map (·.map bp)) (nr xs) sb mb 0 (.map []) pv W' (fun p hp=>by
   obtain⟨s,hs,rfl⟩:=List.mem_map.1 hp
   have:=rk ((sq h0).2 s hs)
   exact⟨Dm this.1,by rw[List.length_map];exact Nat.le_trans this.2 (by decide)⟩) (by rw[List.length_map];exact(sq h0).1) (by rw[List.length_map];exact Kf _ _ (DO h1)) k1
   ⟨k2,fun v _ hh=>by simp[Maps.has]at hh⟩ (by omega) (hsym h0) k3 (ma hT h'))
 have He1:Hid (eB l≠0→fsE l xs=eB l):=Lib.hid (fun h=>by unfold fsE;rw[if_neg h])
 have He2:Hid (eB l=0→fsE l xs=gh xs l.length):=Lib.hid (fun h=>by unfold fsE;rw[if_pos h])
 have HlV:Hid (∃a c,lv= .slice a l.length c):=Lib.hid (by obtain⟨a,n,c,rfl,hn,_⟩:=h;exact⟨a,c,by rw[hn]⟩)
 have HnV:Hid (∃a c,nv= .slice a xs.length c):=Lib.hid (by obtain⟨a,n,c,rfl,hn',_⟩:=hn;exact⟨a,c,by rw[hn']⟩)
 obtain⟨la,lc,rfl⟩:=HlV.out
 obtain⟨na,nc,rfl⟩:=HnV.out
 obtain⟨ln,Hln⟩:∃ln,Hid (l.length=ln):=⟨_,Lib.hid rfl⟩
 obtain⟨A,HA⟩:∃A,Hid (eB l=A):=⟨_,Lib.hid rfl⟩
 obtain⟨E,HE⟩:∃E,Hid (gh xs l.length=E):=⟨_,Lib.hid rfl⟩
 obtain⟨G,HG⟩:∃G,Hid (nr xs=G):=⟨_,Lib.hid rfl⟩
 obtain⟨xn,Hxn⟩:∃xn,Hid (xs.length=xn):=⟨_,Lib.hid rfl⟩
 rw[HA.out]at HCk He1 He2 HSc HSt HFi
 rw[HE.out]at HCs He2 HSt HFi
 simp only[HG.out]at HSt HFi
 rw[Hln.out]at HCk HCs HSc ⊢
 rw[Hxn.out]at HCs HSt ⊢
 clear h hn hsym hL hxl HlV HnV HA HE hT
 go_enter Tryz.func22,Tryz.ntmps22
 go_wp2_with fail
 refine((HCk _ bel).out).mono ?_
 rintro e w1 ⟨rfl,hb1⟩
 have hR1:w1.heap[W.heap.size]? =some (.cells #[.slice none 0 0, .slice none 0 0, .int .i64 0, .int .i64 0, .int .i64 0] 50 (0,0)):=(hb1.block _ (by simp)).trans (ai rfl)
 have hbw1:Below W.heap.size W w1:=fB bel hb1
 clear HCk
 have hR1':=hR1
 obtain⟨r0,r1,r2,r3,r4,rf,rz⟩:=bM hR1'
 obtain⟨Y,hY,hbY,hRY, -⟩:=GO (Nat.le_refl _) hR1 (.slice none 0 0) (.slice none 0 0) (.int .i64 0) (.int .i64 0) (.int .i64 0)
 by_cases hA:A=0
 ·subst hA
  have He2':=Lib.hid (He2.out rfl)
  have HG':=HG
  have HSc':=fun W' h'=>Lib.hid (HSc rfl W' h').out
  have HSt':=fun h1 W' h'=>Lib.hid (HSt rfl h1 W' h').out
  have HFi':=fun h1 sb mb pv W' h' k1 k2 k3=>Lib.hid (HFi rfl h1 sb mb pv W' h' k1 k2 k3).out
  clear HSc HSt HFi He1 He2 hY hbY hRY Y
  go_wp2_with fail
  refine((HCs _ bel).out).mono ?_
  rintro e w2 ⟨rfl,hb2⟩
  have hb12:Below w1.heap.size w1 w2:=fB bel hb2
  have hbw2:=fB hbw1 hb12
  have hR2:=(hb12.block _ rz).trans hR1
  clear HCs r0 r1 r2 r3 r4 rf
  have hR2':=hR2
  obtain⟨r0,r1,r2,r3,r4,rf,rz2⟩:=bM hR2'
  by_cases hE:E=0
  ·subst hE
   have HSt2:=fun W' h'=>Lib.hid (HSt' rfl W' h').out
   have HFi2:=fun sb mb pv W' h' k1 k2 k3=>Lib.hid (HFi' rfl sb mb pv W' h' k1 k2 k3).out
   clear HSt' HFi' r0 r1 r2 r3 r4 rf
   go_wp2_with fail
   refine((HSc' _ bel).out).mono ?_
   rintro e w3 ⟨sb,mb,pv,rfl,hb3,hS3,hM3,hmb,hsb,hne,hP3⟩
   have hb23:Below w2.heap.size w2 w3:=fB bel hb3
   have hbw3:=fB hbw2 hb23
   have hmb2:w2.heap.size≤mb:=by first|exact hmb|(simp at hmb;omega)
   clear HSc'
   go_wp2_with fail
   refine((HSt2 _ bel).out).mono ?_
   rintro e w4 ⟨rfl,rfl⟩
   clear HSt2
   go_wp2_with fail
   refine((HFi2 sb mb pv _ hbw3 hS3 hM3 hP3).out).mono ?_
   rintro e w5 ⟨hbm, -,h5⟩
   clear HFi2 hS3 hM3 hP3
   have hWz:W.heap.size<w2.heap.size:=rz2
   have hbw5:Below W.heap.size W w5:=hbw3.trans (hbm.1.mono (by omega))
   have hR5:w5.heap[W.heap.size]? =some (.cells #[.slice none 0 0, .slice none 0 0, .int .i64 0, .int .i64 0, .int .i64 0] 50 (0,0)):=(hbm.2.2 _ (by have:=hb23.size;omega) (by omega)).trans ((hb23.block _ rz2).trans hR2)
   have hR5':=hR5
   obtain⟨r0,r1,r2,r3,r4,rf,rz5⟩:=bM hR5'
   have hfA:fsA l xs=Ok (l.map (·.map bp)) G:=by unfold fsA;rw[HG.out]
   rcases h5 with⟨hf,rfl⟩|⟨⟨v0,v1,v2⟩,o,cs,hv,hf,rfl,gv,ov,rfl,o1,o2⟩
   ·rw[←hfA]at hf
    obtain⟨Y,hY,hbY,hRY, -⟩:=GO (Nat.le_refl _) hR5 (.slice none 0 0) (.slice none 0 0) (.int .i64 0) (.int .i64 0) (.int .i64 0)
    go_wp2
    rw[←hY]
    clear r0 r1 r2 r3 r4 rf hY
    have hYz:=ah hRY
    obtain⟨r0,r1,r2,r3,r4,rf,_⟩:=bM ((aB (o:= .cells #[.slice none 0 0, .slice none 0 0, .int .i64 0, .int .i64 0, .int .i64 0] 50) hYz).trans hRY)
    refine bodyPost_ret (v:= .tuple #[Fn, .bool false, .int .i64 0]) (by simp[Fn,results,Tryz.results22,go_sem,r0,r1,r2,r3,r4]) rfl ⟨(hbw5.trans hbY).alloc (by omega) _, .inr (.inl ⟨He2'.out,hf,rfl⟩)⟩
   ·rw[←hfA]at hf
    have ho1:=Cn o1 hbw3.size
    have ho2:=Cn o2 hbw3.size
    obtain⟨ga,gc,rfl⟩:=aT ho1
    obtain⟨oa,oc,rfl⟩:=aT ho2
    have Ho1:=Lib.hid ho1
    have Ho2:=Lib.hid ho2
    clear ho1 ho2 o1 o2
    obtain⟨Y,hY,hbY,hRY,hoY⟩:=GO (Nat.le_refl _) hR5 (.slice ga (av G).length gc) (.slice oa (av o).length oc) (.int .i64 v0) (.int .i64 v1) (.int .i64 v2)
    go_wp2
    rw[←hY]
    clear r0 r1 r2 r3 r4 rf hY
    have hYz:=ah hRY
    obtain⟨r0,r1,r2,r3,r4,rf,_⟩:=bM ((aB (o:= .cells #[.slice ga (av G).length gc, .slice oa (av o).length oc, .int .i64 v0, .int .i64 v1, .int .i64 v2] 50) hYz).trans hRY)
    refine bodyPost_ret (v:= .tuple #[.agg #[.slice ga (av G).length gc, .slice oa (av o).length oc, .int .i64 v0, .int .i64 v1, .int .i64 v2], .bool true, .int .i64 0]) (by simp[results,Tryz.results22,go_sem,r0,r1,r2,r3,r4]) rfl ⟨(hbw5.trans hbY).alloc (by omega) _, .inr (.inr ⟨He2'.out,(v0,v1,v2),o,_,hv,hf,rfl,_,_,rfl, ?_,(hoY (by decide) Ho2.out).alloc _⟩)⟩
    rw[HG.out]
    exact(hoY (by decide) Ho1.out).alloc _
  ·have hE':(E !=0)=true:=by simpa using hE
   obtain⟨Y,hY,hbY,hRY, -⟩:=GO (Nat.le_refl _) hR2 (.slice none 0 0) (.slice none 0 0) (.int .i64 0) (.int .i64 0) (.int .i64 0)
   go_wp2
   rw[←hY]
   clear r0 r1 r2 r3 r4 rf hY
   obtain⟨r0,r1,r2,r3,r4,rf,_⟩:=bM hRY
   refine bodyPost_ret (v:= .tuple #[Fn, .bool false, .int .i64 E]) (by simp[Fn,results,Tryz.results22,go_sem,r0,r1,r2,r3,r4]) rfl ⟨hbw2.trans hbY, .inl ⟨by rw[He2'.out];exact hE,by rw[He2'.out]⟩⟩
 ·have hA':(A !=0)=true:=by simpa using hA
  have hf:=He1.out hA
  clear HSc HSt HFi He2 HCs
  go_wp2
  rw[←hY]
  clear r0 r1 r2 r3 r4 rf hY
  obtain⟨r0,r1,r2,r3,r4,rf,_⟩:=bM hRY
  refine bodyPost_ret (v:= .tuple #[Fn, .bool false, .int .i64 A]) (by simp[Fn,results,Tryz.results22,go_sem,r0,r1,r2,r3,r4]) rfl ⟨hbw1.trans hbY, .inl ⟨by rw[hf];exact hA,by rw[hf]⟩⟩
end
section
open Go.RowKit Go.Shelf
theorem Fo:(Tryz.prog.info? 97).map (fun i=>i.size)=some 2:=by kernel_rfl
theorem DP:(Tryz.prog.info? 5).map (fun i=>(i.zero,i.size,i.bytes))=some (some (.int .u8 0),1,1):=by kernel_rfl
theorem DQ:Tryz.prog.underlying 95=some (.slice 5):=by kernel_rfl
theorem Kg:Tryz.prog.underlying 9=some .string:=by kernel_rfl
theorem Co:Tryz.prog.underlying 94=some (.pointer 97):=by kernel_rfl
theorem Fp:Tryz.prog.underlying 186=some .unsafePointer:=by kernel_rfl
theorem Kh:liesAt Tryz.prog Tryz.prog.depth 97 (2 / Tryz.prog.cellsOf 97) 0 97 1=true:=by kernel_rfl
theorem Fq (b:Nat) (w:World) (h0:w.cell? ⟨b,0,none⟩=some (.pointer (some ⟨b,0,none⟩))):
  Calls Tryz.prog 74 #[.pointer (some ⟨b,0,none⟩)] w fun e w'=>e= .returned (.tuple #[])∧w'=w:=by
 obtain⟨j,hj,hjs⟩:=Option.map_eq_some_iff.1 Fo
 have hlt:=World.block_lt_of_cell? w _ h0
 simp only at hlt
 have hne:=Lib.run_neq_ptr_same w (⟨b,0,none⟩:Addr) Co hj
 go_enter Tryz.func74,Tryz.ntmps74
 go_wp2
 go_end0
 exact⟨rfl,rfl⟩
theorem Eo (b:Nat) (w:World) (h0:w.cell? ⟨b,0,none⟩=some (.pointer none)) (hsh:w.shape? b=some (97,2)) (hfz:w.frozen? ⟨b,0,none⟩=false):
  Calls Tryz.prog 74 #[.pointer (some ⟨b,0,none⟩)] w fun e w'=>e= .returned (.tuple #[])∧w'=w.setCell ⟨b,0,none⟩ (.pointer (some ⟨b,0,none⟩)):=by
 obtain⟨j,hj,hjs⟩:=Option.map_eq_some_iff.1 Fo
 have hlt:=World.block_lt_of_cell? w _ h0
 simp only at hlt
 have hto:=Lib.run_to_unsafe w (⟨b,0,none⟩:Addr) Co Fp hj (by rw[hjs];decide) hsh (Nat.zero_lt_succ 1)
 have hfrom:=Lib.run_from_unsafe w (⟨b,0,none⟩:Addr) Fp Co hj hsh Kh
 have hne:∀w,(binOp .neq 94 (.pointer (some ⟨b,0,none⟩)) (.pointer (some ⟨b,0,none⟩))).run Tryz.prog w= .ok (.bool false) w:=fun w=>Lib.run_neq_ptr_same w (⟨b,0,none⟩:Addr) Co hj
 have hcall:∀w,(callFunc 106 #[.pointer (some ⟨b,0,none⟩)]).run Tryz.prog w= .ok (.value (.pointer (some ⟨b,0,none⟩))) w:=fun w=>by
  rw[run_callFunc_extern Tryz.func106 (by kernel_rfl) (by kernel_rfl) (by kernel_rfl) (e:=Extern.AbiNoEscape.same) (by kernel_rfl)]
  rfl
 go_enter Tryz.func74,Tryz.ntmps74
 go_wp2
 go_end0
 exact⟨rfl,rfl⟩
abbrev vm (B b:Nat) (bs:List Value) (w:World):Prop:=Lib.IsBuilder 97 5 B b bs w
abbrev Mj (B b:Nat) (bs:List Value) (w:World):Prop:=Lib.BuilderAt 97 5 B b (.pointer (some ⟨b,0,none⟩)) bs w
def KeepU (b:Nat) (w w':World):Prop:=∀g cells t,g≠b→5≠t→w.heap[g]? =some (.cells cells t (0,0))→w'.heap[g]? =some (.cells cells t (0,0))
theorem KeepU.refl (b:Nat) (w:World):KeepU b w w:=fun _ _ _ _ _ h=>h
theorem KeepU.trans {b:Nat} {w w1 w2:World} (h:KeepU b w w1) (h':KeepU b w1 w2):KeepU b w w2:=fun g c t hg ht hc=>h' g c t hg ht (h g c t hg ht hc)
theorem KeepU.setCell (b o:Nat) (w:World) (u:Value):KeepU b w (w.setCell ⟨b,o,none⟩ u):=fun g _ _ hg _ h=>(Below.heap_setCell w ⟨b,o,none⟩ u g hg).trans h
theorem KeepU.alloc (b:Nat) (w:World) (o:Obj):KeepU b w (w.alloc o):=fun g _ _ _ _ h=>(aB (ah h)).trans h
theorem KeepU.grown {b B n:Nat} {w w':World} {v:Value} {xs:List Value} (ho:w.ownsRow B 5 1 v n xs) (hg:w.grownBy w' v.ownBlock):KeepU b w w':=fun g _ _ _ ht h=>
 (hg.block _ (ah h) (fun e=>aG ho h ht e.symm)).trans h
theorem Du (B b:Nat) (bs:List Value) (w:World) (h:vm B b bs w):
  Calls Tryz.prog 74 #[.pointer (some ⟨b,0,none⟩)] w fun e w'=>e= .returned (.tuple #[])∧(Mj B b bs w'∧Below B w w'∧KeepU b w w'):=by
 rcases h with h|h
 ·refine(Eo b w h.cell0 h.shape h.frozen0).mono ?_
  rintro e w' ⟨rfl,rfl⟩
  exact⟨rfl,h.used _,(Below.refl B w).setCell (p:=⟨b,0,none⟩) h.1 _,KeepU.setCell _ _ _ _⟩
 ·refine(Fq b w h.cell0).mono ?_
  rintro e w' ⟨rfl,rfl⟩
  exact⟨rfl,h,Below.refl B _,KeepU.refl _ _⟩
set_option maxRecDepth 100000 in
theorem Iz (B b:Nat) (bs:List Value) (c:Int) (w:World) (h:vm B b bs w) (hlen:bs.length+1≤140737488355328) (hBw:B≤w.heap.size):
  Calls Tryz.prog 49 #[.pointer (some ⟨b,0,none⟩), .int .u8 c] w fun e w'=>e= .returned .nilIface∧(Mj B b (bs++[.int .u8 c]) w'∧Below B w w'∧KeepU b w w'):=by
 obtain⟨i0,hi,hz0,hz1,hz2⟩:=info_parts DP
 have HC:=Lib.hid (Du B b bs w h)
 have Hi0:=Lib.hid (And.intro hi (And.intro hz0 (And.intro hz1 hz2)))
 clear hi hz0 hz1 hz2 h
 go_enter Tryz.func49,Tryz.ntmps49
 go_wp2_with fail
 refine(HC.out).mono ?_
 rintro e w1 ⟨rfl,h1,hb1,hk1⟩
 obtain⟨hB,v,hbk,hown,hne⟩:=h1
 have c0:w1.cell? ⟨b,0,none⟩=some (.pointer (some ⟨b,0,none⟩)):=by rw[Lib.cell_of_heap hbk];rfl
 have c1:w1.cell? ⟨b,1,none⟩=some v:=by rw[Lib.cell_of_heap hbk];rfl
 have HBK:=Lib.hid hbk
 have HO:=Lib.hid hown
 have zb:=ah hbk
 obtain⟨va,vc,rfl⟩:=aT hown
 clear HC hbk hown
 go_wp2_with (at_builtin;refine wpList_append_own _ rfl _ _ 95 rfl B 5 i0 (.int .u8 0) 1 1 DQ Hi0.out.1 Hi0.out.2.1 Hi0.out.2.2.1 Hi0.out.2.2.2 rfl (by decide) _ _ _ rfl (HO.out.alloc _) ⟨w1.heap.size,0,none⟩ 1 1 [.int .u8 c] rfl rfl ?c1 ?c2 ?c3 ?c4 ?c5 ?_)
 case c1=>
  intro j u hj
  match j,hj with
  |0,hj=>simp at hj;subst hj;simp[Addr.add]
 case c2=>intro u hu;simp at hu;subst hu;rfl
 case c3=>unfold maxLen;omega
 case c4=>omega
 case c5=>have:=hb1.size;simp;omega
 intro v' w2 hown' hgrow _
 have HB2:Hid (w2.heap[b]? =some (.cells #[.pointer (some ⟨b,0,none⟩), .slice va bs.length vc] 97 (0,0))):=Lib.hid (by
  rw[hgrow.block b (by simp;omega) (fun e=>hne e.symm),Lib.alloc_old w1 _ b zb]
  exact HBK.out)
 have HO2:=Lib.hid hown'
 have HG:=Lib.hid hgrow
 obtain⟨va2,vc2,rfl⟩:=aT hown'
 clear c0 c1 hown' hgrow
 have d0:w2.cell? ⟨b,0,none⟩=some (.pointer (some ⟨b,0,none⟩)):=by rw[Lib.cell_of_heap HB2.out];rfl
 have d1:w2.cell? ⟨b,1,none⟩=some (.slice va bs.length vc):=by rw[Lib.cell_of_heap HB2.out];rfl
 have f1:w2.frozen? ⟨b,1,none⟩=false:=Lib.frozen_of_heap HB2.out 1
 have zb2:=ah HB2.out
 go_wp2
 go_ret
 refine⟨rfl, ?_, ?_, ?_⟩
 ·exact Lib.BuilderAt.put (T:=97) (e:=5) hB HB2.out (bs':=bs++[.int .u8 c]) (by simpa using HO2.out) (by decide)
 ·exact((hb1.alloc (by have:=hb1.size;omega) _).grown HG.out (by have:=hb1.size;simp;omega) (fun k hk=>(HO.out.lt k hk).1)).setCell (p:=⟨b,1,none⟩) hB _
 ·exact((hk1.trans (KeepU.alloc _ _ _)).trans (KeepU.grown (HO.out.alloc _) HG.out)).trans (KeepU.setCell _ _ _ _)
set_option maxRecDepth 100000 in
theorem Ki (B b:Nat) (bs:List Value) (s:ByteArray) (w:World) (h:vm B b bs w) (hlen:bs.length+s.size≤140737488355328) (hBw:B≤w.heap.size):
  Calls Tryz.prog 46 #[.pointer (some ⟨b,0,none⟩), .string s] w fun e w'=>e= .returned (.tuple #[.int .i64 s.size, .nilIface])∧(Mj B b (bs++Lib.strCells s) w'∧Below B w w'∧KeepU b w w'):=by
 obtain⟨i0,hi,hz0,hz1,hz2⟩:=info_parts DP
 have HC:=Lib.hid (Du B b bs w h)
 have Hi0:=Lib.hid (And.intro hi (And.intro hz0 (And.intro hz1 hz2)))
 clear hi hz0 hz1 hz2 h
 go_enter Tryz.func46,Tryz.ntmps46
 go_wp2_with fail
 refine(HC.out).mono ?_
 rintro e w1 ⟨rfl,h1,hb1,hk1⟩
 obtain⟨hB,v,hbk,hown,hne⟩:=h1
 have c0:w1.cell? ⟨b,0,none⟩=some (.pointer (some ⟨b,0,none⟩)):=by rw[Lib.cell_of_heap hbk];rfl
 have c1:w1.cell? ⟨b,1,none⟩=some v:=by rw[Lib.cell_of_heap hbk];rfl
 have HBK:=Lib.hid hbk
 have HO:=Lib.hid hown
 have zb:=ah hbk
 obtain⟨va,vc,rfl⟩:=aT hown
 clear HC hbk hown
 go_wp2_with (at_builtin;refine Lib.wpList_append_own_string _ rfl _ _ 95 9 rfl B 5 i0 DQ Kg Hi0.out.1 Hi0.out.2.1 Hi0.out.2.2.1 Hi0.out.2.2.2 _ _ _ rfl HO.out s rfl ?c3 ?c4 ?c5 ?_)
 case c3=>unfold maxLen;omega
 case c4=>omega
 case c5=>have:=hb1.size;omega
 intro v' w2 hown' hgrow _
 have HB2:Hid (w2.heap[b]? =some (.cells #[.pointer (some ⟨b,0,none⟩), .slice va bs.length vc] 97 (0,0))):=Lib.hid (by
  rw[hgrow.block b zb (fun e=>hne e.symm)]
  exact HBK.out)
 have HO2:=Lib.hid hown'
 have HG:=Lib.hid hgrow
 obtain⟨va2,vc2,rfl⟩:=aT hown'
 clear c0 c1 hown' hgrow
 have d0:w2.cell? ⟨b,0,none⟩=some (.pointer (some ⟨b,0,none⟩)):=by rw[Lib.cell_of_heap HB2.out];rfl
 have d1:w2.cell? ⟨b,1,none⟩=some (.slice va bs.length vc):=by rw[Lib.cell_of_heap HB2.out];rfl
 have f1:w2.frozen? ⟨b,1,none⟩=false:=Lib.frozen_of_heap HB2.out 1
 have zb2:=ah HB2.out
 go_wp2
 go_ret2
 refine⟨rfl, ?_, ?_, ?_⟩
 ·exact Lib.BuilderAt.put (T:=97) (e:=5) hB HB2.out (bs':=bs++Lib.strCells s) (by simpa [Lib.strCells_length]using HO2.out) (by decide)
 ·exact(hb1.grown HG.out (by have:=hb1.size;omega) (fun k hk=>(HO.out.lt k hk).1)).setCell (p:=⟨b,1,none⟩) hB _
 ·exact(hk1.trans (KeepU.grown HO.out HG.out)).trans (KeepU.setCell _ _ _ _)
theorem wd (l s:List UInt8):Lib.byteCells (l++s)=Lib.byteCells l++Lib.byteCells s:=List.map_append
theorem GP (B b:Nat) (l s:List UInt8) (w:World) (h:vm B b (Lib.byteCells l) w) (hlen:l.length+s.length≤140737488355328) (hBw:B≤w.heap.size):
  Calls Tryz.prog 46 #[.pointer (some ⟨b,0,none⟩), .string ⟨s.toArray⟩] w fun e w'=>e= .returned (.tuple #[.int .i64 (⟨s.toArray⟩:ByteArray).size, .nilIface])∧(vm B b (Lib.byteCells (l++s)) w'∧Below B w w'∧KeepU b w w'):=by
 have hs:(⟨s.toArray⟩:ByteArray).size=s.length:=by simp[ByteArray.size]
 refine(Ki B b (Lib.byteCells l) ⟨s.toArray⟩ w h (by rw[hs,Lib.byteCells_length];exact hlen) hBw).mono ?_
 rintro e w' ⟨rfl,h1,h2,h3⟩
 rw[Lib.strCells_toArray, ←wd]at h1
 exact⟨rfl, .inr h1,h2,h3⟩
end
section
open Go.RowKit Go.Shelf
set_option maxRecDepth 100000
attribute [local go_sem] Ext.cell Ext.frozen
def nf (xs:List Int):List UInt8:=Lib.join (xs.map Lib.itoa) [44]
theorem Fs (n:Nat) (sep:List UInt8):∀ls:List (List UInt8),(∀l∈ls,l.length≤n)→(Lib.join ls sep).length≤ls.length*(n+sep.length)
 | [],_=>by simp[Lib.join_nil]
 | [a],h=>by
  rw[Lib.join_one]
  have:=h a (by simp)
  simp
  omega
 |a::b::ls,h=>by
  have ih:=Fs n sep (b::ls) (fun l hl=>h l (List.mem_cons_of_mem _ hl))
  have e:Lib.join (a::b::ls) sep=a++sep++Lib.join (b::ls) sep:=by simp[Lib.join,List.intercalate]
  rw[e,List.length_append,List.length_append]
  have:=h a (by simp)
  simp only[List.length_cons]at ih ⊢
  rw[Nat.add_mul (ls.length+1) 1]
  omega
theorem CD (xs:List Int) (hx:∀x∈xs, -1000000000≤x∧x≤1000000000):(nf xs).length≤xs.length*22:=by
 have:=Fs 21 [44] (xs.map Lib.itoa) (fun l hl=>by
  obtain⟨x,hx',rfl⟩:=List.mem_map.1 hl
  have:=hx x hx'
  exact Lib.itoa_length_le x (by omega) (by omega))
 simpa [nf]using this
theorem Dv (xs:List Int) (v:Value) (W:World) (hx:∀x∈xs, -1000000000≤x∧x≤1000000000) (hl:xs.length≤1000000) (hv:Ints W v xs) (htab:Lib.TabIs Tryz.prog W "internal/strconv.uint64pow10" .u64 Lib.pow10Tab):
  Calls Tryz.prog 47 #[v] W (Ret W (.string ⟨(nf xs).toArray⟩)):=by
 obtain⟨i0,hi0,hz0,hz1,hz2⟩:=info_parts vj
 have Hi0:=Lib.hid (And.intro hi0 (And.intro hz0 (And.intro hz1 hz2)))
 clear hi0 hz0 hz1 hz2
 obtain⟨a,n,c,rfl,hn,_,hi⟩:=hv
 have HX:=Lib.hid hi
 have HN:=Lib.hid hn
 have HT:=Lib.hid htab
 have HB:=fun i (h:i<xs.length)=>Lib.hid (hx _ (List.getElem_mem h))
 have HS:=fun i (h:i<xs.length)=>Lib.hid (show(xs.take (i+1)).map txt=(xs.take i).map txt++[txt xs[i]] by rw[List.take_succ_eq_append_getElem h,List.map_append];rfl)
 have HE:Hid ((xs.take n).map txt=xs.map txt):=Lib.hid (by rw[List.take_of_length_le (by omega)])
 have HJ:Hid (nf xs=Lib.join ((xs.map txt).map (·.data.toList)) [44]):=Lib.hid (by unfold nf;rw[List.map_map];rfl)
 have HCL:=Lib.hid (CD xs hx)
 clear hi hn hx htab
 go_enter Tryz.func47,Tryz.ntmps47
 go_wp2
 go_loopw [3,8] (fun s x wr=>Below W.heap.size W wr∧∃k:Nat,k≤n∧x= .int .i64 k∧Hid (wr.ownsRow W.heap.size 9 1 s k (((xs.take k).map txt).map Value.string))) (fun _ x _=>n-(intOf x).toNat)
 case atStart=>exact⟨Below.refl _ _,0,by omega,rfl,Lib.hid (World.ownsRow_nil _ _ _ _)⟩
 case round=>
  obtain⟨hb,k,hk,rfl,HO⟩:=hrel
  obtain⟨sa,sc,rfl⟩:=aT HO.out
  by_cases hlt:k<n
  ·have g1:(k:Int)<(n:Int):=by omega
   have g2:(0:Int)≤(k:Int):=by omega
   have hil:k<xs.length:=by have:=HN.out;omega
   obtain⟨b,off,rfl,hi4⟩:=HX.out (by omega)
   have e0:=ab hb (hi4 k hil)
   have ze:=World.block_lt_of_cell? wr _ e0
   simp only at ze
   have HI:=Lib.hid (vi xs[k] (HB k hil).out wr (kl HT.out hb))
   have HSk:=Lib.hid ((HS k hil).out)
   clear HX HB HS hi4
   have Htx:Hid ((⟨(Lib.itoa xs[k]).toArray⟩:ByteArray)=txt xs[k]):=Lib.hid rfl
   rw[Htx.out]at HI
   generalize txt xs[k]=tx at*
   generalize xs[k]=y at*
   go_wp2_with fail
   refine(HI.out).mono ?_
   rintro e w1 ⟨rfl,hb1⟩
   have HO1:=Lib.hid (au HO.out hb1)
   have hbw1:=fB hb hb1
   clear HI HO e0 ze
   go_wp2_with (at_builtin;refine wpList_append_own _ rfl _ _ 150 rfl W.heap.size 9 i0 (.string ⟨#[]⟩) 1 16 vk Hi0.out.1 Hi0.out.2.1 Hi0.out.2.2.1 Hi0.out.2.2.2 rfl (by decide) _ k _ rfl (HO1.out.alloc _) ⟨_,0,none⟩ 1 1 [.string tx] rfl rfl ?c1 ?c2 ?c3 ?c4 ?c5 ?_)
   case c1=>
    intro jj uu hu
    rw[jY,aq (by simp) jj]
    simpa using hu
   case c2=>intro v hv;simp at hv;subst hv;rfl
   case c3=>unfold maxLen;omega
   case c4=>omega
   case c5=>simp;have:=hbw1.size;omega
   intro v' w4 hown4 hg4 _
   have hbx:Below w1.heap.size w1 (w1.alloc (.cells #[.string tx] 9)):=bel
   have hb4:Below W.heap.size W w4:=(fB hbw1 hbx).grown hg4 (fB hbw1 hbx).size (fun z hz=>by have:=(HO1.out.lt z hz).1;omega)
   have HO4:Hid (w4.ownsRow W.heap.size 9 1 v' (k+1) (((xs.take (k+1)).map txt).map Value.string)):=Lib.hid (by rw[HSk.out];simpa using hown4)
   clear hown4 hg4 HO1 hbx hb1 hbw1 hb
   obtain⟨va,vc,rfl⟩:=aT HO4.out
   go_wp2
   go_roundw
   case rel=>exact⟨hb4,k+1,by omega,by go_num,HO4⟩
   case measure=>first|(simp[intOf];done)|(simp[intOf];omega)
  ·obtain rfl:k=n:=by omega
   have HO2:Hid (wr.ownsRow W.heap.size 9 1 (.slice sa k sc) k ((xs.map txt).map Value.string)):=Lib.hid (by rw[←HE.out];exact HO.out)
   clear HX HB HS HO HE
   by_cases h0:k=0
   ·subst h0
    have hx0:xs=[]:=List.length_eq_zero_iff.1 HN.out
    subst hx0
    have HQ:Hid ((⟨(nf []).toArray⟩:ByteArray)=⟨#[]⟩):=Lib.hid rfl
    have HF:=fun a c W'=>Lib.hid (Tryz.strings_Join_none a c ⟨#[44]⟩ W')
    go_wp2_with fail
    refine((HF _ _ _).out).mono ?_
    rintro e w1 ⟨rfl,rfl⟩
    go_wp2
    go_ret
    exact⟨by rw[HQ.out];rfl,hb⟩
   ·obtain⟨g,cap,e,hcap,hlt2,hcl⟩:=Qx HO2.out (by rw[List.length_map];have:=HN.out;omega)
    have hxl:(xs.map txt).length=k:=by rw[List.length_map];exact HN.out
    rw[hxl]at e hcap
    cases e
    have HF:=Lib.hid (Tryz.strings_Join g 0 sc (xs.map txt) ⟨#[44]⟩ wr hcl hlt2 (by rw[hxl];have:=HN.out;omega) (by rw[hxl];exact hcap) (by
     have h9:=HCL.out
     rw[HJ.out]at h9
     have:(⟨#[44]⟩:ByteArray).data.toList=[44]:=rfl
     rw[this]
     have:=HN.out
     omega))
    rw[hxl]at HF
    have e2:(⟨#[44]⟩:ByteArray).data.toList=[44]:=rfl
    rw[e2, ←HJ.out]at HF
    clear hcl HO2 e2 hxl hcap
    go_wp2_with fail
    refine(HF.out).mono ?_
    rintro e w1 ⟨rfl,hb1⟩
    go_wp2
    go_ret
    exact⟨rfl,fB hb hb1⟩
end
section
open Go.RowKit Go.Shelf
attribute [local go_sem] Ext.cell Ext.frozen
def Ce (g o:List Int) (v:Q3):Int:=if g.length=0∨o.length=0 then 13 else if(g++o).any (fun n=>decide (n<0∨99<n))then 2 else if 12<g.length∨12<o.length then 8 else mK v
set_option maxRecDepth 100000 in
theorem DE (g o:List Int) (gv ov:Value) (x y z:Int) (W:World) (hg:Ints W gv g) (ho:Ints W ov o) (hl:g.length≤1000) (hl2:o.length≤1000):
  Calls Tryz.prog 45 #[.agg #[gv,ov, .int .i64 x, .int .i64 y, .int .i64 z]] W (Ret W (.int .i64 (Ce g o (x,y,z)))):=by
 have HCW:=fun W'=>Lib.hid (wA x y z W')
 have H13:Hid (g.length=0∨o.length=0→Ce g o (x,y,z)=13):=Lib.hid (fun h=>by unfold Ce;rw[if_pos h])
 have H2:Hid (g.length≠0→o.length≠0→(g++o).any (fun n=>decide (n<0∨99<n))=true→Ce g o (x,y,z)=2):=Lib.hid (fun h h1 h2=>by unfold Ce;rw[if_neg (by omega),if_pos h2])
 have H8:Hid (g.length≠0→o.length≠0→(g++o).any (fun n=>decide (n<0∨99<n))=false→12<g.length∨12<o.length→Ce g o (x,y,z)=8):=Lib.hid (fun h h1 h2 h3=>by unfold Ce;rw[if_neg (by omega),if_neg (by rw[h2];simp),if_pos h3])
 have H0:Hid (g.length≠0→o.length≠0→(g++o).any (fun n=>decide (n<0∨99<n))=false→¬(12<g.length∨12<o.length)→Ce g o (x,y,z)=mK (x,y,z)):=Lib.hid (fun h h1 h2 h3=>by unfold Ce;rw[if_neg (by omega),if_neg (by rw[h2];simp),if_neg h3])
 generalize Ce g o (x,y,z)=res at*
 generalize mK (x,y,z)=we at*
 obtain⟨ga,gn,gc,rfl,hgn,hgc,hgi⟩:=hg
 obtain⟨oa,on,oc,rfl,hon,hoc,hoi⟩:=ho
 obtain⟨V,HV⟩:∃V,Hid (W.alloc (.cells #[.slice ga gn gc, .slice oa on oc, .int .i64 x, .int .i64 y, .int .i64 z] 50)=V):=⟨_,Lib.hid rfl⟩
 have hV:Below W.heap.size W V:=by rw[←HV.out];exact bel
 have HB:Hid (V.heap[W.heap.size]? =some (.cells #[.slice ga gn gc, .slice oa on oc, .int .i64 x, .int .i64 y, .int .i64 z] 50 (0,0))):=Lib.hid (by rw[←HV.out];exact ai rfl)
 rw[hgn,hon]at H13 H2 H8 H0
 by_cases hg0:gn=0
 ·subst hg0
  have HT:=Lib.hid (H13.out (.inl rfl))
  go_enter Tryz.func45,Tryz.ntmps45
  go_wp2
  go_ret
  exact⟨aK HT.out.symm,bel⟩
 ·have hg0':((gn:Int)==0)=false:=by rw[beq_eq_false_iff_ne];omega
  by_cases ho0:on=0
  ·subst ho0
   have HT:=Lib.hid (H13.out (.inr rfl))
   clear hgi hoi
   go_enter Tryz.func45,Tryz.ntmps45
   go_wp2
   go_ret
   exact⟨aK HT.out.symm,bel⟩
  ·have ho0':((on:Int)==0)=false:=by rw[beq_eq_false_iff_ne];omega
   obtain⟨gb,goff,rfl,hgi'⟩:=hgi (by omega)
   obtain⟨ob,ooff,rfl,hoi'⟩:=hoi (by omega)
   obtain⟨U,HU⟩:∃U,Hid (V.alloc (.cells #[.slice (some ⟨gb,goff,none⟩) gn gc, .slice (some ⟨ob,ooff,none⟩) on oc] 48)=U):=⟨_,Lib.hid rfl⟩
   have hU:Below V.heap.size V U:=by rw[←HU.out];exact bel
   have hWU:=fB hV hU
   have HBU:=Lib.hid ((hU.block _ (ah HB.out)).trans HB.out)
   have hbk:U.heap[V.heap.size]? =some (.cells #[.slice (some ⟨gb,goff,none⟩) gn gc, .slice (some ⟨ob,ooff,none⟩) on oc] 48 (0,0)):=by rw[←HU.out];exact ai rfl
   have hcat:=Lib.hid (Qb U V.heap.size 0 2 [g.map (Value.int .i64),o.map (Value.int .i64)] (fun i hi=>by
    rcases(by simp at hi;omega:i=0∨i=1)with rfl|rfl
    ·exact⟨_,(ag hbk 0).trans rfl,pA (hgi'.below hWU) hgn⟩
    ·exact⟨_,(ag hbk 1).trans rfl,pA (hoi'.below hWU) hon⟩) (by simp) (by simp) (by
    intro cs hcs
    simp only[List.mem_cons,List.not_mem_nil,or_false]at hcs
    rcases hcs with rfl|rfl
    ·exact ss g
    ·exact ss o) (by simp;omega))
   have HE:Hid ([g.map (Value.int .i64),o.map (Value.int .i64)].flatten=(g++o).map (Value.int .i64)):=Lib.hid (by simp)
   have hVs:V.heap.size=W.heap.size+1:=by rw[←HV.out];simp
   rw[HE.out,hVs]at hcat
   have Hlen:Hid ((g++o).length=gn+on):=Lib.hid (by rw[List.length_append,hgn,hon])
   have hlg:gn≤1000:=by omega
   have hlo:on≤1000:=by omega
   have H2':=Lib.hid (H2.out hg0 ho0)
   have H8':=Lib.hid (H8.out hg0 ho0)
   have H0':=Lib.hid (H0.out hg0 ho0)
   obtain⟨b0,b1,b2,b3,b4,bf,bz⟩:=bM HB.out
   generalize g++o=xs at*
   clear hgi hoi hgi' hoi' H13 H2 H8 H0 HE hbk hl hl2
   go_enter Tryz.func45,Tryz.ntmps45
   go_wp2_with fail
   try rw[HV.out]
   try rw[HU.out]
   refine(hcat.out).mono ?_
   rintro e w1 ⟨r,m,rfl,hb1,hown⟩
   have hw1:Below W.heap.size W w1:=fB hWU hb1
   have HB1:=Lib.hid ((hb1.block _ (ah HBU.out)).trans HBU.out)
   obtain⟨rfl,q,cap,cur,rfl,hq,hcur⟩:=vl hown (by rw[Hlen.out];omega)
   have hcs:xs.length≤cap:=by
    rcases hown.2 with⟨h,_⟩|⟨_,_,_,h,_,_,h2,_⟩
    ·cases h
    ·cases h;exact h2
   have HQ:=Lib.hid hq
   have HC:=Lib.hid hcur
   have Hat:Hid (∀i (h:i<xs.length),xs[i]<0∨99<xs[i]→xs.any (fun n=>decide (n<0∨99<n))=true):=Lib.hid (fun i hi h=>List.any_eq_true.2 ⟨_,List.getElem_mem hi,decide_eq_true h⟩)
   have Haf:Hid ((∀i (h:i<xs.length),¬(xs[i]<0∨99<xs[i]))→xs.any (fun n=>decide (n<0∨99<n))=false):=Lib.hid (fun h=>by
    rw[List.any_eq_false]
    intro v hv
    obtain⟨i,hi,rfl⟩:=List.getElem_of_mem hv
    simpa using h i hi)
   generalize(xs.any fun n=>decide (n<0∨99<n))=an at*
   obtain⟨N,HN⟩:∃N,Hid (xs.length=N):=⟨_,Lib.hid rfl⟩
   rw[HN.out]at hcs ⊢
   have hN2:N≤2000:=by have:=Hlen.out;have:=HN.out;omega
   clear hown hq hcur hcat hb1 HB HBU b0 b1 b2 b3 b4 bf bz
   go_wp2
   go_loopw [22] (fun i wr=>∃k:Nat,k≤N∧i= .int .i64 k∧wr=w1∧Hid (∀j (h:j<xs.length),j<k→¬(xs[j]<0∨99<xs[j]))) (fun i _=>N-(intOf i).toNat)
   case atStart=>exact⟨0,by omega,rfl,rfl,Lib.hid (fun j _ h=>by omega)⟩
   case round=>
    obtain⟨k,hk,rfl,rfl,Hd⟩:=hrel
    by_cases hlt:k<N
    ·have g1:(k:Int)<(N:Int):=by omega
     have hkl:k<xs.length:=by have:=HN.out;omega
     have cj:=(ag HQ.out k).trans (HC.out k hkl)
     have zg:=ah HQ.out
     have Hbad:=Lib.hid (Hat.out k hkl)
     have Hst:Hid (¬(xs[k]<0∨99<xs[k])→∀j (h:j<xs.length),j<k+1→¬(xs[j]<0∨99<xs[j])):=Lib.hid (fun h j hj hji=>by
      by_cases e:j=k
      ·subst e;exact h
      ·exact Hd.out j hj (by omega))
     clear HC Hat Haf Hd
     generalize xs[k]=n at*
     by_cases h1:n<0
     ·have HT:=Lib.hid (H2'.out (Hbad.out (.inl h1)))
      clear Hbad Hst
      go_wp2
      go_ret
      exact⟨aK HT.out.symm,hw1⟩
     ·by_cases h2:99<n
      ·have HT:=Lib.hid (H2'.out (Hbad.out (.inr h2)))
       clear Hbad Hst
       go_wp2
       go_ret
       exact⟨aK HT.out.symm,hw1⟩
      ·have HT:=Lib.hid (Hst.out (by omega))
       clear Hbad Hst
       go_wp2
       go_roundw
       case rel=>exact⟨k+1,by omega,by go_num,by first|trivial|rfl,HT⟩
       case measure=>first|(simp[intOf];done)|(simp[intOf];omega)
    ·obtain rfl:k=N:=by omega
     have HF:=Lib.hid (Haf.out (fun i hi=>Hd.out i hi (by have:=HN.out;omega)))
     obtain⟨b0,b1,b2,b3,b4,bf,bz⟩:=bM HB1.out
     clear Hat Haf Hd HC H2'
     by_cases hg12:12<gn
     ·have HT:=Lib.hid (H8'.out HF.out (.inl hg12))
      have g3:(12:Int)<(gn:Int):=by omega
      clear H8' H0' HF
      go_wp2
      go_ret
      exact⟨aK HT.out.symm,hw1⟩
     ·have g3:¬(12:Int)<(gn:Int):=by omega
      by_cases ho12:12<on
      ·have HT:=Lib.hid (H8'.out HF.out (.inr ho12))
       have g4:(12:Int)<(on:Int):=by omega
       clear H8' H0' HF
       go_wp2
       go_ret
       exact⟨aK HT.out.symm,hw1⟩
      ·have g4:¬(12:Int)<(on:Int):=by omega
       have HT:=Lib.hid (H0'.out HF.out (by omega))
       clear H8' H0' HF
       go_wp2_with fail
       refine((HCW _).out).mono ?_
       rintro e w2 ⟨rfl,hb2⟩
       go_wp2
       go_ret
       exact⟨aK HT.out.symm,fB hw1 hb2⟩
end
end Go.Proofs.YtleamcmbhioedaaGreatDoor
