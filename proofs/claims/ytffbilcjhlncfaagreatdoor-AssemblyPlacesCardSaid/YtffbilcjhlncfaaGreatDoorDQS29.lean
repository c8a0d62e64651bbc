/- texts: M3 M4. -/
import Derived.Test.YtffbilcjhlncfaaGreatDoorDQS28
import Derived.Test.YtffbilcjhlncfaaGreatDoorDQS23
namespace Go.Proofs.YtffbilcjhlncfaaGreatDoor
set_option maxHeartbeats 8000000
set_option linter.all false
section
open Go.RowKit Go.Shelf Go.Lib
attribute [local go_sem] Ext.cell Ext.frozen
def LZ (ps:List Q4):Bod:=(ps,aS ps)
def kw (a b:List (List Q4)):Int:=if Tv a=0 then Tv b else Tv a
def clB (c d:List Q4):Bool:= !Cy c (aS c) d (aS d)&&fh (c++d) (aS (c++d))
def cy (a b:List (List Q4)):Bool:=a.any fun c=>b.any fun d=>clB c d
theorem DM {W w:World} {v:Value} {css:List (List Q4)} (h:BodR W w W.heap.size v css) (hb:Below W.heap.size W w):PartV w v (css.map LZ):=by
 obtain⟨xs,ho,hl,hX⟩:=h
 rcases ho.2 with⟨rfl,h0⟩|⟨g,cap,cur,rfl,hg,hh,hnc,hcm,hcs,htk⟩
 ·exact⟨none,0,0,rfl,by rw[qdo];exact h0,qaA _,fun h=>absurd h (by omega)⟩
 ·refine⟨_,_,_,rfl,qdo _,hnc,fun _=>⟨g,0,rfl,fun i hi=> ?_⟩⟩
  have hi':i<css.length:=by simpa using hi
  obtain⟨p,c,e1,e2,e3,e4⟩:=hX i hi'
  have hc:∀j,j<css.length*2→w.cell? ⟨g,j,none⟩=xs[j]? :=fun j hj=>by
   rw[bq hh, ←htk,qdx hj,Array.getElem?_toList]
  rw[qdB]
  exact⟨p,c,by rw[qfW,hc _ (by omega)];exact e1,by rw[qfW,hc _ (by omega)];exact e2,e3.below hb,jz e4⟩
def Ma (a b:List (List Q4)) (W:World) (e:Ending) (w':World):Prop:=Below W.heap.size W w'∧
 ((kw a b=0∧∃x y,e= .returned (.tuple #[x,y, .int .i64 0])∧PartV w' x (a.map LZ)∧PartV w' y (b.map LZ))∨
 (kw a b≠0∧e= .returned (.tuple #[.slice none 0 0, .slice none 0 0, .int .i64 (kw a b)])))
theorem JF (a b:List (List Q4)) (sv tv:Value) (W:World) (ha:∀c∈a,c.length≤1000000) (hb:∀c∈b,c.length≤1000000) (h1:SolV W sv a) (h2:SolV W tv b):
  Calls Tryz.prog 107 #[.agg #[sv], .agg #[tv]] W (Ma a b W):=by
 have HA:=fun W' h=>YJ (BX a sv W' ha (SolV.below (w':=W') h1 h))
 have HB:=fun W' h=>YJ (BX b tv W' hb (SolV.below (w':=W') h2 h))
 have He:Hid (kw a b=if Tv a=0 then Tv b else Tv a):=YJ rfl
 obtain⟨sa,sn,sc,rfl, -⟩:=h1
 obtain⟨ta,tn,tc,rfl, -⟩:=h2
 obtain⟨V,HV⟩:∃V,Hid ((W.alloc (.cells #[.slice sa sn sc] 75)).alloc (.cells #[.slice ta tn tc] 75)=V):=⟨_,YJ rfl⟩
 have hV:Below W.heap.size W V:=by rw[←HV.out];exact bel
 have HT:Hid (V.heap[W.heap.size+1]? =some (.cells #[.slice ta tn tc] 75 (0,0))):=YJ (by rw[←HV.out];exact ai (by simp))
 have HA':=YJ ((HA V hV).out)
 clear HA ha hb
 obtain⟨ce,HCE⟩:∃ce,Hid (kw a b=ce):=⟨_,YJ rfl⟩
 have He':Hid (ce=if Tv a=0 then Tv b else Tv a):=YJ (by rw[←HCE.out,He.out])
 unfold Ma
 rw[HCE.out]
 go_enter Tryz.func107,Tryz.ntmps107
 go_wp2_with fail
 try rw[HV.out]
 refine(HA'.out).mono ?_
 rintro en w1 ⟨hb1,⟨h0,v,rfl,hR⟩|⟨h0,rfl⟩⟩
 ·have hw1:=fB hV hb1
  have HT1:=YJ ((hb1.block _ (ah HT.out)).trans HT.out)
  have HP1:=YJ (DM hR hb1)
  obtain⟨xs,ho, -, -⟩:=hR
  obtain⟨va,vc,rfl⟩:=aT ho
  have HB':=YJ ((HB w1 hw1).out)
  have He2:Hid (ce=Tv b):=YJ (by rw[He'.out,if_pos h0])
  have t0:w1.cell? ⟨W.heap.size+1,0,none⟩=some (.slice ta tn tc):=(bq HT1.out 0).trans rfl
  have tz:=ah HT1.out
  clear HB HA' He He' HCE hb1 HT ho h0
  generalize a.length=al at*
  go_wp2_with fail
  refine(HB'.out).mono ?_
  rintro en w2 ⟨hb2,⟨h3,u,rfl,hR2⟩|⟨h3,rfl⟩⟩
  ·have HP2:=YJ (DM hR2 hb2)
   have HP3:=YJ (HP1.out.below hb2)
   obtain⟨ys,ho2, -, -⟩:=hR2
   obtain⟨ua,uc,rfl⟩:=aT ho2
   have hce:Hid (ce=0):=YJ (by rw[He2.out,h3])
   clear ho2 t0 tz HB' He2 h3
   generalize b.length=bl at*
   go_wp2
   refine bodyPost_ret (v:= .tuple #[.slice va al vc, .slice ua bl uc, .int .i64 0]) (by simp[results,Tryz.results107,go_sem]) rfl ?_
   exact⟨fB hw1 hb2, .inl ⟨hce.out,_,_,rfl,HP3.out,HP2.out⟩⟩
  ·have hce:=He2.out
   clear He2 HB' t0 tz
   generalize Tv b=eb at*
   subst hce
   have h3':(ce !=0)=true:=by simpa using h3
   go_wp2
   refine bodyPost_ret (v:= .tuple #[.slice none 0 0, .slice none 0 0, .int .i64 ce]) (by simp[results,Tryz.results107,go_sem]) rfl ?_
   exact⟨fB hw1 hb2, .inr ⟨h3,rfl⟩⟩
 ·have hce:ce=Tv a:=by rw[He'.out,if_neg h0]
  clear He He' HCE HB
  generalize Tv a=ea at*
  subst hce
  have h3':(ce !=0)=true:=by simpa using h0
  go_wp2
  refine bodyPost_ret (v:= .tuple #[.slice none 0 0, .slice none 0 0, .int .i64 ce]) (by simp[results,Tryz.results107,go_sem]) rfl ?_
  exact⟨fB hV hb1, .inr ⟨h0,rfl⟩⟩
def ClP (r:Bool) (err:Int) (W:World) (e:Ending) (w':World):Prop:=Below W.heap.size W w'∧∃i k sa sn sc,e= .returned (.tuple #[.agg #[.int .i64 i, .int .i64 k, .slice sa sn sc], .bool r, .int .i64 err])
theorem Dr {css:List (List Q4)} (h:lr css=0):∀c∈css,bK c=0:=by
 induction css with
 |nil=>intro c hc;cases hc
 |cons d l ih=>
  intro c hc
  unfold lr at h
  split at h
  ·rename_i hd
   rcases alsk.1 hc with rfl|hc
   ·exact hd
   ·exact ih h c hc
  ·rename_i hd;exact absurd h hd
theorem xb {css:List (List Q4)} (h:Tv css=0):css.length≤100∧∀c∈css,bK c=0:=by
 unfold Tv at h
 split at h
 ·cases h
 ·exact⟨by omega,Dr h⟩
theorem Gc {a b:List (List Q4)} (h:kw a b=0):Tv a=0∧Tv b=0:=by
 unfold kw at h
 split at h
 ·exact⟨by assumption,h⟩
 ·exact absurd h (by assumption)
theorem GH {ps:List Q4} (h:DC ps):∀c∈aS ps,fD c:=fun c hc=>(ml ps h.1 c hc).1
theorem EY {ps:List Q4} (h:DC ps):(aS ps).length≤1000000:=qaD (kV ps (qaD h.2.2 (by decide))) (by decide)
theorem JG {ps qs:List Q4} (h:DC ps) (h':DC qs):(∀p∈ps++qs,bI p)∧(∀c∈aS (ps++qs),fD c)∧(ps++qs).length≤1000000∧(aS (ps++qs)).length≤1000000:=by
 have hp:∀p∈ps++qs,bI p:=fun p hp=>(altl.1 hp).elim (h.1 p) (h'.1 p)
 have hl:(ps++qs).length≤32:=by rw[qaE];have:=h.2.2;have:=h'.2.2;omega
 exact⟨hp,fun c hc=>(ml _ hp c hc).1,qaD hl (by decide),qaD (kV _ (qaD hl (by decide))) (by decide)⟩
theorem Ir {a b:List (List Q4)} {i k:Nat} (hi:i<a.length) (hk:k<b.length) (h:clB a[i] b[k]=true):cy a b=true:=by
 unfold cy
 rw[ultj]
 exact⟨a[i],qaB hi,by rw[ultj];exact⟨b[k],qaB hk,h⟩⟩
theorem JH {a b:List (List Q4)} (h:∀i k (hi:i<a.length) (hk:k<b.length),clB a[i] b[k]=false):cy a b=false:=by
 unfold cy
 rw[ultp]
 intro c hc
 obtain⟨i,hi,rfl⟩:=qaJ hc
 rw[Bool.not_eq_true,ultp]
 intro d hd
 obtain⟨k,hk,rfl⟩:=qaJ hd
 rw[h i k hi hk]
 simp
set_option maxRecDepth 100000 in
theorem EZ (a b:List (List Q4)) (sv tv:Value) (W:World) (ha:∀c∈a,c.length≤1000000) (hb:∀c∈b,c.length≤1000000) (h1:SolV W sv a) (h2:SolV W tv b):
  Calls Tryz.prog 55 #[.agg #[sv], .agg #[tv]] W (ClP (decide (kw a b=0)&&cy a b) (kw a b) W):=by
 have H2:=fun W' h=>YJ (JF a b sv tv W' ha hb (SolV.below (w':=W') h1 h) (SolV.below (w':=W') h2 h))
 obtain⟨sa,sn,sc,rfl, -⟩:=h1
 obtain⟨ta,tn,tc,rfl, -⟩:=h2
 obtain⟨V,HV⟩:∃V,Hid (((W.alloc (.cells #[.slice sa sn sc] 75)).alloc (.cells #[.slice ta tn tc] 75)).alloc (.cells #[.int .i64 0, .int .i64 0, .slice none 0 0] 100)=V):=⟨_,YJ rfl⟩
 have hV:Below W.heap.size W V:=by rw[←HV.out];exact bel
 have HO:Hid (V.heap[W.heap.size+2]? =some (.cells #[.int .i64 0, .int .i64 0, .slice none 0 0] 100 (0,0))):=YJ (by rw[←HV.out];exact ai (by simp))
 have H2':=YJ ((H2 V hV).out)
 obtain⟨Q,HQ⟩:∃Q,Hid (Q=ClP (decide (kw a b=0)&&cy a b) (kw a b) W):=⟨_,YJ rfl⟩
 have HQe:Hid (kw a b≠0→∀e w',Below W.heap.size W w'→e= .returned (.tuple #[.agg #[.int .i64 0, .int .i64 0, .slice none 0 0], .bool false, .int .i64 (kw a b)])→Q e w'):=YJ (fun h e w' hw he=>by
  rw[HQ.out,he]
  exact⟨hw,0,0,none,0,0,by simp[h]⟩)
 have HQt:Hid (kw a b=0→cy a b=true→∀e w' i k x y z,Below W.heap.size W w'→e= .returned (.tuple #[.agg #[.int .i64 i, .int .i64 k, .slice x y z], .bool true, .int .i64 0])→Q e w'):=YJ (fun h h' e w' i k x y z hw he=>by
  rw[HQ.out,he]
  exact⟨hw,i,k,x,y,z,by simp[h,h']⟩)
 have HQf:Hid (kw a b=0→cy a b=false→∀e w',Below W.heap.size W w'→e= .returned (.tuple #[.agg #[.int .i64 0, .int .i64 0, .slice none 0 0], .bool false, .int .i64 0])→Q e w'):=YJ (fun h h' e w' hw he=>by
  rw[HQ.out,he]
  exact⟨hw,0,0,none,0,0,by simp[h,h']⟩)
 have HZ:=YJ (@Gc a b)
 rw[←HQ.out]
 clear H2 HQ ha hb
 obtain⟨ce,HCE⟩:∃ce,Hid (kw a b=ce):=⟨_,YJ rfl⟩
 unfold Ma at H2'
 rw[HCE.out]at H2' HQe HQt HQf HZ
 clear HCE
 go_enter Tryz.func55,Tryz.ntmps55
 go_wp2_with fail
 try rw[HV.out]
 refine(H2'.out).mono ?_
 rintro en w1 ⟨hb1,⟨h0,x,y,rfl,hx,hy⟩|⟨h0,rfl⟩⟩
 ·have hw1:=fB hV hb1
  have HO1:=YJ ((hb1.block _ (ah HO.out)).trans HO.out)
  obtain⟨hza,hzb⟩:=HZ.out h0
  have HCa:=fun i (h:i<a.length)=>YJ (Dl ((xb hza).2 _ (qaB h)))
  have HCb:=fun i (h:i<b.length)=>YJ (Dl ((xb hzb).2 _ (qaB h)))
  have HQt':=YJ (HQt.out h0)
  have HQf':=YJ (HQf.out h0)
  clear HQe HQt HQf HZ H2' HO hb1 h0 HV hV
  obtain⟨xa,xn,xc,rfl,hxn, -,hxx⟩:=hx
  obtain⟨ya,yn,yc,rfl,hyn, -,hyy⟩:=hy
  have HX:=YJ hxx
  have HY:=YJ hyy
  have Hn:Hid (a.length=xn):=YJ (by rw[←hxn,qdo])
  have Hm:Hid (b.length=yn):=YJ (by rw[←hyn,qdo])
  have hxl:xn≤100:=by have:=(xb hza).1;have:=Hn.out;omega
  have hyl:yn≤100:=by have:=(xb hzb).1;have:=Hm.out;omega
  have Hhit:=fun i k (hi:i<a.length) (hk:k<b.length)=>YJ (@Ir a b i k hi hk)
  have Hno:=YJ (@JH a b)
  clear hxx hyy hxn hyn hza hzb
  generalize cy a b=res at*
  go_wp2
  go_loopw [28] (fun x wr=>∃k:Nat,k≤xn∧x= .int .i64 k∧Below w1.heap.size w1 wr∧Hid (∀i j (hi:i<a.length) (hj:j<b.length),i<k→clB a[i] b[j]=false)) (fun x _=>xn-(intOf x).toNat)
  case atStart=>exact⟨0,by omega,rfl,brf,YJ (fun i j _ _ h=>by omega)⟩
  case round=>
   obtain⟨k,hk,rfl,hb,Hd⟩:=hrel
   have HOr:=YJ ((hb.block _ (ah HO1.out)).trans HO1.out)
   by_cases hlt:k<xn
   ·have g1:(k:Int)<(xn:Int):=by omega
    have g2:(0:Int)≤(k:Int):=by omega
    have hil:k<a.length:=by have:=Hn.out;omega
    obtain⟨b0,off,rfl,hi4⟩:=HX.out (by omega)
    obtain⟨p,q,e0,e1,hq1,hq2⟩:=hi4 k (by rw[qdo];exact hil)
    rw[qdB]at hq1 hq2
    have e0:=ab hb e0
    have e1:=ab hb e1
    have ze:=qaC wr _ e0
    simp only at ze
    have HQ1:Hid (Q4s wr p a[k]):=YJ (hq1.below hb)
    have HQ2:Hid (Q4s wr q (aS a[k])):=YJ (hq2.below hb)
    obtain⟨pa,pn,pc,rfl, -⟩:=hq1
    obtain⟨ca,cn,ccp,rfl, -⟩:=hq2
    clear hi4
    obtain⟨wq,rfl⟩:∃wq:World,wq=wr:=⟨_,rfl⟩
    go_wp2
    go_loopw [35] (fun x wr=>∃j:Nat,j≤yn∧x= .int .i64 j∧Below wq.heap.size wq wr∧Hid (wr.heap[wq.heap.size]? =some (.cells #[.slice pa pn pc, .slice ca cn ccp] 184 (0,0)))∧Hid (∀m (hm:m<b.length),m<j→clB a[k] b[m]=false)) (fun x _=>yn-(intOf x).toNat)
    case atStart=>exact⟨0,by omega,rfl,bel,YJ (ai rfl),YJ (fun m _ h=>by omega)⟩
    case round=>
     clear e0 e1 ze
     obtain⟨j,hj,rfl,hbq,HB,Hdj⟩:=hrel
     have HOj:=YJ ((hbq.block _ (ah HOr.out)).trans HOr.out)
     have hb1j:Below w1.heap.size w1 wr:=hb.trans (hbq.mono hb.size)
     by_cases hlj:j<yn
     ·have g3:(j:Int)<(yn:Int):=by omega
      have g4:(0:Int)≤(j:Int):=by omega
      have hjl:j<b.length:=by have:=Hm.out;omega
      obtain⟨b2,off2,rfl,hi5⟩:=HY.out (by omega)
      obtain⟨p',q',f0,f1,hr1,hr2⟩:=hi5 j (by rw[qdo];exact hjl)
      rw[qdB]at hr1 hr2
      have f0:=ab hb1j f0
      have f1:=ab hb1j f1
      have zf:=qaC wr _ f0
      simp only at zf
      have HR1:Hid (Q4s wr p' b[j]):=YJ (hr1.below hb1j)
      have HR2:Hid (Q4s wr q' (aS b[j])):=YJ (hr2.below hb1j)
      obtain⟨ra,rn,rc,rfl, -⟩:=hr1
      obtain⟨ua,un,uc,rfl, -⟩:=hr2
      have oa:=(HCa k hil).out
      have ob:=(HCb j hjl).out
      have HAp:=fun W' (hW':Below wr.heap.size wr W')=>YJ (Iq a[k] (aS a[k]) b[j] (aS b[j]) _ _ _ _ W' oa.1 ob.1 (GH oa) (GH ob) (qaD oa.2.2 (by decide)) (EY oa) (qaD ob.2.2 (by decide)) (EY ob) ((HQ1.out.below hbq).below hW') ((HQ2.out.below hbq).below hW') (HR1.out.below hW') (HR2.out.below hW'))
      have HCo:=fun W' (hW':Below wr.heap.size wr W')=>YJ (EX a[k] b[j] (.slice pa pn pc) (.slice ca cn ccp) (.slice ra rn rc) (.slice ua un uc) W' oa.1 ob.1 oa.2.1 ob.2.1 oa.2.2 ob.2.2 ⟨_,_,_,rfl⟩ ⟨_,_,_,rfl⟩ ((HQ1.out.below hbq).below hW') (HR1.out.below hW'))
      have o2:=JG oa ob
      have HSo:=fun pv cv W' (k1:Q4s W' pv (a[k]++b[j])) (k2:Q4s W' cv (aS (a[k]++b[j])))=>YJ (pk (a[k]++b[j]) (aS (a[k]++b[j])) pv cv W' o2.1 o2.2.1 o2.2.2.1 o2.2.2.2 k1 k2)
      have HCl:Hid (clB a[k] b[j]=(!Cy a[k] (aS a[k]) b[j] (aS b[j])&&fh (a[k]++b[j]) (aS (a[k]++b[j])))):=YJ rfl
      have Hh:=YJ ((Hhit k j hil hjl).out)
      have Hst:Hid (clB a[k] b[j]=false→∀m (hm:m<b.length),m<j+1→clB a[k] b[m]=false):=YJ (fun h m hm hmj=>by
       by_cases e:m=j
       ·subst e;exact h
       ·exact Hdj.out m hm (by omega))
      obtain⟨x0,x1,xz⟩:=xv HB.out
      clear HX HY Hhit Hno Hd Hdj hi5 oa ob o2 HCa HCb
      unfold MG at HCo
      generalize clB a[k] b[j]=cl at*
      generalize Cy a[k] (aS a[k]) b[j] (aS b[j])=ap at*
      generalize fh (a[k]++b[j]) (aS (a[k]++b[j]))=so at*
      generalize aS (a[k]++b[j])=cor at*
      generalize a[k]++b[j]=pls at*
      go_wp2_with fail
      refine((HAp _ bel).out).mono ?_
      rintro e w2 ⟨rfl,hb2⟩
      have hb3:Below wr.heap.size wr w2:=fB bel hb2
      have HB2:=YJ ((hb3.block _ (ah HB.out)).trans HB.out)
      have HY2:Hid (w2.heap[wr.heap.size]? =some (.cells #[.slice ra rn rc, .slice ua un uc] 184 (0,0))):=YJ ((hb2.block _ (by simp)).trans (ai rfl))
      clear HAp f0 f1 zf x0 x1 xz
      cases ap with
      |true=>
       have HF:=YJ (Hst.out (by rw[HCl.out];rfl))
       clear HCo HSo HCl Hst Hh
       go_wp2
       go_roundw
       case rel=>exact⟨j+1,by omega,by go_num,hbq.trans (Below.mono hb3 hbq.size),YJ (((hb3).block _ (ah HB.out)).trans HB.out),HF⟩
       simp[intOf];try omega
      |false=>
       have HCo2:=YJ ((HCo w2 hb3).out)
       obtain⟨x0,x1,xz⟩:=xv HB2.out
       obtain⟨y0,y1,yz⟩:=xv HY2.out
       clear HCo
       go_wp2_with fail
       refine(HCo2.out).mono ?_
       rintro e w3 ⟨pv,cv,rfl,hb4,hp3,hc3⟩
       have HS3:=fun W' (h:Below w3.heap.size w3 W')=>YJ ((HSo pv cv W' (hp3.below h) (jz (au hc3 h))).out)
       obtain⟨da,dn,dc,rfl, -⟩:=hp3
       obtain⟨ea,ec,rfl⟩:=aT hc3
       have hb5:=fB hb3 hb4
       clear HSo HCo2 hc3 x0 x1 xz y0 y1 yz
       generalize cor.length=el at*
       go_wp2_with fail
       refine((HS3 _ bel).out).mono ?_
       rintro e w4 ⟨rfl,hb6⟩
       have hb7:Below wr.heap.size wr w4:=fB hb5 (fB bel hb6)
       have HD4:Hid (w4.heap[w3.heap.size]? =some (.cells #[.slice da dn dc, .slice ea el ec] 184 (0,0))):=YJ ((hb6.block _ (by simp)).trans (ai rfl))
       clear HS3
       cases so with
       |false=>
        have HF:=YJ (Hst.out (by rw[HCl.out];rfl))
        clear HCl Hst Hh
        go_wp2
        go_roundw
        case rel=>exact⟨j+1,by omega,by go_num,hbq.trans (Below.mono hb7 hbq.size),YJ (((hb7).block _ (ah HB.out)).trans HB.out),HF⟩
        simp[intOf];try omega
       |true=>
        have HT:=YJ (Hh.out (by rw[HCl.out];rfl))
        have HO4:=YJ ((hb7.block _ (ah HOj.out)).trans HOj.out)
        have hw4:Below W.heap.size W w4:=fB hw1 (fB hb1j hb7)
        obtain⟨d0,d1,dz⟩:=xv HD4.out
        obtain⟨o0,o1,o2,of,oz⟩:=NO HO4.out
        clear HCl Hst Hh HQf'
        go_wp2
        refine bodyPost_ret (v:= .tuple #[.agg #[.int .i64 k, .int .i64 j, .slice ea el ec], .bool true, .int .i64 0]) (by simp[results,Tryz.results55,go_sem,o0,o1,o2,oz]) rfl (HQt'.out HT.out _ _ k j ea el ec ?_ rfl)
        iterate 3 (refine qga ?_ (by first|exact qaA _|exact Nat.le_succ _|(simp;done)|(simp;omega)) _)
        exact hw4
     ·obtain rfl:j=yn:=by omega
      have HN2:Hid (∀i m (hi:i<a.length) (hm:m<b.length),i<k+1→clB a[i] b[m]=false):=YJ (fun i m hi hm h=>by
       by_cases e:i=k
       ·subst e;exact Hdj.out m hm (by have:=Hm.out;omega)
       ·exact Hd.out i m hi hm (by omega))
      clear HX HY Hhit Hno Hd Hdj HCa HCb
      go_wp2
      go_roundw
      case rel=>exact⟨k+1,by omega,by go_num,hb1j,HN2⟩
      simp[intOf];try omega
   ·obtain rfl:k=xn:=by omega
    have HT:=YJ (Hno.out (fun i j hi hj=>Hd.out i j hi hj (by have:=Hn.out;omega)))
    have hw4:Below W.heap.size W wr:=fB hw1 hb
    obtain⟨o0,o1,o2,of,oz⟩:=NO HOr.out
    clear HX HY Hhit Hno Hd HCa HCb HQt'
    go_wp2
    refine bodyPost_ret (v:= .tuple #[.agg #[.int .i64 0, .int .i64 0, .slice none 0 0], .bool false, .int .i64 0]) (by simp[results,Tryz.results55,go_sem,o0,o1,o2,oz]) rfl (HQf'.out HT.out _ _ ?_ rfl)
    iterate 3 (refine qga ?_ (by first|exact qaA _|exact Nat.le_succ _|(simp;done)|(simp;omega)) _)
    exact hw4
 ·have HO1:=YJ ((hb1.block _ (ah HO.out)).trans HO.out)
  have hw1:=fB hV hb1
  obtain⟨o0,o1,o2,of,oz⟩:=NO HO1.out
  have h0':(ce !=0)=true:=by simpa using h0
  clear HQt HQf HZ H2'
  go_wp2
  refine bodyPost_ret (v:= .tuple #[.agg #[.int .i64 0, .int .i64 0, .slice none 0 0], .bool false, .int .i64 ce]) (by simp[results,Tryz.results55,go_sem,o0,o1,o2,oz]) rfl (HQe.out h0 _ _ ?_ rfl)
  iterate 3 (refine qga ?_ (by first|exact qaA _|exact Nat.le_succ _|(simp;done)|(simp;omega)) _)
  exact hw1
end
section
open Go.RowKit Go.Shelf Go.Lib
set_option maxRecDepth 100000
attribute [local go_sem] Ext.cell Ext.frozen
def SolsV (w:World) (v:Value) (l:List (List (List Q4))):Prop:=Each w v SolV l
theorem SolsV.below {w w':World} {v:Value} {l:List (List (List Q4))} (h:SolsV w v l) (hb:Below w.heap.size w w'):SolsV w' v l:=Each.below (fun _ _ _ _ hb h=>SolV.below h hb) h hb
def nb (s:List (List Q4)):Int:=if Tv s=0 then(if s.length=0 then 13 else 0)else Tv s
def cx:List (List (List Q4))→Int
 | []=>0
 |s::l=>if nb s=0 then cx l else nb s
def mx (l:List (List (List Q4))):Bool:=(List.range l.length).any fun i=>(List.range i).any fun k=>cy (l.getD k []) (l.getD i [])
def eB (l:List (List (List Q4))):Int:=if 12<l.length then 8 else if cx l=0 then(if mx l then 15 else 0)else cx l
theorem Fa (l:List (List (List Q4))) (k:Nat) (hk:k<l.length) (h:∀i (hi:i<l.length),i<k→nb l[i]=0) (hx:nb l[k]≠0):cx l=nb l[k]:=by
 induction l generalizing k with
 |nil=>simp at hk
 |cons p ps ih=>
  cases k with
  |zero=>simp only[qdt]at hx;simp[cx,hx]
  |succ k=>
   have h0:=h 0 (by simp) (by omega)
   simp only[qdt]at h0
   simp only[cx,h0,if_true,List.getElem_cons_succ]
   exact ih k (by simpa using hk) (fun i hi hik=>by have:=h (i+1) (by simpa using hi) (by omega);simpa using this) (by simpa using hx)
theorem Eg (l:List (List (List Q4))) (h:∀i (hi:i<l.length),nb l[i]=0):cx l=0:=by
 induction l with
 |nil=>rfl
 |cons p ps ih=>
  have h0:=h 0 (by simp)
  simp only[qdt]at h0
  simp only[cx,h0,if_true]
  exact ih (fun i hi=>by have:=h (i+1) (by simpa using hi);simpa using this)
theorem Fb {l:List (List (List Q4))} (h:cx l=0):∀s∈l,nb s=0:=by
 induction l with
 |nil=>intro s hs;cases hs
 |cons p ps ih=>
  intro s hs
  unfold cx at h
  split at h
  ·rename_i h0
   rcases alsk.1 hs with rfl|hs
   ·exact h0
   ·exact ih h s hs
  ·rename_i h0;exact absurd h h0
theorem Is {s:List (List Q4)} (h:nb s=0):Tv s=0∧0<s.length:=by
 unfold nb at h
 split at h
 ·split at h
  ·cases h
  ·exact⟨by assumption,by omega⟩
 ·exact absurd h (by assumption)
theorem Eh {l:List (List (List Q4))} {i k:Nat} (hi:i<l.length) (hk:k<i) (h:cy l[k] l[i]=true):mx l=true:=by
 unfold mx
 rw[ultj]
 refine⟨i,by simpa using hi, ?_⟩
 rw[ultj]
 refine⟨k,by simpa using hk, ?_⟩
 simpa [List.getD,hi,(show k<l.length by omega)]using h
theorem Fc {l:List (List (List Q4))} (h:∀i k (hi:i<l.length) (hk:k<i),cy l[k] l[i]=false):mx l=false:=by
 unfold mx
 rw[ultp]
 intro i hi
 rw[Bool.not_eq_true,ultp]
 intro k hk
 have hi':i<l.length:=by simpa using hi
 have hk':k<i:=by simpa using hk
 have:=h i k hi' hk'
 simpa [List.getD,hi',(show k<l.length by omega)]using this
theorem Gd (l:List (List (List Q4))) (lv:Value) (W:World) (hL:∀s∈l,∀c∈s,c.length≤1000000) (h:SolsV W lv l):
  Calls Tryz.prog 37 #[lv] W (Ret W (.int .i64 (eB l))):=by
 have H12:Hid (12<l.length→eB l=8):=YJ (fun h=>by unfold eB;rw[if_pos h])
 have Hpe:Hid (l.length≤12→cx l≠0→eB l=cx l):=YJ (fun h h0=>by unfold eB;rw[if_neg (by omega),if_neg h0])
 have Hcl:Hid (l.length≤12→cx l=0→mx l=true→eB l=15):=YJ (fun h h0 h1=>by unfold eB;rw[if_neg (by omega),if_pos h0,if_pos h1])
 have Hok:Hid (l.length≤12→cx l=0→mx l=false→eB l=0):=YJ (fun h h0 h1=>by unfold eB;rw[if_neg (by omega),if_pos h0,h1];rfl)
 have Hh:=YJ (Fa l)
 have Hn:=YJ (Eg l)
 have Hch:=fun i k (hi:i<l.length) (hk:k<i)=>YJ (@Eh l i k hi hk)
 have Hcn:=YJ (@Fc l)
 have HLn:=fun i (h:i<l.length)=>YJ (hL _ (qaB h))
 obtain⟨a,n,cc,rfl,hn,hnc,hx⟩:=h
 have HX:=YJ hx
 have HN:=YJ hn
 generalize eB l=res at*
 clear hx hL hn
 go_enter Tryz.func37,Tryz.ntmps37
 by_cases hl12:12<n
 ·have g0:(12:Int)<(n:Int):=by omega
  go_wp2
  go_ret
  exact⟨aK (H12.out (by have:=HN.out;omega)).symm,bel⟩
 ·have g0:¬(12:Int)<(n:Int):=by omega
  go_wp2
  go_loopw [18] (fun x wr=>∃k:Nat,k≤n∧x= .int .i64 k∧Below W.heap.size W wr∧Hid (∀j (h:j<l.length),j<k→nb l[j]=0)) (fun x _=>n-(intOf x).toNat)
  case atStart=>exact⟨0,by omega,rfl,bel,YJ (fun j _ h=>by omega)⟩
  case round=>
   obtain⟨k,hk,rfl,hb,Hd⟩:=hrel
   by_cases hlt:k<n
   ·have g1:(k:Int)<(n:Int):=by omega
    have g2:(0:Int)≤(k:Int):=by omega
    have hil:k<l.length:=by have:=HN.out;omega
    obtain⟨b,off,rfl,hi4⟩:=HX.out (by omega)
    obtain⟨cu,e0,hq⟩:=hi4 k hil
    have e0:=ab hb e0
    have ze:=qaC wr _ e0
    simp only at ze
    have HQ:=YJ hq
    have HEk:=YJ (Hh.out k hil Hd.out)
    have HE1:Hid (Tv l[k]≠0→nb l[k]=Tv l[k]):=YJ (fun h=>by unfold nb;rw[if_neg h])
    have HE2:Hid (Tv l[k]=0→l[k].length=0→nb l[k]=13):=YJ (fun h h1=>by unfold nb;rw[if_pos h,if_pos h1])
    have HE3:Hid (Tv l[k]=0→l[k].length≠0→nb l[k]=0):=YJ (fun h h1=>by unfold nb;rw[if_pos h,if_neg h1])
    have Hst:Hid (nb l[k]=0→∀j (h:j<l.length),j<k+1→nb l[j]=0):=YJ (fun h j hj hji=>by
     by_cases e:j=k
     ·subst e;exact h
     ·exact Hd.out j hj (by omega))
    have HRd:=fun W' (h:Below W.heap.size W W')=>YJ (Rr l[k] cu W' (HLn k hil).out (HQ.out.below h))
    obtain⟨ua,um,uc,rfl,hum, -⟩:=hq
    have Hum:=YJ hum
    have hbc:Below W.heap.size W (wr.alloc (.cells #[.slice ua um uc] 75)):=fB hb bel
    clear hi4 HX HLn Hd hum
    rw[Hum.out]at HE2 HE3
    clear Hum HQ
    generalize nb l[k]=se at*
    generalize Tv l[k]=sr at*
    go_wp2_with fail
    refine((HRd _ hbc).out).mono ?_
    rintro en w1 ⟨rfl,hb1⟩
    have hbw1:Below wr.heap.size wr w1:=fB bel hb1
    have hbW1:=fB hbc hb1
    have HS1:Hid (w1.heap[wr.heap.size]? =some (.cells #[.slice ua um uc] 75 (0,0))):=YJ ((hb1.block _ (by simp)).trans (ai rfl))
    have b0:w1.cell? ⟨wr.heap.size,0,none⟩=some (.slice ua um uc):=(bq HS1.out 0).trans rfl
    have bz:=ah HS1.out
    clear HRd e0 ze hb1
    by_cases h0:sr=0
    ·subst h0
     by_cases hm0:um=0
     ·subst hm0
      have HT:=YJ (HE2.out rfl rfl)
      have HT2:Hid (res=13):=YJ (by rw[Hpe.out (by have:=HN.out;omega) (by rw[HEk.out (by rw[HT.out];decide),HT.out];decide),HEk.out (by rw[HT.out];decide),HT.out])
      clear HE1 HE2 HE3 Hst HEk HT
      go_wp2
      go_ret
      exact⟨aK HT2.out.symm,hbW1⟩
     ·have hm0':((um:Int)==0)=false:=by rw[beq_eq_false_iff_ne];omega
      have HT:=YJ (Hst.out (HE3.out rfl hm0))
      clear HE1 HE2 HE3 Hst HEk
      go_wp2
      go_roundw
      case rel=>exact⟨k+1,by omega,by go_num,hbW1,HT⟩
      simp[intOf];try omega
    ·have h0':(sr !=0)=true:=by simpa using h0
     have HT:=YJ (HE1.out h0)
     have HT2:Hid (res=sr):=YJ (by rw[Hpe.out (by have:=HN.out;omega) (by rw[HEk.out (by rw[HT.out];exact h0),HT.out];exact h0),HEk.out (by rw[HT.out];exact h0),HT.out])
     clear HE1 HE2 HE3 Hst HEk HT
     go_wp2
     go_ret
     exact⟨aK HT2.out.symm,hbW1⟩
   ·obtain rfl:k=n:=by omega
    have HP0:=YJ (Hn.out (fun i hi=>Hd.out i hi (by have:=HN.out;omega)))
    have HSE:=fun i (h:i<l.length)=>YJ ((Is (Fb HP0.out _ (qaB h))).1)
    have Hcl':=YJ (Hcl.out (by have:=HN.out;omega) HP0.out)
    have Hok':=YJ (Hok.out (by have:=HN.out;omega) HP0.out)
    clear Hn Hd Hh Hpe Hcl Hok H12 HP0
    go_wp2
    obtain⟨wv,rfl⟩:∃wv:World,wv=wr:=⟨_,rfl⟩
    go_loopw [34] (fun x wr=>∃i:Nat,i≤k∧x= .int .i64 i∧Below W.heap.size W wr∧Hid (∀p q (hp:p<l.length) (hq:q<p),p<i→cy l[q] l[p]=false)) (fun x _=>k-(intOf x).toNat)
    case atStart=>exact⟨0,by omega,rfl,hb,YJ (fun p q _ _ h=>by omega)⟩
    case round=>
     obtain⟨i,hi,rfl,hbi,Hi⟩:=hrel
     by_cases hli:i<k
     ·have g1:(i:Int)<(k:Int):=by omega
      have g2:(0:Int)≤(i:Int):=by omega
      have hil:i<l.length:=by have:=HN.out;omega
      obtain⟨b,off,rfl,hi4⟩:=HX.out (by omega)
      obtain⟨cu,e0,hq⟩:=hi4 i hil
      have e0:=ab hbi e0
      have ze:=qaC wr _ e0
      simp only at ze
      have HQ:=YJ (SolV.below hq hbi)
      obtain⟨ua,um,uc,rfl, -⟩:=hq
      have hci:cc≠i:=by omega
      have hci2:i≤cc:=by omega
      obtain⟨wq,rfl⟩:∃wq:World,wq=wr:=⟨_,rfl⟩
      clear hi4
      go_wp2
      go_loopw [43] (fun x wr=>∃j:Nat,j≤i∧x= .int .i64 j∧Below wq.heap.size wq wr∧Hid (wr.heap[wq.heap.size]? =some (.cells #[.slice ua um uc] 75 (0,0)))∧Hid (∀m (hm:m<i),m<j→cy l[m] l[i]=false)) (fun x _=>i-(intOf x).toNat)
      case atStart=>exact⟨0,by omega,rfl,bel,YJ (ai rfl),YJ (fun m _ h=>by omega)⟩
      case round=>
       clear e0 ze
       obtain⟨j,hj,rfl,hbq,HB,Hdj⟩:=hrel
       have hWj:Below W.heap.size W wr:=hbi.trans (hbq.mono hbi.size)
       by_cases hlj:j<i
       ·have g3:(j:Int)<(i:Int):=by omega
        have g4:(0:Int)≤(j:Int):=by omega
        have hjl:j<l.length:=by omega
        obtain⟨b2,off2,he2,hi5⟩:=HX.out (by omega)
        cases he2
        obtain⟨cu2,f0,hr⟩:=hi5 j hjl
        have f0:=ab hWj f0
        have zf:=qaC wr _ f0
        simp only at zf
        have HR:=YJ (SolV.below hr hWj)
        obtain⟨ra,rm,rc,rfl, -⟩:=hr
        have HC:=fun W' (hW':Below wr.heap.size wr W')=>YJ (EZ l[j] l[i] (.slice ra rm rc) (.slice ua um uc) W' (HLn j hjl).out (HLn i hil).out (SolV.below HR.out hW') (SolV.below (SolV.below HQ.out hbq) hW'))
        have Hh:=YJ ((Hch i j hil hlj).out)
        have Hst:Hid (cy l[j] l[i]=false→∀m (hm:m<i),m<j+1→cy l[m] l[i]=false):=YJ (fun h m hm hmj=>by
         by_cases e:m=j
         ·subst e;exact h
         ·exact Hdj.out m hm (by omega))
        obtain⟨x0,xz⟩:wr.cell? ⟨wq.heap.size,0,none⟩=some (.slice ua um uc)∧wq.heap.size<wr.heap.size:=⟨(bq HB.out 0).trans rfl,ah HB.out⟩
        have hce:kw l[j] l[i]=0:=by unfold kw;rw[if_pos (HSE j hjl).out];exact(HSE i hil).out
        have HC':=fun W' (hW':Below wr.heap.size wr W')=>YJ (show Calls Tryz.prog 55 #[.agg #[.slice ra rm rc], .agg #[.slice ua um uc]] W' (ClP (cy l[j] l[i]) 0 W') by have:=(HC W' hW').out;rw[hce]at this;simpa using this)
        clear HC hce HX hi5 Hi Hdj HQ HR Hch Hcn HSE HLn
        unfold ClP at HC'
        generalize cy l[j] l[i]=cl at*
        go_wp2_with fail
        refine((HC' _ bel).out).mono ?_
        rintro e w2 ⟨hb2,oi,ok,oa,on,oc,rfl⟩
        have hb3:Below wr.heap.size wr w2:=fB bel hb2
        have HB2:=YJ ((hb3.block _ (ah HB.out)).trans HB.out)
        have hbq2:Below wq.heap.size wq w2:=hbq.trans (hb3.mono hbq.size)
        clear HC' f0 zf x0 xz hb2
        cases cl with
        |true=>
         have HT:=YJ (Hcl'.out (Hh.out rfl))
         have hw3:=hWj.trans (hb3.mono hWj.size)
         clear Hst Hh
         go_wp2
         go_ret
         exact⟨aK HT.out.symm,fB hw3 bel⟩
        |false=>
         have HF:=YJ (Hst.out rfl)
         clear Hst Hh
         go_wp2
         go_roundw
         case rel=>exact⟨j+1,by omega,by go_num,fB hbq2 bel,YJ ((aB (ah HB2.out)).trans HB2.out),HF⟩
         simp[intOf];try omega
       ·obtain rfl:j=i:=by omega
        have HN2:Hid (∀p q (hp:p<l.length) (hq:q<p),p<j+1→cy l[q] l[p]=false):=YJ (fun p q hp hq h=>by
         by_cases e:p=j
         ·subst e;exact Hdj.out q hq hq
         ·exact Hi.out p q hp hq (by omega))
        clear HX Hi Hdj HQ Hch Hcn HSE HLn
        go_wp2
        go_roundw
        case rel=>exact⟨j+1,by omega,by go_num,hWj,HN2⟩
        simp[intOf];try omega
     ·obtain rfl:i=k:=by omega
      have HT:=YJ (Hok'.out (Hcn.out (fun p q hp hq=>Hi.out p q hp hq (by have:=HN.out;omega))))
      clear HX Hi Hch Hcn HSE HLn
      go_wp2
      go_ret
      exact⟨aK HT.out.symm,hbi⟩
end
end Go.Proofs.YtffbilcjhlncfaaGreatDoor
