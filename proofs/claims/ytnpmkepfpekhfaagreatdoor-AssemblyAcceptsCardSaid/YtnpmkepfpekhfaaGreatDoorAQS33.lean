/- texts: AC4 AC5. -/
import Derived.Test.YtnpmkepfpekhfaaGreatDoorAQS32
namespace Go.Proofs.YtnpmkepfpekhfaaGreatDoor
set_option maxHeartbeats 8000000
set_option linter.all false
section
open Go.RowKit Go.Shelf
set_option maxRecDepth 100000
attribute [local go_sem] Ext.cell Ext.frozen
def rcl (c d:List Q4):Bool:=(c++d).all (gM (ct (c++d)))
def Oh (a b:List (List Q4)):Bool:=a.any fun c=>b.any fun d=>rcl c d
def Rf (r:Bool) (W:World) (e:Ending) (w':World):Prop:=Below W.heap.size W w'∧∃i k sa sn sc,e= .returned (.tuple #[.agg #[.int .i64 i, .int .i64 k, .slice sa sn sc], .bool r])
theorem QM {a b:List (List Q4)} {i k:Nat} (hi:i<a.length) (hk:k<b.length) (h:rcl a[i] b[k]=true):Oh a b=true:=by
 unfold Oh
 rw[ultj]
 exact⟨a[i],qaB hi,by rw[ultj];exact⟨b[k],qaB hk,h⟩⟩
theorem QV {a b:List (List Q4)} (h:∀i k (hi:i<a.length) (hk:k<b.length),rcl a[i] b[k]=false):Oh a b=false:=by
 unfold Oh
 rw[ultp]
 intro c hc
 obtain⟨i,hi,rfl⟩:=qaJ hc
 rw[Bool.not_eq_true,ultp]
 intro d hd
 obtain⟨k,hk,rfl⟩:=qaJ hd
 rw[h i k hi hk]
 simp
def QW (L:List Q4):Value→World→Prop:=fun v w=>Q4s w v L
theorem QN (L:List Q4):dR (QW L):=fun _ _ _ hb h=>Q4s.below h hb
theorem QA {c d:List Q4} (hc:DC c) (hd:DC d):(∀p∈c++d,bI p)∧(c++d).length≤32∧(ct (c++d)).length≤1000000:=by
 have hl:(c++d).length≤32:=by rw[qaE];have:=hc.2.2;have:=hd.2.2;omega
 refine⟨fun p hp=>(altl.1 hp).elim (hc.1 p) (hd.1 p),hl, ?_⟩
 have h1:=pO (raw (c++d) (c++d).length)
 have h2:=jp (c++d) (c++d).length (by omega)
 unfold pN at h1
 unfold ct
 have:(c++d).length*(c++d).length*(c++d).length≤32*32*32:=Nat.mul_le_mul (Nat.mul_le_mul hl hl) hl
 omega
theorem PG (a b:List (List Q4)) (sv tv:Value) (W:World) (ha:∀c∈a,DC c) (hb:∀c∈b,DC c) (hal:a.length≤1000) (hbl:b.length≤1000) (h1:SolV W sv a) (h2:SolV W tv b):
  Calls Tryz.prog 52 #[.agg #[sv], .agg #[tv]] W (Rf (Oh a b) W):=by
 obtain⟨sa,sn,sc,rfl,hsn, -,hsx⟩:=h1
 obtain⟨ta,tn,tc,rfl,htn, -,htx⟩:=h2
 obtain⟨V,HV⟩:∃V,Hid (((W.alloc (.cells #[.slice sa sn sc] 81)).alloc (.cells #[.slice ta tn tc] 81)).alloc (.cells #[.int .i64 0, .int .i64 0, .slice none 0 0] 103)=V):=⟨_,YJ rfl⟩
 have hV:Below W.heap.size W V:=by rw[←HV.out];exact bel
 have HA:Hid (V.heap[W.heap.size]? =some (.cells #[.slice sa sn sc] 81 (0,0))):=YJ (by rw[←HV.out];exact(aB (by simp<;>omega)).trans ((aB (by simp)).trans (ai rfl)))
 have HB:Hid (V.heap[W.heap.size+1]? =some (.cells #[.slice ta tn tc] 81 (0,0))):=YJ (by rw[←HV.out];exact(aB (by simp)).trans (ai (by simp)))
 have HO:Hid (V.heap[W.heap.size+2]? =some (.cells #[.int .i64 0, .int .i64 0, .slice none 0 0] 103 (0,0))):=YJ (by rw[←HV.out];exact ai (by simp))
 have HX:=YJ hsx
 have HY:=YJ htx
 have Hn:=YJ hsn
 have Hm:=YJ htn
 have hxl:sn≤1000:=by omega
 have hyl:tn≤1000:=by omega
 have HCa:=fun i (h:i<a.length)=>YJ (ha _ (qaB h))
 have HCb:=fun i (h:i<b.length)=>YJ (hb _ (qaB h))
 have Hhit:=fun i k (hi:i<a.length) (hk:k<b.length)=>YJ (@QM a b i k hi hk)
 have Hno:=YJ (@QV a b)
 clear hsx htx hsn htn ha hb hal hbl
 generalize Oh a b=res at*
 go_enter Tryz.func52,Tryz.ntmps52
 go_wp2
 try rw[HV.out]
 go_loopw [6] (fun x wr=>∃k:Nat,k≤sn∧x= .int .i64 k∧Below V.heap.size V wr∧Hid (∀i j (hi:i<a.length) (hj:j<b.length),i<k→rcl a[i] b[j]=false)) (fun x _=>sn-(intOf x).toNat)
 case atStart=>exact⟨0,by omega,rfl,brf,YJ (fun i j _ _ h=>by omega)⟩
 case round=>
  obtain⟨k,hk,rfl,hb,Hd⟩:=hrel
  have hAr:=(hb.block _ (ah HA.out)).trans HA.out
  have a0:wr.cell? ⟨W.heap.size,0,none⟩=some (.slice sa sn sc):=(ag hAr 0).trans rfl
  have az:=ah hAr
  clear hAr
  by_cases hlt:k<sn
  ·have g1:(k:Int)<(sn:Int):=by omega
   have g2:(0:Int)≤(k:Int):=by omega
   have hil:k<a.length:=by have:=Hn.out;omega
   obtain⟨b0,off,rfl,hi4⟩:=HX.out (by omega)
   obtain⟨pv,e0,hq⟩:=hi4 k hil
   have e0:=ab (fB hV hb) e0
   have HQ1:Hid (Q4s wr pv a[k]):=YJ (hq.below (fB hV hb))
   clear hq hi4
   obtain⟨wq,rfl⟩:∃wq:World,wq=wr:=⟨_,rfl⟩
   go_wp2
   go_loopw [7] (fun x wr=>∃j:Nat,j≤tn∧x= .int .i64 j∧Below wq.heap.size wq wr∧Hid (∀m (hm:m<b.length),m<j→rcl a[k] b[m]=false)) (fun x _=>tn-(intOf x).toNat)
   case atStart=>exact⟨0,by omega,rfl,brf,YJ (fun m _ h=>by omega)⟩
   case round=>
    obtain⟨j,hj,rfl,hbq,Hdj⟩:=hrel
    have hbV:Below V.heap.size V wr:=fB hb hbq
    have hBr:=(hbV.block _ (ah HB.out)).trans HB.out
    have b0':wr.cell? ⟨W.heap.size+1,0,none⟩=some (.slice ta tn tc):=(ag hBr 0).trans rfl
    have bz:=ah hBr
    have a0:=ab hbq a0
    have az:=qaG az hbq.size
    clear hBr
    by_cases hlj:j<tn
    ·have g3:(j:Int)<(tn:Int):=by omega
     have g4:(0:Int)≤(j:Int):=by omega
     have hjl:j<b.length:=by have:=Hm.out;omega
     obtain⟨b2,off2,rfl,hi5⟩:=HY.out (by omega)
     obtain⟨qv,f0,hr⟩:=hi5 j hjl
     have f0:=ab (fB hV hbV) f0
     have HR1:Hid (Q4s wr qv b[j]):=YJ (hr.below (fB hV hbV))
     have e0:=ab hbq e0
     have HQ2:=YJ (HQ1.out.below hbq)
     have ze:=qaC wr _ e0
     have zf:=qaC wr _ f0
     simp only at ze zf
     have oa:=(HCa k hil).out
     have ob:=(HCb j hjl).out
     have on:=QA oa ob
     have HJ:=fun W' (hW':Below wr.heap.size wr W')=>YJ (Qf a[k] b[j] pv qv W' oa.2.1 ob.2.1 (qaD oa.2.2 (by decide)) (qaD ob.2.2 (by decide)) (HQ2.out.below hW') (HR1.out.below hW'))
     have HP:=fun v W' (h:Q4s W' v (a[k]++b[j]))=>YJ (WH (a[k]++b[j]) v W' on.1 (qaD on.2.1 (by decide)) h)
     have HI:=fun v cv W' (h:Q4s W' v (a[k]++b[j])) (h':Q4s W' cv (ct (a[k]++b[j])))=>YJ (WI (a[k]++b[j]) (ct (a[k]++b[j])) v cv W' on.1 (fun c hc=>tE on.1 c hc) (qaD on.2.1 (by decide)) on.2.2 h h')
     have HSo:=fun cv W' (h:Q4s W' cv (ct (a[k]++b[j])))=>YJ (Qe (ct (a[k]++b[j])) cv W' on.2.2 h)
     have HCl:Hid (rcl a[k] b[j]=(a[k]++b[j]).all (gM (ct (a[k]++b[j])))):=YJ rfl
     have Hh:=YJ ((Hhit k j hil hjl).out)
     have Hst:Hid (rcl a[k] b[j]=false→∀m (hm:m<b.length),m<j+1→rcl a[k] b[m]=false):=YJ (fun h m hm hmj=>by
      by_cases e:m=j
      ·subst e;exact h
      ·exact Hdj.out m hm (by omega))
     obtain⟨pa,pn,pc,rfl, -⟩:=id HQ2.out
     obtain⟨qa,qn,qc,rfl, -⟩:=id HR1.out
     have HLn:=YJ on.2.2
     clear HX HY Hhit Hno Hd Hdj hi5 oa ob on HCa HCb HQ1 HQ2 HR1 hr
     rw[←HCl.out]at HI
     clear HCl
     generalize rcl a[k] b[j]=cl at*
     generalize ct (a[k]++b[j])=cor at*
     generalize a[k]++b[j]=pls at*
     go_wp2
     apply aj [] [0,1,2,3,4,5,6,7,8,9,10,11,12] 13 [] [sv _,sv _,sv _,sv _,sv _,sv _,sv _,sv _,sv _,sv _,sv _,sv _,⟨QW pls,by first|exact QN _⟩] (by kernel_rfl) (by kernel_rfl)
     iterate 12 ((try go_frame);refine wkQ ?_)
     try go_frame
     refine wkU (fun u hR K hK=> ?_) (fun o12=> ?_)
     ·clear hR
      go_simp
      refine((HJ _ u.below).out).mono ?_
      rintro e w9 ⟨v9,rfl,hb9,hp9⟩
      exact hK _ _ hb9 hp9
     try go_frame
     refine aI (fun u hR=> ?_)
     have hpl:QW pls o12 u.val:=hR 12 (by simp)
     have HPl:=YJ hpl
     have hbu:=u.below
     clear hR HJ a0 az b0' bz e0 f0 ze zf
     obtain⟨ja,jn,jc,rfl, -⟩:=hpl
     generalize u.val=w1 at*
     clear u
     have HP1:=YJ ((HP _ w1 HPl.out).out)
     clear HP
     simp only[oas]
     go_wp2
     refine NoPanic.normal ?_
     go_wp2_with fail
     refine HP1.out.mono ?_
     rintro e w2 ⟨cv,rfl,hb2,hc2⟩
     have HC2:=YJ (dV hc2)
     have HI2:=YJ ((HI _ cv w2 (HPl.out.below hb2) HC2.out).out)
     have HS2:=fun W' (h:Below w2.heap.size w2 W')=>YJ ((HSo cv W' (HC2.out.below h)).out)
     have hbu2:=fB hbu hb2
     obtain⟨ca,cc,rfl⟩:=aT hc2
     clear HI HSo hc2 HP1 HPl
     go_wp2_with fail
     refine HI2.out.mono ?_
     rintro e w3 ⟨rfl,hb3⟩
     have hbu3:=fB hbu2 hb3
     cases cl with
     |false=>
      have HF:=YJ (Hst.out rfl)
      clear HI2 HS2 Hst Hh
      go_wp2
      go_roundw
      case rel=>exact⟨j+1,by omega,by go_num,fB hbq hbu3,HF⟩
      simp[intOf];try omega
     |true=>
      obtain rfl:=Hh.out rfl
      have HS3:=YJ ((HS2 w3 hb3).out)
      clear HI2 HS2 Hst
      go_wp2_with fail
      refine HS3.out.mono ?_
      rintro e w4 ⟨v,L,rfl,hb4, -,ho⟩
      have hbu4:=fB hbu3 hb4
      have hbV4:=fB hbV hbu4
      have HO4:=YJ ((hbV4.block _ (ah HO.out)).trans HO.out)
      have hw4:Below W.heap.size W w4:=fB hV hbV4
      obtain⟨va,vc,rfl⟩:=aT ho
      generalize L.length=ln at*
      obtain⟨o0,o1,o2,of,oz⟩:=NO HO4.out
      clear HS3 ho
      go_wp2
      refine bodyPost_ret (v:= .tuple #[.agg #[.int .i64 k, .int .i64 j, .slice va ln vc], .bool true]) (by simp[results,Tryz.results52,go_sem,o0,o1,o2,oz]) rfl ⟨?_,k,j,va,ln,vc,rfl⟩
      iterate 3 (refine qga ?_ (by first|exact qaA _|exact Nat.le_succ _|(simp;done)|(simp;omega)) _)
      exact hw4
    ·obtain rfl:j=tn:=by omega
     clear HX HY Hhit Hno
     have Hd2:Hid (∀i j (hi:i<a.length) (hj:j<b.length),i<k+1→rcl a[i] b[j]=false):=YJ (fun i m hi hm h=>by
      by_cases e:i=k
      ·subst e;exact Hdj.out m hm (by have:=Hm.out;omega)
      ·exact Hd.out i m hi hm (by omega))
     go_wp2
     go_roundw
     case rel=>exact⟨k+1,by omega,by go_num,hbV,Hd2⟩
     simp[intOf];try omega
  ·obtain rfl:k=sn:=by omega
   have hT:=Hno.out (fun i j hi hj=>Hd.out i j hi hj (by have:=Hn.out;omega))
   subst hT
   have HOr:=YJ ((hb.block _ (ah HO.out)).trans HO.out)
   have hw4:Below W.heap.size W wr:=fB hV hb
   obtain⟨o0,o1,o2,of,oz⟩:=NO HOr.out
   clear HX HY Hhit Hno Hd HCa HCb
   go_wp2
   refine bodyPost_ret (v:= .tuple #[.agg #[.int .i64 0, .int .i64 0, .slice none 0 0], .bool false]) (by simp[results,Tryz.results52,go_sem,o0,o1,o2,oz]) rfl ⟨?_,0,0,none,0,0,rfl⟩
   iterate 3 (refine qga ?_ (by first|exact qaA _|exact Nat.le_succ _|(simp;done)|(simp;omega)) _)
   exact hw4
def Oe (l:List (List (List Q4))):Bool:=(List.range l.length).any fun i=>(List.range i).any fun k=>Oh (l.getD i []) (l.getD k [])
def NY (l:List (List (List Q4))):Int:=if 12<l.length then 8 else if cx l=0 then(if Oe l then 15 else 0)else cx l
theorem Qg {l:List (List (List Q4))} {i k:Nat} (hi:i<l.length) (hk:k<i) (h:Oh l[i] l[k]=true):Oe l=true:=by
 unfold Oe
 rw[ultj]
 refine⟨i,by simpa using hi, ?_⟩
 rw[ultj]
 refine⟨k,by simpa using hk, ?_⟩
 simpa [List.getD,hi,(show k<l.length by omega)]using h
theorem Qt {l:List (List (List Q4))} (h:∀i k (hi:i<l.length) (hk:k<i),Oh l[i] l[k]=false):Oe l=false:=by
 unfold Oe
 rw[ultp]
 intro i hi
 rw[Bool.not_eq_true,ultp]
 intro k hk
 have hi':i<l.length:=by simpa using hi
 have hk':k<i:=by simpa using hk
 have:=h i k hi' hk'
 simpa [List.getD,hi',(show k<l.length by omega)]using this
theorem PP (l:List (List (List Q4))) (lv:Value) (W:World) (hL:∀s∈l,∀c∈s,c.length≤1000000) (h:SolsV W lv l):
  Calls Tryz.prog 14 #[lv] W (Ret W (.int .i64 (NY l))):=by
 obtain⟨la,n,lc,rfl,hn, -,hx⟩:=h
 have HX:=YJ hx
 have HN:=YJ hn
 have H12:Hid (12<n→NY l=8):=YJ (fun h=>by unfold NY;rw[if_pos (by omega)])
 have Hbad:Hid (¬12<n→cx l≠0→NY l=cx l):=YJ (fun h h'=>by unfold NY;rw[if_neg (by omega),if_neg h'])
 have Hcl:Hid (¬12<n→cx l=0→Oe l=true→NY l=15):=YJ (fun h h' h3=>by unfold NY;rw[if_neg (by omega),if_pos h',if_pos h3])
 have Hok:Hid (¬12<n→cx l=0→Oe l=false→NY l=0):=YJ (fun h h' h3=>by unfold NY;rw[if_neg (by omega),if_pos h',if_neg (by simp[h3])])
 have Hhit:=YJ (Fa l)
 have Hnone:=YJ (Eg l)
 have Hany:=YJ (@Fb l)
 have HCh:=YJ (fun i k=> @Qg l i k)
 have HCn:=YJ (@Qt l)
 have HLl:=fun i (h:i<l.length)=>YJ (hL _ (qaB h))
 clear hx hn hL
 generalize NY l=res at*
 generalize cx l=pe at*
 generalize Oe l=ca at*
 go_enter Tryz.func14,Tryz.ntmps14
 by_cases h12:12<n
 ·have g0:(12:Int)<(n:Int):=by omega
  obtain rfl:=H12.out h12
  clear H12 Hbad Hcl Hok Hhit Hnone Hany HCh HCn HX
  go_wp2
  go_ret
  exact⟨rfl,brf⟩
 ·have g0:¬(12:Int)<(n:Int):=by omega
  have Hbad':=YJ (Hbad.out h12)
  have Hcl':=YJ (Hcl.out h12)
  have Hok':=YJ (Hok.out h12)
  have hn12:n≤12:=by omega
  clear H12 Hbad Hcl Hok h12
  go_wp2
  go_loopw [3] (fun x wr=>∃k:Nat,k≤n∧x= .int .i64 k∧Below W.heap.size W wr∧Hid (∀i (hi:i<l.length),i<k→nb l[i]=0)) (fun x _=>n-(intOf x).toNat)
  case atStart=>exact⟨0,by omega,rfl,brf,YJ (fun i _ h=>by omega)⟩
  case round=>
   obtain⟨k,hk,rfl,hb,Hd⟩:=hrel
   by_cases hlt:k<n
   ·have g1:(k:Int)<(n:Int):=by omega
    have g2:(0:Int)≤(k:Int):=by omega
    have hil:k<l.length:=by have:=HN.out;omega
    obtain⟨b,off,rfl,hi4⟩:=HX.out (by omega)
    obtain⟨sv,e0,hs⟩:=hi4 k hil
    have e0:=ab hb e0
    have ze:=qaC wr _ e0
    simp only at ze
    have HC:=fun W' (h:Below wr.heap.size wr W')=>YJ (PO l[k] sv W' (HLl k hil).out ((hs.below hb).below h))
    have HE:Hid (nb l[k]=if Tv l[k]=0 then(if l[k].length=0 then 13 else 0)else Tv l[k]):=YJ rfl
    have Hh:=YJ (Hhit.out k hil (fun i hi hik=>Hd.out i hi hik))
    have Hst:Hid (nb l[k]=0→∀i (hi:i<l.length),i<k+1→nb l[i]=0):=YJ (fun h i hi hik=>by
     by_cases e:i=k
     ·subst e;exact h
     ·exact Hd.out i hi (by omega))
    obtain⟨sa,sn,sc,rfl,hsn, -⟩:=id hs
    have HSn:=YJ hsn
    clear hs hi4 hsn HX Hhit Hnone Hany HCh HCn Hd
    generalize nb l[k]=se at*
    generalize Tv l[k]=so at*
    rw[HSn.out]at HE
    go_wp2_with fail
    refine((HC _ (brf)).out).mono ?_
    rintro e w1 ⟨rfl,hb1⟩
    have hw1:=fB hb hb1
    have e0:=ab hb1 e0
    have ze:=qaG ze hb1.size
    clear HC HSn
    by_cases h0:so=0
    ·subst h0
     rw[if_pos rfl]at HE
     by_cases hz:sn=0
     ·subst hz
      rw[if_pos rfl]at HE
      have h13:=HE.out
      have hpe:=Hh.out (by omega)
      have hr:=Hbad'.out (by omega)
      clear HE Hst Hh Hcl' Hok' Hbad'
      have hz0:((0:Nat):Int)=0:=rfl
      go_wp2
      go_ret
      exact⟨by rw[hr,hpe,h13];rfl,hw1⟩
     ·have g5:¬((sn:Int)=0):=by omega
      have g6:((sn:Int)==0)=false:=by simpa using hz
      rw[if_neg hz]at HE
      have HF:=YJ (Hst.out HE.out)
      clear HE Hst Hh
      go_wp2
      go_roundw
      case rel=>exact⟨k+1,by omega,by go_num,hw1,HF⟩
      simp[intOf];try omega
    ·rw[if_neg h0]at HE
     have hse:=HE.out
     have hpe:=Hh.out (by omega)
     have hr:=Hbad'.out (by omega)
     have h0':(so !=0)=true:=by simpa using h0
     clear HE Hst Hh Hcl' Hok' Hbad'
     go_wp2
     go_ret
     exact⟨by rw[hr,hpe,hse];rfl,hw1⟩
   ·obtain rfl:n=k:=by omega
    have hpe:=Hnone.out (fun i hi=>Hd.out i hi (by have:=HN.out;omega))
    subst hpe
    have Hcl2:=YJ (Hcl'.out rfl)
    have Hok2:=YJ (Hok'.out rfl)
    have Hall:=YJ (Hany.out rfl)
    clear Hcl' Hok' Hany Hhit Hnone Hd Hbad'
    rename World=>wa
    go_wp2
    go_loopw [5] (fun x wr=>∃k:Nat,k≤n∧x= .int .i64 k∧Below wa.heap.size wa wr∧Hid (∀i j (hi:i<l.length) (hj:j<i),i<k→Oh l[i] l[j]=false)) (fun x _=>n-(intOf x).toNat)
    case atStart=>exact⟨0,by omega,rfl,brf,YJ (fun i j _ _ h=>by omega)⟩
    case round=>
     obtain⟨i,hi,rfl,hbi,Hdi⟩:=hrel
     have hbW:=fB hb hbi
     by_cases hli:i<n
     ·have g3:(i:Int)<(n:Int):=by omega
      have g4:(0:Int)≤(i:Int):=by omega
      have hil:i<l.length:=by have:=HN.out;omega
      obtain⟨b,off,rfl,hx4⟩:=HX.out (by omega)
      obtain⟨sv,e0,hs⟩:=hx4 i hil
      have e0:=ab hbW e0
      have HS:=YJ (hs.below hbW)
      have HX4:=YJ hx4
      clear hx4
      have oS:=Is (Hall.out _ (qaB hil))
      have HOS:=YJ oS
      obtain⟨sa,sn,sc,rfl, -⟩:=hs
      obtain⟨wq,rfl⟩:∃wq:World,wq=wr:=⟨_,rfl⟩
      clear oS HX
      go_wp2
      go_loopw [6] (fun x wr=>∃j:Nat,j≤i∧x= .int .i64 j∧Below wq.heap.size wq wr∧Hid (∀m (hm:m<i),m<j→Oh l[i] l[m]=false)) (fun x _=>i-(intOf x).toNat)
      case atStart=>exact⟨0,by omega,rfl,brf,YJ (fun m _ h=>by omega)⟩
      case round=>
       obtain⟨j,hj,rfl,hbj,Hdj⟩:=hrel
       by_cases hlj:j<i
       ·have g5:(j:Int)<(i:Int):=by omega
        have g6:(0:Int)≤(j:Int):=by omega
        have g7:(j:Int)<(n:Int):=by omega
        have hjl:j<l.length:=by omega
        obtain⟨tv,f0,ht⟩:=HX4.out j hjl
        have f0:=ab (fB hbW hbj) f0
        have HT:=YJ (ht.below (fB hbW hbj))
        have e0:=ab hbj e0
        have ze:=qaC wr _ e0
        simp only at ze
        have oT:=Is (Hall.out _ (qaB hjl))
        have HC:=fun W' (h:Below wr.heap.size wr W')=>YJ (PG l[i] l[j] _ tv W' (fun c hc=>Dl ((xb HOS.out.1).2 c hc)) (fun c hc=>Dl ((xb oT.1).2 c hc)) (qaD (xb HOS.out.1).1 (by decide)) (qaD (xb oT.1).1 (by decide)) ((HS.out.below hbj).below h) (HT.out.below h))
        have Hh:=YJ (HCh.out i j hil hlj)
        have Hst:Hid (Oh l[i] l[j]=false→∀m (hm:m<i),m<j+1→Oh l[i] l[m]=false):=YJ (fun h m hm hmj=>by
         by_cases e:m=j
         ·subst e;exact h
         ·exact Hdj.out m hm (by omega))
        obtain⟨ta,tn,tc,rfl, -⟩:=ht
        clear HX4 HCh HCn Hdi Hdj oT Hall HLl HOS HS HT
        generalize Oh l[i] l[j]=r at*
        go_wp2
        go_cut [8] (fun s8 wx=>s8= .bool r∧Below wr.heap.size wr wx)
        case first=>
         go_region_held (fun w'=>w'.cell? ⟨b,off+i,none⟩=some (.slice sa sn sc)∧w'.cell? ⟨b,off+j,none⟩=some (.slice ta tn tc)∧Below wr.heap.size wr w') (exact⟨ab bel e0,ab bel f0,bel⟩) ((go_at_call 52;refine((HC _ bel).out).mono ?_;rintro e w2 ⟨hb2,i9,k9,s9,n9,c9,rfl⟩;(try(have hq:=(hb2.block wr.heap.size (by simp)).trans (ai (by simp));obtain⟨q0,q1,q2,qf,qz⟩:=NO hq;clear hq));replace hb2:Below wr.heap.size wr w2:=fB bel hb2;have zz2:=hb2.size))
         all_goals (go_wp2_with fail;go_meet;exact⟨rfl,bel⟩)
        case rest=>
         rename World=>w3
         obtain⟨rfl,hb3⟩:=hcut
         clear HC e0 f0 ze
         cases r with
         |true=>
          have hca:=Hh.out rfl
          have hr:=Hcl2.out hca
          have hw3:=fB (fB hbW hbj) hb3
          clear Hh Hst Hcl2 Hok2
          go_wp2
          go_ret
          exact⟨by rw[hr];rfl,hw3⟩
         |false=>
          have HF:=YJ (Hst.out rfl)
          clear Hh Hst
          go_wp2
          go_roundw
          case rel=>exact⟨j+1,by omega,by go_num,fB hbj hb3,HF⟩
          simp[intOf];try omega
       ·obtain rfl:i=j:=by omega
        have HF:Hid (∀i' j (hi:i'<l.length) (hj:j<i'),i'<i+1→Oh l[i'] l[j]=false):=YJ (fun i' m hi hm h=>by
         by_cases e:i'=i
         ·subst e;exact Hdj.out m hm hm
         ·exact Hdi.out i' m hi hm (by omega))
        have hbq:=fB hbi hbj
        clear e0 HX4
        go_wp2
        go_roundw
        case rel=>exact⟨i+1,by omega,by go_num,hbq,HF⟩
        simp[intOf];try omega
     ·have hca:=HCn.out (fun i' j hi hj=>Hdi.out i' j hi hj (by have:=HN.out;omega))
      have hr:=Hok2.out hca
      clear HX HCh HCn Hcl2 Hok2 Hall HLl
      go_wp2
      go_ret
      exact⟨by rw[hr];rfl,hbW⟩
end
end Go.Proofs.YtnpmkepfpekhfaaGreatDoor
