/- texts: O15 AC6 AC7 ACA FG8 FHD FHE FHB FHF FHG. -/
import Derived.Test.YtnpmkepfpekhfaaGreatDoorSIS39
namespace Go.Proofs.YtnpmkepfpekhfaaGreatDoor
set_option maxHeartbeats 8000000
set_option linter.all false
section
open Go.RowKit
theorem qcF {n grp:Nat} (hg:grp<4096) (h:grp<2 ^ n):gh (nI (lf grp)) n=0:=by
 refine Ke (fun j hj=> ?_) (fun j hj h1=> ?_)
 ·have hj':j<(lf grp).length:=by simpa [TO]using hj
  rw[WA hj']
  have:=Cz n grp grp hg h _ (qaB hj')
  omega
 ·have hj':j<(lf grp).length:=by simpa [TO]using hj
  rw[WA hj',WA (show j-1<(lf grp).length by omega)]
  have:=List.pairwise_iff_getElem.1 (UR hg) (j-1) j (by omega) hj' (by omega)
  omega
theorem qcm {n m:Nat} (h:m<n):gh [(m:Int)] n=0:=by
 refine Ke (fun j hj=> ?_) (fun j hj h1=> ?_)
 ·obtain rfl:j=0:=by simpa using hj
  simp
  omega
 ·have:j=0:=by simpa using hj
  omega
theorem qcG:∀v∈ways26,mK v=0:=by decide
theorem qcS (gs:List (List Int)) (g:List Int):atF (gs++[g]) g (gs++[g]).length=gs.length:=by
 rw[qaE,List.length_singleton,qbR]
 rw[if_pos (by simp[List.getD])]
theorem qcg {l:List (List (List Q4))} (h:eB l=0):∀f grp gs r,grp<2 ^ l.length→(lf grp).length≤f→wb (psB l) f grp=some r→qbO l (gs++[nI (lf grp)]) (r.map GE)=0
 |0,_,_,_,_,_,e=>by
  cases e
  rfl
 |f+1,grp,gs,r,hlt,hf,e=>by
  have h12:=(sq h).1
  have hg:grp<4096:=qaG hlt (Nat.pow_le_pow_right (by decide) h12)
  unfold wb at e
  split at e
  ·cases e
   rfl
  ·rename_i h1
   cases ha:CL (psB l) grp with
   |none=>rw[ha]at e;cases e
   |some q=>
    obtain⟨v,n⟩:=q
    rw[ha]at e
    obtain⟨r',hr',rfl⟩:=Option.map_eq_some_iff.1 e
    obtain⟨hv,hn,hm⟩:=qaL ha
    have hn12:=rr hg ((Tz hg).1 hn)
    have hnl:=Cz l.length grp grp hg hlt n hn
    have hel:=qaQ hg hn12
    have hw1:=qca ((UR hg).imp (fun h=>Nat.ne_of_lt h)) hn
    have hd2:dN grp (2 ^ n)<2 ^ l.length:=qaG (YC ((Tz hg).1 hn) (by simp[Nat.testBit_two_pow])) (Nat.le_of_lt hlt)
    have hrec:=qcg h f (dN grp (2 ^ n)) ((gs++[nI (lf grp)]).set gs.length [(n:Int)]) r' hd2 (by rw[hel];omega) hr'
    rw[hel]at hrec
    show qbO l (gs++[nI (lf grp)]) (GE (grp,n,v)::r'.map GE)=0
    unfold qbO
    rw[if_neg (by rw[show(GE (grp,n,v)).1=nI (lf grp)from rfl,qcF hg hlt];simp)]
    rw[if_neg (by rw[show(GE (grp,n,v)).2.1=[(n:Int)]from rfl,qcm hnl];simp)]
    rw[if_neg (by rw[show(GE (grp,n,v)).2.2=v from rfl,qcG v hv];simp)]
    rw[show(GE (grp,n,v)).1=nI (lf grp)from rfl,show(GE (grp,n,v)).2.1=[(n:Int)]from rfl,show(GE (grp,n,v)).2.2=v from rfl,qcS,qcx]
    rw[if_neg (by omega),if_neg (by simp only[List.length_singleton,TO];omega)]
    rw[if_neg]
    ·rw[Int.toNat_natCast];exact hrec
    ·rw[qcO,show([(n:Int)]:List Int).map Int.toNat=[n] by simp,WF, ←qbX n hn12, ←Yz (Wz h (qcM hv)) hg (qbQ hn12)]
     rw[show l.map (·.map bp)=psB l from rfl,hm]
     decide
theorem qbL {ps:List (List Bod)}:∀f grp r,grp<4096→(lf grp).length≤f→wb ps f grp=some r→r.length=(lf grp).length-1
 |0,_,_,_,hf,e=>by
  cases e
  simp
  omega
 |f+1,grp,r,hg,hf,e=>by
  unfold wb at e
  split at e
  ·cases e
   simp
   omega
  ·rename_i h1
   cases ha:CL ps grp with
   |none=>rw[ha]at e;cases e
   |some q=>
    obtain⟨v,n⟩:=q
    rw[ha]at e
    obtain⟨r',hr',rfl⟩:=Option.map_eq_some_iff.1 e
    obtain⟨hv,hn,hm⟩:=qaL ha
    have hn12:=rr hg ((Tz hg).1 hn)
    have hel:=qaQ hg hn12
    have hw1:=qca ((UR hg).imp (fun h=>Nat.ne_of_lt h)) hn
    have:=qbL f (dN grp (2 ^ n)) r' (Yc hg) (by rw[hel];omega) hr'
    rw[hel]at this
    simp only[qdn]
    omega
def qbU (l:List (List (List Q4))):Option (List (Nat×Nat×Q3)):=wb (psB l) l.length (2 ^ l.length-1)
theorem qdc {l:List (List (List Q4))} (h:eB l=0) {r:List (Nat×Nat×Q3)} (e:qbU l=some r):rcp l (r.map GE)=0:=by
 have h12:=(sq h).1
 have hp:0<2 ^ l.length:=Nat.two_pow_pos _
 have he:=WT h12
 have hlen:=qbL l.length _ r (WQ h12) (by rw[he,qdA];exact qaA _) e
 rw[he,qdA]at hlen
 unfold rcp
 rw[if_neg (by rw[qdo,hlen];omega)]
 have:=qcg h l.length (2 ^ l.length-1) [] r (by omega) (by rw[he,qdA];exact qaA _) e
 rw[he]at this
 exact this
theorem qcT {l:List (List (List Q4))} (h:eB l=0):qaV l l.length (List.range l.length)=(qbU l).isSome:=by
 have h12:=(sq h).1
 rw[←WT h12]
 exact qbY h l.length _ (WQ h12)
end
section
open Go.RowKit Go.Shelf
attribute [local go_sem] Ext.cell Ext.frozen
def NX (n:Nat):Bool:=decide (n≤8) || (decide (16<n)&&decide (n≤20))
set_option maxRecDepth 100000 in
theorem QC (a:Option Addr) (n c:Nat) (W:World):Calls Tryz.prog 94 #[.agg #[.slice a n c]] W (Ret W (.bool (NX n))):=by
 obtain⟨r,HR⟩:∃r,Hid (NX n=r):=⟨_,YJ rfl⟩
 rw[HR.out]
 by_cases h8:n≤8
 ·have g1:(n:Int)≤8:=by omega
  obtain rfl:r=true:=by rw[←HR.out];unfold NX;rw[decide_eq_true h8];rfl
  clear HR
  go_enter Tryz.func94,Tryz.ntmps94
  go_wp2
  go_ret
  exact⟨ay (by simp),bel⟩
 ·have g1:¬(n:Int)≤8:=by omega
  by_cases h16:16<n
  ·have g2:(16:Int)<(n:Int):=by omega
   by_cases h20:n≤20
   ·have g3:(n:Int)≤20:=by omega
    obtain rfl:r=true:=by rw[←HR.out];unfold NX;rw[decide_eq_true h16,decide_eq_true h20];simp
    clear HR
    go_enter Tryz.func94,Tryz.ntmps94
    go_wp2
    go_ret
    exact⟨ay (by simp),bel⟩
   ·have g3:¬(n:Int)≤20:=by omega
    obtain rfl:r=false:=by rw[←HR.out];unfold NX;rw[decide_eq_false h8,decide_eq_false h20];simp
    clear HR
    go_enter Tryz.func94,Tryz.ntmps94
    go_wp2
    go_ret
    exact⟨ay (by simp),bel⟩
  ·have g2:¬(16:Int)<(n:Int):=by omega
   obtain rfl:r=false:=by rw[←HR.out];unfold NX;rw[decide_eq_false h8,decide_eq_false h16];simp
   clear HR
   go_enter Tryz.func94,Tryz.ntmps94
   go_wp2
   go_ret
   exact⟨ay (by simp),bel⟩
def Qh (m n:Nat):Bool:=decide (n≤m) || (decide (100<n)&&decide (n≤105))
def Oa (m:Nat) (css:List (List Q4)):Bool:=Qh m css.length&&css.all fun c=>NX c.length
set_option maxRecDepth 100000 in
theorem PQ (m:Nat) (css:List (List Q4)) (sv:Value) (W:World) (hm:m≤100) (hl:css.length≤maxLen) (h:SolV W sv css):
  Calls Tryz.prog 45 #[.agg #[sv], .int .i64 m] W (Ret W (.bool (Oa m css))):=by
 obtain⟨sa,n,sc,rfl,hn, -,hx⟩:=h
 have HX:=YJ hx
 have HN:=YJ hn
 have HSl:=fun a n c W'=>YJ (QC a n c W')
 have hn':n≤maxLen:=by omega
 have Hc0:Hid (Qh m n=false→Oa m css=false):=YJ (fun h=>by unfold Oa;rw[hn,h];rfl)
 have Hhit:Hid (∀i (hi:i<css.length),NX css[i].length=false→Oa m css=false):=YJ (fun i hi h=>by
  unfold Oa
  rw[Bool.and_eq_false_iff]
  refine .inr ?_
  rw[List.all_eq_false]
  exact⟨css[i],qaB hi,by simpa using h⟩)
 have Hall:Hid (Qh m n=true→(∀i (hi:i<css.length),NX css[i].length=true)→Oa m css=true):=YJ (fun h h2=>by
  unfold Oa
  rw[hn,h,Bool.true_and,alsi]
  intro c hc
  obtain⟨i,hi,rfl⟩:=qaJ hc
  exact h2 i hi)
 obtain⟨V,HV⟩:∃V,Hid (W.alloc (.cells #[.slice sa n sc] 81)=V):=⟨_,YJ rfl⟩
 have hV:Below W.heap.size W V:=by rw[←HV.out];exact bel
 have HA:Hid (V.heap[W.heap.size]? =some (.cells #[.slice sa n sc] 81 (0,0))):=YJ (by rw[←HV.out];exact ai rfl)
 have v0:V.cell? ⟨W.heap.size,0,none⟩=some (.slice sa n sc):=(ag HA.out 0).trans rfl
 have vz:=ah HA.out
 clear hx hn hl
 generalize Oa m css=res at*
 have key:∀g:Bool,Qh m n=g→Hid ((g=true→(n≤m∨100<n∧n≤105))∧(g=false→(m<n∧n≤100)∨105<n)):=fun g hg=>YJ (by
  unfold Qh at hg
  subst hg
  refine⟨fun h=> ?_,fun h=> ?_⟩
  ·simp only[Bool.or_eq_true,qaF,decide_eq_true_eq]at h;omega
  ·simp only[Bool.or_eq_false_iff,Bool.and_eq_false_iff,decide_eq_false_iff_not]at h;omega)
 obtain⟨g,hg⟩:∃g,Qh m n=g:=⟨_,rfl⟩
 have Hk:=key g hg
 rw[hg]at Hc0 Hall
 clear key hg
 cases g with
 |false=>
  have hr:=Hc0.out (by first|rfl|trivial)
  rcases Hk.out.2 (by first|rfl|trivial)with⟨k1,k2⟩|k1
  ·have g1:(m:Int)<(n:Int):=by omega
   have g2:(n:Int)≤100:=by omega
   clear Hc0 Hhit Hall Hk HX HSl
   go_enter Tryz.func45,Tryz.ntmps45
   go_wp2
   go_ret
   exact⟨by first|(rw[hr];rfl)|rfl,by rw[HV.out];exact hV⟩
  ·have g1:(m:Int)<(n:Int):=by omega
   have g2:¬(n:Int)≤100:=by omega
   have g3:(105:Int)<(n:Int):=by omega
   clear Hc0 Hhit Hall Hk HX HSl
   go_enter Tryz.func45,Tryz.ntmps45
   go_wp2
   go_ret
   exact⟨by first|(rw[hr];rfl)|rfl,by rw[HV.out];exact hV⟩
 |true=>
  have hk:=Hk.out.1 (by first|rfl|trivial)
  have g3:¬(105:Int)<(n:Int):=by omega
  have hn105:n≤105:=by omega
  by_cases hmn:n≤m
  ·have g4:¬(m:Int)<(n:Int):=by omega
   clear Hc0 Hk hk
   go_enter Tryz.func45,Tryz.ntmps45
   go_wp2
   try rw[HV.out]
   clear HV
   go_loopw [5] (fun x wr=>∃k:Nat,k≤n∧x= .int .i64 k∧Below V.heap.size V wr∧Hid (∀i (hi:i<css.length),i<k→NX css[i].length=true)) (fun x _=>n-(intOf x).toNat)
   case atStart=>exact⟨0,by omega,rfl,brf,YJ (fun i _ h=>by omega)⟩
   case round=>
    obtain⟨k,hk,rfl,hb,Hd⟩:=hrel
    have r0:=ab hb v0
    have rz:=qaG vz hb.size
    by_cases hlt:k<n
    ·have g1:(k:Int)<(n:Int):=by omega
     have g2:(0:Int)≤(k:Int):=by omega
     have hil:k<css.length:=by have:=HN.out;omega
     obtain⟨b,off,rfl,hi4⟩:=HX.out (by omega)
     obtain⟨pv,e0,hs⟩:=hi4 k hil
     have e0:=ab (fB hV hb) e0
     have ze:=qaC wr _ e0
     simp only at ze
     obtain⟨pa,pn,pc,rfl,hpn, -⟩:=hs
     have HS:=fun W'=>YJ (HSl pa pn pc W').out
     have Hh:=YJ (Hhit.out k hil)
     have Hst:Hid (NX css[k].length=true→∀i (hi:i<css.length),i<k+1→NX css[i].length=true):=YJ (fun h i hi hik=>by
      by_cases e:i=k
      ·subst e;exact h
      ·exact Hd.out i hi (by omega))
     rw[hpn]at Hh Hst
     clear hpn hi4 HX Hhit Hall Hd HSl v0 vz
     generalize NX pn=sl at*
     go_wp2_with fail
     refine((HS _).out).mono ?_
     rintro e w2 ⟨rfl,hb2⟩
     cases sl with
     |true=>
      have HF:=YJ (Hst.out rfl)
      clear HS Hh Hst
      go_wp2
      go_roundw
      case rel=>exact⟨k+1,by omega,by go_num,fB hb hb2,HF⟩
      case measure=>simp[intOf];try omega
     |false=>
      have hr:=Hh.out rfl
      have hw:=fB (fB hV hb) hb2
      clear HS Hh Hst
      go_wp2
      go_ret
      exact⟨by first|(rw[hr];rfl)|rfl,hw⟩
    ·obtain rfl:n=k:=by omega
     have hr:=Hall.out (by first|rfl|trivial) (fun i hi=>Hd.out i hi (by have:=HN.out;omega))
     have hw:=fB hV hb
     clear HX Hhit Hall Hd HSl
     go_wp2
     go_ret
     exact⟨by first|(rw[hr];rfl)|rfl,hw⟩
  ·have g4:(m:Int)<(n:Int):=by omega
   have g5:¬(n:Int)≤100:=by omega
   clear Hc0 Hk hk
   go_enter Tryz.func45,Tryz.ntmps45
   go_wp2
   try rw[HV.out]
   clear HV
   go_loopw [5] (fun x wr=>∃k:Nat,k≤n∧x= .int .i64 k∧Below V.heap.size V wr∧Hid (∀i (hi:i<css.length),i<k→NX css[i].length=true)) (fun x _=>n-(intOf x).toNat)
   case atStart=>exact⟨0,by omega,rfl,brf,YJ (fun i _ h=>by omega)⟩
   case round=>
    obtain⟨k,hk,rfl,hb,Hd⟩:=hrel
    have r0:=ab hb v0
    have rz:=qaG vz hb.size
    by_cases hlt:k<n
    ·have g1:(k:Int)<(n:Int):=by omega
     have g2:(0:Int)≤(k:Int):=by omega
     have hil:k<css.length:=by have:=HN.out;omega
     obtain⟨b,off,rfl,hi4⟩:=HX.out (by omega)
     obtain⟨pv,e0,hs⟩:=hi4 k hil
     have e0:=ab (fB hV hb) e0
     have ze:=qaC wr _ e0
     simp only at ze
     obtain⟨pa,pn,pc,rfl,hpn, -⟩:=hs
     have HS:=fun W'=>YJ (HSl pa pn pc W').out
     have Hh:=YJ (Hhit.out k hil)
     have Hst:Hid (NX css[k].length=true→∀i (hi:i<css.length),i<k+1→NX css[i].length=true):=YJ (fun h i hi hik=>by
      by_cases e:i=k
      ·subst e;exact h
      ·exact Hd.out i hi (by omega))
     rw[hpn]at Hh Hst
     clear hpn hi4 HX Hhit Hall Hd HSl v0 vz
     generalize NX pn=sl at*
     go_wp2_with fail
     refine((HS _).out).mono ?_
     rintro e w2 ⟨rfl,hb2⟩
     cases sl with
     |true=>
      have HF:=YJ (Hst.out rfl)
      clear HS Hh Hst
      go_wp2
      go_roundw
      case rel=>exact⟨k+1,by omega,by go_num,fB hb hb2,HF⟩
      case measure=>simp[intOf];try omega
     |false=>
      have hr:=Hh.out rfl
      have hw:=fB (fB hV hb) hb2
      clear HS Hh Hst
      go_wp2
      go_ret
      exact⟨by first|(rw[hr];rfl)|rfl,hw⟩
    ·obtain rfl:n=k:=by omega
     have hr:=Hall.out (by first|rfl|trivial) (fun i hi=>Hd.out i hi (by have:=HN.out;omega))
     have hw:=fB hV hb
     clear HX Hhit Hall Hd HSl
     go_wp2
     go_ret
     exact⟨by first|(rw[hr];rfl)|rfl,hw⟩
def Qi (n:Nat):Bool:=decide (n≤4) || (decide (12<n)&&decide (n≤15))
def Ow (l:List (List (List Q4))):Bool:=Qi l.length&&l.all fun s=>Oa 2 s
set_option maxRecDepth 100000 in
theorem QD (l:List (List (List Q4))) (lv:Value) (W:World) (hl:l.length≤maxLen) (hL:∀s∈l,s.length≤maxLen) (h:SolsV W lv l):
  Calls Tryz.prog 11 #[lv] W (Ret W (.bool (Ow l))):=by
 obtain⟨la,n,lc,rfl,hn, -,hx⟩:=h
 have HX:=YJ hx
 have HN:=YJ hn
 have HLn:=fun i (h:i<l.length)=>YJ (hL _ (qaB h))
 have hn':n≤maxLen:=by omega
 have Hc0:Hid (Qi n=false→Ow l=false):=YJ (fun h=>by unfold Ow;rw[hn,h];rfl)
 have Hhit:Hid (∀i (hi:i<l.length),Oa 2 l[i]=false→Ow l=false):=YJ (fun i hi h=>by
  unfold Ow
  rw[Bool.and_eq_false_iff]
  refine .inr ?_
  rw[List.all_eq_false]
  exact⟨l[i],qaB hi,by simpa using h⟩)
 have Hall:Hid (Qi n=true→(∀i (hi:i<l.length),Oa 2 l[i]=true)→Ow l=true):=YJ (fun h h2=>by
  unfold Ow
  rw[hn,h,Bool.true_and,alsi]
  intro c hc
  obtain⟨i,hi,rfl⟩:=qaJ hc
  exact h2 i hi)
 clear hx hn hl hL
 generalize Ow l=res at*
 have key:∀g:Bool,Qi n=g→Hid ((g=true→(n≤4∨12<n∧n≤15))∧(g=false→(4<n∧n≤12)∨15<n)):=fun g hg=>YJ (by
  unfold Qi at hg
  subst hg
  refine⟨fun h=> ?_,fun h=> ?_⟩
  ·simp only[Bool.or_eq_true,qaF,decide_eq_true_eq]at h;omega
  ·simp only[Bool.or_eq_false_iff,Bool.and_eq_false_iff,decide_eq_false_iff_not]at h;omega)
 obtain⟨g,hg⟩:∃g,Qi n=g:=⟨_,rfl⟩
 have Hk:=key g hg
 rw[hg]at Hc0 Hall
 clear key hg
 cases g with
 |false=>
  have hr:=Hc0.out (by first|rfl|trivial)
  rcases Hk.out.2 (by first|rfl|trivial)with⟨k1,k2⟩|k1
  ·have g1:(4:Int)<(n:Int):=by omega
   have g2:(n:Int)≤12:=by omega
   clear Hc0 Hhit Hall Hk HX HLn
   go_enter Tryz.func11,Tryz.ntmps11
   go_wp2
   go_ret
   exact⟨by first|(rw[hr];rfl)|rfl,brf⟩
  ·have g1:(4:Int)<(n:Int):=by omega
   have g2:¬(n:Int)≤12:=by omega
   have g3:(15:Int)<(n:Int):=by omega
   clear Hc0 Hhit Hall Hk HX HLn
   go_enter Tryz.func11,Tryz.ntmps11
   go_wp2
   go_ret
   exact⟨by first|(rw[hr];rfl)|rfl,brf⟩
 |true=>
  have hk:=Hk.out.1 (by first|rfl|trivial)
  have g3:¬(15:Int)<(n:Int):=by omega
  have hn105:n≤15:=by omega
  by_cases hmn:n≤4
  ·have g4:¬(4:Int)<(n:Int):=by omega
   clear Hc0 Hk hk
   go_enter Tryz.func11,Tryz.ntmps11
   go_wp2
   go_loopw [3] (fun x wr=>∃k:Nat,k≤n∧x= .int .i64 k∧Below W.heap.size W wr∧Hid (∀i (hi:i<l.length),i<k→Oa 2 l[i]=true)) (fun x _=>n-(intOf x).toNat)
   case atStart=>exact⟨0,by omega,rfl,brf,YJ (fun i _ h=>by omega)⟩
   case round=>
    obtain⟨k,hk,rfl,hb,Hd⟩:=hrel
    by_cases hlt:k<n
    ·have g1:(k:Int)<(n:Int):=by omega
     have g2:(0:Int)≤(k:Int):=by omega
     have hil:k<l.length:=by have:=HN.out;omega
     obtain⟨b,off,rfl,hi4⟩:=HX.out (by omega)
     obtain⟨sv,e0,hs⟩:=hi4 k hil
     have e0:=ab hb e0
     have ze:=qaC wr _ e0
     simp only at ze
     have HS:Hid (Calls Tryz.prog 45 #[.agg #[sv], .int .i64 2] wr (Ret wr (.bool (Oa 2 l[k])))):=YJ (PQ 2 l[k] sv wr (by decide) (HLn k hil).out (hs.below hb))
     have Hh:=YJ (Hhit.out k hil)
     have Hst:Hid (Oa 2 l[k]=true→∀i (hi:i<l.length),i<k+1→Oa 2 l[i]=true):=YJ (fun h i hi hik=>by
      by_cases e:i=k
      ·subst e;exact h
      ·exact Hd.out i hi (by omega))
     obtain⟨sa,sn,sc,rfl, -⟩:=hs
     clear hi4 HX Hhit Hall Hd HLn
     generalize Oa 2 l[k]=sl at*
     go_wp2_with fail
     refine(HS.out).mono ?_
     rintro e w2 ⟨rfl,hb2⟩
     cases sl with
     |true=>
      have HF:=YJ (Hst.out rfl)
      clear HS Hh Hst
      go_wp2
      go_roundw
      case rel=>exact⟨k+1,by omega,by go_num,fB hb hb2,HF⟩
      case measure=>simp[intOf];try omega
     |false=>
      have hr:=Hh.out rfl
      have hw:=fB hb hb2
      clear HS Hh Hst
      go_wp2
      go_ret
      exact⟨by first|(rw[hr];rfl)|rfl,hw⟩
    ·obtain rfl:n=k:=by omega
     have hr:=Hall.out (by first|rfl|trivial) (fun i hi=>Hd.out i hi (by have:=HN.out;omega))
     clear HX Hhit Hall Hd HLn
     go_wp2
     go_ret
     exact⟨by first|(rw[hr];rfl)|rfl,hb⟩
  ·have g4:(4:Int)<(n:Int):=by omega
   have g5:¬(n:Int)≤12:=by omega
   clear Hc0 Hk hk
   go_enter Tryz.func11,Tryz.ntmps11
   go_wp2
   go_loopw [3] (fun x wr=>∃k:Nat,k≤n∧x= .int .i64 k∧Below W.heap.size W wr∧Hid (∀i (hi:i<l.length),i<k→Oa 2 l[i]=true)) (fun x _=>n-(intOf x).toNat)
   case atStart=>exact⟨0,by omega,rfl,brf,YJ (fun i _ h=>by omega)⟩
   case round=>
    obtain⟨k,hk,rfl,hb,Hd⟩:=hrel
    by_cases hlt:k<n
    ·have g1:(k:Int)<(n:Int):=by omega
     have g2:(0:Int)≤(k:Int):=by omega
     have hil:k<l.length:=by have:=HN.out;omega
     obtain⟨b,off,rfl,hi4⟩:=HX.out (by omega)
     obtain⟨sv,e0,hs⟩:=hi4 k hil
     have e0:=ab hb e0
     have ze:=qaC wr _ e0
     simp only at ze
     have HS:Hid (Calls Tryz.prog 45 #[.agg #[sv], .int .i64 2] wr (Ret wr (.bool (Oa 2 l[k])))):=YJ (PQ 2 l[k] sv wr (by decide) (HLn k hil).out (hs.below hb))
     have Hh:=YJ (Hhit.out k hil)
     have Hst:Hid (Oa 2 l[k]=true→∀i (hi:i<l.length),i<k+1→Oa 2 l[i]=true):=YJ (fun h i hi hik=>by
      by_cases e:i=k
      ·subst e;exact h
      ·exact Hd.out i hi (by omega))
     obtain⟨sa,sn,sc,rfl, -⟩:=hs
     clear hi4 HX Hhit Hall Hd HLn
     generalize Oa 2 l[k]=sl at*
     go_wp2_with fail
     refine(HS.out).mono ?_
     rintro e w2 ⟨rfl,hb2⟩
     cases sl with
     |true=>
      have HF:=YJ (Hst.out rfl)
      clear HS Hh Hst
      go_wp2
      go_roundw
      case rel=>exact⟨k+1,by omega,by go_num,fB hb hb2,HF⟩
      case measure=>simp[intOf];try omega
     |false=>
      have hr:=Hh.out rfl
      have hw:=fB hb hb2
      clear HS Hh Hst
      go_wp2
      go_ret
      exact⟨by first|(rw[hr];rfl)|rfl,hw⟩
    ·obtain rfl:n=k:=by omega
     have hr:=Hall.out (by first|rfl|trivial) (fun i hi=>Hd.out i hi (by have:=HN.out;omega))
     clear HX Hhit Hall Hd HLn
     go_wp2
     go_ret
     exact⟨by first|(rw[hr];rfl)|rfl,hb⟩
theorem QH {n:Nat} (h:NX n=true):n≤20:=by
 unfold NX at h
 simp only[Bool.or_eq_true,qaF,decide_eq_true_eq]at h
 omega
theorem QI {m:Nat} {s:List (List Q4)} (hm:m≤100) (h:Oa m s=true):s.length≤105∧∀c∈s,c.length≤20:=by
 unfold Oa Qh at h
 simp only[Bool.or_eq_true,qaF,decide_eq_true_eq,alsi]at h
 exact⟨by omega,fun c hc=>QH (h.2 c hc)⟩
theorem Ol {l:List (List (List Q4))} (h:Ow l=true):l.length≤15∧∀s∈l,s.length≤105∧∀c∈s,c.length≤20:=by
 unfold Ow Qi at h
 simp only[Bool.or_eq_true,qaF,decide_eq_true_eq,alsi]at h
 exact⟨by omega,fun s hs=>QI (by decide) (h.2 s hs)⟩
end
section
open Go.RowKit Go.Shelf Go.Lib
attribute [local go_sem] Ext.cell Ext.frozen
theorem We {l:List (List (List Q4))} (hf:Ow l=true) (h:eB l=0):∀s∈l,s.length≤100∧∀c∈s,SI c:=fun s hs=>by
 have h0:=(sq h).2 s hs
 refine⟨(xb h0).1,fun c hc=> ?_⟩
 have h1:=IL h0 c hc
 refine⟨h1, ?_⟩
 have h2:=(jx h1).1
 unfold Ow at hf
 rw[qaF,alsi]at hf
 have hf:=hf.2 s hs
 unfold Oa at hf
 rw[qaF,alsi]at hf
 have h3:=hf.2 c hc
 unfold NX at h3
 simp only[Bool.or_eq_true,qaF,decide_eq_true_eq]at h3
 omega
theorem Ve {xs:List Int} (h:∀x∈xs,0≤x):nI (xs.map Int.toNat)=xs:=by
 induction xs with
 |nil=>rfl
 |cons a xs ih=>
  show((a.toNat:Nat):Int)::nI (xs.map Int.toNat)=_
  rw[ih (fun x hx=>h x (by simp[hx])),Int.toNat_of_nonneg (h a (by simp))]
theorem VR {B:Nat} {w:World} {v:Value} {l:List Nat} (h:OwnI B w v l):w.ownsRow B 3 1 v (nI l).length ((nI l).map (Value.int .i64)):=by
 rw[TO,Vm]
 exact h
theorem Ints.sl {w:World} {v:Value} {xs:List Int} (h:Ints w v xs):∃a n c,v= .slice a n c:=by obtain⟨a,n,c,rfl,_⟩:=h;exact⟨a,n,c,rfl⟩
end
section
open Go.RowKit Go.Shelf Go.Lib
set_option maxRecDepth 100000
attribute [local go_sem] Ext.cell Ext.frozen
theorem qcn:(Tryz.prog.info? 60).map (fun i=>(i.zero,i.size,i.bytes))=some (some (.agg #[.slice none 0 0, .slice none 0 0, .int .i64 0, .int .i64 0, .int .i64 0]),5,72):=by kernel_rfl
theorem qco:Tryz.prog.underlying 58=some (.slice 60):=by kernel_rfl
abbrev RSp:=Value×Value×Spl
def qcc (r:RSp):List Value:=[r.1,r.2.1, .int .i64 r.2.2.2.2.1, .int .i64 r.2.2.2.2.2.1, .int .i64 r.2.2.2.2.2.2]
def OwnR (w:World) (r:RSp):Prop:=w.ownsRow 0 3 1 r.1 r.2.2.1.length (r.2.2.1.map (Value.int .i64))∧w.ownsRow 0 3 1 r.2.1 r.2.2.2.1.length (r.2.2.2.1.map (Value.int .i64))
theorem OwnR.below {w w':World} {r:RSp} (h:OwnR w r) (hb:Below w.heap.size w w'):OwnR w' r:=⟨au h.1 hb,au h.2 hb⟩
theorem OwnR.kept {w w':World} {r:RSp} {row:Option Nat} (h:OwnR w r) (hg:w.grownBy w' row) (hr:∀g,row=some g→∃cs,w.heap[g]? =some (.cells cs 60 (0,0))):OwnR w' r:=by
 have key:∀g cs,row=some g→w.heap[g]? =some cs→∃c t,cs= .cells c t (0,0)∧t≠3:=fun g cs e k=>by
  obtain⟨c,hc⟩:=hr g e
  rw[hc]at k
  exact⟨c,_,(Option.some.inj k).symm,by decide⟩
 exact⟨Qu h.1 hg key,Qu h.2 hg key⟩
theorem qbS {mb m:Nat} {D:DataW Value} {w w':World} {B:Nat} {e:TypeId} {size n:Nat} {v:Value} {xs:List Value} (h:w.ownsRow B e size v n xs) (hb:ButM mb w w') (hm:OwM w mb m D):w'.ownsRow B e size v n xs:=
 h.kept (row:=some mb) ⟨hb.1.os,hb.1.tape,hb.1.output,hb.2.1,fun k hk hn=>hb.2.2 k hk (fun e=>hn (by rw[e]))⟩ (.inr (fun e=>by
  rcases h.2 with⟨h0,_⟩|⟨g,cap,cur,h0,_,hgb,_⟩
  ·rw[h0]at e;simp[Value.ownBlock]at e
  ·rw[h0]at e
   have:g=mb:=by simpa [Value.ownBlock]using e
   exact rt hm hgb this))
theorem OwnR.butm {mb m:Nat} {D:DataW Value} {w w':World} {r:RSp} (h:OwnR w r) (hb:ButM mb w w') (hm:OwM w mb m D):OwnR w' r:=⟨qbS h.1 hb hm,qbS h.2 hb hm⟩
theorem qcU {w w':World} {mb m:Nat} {D:DataW Value} {Gf:Q3→List Nat} {row:Option Nat} (h:MapS w mb m D Gf) (hg:w.grownBy w' row) (hr:∀r,row=some r→∃cs,w.heap[r]? =some (.cells cs 60 (0,0))):MapS w' mb m D Gf:=
 ⟨h.1.moved hg (fun e=>by obtain⟨cs,hc⟩:=hr mb e;exact rt h.1 hc rfl),fun v hv hh=>by
  obtain⟨g',h1,h2⟩:=h.2 v hv hh
  refine⟨g',h1,(hg.block g' (ah h2) (fun e=> ?_)).trans h2⟩
  obtain⟨cs,hc⟩:=hr g' e.symm
  rw[hc]at h2
  simp at h2⟩
theorem qcp {w:World} {B n:Nat} {T:TypeId} {size:Nat} {v:Value} {xs:List Value} (h:w.ownsRow B T size v n xs):∀r,v.ownBlock=some r→∃cs,w.heap[r]? =some (.cells cs T (0,0)):=fun r hr=>by
 rcases h.2 with⟨h0,_⟩|⟨g,cap,cur,h0,hb,hgb,_⟩
 ·rw[h0]at hr;simp[Value.ownBlock]at hr
 ·rw[h0]at hr
  obtain rfl:g=r:=by simpa [Value.ownBlock]using hr
  exact⟨_,hgb⟩
theorem qcV (r:RSp):(qcc r).length=5:=rfl
theorem qcH {w:World} {B:Nat} {v:Value} {rs:List RSp} (h:w.ownsRow B 60 5 v rs.length (rs.flatMap qcc)) (hr:∀r∈rs,OwnR w r):Kj w v (rs.map (·.2.2)):=by
 rcases h.2 with⟨rfl,h0⟩|⟨g,cap,cur,rfl,hb,hh,hc,hm,hcs,ht⟩
 ·exact⟨none,0,0,rfl,by simpa using h0,qaA _,fun h=>absurd h (by omega)⟩
 ·refine⟨some ⟨g,0,none⟩,rs.length,cap,rfl,by simp,hc,fun _=>⟨g,0,rfl,fun i hi=> ?_⟩⟩
  have hi':i<rs.length:=by simpa using hi
  have key:∀j,j<5→w.cell? ⟨g,i*5+j,none⟩=(qcc rs[i])[j]? :=fun j hj=>by
   rw[ag hh, ←eQ qcc 5 qcV rs i hi' j hj, ←ht,qdx (by omega),Array.getElem?_toList]
  have ho:=hr _ (qaB hi')
  rw[qdB]
  simp only[Nat.zero_add]
  exact⟨rs[i].1,rs[i].2.1,key 0 (by omega),key 1 (by omega),key 2 (by omega),key 3 (by omega),key 4 (by omega),jy ho.1,jy ho.2⟩
theorem qcI {ps:List (List Bod)} {grp:Nat} (h:(lf grp).length≤1):wb ps (lf grp).length grp=some []:=by
 cases hk:(lf grp).length with
 |zero=>rfl
 |succ k=>
  unfold wb
  rw[if_pos h]
theorem qcq {ps:List (List Bod)} {grp:Nat} (h:¬(lf grp).length≤1) (ha:CL ps grp=none):wb ps (lf grp).length grp=none:=by
 obtain⟨k,hk⟩:∃k,(lf grp).length=k+1:=⟨(lf grp).length-1,by omega⟩
 rw[hk]
 unfold wb
 rw[if_neg h,ha]
theorem qcr {ps:List (List Bod)} {grp n:Nat} {v:Q3} (hg:grp<4096) (h:¬(lf grp).length≤1) (ha:CL ps grp=some (v,n)):(lf (dN grp (2 ^ n))).length+1=(lf grp).length∧wb ps (lf grp).length grp=(wb ps (lf (dN grp (2 ^ n))).length (dN grp (2 ^ n))).map fun r=>(grp,n,v)::r:=by
 obtain⟨hv,hn,hm⟩:=qaL ha
 have hn12:=rr hg ((Tz hg).1 hn)
 have hel:=qaQ hg hn12
 have hw1:=qca ((UR hg).imp (fun h=>Nat.ne_of_lt h)) hn
 have e:(lf (dN grp (2 ^ n))).length+1=(lf grp).length:=by rw[hel];exact hw1
 refine⟨e, ?_⟩
 rw[←e]
 conv=>lhs;unfold wb
 rw[if_neg h,ha]
def qdk (A:Int) (sg:Option (List (Nat×Nat×Q3))) (W:World) (e:Ending) (w':World):Prop:=Below W.heap.size W w'∧
 ((A≠0∧e= .returned (.tuple #[.slice none 0 0, .int .i64 A]))∨(A=0∧sg=none∧e= .returned (.tuple #[.slice none 0 0, .int .i64 12]))∨
 (A=0∧∃r v,sg=some r∧e= .returned (.tuple #[v, .int .i64 0])∧Kj w' v (r.map GE)))
def qcJ (B:Nat) (n:Nat):Value→World→Prop:=fun v w=>w.ownsRow B 3 1 v 1 [.int .i64 n]
theorem qaR (B n:Nat):dR (qcJ B n):=fun _ _ _ hb h=>au h hb
def qdi (L:List Nat) (n:Nat) (x y z:Int):Value→World→Prop:=fun v w=>∃gv ov,v= .agg #[gv,ov, .int .i64 x, .int .i64 y, .int .i64 z]∧Wp 0 L gv w∧qcJ 0 n ov w
def qdj (L:List Nat) (n:Nat) (x y z:Int):Value→World→Prop:=fun v w=>∃g gv ov,v= .slice (some ⟨g,0,none⟩) 1 1∧w.heap[g]? =some (.cells #[gv,ov, .int .i64 x, .int .i64 y, .int .i64 z] 60 (0,0))∧Wp 0 L gv w∧qcJ 0 n ov w
theorem qbz (L:List Nat) (n:Nat) (x y z:Int):dR (qdi L n x y z):=fun _ _ _ hb ⟨gv,ov,h1,h2,h3⟩=>⟨gv,ov,h1,VQ _ _ _ _ _ hb h2,qaR _ _ _ _ _ hb h3⟩
theorem qaS (L:List Nat) (n:Nat) (x y z:Int):dR (qdj L n x y z):=fun _ _ _ hb ⟨g,gv,ov,h1,h4,h2,h3⟩=>⟨g,gv,ov,h1,(hb.block _ (ah h4)).trans h4,VQ _ _ _ _ _ hb h2,qaR _ _ _ _ _ hb h3⟩
theorem qcs (l:List (List (List Q4))) (lv:Value) (W:World) (hL:∀s∈l,∀c∈s,c.length≤1000000) (h:SolsV W lv l) (hT:TabAt 1 Lib.deBruijn64tab W):
  Calls Tryz.prog 39 #[lv] W (qdk (eB l) (qbU l) W):=by
 obtain⟨i1,hj0,hy0,hy1,hy2⟩:=info_parts qcn
 have Hi1:=YJ (And.intro hj0 (And.intro hy0 (And.intro hy1 hy2)))
 clear hj0 hy0 hy1 hy2
 have HCk:=fun W' (h':Below W.heap.size W W')=>YJ (Gd l lv W' hL (SolsV.below h h'))
 have HSc:=fun(h0:eB l=0) W' (h':Below W.heap.size W W')=>YJ (XO W' h0 (SolsV.below h h'))
 have HAl:=fun(h0:eB l=0) (sb mb:Nat) (pv:Value) (W':World) k1 k3=>YJ (XS (psB l) sb mb pv W' (by rw[WM];exact(sq h0).1) k1 k3)
 have HAo:=fun(h0:eB l=0) (grp sb mb m0:Nat) (D:DataW Value) (pv:Value) (W':World) (hg:grp<2 ^ l.length) (hm:m0≤900) k1 k2 k3 kT=>YJ (qcE (psB l) grp sb mb m0 D pv W' (fun p hp=>by
  obtain⟨s,hs,rfl⟩:=altt.1 hp
  have:=zZ ((sq h0).2 s hs)
  exact⟨Dm this.1,by rw[qdo];exact qaD this.2 (by decide)⟩) (by rw[WM];exact(sq h0).1) (by rw[WM];exact hg) k1 k2 hm (KE h0) k3 kT)
 have HLi:=fun s W' (hs:s<4096) (kT:TabAt 1 Lib.deBruijn64tab W')=>YJ (ES s W' hs kT)
 have HOn:=fun s W' (hs:s<4096)=>YJ (qcK s hs W')
 have H12:=fun(h0:eB l=0)=>YJ (sq h0).1
 have Hsg:Hid (qbU l=wb (psB l) l.length (2 ^ l.length-1)):=YJ rfl
 have Hel:=fun(h0:eB l=0)=>YJ (show(lf (2 ^ l.length-1)).length=l.length from by rw[WT (sq h0).1,qdA])
 have HT:=YJ hT
 have HlV:Hid (∃a n c,lv= .slice a n c∧l.length=n):=YJ (by obtain⟨a,n,c,rfl,hn,_⟩:=h;exact⟨a,n,c,rfl,hn⟩)
 obtain⟨la,ln,lc,rfl,hln⟩:=HlV.out
 have Hps:=YJ (WM l)
 rw[hln]at HAo H12 Hsg Hel Hps
 clear h hL hT HlV hln
 generalize qbU l=sg at*
 obtain⟨ps,HP⟩:∃ps,Hid (psB l=ps):=⟨_,YJ rfl⟩
 rw[HP.out]at HSc HAl HAo Hsg Hps
 clear HP
 generalize eB l=A at*
 go_enter Tryz.func39,Tryz.ntmps39
 go_wp2_with fail
 refine((HCk _ bel).out).mono ?_
 rintro e w1 ⟨rfl,hb1⟩
 have hw1:Below W.heap.size W w1:=fB bel hb1
 have hw1z:=hw1.size
 clear HCk hb1
 by_cases hA:A=0
 ·subst hA
  have h12:=(H12 (by first|rfl|trivial)).out
  have hel:=(Hel (by first|rfl|trivial)).out
  have HSc':=fun W' h'=>YJ (HSc (by first|rfl|trivial) W' h').out
  have HAl':=fun sb mb pv W' k1 k3=>YJ (HAl (by first|rfl|trivial) sb mb pv W' k1 k3).out
  have HAo':=fun grp sb mb m0 D pv W' hg hm k1 k2 k3 kT=>YJ (HAo (by first|rfl|trivial) grp sb mb m0 D pv W' hg hm k1 k2 k3 kT).out
  clear H12 Hel HSc HAl HAo
  go_wp2_with fail
  refine((HSc' _ hw1).out).mono ?_
  rintro e w2 ⟨sb,mb,pv,rfl,hb2,hS2,hM2,hmb,hsb,hne,hP2⟩
  have hw2:=fB hw1 hb2
  have HC2:=YJ (HAl' sb mb pv w2 hS2 hP2).out
  clear HSc' HAl'
  go_wp2_with fail
  refine(HC2.out).mono ?_
  rintro e w3 ⟨rfl,rfl⟩
  rw[Hps.out]at*
  clear HC2
  have hmbz:mb<w3.heap.size:=by
   obtain⟨es,ck,h,_⟩:=hM2
   exact(alsl.1 h).1
  have hall:2 ^ ln-1<2 ^ ln:=by have:=Nat.two_pow_pos ln;omega
  have hp12:2 ^ ln≤4096:=Nat.pow_le_pow_right (n:=2) (by decide) h12
  obtain⟨g0,Hg0⟩:∃g0,Hid (2 ^ ln-1=g0):=⟨_,YJ rfl⟩
  rw[Hg0.out]at hall hel Hsg ⊢
  have HM2:=YJ (Yv (Gf:=eM ps) hM2)
  have HS2:=YJ hS2
  have HP2:=YJ hP2
  have HT3:=YJ (ma HT.out hw2)
  have hsz:W.heap.size≤w3.heap.size:=hw2.size
  have HDs:Hid (g0<2 ^ ln∧([]:List (Nat×Nat×Q3)).length+(lf g0).length=ln∧sg=(wb ps (lf g0).length g0).map (fun r=>[]++r)):=YJ ⟨hall,by simp[hel],by rw[hel,Hsg.out];cases wb ps ln g0<;>rfl⟩
  clear hall hel Hsg hM2 hS2 hP2
  go_wp2
  go_loopw [6,7] (fun s g wr=>∃(dn:List (Nat×Nat×Q3)) (grp m:Nat) (D:DataW Value) (rs:List RSp),g= .int .u64 grp∧Hid (grp<2 ^ ln∧dn.length+(lf grp).length=ln∧sg=(wb ps (lf grp).length grp).map (fun r=>dn++r))∧ButM mb w3 wr∧Hid (MapS wr mb m D (eM ps))∧m≤52*dn.length∧Hid (wr.ownsRow w3.heap.size 60 5 s rs.length (rs.flatMap qcc))∧Hid (∀r∈rs,OwnR wr r)∧Hid (rs.map (·.2.2)=dn.map GE)) (fun _ g _=>(intOf g).toNat)
  case atStart=>exact⟨[],g0,0,_,[],rfl,HDs,ButM.refl _ _,HM2,by simp,YJ (qds _ _ _ _),YJ (fun _ h=>by cases h),YJ rfl⟩
  case round=>
   obtain⟨dn,grp,m,D,rs,rfl,HD,hbm,HM,hm,HO,HR,HE⟩:=hrel
   obtain⟨oa,oc,rfl⟩:=aT HO.out
   have hg2:=HD.out.1
   have hg12:grp<4096:=by omega
   have HC:=YJ (HOn grp wr hg12).out
   have hdl:rs.length≤12:=by
    have h1:=congrArg List.length HE.out
    rw[qdo,qdo]at h1
    have:=HD.out.2.1
    omega
   go_wp2_with fail
   refine(HC.out).mono ?_
   rintro e wr' ⟨rfl,rfl⟩
   clear HC
   by_cases h1:(lf grp).length≤1
   ·have q1:¬(1:Int)<((lf grp).length:Int):=by omega
    have hsg:sg=some dn:=by rw[HD.out.2.2,qcI h1];simp
    have hsp:=qcH HO.out HR.out
    rw[HE.out]at hsp
    have hbW:Below W.heap.size W wr':=(hw2.mono (qaA _)).trans (hbm.1.mono (by omega))
    generalize(lf grp).length=ne at*
    clear HAo' HLi HOn
    go_wp2
    go_ret2
    exact⟨hbW, .inr (.inr ⟨by first|rfl|trivial,_,_,hsg,rfl,hsp⟩)⟩
   ·have q1:(1:Int)<((lf grp).length:Int):=by omega
    have hsm:sb≠mb:=fun e=>hne e.symm
    have HSr:=YJ ((hbm.2.2 _ (ah HS2.out) hsm).trans HS2.out)
    have hck:=hbm.ck HM2.out.1
    have hTr:=hck.tab HT3.out
    have hdn:dn.length≤12:=by have:=HD.out.2.1;omega
    have HC8:=YJ (HAo' grp sb mb m D pv wr' hg2 (by omega) HSr.out HM.out (hck.pts HP2.out) hTr).out
    clear HAo'
    obtain⟨ne,Hne⟩:∃ne,Hid ((lf grp).length=ne):=⟨_,YJ rfl⟩
    rw[Hne.out]at q1 ⊢
    go_wp2_with fail
    refine(HC8.out).mono ?_
    rintro e w5 ⟨hb5,⟨m5,D5,hM5,hm5⟩,hres⟩
    have hbm5:=hbm.trans hb5
    have HM5:=YJ hM5
    have HO5:=YJ (qbS HO.out hb5 HM.out.1)
    have HR5:Hid (∀r∈rs,OwnR w5 r):=YJ (fun r hr=>(HR.out r hr).butm hb5 HM.out.1)
    clear HC8 hM5 HM HO HR
    rcases hres with⟨ha,rfl⟩|⟨v,n,hv,ha,rfl⟩
    ·have hsg:sg=none:=by rw[HD.out.2.2,qcq h1 ha];rfl
     have hbW:Below W.heap.size W w5:=hw2.trans (hbm5.1.mono (by omega))
     clear HLi HOn
     go_wp2
     go_ret2
     have hbW':Below W.heap.size W _:=hbW.alloc hbW.size (.cells #[.int .i64 0, .int .i64 0, .int .i64 0] 36)
     exact⟨hbW', .inr (.inl ⟨by first|rfl|trivial,hsg,rfl⟩)⟩
    ·obtain⟨x0,x1,x2⟩:=v
     obtain⟨X,HX⟩:∃X,Hid (w5.alloc (.cells #[.int .i64 x0, .int .i64 x1, .int .i64 x2] 36)=X):=⟨_,YJ rfl⟩
     have hbX:Below w5.heap.size w5 X:=by rw[←HX.out];exact bel
     have HWy:Hid (X.heap[w5.heap.size]? =some (.cells #[.int .i64 x0, .int .i64 x1, .int .i64 x2] 36 (0,0))):=YJ (by rw[←HX.out];exact ai rfl)
     have hm5z:mb≤w5.heap.size:=by have:=hbm5.2.1;omega
     have hbmX:=hbm5.trans (.of_below hm5z hbX)
     have hTX:=(hbmX.ck HM2.out.1).tab HT3.out
     have HLX:=fun W' (h:Below X.heap.size X W')=>YJ (HLi grp W' hg12 (ma hTX h)).out
     obtain⟨-,hmn, -⟩:=qaL ha
     have hbit:=(Tz hg12).1 hmn
     have hn12:=rr hg12 hbit
     obtain⟨hse,hss⟩:=qcr hg12 h1 ha
     have hdec:=YC hbit (show(2 ^ n).testBit n=true by simp[Nat.testBit_two_pow])
     have hP12:=qbQ hn12
     have hand:=CT grp (2 ^ n) (by omega) (by omega)
     have HDn:Hid (dN grp (2 ^ n)<2 ^ ln∧(dn++[(grp,n,(x0,x1,x2))]).length+(lf (dN grp (2 ^ n))).length=ln∧sg=(wb ps (lf (dN grp (2 ^ n))).length (dN grp (2 ^ n))).map (fun r=>(dn++[(grp,n,(x0,x1,x2))])++r)):=YJ (by
      refine⟨by omega,by have:=HD.out.2.1;simp;omega, ?_⟩
      rw[HD.out.2.2,hss,Option.map_map]
      congr 1
      funext r
      simp)
     have HSet:=fun(g:Nat) (Y:World) (k:Y.heap[g]? =some (.cells #[.int .i64 n] 3 (0,0)))=>YJ (GK n hn12 g Y k)
     obtain⟨P,HP2⟩:∃P,Hid (2 ^ n=P):=⟨_,YJ rfl⟩
     rw[HP2.out]at hdec hand HDn HSet hP12
     have HM6:=YJ (HM5.out.kept hbX)
     have HO6:=YJ (au HO5.out hbX)
     have HR6:Hid (∀r∈rs,OwnR X r):=YJ (fun r hr=>(HR5.out r hr).below hbX)
     have hb3X:=hbmX
     obtain⟨y0,y1,y2,yf,yz⟩:=NO HWy.out
     clear HM5 HO5 HR5 HLi HOn HD hse hss hmn hbit ha hb5 hv
     go_upto_region 11 with fail
     try rw[HX.out]
     apply aj [] [0,1,2,3,4,5,6,7] 8 [9] [sv _,sv _,⟨Wp 0 (lf grp),by first|exact VQ _ _|exact qaR _ _|exact qbz _ _ _ _ _|exact qaS _ _ _ _ _⟩,sv _,⟨qcJ 0 n,by first|exact VQ _ _|exact qaR _ _|exact qbz _ _ _ _ _|exact qaS _ _ _ _ _⟩,sv _,⟨qdi (lf grp) n x0 x1 x2,by first|exact VQ _ _|exact qaR _ _|exact qbz _ _ _ _ _|exact qaS _ _ _ _ _⟩,⟨qdj (lf grp) n x0 x1 x2,by first|exact VQ _ _|exact qaR _ _|exact qbz _ _ _ _ _|exact qaS _ _ _ _ _⟩] (by kernel_rfl) (by kernel_rfl)
     iterate 2 ((try go_frame);refine wkQ ?_)
     try go_frame
     refine wkU (fun u hR K hK=> ?_) (fun o2=> ?_)
     ·clear hR
      go_simp
      refine((HLX _ u.below).out).mono ?_
      rintro e w9 ⟨v9,rfl,hb9,ho9⟩
      exact hK _ _ hb9 (AY ho9 (by omega))
     ((try go_frame);refine wkQ ?_)
     try go_frame
     refine wkU (fun u hR K hK=> ?_) (fun o4=> ?_)
     ·clear hR
      go_simp
      exact hK _ _ bel (Wv (by omega) (ai rfl))
     ((try go_frame);refine wkQ ?_)
     try go_frame
     refine wkU (fun u hR K hK=> ?_) (fun o6=> ?_)
     ·have h2:Wp 0 (lf grp) o2 u.val:=hr hR 2
      have h4:qcJ 0 n o4 u.val:=hr hR 4
      clear hR
      obtain⟨a2,c2,rfl⟩:=aT h2
      obtain⟨a4,c4,rfl⟩:=aT h4
      go_simp
      exact hK _ _ brf ⟨_,_,rfl,h2,h4⟩
     try go_frame
     refine wkU (fun u hR K hK=> ?_) (fun o7=> ?_)
     ·have h6:(qdi (lf grp) n x0 x1 x2) o6 u.val:=hr hR 6
      clear hR
      obtain⟨gv,ov,rfl,k2,k4⟩:=h6
      obtain⟨a2,c2,rfl⟩:=aT k2
      obtain⟨a4,c4,rfl⟩:=aT k4
      go_simp
      exact hK _ _ bel ⟨_,_,_,rfl,ai rfl,au k2 bel,au k4 bel⟩
     try go_frame
     refine aI (fun u hR=> ?_)
     have k7:qdj (lf grp) n x0 x1 x2 o7 u.val:=hR 7 (by simp)
     obtain⟨g9,gv,ov,rfl,hg9,k2,k4⟩:=k7
     have HM7:=YJ (HM6.out.kept u.below)
     have HO7:=YJ (au HO6.out u.below)
     have HR7:Hid (∀r∈rs,OwnR u.val r):=YJ (fun r hr=>(HR6.out r hr).below u.below)
     have hbmu:=hb3X.trans (.of_below (by have:=hb3X.2.1;omega) u.below)
     have K2:=YJ k2
     have K4:=YJ k4
     unfold Wp OwnI at k2
     unfold qcJ at k4
     obtain⟨a2,c2,rfl⟩:=aT k2
     obtain⟨a4,c4,rfl⟩:=aT k4
     clear hR HLX HM6 HO6 HR6 k2 k4 y0 y1 y2 yf yz
     generalize u.val=w6 at*
     clear u
     simp only[oas]
     have hw36:w3.heap.size≤w6.heap.size:=hbmu.2.1
     refine wpList_append_own _ rfl _ _ 58 rfl w3.heap.size 60 i1 (.agg #[.slice none 0 0, .slice none 0 0, .int .i64 0, .int .i64 0, .int .i64 0]) 5 72 qco Hi1.out.1 Hi1.out.2.1 Hi1.out.2.2.1 Hi1.out.2.2.2 rfl (by decide) (.slice oa rs.length oc) rs.length _ rfl HO7.out ⟨g9,0,none⟩ 1 1 (qcc (.slice a2 (lf grp).length c2, .slice a4 1 c4,GE (grp,n,(x0,x1,x2)))) rfl rfl (fun jj uu hu=>by rw[jY,ag hg9];simpa [qcc,GE]using hu) (fun u hu=>by simp[qcc]at hu;rcases hu with rfl|rfl|rfl|rfl|rfl<;>rfl) (by unfold maxLen;omega) (by omega) hw36 ?_
     intro v' w7 hown7 hg7 _
     obtain⟨g7',cap7,rfl⟩:=ownsRow_succ hown7
     have hrowS:=qcp HO7.out
     have HM8:=YJ (qcU HM7.out hg7 hrowS)
     have HR8:Hid (∀r∈rs,OwnR w7 r):=YJ (fun r hr=>(HR7.out r hr).kept hg7 hrowS)
     have hnew:OwnR w6 (.slice a2 (lf grp).length c2, .slice a4 1 c4,GE (grp,n,(x0,x1,x2))):=⟨VR K2.out,K4.out⟩
     have HNw:=YJ (hnew.kept hg7 hrowS)
     have hbm7:ButM mb w3 w7:=Cc hbmu hg7 (qaA _) hmbz (fun r e=>(HO7.out.lt r e).1)
     have HO8:=YJ hown7
     clear HM7 HO7 HR7 hnew hrowS hg7 hown7 K2 K4
     iterate 1 (refine wpList_step (fun K hK=> ?_);go_simp;refine hK _ _ ?_;clear hK K)
     refine NoPanic.normal ?_
     obtain⟨X2,HX2⟩:∃X2,Hid (w7.alloc (.cells #[.int .i64 n] 3)=X2):=⟨_,YJ rfl⟩
     have hbX2:Below w7.heap.size w7 X2:=by rw[←HX2.out];exact bel
     have HC12:=YJ (HSet w7.heap.size X2 (by rw[←HX2.out];exact ai rfl)).out
     clear HSet
     go_wp2_with fail
     try rw[HX2.out]
     refine(HC12.out).mono ?_
     rintro e w8 ⟨rfl,hb8⟩
     have hb78:Below w7.heap.size w7 w8:=fB hbX2 hb8
     have HM9:=YJ (HM8.out.kept hb78)
     have hbm8:ButM mb w3 w8:=hbm7.trans (.of_below (by have:=hbm7.2.1;omega) hb78)
     have HO9:Hid (w8.ownsRow w3.heap.size 60 5 (.slice (some ⟨g7',0,none⟩) (rs.length+1) cap7) (rs++[((.slice a2 (lf grp).length c2, .slice a4 1 c4,GE (grp,n,(x0,x1,x2))):RSp)]).length ((rs++[((.slice a2 (lf grp).length c2, .slice a4 1 c4,GE (grp,n,(x0,x1,x2))):RSp)]).flatMap qcc)):=YJ (by
      have:=au HO8.out hb78
      rw[List.flatMap_append,qaE,List.length_singleton]
      simpa using this)
     have HR9:Hid (∀r∈rs++[((.slice a2 (lf grp).length c2, .slice a4 1 c4,GE (grp,n,(x0,x1,x2))):RSp)],OwnR w8 r):=YJ (fun r hr=>by
      rcases altl.1 hr with hr|hr
      ·exact(HR8.out r hr).below hb78
      ·have e:r=(.slice a2 (lf grp).length c2, .slice a4 1 c4,GE (grp,n,(x0,x1,x2))):=by simpa using hr
       rw[e]
       exact HNw.out.below hb78)
     have HE9:Hid ((rs++[((.slice a2 (lf grp).length c2, .slice a4 1 c4,GE (grp,n,(x0,x1,x2))):RSp)]).map (·.2.2)=(dn++[(grp,n,(x0,x1,x2))]).map GE):=YJ (by rw[List.map_append,List.map_append,HE.out];rfl)
     have hm9:m5≤52*(dn++[(grp,n,(x0,x1,x2))]).length:=by simp;omega
     clear HC12 HM8 HO8 HR8 HNw
     go_wp2
     go_roundw
     case rel=>exact⟨_,dN grp P,m5,D5,_,rfl,HDn,hbm8,HM9,hm9,HO9,HR9,HE9⟩
     case measure=>simp[intOf];try omega
 ·have hA':(A !=0)=true:=by simpa using hA
  clear HSc HAl HAo HLi HOn
  go_wp2
  go_ret2
  exact⟨hw1, .inl ⟨hA,rfl⟩⟩
end
section
open Go.RowKit Go.Shelf Go.Lib
attribute [local go_sem] Ext.cell Ext.frozen
theorem qdd {p:Nat→Bool} {l:List Nat} {k:Nat} (hk:k<l.length) (h:(l.take k).find? p=none) (hp:p l[k]=true):l.find? p=some l[k]:=by
 have e:l=l.take k++l[k]::l.drop (k+1):=by rw[List.getElem_cons_drop,List.take_append_drop]
 have e2:=congrArg (fun l=>l.find? p) e
 rw[e2,List.find?_append,h,List.find?_cons,hp]
 rfl
theorem qcW {p:Nat→Bool} {l:List Nat} {k:Nat} (hk:k<l.length) (h:(l.take k).find? p=none) (hp:p l[k]=false):(l.take (k+1)).find? p=none:=by
 rw[qaI hk,List.find?_append,h]
 simp[List.find?_cons,hp]
def rAF (l:List (List (List Q4))) (L:List Nat) (v:Q3):Option (Q3×Nat):=(qaP (gE (TF l v)) L).map fun n=>(v,n)
theorem qde {w:World} {g n:Nat} (h:w.heap[g]? =some (.cells #[.int .i64 n] 3 (0,0))):NatV w (.slice (some ⟨g,0,none⟩) 1 1) [n]:=
 ⟨_,1,1,rfl,rfl,qaA _,fun _=>⟨g,0,rfl,fun i hi=>by
  obtain rfl:i=0:=by
   have:i<1:=hi
   omega
  exact(ag h 0).trans rfl⟩⟩
set_option maxRecDepth 100000 in
theorem qct (l:List (List (List Q4))) (f:Nat) (L:List Nat) (gv pv:Value) (W:World) (hl:l.length≤1000) (hpl:L.length≤1000) (hp:∀y∈L,y<l.length) (h1:GsV W gv (Uh l)) (h2:NatV W pv L)
  (HRec:∀n∈L,∀ov W',Below W.heap.size W W'→NatV W' ov (wo1 L n)→Calls Tryz.prog 40 #[gv,ov] W' (Ret W' (.bool (qaV l f (wo1 L n))))):
  Calls Tryz.prog 40 #[gv,pv] W (Ret W (.bool (qaV l (f+1) L))):=by
 have HM:=fun i (hi:i<ways26.length) gi n ov W' (hn:n∈L) (hb:Below W.heap.size W W') (k:GrfV W' gi (TF l ways26[i])) (ko:NatV W' ov [n])=>YJ (show Calls Tryz.prog 63 #[gi,pv,ov] W' (Ret W' (.bool (WP (gE (TF l ways26[i])) L [n])))from
  XV (TF l ways26[i]) L [n] gi pv ov W' (fun r hr=>qaD (Ww l _ r hr) hl) hpl (by simp) (fun j hj=>by
   have e:j=n:=by simpa using hj
   rw[TV,e]
   exact hp _ hn) k (h2.below hb) ko)
 have HWo:=fun n ov W' (hb:Below W.heap.size W W') (ko:NatV W' ov [n])=>YJ (show Calls Tryz.prog 64 #[pv,ov] W' (Wu (nI (wo1 L n)) W')from by
  rw[←qcx]
  exact Vs pv ov (nI L) [(n:Int)] W' (by rw[TO];omega) (by simp) (h2.below hb) ko)
 have HRc:=fun n (hn:n∈L) ov W' hb k=>YJ (HRec n hn ov W' hb k)
 have HgsAt:=fun k (hk:k<ways26.length) (hk2:k<(Uh l).length)=>YJ (show(Uh l)[k]'hk2=TF l (ways26[k]'hk)from by simp[Uh])
 have Hrl:=YJ (Uj l)
 have H0:Hid (L.length<2→qaV l (f+1) L=true):=YJ (fun h=>by unfold qaV;rw[if_pos h])
 have Hhit:=fun v n=>YJ (show ¬L.length<2→ways26.findSome? (rAF l L)=some (v,n)→qaV l (f+1) L=qaV l f (wo1 L n)from fun h e=>by
  conv=>lhs;unfold qaV
  rw[if_neg h,show qby l L=_ from e])
 have Hnone:Hid (¬L.length<2→ways26.findSome? (rAF l L)=none→qaV l (f+1) L=false):=YJ (fun h e=>by
  unfold qaV
  rw[if_neg h,show qby l L=_ from e])
 have HF:=fun v=>YJ (show rAF l L v=(qaP (gE (TF l v)) L).map (fun n=>(v,n))from rfl)
 have HpA:=fun v=>YJ (show qaP (gE (TF l v)) L=L.find? (fun n=>WP (gE (TF l v)) L [n])from rfl)
 obtain⟨ga,gn,gc,rfl,hgn, -,hgx⟩:=h1
 obtain rfl:gn=26:=by rw[←hgn,Uj]
 obtain⟨pa,pn,pc,rfl,hpn,hpx⟩:=h2.at
 have Hpn:=YJ hpn
 have HG:=YJ hgx
 have HP:=YJ hpx
 have H26:Hid (ways26.length=26):=YJ rfl
 have Hn0:Hid ((ways26.take 0).findSome? (rAF l L)=none):=YJ rfl
 have Hfull:Hid (ways26.take 26=ways26):=YJ rfl
 rw[hpn]at hpl H0 Hhit Hnone
 clear hgx hgn hpx h2 hp hpn HRec
 generalize qaV l (f+1) L=res at*
 generalize ways26=WS at*
 go_enter Tryz.func40,Tryz.ntmps40
 by_cases h2:pn<2
 ·have g1:(pn:Int)<2:=by omega
  obtain rfl:=H0.out h2
  clear HM HWo HRc HgsAt Hrl Hhit Hnone HF HpA HG HP
  go_wp2
  go_ret
  exact⟨by first|rfl|trivial,brf⟩
 ·have g1:¬(pn:Int)<2:=by omega
  have Hhit':=fun v n=>YJ ((Hhit v n).out h2)
  have Hnone':=YJ (Hnone.out h2)
  clear H0 Hhit Hnone
  go_wp2
  go_loopw [5] (fun x wr=>∃i:Nat,i≤26∧x= .int .i64 i∧Below W.heap.size W wr∧Hid ((WS.take i).findSome? (rAF l L)=none)) (fun x _=>26-(intOf x).toNat)
  case atStart=>exact⟨0,by omega,rfl,brf,Hn0⟩
  case round=>
   obtain⟨i,hi,rfl,hb,HD⟩:=hrel
   by_cases hlt:i<26
   ·have q1:(i:Int)<26:=by omega
    have q2:(0:Int)≤(i:Int):=by omega
    have hil:i<WS.length:=by rw[H26.out];exact hlt
    obtain⟨gb,goff,rfl,hgx⟩:=HG.out (by omega)
    have hgl:i<(Uh l).length:=by rw[Hrl.out];exact hlt
    obtain⟨gi,e1,hgi⟩:=hgx i hgl
    rw[(HgsAt i hil hgl).out]at hgi
    have HGi:=YJ hgi
    have HMi:=fun gi n ov W' hn hb k ko=>YJ (HM i hil gi n ov W' hn hb k ko).out
    have Hwhit:=fun o=>YJ (@Vx _ _ (rAF l L) WS i o hil HD.out)
    have Hwsuc:=YJ (@Vo _ _ (rAF l L) WS i hil HD.out)
    clear HG HM HgsAt hgx hgi HD
    generalize WS[i]=wy at*
    have HFw:=YJ (HF wy).out
    have HpAw:=YJ (HpA wy).out
    clear HF HpA
    obtain⟨p,Hp⟩:∃p:Nat→Bool,Hid ((fun n=>WP (gE (TF l wy)) L [n])=p):=⟨_,YJ rfl⟩
    rw[Hp.out]at HpAw
    have HMp:=fun gi n ov W' hn hb k ko=>YJ (show Calls Tryz.prog 63 #[gi, .slice pa pn pc,ov] W' (Ret W' (.bool (p n)))from by rw[←Hp.out];exact(HMi gi n ov W' hn hb k ko).out)
    clear HMi
    obtain⟨gia,gin,gic,rfl⟩:∃a n c,gi= .slice a n c:=by obtain⟨a,n,c,h,_⟩:=HGi.out;exact⟨a,n,c,h⟩
    go_wp2
    go_loopw [6] (fun x ww=>∃k:Nat,k≤pn∧x= .int .i64 k∧Below W.heap.size W ww∧Hid ((L.take k).find? p=none)) (fun x _=>pn-(intOf x).toNat)
    case atStart=>exact⟨0,by omega,rfl,hb,YJ rfl⟩
    case round=>
     rename World=>ww
     obtain⟨k,hk,rfl,hbw,HK⟩:=hrel
     by_cases hkp:k<pn
     ·have q3:(k:Int)<(pn:Int):=by omega
      have q4:(0:Int)≤(k:Int):=by omega
      have hkl:k<L.length:=by have:=Hpn.out;omega
      obtain⟨pb,poff,rfl,hpx⟩:=HP.out (by omega)
      have c0:=ab hbw (hpx k hkl)
      have z0:=qaC ww _ c0
      simp only at z0
      have hmem:=qaB hkl
      have Hh:=YJ (@qdd p L k hkl HK.out)
      have Hs:=YJ (@qcW p L k hkl HK.out)
      have HRn:=fun ov W' hb k1=>YJ (HRc (L[k]'hkl) hmem ov W' hb k1).out
      clear HP hpx HK HRc
      generalize L[k]=n at*
      obtain⟨X,HX⟩:∃X,Hid (ww.alloc (.cells #[.int .i64 n] 3)=X):=⟨_,YJ rfl⟩
      have hbX:Below ww.heap.size ww X:=by rw[←HX.out];exact bel
      have hwX:=fB hbw hbX
      have HN1:Hid (NatV X (.slice (some ⟨ww.heap.size,0,none⟩) 1 1) [n]):=YJ (qde (by rw[←HX.out];exact ai rfl))
      have HC:=YJ (HMp _ n _ X hmem hwX (HGi.out.below hwX) HN1.out).out
      have f1:=ab hbw e1
      have y1:=qaC ww _ f1
      simp only at y1
      clear HMp
      go_wp2_with fail
      try rw[HX.out]
      refine(HC.out).mono ?_
      rintro e w5 ⟨rfl,hb5⟩
      have hw5:=fB hwX hb5
      have HN5:=YJ (HN1.out.below hb5)
      clear HC HN1 c0 z0
      cases hpn:p n with
      |true=>
       have Hr:=YJ (by
        have h1:=Hh.out hpn
        have h2:rAF l L wy=some (wy,n):=by rw[HFw.out,HpAw.out,h1];rfl
        exact(Hhit' wy n).out ((Hwhit _).out h2))
       have HW5:=YJ (HWo n _ w5 hw5 HN5.out).out
       clear Hh Hs Hhit' Hnone' Hwhit Hwsuc HFw HpAw Hp HWo
       go_wp2_with fail
       refine(HW5.out).mono ?_
       rintro e w6 ⟨v6,rfl,hb6,ho6⟩
       have hw6:=fB hw5 hb6
       have HR6:=YJ (HRn v6 w6 hw6 (jy ho6)).out
       obtain⟨a6,c6,rfl⟩:=aT ho6
       rw[←Hr.out]at HR6
       clear HW5 HRn ho6 Hr
       go_wp2_with fail
       refine(HR6.out).mono ?_
       rintro e w7 ⟨rfl,hb7⟩
       have hw7:=fB hw6 hb7
       clear HR6
       go_wp2
       go_ret
       exact⟨by first|rfl|trivial,hw7⟩
      |false=>
       have HK2:=YJ (Hs.out hpn)
       clear Hh Hs HRn HN5
       go_wp2
       go_roundw
       case rel=>exact⟨k+1,by omega,by go_num,hw5,HK2⟩
       case measure=>simp[intOf];try omega
     ·obtain rfl:k=pn:=by omega
      have HD2:=YJ (Hwsuc.out (by
       have:=HK.out
       rw[←Hpn.out,List.take_length]at this
       rw[HFw.out,HpAw.out,this]
       rfl))
      clear HP HK HRc HMp Hwhit Hwsuc HFw HpAw Hp
      go_wp2
      go_roundw
      case rel=>exact⟨i+1,by omega,by go_num,hbw,HD2⟩
      case measure=>simp[intOf];try omega
   ·obtain rfl:i=26:=by omega
    obtain rfl:=Hnone'.out (by have:=HD.out;rwa [Hfull.out]at this)
    clear HM HWo HRc HgsAt Hhit' Hnone' HF HpA HG HP HD
    go_wp2
    go_ret
    exact⟨by first|rfl|trivial,hb⟩
theorem qcu (l:List (List (List Q4))) (gv pv:Value) (W:World) (h1:GsV W gv (Uh l)) (h2:NatV W pv []):Calls Tryz.prog 40 #[gv,pv] W (Ret W (.bool true)):=by
 obtain⟨pa,pn,pc,rfl,hpn,hpx⟩:=h2.at
 obtain rfl:pn=0:=by simpa using hpn.symm
 obtain⟨ga,gn,gc,rfl, -⟩:=h1
 clear hpx h2
 go_enter Tryz.func40,Tryz.ntmps40
 go_wp2
 go_ret
 exact⟨by first|rfl|trivial,brf⟩
theorem qaO (l:List (List (List Q4))) (hl:l.length≤1000):∀(f:Nat) (L:List Nat) (gv pv:Value) (W:World),L.length≤f→L.length≤1000→(∀y∈L,y<l.length)→GsV W gv (Uh l)→NatV W pv L→Calls Tryz.prog 40 #[gv,pv] W (Ret W (.bool (qaV l f L)))
 |0,L,gv,pv,W,hf,_,_,h1,h2=>by
  have:L=[]:=alto.1 (by omega)
  subst this
  exact qcu l gv pv W h1 h2
 |f+1,L,gv,pv,W,hf,hpl,hp,h1,h2=>
  qct l f L gv pv W hl hpl hp h1 h2 fun n hn ov W' hb k=>
   qaO l hl f (wo1 L n) gv ov W' (by have:=qcw hn;omega) (by have:=qcw hn;omega) (fun y hy=>hp y (alsm.1 hy).1) (h1.below hb) k
end
section
open Go.RowKit Go.Shelf Go.Lib
set_option maxRecDepth 100000
attribute [local go_sem] Ext.cell Ext.frozen
def qbP (v:Q3):Nat:=ways26.idxOf v
theorem qch {v:Q3}:∀(l:List Q3) (k:Nat) (hk:k<l.length),l[k]=v→(∀j (hj:j<l.length),j<k→l[j]≠v)→l.idxOf v=k
 | [],k,hk,_,_=>absurd hk (by simp)
 |a::l,0,hk,h,_=>by
  simp only[qdt]at h
  simp[List.idxOf_cons,h]
 |a::l,k+1,hk,h,h0=>by
  have ha:a≠v:=h0 0 (by simp) (by omega)
  have:=qch l k (by simpa using hk) (by simpa using h) (fun j hj hjk=>by
   have:=h0 (j+1) (Nat.succ_lt_succ hj) (by omega)
   rwa [List.getElem_cons_succ]at this)
  rw[List.idxOf_cons,this]
  have:(a==v)=false:=by simpa using ha
  simp[this]
theorem qbZ {v:Q3} (h:v∈ways26):∃hk:qbP v<ways26.length,ways26[qbP v]'hk=v:=by
 have h1:qbP v<ways26.length:=List.idxOf_lt_length_of_mem h
 refine⟨h1, ?_⟩
 unfold qbP
 exact List.getElem_idxOf h1
theorem qci (x y z:Int) (W:World) (h:(x,y,z)∈ways26):Calls Tryz.prog 73 #[V3 x y z] W (Ret W (.int .i64 (qbP (x,y,z):Nat))):=by
 obtain⟨V,HV⟩:∃V,Hid (W.alloc (.cells #[.int .i64 x, .int .i64 y, .int .i64 z] 36)=V):=⟨_,YJ rfl⟩
 have hV:Below W.heap.size W V:=by rw[←HV.out];exact bel
 have HB0:Hid (V.heap[W.heap.size]? =some (.cells #[.int .i64 x, .int .i64 y, .int .i64 z] 36 (0,0))):=YJ (by rw[←HV.out];exact ai rfl)
 have HWy:=fun W'=>YJ (Gm W')
 have Hn:=fun k (hk:k<ways26.length) (h1:ways26[k]=(x,y,z)) h0=>YJ (show qbP (x,y,z)=k from qch ways26 k hk h1 h0)
 have Hs:Hid (ways26[qbP (x,y,z)]? =some (x,y,z)):=YJ (by
  obtain⟨hs1,hs2⟩:=qbZ h
  rw[List.getElem?_eq_getElem hs1,hs2])
 have H26:Hid (ways26.length=26):=YJ rfl
 clear h
 generalize qbP (x,y,z)=res at*
 go_enter Tryz.func73,Tryz.ntmps73
 go_wp2_with fail
 try rw[HV.out]
 refine((HWy _).out).mono ?_
 rintro e w1 ⟨wv,rfl,hb1,ho1⟩
 have hw1:Below W.heap.size W w1:=fB hV hb1
 have HB1:=YJ ((hb1.block _ (ah HB0.out)).trans HB0.out)
 have hq:=qcv ho1
 rw[H26.out]at ho1
 obtain⟨wa,wn,wc,rfl,hwn, -,hwx⟩:=hq
 have hwn':wn=26:=by rw[←hwn];exact H26.out
 subst hwn'
 have HX:=YJ hwx
 clear HWy ho1 hb1 hwx hwn HB0 HV hV
 generalize ways26=WS at*
 go_wp2
 go_loopw [4] (fun i wr=>∃k:Nat,k≤26∧i= .int .i64 k∧Below w1.heap.size w1 wr∧Hid (∀j (hj:j<WS.length),j<k→WS[j]≠(x,y,z))) (fun i _=>26-(intOf i).toNat)
 case atStart=>exact⟨0,by omega,rfl,brf,YJ (fun j _ h=>by omega)⟩
 case round=>
  obtain⟨k,hk,rfl,hb,Hd⟩:=hrel
  by_cases hlt:k<26
  ·have g1:(k:Int)<26:=by omega
   have g2:(0:Int)≤(k:Int):=by omega
   have hkl:k<WS.length:=by rw[H26.out];exact hlt
   obtain⟨b,off,rfl,hi3⟩:=HX.out (by omega)
   obtain⟨c0,c1,c2⟩:=(hi3.below hb) k hkl
   obtain⟨d0,d1,d2,df,dz⟩:=NO ((hb.block _ (ah HB1.out)).trans HB1.out)
   have HH:=fun(h1:WS[k]=(x,y,z))=>YJ (Hn k hkl h1 Hd.out).out
   have Hst:Hid (WS[k]≠(x,y,z)→∀j (hj:j<WS.length),j<k+1→WS[j]≠(x,y,z)):=YJ (fun h j hj hjk=>by
    by_cases e:j=k
    ·subst e;exact h
    ·exact Hd.out j hj (by omega))
   have z1:=qaC wr _ c0
   simp only at z1
   have hw:=fB hw1 hb
   clear HX Hn Hs hi3 Hd
   generalize WS[k]=u0 at*
   obtain⟨a,b',c⟩:=u0
   simp only at c0 c1 c2
   by_cases he:((a,b',c):Q3)=(x,y,z)
   ·have hr:=(HH he).out
    injection he with e1 e2
    injection e2 with e2 e3
    subst e1;subst e2;subst e3
    subst hr
    clear HH Hst
    go_wp2
    refine wqf fun u=> ?_
    have hbu:=fB hw u.below
    go_wp2
    go_ret
    exact⟨by first|rfl|trivial,hbu⟩
   ·have HSt:=YJ (Hst.out he)
    clear HH Hst
    by_cases e1:a=x
    ·subst e1
     by_cases e2:b'=y
     ·subst e2
      have e3:¬c=z:=fun e=>he (by rw[e])
      have e3':(c==z)=false:=by simpa using e3
      clear he
      go_wp2
      refine wqf fun u=> ?_
      have hbu:=fB hb u.below
      go_wp2
      go_roundw
      case rel=>exact⟨k+1,by omega,by go_num,hbu,HSt⟩
      case measure=>simp[intOf];try omega
     ·have e2':(b'==y)=false:=by simpa using e2
      clear he
      go_wp2
      refine wqf fun u=> ?_
      have hbu:=fB hb u.below
      go_wp2
      go_roundw
      case rel=>exact⟨k+1,by omega,by go_num,hbu,HSt⟩
      case measure=>simp[intOf];try omega
    ·have e1':(a==x)=false:=by simpa using e1
     clear he
     go_wp2
     refine wqf fun u=> ?_
     have hbu:=fB hb u.below
     go_wp2
     go_roundw
     case rel=>exact⟨k+1,by omega,by go_num,hbu,HSt⟩
     case measure=>simp[intOf];try omega
  ·obtain rfl:k=26:=by omega
   obtain⟨h1,h2⟩:=List.getElem?_eq_some_iff.1 Hs.out
   exact absurd h2 (Hd.out _ h1 (by have:=H26.out;omega))
def GrpQ (W w:World) (v:Value) (g:List Int):Prop:=Ints W v g∨w.ownsRow W.heap.size 3 1 v g.length (g.map (Value.int .i64))
theorem GrpQ.ints {W w:World} {v:Value} {g:List Int} (h:GrpQ W w v g) (hb:Below W.heap.size W w):Ints w v g:=h.elim (fun h=>h.below hb) (fun h=>jy h)
theorem GrpQ.below {W w w':World} {v:Value} {g:List Int} (h:GrpQ W w v g) (hb:Below w.heap.size w w'):GrpQ W w' v g:=h.imp id (fun h=>au h hb)
theorem GrpQ.kept {W w w':World} {v:Value} {g:List Int} {row:Option Nat} {T:TypeId} (hT:T≠3) (h:GrpQ W w v g) (hg:w.grownBy w' row) (hne:∀g cs,row=some g→w.heap[g]? =some cs→∃c t,cs= .cells c t (0,0)∧t=T):GrpQ W w' v g:=
 h.imp id (fun h=>Qu h hg (fun g cs k1 k2=>by obtain⟨c,t,h3,h4⟩:=hne g cs k1 k2;exact⟨c,t,h3,by rw[h4];exact hT⟩))
theorem RowsP.set {α:Type} {P:Value→α→Prop} {vs:List Value} {l:List α} {v:Value} {s:α} (h:RowsP P vs l) (hv:P v s) (k:Nat):RowsP P (vs.set k v) (l.set k s):=by
 refine⟨by simp[h.1],fun i h1 h2=> ?_⟩
 rw[List.getElem_set,List.getElem_set]
 split
 ·exact hv
 ·exact h.2 i (by simpa using h1) (by simpa using h2)
theorem qcX {w:World} {B:Nat} {T:TypeId} {v:Value} {n:Nat} {xs:List Value} (h:w.ownsRow B T 1 v n xs) (h0:0<n):
  ∃g cap,v= .slice (some ⟨g,0,none⟩) n cap∧n≤cap∧g<w.heap.size∧(∃cur,w.heap[g]? =some (.cells cur T (0,0)))∧∀i (hi:i<xs.length),w.cell? ⟨g,i,none⟩=some xs[i]:=by
 rcases h.2 with⟨_,h1⟩|⟨g,cap,cur,rfl,hb,hh,hc,_,_,ht⟩
 ·omega
 ·refine⟨g,cap,rfl,hc,ah hh,⟨cur,hh⟩,fun i hi=> ?_⟩
  have hl:=h.1
  have h2:(cur.toList.take (n*1))[i]? =xs[i]? :=by rw[ht]
  rw[qdx (by omega),List.getElem?_eq_getElem hi]at h2
  rw[ag hh]
  simpa using h2
theorem qbA {w:World} {a:Option Addr} {n c:Nat} {xs:List Int} (h:Ints w (.slice a n c) xs):xs.length=n:=by
 obtain⟨_,_,_,e,hn,_⟩:=h
 injection e with _ e2 _
 omega
theorem qcY {l:List (List (List Q4))} {gs:List (List Int)} {p:List Spl} {i:Nat} (h:i<p.length):qbO l gs (p.drop i)=qbO l gs (p[i]::p.drop (i+1)):=by
 rw[List.drop_eq_getElem_cons h]
theorem qcZ {l:List (List (List Q4))} {v:Q3} (h:v∈ways26):∃hk:qbP v<(Uh l).length,(Uh l)[qbP v]'hk=TF l v:=by
 obtain⟨h1,h2⟩:=qbZ h
 refine⟨by rw[Uj];exact h1, ?_⟩
 unfold Uh
 rw[qdB,h2]
theorem qbT (l:List (List (List Q4))) (p:List Spl) (gv pv:Value) (W:World) (hl:l.length≤1000) (hp:p.length≤1000) (hs:∀s∈p,s.1.length≤1000∧s.2.1.length≤1000) (h1:GsV W gv (Uh l)) (h2:Kj W pv p):
  Calls Tryz.prog 30 #[gv, .int .i64 l.length,pv] W (Ret W (.int .i64 (rcp l p))):=by
 obtain⟨i1,hj0,hy0,hy1,hy2⟩:=info_parts VX
 have Hi1:=YJ (And.intro hj0 (And.intro hy0 (And.intro hy1 hy2)))
 clear hj0 hy0 hy1 hy2
 have HAl:=fun W'=>YJ (Yo l.length W' (by omega))
 have HSe:=fun xs v W' (hx:xs.length≤1000) (hb:Below W.heap.size W W') (k:Ints W v xs)=>YJ (Vy xs v l.length W' hl (by omega) (k.below hb))
 have HWe:=fun(x y z:Int) (W':World)=>YJ (El x y z W')
 have HIn:=fun(v v2:Value) (xs ys:List Int) (W':World) (hm:xs.length≤1000000) (k1:Ints W' v xs) (k2:Ints W' v2 ys)=>YJ (VU v v2 xs ys W' hm k1 k2)
 have HWo:=fun(v v2:Value) (xs ys:List Int) (W':World) (hx:xs.length≤1000) (hy:ys.length≤1000) (hb:Below W.heap.size W W') (k1:Ints W v xs) (k2:Ints W v2 ys)=>YJ (Vs v v2 xs ys W' (by omega) (by omega) (k1.below hb) (k2.below hb))
 have HNu:=fun(x y z:Int) (h:mK (x,y,z)=0) (W':World)=>YJ (qci x y z W' (Yu h))
 have HMo:=fun(v:Q3) (gi gv ov:Value) (xs ys:List Int) (W':World) (hx:xs.length≤1000) (hy:ys.length≤1000) (e1:gh xs l.length=0) (e2:gh ys l.length=0) (hb:Below W.heap.size W W') (k0:GrfV W gi (TF l v)) (k1:Ints W gv xs) (k2:Ints W ov ys)=>
  YJ (show Calls Tryz.prog 63 #[gi,gv,ov] W' (Ret W' (.bool (WP (gE (TF l v)) (xs.map Int.toNat) (ys.map Int.toNat))))from
   XV (TF l v) (xs.map Int.toNat) (ys.map Int.toNat) gi gv ov W' (fun r hr=>qaD (Ww l _ r hr) hl) (by rw[qdo];exact hx) (by rw[qdo];exact hy)
    (fun j hj=>by
     rw[TV]
     obtain⟨y,hy,rfl⟩:=altt.1 hj
     have:=DO e2 y hy
     omega) (k0.below hb)
    (by
     show Ints W' gv (nI (xs.map Int.toNat))
     rw[Ve (fun x hx=>(DO e1 x hx).1)]
     exact k1.below hb)
    (by
     show Ints W' ov (nI (ys.map Int.toNat))
     rw[Ve (fun x hx=>(DO e2 x hx).1)]
     exact k2.below hb))
 have HGi:=fun(x y z:Int) (h:mK (x,y,z)=0)=>YJ (@qcZ l (x,y,z) (Yu h))
 have HDr:=fun gs i (h:i<p.length)=>YJ (@qcY l gs p i h)
 have HSs:=fun i (h:i<p.length)=>YJ (hs _ (qaB h))
 have Hr0:Hid ((p.length:Int)≠max ((l.length:Int)-1) 0→rcp l p=10):=YJ (fun h=>by unfold rcp;rw[if_pos h])
 have Hr1:Hid ((p.length:Int)=max ((l.length:Int)-1) 0→qbO l [nI (List.range l.length)] (p.drop 0)=rcp l p):=YJ (fun h=>by unfold rcp;rw[if_neg (by omega)];rfl)
 have HStep:=fun(gs:List (List Int)) (s:Spl) (q:List Spl)=>YJ (show qbO l gs (s::q)=if gh s.1 l.length≠0 then gh s.1 l.length else if gh s.2.1 l.length≠0 then gh s.2.1 l.length else if mK s.2.2≠0 then mK s.2.2 else
  if atF gs s.1 gs.length<0 then 27 else
  if s.2.1.length=0∨(Ug s.1 s.2.1).length=0∨(Ug s.1 s.2.1).length+s.2.1.length≠s.1.length then 3 else
  if WP (gE (TF l s.2.2)) (s.1.map Int.toNat) (s.2.1.map Int.toNat)=false then 18 else
  qbO l (gs.set (atF gs s.1 gs.length).toNat s.2.1++[Ug s.1 s.2.1]) q from rfl)
 have Hfin:Hid (∀gs,qbO l gs (p.drop p.length)=0):=YJ (fun gs=>by rw[List.drop_length];rfl)
 have Hwl:=fun xs ys=>YJ (show(Ug xs ys).length≤xs.length from qdz _ _)
 obtain⟨ga,gn,gc,rfl,hgn, -,hgx⟩:=h1
 obtain rfl:gn=26:=by rw[←hgn,Uj]
 obtain⟨pa,pn,pc,rfl,hpn, -,hpx⟩:=h2
 have HG:=YJ hgx
 have HP:=YJ hpx
 have Hpn:=YJ hpn
 rw[hpn]at hp Hr0 Hr1 Hfin
 have hR0:(nI (List.range l.length)).length=l.length:=by rw[TO,qdA]
 obtain⟨R0,HR0⟩:∃R0,Hid (nI (List.range l.length)=R0):=⟨_,YJ rfl⟩
 rw[HR0.out]at HAl Hr1 hR0
 clear hgx hgn hpx hs hpn HR0
 generalize rcp l p=res at*
 obtain⟨n,Hn⟩:∃n,Hid (l.length=n):=⟨_,YJ rfl⟩
 rw[Hn.out]at HAl HSe Hr0 Hr1 HMo HStep hl hR0 ⊢
 go_enter Tryz.func30,Tryz.ntmps30
 by_cases hlen:(pn:Int)=max ((n:Int)-1) 0
 ·have HD0:=YJ (Hr1.out hlen)
  have hlen':((pn:Int)!=max ((n:Int)-1) 0)=false:=by simpa using hlen
  clear Hr0 Hr1
  go_wp2_with fail
  refine((HAl _).out).mono ?_
  rintro e w1 ⟨v1,rfl,hb1,ho1⟩
  have hw1:Below W.heap.size W w1:=by first|exact hb1|exact fB bel hb1
  rw[hR0]at ho1
  obtain⟨va,vc,rfl⟩:=aT ho1
  obtain⟨X,HX⟩:∃X,Hid (w1.alloc (.cells #[.slice va n vc] 49)=X):=⟨_,YJ rfl⟩
  have hbX:Below w1.heap.size w1 X:=by rw[←HX.out];exact bel
  have hwX:=fB hw1 hbX
  have HOX:Hid (X.ownsRow W.heap.size 49 1 (.slice (some ⟨w1.heap.size,0,none⟩) 1 1) 1 [.slice va n vc]):=YJ (Wv hw1.size (by rw[←HX.out];exact ai rfl))
  have HRX:Hid (RowsP (GrpQ W X) [.slice va n vc] [R0]):=YJ (RowsP.snoc RowsP.nil (.inr (by rw[hR0];exact au ho1 hbX)))
  clear HAl ho1 hb1
  go_wp2
  try rw[HX.out]
  go_loopw [7,8] (fun g x wr=>∃(i m:Nat) (gs:List (List Int)),i≤pn∧Hid (m=i+1)∧x= .int .i64 i∧Below W.heap.size W wr∧∃vs,Hid (wr.ownsRow W.heap.size 49 1 g m vs)∧Hid (RowsP (GrpQ W wr) vs gs)∧Hid (qbO l gs (p.drop i)=res)∧Hid (gs.length=m∧∀g∈gs,g.length≤1000)) (fun _ x _=>pn-(intOf x).toNat)
  case atStart=>exact⟨0,1,[R0],by omega,YJ rfl,rfl,hwX,_,HOX,HRX,HD0,YJ ⟨rfl,fun g hg=>by
   have e:g=R0:=by simpa using hg
   rw[e,hR0]
   exact hl⟩⟩
  case round=>
   obtain⟨i,m,gs,hi,hm,rfl,hb,vs,HO,HR,HD,HL⟩:=hrel
   have hmb:m≤1001:=by have:=hm.out;omega
   have hm0:0<m:=by have:=hm.out;omega
   obtain⟨oa,oc,rfl⟩:=aT HO.out
   by_cases hlt:i<pn
   ·have q1:(i:Int)<(pn:Int):=by omega
    have q2:(0:Int)≤(i:Int):=by omega
    have hil:i<p.length:=by have:=Hpn.out;omega
    obtain⟨b,off,rfl,hx⟩:=HP.out (by omega)
    have hsi:SplA W b (off+i*5) p[i]:=hx i hil
    obtain⟨pgv,pov,c0,c1,c2,c3,c4,j1,j2⟩:=hsi
    have c0:=ab hb c0
    have c1:=ab hb c1
    have c2:=ab hb c2
    have c3:=ab hb c3
    have c4:=ab hb c4
    have z0:=qaC wr _ c0
    simp only at z0
    have hss:=(HSs i hil).out
    have HDi:=HDr gs i hil
    rw[(HStep gs p[i] (p.drop (i+1))).out]at HDi
    have HDk:=YJ (HDi.out.symm.trans HD.out)
    have HI1:=YJ j1
    have HI2:=YJ j2
    obtain⟨a1,n1,d1,rfl⟩:=Ints.sl j1
    obtain⟨a2,n2,d2,rfl⟩:=Ints.sl j2
    have hn1:=qbA HI1.out
    have hn2:=qbA HI2.out
    clear HP hx j1 j2 HSs HDr HStep HDi HD
    generalize p[i]=s at*
    obtain⟨sg,so,sx,sy,sz⟩:=s
    simp only at c2 c3 c4 hss HI1 HI2 hn1 hn2 HDk
    subst hn1
    subst hn2
    have HC1:=fun W' hb=>YJ (HSe sg _ W' hss.1 hb HI1.out).out
    have HC2:=fun W' hb=>YJ (HSe so _ W' hss.2 hb HI2.out).out
    have HCo:=fun W' hb=>YJ (HWo _ _ sg so W' hss.1 hss.2 hb HI1.out HI2.out).out
    have HMi:=fun gi W' e1 e2 hb k0=>YJ (HMo (sx,sy,sz) gi _ _ sg so W' hss.1 hss.2 e1 e2 hb k0 HI1.out HI2.out).out
    have HCg:=fun(k:Nat) v xs W' (hm:xs.length≤1000000) k1 (hb:Below W.heap.size W W')=>YJ (HIn v _ xs sg W' hm k1 (HI1.out.below hb)).out
    have HWl:=YJ (Hwl sg so).out
    obtain⟨rest,Hrest⟩:∃rest,Hid (Ug sg so=rest):=⟨_,YJ rfl⟩
    rw[Hrest.out]at HCo HDk HWl
    obtain⟨mv,Hmv⟩:∃mv,Hid (WP (gE (TF l (sx,sy,sz))) (sg.map Int.toNat) (so.map Int.toNat)=mv):=⟨_,YJ rfl⟩
    rw[Hmv.out]at HMi HDk
    obtain⟨av,Hav⟩:∃av,Hid (atF gs sg gs.length=av):=⟨_,YJ rfl⟩
    rw[Hav.out]at HDk
    have HGk:=fun h=>YJ (HGi sx sy sz h).out
    have HNk:=fun h W'=>YJ (HNu sx sy sz h W').out
    have HWk:=fun W'=>YJ (HWe sx sy sz W').out
    clear HSe HWo HMo HIn Hwl HGi HNu HWe
    generalize gh sg n=se1 at*
    generalize gh so n=se2 at*
    generalize mK (sx,sy,sz)=se3 at*
    obtain⟨Y,HY⟩:∃Y,Hid (wr.alloc (.cells #[.slice a1 sg.length d1, .slice a2 so.length d2, .int .i64 sx, .int .i64 sy, .int .i64 sz] 60)=Y):=⟨_,YJ rfl⟩
    have hbY:Below wr.heap.size wr Y:=by rw[←HY.out];exact bel
    have hwY:=fB hb hbY
    have HBY:Hid (Y.heap[wr.heap.size]? =some (.cells #[.slice a1 sg.length d1, .slice a2 so.length d2, .int .i64 sx, .int .i64 sy, .int .i64 sz] 60 (0,0))):=YJ (by rw[←HY.out];exact ai rfl)
    have HOY:=YJ (au HO.out hbY)
    have HRY:=YJ (HR.out.imp fun _ _ h=>GrpQ.below h hbY)
    have hg1:=hss.1
    have hg2:=hss.2
    clear hss
    generalize sg.length=ng at*
    generalize so.length=no at*
    go_wp2_with fail
    try rw[HY.out]
    refine((HC1 _ hwY).out).mono ?_
    rintro e w2 ⟨rfl,hb2⟩
    have hw2:=fB hwY hb2
    have HB2:=YJ ((hb2.block _ (ah HBY.out)).trans HBY.out)
    have HO2:=YJ (au HOY.out hb2)
    have HR2:=YJ (HRY.out.imp fun _ _ h=>GrpQ.below h hb2)
    clear HC1 HY HBY HOY HRY HO HR c0 c1 c2 c3 c4 z0
    by_cases h1:se1=0
    ·subst h1
     obtain⟨r0,r1,r2,r3,r4,rf,rz⟩:=bM HB2.out
     have h9:=HDk.out
     rw[if_neg (by simp)]at h9
     have HDk1:=YJ h9
     clear h9
     clear HDk
     go_wp2_with fail
     refine((HC2 _ hw2).out).mono ?_
     rintro e w3 ⟨rfl,hb3⟩
     have hw3:=fB hw2 hb3
     have HB3:=YJ ((hb3.block _ (ah HB2.out)).trans HB2.out)
     have HO3:=YJ (au HO2.out hb3)
     have HR3:=YJ (HR2.out.imp fun _ _ h=>GrpQ.below h hb3)
     clear HC2 HB2 HO2 HR2 r0 r1 r2 r3 r4 rf rz
     by_cases h2:se2=0
     ·subst h2
      obtain⟨r0,r1,r2,r3,r4,rf,rz⟩:=bM HB3.out
      have h9:=HDk1.out
      rw[if_neg (by simp)]at h9
      have HDk2:=YJ h9
      clear h9
      clear HDk1
      go_wp2_with fail
      refine((HWk _).out).mono ?_
      rintro e w4 ⟨rfl,hb4⟩
      have hw4:=fB hw3 hb4
      have HB4:=YJ ((hb4.block _ (ah HB3.out)).trans HB3.out)
      have HO4:=YJ (au HO3.out hb4)
      have HR4:=YJ (HR3.out.imp fun _ _ h=>GrpQ.below h hb4)
      clear HWk HB3 HO3 HR3 r0 r1 r2 r3 r4 rf rz
      by_cases h3:se3=0
      ·subst h3
       have h9:=HDk2.out
       rw[if_neg (by simp)]at h9
       have HDk3:=YJ h9
       clear h9
       have HMi':=fun gi W' hb k0=>YJ (HMi gi W' (by first|rfl|trivial) (by first|rfl|trivial) hb k0).out
       have HGk':=YJ (HGk (by first|rfl|trivial)).out
       have HNk':=fun W'=>YJ (HNk (by first|rfl|trivial) W').out
       clear HDk2 HMi HGk HNk
       go_wp2
       go_loopw [13,14] (fun a x ww=>∃k:Nat,k≤m∧x= .int .i64 k∧a= .int .i64 (atF gs sg k)∧Below w4.heap.size w4 ww) (fun _ x _=>m-(intOf x).toNat)
       case atStart=>exact⟨0,by omega,rfl,rfl,brf⟩
       case round=>
        rename World=>ww
        obtain⟨k,hk,rfl,rfl,hbw⟩:=hrel
        by_cases hkm:k<m
        ·have q3:(k:Int)<(m:Int):=by omega
         have q4:(0:Int)≤(k:Int):=by omega
         have hvl:=(HR4.out).1
         have hgl:=HL.out
         have hww:=fB hw4 hbw
         obtain⟨rg,rcap,e,hcc,hgz, -,hcell⟩:=qcX (au HO4.out hbw) (by omega)
         injection e with e1 e2 e3
         subst e1
         subst e3
         have ck:=hcell k (by omega)
         have hq:=((HR4.out).2 k (by omega) (by omega)).below hbw
         have hqi:=hq.ints hww
         obtain⟨r0,r1,r2,r3,r4,rf,rz⟩:=bM ((hbw.block _ (ah HB4.out)).trans HB4.out)
         have hsuc:=qbR gs sg k
         rw[show gs.getD k []=gs[k]'(by omega) by simp[List.getD,show k<gs.length by omega]]at hsuc
         have hlq:=qaD (hgl.2 _ (qaB (show k<gs.length by omega))) (show 1000≤1000000 by decide)
         have HCk:=fun(u:Ext ww)=>YJ (HCg k _ _ u.val hlq (hqi.below u.below) (fB hww u.below)).out
         have Hsuc:=YJ hsuc
         clear hcell hq HO4 HR4 hsuc hlq
         generalize gs[k]'(by omega)=gk at*
         generalize vs[k]'(by omega)=vk at*
         obtain⟨a3,n3,d3,rfl⟩:=Ints.sl hqi
         obtain⟨bq,Hbq⟩:∃bq,Hid (decide (gk=sg)=bq):=⟨_,YJ rfl⟩
         rw[Hbq.out]at HCk
         clear HDk3 HMi' HGk' HNk' HCo hqi HCg
         go_wp2
         refine wqb ?_
         repeat(first|go_big_quiet_step ((go_at_call 61;exact aE ((HCk _).out)))|quiet_step ((go_at_call 61;exact aE ((HCk _).out))))
         refine wqn fun u=> ?_
         have hbu:=fB hbw u.below
         cases bq with
         |true=>
          have e9:gk=sg:=of_decide_eq_true Hbq.out
          have hs9:=Hsuc.out
          rw[if_pos e9]at hs9
          go_wp2
          go_roundw
          case rel=>exact⟨k+1,by omega,by go_num,by rw[hs9],hbu⟩
          case measure=>simp[intOf];try omega
         |false=>
          have e9:¬gk=sg:=of_decide_eq_false Hbq.out
          have hs9:=Hsuc.out
          rw[if_neg e9]at hs9
          go_wp2
          go_roundw
          case rel=>exact⟨k+1,by omega,by go_num,by rw[hs9],hbu⟩
          case measure=>simp[intOf];try omega
        ·obtain rfl:k=m:=by omega
         have hav:atF gs sg k=av:=by rw[←HL.out.1];exact Hav.out
         have hbd:=qcN gs sg k
         rw[hav]at hbd ⊢
         have hww:=fB hw4 hbw
         have HBw:=YJ ((hbw.block _ (ah HB4.out)).trans HB4.out)
         have HOw:=YJ (au HO4.out hbw)
         have HRw:=YJ (HR4.out.imp fun _ _ h=>GrpQ.below h hbw)
         clear HB4 HO4 HR4 HCg Hav hav
         by_cases hneg:av<0
         ·have hr:27=res:=by have:=HDk3.out;rwa [if_pos hneg]at this
          subst hr
          clear HDk3 HMi' HGk' HNk' HCo
          go_wp2
          go_ret
          exact⟨by first|rfl|trivial,hww⟩
         ·obtain⟨q,rfl⟩:∃q:Nat,av=(q:Int):=⟨av.toNat,by omega⟩
          have hqk:q<k:=by omega
          have h9:=HDk3.out
          rw[if_neg hneg]at h9
          have HDk4:=YJ h9
          clear h9
          obtain⟨r0,r1,r2,r3,r4,rf,rz⟩:=bM HBw.out
          have HC5:=YJ (HCo _ hww).out
          clear HDk3 HCo
          go_wp2_with fail
          refine(HC5.out).mono ?_
          rintro e w5 ⟨v5,rfl,hb5,ho5⟩
          have hw5:=fB hww hb5
          have HB5:=YJ ((hb5.block _ (ah HBw.out)).trans HBw.out)
          have HO5:=YJ (au HOw.out hb5)
          have HR5:=YJ (HRw.out.imp fun _ _ h=>GrpQ.below h hb5)
          have HN5:=YJ (show GrpQ W w5 v5 rest from .inr (AY ho5 hww.size))
          obtain⟨a5,d5,rfl⟩:=aT ho5
          clear HC5 HBw HOw HRw r0 r1 r2 r3 r4 rf rz ho5
          obtain⟨rl,Hrl⟩:∃rl,Hid (rest.length=rl):=⟨_,YJ rfl⟩
          have hwl:=HWl.out
          rw[Hrl.out]at HDk4 hwl HN5 ⊢
          obtain⟨r0,r1,r2,r3,r4,rf,rz⟩:=bM HB5.out
          by_cases k1:no=0
          ·have hr:3=res:=by have:=HDk4.out;rwa [if_pos (.inl k1)]at this
           subst hr
           subst k1
           clear HDk4 HMi' HGk' HNk'
           go_wp2
           go_ret
           exact⟨by first|rfl|trivial,hw5⟩
          ·by_cases k2:rl=0
           ·have hr:3=res:=by have:=HDk4.out;rwa [if_pos (.inr (.inl k2))]at this
            subst hr
            subst k2
            have k1':((no:Int)==0)=false:=by simpa using k1
            clear HDk4 HMi' HGk' HNk'
            go_wp2
            go_ret
            exact⟨by first|rfl|trivial,hw5⟩
           ·have k1':((no:Int)==0)=false:=by simpa using k1
            have k2':((rl:Int)==0)=false:=by simpa using k2
            by_cases k3:rl+no=ng
            ·have k3':((rl:Int)+(no:Int)!=(ng:Int))=false:=by simp;omega
             have h9:=HDk4.out
             rw[if_neg (by simp[k1,k2,k3])]at h9
             have HDk5:=YJ h9
             clear h9
             obtain⟨hk26,hgn⟩:=HGk'.out
             have hk26':qbP (sx,sy,sz)<26:=by rw[Uj]at hk26;exact hk26
             obtain⟨gb,goff,rfl,hgx⟩:=HG.out (by omega)
             obtain⟨gi,e1,hgi⟩:=hgx _ hk26
             rw[hgn]at hgi
             have f1:=ab hw5 e1
             have HM5:=fun(u:Ext w5)=>YJ (HMi' gi u.val (fB hw5 u.below) hgi).out
             have HN9:=fun(u:Ext w5)=>YJ (HNk' u.val).out
             obtain⟨gia,gin,gic,rfl⟩:∃a n c,gi= .slice a n c:=by obtain⟨a,n,c,h,_⟩:=hgi;exact⟨a,n,c,h⟩
             have y1:=qaC w5 _ f1
             simp only at y1
             clear HDk4 HMi' HGk' HNk' hgx hgi e1 hk26 hgn
             generalize qbP (sx,sy,sz)=nw at*
             have q5:(nw:Int)<26:=by omega
             have q6:(0:Int)≤(nw:Int):=by omega
             go_wp2
             refine wqb ?_
             repeat(first|go_big_quiet_step ((first|(go_at_call 73;exact aE ((HN9 _).out))|(go_at_call 63;exact aE ((HM5 _).out))))|quiet_step ((first|(go_at_call 73;exact aE ((HN9 _).out))|(go_at_call 63;exact aE ((HM5 _).out)))))
             refine wqn fun u=> ?_
             have hb6:=u.below
             generalize u.val=w6 at*
             clear u
             have hw6:=fB hw5 hb6
             have HB6:=YJ ((hb6.block _ (ah HB5.out)).trans HB5.out)
             have HO6:=YJ (au HO5.out hb6)
             have HR6:=YJ (HR5.out.imp fun _ _ h=>GrpQ.below h hb6)
             have HN6:=YJ (HN5.out.below hb6)
             clear HM5 HN9 HB5 HO5 HR5 HN5 r0 r1 r2 r3 r4 rf rz f1 y1
             cases mv with
             |false=>
              have hr:18=res:=by have:=HDk5.out;rwa [if_pos rfl]at this
              subst hr
              go_wp2
              go_ret
              exact⟨by first|rfl|trivial,hw6⟩
             |true=>
              have h9:=HDk5.out
              rw[if_neg (by simp),Int.toNat_natCast]at h9
              have HDk6:=YJ h9
              clear h9
              obtain⟨r0,r1,r2,r3,r4,rf,rz⟩:=bM HB6.out
              obtain⟨rg,rcap,e,hcc,hgz,⟨cur,hcur⟩,hcell⟩:=qcX HO6.out (by omega)
              injection e with e1 e2 e3
              subst e1
              subst e3
              have hvl:=(HR6.out).1
              have hgl:=HL.out
              have ck:=hcell q (by omega)
              have fk:=aC hcur q
              have q7:(q:Int)<(k:Int):=by omega
              have q8:(0:Int)≤(q:Int):=by omega
              obtain⟨Z,HZ⟩:∃Z,Hid (w6.setCell ⟨rg,q,none⟩ (.slice a2 no d2)=Z):=⟨_,YJ rfl⟩
              have hst:=World.ownsRow.stored HO6.out q (.slice a2 no d2)
              rw[HZ.out]at hst
              have hwZ:Below W.heap.size W Z:=by
               rw[←HZ.out]
               exact hw6.setCell ((HO6.out.lt rg (by simp[Value.ownBlock])).1) _
              have HOZ:=YJ hst.1
              have HRZ:=YJ (RowsP.set (HR6.out.imp fun _ _ h=>h.kept (T:=49) (by decide) hst.2 (jC HO6.out)) (show GrpQ W Z (.slice a2 no d2) so from .inl HI2.out) q)
              have HNZ:=YJ (HN6.out.kept (T:=49) (by decide) hst.2 (jC HO6.out))
              clear HB6 HO6 HR6 HN6 HDk5 hst hcell
              go_upto_region 31 with fail
              rw[HZ.out]
              have hbx:Below Z.heap.size Z (Z.alloc (.cells #[.slice a5 rl d5] 49)):=bel
              have HOx:=YJ (au (HOZ).out hbx)
              have HNx:Hid ((Z.alloc (.cells #[.slice a5 rl d5] 49)).heap[Z.heap.size]? =some (.cells #[.slice a5 rl d5] 49 (0,0))):=YJ (ai rfl)
              have HRx:=YJ (RowsP.snoc ((HRZ).out.imp fun _ _ h=>h.below hbx) ((HNZ).out.below hbx))
              have zw1:=(hwZ).size
              go_wp2_with (at_builtin;refine fq _ rfl _ _ 37 rfl W.heap.size 49 i1 (.slice none 0 0) 1 24 VY Hi1.out.1 Hi1.out.2.1 Hi1.out.2.2.1 Hi1.out.2.2.2 rfl (by decide) _ k (vs.set q (.slice a2 no d2)) rfl HOx.out ⟨Z.heap.size,0,none⟩ 1 1 [.slice a5 rl d5] rfl rfl (fun j u hu=>by rw[jY,ag HNx.out];simpa using hu) (fun u hu=>by simp at hu;subst hu;rfl) (by unfold maxLen;omega) (by omega) (by simp;omega) ?_)
              intro v' w4 hown4 hg4 _
              have hb4:Below W.heap.size W w4:=(fB (hwZ) hbx).grown hg4 (by simp;omega) (fun z hz=>(HOx.out.lt z hz).1)
              have HR4:=YJ (HRx.out.imp fun _ _ h=>h.kept (T:=49) (by decide) hg4 (jC HOx.out))
              have HO4:=YJ hown4
              clear hown4 hg4 HOx HNx HRx hbx
              obtain⟨va4,vc4,rfl⟩:=aT HO4.out
              go_wp2
              go_roundw
              case rel=>exact⟨i+1,k+1,_,by omega,YJ (by rw[hm.out]),by go_num,hb4,_,HO4,HR4,HDk6,YJ ⟨by simp[hgl.1],fun g hg=>by
               rcases altl.1 hg with hg|hg
               ·rcases List.mem_or_eq_of_mem_set hg with hg|rfl
                ·exact hgl.2 g hg
                ·have:=qbA HI2.out;omega
               ·obtain rfl:g=rest:=by simpa using hg
                have:=Hrl.out;omega⟩⟩
              case measure=>simp[intOf];try omega
            ·have k3':((rl:Int)+(no:Int)!=(ng:Int))=true:=by simp;omega
             have hr:3=res:=by have:=HDk4.out;rwa [if_pos (.inr (.inr k3))]at this
             subst hr
             clear HDk4 HMi' HGk' HNk'
             go_wp2
             go_ret
             exact⟨by first|rfl|trivial,hw5⟩
      ·have hr:se3=res:=by have:=HDk2.out;rwa [if_pos h3]at this
       subst hr
       have h3':(se3 !=0)=true:=by simpa using h3
       clear HDk2 HMi HGk HNk HCo HCg
       go_wp2
       go_ret
       exact⟨by first|rfl|trivial,hw4⟩
     ·have hr:se2=res:=by have:=HDk1.out;rwa [if_pos h2]at this
      subst hr
      have h2':(se2 !=0)=true:=by simpa using h2
      clear HDk1 HMi HGk HNk HCo HCg HWk
      go_wp2
      go_ret
      exact⟨by first|rfl|trivial,hw3⟩
    ·have hr:se1=res:=by have:=HDk.out;rwa [if_pos h1]at this
     subst hr
     have h1':(se1 !=0)=true:=by simpa using h1
     clear HDk HMi HGk HNk HCo HCg HWk HC2
     go_wp2
     go_ret
     exact⟨by first|rfl|trivial,hw2⟩
   ·obtain rfl:i=pn:=by omega
    have hr:0=res:=by have:=HD.out;rwa [Hfin.out]at this
    subst hr
    clear HSe HWe HIn HWo HNu HMo HGi HDr HSs HStep HG HP
    go_wp2
    go_ret
    exact⟨by first|rfl|trivial,hb⟩
 ·have hr:res=10:=Hr0.out hlen
  subst hr
  have hlen':((pn:Int)!=max ((n:Int)-1) 0)=true:=by simpa using hlen
  clear HAl HSe HWe HIn HWo HNu HMo HGi HDr HSs HStep HG HP Hr0 Hr1
  go_wp2
  go_ret
  exact⟨by first|rfl|trivial,brf⟩
theorem qdf {s:Nat} (h:s<4096):(lf s).length≤12:=by
 rw[TS s h]
 exact qaD (qdz _ _) (by simp)
theorem qcj {ps:List (List Bod)}:∀f grp r,grp<4096→wb ps f grp=some r→∀q∈r,(lf q.1).length≤12
 |0,_,_,_,e=>by
  cases e
  intro q hq
  cases hq
 |f+1,grp,r,hg,e=>by
  unfold wb at e
  split at e
  ·cases e
   intro q hq
   cases hq
  ·cases ha:CL ps grp with
   |none=>rw[ha]at e;cases e
   |some p=>
    obtain⟨v,n⟩:=p
    rw[ha]at e
    obtain⟨r',hr',rfl⟩:=Option.map_eq_some_iff.1 e
    intro q hq
    rcases alsk.1 hq with rfl|hq
    ·exact qdf hg
    ·exact qcj f _ r' (Yc hg) hr' q hq
theorem qcd {l:List (List (List Q4))} (h:eB l=0) {r:List (Nat×Nat×Q3)} (e:qbU l=some r):r.length≤12∧∀s∈r.map GE,s.1.length≤1000∧s.2.1.length≤1000:=by
 have h12:=(sq h).1
 have he:=WT h12
 have hlen:=qbL l.length _ r (WQ h12) (by rw[he,qdA];exact qaA _) e
 rw[he,qdA]at hlen
 refine⟨by omega,fun s hs=> ?_⟩
 obtain⟨q,hq,rfl⟩:=altt.1 hs
 have:=qcj l.length _ r (WQ h12) e q hq
 refine⟨?_,by simp[GE]⟩
 show(nI (lf q.1)).length≤1000
 rw[TO]
 omega
theorem qbN {w w':World} {v:Value} {ps:List Spl} (h:Kj w v ps) (hb:Below w.heap.size w w'):Kj w' v ps:=by
 obtain⟨a,n,c,hv,hn,hc,hx⟩:=h
 refine⟨a,n,c,hv,hn,hc,fun h0=> ?_⟩
 obtain⟨b,off,ha,hi⟩:=hx h0
 exact⟨b,off,ha,fun i hh=>SplA.below (hi i hh) hb⟩
def qdl (A:Int) (sg:Option (List (Nat×Nat×Q3))) (W:World) (e:Ending) (w':World):Prop:=∃ca cn cc ce,e= .returned (.tuple #[.slice ca cn cc, .int .i64 ce])∧Below W.heap.size W w'∧(A≠0→ce=A∧cn=0)∧(A=0→sg=none→ce=12∧cn=0)∧(A=0→∀r,sg=some r→ce=0∧Kj w' (.slice ca cn cc) (r.map GE))
theorem qdm {A:Int} {sg:Option (List (Nat×Nat×Q3))} {W:World} {e:Ending} {w':World} (h:qdk A sg W e w'):qdl A sg W e w':=by
 obtain⟨hb,⟨h,rfl⟩|⟨h,h2,rfl⟩|⟨h,r,v,h2,rfl,hs⟩⟩:=h
 ·exact⟨none,0,0,A,rfl,hb,fun _=>⟨rfl,rfl⟩,fun h'=>absurd h' h,fun h'=>absurd h' h⟩
 ·exact⟨none,0,0,12,rfl,hb,fun h'=>absurd h h',fun _ _=>⟨rfl,rfl⟩,fun _ r e=>by rw[h2]at e;cases e⟩
 ·obtain⟨a,n,c,rfl,hn,hx⟩:=hs
  exact⟨a,n,c,0,rfl,hb,fun h'=>absurd h h',fun _ e=>by rw[h2]at e;(cases e),fun _ r' e=>by
   rw[h2]at e
   cases e
   exact⟨rfl,a,n,c,rfl,hn,hx⟩⟩
theorem qaT (l:List (List (List Q4))) (lv:Value) (W:World) (hl:l.length≤maxLen) (hL:∀s∈l,s.length≤maxLen∧∀c∈s,c.length≤maxLen) (h:SolsV W lv l) (ht:Lib.TabIs Tryz.prog W "internal/strconv.uint64pow10" .u64 Lib.pow10Tab∧TabAt 1 Lib.deBruijn64tab W):
  Calls Tryz.prog 9 #[lv] W (Ret W (.bool true)):=by
 have HA:=YJ (Gv W ht.1 ht.2)
 have HF:=fun W' (hb:Below W.heap.size W W')=>YJ (QD l lv W' hl (fun s hs=>(hL s hs).1) (SolsV.below h hb))
 have HC:=fun(hf:Ow l=true) W' (hb:Below W.heap.size W W')=>YJ (Py l lv W' (qaD (Ol hf).1 (by decide)) (fun s hs=>⟨qaD ((Ol hf).2 s hs).1 (by decide),fun c hc=>qaD (((Ol hf).2 s hs).2 c hc) (by decide)⟩) (SolsV.below h hb))
 have HM:=fun(hf:Ow l=true) v W' (hb:Below W.heap.size W W') (hv:SolsV W' v l)=>YJ ((qcs l v W' (fun s hs c hc=>qaD (((Ol hf).2 s hs).2 c hc) (by decide)) hv (ma ht.2 hb)).mono fun _ _ h=>qdm h)
 have HR:=fun(hf:Ow l=true) W' (hb:Below W.heap.size W W')=>YJ (PP l lv W' (fun s hs c hc=>qaD (((Ol hf).2 s hs).2 c hc) (by decide)) (SolsV.below h hb))
 rw[←QG]at HR
 have HGs:=fun(hf:Ow l=true) (h0:eB l=0) W' (hb:Below W.heap.size W W')=>YJ (Vw l lv W' (qaD (Ol hf).1 (by decide)) (We hf h0) (SolsV.below h hb))
 have HAl:=fun(hf:Ow l=true) W'=>YJ (Yo l.length W' (qaD (Ol hf).1 (by decide)))
 have HHs:=fun(h0:eB l=0) gv pv W' (k1:GsV W' gv (Uh l)) (k2:NatV W' pv (List.range l.length))=>YJ (show Calls Tryz.prog 40 #[gv,pv] W' (Ret W' (.bool (qbU l).isSome))from by
  rw[←qcT h0]
  exact qaO l (qaD (sq h0).1 (by decide)) l.length (List.range l.length) gv pv W' (by simp) (by rw[qdA];exact qaD (sq h0).1 (by decide)) (fun y hy=>by simpa using hy) k1 k2)
 have HCp:=fun(h0:eB l=0) r (e:qbU l=some r) gv pv W' (k1:GsV W' gv (Uh l)) (k2:Kj W' pv (r.map GE))=>YJ (show Calls Tryz.prog 30 #[gv, .int .i64 l.length,pv] W' (Ret W' (.int .i64 0))from by
  have:=qbT l (r.map GE) gv pv W' (qaD (sq h0).1 (by decide)) (by rw[qdo];exact qaD (qcd h0 e).1 (by decide)) (qcd h0 e).2 k1 k2
  rw[qdc h0 e]at this
  exact this)
 have Hrl:=fun(h0:eB l=0) r (e:qbU l=some r)=>YJ (qcd h0 e).1
 have Hlv:Hid (∃a n c,lv= .slice a n c∧l.length=n):=YJ (by obtain⟨a,n,c,rfl,hn,_⟩:=h;exact⟨a,n,c,rfl,hn⟩)
 obtain⟨la,ln,lc,rfl,hln⟩:=Hlv.out
 rw[hln]at HAl HHs HCp
 clear h hl hL ht Hlv hln
 generalize qbU l=sg at*
 generalize Ow l=fl at*
 generalize eB l=ae at*
 go_enter Tryz.func9,Tryz.ntmps9
 go_wp2_with fail
 refine(HA.out).mono ?_
 rintro e w1 ⟨rfl,hb1⟩
 clear HA
 go_wp2_with fail
 refine((HF _ hb1).out).mono ?_
 rintro e w2 ⟨rfl,hb2⟩
 have hw2:=fB hb1 hb2
 clear HF
 cases fl with
 |false=>
  clear HC HM HR HGs HAl HHs HCp Hrl
  go_wp2
  go_ret
  exact⟨ay (by simp),hw2⟩
 |true=>
  have HC2:=YJ (HC (by trivial) w2 hw2).out
  have HM':=fun v W' hb k1=>YJ (HM (by trivial) v W' hb k1).out
  have HR':=fun W' hb=>YJ (HR (by trivial) W' hb).out
  have HGs':=fun h0 W' hb=>YJ (HGs (by trivial) h0 W' hb).out
  have HAl':=fun W'=>YJ (HAl (by trivial) W').out
  clear HC HM HR HGs HAl
  go_wp2_with fail
  refine(HC2.out).mono ?_
  rintro e w3 ⟨v3,rfl,hb3,hv3⟩
  have hw3:=fB hw2 hb3
  have HM3:=YJ (HM' _ w3 hw3 hv3).out
  obtain⟨v3a,v3n,v3c,rfl, -⟩:=hv3
  clear HC2 HM'
  go_wp2_with fail
  refine(HM3.out).mono ?_
  rintro e w4 ⟨ca,cn,cc,ce,rfl,hb4,hx1,hx2,hx3⟩
  have hw4:=fB hw3 hb4
  have Hx1:=YJ hx1
  have Hx2:=YJ hx2
  have Hx3:=YJ hx3
  clear HM3 hx1 hx2 hx3
  go_wp2_with fail
  refine((HR' _ hw4).out).mono ?_
  rintro e w5 ⟨rfl,hb5⟩
  have hw5:=fB hw4 hb5
  clear HR'
  by_cases hae:ae=0
  ·subst hae
   have HG5:=YJ (HGs' (by trivial) w5 hw5).out
   have HHs':=fun gv pv W' k1 k2=>YJ (HHs (by trivial) gv pv W' k1 k2).out
   have HCp':=fun r e gv pv W' k1 k2=>YJ (HCp (by trivial) r e gv pv W' k1 k2).out
   have Hrl':=fun r e=>YJ (Hrl (by trivial) r e).out
   have Hx2':=YJ (Hx2.out (by trivial))
   have Hx3':=YJ (Hx3.out (by trivial))
   clear HGs' HHs HCp Hrl Hx1 Hx2 Hx3
   go_wp2_with fail
   refine(HG5.out).mono ?_
   rintro e w6 ⟨gv,rfl,hb6,hg6⟩
   have hw6:=fB hw5 hb6
   have HG6:=YJ hg6.gs
   obtain⟨ga,gn,gc,rfl⟩:∃a n c,gv= .slice a n c:=by obtain⟨vs,h,_⟩:=hg6;obtain⟨a,c,h⟩:=aT h;exact⟨_,_,_,h⟩
   clear HG5 hg6
   go_wp2_with fail
   refine((HAl' _).out).mono ?_
   rintro e w7 ⟨av,rfl,hb7,ho7⟩
   have hw7:=fB hw6 hb7
   have HG7:=YJ (GsV.below HG6.out hb7)
   have HH7:=YJ (HHs' _ av w7 HG7.out (jy ho7)).out
   obtain⟨ava,avc,rfl⟩:=aT ho7
   clear HAl' HHs' HG6 ho7
   go_wp2_with fail
   refine(HH7.out).mono ?_
   rintro e w8 ⟨rfl,hb8⟩
   have hw8:=fB hw7 hb8
   clear HH7
   cases sg with
   |none=>
    obtain⟨rfl,rfl⟩:=Hx2'.out (by trivial)
    clear HCp' Hrl' Hx2' Hx3' HG7
    simp only[Option.isSome_none]
    go_wp2
    go_ret
    exact⟨ay (by simp),hw8⟩
   |some r=>
    obtain⟨rfl,hsp⟩:=Hx3'.out r (by trivial)
    have hrl:=(Hrl' r (by trivial)).out
    have hb48:=fB hb5 (fB hb6 (fB hb7 hb8))
    have HS8:=YJ (qbN hsp hb48)
    have HC8:=YJ (HCp' r (by trivial) _ _ w8 (GsV.below HG7.out hb8) HS8.out).out
    clear HCp' Hrl' Hx2' Hx3' HG7 hsp
    simp only[Option.isSome_some]
    go_wp2_with fail
    refine(HC8.out).mono ?_
    rintro e w9 ⟨rfl,hb9⟩
    have hw9:=fB hw8 hb9
    have HS9:=YJ (qbN HS8.out hb9)
    obtain⟨_,_,_,e0,hn0, -,hx0⟩:=HS9.out
    injection e0 with e1 e2 e3
    subst e1
    have HX:=YJ hx0
    rw[qdo]at hn0
    have HN:=YJ hn0
    rw[←e2]at HX HN
    have hcn:cn≤12:=by omega
    clear HC8 HS8 HS9 hx0 hn0 e2 e3
    go_wp2
    go_loopw [7] (fun x wr=>∃i:Nat,i≤cn∧x= .int .i64 i∧Below w9.heap.size w9 wr) (fun x _=>cn-(intOf x).toNat)
    case atStart=>exact⟨0,by omega,rfl,brf⟩
    case round=>
     obtain⟨i,hi,rfl,hb⟩:=hrel
     by_cases hlt:i<cn
     ·have g1:(i:Int)<(cn:Int):=by omega
      have g2:(0:Int)≤(i:Int):=by omega
      have hil:i<(r.map GE).length:=by rw[qdo,HN.out];exact hlt
      obtain⟨b,off,rfl,hx⟩:=HX.out (by omega)
      have hsi:SplA w9 b (off+i*5) (r.map GE)[i]:=hx i hil
      obtain⟨pgv,pov,c0,c1, -, -, -, -,j2⟩:=hsi.below hb
      have hone:((r.map GE)[i]).2.1.length=1:=by rw[qdB];rfl
      obtain⟨a2,n2,d2,rfl⟩:=Ints.sl j2
      have hn2:=qbA j2
      have hn3:n2=1:=by omega
      subst hn3
      have z0:=qaC wr _ c0
      simp only at z0
      clear HX HN hx hsi j2 hone hn2 c0
      go_wp2
      go_roundw
      case rel=>exact⟨i+1,by omega,by go_num,hb⟩
      case measure=>simp[intOf];try omega
     ·have hwr:=fB hw9 hb
      obtain rfl:i=cn:=by omega
      clear HX HN
      go_wp2
      go_ret
      exact⟨ay (by simp),hwr⟩
  ·have hae':(ae !=0)=true:=by simpa using hae
   obtain⟨rfl,rfl⟩:=Hx1.out hae
   clear HGs' HHs HCp Hrl HAl' Hx1 Hx2 Hx3
   go_wp2
   go_ret
   exact⟨ay (by simp),hw5⟩
end
end Go.Proofs.YtnpmkepfpekhfaaGreatDoor
