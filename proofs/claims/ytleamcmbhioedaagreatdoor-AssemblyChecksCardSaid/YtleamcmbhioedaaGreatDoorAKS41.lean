/- texts: AC6 AC7. -/
import Derived.Test.YtleamcmbhioedaaGreatDoorAKS40
namespace Go.Proofs.YtleamcmbhioedaaGreatDoor
set_option maxHeartbeats 8000000
set_option linter.unusedSimpArgs false
set_option linter.unusedVariables false
section
open Go.RowKit Go.Shelf
attribute [local go_sem] Ext.cell Ext.frozen
def NX (n:Nat):Bool:=decide (n≤8) || (decide (16<n)&&decide (n≤20))
set_option maxRecDepth 100000 in
theorem QC (a:Option Addr) (n c:Nat) (W:World):Calls Tryz.prog 28 #[.agg #[.slice a n c]] W (Ret W (.bool (NX n))):=by
 obtain⟨r,HR⟩:∃r,Hid (NX n=r):=⟨_,Lib.hid rfl⟩
 rw[HR.out]
 by_cases h8:n≤8
 ·have g1:(n:Int)≤8:=by omega
  obtain rfl:r=true:=by rw[←HR.out];unfold NX;rw[decide_eq_true h8];rfl
  clear HR
  go_enter Tryz.func28,Tryz.ntmps28
  go_wp2
  go_ret
  exact⟨ay (by simp),bel⟩
 ·have g1:¬(n:Int)≤8:=by omega
  by_cases h16:16<n
  ·have g2:(16:Int)<(n:Int):=by omega
   by_cases h20:n≤20
   ·have g3:(n:Int)≤20:=by omega
    obtain rfl:r=true:=by rw[←HR.out];unfold NX;rw[decide_eq_true h16,decide_eq_true h20];simp
    clear HR
    go_enter Tryz.func28,Tryz.ntmps28
    go_wp2
    go_ret
    exact⟨ay (by simp),bel⟩
   ·have g3:¬(n:Int)≤20:=by omega
    obtain rfl:r=false:=by rw[←HR.out];unfold NX;rw[decide_eq_false h8,decide_eq_false h20];simp
    clear HR
    go_enter Tryz.func28,Tryz.ntmps28
    go_wp2
    go_ret
    exact⟨ay (by simp),bel⟩
  ·have g2:¬(16:Int)<(n:Int):=by omega
   obtain rfl:r=false:=by rw[←HR.out];unfold NX;rw[decide_eq_false h8,decide_eq_false h16];simp
   clear HR
   go_enter Tryz.func28,Tryz.ntmps28
   go_wp2
   go_ret
   exact⟨ay (by simp),bel⟩
def Qh (m n:Nat):Bool:=decide (n≤m) || (decide (100<n)&&decide (n≤105))
def Oa (m:Nat) (css:List (List Q4)):Bool:=Qh m css.length&&css.all fun c=>NX c.length
set_option maxRecDepth 100000 in
theorem PQ (m:Nat) (css:List (List Q4)) (sv:Value) (W:World) (hm:m≤100) (hl:css.length≤maxLen) (h:SolV W sv css):
  Calls Tryz.prog 11 #[.agg #[sv], .int .i64 m] W (Ret W (.bool (Oa m css))):=by
 obtain⟨sa,n,sc,rfl,hn, -,hx⟩:=h
 have HX:=Lib.hid hx
 have HN:=Lib.hid hn
 have HSl:=fun a n c W'=>Lib.hid (QC a n c W')
 have hn':n≤maxLen:=by omega
 have Hc0:Hid (Qh m n=false→Oa m css=false):=Lib.hid (fun h=>by unfold Oa;rw[hn,h];rfl)
 have Hhit:Hid (∀i (hi:i<css.length),NX css[i].length=false→Oa m css=false):=Lib.hid (fun i hi h=>by
  unfold Oa
  rw[Bool.and_eq_false_iff]
  refine .inr ?_
  rw[List.all_eq_false]
  exact⟨css[i],List.getElem_mem hi,by simpa using h⟩)
 have Hall:Hid (Qh m n=true→(∀i (hi:i<css.length),NX css[i].length=true)→Oa m css=true):=Lib.hid (fun h h2=>by
  unfold Oa
  rw[hn,h,Bool.true_and,List.all_eq_true]
  intro c hc
  obtain⟨i,hi,rfl⟩:=List.getElem_of_mem hc
  exact h2 i hi)
 obtain⟨V,HV⟩:∃V,Hid (W.alloc (.cells #[.slice sa n sc] 31)=V):=⟨_,Lib.hid rfl⟩
 have hV:Below W.heap.size W V:=by rw[←HV.out];exact bel
 have HA:Hid (V.heap[W.heap.size]? =some (.cells #[.slice sa n sc] 31 (0,0))):=Lib.hid (by rw[←HV.out];exact ai rfl)
 have v0:V.cell? ⟨W.heap.size,0,none⟩=some (.slice sa n sc):=(ag HA.out 0).trans rfl
 have vz:=ah HA.out
 clear hx hn hl
 generalize Oa m css=res at*
 have key:∀g:Bool,Qh m n=g→Hid ((g=true→(n≤m∨100<n∧n≤105))∧(g=false→(m<n∧n≤100)∨105<n)):=fun g hg=>Lib.hid (by
  unfold Qh at hg
  subst hg
  refine⟨fun h=> ?_,fun h=> ?_⟩
  ·simp only[Bool.or_eq_true,Bool.and_eq_true,decide_eq_true_eq]at h;omega
  ·simp only[Bool.or_eq_false_iff,Bool.and_eq_false_iff,decide_eq_false_iff_not]at h;omega)
 obtain⟨g,hg⟩:∃g,Qh m n=g:=⟨_,rfl⟩
 have Hk:=key g hg
 rw[hg]at Hc0 Hall
 clear key hg
 cases g with
 |false=>
  have hr:=Hc0.out (by first|rfl|trivial)
  rcases Hk.out.2 (by first|rfl|trivial)with⟨k1,k2⟩|k1
  ·have g1:(m:Int)<(n:Int):=by omega
   have g2:(n:Int)≤100:=by omega
   clear Hc0 Hhit Hall Hk HX HSl
   go_enter Tryz.func11,Tryz.ntmps11
   go_wp2
   go_ret
   exact⟨by first|(rw[hr];rfl)|rfl,by rw[HV.out];exact hV⟩
  ·have g1:(m:Int)<(n:Int):=by omega
   have g2:¬(n:Int)≤100:=by omega
   have g3:(105:Int)<(n:Int):=by omega
   clear Hc0 Hhit Hall Hk HX HSl
   go_enter Tryz.func11,Tryz.ntmps11
   go_wp2
   go_ret
   exact⟨by first|(rw[hr];rfl)|rfl,by rw[HV.out];exact hV⟩
 |true=>
  have hk:=Hk.out.1 (by first|rfl|trivial)
  have g3:¬(105:Int)<(n:Int):=by omega
  have hn105:n≤105:=by omega
  by_cases hmn:n≤m
  ·have g4:¬(m:Int)<(n:Int):=by omega
   clear Hc0 Hk hk
   go_enter Tryz.func11,Tryz.ntmps11
   go_wp2
   try rw[HV.out]
   clear HV
   go_loopw [5] (fun x wr=>∃k:Nat,k≤n∧x= .int .i64 k∧Below V.heap.size V wr∧Hid (∀i (hi:i<css.length),i<k→NX css[i].length=true)) (fun x _=>n-(intOf x).toNat)
   case atStart=>exact⟨0,by omega,rfl,Below.refl _ _,Lib.hid (fun i _ h=>by omega)⟩
   case round=>
    obtain⟨k,hk,rfl,hb,Hd⟩:=hrel
    have r0:=ab hb v0
    have rz:=Nat.lt_of_lt_of_le vz hb.size
    by_cases hlt:k<n
    ·have g1:(k:Int)<(n:Int):=by omega
     have g2:(0:Int)≤(k:Int):=by omega
     have hil:k<css.length:=by have:=HN.out;omega
     obtain⟨b,off,rfl,hi4⟩:=HX.out (by omega)
     obtain⟨pv,e0,hs⟩:=hi4 k hil
     have e0:=ab (fB hV hb) e0
     have ze:=World.block_lt_of_cell? wr _ e0
     simp only at ze
     obtain⟨pa,pn,pc,rfl,hpn, -⟩:=hs
     have HS:=fun W'=>Lib.hid (HSl pa pn pc W').out
     have Hh:=Lib.hid (Hhit.out k hil)
     have Hst:Hid (NX css[k].length=true→∀i (hi:i<css.length),i<k+1→NX css[i].length=true):=Lib.hid (fun h i hi hik=>by
      by_cases e:i=k
      ·subst e;exact h
      ·exact Hd.out i hi (by omega))
     rw[hpn]at Hh Hst
     clear hpn hi4 HX Hhit Hall Hd HSl v0 vz
     generalize NX pn=sl at*
     go_wp2_with fail
     refine((HS _).out).mono ?_
     rintro e w2 ⟨rfl,hb2⟩
     cases sl with
     |true=>
      have HF:=Lib.hid (Hst.out rfl)
      clear HS Hh Hst
      go_wp2
      go_roundw
      case rel=>exact⟨k+1,by omega,by go_num,fB hb hb2,HF⟩
      case measure=>first|(simp[intOf];done)|(simp[intOf];omega)
     |false=>
      have hr:=Hh.out rfl
      have hw:=fB (fB hV hb) hb2
      clear HS Hh Hst
      go_wp2
      go_ret
      exact⟨by first|(rw[hr];rfl)|rfl,hw⟩
    ·obtain rfl:n=k:=by omega
     have hr:=Hall.out (by first|rfl|trivial) (fun i hi=>Hd.out i hi (by have:=HN.out;omega))
     have hw:=fB hV hb
     clear HX Hhit Hall Hd HSl
     go_wp2
     go_ret
     exact⟨by first|(rw[hr];rfl)|rfl,hw⟩
  ·have g4:(m:Int)<(n:Int):=by omega
   have g5:¬(n:Int)≤100:=by omega
   clear Hc0 Hk hk
   go_enter Tryz.func11,Tryz.ntmps11
   go_wp2
   try rw[HV.out]
   clear HV
   go_loopw [5] (fun x wr=>∃k:Nat,k≤n∧x= .int .i64 k∧Below V.heap.size V wr∧Hid (∀i (hi:i<css.length),i<k→NX css[i].length=true)) (fun x _=>n-(intOf x).toNat)
   case atStart=>exact⟨0,by omega,rfl,Below.refl _ _,Lib.hid (fun i _ h=>by omega)⟩
   case round=>
    obtain⟨k,hk,rfl,hb,Hd⟩:=hrel
    have r0:=ab hb v0
    have rz:=Nat.lt_of_lt_of_le vz hb.size
    by_cases hlt:k<n
    ·have g1:(k:Int)<(n:Int):=by omega
     have g2:(0:Int)≤(k:Int):=by omega
     have hil:k<css.length:=by have:=HN.out;omega
     obtain⟨b,off,rfl,hi4⟩:=HX.out (by omega)
     obtain⟨pv,e0,hs⟩:=hi4 k hil
     have e0:=ab (fB hV hb) e0
     have ze:=World.block_lt_of_cell? wr _ e0
     simp only at ze
     obtain⟨pa,pn,pc,rfl,hpn, -⟩:=hs
     have HS:=fun W'=>Lib.hid (HSl pa pn pc W').out
     have Hh:=Lib.hid (Hhit.out k hil)
     have Hst:Hid (NX css[k].length=true→∀i (hi:i<css.length),i<k+1→NX css[i].length=true):=Lib.hid (fun h i hi hik=>by
      by_cases e:i=k
      ·subst e;exact h
      ·exact Hd.out i hi (by omega))
     rw[hpn]at Hh Hst
     clear hpn hi4 HX Hhit Hall Hd HSl v0 vz
     generalize NX pn=sl at*
     go_wp2_with fail
     refine((HS _).out).mono ?_
     rintro e w2 ⟨rfl,hb2⟩
     cases sl with
     |true=>
      have HF:=Lib.hid (Hst.out rfl)
      clear HS Hh Hst
      go_wp2
      go_roundw
      case rel=>exact⟨k+1,by omega,by go_num,fB hb hb2,HF⟩
      case measure=>first|(simp[intOf];done)|(simp[intOf];omega)
     |false=>
      have hr:=Hh.out rfl
      have hw:=fB (fB hV hb) hb2
      clear HS Hh Hst
      go_wp2
      go_ret
      exact⟨by first|(rw[hr];rfl)|rfl,hw⟩
    ·obtain rfl:n=k:=by omega
     have hr:=Hall.out (by first|rfl|trivial) (fun i hi=>Hd.out i hi (by have:=HN.out;omega))
     have hw:=fB hV hb
     clear HX Hhit Hall Hd HSl
     go_wp2
     go_ret
     exact⟨by first|(rw[hr];rfl)|rfl,hw⟩
def Qi (n:Nat):Bool:=decide (n≤4) || (decide (12<n)&&decide (n≤15))
def Ow (l:List (List (List Q4))):Bool:=Qi l.length&&l.all fun s=>Oa 2 s
set_option maxRecDepth 100000 in
theorem QD (l:List (List (List Q4))) (lv:Value) (W:World) (hl:l.length≤maxLen) (hL:∀s∈l,s.length≤maxLen) (h:SolsV W lv l):
  Calls Tryz.prog 7 #[lv] W (Ret W (.bool (Ow l))):=by
 obtain⟨la,n,lc,rfl,hn, -,hx⟩:=h
 have HX:=Lib.hid hx
 have HN:=Lib.hid hn
 have HLn:=fun i (h:i<l.length)=>Lib.hid (hL _ (List.getElem_mem h))
 have hn':n≤maxLen:=by omega
 have Hc0:Hid (Qi n=false→Ow l=false):=Lib.hid (fun h=>by unfold Ow;rw[hn,h];rfl)
 have Hhit:Hid (∀i (hi:i<l.length),Oa 2 l[i]=false→Ow l=false):=Lib.hid (fun i hi h=>by
  unfold Ow
  rw[Bool.and_eq_false_iff]
  refine .inr ?_
  rw[List.all_eq_false]
  exact⟨l[i],List.getElem_mem hi,by simpa using h⟩)
 have Hall:Hid (Qi n=true→(∀i (hi:i<l.length),Oa 2 l[i]=true)→Ow l=true):=Lib.hid (fun h h2=>by
  unfold Ow
  rw[hn,h,Bool.true_and,List.all_eq_true]
  intro c hc
  obtain⟨i,hi,rfl⟩:=List.getElem_of_mem hc
  exact h2 i hi)
 clear hx hn hl hL
 generalize Ow l=res at*
 have key:∀g:Bool,Qi n=g→Hid ((g=true→(n≤4∨12<n∧n≤15))∧(g=false→(4<n∧n≤12)∨15<n)):=fun g hg=>Lib.hid (by
  unfold Qi at hg
  subst hg
  refine⟨fun h=> ?_,fun h=> ?_⟩
  ·simp only[Bool.or_eq_true,Bool.and_eq_true,decide_eq_true_eq]at h;omega
  ·simp only[Bool.or_eq_false_iff,Bool.and_eq_false_iff,decide_eq_false_iff_not]at h;omega)
 obtain⟨g,hg⟩:∃g,Qi n=g:=⟨_,rfl⟩
 have Hk:=key g hg
 rw[hg]at Hc0 Hall
 clear key hg
 cases g with
 |false=>
  have hr:=Hc0.out (by first|rfl|trivial)
  rcases Hk.out.2 (by first|rfl|trivial)with⟨k1,k2⟩|k1
  ·have g1:(4:Int)<(n:Int):=by omega
   have g2:(n:Int)≤12:=by omega
   clear Hc0 Hhit Hall Hk HX HLn
   go_enter Tryz.func7,Tryz.ntmps7
   go_wp2
   go_ret
   exact⟨by first|(rw[hr];rfl)|rfl,Below.refl _ _⟩
  ·have g1:(4:Int)<(n:Int):=by omega
   have g2:¬(n:Int)≤12:=by omega
   have g3:(15:Int)<(n:Int):=by omega
   clear Hc0 Hhit Hall Hk HX HLn
   go_enter Tryz.func7,Tryz.ntmps7
   go_wp2
   go_ret
   exact⟨by first|(rw[hr];rfl)|rfl,Below.refl _ _⟩
 |true=>
  have hk:=Hk.out.1 (by first|rfl|trivial)
  have g3:¬(15:Int)<(n:Int):=by omega
  have hn105:n≤15:=by omega
  by_cases hmn:n≤4
  ·have g4:¬(4:Int)<(n:Int):=by omega
   clear Hc0 Hk hk
   go_enter Tryz.func7,Tryz.ntmps7
   go_wp2
   go_loopw [3] (fun x wr=>∃k:Nat,k≤n∧x= .int .i64 k∧Below W.heap.size W wr∧Hid (∀i (hi:i<l.length),i<k→Oa 2 l[i]=true)) (fun x _=>n-(intOf x).toNat)
   case atStart=>exact⟨0,by omega,rfl,Below.refl _ _,Lib.hid (fun i _ h=>by omega)⟩
   case round=>
    obtain⟨k,hk,rfl,hb,Hd⟩:=hrel
    by_cases hlt:k<n
    ·have g1:(k:Int)<(n:Int):=by omega
     have g2:(0:Int)≤(k:Int):=by omega
     have hil:k<l.length:=by have:=HN.out;omega
     obtain⟨b,off,rfl,hi4⟩:=HX.out (by omega)
     obtain⟨sv,e0,hs⟩:=hi4 k hil
     have e0:=ab hb e0
     have ze:=World.block_lt_of_cell? wr _ e0
     simp only at ze
     have HS:Hid (Calls Tryz.prog 11 #[.agg #[sv], .int .i64 2] wr (Ret wr (.bool (Oa 2 l[k])))):=Lib.hid (PQ 2 l[k] sv wr (by decide) (HLn k hil).out (hs.below hb))
     have Hh:=Lib.hid (Hhit.out k hil)
     have Hst:Hid (Oa 2 l[k]=true→∀i (hi:i<l.length),i<k+1→Oa 2 l[i]=true):=Lib.hid (fun h i hi hik=>by
      by_cases e:i=k
      ·subst e;exact h
      ·exact Hd.out i hi (by omega))
     obtain⟨sa,sn,sc,rfl, -⟩:=hs
     clear hi4 HX Hhit Hall Hd HLn
     generalize Oa 2 l[k]=sl at*
     go_wp2_with fail
     refine(HS.out).mono ?_
     rintro e w2 ⟨rfl,hb2⟩
     cases sl with
     |true=>
      have HF:=Lib.hid (Hst.out rfl)
      clear HS Hh Hst
      go_wp2
      go_roundw
      case rel=>exact⟨k+1,by omega,by go_num,fB hb hb2,HF⟩
      case measure=>first|(simp[intOf];done)|(simp[intOf];omega)
     |false=>
      have hr:=Hh.out rfl
      have hw:=fB hb hb2
      clear HS Hh Hst
      go_wp2
      go_ret
      exact⟨by first|(rw[hr];rfl)|rfl,hw⟩
    ·obtain rfl:n=k:=by omega
     have hr:=Hall.out (by first|rfl|trivial) (fun i hi=>Hd.out i hi (by have:=HN.out;omega))
     clear HX Hhit Hall Hd HLn
     go_wp2
     go_ret
     exact⟨by first|(rw[hr];rfl)|rfl,hb⟩
  ·have g4:(4:Int)<(n:Int):=by omega
   have g5:¬(n:Int)≤12:=by omega
   clear Hc0 Hk hk
   go_enter Tryz.func7,Tryz.ntmps7
   go_wp2
   go_loopw [3] (fun x wr=>∃k:Nat,k≤n∧x= .int .i64 k∧Below W.heap.size W wr∧Hid (∀i (hi:i<l.length),i<k→Oa 2 l[i]=true)) (fun x _=>n-(intOf x).toNat)
   case atStart=>exact⟨0,by omega,rfl,Below.refl _ _,Lib.hid (fun i _ h=>by omega)⟩
   case round=>
    obtain⟨k,hk,rfl,hb,Hd⟩:=hrel
    by_cases hlt:k<n
    ·have g1:(k:Int)<(n:Int):=by omega
     have g2:(0:Int)≤(k:Int):=by omega
     have hil:k<l.length:=by have:=HN.out;omega
     obtain⟨b,off,rfl,hi4⟩:=HX.out (by omega)
     obtain⟨sv,e0,hs⟩:=hi4 k hil
     have e0:=ab hb e0
     have ze:=World.block_lt_of_cell? wr _ e0
     simp only at ze
     have HS:Hid (Calls Tryz.prog 11 #[.agg #[sv], .int .i64 2] wr (Ret wr (.bool (Oa 2 l[k])))):=Lib.hid (PQ 2 l[k] sv wr (by decide) (HLn k hil).out (hs.below hb))
     have Hh:=Lib.hid (Hhit.out k hil)
     have Hst:Hid (Oa 2 l[k]=true→∀i (hi:i<l.length),i<k+1→Oa 2 l[i]=true):=Lib.hid (fun h i hi hik=>by
      by_cases e:i=k
      ·subst e;exact h
      ·exact Hd.out i hi (by omega))
     obtain⟨sa,sn,sc,rfl, -⟩:=hs
     clear hi4 HX Hhit Hall Hd HLn
     generalize Oa 2 l[k]=sl at*
     go_wp2_with fail
     refine(HS.out).mono ?_
     rintro e w2 ⟨rfl,hb2⟩
     cases sl with
     |true=>
      have HF:=Lib.hid (Hst.out rfl)
      clear HS Hh Hst
      go_wp2
      go_roundw
      case rel=>exact⟨k+1,by omega,by go_num,fB hb hb2,HF⟩
      case measure=>first|(simp[intOf];done)|(simp[intOf];omega)
     |false=>
      have hr:=Hh.out rfl
      have hw:=fB hb hb2
      clear HS Hh Hst
      go_wp2
      go_ret
      exact⟨by first|(rw[hr];rfl)|rfl,hw⟩
    ·obtain rfl:n=k:=by omega
     have hr:=Hall.out (by first|rfl|trivial) (fun i hi=>Hd.out i hi (by have:=HN.out;omega))
     clear HX Hhit Hall Hd HLn
     go_wp2
     go_ret
     exact⟨by first|(rw[hr];rfl)|rfl,hb⟩
end
end Go.Proofs.YtleamcmbhioedaaGreatDoor
