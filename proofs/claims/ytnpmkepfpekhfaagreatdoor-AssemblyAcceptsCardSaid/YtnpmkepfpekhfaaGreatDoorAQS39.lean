/- texts: O17. -/
import Derived.Test.YtnpmkepfpekhfaaGreatDoorAQS38
namespace Go.Proofs.YtnpmkepfpekhfaaGreatDoor
set_option maxHeartbeats 8000000
set_option linter.all false
section
open Go.RowKit
def qfp (K:Nat→Bool) (g o x:Nat):Bool:=if x=dN g o then true else if x=o then true else if x=g then false else K x
def cpA (l:List (List (List Q4))):(Nat→Bool)→List Spl→Int
 |_,[]=>0
 |K,s::p=>if gh s.1 l.length≠0 then gh s.1 l.length else if gh s.2.1 l.length≠0 then gh s.2.1 l.length else if mK s.2.2≠0 then mK s.2.2 else
  if K (nr s.1)=false then 27 else
  if nr s.2.1=0∨dN (nr s.2.1) (nr s.1)≠0∨nr s.2.1=nr s.1 then 3 else
  if XM (eM (psB l) s.2.2) (nr s.1) (nr s.2.1)=false then 18 else
  cpA l (qfp K (nr s.1) (nr s.2.1)) p
structure RelK (N:Nat) (K:Nat→Bool) (Ss:List Nat):Prop where
 lt:∀x∈Ss,x<2 ^ N
 ne:∀x∈Ss,x≠0
 dj:∀i j (hi:i<Ss.length) (hj:j<Ss.length),i≠j→∀k,¬(Ss[i].testBit k=true∧Ss[j].testBit k=true)
 mem:∀x,K x=true↔x∈Ss
def gl (x:Nat):List Int:=nI (lf x)
theorem RelK.next {N:Nat} {K:Nat→Bool} {Ss:List Nat} (h:RelK N K Ss) {i O:Nat} (hi:i<Ss.length) (hO0:O≠0) (hOG:dN O Ss[i]=0) (hne:O≠Ss[i]):RelK N (qfp K Ss[i] O) (Ss.set i O++[dN Ss[i] O]):=by
 have hO:∀k,O.testBit k=true→Ss[i].testBit k=true:=fun k hk=>by
  have:=congrArg (fun x=>x.testBit k) hOG
  simp only[Gh,hk,Nat.zero_testBit,Bool.true_and,Bool.not_eq_false']at this
  exact this
 have hR:∀k,(dN Ss[i] O).testBit k=true→Ss[i].testBit k=true∧O.testBit k=false:=fun k hk=>by
  rw[Gh,qaF]at hk
  exact⟨hk.1,by simpa using hk.2⟩
 have hlt:∀x,(∀k,x.testBit k=true→Ss[i].testBit k=true)→x<2 ^ N:=fun x hx=>
  Nat.lt_of_le_of_lt (Nat.le_of_testBit fun k hk=>hx k hk) (h.lt _ (qaB hi))
 have hR0:dN Ss[i] O≠0:=fun e=>hne (by
  apply qgp
  intro k
  have:=congrArg (fun x=>x.testBit k) e
  simp only[Gh,Nat.zero_testBit,Bool.and_eq_false_iff,Bool.not_eq_false']at this
  cases hg:Ss[i].testBit k with
  |true=>
   rcases this with e1|e1
   ·rw[hg]at e1;cases e1
   ·exact e1
  |false=>
   cases ho:O.testBit k with
   |false=>rfl
   |true=>rw[hO k ho]at hg;cases hg)
 have hmem:∀x,x∈Ss.set i O++[dN Ss[i] O]↔x=dN Ss[i] O∨x=O∨(x∈Ss∧x≠Ss[i]):=fun x=>by
  rw[altl,ultg]
  constructor
  ·rintro(hx|hx)
   ·obtain⟨j,hj,e⟩:=qaJ hx
    rw[List.getElem_set]at e
    have hj':j<Ss.length:=by simpa using hj
    split at e
    ·exact .inr (.inl e.symm)
    ·rename_i hij
     refine .inr (.inr ⟨e▸qaB hj',fun he=> ?_⟩)
     obtain⟨k,hk⟩:=Nat.exists_testBit_of_ne_zero (h.ne _ (qaB hi))
     exact h.dj i j hi hj' hij k ⟨hk,by rw[e,he];exact hk⟩
   ·exact .inl hx
  ·rintro(hx|hx|⟨hx,hxn⟩)
   ·exact .inr hx
   ·exact .inl (by rw[hx];exact List.mem_set hi O)
   ·obtain⟨j,hj,e⟩:=qaJ hx
    have hij:i≠j:=fun he=>hxn (by subst he;exact e.symm)
    refine .inl ?_
    have:(Ss.set i O)[j]'(by simpa using hj)=x:=by rw[List.getElem_set,if_neg hij];exact e
    rw[←this]
    exact qaB _
 refine⟨fun x hx=> ?_,fun x hx=> ?_, ?_,fun x=> ?_⟩
 ·rcases(hmem x).1 hx with rfl|rfl|⟨hx,_⟩
  ·exact hlt _ fun k hk=>(hR k hk).1
  ·exact hlt _ hO
  ·exact h.lt x hx
 ·rcases(hmem x).1 hx with rfl|rfl|⟨hx,_⟩
  ·exact hR0
  ·exact hO0
  ·exact h.ne x hx
 ·intro a b ha hb hab k hk
  obtain⟨h1,h2⟩:=hk
  rw[List.getElem_append]at h1 h2
  have la:a<Ss.length+1:=by simpa using ha
  have lb:b<Ss.length+1:=by simpa using hb
  by_cases ca:a<Ss.length
  ·rw[dif_pos (by simpa using ca),List.getElem_set]at h1
   by_cases cb:b<Ss.length
   ·rw[dif_pos (by simpa using cb),List.getElem_set]at h2
    by_cases ea:i=a
    ·rw[if_pos ea]at h1
     rw[if_neg (by omega)]at h2
     exact h.dj i b hi cb (by omega) k ⟨hO k h1,h2⟩
    ·rw[if_neg ea]at h1
     by_cases eb:i=b
     ·rw[if_pos eb]at h2
      exact h.dj i a hi ca ea k ⟨hO k h2,h1⟩
     ·rw[if_neg eb]at h2
      exact h.dj a b ca cb hab k ⟨h1,h2⟩
   ·rw[dif_neg (by simpa using cb)]at h2
    simp only[List.getElem_singleton]at h2
    by_cases ea:i=a
    ·rw[if_pos ea]at h1
     rw[(hR k h2).2]at h1
     cases h1
    ·rw[if_neg ea]at h1
     exact h.dj i a hi ca ea k ⟨(hR k h2).1,h1⟩
  ·rw[dif_neg (by simpa using ca)]at h1
   simp only[List.getElem_singleton]at h1
   have cb:b<Ss.length:=by omega
   rw[dif_pos (by simpa using cb),List.getElem_set]at h2
   by_cases eb:i=b
   ·rw[if_pos eb]at h2
    rw[(hR k h1).2]at h2
    cases h2
   ·rw[if_neg eb]at h2
    exact h.dj i b hi cb eb k ⟨(hR k h1).1,h2⟩
 ·rw[hmem]
  unfold qfp
  by_cases e1:x=dN Ss[i] O
  ·simp[e1]
  ·rw[if_neg e1]
   by_cases e2:x=O
   ·simp[e2]
   ·rw[if_neg e2]
    by_cases e3:x=Ss[i]
    ·rw[if_pos e3]
     simp[e1,e2,e3]
     exact⟨fun e=>e1 (e3.trans e),fun e=>e2 (e3.trans e)⟩
    ·rw[if_neg e3,h.mem]
     simp[e1,e2,e3]
theorem qeO (gs:List (List Int)) (g:List Int):∀k,k≤gs.length→(atF gs g k<0→∀j (h:j<gs.length),j<k→gs[j]≠g)∧(0≤atF gs g k→∃h:(atF gs g k).toNat<gs.length,gs[(atF gs g k).toNat]=g)
 |0,_=>⟨fun _ j _ h=>by omega,fun h=>by have:atF gs g 0= -1:=rfl;omega⟩
 |k+1,hk=>by
  have ih:=qeO gs g k (by omega)
  have e:gs.getD k []=gs[k]'(by omega):=by simp[List.getD,(by omega:k<gs.length)]
  rw[qbR,e]
  by_cases h:gs[k]'(by omega)=g
  ·rw[if_pos h]
   exact⟨fun h=>by omega,fun _=>⟨by rw[Int.toNat_natCast];omega,by simpa using h⟩⟩
  ·rw[if_neg h]
   refine⟨fun h2 j hj hjk=> ?_,ih.2⟩
   by_cases e:j=k
   ·subst e;exact h
   ·exact ih.1 h2 j hj (by omega)
theorem qfJ {a b:Nat} (ha:a<4096) (hb:b<4096) (h:gl a=gl b):a=b:=VT ha hb (qeW h)
theorem qfe {xs:List Int} {n:Nat} (h:gh xs n=0) (hn:n≤12):gl (nr xs)=xs:=by
 unfold gl
 rw[Uf h (by omega),Ve (fun x hx=>(DO h x hx).1)]
theorem qeI {g o:Nat} (hg:g<4096) (ho:o<4096):Ug (gl g) (gl o)=gl (dN g o):=by
 unfold Ug gl
 rw[VV]
 congr 1
 rw[TS _ (Yc hg),TS _ hg,List.filter_filter]
 refine List.filter_congr fun k _=> ?_
 rw[Gh,Bool.and_comm]
 congr 1
 rw[Bool.eq_iff_iff]
 have:= @Tz o k ho
 cases hb:o.testBit k<;>simp_all
theorem qff (A B:List Nat):(A.filter fun y=> !B.contains y).length+(A.filter fun y=>B.contains y).length=A.length:=by
 induction A with
 |nil=>rfl
 |cons a A ih=>
  rw[qgg,qgg]
  cases hb:B.contains a<;>simp at ih ⊢ <;>simp_all<;>omega
theorem qfq {g o:Nat} (hg:g<4096) (ho:o<4096):((lf g).filter fun y=>(lf o).contains y).length=((lf o).filter fun y=>(lf g).contains y).length:=by
 congr 1
 rw[TS _ hg,TS _ ho,List.filter_filter,List.filter_filter]
 refine List.filter_congr fun k hk=> ?_
 have h12:k<12:=ultv.1 hk
 rw[Bool.eq_iff_iff]
 simp[h12]
 exact⟨fun h=>⟨h.2,h.1⟩,fun h=>⟨h.2,h.1⟩⟩
theorem dN_zero {a b:Nat}:dN a b=0↔∀k,a.testBit k=true→b.testBit k=true:=by
 constructor
 ·intro h k hk
  have:=congrArg (fun x=>x.testBit k) h
  simp only[Gh,hk,Nat.zero_testBit,Bool.true_and,Bool.not_eq_false']at this
  exact this
 ·intro h
  apply qgp
  intro k
  rw[Gh,Nat.zero_testBit]
  cases ha:a.testBit k with
  |false=>rfl
  |true=>rw[h k ha];rfl
theorem qfA {g o:Nat} (hg:g<4096) (ho:o<4096):(o=0∨dN o g≠0∨o=g)↔((gl o).length=0∨(Ug (gl g) (gl o)).length=0∨(Ug (gl g) (gl o)).length+(gl o).length≠(gl g).length):=by
 rw[qeI hg ho]
 unfold gl
 rw[TO,TO,TO,alto,alto,Yj ho,Yj (Yc hg)]
 have e1:lf (dN g o)=(lf g).filter fun y=> !(lf o).contains y:=by
  have:=qeI hg ho
  unfold Ug gl at this
  rw[VV]at this
  exact(qeW this).symm
 have s1:=qff (lf g) (lf o)
 have s2:=qfq hg ho
 have s3:=qff (lf o) (lf g)
 have e2:lf (dN o g)=(lf o).filter fun y=> !(lf g).contains y:=by
  have:=qeI ho hg
  unfold Ug gl at this
  rw[VV]at this
  exact(qeW this).symm
 rw[←e1]at s1
 rw[←e2]at s3
 have z1:dN o g≠0↔(lf (dN o g)).length≠0:=by rw[ne_eq,ne_eq,alto,Yj (Yc ho)]
 have z2:(lf (dN g o)).length+(lf o).length≠(lf g).length↔(lf (dN o g)).length≠0:=by omega
 rw[z2, ←z1]
 constructor
 ·rintro(h|h|h)
  ·exact .inl h
  ·exact .inr (.inr h)
  ·exact .inr (.inl (by rw[dN_zero,h];exact fun _ h=>h))
 ·rintro(h|h|h)
  ·exact .inl h
  ·by_cases hd:dN o g=0
   ·refine .inr (.inr ?_)
    apply qgp
    intro k
    rw[Bool.eq_iff_iff]
    exact⟨dN_zero.1 hd k,dN_zero.1 h k⟩
   ·exact .inr (.inl hd)
  ·exact .inr (.inl h)
theorem qfr {l:List (List (List Q4))} (h:eB l=0):∀p K Ss,RelK l.length K Ss→cpA l K p=qbO l (Ss.map gl) p
 | [],_,_,_=>rfl
 |s::p,K,Ss,hR=>by
  have h12:=(sq h).1
  have hp:2 ^ l.length≤4096:=Nat.pow_le_pow_right (n:=2) (by omega) h12
  unfold cpA qbO
  by_cases e1:gh s.1 l.length=0
  ·have c1:¬(gh s.1 l.length≠0):=by simpa using e1
   simp only[if_neg c1]
   by_cases e2:gh s.2.1 l.length=0
   ·have c2:¬(gh s.2.1 l.length≠0):=by simpa using e2
    simp only[if_neg c2]
    by_cases e3:mK s.2.2=0
    ·have c3:¬(mK s.2.2≠0):=by simpa using e3
     simp only[if_neg c3]
     have hg:=KX s.1 (fun x hx=>by have:=DO e1 x hx;omega)
     have ho:=KX s.2.1 (fun x hx=>by have:=DO e2 x hx;omega)
     have g1:=qfe e1 h12
     have g2:=qfe e2 h12
     have hf:=qfA hg ho
     have hw:=qeI hg ho
     rw[g1,g2]at hf hw
     have sp:=qeO (Ss.map gl) s.1 (Ss.map gl).length (qaA _)
     have hmv:XM (eM (psB l) s.2.2) (nr s.1) (nr s.2.1)=WP (gE (TF l s.2.2)) (s.1.map Int.toNat) (s.2.1.map Int.toNat):=by
      rw[WF,show psB l=l.map (·.map bp)from rfl,Yz (Wz h (qcM (Yu e3))) hg ho,Uf e1 (by omega),Uf e2 (by omega)]
     by_cases hat:atF (Ss.map gl) s.1 (Ss.map gl).length<0
     ·rw[if_pos hat,if_pos]
      cases hk:K (nr s.1)with
      |false=>rfl
      |true=>
       obtain⟨j,hj,e⟩:=qaJ ((hR.mem _).1 hk)
       exact absurd (by rw[qdB,e,g1]) (sp.1 hat j (by simpa using hj) (by simpa using hj))
     ·obtain⟨hj,e⟩:=sp.2 (by omega)
      have hj':(atF (Ss.map gl) s.1 (Ss.map gl).length).toNat<Ss.length:=by simpa using hj
      rw[qdB]at e
      have eG:Ss[(atF (Ss.map gl) s.1 (Ss.map gl).length).toNat]=nr s.1:=qfJ (qaG (hR.lt _ (qaB hj')) hp) hg (by rw[e,g1])
      have hK:K (nr s.1)=true:=(hR.mem _).2 (eG▸qaB hj')
      rw[if_neg hat,if_neg (by rw[hK];simp)]
      by_cases hff:nr s.2.1=0∨dN (nr s.2.1) (nr s.1)≠0∨nr s.2.1=nr s.1
      ·rw[if_pos hff,if_pos (hf.1 hff)]
      ·rw[if_neg hff,if_neg (fun h=>hff (hf.2 h)),hmv]
       split
       ·rfl
       ·have hn:=hR.next hj' (O:=nr s.2.1) (fun h=>hff (.inl h)) (by
         rw[eG]
         exact qgk fun h=>hff (.inr (.inl h))) (fun h=>hff (.inr (.inr (by rw[h,eG]))))
        rw[eG]at hn
        rw[qfr h p _ _ hn,qgh,List.map_set,g2,hw]
        rfl
    ·have c3:mK s.2.2≠0:=e3
     simp only[if_pos c3]
   ·have c2:gh s.2.1 l.length≠0:=e2
    simp only[if_pos c2]
  ·have c1:gh s.1 l.length≠0:=e1
   simp only[if_pos c1]
def cpE (l:List (List (List Q4))) (p:List Spl):Int:=if eB l≠0 then eB l else if(p.length:Int)≠max ((l.length:Int)-1) 0 then 10 else cpA l (fun x=>x==2 ^ l.length-1) p
theorem qfK {l:List (List (List Q4))} (h:eB l=0) (p:List Spl):cpE l p=rcp l p:=by
 unfold cpE rcp
 rw[if_neg (by simpa using h)]
 by_cases hl:(p.length:Int)≠max ((l.length:Int)-1) 0
 ·rw[if_pos hl,if_pos hl]
 ·rw[if_neg hl,if_neg hl]
  by_cases h0:l.length=0
  ·have:p=[]:=alto.1 (by omega)
   subst this
   rfl
  ·have h12:=(sq h).1
   have:=Nat.two_pow_pos l.length
   have h2:2 ^ 1≤2 ^ l.length:=Nat.pow_le_pow_right (by omega) (by omega)
   have hR:RelK l.length (fun x=>x==2 ^ l.length-1) [2 ^ l.length-1]:=⟨fun x hx=>by
    rw[ultg.1 hx]
    omega,fun x hx=>by
    rw[ultg.1 hx]
    omega,fun i j hi hj hij=>by simp at hi hj;omega,fun x=>by simp⟩
   rw[qfr h p _ _ hR,List.map_cons,List.map_nil]
   unfold gl
   rw[WT h12]
end
end Go.Proofs.YtnpmkepfpekhfaaGreatDoor
