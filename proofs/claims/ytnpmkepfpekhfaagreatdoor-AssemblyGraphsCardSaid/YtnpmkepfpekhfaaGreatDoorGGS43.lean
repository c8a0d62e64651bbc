/- texts: O10 O12 O13. -/
import Derived.Test.YtnpmkepfpekhfaaGreatDoorGGS42
namespace Go.Proofs.YtnpmkepfpekhfaaGreatDoor
set_option maxHeartbeats 8000000
set_option linter.all false
section
open Go.RowKit
theorem Rch.mono {E:Nat→Nat→Prop} {g h:Nat→Prop} {n k:Nat} (hs:∀x,g x→h x) (r:Rch E g n k):Rch E h n k:=by
 induction r with
 |base=>exact .base
 |step _ e gk ih=>exact .step ih e (hs _ gk)
theorem Rch.trans {E:Nat→Nat→Prop} {g:Nat→Prop} {n j k:Nat} (r:Rch E g n j) (s:Rch E g j k):Rch E g n k:=by
 induction s with
 |base=>exact r
 |step _ e gk ih=>exact .step ih e gk
theorem Rch.inG {E:Nat→Nat→Prop} {g:Nat→Prop} {n k:Nat} (hn:g n) (r:Rch E g n k):g k:=by
 cases r with
 |base=>exact hn
 |step _ _ gk=>exact gk
def WY (E:Nat→Nat→Prop) (all rest:Nat→Prop):Prop:=∀j k,all j→¬rest j→rest k→¬E j k
theorem WR {E:Nat→Nat→Prop} {all rest:Nat→Prop} (hs:WY E all rest) (hsub:∀x,rest x→all x) {n k:Nat} (hn:rest n) (hk:rest k):Rch E all n k↔Rch E rest n k:=by
 refine⟨fun r=> ?_,Rch.mono hsub⟩
 induction r with
 |base=>exact .base
 | @step j k r e gk ih=>
  have hj:rest j:=Classical.byContradiction fun h=>hs j k (Rch.inG (hsub n hn) r) h hk e
  exact .step (ih hj) e hk
def XX (E:Nat→Nat→Prop) (rest:Nat→Prop) (n:Nat):Prop:=∀k,Rch E rest n k→∀y,Rch E rest k y↔Rch E rest n y
def InR (E:Nat→Nat→Prop) (all rest:Nat→Prop) (n k:Nat):Prop:=rest k∧Rch E all n k∧Rch E all k n
def YA (E:Nat→Nat→Prop) (all rest:Nat→Prop) (n:Nat):Prop:=∀j y,InR E all rest n j→rest y→¬InR E all rest n y→¬E j y
theorem XB {E:Nat→Nat→Prop} {all rest:Nat→Prop} (hs:WY E all rest) (hsub:∀x,rest x→all x) {n:Nat} (hn:rest n) (h:XX E rest n) (k:Nat):InR E all rest n k↔Rch E rest n k:=by
 constructor
 ·rintro⟨hk,h1, -⟩
  exact(WR hs hsub hn hk).1 h1
 ·intro r
  have hk:=Rch.inG hn r
  exact⟨hk,(WR hs hsub hn hk).2 r,(WR hs hsub hk hn).2 ((h k r n).2 .base)⟩
theorem YB {E:Nat→Nat→Prop} {all rest:Nat→Prop} (hs:WY E all rest) (hsub:∀x,rest x→all x) {n:Nat} (hn:rest n):XX E rest n↔YA E all rest n:=by
 constructor
 ·intro h j y hj hy hny he
  exact hny ((XB hs hsub hn h y).2 (.step ((XB hs hsub hn h j).1 hj) he hy))
 ·intro h
  have hown:∀k,Rch E rest n k→InR E all rest n k:=by
   intro k r
   induction r with
   |base=>exact⟨hn, .base, .base⟩
   | @step j k _ e gk ih=>exact Classical.byContradiction fun hk=>h j k ih gk hk e
  intro k r y
  have hk:=hown k r
  have back:Rch E rest k n:=(WR hs hsub hk.1 hn).1 hk.2.2
  exact⟨fun s=>r.trans s,fun s=>back.trans s⟩
theorem XY {E:Nat→Nat→Prop} {rest:Nat→Prop} (size:Nat→Nat) (own:Nat→List Nat) (hm:∀n,rest n→∀k,k∈own n↔Rch E rest n k) (hnd:∀n,(own n).Nodup) {n0:Nat} (h0:rest n0):∃n,rest n∧XX E rest n:=by
 have key:∀m n,rest n→(own n).length≤m→∃n,rest n∧XX E rest n:=by
  intro m
  induction m with
  |zero=>
   intro n hn hl
   have:=(hm n hn n).2 .base
   have:=List.length_pos_of_mem this
   omega
  |succ m ih=>
   intro n hn hl
   by_cases h:∃k,Rch E rest n k∧(own k).length<(own n).length
   ·obtain⟨k,r,hlt⟩:=h
    exact ih k (Rch.inG hn r) (by omega)
   ·refine⟨n,hn,fun k r y=>⟨fun s=>r.trans s,fun s=> ?_⟩⟩
    have hk:=Rch.inG hn r
    have hle:(own n).length≤(own k).length:=Nat.le_of_not_lt fun hlt=>h ⟨k,r,hlt⟩
    refine(hm k hk y).1 (Classical.byContradiction fun hy=> ?_)
    have:=Vi (y::own k) (own n) (List.nodup_cons.2 ⟨hy,hnd k⟩) (fun x hx=>by
     rcases alsk.1 hx with rfl|hx
     ·exact(hm n hn x).2 s
     ·exact(hm n hn x).2 (r.trans ((hm k hk x).1 hx)))
    rw[List.length_cons]at this
    omega
 exact key _ n0 h0 (qaA _)
theorem Ym {E:Nat→Nat→Prop} {all rest:Nat→Prop} (hs:WY E all rest) (hsub:∀x,rest x→all x) {n:Nat} (hn:rest n) (h:XX E rest n):WY E all (fun k=>rest k∧¬Rch E rest n k):=by
 intro j k hj hnj hk he
 by_cases hr:rest j
 ·by_cases ho:Rch E rest n j
  ·exact hk.2 (.step ho he hk.1)
  ·exact hnj ⟨hr,ho⟩
 ·exact hs j k hj hr hk.1 he
def okC (G:List Nat) (rest n:Nat):Bool:=(av (car G rest n)).all fun k=>car G rest k==car G rest n
def ZU (G:List Nat):Nat→Nat→List Nat
 |0,_=>[]
 |f+1,rest=>match(av rest).find? (okC G rest)with
  |none=>[]
  |some n=>car G rest n::ZU G f (dN rest (car G rest n))
def WJ (E:Nat→Nat→Bool) (all left:List Nat) (n:Nat):List Nat:=left.filter fun k=>(TU E all n).contains k&&(TU E all k).contains n
def Yw (E:Nat→Nat→Bool) (all:List Nat):Nat→List Nat→List (List Nat)
 |0,_=>[]
 |f+1,left=>match left.find? (fun n=>WP E left (WJ E all left n))with
  |none=>[]
  |some n=>WJ E all left n::Yw E all f (left.filter fun y=> !(WJ E all left n).contains y)
theorem XP {E:Nat→Nat→Bool} {grp:List Nat} {n y:Nat}:y∈TU E grp n↔y∈grp∧Rch (fun j k=>E j k=true) (· ∈grp) n y:=by
 unfold TU
 rw[alsm,List.contains_iff_mem,(Vj E grp n _ 0 [n] (BfsI.start _ _ _) (by omega)).done y]
theorem rr {s n:Nat} (h:s<4096) (hb:s.testBit n=true):n<12:=by
 have:=(Tz h).2 hb
 rw[TS _ h,alsm,List.mem_range]at this
 exact this.1
theorem Yb {G:List Nat} {rest n:Nat} (hr:rest<4096) (hn:rest.testBit n=true):okC G rest n=true↔XX (Vf G) (fun k=>rest.testBit k=true) n:=by
 have hn12:=rr hr hn
 have hc:car G rest n<4096:=Me G rest n hr hn12
 have hm:=fun k=>VK G rest n hr hn12 k
 unfold okC XX
 rw[alsi]
 constructor
 ·intro h k rk y
  have hk:rest.testBit k=true:=Rch.inG hn rk
  have e:=h k ((Tz hc).2 ((hm k).2 rk))
  have e:car G rest k=car G rest n:=by simpa using e
  rw[←hm y, ←VK G rest k hr (rr hr hk) y,e]
 ·intro h k hk
  have rk:=(hm k).1 ((Tz hc).1 hk)
  have hk:rest.testBit k=true:=Rch.inG hn rk
  have:car G rest k=car G rest n:=by
   apply Nat.eq_of_testBit_eq
   intro y
   rw[Bool.eq_iff_iff,hm y,VK G rest k hr (rr hr hk) y]
   exact h k rk y
  simpa using this
theorem WL {E:Nat→Nat→Bool} {all left:List Nat} (hs:∀x∈left,x∈all) {n:Nat} (hn:n∈left) (k:Nat):k∈WJ E all left n↔InR (fun j k=>E j k=true) (· ∈all) (· ∈left) n k:=by
 unfold WJ InR
 rw[alsm,qaF,List.contains_iff_mem,List.contains_iff_mem,XP,XP]
 constructor
 ·rintro⟨h1,h2,h3⟩;exact⟨h1,h2.2,h3.2⟩
 ·rintro⟨h1,h2,h3⟩;exact⟨h1,⟨hs k h1,h2⟩,⟨hs n hn,h3⟩⟩
theorem Yx {E:Nat→Nat→Bool} {all left:List Nat} (hs:∀x∈left,x∈all) {n:Nat} (hn:n∈left):WP E left (WJ E all left n)=true↔YA (fun j k=>E j k=true) (· ∈all) (· ∈left) n:=by
 unfold WP YA
 rw[alsi]
 constructor
 ·intro h j y hj hy hny he
  have h1:=h j ((WL hs hn j).2 hj)
  rw[alsi]at h1
  have h2:=h1 y (alsm.2 ⟨hy,by
   have:¬y∈WJ E all left n:=fun hh=>hny ((WL hs hn y).1 hh)
   simpa using this⟩)
  rw[he]at h2
  cases h2
 ·intro h j hj
  rw[alsi]
  intro y hy
  obtain⟨hy1,hy2⟩:=alsm.1 hy
  have hny:¬y∈WJ E all left n:=by simpa using hy2
  have:=h j y ((WL hs hn j).1 hj) hy1 (fun hh=>hny ((WL hs hn y).2 hh))
  simpa using this
theorem ZV {α:Type} {p q:α→Bool}:∀l:List α,(∀a∈l,p a=q a)→l.find? p=l.find? q
 | [],_=>rfl
 |a::l,h=>by
  rw[List.find?_cons,List.find?_cons,h a (by simp),ZV l (fun b hb=>h b (by simp[hb]))]
theorem Yc {a b:Nat} (h:a<4096):dN a b<4096:=Nat.lt_of_le_of_lt (by
 apply Nat.le_of_testBit
 intro i hi
 rw[Gh]at hi
 simp at hi
 exact hi.1) h
theorem YC {a b n:Nat} (h1:a.testBit n=true) (h2:b.testBit n=true):dN a b<a:=by
 refine Nat.lt_of_le_of_ne (Nat.le_of_testBit fun i hi=> ?_) fun e=> ?_
 ·rw[Gh]at hi
  simp at hi
  exact hi.1
 ·have:=Gh a b n
  rw[e,h1,h2]at this
  cases this
theorem Yd {G:List Nat} {E:Nat→Nat→Bool} (hE:∀j k,E j k=true↔Vf G j k) {all rest n:Nat} (ha:all<4096) (hr:rest<4096) (hsub:∀x,rest.testBit x=true→all.testBit x=true) (hsh:WY (Vf G) (fun k=>all.testBit k=true) (fun k=>rest.testBit k=true)) (hn:rest.testBit n=true):
  (okC G rest n=WP E (av rest) (WJ E (av all) (av rest) n))∧(okC G rest n=true→av (car G rest n)=WJ E (av all) (av rest) n∧av (dN rest (car G rest n))=(av rest).filter (fun y=> !(WJ E (av all) (av rest) n).contains y)∧
   WY (Vf G) (fun k=>all.testBit k=true) (fun k=>(dN rest (car G rest n)).testBit k=true)):=by
 have eE:(fun j k=>E j k=true)=Vf G:=funext fun j=>funext fun k=>propext (hE j k)
 have eA:(fun k=>k∈av all)=fun k=>all.testBit k=true:=funext fun k=>propext (Tz ha)
 have eR:(fun k=>k∈av rest)=fun k=>rest.testBit k=true:=funext fun k=>propext (Tz hr)
 have hs:∀x∈av rest,x∈av all:=fun x hx=>(Tz ha).2 (hsub x ((Tz hr).1 hx))
 have hnr:n∈av rest:=(Tz hr).2 hn
 have hn12:=rr hr hn
 have hc:car G rest n<4096:=Me G rest n hr hn12
 have hm:=fun k=>VK G rest n hr hn12 k
 have h1:=Yb (G:=G) hr hn
 have h2:=Yx (E:=E) hs hnr
 rw[eE,eA,eR]at h2
 refine⟨by rw[Bool.eq_iff_iff,h1,h2];exact YB hsh hsub hn,fun hok=> ?_⟩
 have hacc:=h1.1 hok
 have hown:∀k,k∈WJ E (av all) (av rest) n↔Rch (Vf G) (fun k=>rest.testBit k=true) n k:=fun k=>by
  have:=WL (E:=E) hs hnr k
  rw[eE,eA,eR]at this
  rw[this]
  exact XB hsh hsub hn hacc k
 refine⟨Wj _ _ (UR hc) ((UR hr).filter _) fun x=> ?_,Wj _ _ (UR (Yc hr)) ((UR hr).filter _) fun x=> ?_, ?_⟩
 ·rw[Tz hc,hm x,hown x]
 ·have hcx:(WJ E (av all) (av rest) n).contains x=(car G rest n).testBit x:=by
   rw[Bool.eq_iff_iff,List.contains_iff_mem,hown x,hm x]
  rw[Tz (Yc hr),alsm,Tz hr,Gh,hcx,qaF]
 ·have h3:=Ym hsh hsub hn hacc
  have e:(fun k=>(dN rest (car G rest n)).testBit k=true)=fun k=>rest.testBit k=true∧¬Rch (Vf G) (fun k=>rest.testBit k=true) n k:=funext fun k=>propext (by
   rw[Gh,qaF, ←hm k]
   simp)
  rw[e]
  exact h3
theorem qal {G:List Nat} {E:Nat→Nat→Bool} (hE:∀j k,E j k=true↔Vf G j k) {all:Nat} (ha:all<4096):∀f rest,rest<4096→(∀x,rest.testBit x=true→all.testBit x=true)→WY (Vf G) (fun k=>all.testBit k=true) (fun k=>rest.testBit k=true)→
  (ZU G f rest).map av=Yw E (av all) f (av rest)
 |0,_,_,_,_=>rfl
 |f+1,rest,hr,hsub,hsh=>by
  have hf:(av rest).find? (okC G rest)=(av rest).find? (fun n=>WP E (av rest) (WJ E (av all) (av rest) n)):=ZV _ fun n hn=>(Yd hE ha hr hsub hsh ((Tz hr).1 hn)).1
  unfold ZU Yw
  rw[←hf]
  cases h:(av rest).find? (okC G rest)with
  |none=>rfl
  |some n=>
   have hn:=(Tz hr).1 (List.mem_of_find?_eq_some h)
   obtain⟨e1,e2,h3⟩:=(Yd hE ha hr hsub hsh hn).2 (List.find?_some h)
   simp only[List.map_cons]
   rw[qal hE ha f _ (Yc hr) (fun x hx=>hsub x (by rw[Gh]at hx;simp at hx;exact hx.1)) h3,e1,e2]
theorem Yr {G:List Nat} {rest:Nat} (hr:rest<4096) (h0:rest≠0):∃n,(av rest).find? (okC G rest)=some n:=by
 cases h:(av rest).find? (okC G rest)with
 |some n=>exact⟨n,rfl⟩
 |none=>
  exfalso
  have hne:av rest≠[]:=fun e=>h0 ((Yj hr).1 e)
  obtain⟨n0,hn0⟩:=List.exists_mem_of_ne_nil _ hne
  have hb0:=(Tz hr).1 hn0
  obtain⟨n,hn,hacc⟩:=XY (E:=Vf G) (rest:=fun k=>rest.testBit k=true) (fun n=>n) (fun n=>if rest.testBit n=true then av (car G rest n)else []) (fun n hn k=>by
   have hn':rest.testBit n=true:=hn
   rw[if_pos hn',Tz (Me G rest n hr (rr hr hn)),VK G rest n hr (rr hr hn)]) (fun n=>by
   by_cases hn:rest.testBit n=true
   ·simp only[hn,if_true]
    exact((UR (Me G rest n hr (rr hr hn))).imp fun h=>Nat.ne_of_lt h)
   ·simp[hn]) hb0
  have:=List.find?_eq_none.1 h n ((Tz hr).2 hn)
  exact this ((Yb hr hn).2 hacc)
structure ClI (G:List Nat) (all rest:Nat):Prop where
 lt:rest<4096
 sub:∀x,rest.testBit x=true→all.testBit x=true
 shut:WY (Vf G) (fun k=>all.testBit k=true) (fun k=>rest.testBit k=true)
theorem ClI.start {G:List Nat} {all:Nat} (h:all<4096):ClI G all all:=⟨h,fun _ h=>h,fun _ _ h1 h2=>absurd h1 h2⟩
def XU (E:Nat→Nat→Bool) (A left:List Nat) (n:Nat):Bool:=WP E left (WJ E A left n)
theorem Ye {p:Nat→Bool}:∀(l:List Nat) (i:Nat) (hi:i<l.length),(∀j (hj:j<l.length),j<i→p l[j]=false)→p l[i]=true→l.find? p=some l[i]
 |a::l,0,_,_,h=>by rw[List.find?_cons];simp only[List.getElem_cons_zero]at h ⊢;rw[h]
 |a::l,i+1,hi,h0,h=>by
  have ha:=h0 0 (by simp) (by omega)
  simp only[List.getElem_cons_zero]at ha
  rw[List.find?_cons,ha]
  simp only[List.getElem_cons_succ]at h ⊢
  exact Ye l i (by simpa using hi) (fun j hj hji=>by have:=h0 (j+1) (by simpa using hj) (by omega);simpa using this) h
theorem qam (E:Nat→Nat→Bool) (A:List Nat):∀f,Yw E A f []=[]
 |0=>rfl
 |f+1=>rfl
def nxt (G:List Nat) (rest n:Nat):Nat:=dN rest (car G rest n)
theorem ClI.next {G:List Nat} {E:Nat→Nat→Bool} (hE:∀j k,E j k=true↔Vf G j k) {all rest f:Nat} (ha:all<4096) (h:ClI G all rest) (i:Nat) (hi:i<(av rest).length)
  (h0:∀j (hj:j<(av rest).length),j<i→XU E (av all) (av rest) (av rest)[j]=false) (h1:XU E (av all) (av rest) (av rest)[i]=true) (hf:rest≤f):
  ∃r f',ClI G all r∧r<4096∧r≤f'∧av r=(av rest).filter (fun y=> !(WJ E (av all) (av rest) (av rest)[i]).contains y)∧(av r).length<(av rest).length∧Yw E (av all) f (av rest)=WJ E (av all) (av rest) (av rest)[i]::Yw E (av all) f' (av r):=by
 have hn:=(Tz h.lt).1 (qaB hi)
 have hd:=Ye (p:=XU E (av all) (av rest)) _ i hi h0 h1
 obtain⟨e0,hok⟩:=Yd hE ha h.lt h.sub h.shut hn
 have hok1:okC G rest (av rest)[i]=true:=by rw[e0];exact h1
 obtain⟨e1,e2,h3⟩:=hok hok1
 have hc:=VK G rest (av rest)[i] h.lt (rr h.lt hn) (av rest)[i]
 have hdec:nxt G rest (av rest)[i]<rest:=YC hn (hc.2 .base)
 obtain⟨f',rfl⟩:∃f',f=f'+1:=⟨f-1,by omega⟩
 refine⟨nxt G rest (av rest)[i],f',⟨Yc h.lt,fun x hx=>h.sub x (by unfold nxt at hx;rw[Gh]at hx;simp at hx;exact hx.1),h3⟩,Yc h.lt,by omega,e2, ?_, ?_⟩
 ·unfold nxt
  rw[e2,VN]
  intro e
  have hm:(av rest)[i]∈(av rest).filter (fun y=> !(WJ E (av all) (av rest) (av rest)[i]).contains y):=by rw[e];exact qaB hi
  have hm2:=(alsm.1 hm).2
  rw[←e1]at hm2
  have:(av (car G rest (av rest)[i])).contains (av rest)[i]=true:=List.contains_iff_mem.2 ((Tz (Me G rest _ h.lt (rr h.lt hn))).2 (hc.2 .base))
  rw[this]at hm2
  cases hm2
 ·conv=>lhs;unfold Yw
  have hd':(av rest).find? (fun n=>WP E (av rest) (WJ E (av all) (av rest) n))=some (av rest)[i]:=hd
  rw[hd']
  simp only
  unfold nxt
  rw[e2]
theorem ClI.some {G:List Nat} {E:Nat→Nat→Bool} (hE:∀j k,E j k=true↔Vf G j k) {all rest:Nat} (ha:all<4096) (h:ClI G all rest) (hl:0<(av rest).length)
  (h0:∀j (hj:j<(av rest).length),XU E (av all) (av rest) (av rest)[j]=false):False:=by
 obtain⟨n,hn⟩:=Yr (G:=G) h.lt (fun e=>by rw[e,elems_zero]at hl;simp at hl)
 have hm:=List.mem_of_find?_eq_some hn
 have hp:=List.find?_some hn
 rw[(Yd hE ha h.lt h.sub h.shut ((Tz h.lt).1 hm)).1]at hp
 obtain⟨j,hj,rfl⟩:=qaJ hm
 have:=h0 j hj
 unfold XU at this
 rw[this]at hp
 cases hp
theorem qae {E:Nat→Nat→Bool} {A left:List Nat} {n k:Nat} (h:k<left.length):WJ E A (left.take (k+1)) n=if((TU E A n).contains left[k]&&(TU E A left[k]).contains n)=true then WJ E A (left.take k) n++[left[k]]else WJ E A (left.take k) n:=by
 unfold WJ
 rw[qaI h,List.filter_append,List.filter_cons]
 split<;>simp
theorem ZZ (E:Nat→Nat→Bool) (A left:List Nat) (n:Nat):(WJ E A left n).length≤left.length:=List.length_filter_le _ _
end
end Go.Proofs.YtnpmkepfpekhfaaGreatDoor
