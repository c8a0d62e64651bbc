/- texts: O11 O12. -/
import Derived.Test.YtffbilcjhlncfaaGreatDoorDQS34
namespace Go.Proofs.YtffbilcjhlncfaaGreatDoor
set_option maxHeartbeats 8000000
set_option linter.all false
section
open Go.RowKit
theorem Wj:∀(l m:List Nat),l.Pairwise (· < ·)→m.Pairwise (· < ·)→(∀x,x∈l↔x∈m)→l=m
 | [],[],_,_,_=>rfl
 | [],b::m,_,_,h=>by have:=(h b).2 (by simp);cases this
 |a::l,[],_,_,h=>by have:=(h a).1 (by simp);cases this
 |a::l,b::m,hl,hm,h=>by
  rw[List.pairwise_cons]at hl hm
  have hab:a=b:=by
   have h1:=(h a).1 (by simp)
   have h2:=(h b).2 (by simp)
   rcases alsk.1 h1 with e|h1
   ·exact e
   ·rcases alsk.1 h2 with e|h2
    ·exact e.symm
    ·have:=hm.1 a h1
     have:=hl.1 b h2
     omega
  subst hab
  congr 1
  refine Wj l m hl.2 hm.2 (fun x=>⟨fun hx=> ?_,fun hx=> ?_⟩)
  ·have h1:=(h x).1 (by simp[hx])
   rcases alsk.1 h1 with e|h1
   ·have:=hl.1 x hx;omega
   ·exact h1
  ·have h1:=(h x).2 (by simp[hx])
   rcases alsk.1 h1 with e|h1
   ·have:=hm.1 x hx;omega
   ·exact h1
theorem Wk (n:Nat):(List.range n).Pairwise (· < ·):=List.pairwise_lt_range
theorem UR {s:Nat} (h:s<4096):(lf s).Pairwise (· < ·):=by rw[qhx s h];exact(Wk 12).filter _
theorem Wl (l:List Int) (k:Nat):(nr l).testBit k=true↔∃x∈l,x.toNat=k:=by
 unfold nr
 have key:∀(l:List Int) (s:Nat),(l.foldl (fun s n=>s |||2 ^ n.toNat) s).testBit k=true↔s.testBit k=true∨∃x∈l,x.toNat=k:=by
  intro l
  induction l with
  |nil=>intro s;simp
  |cons x l ih=>
   intro s
   rw[List.foldl_cons,ih,Nat.testBit_or,Nat.testBit_two_pow]
   simp only[qgf,qfV,alsk,exists_eq_or_imp,or_assoc]
 rw[key]
 simp
theorem WQ {n:Nat} (h:n≤12):2 ^ n-1<4096:=by
 have:2 ^ n≤2 ^ 12:=Nat.pow_le_pow_right (show 0<2 by omega) h
 have h2:=Nat.two_pow_pos n
 omega
theorem WT {n:Nat} (h:n≤12):lf (2 ^ n-1)=List.range n:=by
 refine Wj _ _ (UR (WQ h)) (Wk n) (fun k=> ?_)
 rw[Tz (WQ h),ultv,Nat.testBit_two_pow_sub_one]
 simp
def okC (G:List Nat) (rest n:Nat):Bool:=(lf (car G rest n)).all fun k=>car G rest k==car G rest n
def WJ (E:Nat→Nat→Bool) (all left:List Nat) (n:Nat):List Nat:=left.filter fun k=>(TU E all n).contains k&&(TU E all k).contains n
def Yw (E:Nat→Nat→Bool) (all:List Nat):Nat→List Nat→List (List Nat)
 |0,_=>[]
 |f+1,left=>match left.find? (fun n=>WP E left (WJ E all left n))with
  |none=>[]
  |some n=>WJ E all left n::Yw E all f (left.filter fun y=> !(WJ E all left n).contains y)
theorem XP {E:Nat→Nat→Bool} {grp:List Nat} {n y:Nat}:y∈TU E grp n↔y∈grp∧Rch (fun j k=>E j k=true) (· ∈grp) n y:=by
 unfold TU
 rw[alsm,List.contains_iff_mem,(Vj E grp n _ 0 [n] (BfsI.start _ _ _) (by omega)).done y]
theorem nw {s n:Nat} (h:s<4096) (hb:s.testBit n=true):n<12:=by
 have:=(Tz h).2 hb
 rw[qhx _ h,alsm,ultv]at this
 exact this.1
theorem Yb {G:List Nat} {rest n:Nat} (hr:rest<4096) (hn:rest.testBit n=true):okC G rest n=true↔XX (Vf G) (fun k=>rest.testBit k=true) n:=by
 have hn12:=nw hr hn
 have hc:car G rest n<4096:=Me G rest n hr hn12
 have hm:=fun k=>VK G rest n hr hn12 k
 unfold okC XX
 rw[alsi]
 constructor
 ·intro h k rk y
  have hk:rest.testBit k=true:=Rch.inG hn rk
  have e:=h k ((Tz hc).2 ((hm k).2 rk))
  have e:car G rest k=car G rest n:=by simpa using e
  rw[←hm y, ←VK G rest k hr (nw hr hk) y,e]
 ·intro h k hk
  have rk:=(hm k).1 ((Tz hc).1 hk)
  have hk:rest.testBit k=true:=Rch.inG hn rk
  have:car G rest k=car G rest n:=by
   apply qgp
   intro y
   rw[Bool.eq_iff_iff,hm y,VK G rest k hr (nw hr hk) y]
   exact h k rk y
  simpa using this
theorem WL {E:Nat→Nat→Bool} {all left:List Nat} (hs:∀x∈left,x∈all) {n:Nat} (hn:n∈left) (k:Nat):k∈WJ E all left n↔InR (fun j k=>E j k=true) (· ∈all) (· ∈left) n k:=by
 unfold WJ InR
 rw[alsm,qaF,List.contains_iff_mem,List.contains_iff_mem,XP,XP]
 constructor
 ·rintro⟨h1,h2,h3⟩;exact⟨h1,h2.2,h3.2⟩
 ·rintro⟨h1,h2,h3⟩;exact⟨h1,⟨hs k h1,h2⟩,⟨hs n hn,h3⟩⟩
theorem Yx {E:Nat→Nat→Bool} {all left:List Nat} (hs:∀x∈left,x∈all) {n:Nat} (hn:n∈left):WP E left (WJ E all left n)=true↔YA (fun j k=>E j k=true) (· ∈all) (· ∈left) n:=by
 unfold WP YA
 rw[alsi]
 constructor
 ·intro h j y hj hy hny he
  have h1:=h j ((WL hs hn j).2 hj)
  rw[alsi]at h1
  have h2:=h1 y (alsm.2 ⟨hy,by
   have:¬y∈WJ E all left n:=fun hh=>hny ((WL hs hn y).1 hh)
   simpa using this⟩)
  rw[he]at h2
  cases h2
 ·intro h j hj
  rw[alsi]
  intro y hy
  obtain⟨hy1,hy2⟩:=alsm.1 hy
  have hny:¬y∈WJ E all left n:=by simpa using hy2
  have:=h j y ((WL hs hn j).1 hj) hy1 (fun hh=>hny ((WL hs hn y).2 hh))
  simpa using this
theorem Yc {a b:Nat} (h:a<4096):dN a b<4096:=Nat.lt_of_le_of_lt (by
 apply Nat.le_of_testBit
 intro i hi
 rw[Gh]at hi
 simp at hi
 exact hi.1) h
theorem YC {a b n:Nat} (h1:a.testBit n=true) (h2:b.testBit n=true):dN a b<a:=by
 refine Nat.lt_of_le_of_ne (Nat.le_of_testBit fun i hi=> ?_) fun e=> ?_
 ·rw[Gh]at hi
  simp at hi
  exact hi.1
 ·have:=Gh a b n
  rw[e,h1,h2]at this
  cases this
theorem Yd {G:List Nat} {E:Nat→Nat→Bool} (hE:∀j k,E j k=true↔Vf G j k) {all rest n:Nat} (ha:all<4096) (hr:rest<4096) (hsub:∀x,rest.testBit x=true→all.testBit x=true) (hsh:WY (Vf G) (fun k=>all.testBit k=true) (fun k=>rest.testBit k=true)) (hn:rest.testBit n=true):
  (okC G rest n=WP E (lf rest) (WJ E (lf all) (lf rest) n))∧(okC G rest n=true→lf (car G rest n)=WJ E (lf all) (lf rest) n∧lf (dN rest (car G rest n))=(lf rest).filter (fun y=> !(WJ E (lf all) (lf rest) n).contains y)∧
   WY (Vf G) (fun k=>all.testBit k=true) (fun k=>(dN rest (car G rest n)).testBit k=true)):=by
 have eE:(fun j k=>E j k=true)=Vf G:=funext fun j=>funext fun k=>propext (hE j k)
 have eA:(fun k=>k∈lf all)=fun k=>all.testBit k=true:=funext fun k=>propext (Tz ha)
 have eR:(fun k=>k∈lf rest)=fun k=>rest.testBit k=true:=funext fun k=>propext (Tz hr)
 have hs:∀x∈lf rest,x∈lf all:=fun x hx=>(Tz ha).2 (hsub x ((Tz hr).1 hx))
 have hnr:n∈lf rest:=(Tz hr).2 hn
 have hn12:=nw hr hn
 have hc:car G rest n<4096:=Me G rest n hr hn12
 have hm:=fun k=>VK G rest n hr hn12 k
 have h1:=Yb (G:=G) hr hn
 have h2:=Yx (E:=E) hs hnr
 rw[eE,eA,eR]at h2
 refine⟨by rw[Bool.eq_iff_iff,h1,h2];exact YB hsh hsub hn,fun hok=> ?_⟩
 have hacc:=h1.1 hok
 have hown:∀k,k∈WJ E (lf all) (lf rest) n↔Rch (Vf G) (fun k=>rest.testBit k=true) n k:=fun k=>by
  have:=WL (E:=E) hs hnr k
  rw[eE,eA,eR]at this
  rw[this]
  exact qgr hsh hsub hn hacc k
 refine⟨Wj _ _ (UR hc) ((UR hr).filter _) fun x=> ?_,Wj _ _ (UR (Yc hr)) ((UR hr).filter _) fun x=> ?_, ?_⟩
 ·rw[Tz hc,hm x,hown x]
 ·have hcx:(WJ E (lf all) (lf rest) n).contains x=(car G rest n).testBit x:=by
   rw[Bool.eq_iff_iff,List.contains_iff_mem,hown x,hm x]
  rw[Tz (Yc hr),alsm,Tz hr,Gh,hcx,qaF]
 ·have h3:=Ym hsh hsub hn hacc
  have e:(fun k=>(dN rest (car G rest n)).testBit k=true)=fun k=>rest.testBit k=true∧¬Rch (Vf G) (fun k=>rest.testBit k=true) n k:=funext fun k=>propext (by
   rw[Gh,qaF, ←hm k]
   simp)
  rw[e]
  exact h3
theorem Yr {G:List Nat} {rest:Nat} (hr:rest<4096) (h0:rest≠0):∃n,(lf rest).find? (okC G rest)=some n:=by
 cases h:(lf rest).find? (okC G rest)with
 |some n=>exact⟨n,rfl⟩
 |none=>
  exfalso
  have hne:lf rest≠[]:=fun e=>h0 ((Yj hr).1 e)
  obtain⟨n0,hn0⟩:=List.exists_mem_of_ne_nil _ hne
  have hb0:=(Tz hr).1 hn0
  obtain⟨n,hn,hacc⟩:=XY (E:=Vf G) (rest:=fun k=>rest.testBit k=true) (fun n=>n) (fun n=>if rest.testBit n=true then lf (car G rest n)else []) (fun n hn k=>by
   have hn':rest.testBit n=true:=hn
   rw[if_pos hn',Tz (Me G rest n hr (nw hr hn)),VK G rest n hr (nw hr hn)]) (fun n=>by
   by_cases hn:rest.testBit n=true
   ·simp only[hn,if_true]
    exact((UR (Me G rest n hr (nw hr hn))).imp fun h=>Nat.ne_of_lt h)
   ·simp[hn]) hb0
  have:=List.find?_eq_none.1 h n ((Tz hr).2 hn)
  exact this ((Yb hr hn).2 hacc)
end
end Go.Proofs.YtffbilcjhlncfaaGreatDoor
