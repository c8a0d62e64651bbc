/- texts: O6 O7 O0 O1 O2 O3 GQ AC1 SR AC2 AC3. -/
import Derived.Test.YtnpmkepfpekhfaaGreatDoorAQS31
namespace Go.Proofs.YtnpmkepfpekhfaaGreatDoor
set_option maxHeartbeats 8000000
set_option linter.all false
section
open Go.RowKit
set_option maxRecDepth 100000
theorem TS:∀s,s<4096→lf s=(List.range 12).filter (fun i=>s.testBit i):=by decide+kernel
theorem Tz {s n:Nat} (h:s<4096):n∈lf s↔s.testBit n=true:=by
 rw[TS s h,alsm,ultv]
 refine⟨fun h=>h.2,fun k=>⟨?_,k⟩⟩
 refine Nat.lt_of_not_le fun h12=> ?_
 have:s<2 ^ n:=qaG h (Nat.pow_le_pow_right (show 0<2 by omega) h12)
 rw[Nat.testBit_lt_two_pow this]at k
 cases k
theorem Wg (ps:List (List Bod)) (v:Q3) (i n k:Nat):(ks ps v i n).testBit k=(decide (k<n)&&(decide (i≠k)&&Cb ps v i k)):=by
 unfold ks
 induction n with
 |zero=>simp
 |succ n ih=>
  rw[List.range_succ,List.foldl_append]
  simp only[List.foldl_cons,List.foldl_nil]
  split
  ·rename_i h
   rw[Nat.testBit_or,ih,Nat.testBit_two_pow]
   by_cases e:n=k
   ·subst e;simp[h.1,h.2]
   ·have:decide (k<n+1)=decide (k<n):=by by_cases h:k<n<;>simp[h]<;>omega
    rw[this]
    simp[e]
  ·rename_i h
   rw[ih]
   by_cases e:n=k
   ·subst e
    have:(decide (i≠n)&&Cb ps v i n)=false:=by
     by_cases h1:i=n
     ·simp[h1]
     ·cases hb:Cb ps v i n with
      |false=>simp
      |true=>exact absurd ⟨h1,hb⟩ h
    rw[this]
    simp
   ·have:decide (k<n+1)=decide (k<n):=by by_cases h:k<n<;>simp[h]<;>omega
    rw[this]
theorem VS (G:List Nat) (grp:Nat) (l:List Nat) (k:Nat):(kn G grp l).testBit k=true↔grp.testBit k=true∧∃j∈l,(G.getD j 0).testBit k=true:=by
 unfold kn
 have key:∀(l:List Nat) (s:Nat),(l.foldl (fun s k=>s |||(G.getD k 0&&& grp)) s).testBit k=true↔s.testBit k=true∨(grp.testBit k=true∧∃j∈l,(G.getD j 0).testBit k=true):=by
  intro l
  induction l with
  |nil=>intro s;simp
  |cons x l ih=>
   intro s
   rw[List.foldl_cons,ih,Nat.testBit_or,qgq]
   simp only[qgf,qaF,alsk,exists_eq_or_imp]
   constructor
   ·rintro((h|h)|h)
    ·exact .inl h
    ·exact .inr ⟨h.2, .inl h.1⟩
    ·exact .inr ⟨h.1, .inr h.2⟩
   ·rintro(h|⟨h,h1|h1⟩)
    ·exact .inl (.inl h)
    ·exact .inl (.inr ⟨h1,h⟩)
    ·exact .inr ⟨h,h1⟩
 rw[key]
 simp
inductive Rch (E:Nat→Nat→Prop) (grp:Nat→Prop) (n:Nat):Nat→Prop
 |base:Rch E grp n n
 |step {j k:Nat}:Rch E grp n j→E j k→grp k→Rch E grp n k
def Vf (G:List Nat) (j k:Nat):Prop:=(G.getD j 0).testBit k=true
theorem Vq (G:List Nat) (grp n:Nat) (hg:grp<4096):∀f out fr,out<4096→fr<4096→cM out fr≤f→out.testBit n=true→
  (∀k,out.testBit k=true→Rch (Vf G) (fun k=>grp.testBit k=true) n k)→(∀k,fr.testBit k=true→out.testBit k=true)→
  (∀j k,out.testBit j=true→fr.testBit j=false→Vf G j k→grp.testBit k=true→out.testBit k=true)→
  ∀k,(Ro G grp f out fr).testBit k=true↔Rch (Vf G) (fun k=>grp.testBit k=true) n k
 |0,out,fr,ho,hf,hm,hn,h1,h2,h3=>by
  have h0:fr=0:=qgk fun h0=>by unfold cM at hm;rw[if_neg h0]at hm;omega
  subst h0
  intro k
  rw[TN]
  refine⟨h1 k,fun h=> ?_⟩
  induction h with
  |base=>exact hn
  |step _ e g ih=>exact h3 _ _ ih (by simp) e g
 |f+1,out,fr,ho,hf,hm,hn,h1,h2,h3=>by
  intro k
  by_cases h0:fr=0
  ·subst h0
   rw[TN]
   refine⟨h1 k,fun h=> ?_⟩
   induction h with
   |base=>exact hn
   |step _ e g ih=>exact h3 _ _ ih (by simp) e g
  ·rw[Ro,if_neg h0]
   have hnx:=VS G grp (lf fr)
   have hn2:kn G grp (lf fr)<4096:=Oj G grp 12 hg _
   have ho2:out |||kn G grp (lf fr)<4096:=Nat.or_lt_two_pow (n:=12) ho hn2
   have hd:=Gj (nx:=kn G grp (lf fr)) h0 ho ho2
   have hdl:dN (kn G grp (lf fr)) out<4096:=Nat.xor_lt_two_pow (n:=12) hn2 (Nat.lt_of_le_of_lt Nat.and_le_left hn2)
   refine Vq G grp n hg f _ (dN (kn G grp (lf fr)) out) ho2 hdl (by omega) (by rw[Nat.testBit_or,hn];rfl) (fun k hk=> ?_) (fun k hk=> ?_) (fun j k hj hf2 he hg2=> ?_) k
   ·rw[Nat.testBit_or,qgf]at hk
    rcases hk with hk|hk
    ·exact h1 k hk
    ·obtain⟨hk1,j,hj,hk2⟩:=(hnx k).1 hk
     exact .step (h1 j (h2 j ((Tz hf).1 hj))) hk2 hk1
   ·rw[Gh,qaF]at hk
    rw[Nat.testBit_or,hk.1,Bool.or_true]
   ·rw[Nat.testBit_or,qgf]at hj ⊢
    rw[Gh]at hf2
    have hjo:out.testBit j=true:=by
     rcases hj with hj|hj
     ·exact hj
     ·rw[hj]at hf2;simpa using hf2
    cases hfj:fr.testBit j with
    |false=>exact .inl (h3 j k hjo hfj he hg2)
    |true=>exact .inr ((hnx k).2 ⟨hg2,j,(Tz hf).2 hfj,he⟩)
theorem VK (G:List Nat) (grp n:Nat) (hg:grp<4096) (hn:n<12) (k:Nat):(car G grp n).testBit k=true↔Rch (Vf G) (fun k=>grp.testBit k=true) n k:=by
 unfold car
 have h2:2 ^ n<4096:=qaG (Nat.pow_lt_pow_right (by decide) hn) (by decide)
 refine Vq G grp n hg 8193 _ _ h2 h2 (by unfold cM;have:=Nat.two_pow_pos n;split<;>omega) (by rw[Nat.testBit_two_pow];simp) (fun k hk=> ?_) (fun k hk=>hk) (fun j k hj hf=> ?_) k
 ·rw[Nat.testBit_two_pow]at hk
  have:n=k:=by simpa using hk
  subst this
  exact .base
 ·rw[hj]at hf
  cases hf
def Tw (E:Nat→Nat→Bool) (grp:List Nat) (x:Nat) (acc:List Nat):List Nat:=grp.foldl (fun acc y=>if E x y&& !acc.contains y then acc++[y]else acc) acc
def Um (E:Nat→Nat→Bool) (grp:List Nat):Nat→Nat→List Nat→List Nat
 |0,_,acc=>acc
 |f+1,i,acc=>if h:i<acc.length then Um E grp f (i+1) (Tw E grp acc[i] acc)else acc
theorem TP (E:Nat→Nat→Bool) (x:Nat):∀(grp acc:List Nat),acc.Nodup→(Tw E grp x acc).Nodup∧(∃t,Tw E grp x acc=acc++t)∧∀y,y∈Tw E grp x acc↔y∈acc∨(y∈grp∧E x y=true)
 | [],acc,h=>⟨h,⟨[],by simp[Tw]⟩,fun y=>by simp[Tw]⟩
 |z::grp,acc,h=>by
  have hs:Tw E (z::grp) x acc=Tw E grp x (if E x z&& !acc.contains z then acc++[z]else acc):=rfl
  rw[hs]
  by_cases hc:(E x z&& !acc.contains z)=true
  ·rw[if_pos hc]
   rw[qaF]at hc
   have hz:z ∉ acc:=by simpa using hc.2
   obtain⟨h1,⟨t,h2⟩,h3⟩:=TP E x grp (acc++[z]) (by rw[List.nodup_append];exact⟨h,by simp,fun a ha b hb e=>by simp at hb;subst hb;subst e;exact hz ha⟩)
   refine⟨h1,⟨z::t,by rw[h2];simp⟩,fun y=> ?_⟩
   rw[h3]
   simp only[altl,alsk,List.not_mem_nil,or_false]
   constructor
   ·rintro((h|rfl)|⟨h,k⟩)
    ·exact .inl h
    ·exact .inr ⟨.inl rfl,hc.1⟩
    ·exact .inr ⟨.inr h,k⟩
   ·rintro(h|⟨rfl|h,k⟩)
    ·exact .inl (.inl h)
    ·exact .inl (.inr rfl)
    ·exact .inr ⟨h,k⟩
  ·rw[if_neg hc]
   obtain⟨h1,h2,h3⟩:=TP E x grp acc h
   refine⟨h1,h2,fun y=> ?_⟩
   rw[h3]
   simp only[alsk]
   constructor
   ·rintro(h|⟨h,k⟩)
    ·exact .inl h
    ·exact .inr ⟨.inr h,k⟩
   ·rintro(h|⟨rfl|h,k⟩)
    ·exact .inl h
    ·refine .inl (qgk fun hn=>hc ?_)
     rw[k]
     simpa using hn
    ·exact .inr ⟨h,k⟩
theorem Vi:∀(t l:List Nat),t.Nodup→(∀x∈t,x∈l)→t.length≤l.length
 | [],l,_,_=>by simp
 |a::t,l,hn,hs=>by
  rw[List.nodup_cons]at hn
  have ha:=hs a (by simp)
  have h:=Vi t (l.erase a) hn.2 (fun x hx=>(List.mem_erase_of_ne (fun e=>hn.1 (by rw[←e];exact hx))).2 (hs x (by simp[hx])))
  rw[List.length_erase_of_mem ha]at h
  have:=List.length_pos_of_mem ha
  rw[qdn]
  omega
structure BfsI (E:Nat→Nat→Bool) (grp:List Nat) (n i:Nat) (acc:List Nat):Prop where
 nd:acc.Nodup
 le:i≤acc.length
 mem:n∈acc
 rch:∀y∈acc,Rch (fun j k=>E j k=true) (· ∈grp) n y
 clo:∀j (h:j<acc.length),j<i→∀y∈grp,E acc[j] y=true→y∈acc
theorem BfsI.len {E:Nat→Nat→Bool} {grp:List Nat} {n i:Nat} {acc:List Nat} (h:BfsI E grp n i acc):acc.length≤grp.length+1:=by
 have:=Vi acc (n::grp) h.nd (fun x hx=>by
  have:=h.rch x hx
  cases this with
  |base=>simp
  |step _ _ g=>simp[g])
 simpa using this
theorem BfsI.start (E:Nat→Nat→Bool) (grp:List Nat) (n:Nat):BfsI E grp n 0 [n]:=
 ⟨by simp,by simp,by simp,fun y hy=>by simp at hy;subst hy;exact .base,fun j _ h=>by omega⟩
theorem BfsI.next {E:Nat→Nat→Bool} {grp:List Nat} {n i:Nat} {acc:List Nat} (h:BfsI E grp n i acc) (hi:i<acc.length):BfsI E grp n (i+1) (Tw E grp acc[i] acc):=by
 obtain⟨h1,⟨t,ht⟩,h3⟩:=TP E acc[i] grp acc h.nd
 refine⟨h1,by rw[ht,qaE];omega,(h3 n).2 (.inl h.mem),fun y hy=> ?_,fun j hj hji y hy he=> ?_⟩
 ·rcases(h3 y).1 hy with hy|⟨hy,he⟩
  ·exact h.rch y hy
  ·exact .step (h.rch _ (qaB hi)) he hy
 ·have e:(Tw E grp acc[i] acc)[j]'hj=acc[j]'(by omega):=by
   simp only[ht]
   rw[qgn (by omega)]
  rw[e]at he
  rw[h3]
  by_cases hij:j=i
  ·subst hij;exact .inr ⟨hy,he⟩
  ·exact .inl (h.clo j (by omega) (by omega) y hy he)
theorem BfsI.done {E:Nat→Nat→Bool} {grp:List Nat} {n:Nat} {acc:List Nat} (h:BfsI E grp n acc.length acc) (y:Nat):y∈acc↔Rch (fun j k=>E j k=true) (· ∈grp) n y:=by
 refine⟨h.rch y,fun hr=> ?_⟩
 induction hr with
 |base=>exact h.mem
 |step _ e g ih=>
  obtain⟨j,hj,rfl⟩:=qaJ ih
  exact h.clo j hj hj _ g e
def Bdd (ps:List Q4):Prop:=∀d:Q3,d≠(0,0,0)→∃p∈ps,0<bj (nrm p) d
def InP (ps:List Q4) (x:Q3) (W:Int):Prop:=∀p∈ps,0≤slk p x W
def Str (ps:List Q4) (x:Q3) (W:Int):Prop:=∀p∈ps,0<slk p x W
def Vert (ps C:List Q4):Prop:=∀p∈ps,∀q∈ps,∀r∈ps,bN p q r≠0→∀x W,0<W→InP ps x W→slk p x W=0→slk q x W=0→slk r x W=0→∃c∈C,SameAt c x W
theorem Str.inP {ps:List Q4} {x:Q3} {W:Int} (h:Str ps x W):InP ps x W:=fun p hp=>Int.le_of_lt (h p hp)
theorem Bdd.mono {ps qs:List Q4} (h:Bdd ps) (hs:∀p∈ps,p∈qs):Bdd qs:=fun d hd=>by obtain⟨p,hp,h0⟩:=h d hd;exact⟨p,hs p hp,h0⟩
theorem Fy {c:Q4} {x:Q3} {W:Int} (h:SameAt c x W) (f:Q3):bj f (xyz c)*W=bj f x*c.2.2.2:=by
 obtain⟨_,h1,h2,h3⟩:=h
 unfold bj xyz
 grind
theorem GQ {c:Q4} {x:Q3} {W:Int} (h:SameAt c x W) (hW:0<W) (p:Q4) (hp:0≤slk p x W):0≤slk p (xyz c) c.2.2.2:=
 mT hW (by rw[h.slk p];exact qgc hp (Int.le_of_lt h.1))
theorem th (p c:Q4):cw p c= -(slk p (xyz c) c.2.2.2):=by
 unfold cw slk bj nrm xyz
 simp only
 omega
theorem Cq {L C:List Q4} (hB:Bdd L) (hV:Vert L C) (f x:Q3) (W:Int) (hW:0<W) (hin:InP L x W):
  ∃c∈C,0<c.2.2.2∧InP L (xyz c) c.2.2.2∧bj f (xyz c)*W≤bj f x*c.2.2.2:=by
 obtain⟨p1,h1,p2,h2,p3,h3,x',W',hW',hin',z1,z2,z3,h0,hf⟩:=yW L hB f x W hW hin
 obtain⟨c,hc,hs⟩:=hV p1 h1 p2 h2 p3 h3 h0 x' W' hW' hin' z1 z2 z3
 exact⟨c,hc,hs.1,fun q hq=>GQ hs hW' q (hin' q hq),vr hW' hW hs.1 hf (Int.le_of_eq (Fy hs f))⟩
def opQ (p:Q4):Q4:=(-p.1, -p.2.1, -p.2.2.1, -p.2.2.2)
theorem Gs (p:Q4) (x:Q3) (W:Int):slk (opQ p) x W= -(slk p x W):=by unfold slk opQ bj nrm;grind
theorem Et {L:List Q4} {p:Q4} (hp:p∈L) {q:Q4} (hq:q∈opQ p::L) {x:Q3} {W:Int} (h0:slk q x W=0):
  ∃r∈L,slk r x W=0∧∃s:Int,nrm q=(s*r.1,s*r.2.1,s*r.2.2.1):=by
 rcases alsk.1 hq with rfl|hq
 ·refine⟨p,hp,by rw[Gs]at h0;omega, -1, ?_⟩
  unfold nrm opQ
  simp
 ·exact⟨q,hq,h0,1,by unfold nrm;simp⟩
theorem DR {L C:List Q4} {p:Q4} (hp:p∈L) (hB:Bdd L) (hV:Vert L C) (f x:Q3) (W:Int) (hW:0<W) (hin:InP L x W) (h0:slk p x W=0):
  ∃c∈C,0<c.2.2.2∧slk p (xyz c) c.2.2.2=0∧bj f (xyz c)*W≤bj f x*c.2.2.2:=by
 obtain⟨p1,h1,p2,h2,p3,h3,x',W',hW',hin',z1,z2,z3,hd,hf⟩:=yW (opQ p::L) (hB.mono (fun q hq=>List.mem_cons_of_mem _ hq)) f x W hW (fun q hq=>by
  rcases alsk.1 hq with rfl|hq
  ·rw[Gs];omega
  ·exact hin q hq)
 obtain⟨q1,k1,y1,s1,e1⟩:=Et hp h1 z1
 obtain⟨q2,k2,y2,s2,e2⟩:=Et hp h2 z2
 obtain⟨q3,k3,y3,s3,e3⟩:=Et hp h3 z3
 have hd':bN q1 q2 q3≠0:=fun e=>hd (by
  have:bN p1 p2 p3=s1*s2*s3*bN q1 q2 q3:=by
   unfold bN
   rw[e1,e2,e3]
   unfold aN bj nrm
   grind
  rw[this,e,Int.mul_zero])
 obtain⟨c,hc,hs⟩:=hV q1 k1 q2 k2 q3 k3 hd' x' W' hW' (fun q hq=>hin' q (List.mem_cons_of_mem _ hq)) y1 y2 y3
 have ha:=hin' (opQ p) (by simp)
 have hb:=hin' p (List.mem_cons_of_mem _ hp)
 rw[Gs]at ha
 have hz:slk p x' W'=0:=by omega
 refine⟨c,hc,hs.1, ?_,vr hW' hW hs.1 hf (Int.le_of_eq (Fy hs f))⟩
 have h5:=hs.slk p
 rw[hz,Int.zero_mul]at h5
 exact(Int.mul_eq_zero.1 h5).resolve_right (by omega)
theorem Mq (a b c:Int) (h:¬(a=0∧b=0∧c=0)):0<a*a+b*b+c*c:=by
 have ha:0≤a*a:=by rcases Int.le_total 0 a with h|h;exact qgc h h;exact Int.mul_nonneg_of_nonpos_of_nonpos h h
 have hb:0≤b*b:=by rcases Int.le_total 0 b with h|h;exact qgc h h;exact Int.mul_nonneg_of_nonpos_of_nonpos h h
 have hc:0≤c*c:=by rcases Int.le_total 0 c with h|h;exact qgc h h;exact Int.mul_nonneg_of_nonpos_of_nonpos h h
 rcases Decidable.em (a=0)with rfl|h1
 ·rcases Decidable.em (b=0)with rfl|h2
  ·have h3:c≠0:=fun e=>h ⟨rfl,rfl,e⟩
   have:c*c≠0:=fun e=>h3 (by rcases Int.mul_eq_zero.1 e with e|e<;>exact e)
   omega
  ·have:b*b≠0:=fun e=>h2 (by rcases Int.mul_eq_zero.1 e with e|e<;>exact e)
   omega
 ·have:a*a≠0:=fun e=>h1 (by rcases Int.mul_eq_zero.1 e with e|e<;>exact e)
  omega
theorem ne3 {d:Q3} (h:d≠(0,0,0)):¬(d.1=0∧d.2.1=0∧d.2.2=0):=fun⟨h1,h2,h3⟩=>h (by obtain⟨a,b,c⟩:=d;simp only at h1 h2 h3;rw[h1,h2,h3])
theorem ku {d:Q3} (h:d≠(0,0,0)):0<bj d d:=Mq _ _ _ (ne3 h)
theorem Mr (n v:Q3) (hn:n≠(0,0,0)) (hv:bj n v=0):∃d:Q3,d≠(0,0,0)∧bj n d=0∧bj d v=0:=by
 by_cases h0:v=(0,0,0)
 ·subst h0
  by_cases h1:n.1=0∧n.2.1=0
  ·exact⟨(1,0,0),by simp,by unfold bj;simp[h1.1],by unfold bj;simp⟩
  ·refine⟨(n.2.1, -n.1,0), ?_,by unfold bj;grind,by unfold bj;simp⟩
   intro e
   simp only[Prod.mk.injEq]at e
   omega
 ·refine⟨aN n v, ?_,by unfold bj aN;grind,by unfold bj aN;grind⟩
  intro e
  have h1:=ku hn
  have h2:=ku h0
  have h3:bj (aN n v) (aN n v)=bj n n*bj v v-bj n v*bj n v:=by unfold bj aN;grind
  rw[e,hv]at h3
  have h4:=qfY h1 h2
  have:bj ((0,0,0):Q3) (0,0,0)=0:=rfl
  omega
theorem CF (d:Q3) (x:Q3) (W:Int):∀l:List Q4,Str l x W→∃K:Int,0<K∧∀k,K≤k→Str l (mv x d k 1) (k*W)
 | [],_=>⟨1,by omega,fun _ _ q h=>by cases h⟩
 |p::l,h=>by
  obtain⟨K,hK,hk⟩:=CF d x W l (fun q hq=>h q (List.mem_cons_of_mem _ hq))
  have hp:=h p (by simp)
  refine⟨K+(bj (nrm p) d).natAbs,by omega,fun k hk' q hq=> ?_⟩
  rcases alsk.1 hq with rfl|hq
  ·rw[rh,Int.one_mul]
   have h1:k*1≤k*slk q x W:=Int.mul_le_mul_of_nonneg_left hp (by omega)
   omega
  ·exact hk k (by omega) q hq
theorem Da (p:Q4) (x y:Q3) (V W a b:Int):slk p (a*x.1+b*y.1,a*x.2.1+b*y.2.1,a*x.2.2+b*y.2.2) (a*V+b*W)=a*slk p x V+b*slk p y W:=by unfold slk bj;grind
theorem Ms {C:List Q4} {p:Q4} (h3:onA C p<3):∃v:Q3,bj (nrm p) v=0∧∀d:Q3,bj d v=0→∀c∈C,∀c'∈C,slk p (xyz c) c.2.2.2=0→slk p (xyz c') c'.2.2.2=0→bj d (xyz c)*c'.2.2.2=bj d (xyz c')*c.2.2.2:=by
 have hm:∀c∈C,slk p (xyz c) c.2.2.2=0→c∈C.filter (fun x=>cw p x==0):=fun c hc h=>by
  rw[alsm]
  exact⟨hc,by rw[th,h];rfl⟩
 have hs:∀c∈C.filter (fun x=>cw p x==0),slk p (xyz c) c.2.2.2=0:=fun c hc=>by
  have:=(alsm.1 hc).2
  rw[th]at this
  have h2: -(slk p (xyz c) c.2.2.2)=0:=by simpa using this
  omega
 unfold onA at h3
 generalize C.filter (fun x=>cw p x==0)=F at*
 match F,h3 with
 | [],_=>exact⟨(0,0,0),by unfold bj;simp,fun d _ c hc c' _ h _=>by have:=hm c hc h;cases this⟩
 | [a],_=>exact⟨(0,0,0),by unfold bj;simp,fun d _ c hc c' hc' h h'=>by
   have e1:=ultg.1 (hm c hc h)
   have e2:=ultg.1 (hm c' hc' h')
   rw[e1,e2]⟩
 | [a,b],_=>
  refine⟨(a.2.2.2*b.1-b.2.2.2*a.1,a.2.2.2*b.2.1-b.2.2.2*a.2.1,a.2.2.2*b.2.2.1-b.2.2.2*a.2.2.1), ?_,fun d hd c hc c' hc' h h'=> ?_⟩
  ·have h1:=hs a (by simp)
   have h2:=hs b (by simp)
   unfold slk bj xyz nrm at*
   grind
  ·have hab:bj d (xyz b)*a.2.2.2=bj d (xyz a)*b.2.2.2:=by
    unfold bj xyz at*
    grind
   have e1:=hm c hc h
   have e2:=hm c' hc' h'
   simp only[alsk,List.not_mem_nil,or_false]at e1 e2
   rcases e1 with rfl|rfl<;>rcases e2 with rfl|rfl
   ·rfl
   ·exact hab.symm
   ·exact hab
   ·rfl
 |_::_::_::_,h=>exact absurd h (by simp only[qdn];omega)
theorem ID {L M C:List Q4} {p:Q4} (hp:p∈L) (hM:∀q∈L,q=p∨q∈M) (hML:∀q∈M,q∈L) (hB:Bdd L) (hV:Vert L C) (o:Q3) (W0:Int) (hW0:0<W0) (ho:Str L o W0)
  (h3:onA C p<3) (y:Q3) (Wy:Int) (hWy:0<Wy) (hy:InP M y Wy):0≤slk p y Wy:=by
 refine qgk fun hng=> ?_
 have ha:=ho p hp
 generalize hA:slk p o W0=a at*
 obtain⟨b,hb⟩:∃b,b= -(slk p y Wy):=⟨_,rfl⟩
 have hb0:0<b:=by omega
 have hn:nrm p≠(0,0,0):=by
  intro e
  unfold slk at hA hb
  rw[e]at hA hb
  have e0:∀z:Q3,bj (0,0,0) z=0:=fun z=>by unfold bj;simp
  rw[e0]at hA hb
  have h1:0<p.2.2.2:=mu hW0 (by omega)
  have:=qfY h1 hWy
  omega
 obtain⟨v,hv0,hv⟩:=Ms h3
 obtain⟨d,hd0,hd1,hd2⟩:=Mr (nrm p) v hn hv0
 have hdd:=ku hd0
 obtain⟨z,hz⟩:∃z:Q3,z=(b*o.1+a*y.1,b*o.2.1+a*y.2.1,b*o.2.2+a*y.2.2):=⟨_,rfl⟩
 obtain⟨V,hV0⟩:∃V,V=b*W0+a*Wy:=⟨_,rfl⟩
 have hVp:0<V:=by have:=qfY hb0 hW0;have:=qfY ha hWy;omega
 have sz:∀q,slk q z V=b*slk q o W0+a*slk q y Wy:=fun q=>by rw[hz,hV0,Da]
 have szp:slk p z V=0:=by
  rw[sz,hA,show slk p y Wy= -b by omega,Int.mul_neg,Int.mul_comm];omega
 have szM:Str M z V:=fun q hq=>by
  rw[sz]
  have h1:=qfY hb0 (ho q (hML q hq))
  have h2:=qgc (Int.le_of_lt ha) (hy q hq)
  omega
 obtain⟨K1,hK1,k1⟩:=CF d z V M szM
 obtain⟨K2,hK2,k2⟩:=CF (-d.1, -d.2.1, -d.2.2) z V M szM
 obtain⟨k,hk⟩:∃k,k=K1+K2:=⟨_,rfl⟩
 have hkp:0<k:=by omega
 have hkV:0<k*V:=qfY hkp hVp
 have hnf:∀f:Q3,bj f (-d.1, -d.2.1, -d.2.2)= -(bj f d):=fun f=>by unfold bj;grind
 have hnd:∀f:Q3,bj (-d.1, -d.2.1, -d.2.2) f= -(bj d f):=fun f=>by unfold bj;grind
 have i1:InP L (mv z d k 1) (k*V):=fun q hq=>by
  rcases hM q hq with rfl|hq
  ·rw[rh,szp,hd1];omega
  ·exact Int.le_of_lt (k1 k (by omega) q hq)
 have i2:InP L (mv z (-d.1, -d.2.1, -d.2.2) k 1) (k*V):=fun q hq=>by
  rcases hM q hq with rfl|hq
  ·rw[rh,szp,hnf,hd1];omega
  ·exact Int.le_of_lt (k2 k (by omega) q hq)
 have z1:slk p (mv z d k 1) (k*V)=0:=by rw[rh,szp,hd1];omega
 have z2:slk p (mv z (-d.1, -d.2.1, -d.2.2) k 1) (k*V)=0:=by rw[rh,szp,hnf,hd1];omega
 obtain⟨c,hc,hcW,hcp,hcf⟩:=DR hp hB hV d _ _ hkV i2 z2
 obtain⟨c',hc',hcW',hcp',hcf'⟩:=DR hp hB hV (-d.1, -d.2.1, -d.2.2) _ _ hkV i1 z1
 have he:=hv d hd2 c hc c' hc' hcp hcp'
 rw[vq,hnf]at hcf
 rw[vq,hnd,hnd,hnd]at hcf'
 generalize bj d (xyz c)=u at*
 generalize bj d (xyz c')=u' at*
 generalize bj d z=m at*
 generalize bj d d=D at*
 generalize c.2.2.2=w at*
 generalize c'.2.2.2=w' at*
 generalize k*V=T at*
 have f1:u*T*w'≤(k*m+1* -D)*w*w':=qgl hcf (by omega)
 have f2: -u'*T*w≤(k* -m+1* -D)*w'*w:=qgl hcf' (by omega)
 have f3:0<D*(w*w'):=qfY hdd (qfY hcW hcW')
 have f4:u*T*w'=u'*T*w:=by
  have:u*T*w'=u*w'*T:=by grind
  rw[this,he];grind
 have f5:(k*m+1* -D)*w*w'=k*m*(w*w')-D*(w*w'):=by grind
 have f6:(k* -m+1* -D)*w'*w= -(k*m*(w*w'))-D*(w*w'):=by grind
 have f7: -u'*T*w= -(u'*T*w):=by grind
 omega
theorem Dx {L M:List Q4} (hB:Bdd L) (hsub:∀y W,0<W→InP M y W→InP L y W) (o:Q3) (W0:Int) (hW0:0<W0) (ho:InP M o W0):Bdd M:=by
 intro d hd
 refine qgk fun hno=> ?_
 obtain⟨p,hp,hpd⟩:=hB d hd
 have hL:=hsub o W0 hW0 ho p hp
 have h1:InP M (mv o d 1 (slk p o W0+1)) (1*W0):=fun q hq=>by
  rw[rh]
  have h2:bj (nrm q) d≤0:=Int.not_lt.1 fun h=>hno ⟨q,hq,h⟩
  have h3:=qgc (show 0≤slk p o W0+1 by omega) (show 0≤ -(bj (nrm q) d) by omega)
  have h4:=ho q hq
  rw[Int.mul_neg]at h3
  omega
 have h2:=hsub _ _ (by omega) h1 p hp
 rw[rh]at h2
 have h3:(slk p o W0+1)*1≤(slk p o W0+1)*bj (nrm p) d:=Int.mul_le_mul_of_nonneg_left hpd (by omega)
 omega
theorem Vert.sub {L M C:List Q4} (h:Vert L C) (hML:∀q∈M,q∈L) (hsub:∀y W,0<W→InP M y W→InP L y W):Vert M C:=fun p hp q hq r hr hd x W hW hin=>h p (hML p hp) q (hML q hq) r (hML r hr) hd x W hW (hsub x W hW hin)
theorem CG (C:List Q4) (o:Q3) (W0:Int) (hW0:0<W0):∀R K:List Q4,Bdd (K++R)→Vert (K++R) C→Str (K++R) o W0→
  ∀y W,0<W→InP (K++nf R C) y W→InP (K++R) y W
 | [],K,_,_,_=>fun y W _ h=>h
 |r::R,K,hB,hV,ho=>by
  by_cases h3:3≤onA C r
  ·have e1:K++nf (r::R) C=(K++[r])++nf R C:=by unfold nf;simp[h3]
   have e2:K++r::R=(K++[r])++R:=by simp
   rw[e1,e2]
   rw[e2]at hB hV ho
   exact CG C o W0 hW0 R (K++[r]) hB hV ho
  ·have e1:K++nf (r::R) C=K++nf R C:=by unfold nf;simp[h3]
   rw[e1]
   have hM:∀q∈K++r::R,q=r∨q∈K++R:=fun q hq=>by
    simp only[altl,alsk]at hq ⊢
    rcases hq with h|h|h
    ·exact .inr (.inl h)
    ·exact .inl h
    ·exact .inr (.inr h)
   have hML:∀q∈K++R,q∈K++r::R:=fun q hq=>by
    simp only[altl,alsk]at hq ⊢
    rcases hq with h|h
    ·exact .inl h
    ·exact .inr (.inr h)
   have hsub:∀y W,0<W→InP (K++R) y W→InP (K++r::R) y W:=fun y W hW hy q hq=>by
    rcases hM q hq with rfl|h
    ·exact ID (by simp) hM hML hB hV o W0 hW0 ho (by omega) y W hW hy
    ·exact hy q h
   have hoM:Str (K++R) o W0:=fun q hq=>ho q (hML q hq)
   have ih:=CG C o W0 hW0 R K (Dx hB hsub o W0 hW0 hoM.inP) (hV.sub hML hsub) hoM
   exact fun y W hW h=>hsub y W hW (ih y W hW h)
theorem Fz (ps:List Q4) (d e:Q3) (hd:∀p∈ps,bj (nrm p) d≤0) (hde:bj d e=0) (hdd:0<bj d d) (he:∃p∈ps,bj (nrm p) e≠0):
  ∃p∈ps,bj (nrm p) e≠0∧∃d':Q3,(∀q∈ps,bj (nrm q) d'≤0)∧bj (nrm p) d'=0∧d'≠(0,0,0)∧∀q:Q3,bj q d=0→bj q e=0→bj q d'=0:=by
 have key:∀e:Q3,bj d e=0→(∃p∈ps,0<bj (nrm p) e)→∃p∈ps,0<bj (nrm p) e∧∃d':Q3,(∀q∈ps,bj (nrm q) d'≤0)∧bj (nrm p) d'=0∧d'≠(0,0,0)∧∀q:Q3,bj q d=0→bj q e=0→bj q d'=0:=by
  intro e hde he
  obtain⟨p,hp,ht,hm⟩:=nl (fun p=> -(bj (nrm p) d)) (fun p=>bj (nrm p) e) ps he
  have hs:=hd p hp
  refine⟨p,hp,ht,mv d e (bj (nrm p) e) (-(bj (nrm p) d)),fun q hq=> ?_, ?_, ?_,fun q h1 h2=> ?_⟩
  ·rw[vq]
   by_cases h0:0<bj (nrm q) e
   ·have h1:=hm q hq h0
    rw[Int.neg_mul,Int.neg_mul]at h1
    have e1:bj (nrm p) e*bj (nrm q) d=bj (nrm q) d*bj (nrm p) e:=Int.mul_comm _ _
    rw[Int.neg_mul]
    omega
   ·have h1:=qgc (Int.le_of_lt ht) (show 0≤ -(bj (nrm q) d) by have:=hd q hq;omega)
    have h2:=qgc (show 0≤ -(bj (nrm p) d) by omega) (show 0≤ -(bj (nrm q) e) by omega)
    rw[Int.mul_neg]at h1 h2
    omega
  ·rw[vq,Int.neg_mul,Int.mul_comm];omega
  ·intro h0
   have h1:bj d (mv d e (bj (nrm p) e) (-(bj (nrm p) d)))=0:=by rw[h0];unfold bj;simp
   rw[vq,hde,Int.mul_zero,Int.add_zero]at h1
   have:=qfY ht hdd
   omega
  ·rw[vq,h1,h2];omega
 by_cases h:∃p∈ps,0<bj (nrm p) e
 ·obtain⟨p,hp,h0,d',h1,h2,h3,h4⟩:=key e hde h
  exact⟨p,hp,by omega,d',h1,h2,h3,h4⟩
 ·have hn:∀f:Q3,bj f (-e.1, -e.2.1, -e.2.2)= -(bj f e):=fun f=>by unfold bj;grind
  obtain⟨p,hp,h0,d',h1,h2,h3,h4⟩:=key (-e.1, -e.2.1, -e.2.2) (by rw[hn,hde];rfl) (by
   obtain⟨p,hp,h0⟩:=he
   have:¬0<bj (nrm p) e:=fun h1=>h ⟨p,hp,h1⟩
   exact⟨p,hp,by rw[hn];omega⟩)
  rw[hn]at h0
  exact⟨p,hp,by omega,d',h1,h2,h3,fun q g1 g2=>h4 q g1 (by rw[hn,g2];rfl)⟩
theorem FA (ps:List Q4) (h:bx ps=true):Bdd ps:=by
 unfold bx at h
 rw[qaF]at h
 obtain⟨hg,hf⟩:=h
 have hln:∀i k,dJ ps k i=(-(dJ ps i k).1, -(dJ ps i k).2.1, -(dJ ps i k).2.2):=fun i k=>by unfold dJ aN;simp only[Prod.mk.injEq];refine⟨?_, ?_, ?_⟩<;>grind
 have hG:∀p∈ps,∀q∈ps,aN (nrm p) (nrm q)≠(0,0,0)→(∃r∈ps,0<bj (aN (nrm p) (nrm q)) (nrm r))∧∃r∈ps,bj (aN (nrm p) (nrm q)) (nrm r)<0:=by
  have key:∀i k,i<ps.length→k<i→dJ ps i k≠(0,0,0)→(∃r∈ps,0<bj (dJ ps i k) (nrm r))∧∃r∈ps,bj (dJ ps i k) (nrm r)<0:=fun i k hi hk h0=>by
   have h1:=alsi.1 hg i (by simpa using hi)
   have h2:=alsi.1 h1 k (by simpa using hk)
   unfold ij nzB at h2
   rw[qfX h0]at h2
   unfold mR mS at h2
   rw[qgi]at h2
   simp only[Bool.not_true,Bool.false_or,qaF,ultj,qfV]at h2
   exact h2
  intro p hp q hq h0
  obtain⟨i,hi,rfl⟩:=jA hp
  obtain⟨k,hk,rfl⟩:=jA hq
  rcases Nat.lt_trichotomy i k with h1|h1|h1
  ·have e:aN (nrm (bm ps i)) (nrm (bm ps k))=(-(dJ ps k i).1, -(dJ ps k i).2.1, -(dJ ps k i).2.2):=hln k i
   have hn:∀f:Q3,bj (-(dJ ps k i).1, -(dJ ps k i).2.1, -(dJ ps k i).2.2) f= -(bj (dJ ps k i) f):=fun f=>by unfold bj;grind
   rw[e]at h0 ⊢
   obtain⟨⟨r,hr,h2⟩,r',hr',h3⟩:=key k i hk h1 (fun e0=>h0 (by rw[e0];rfl))
   exact⟨⟨r',hr',by rw[hn];omega⟩,r,hr,by rw[hn];omega⟩
  ·subst h1
   exact absurd (by unfold aN;simp only[Prod.mk.injEq];refine⟨?_, ?_, ?_⟩<;>grind) h0
  ·exact key i k hi h1 h0
 have hsp:∃p∈ps,∃q∈ps,∃r∈ps,bN p q r≠0:=by
  unfold jw Rq at hf
  simp only[ultj,ultv]at hf
  obtain⟨i,hi,k,hk,h0⟩:=hf
  have h0:dJ ps i k≠(0,0,0):=of_decide_eq_true h0
  have g:∀j,j<ps.length→bm ps j∈ps:=fun j hj=>by
   have:bm ps j=ps[j]:=by simp[bm,List.getD,hj]
   rw[this];exact qaB hj
  obtain⟨⟨r,hr,h2⟩,_⟩:=hG _ (g i hi) _ (g k (by omega)) h0
  exact⟨_,g i hi,_,g k (by omega),r,hr,by unfold bN;omega⟩
 obtain⟨a,ha,b,hb,c,hc,hden⟩:=hsp
 have hspan:∀e:Q3,e≠(0,0,0)→∃p∈ps,bj (nrm p) e≠0:=fun e he=>by
  refine qgk fun hno=> ?_
  have z:∀p∈ps,bj (nrm p) e=0:=fun p hp=>qgk fun h0=>hno ⟨p,hp,h0⟩
  obtain⟨c1,c2,c3⟩:=yX (nrm a) (nrm b) (nrm c) e
  rw[z a ha,z b hb,z c hc]at c1 c2 c3
  have hz:∀u v w:Q3,fP 0 0 0 u v w=(0,0,0):=fun u v w=>by unfold fP;simp
  rw[hz]at c1 c2 c3
  obtain⟨e1,e2,e3⟩:=e
  unfold bN at hden
  refine he ?_
  have g1:e1=0:=(Int.mul_eq_zero.1 c1).resolve_left hden
  have g2:e2=0:=(Int.mul_eq_zero.1 c2).resolve_left hden
  have g3:e3=0:=(Int.mul_eq_zero.1 c3).resolve_left hden
  rw[g1,g2,g3]
 intro d hd
 refine qgk fun hno=> ?_
 have hcone:∀p∈ps,bj (nrm p) d≤0:=fun p hp=>Int.not_lt.1 fun h=>hno ⟨p,hp,h⟩
 obtain⟨e,he,_,hed⟩:=Mr d (0,0,0) hd (by unfold bj;simp)
 obtain⟨e,he0,hde,_⟩:=Mr d (0,0,0) hd (by unfold bj;simp)
 obtain⟨p1,hp1,hpe,d1,hc1,ht1,hd1,_⟩:=Fz ps d e hcone hde (ku hd) (hspan e he0)
 have hn1:nrm p1≠(0,0,0):=fun e0=>hpe (by rw[e0];unfold bj;simp)
 have he2:aN (nrm p1) d1≠(0,0,0):=fun e0=>by
  have h3:bj (aN (nrm p1) d1) (aN (nrm p1) d1)=bj (nrm p1) (nrm p1)*bj d1 d1-bj (nrm p1) d1*bj (nrm p1) d1:=by unfold bj aN;grind
  rw[e0,ht1]at h3
  have:=qfY (ku hn1) (ku hd1)
  have:bj ((0,0,0):Q3) (0,0,0)=0:=rfl
  omega
 obtain⟨p2,hp2,hpe2,d2,hc2,ht2,hd2,hk2⟩:=Fz ps d1 (aN (nrm p1) d1) hc1 (by unfold bj aN;grind) (ku hd1) (hspan _ he2)
 have ht12:=hk2 (nrm p1) ht1 (by unfold bj aN;grind)
 have hx:aN (nrm p1) (nrm p2)≠(0,0,0):=fun e0=>hpe2 (by
  have:bj (nrm p2) (aN (nrm p1) d1)= -(bj d1 (aN (nrm p1) (nrm p2))):=by unfold bj aN;grind
  rw[this,e0];unfold bj;simp)
 obtain⟨⟨r,hr,h1⟩,r',hr',h2⟩:=hG p1 hp1 p2 hp2 hx
 have hid:∀n:Q3,bj (aN (nrm p1) (nrm p2)) n*bj d2 d2=bj (aN (nrm p1) (nrm p2)) d2*bj n d2:=fun n=>by
  have:bj (aN (nrm p1) (nrm p2)) n*bj d2 d2-bj (aN (nrm p1) (nrm p2)) d2*bj n d2=bj (nrm p1) d2*bj (nrm p2) (aN n d2)-bj (nrm p2) d2*bj (nrm p1) (aN n d2):=by unfold bj aN;grind
  rw[ht12,ht2]at this
  omega
 have hdd:=ku hd2
 have g1:=hid (nrm r)
 have g2:=hid (nrm r')
 have k1:=qfY h1 hdd
 have k2:=qfY (show 0< -(bj (aN (nrm p1) (nrm p2)) (nrm r')) by omega) hdd
 rw[Int.neg_mul]at k2
 have n1:=hc2 r hr
 have n2:=hc2 r' hr'
 rcases Int.le_total 0 (bj (aN (nrm p1) (nrm p2)) d2)with h|h
 ·have:=qgc h (show 0≤ -(bj (nrm r) d2) by omega)
  rw[Int.mul_neg]at this
  omega
 ·have:=qgc (show 0≤ -(bj (aN (nrm p1) (nrm p2)) d2) by omega) (show 0≤ -(bj (nrm r') d2) by omega)
  rw[Int.neg_mul,Int.mul_neg]at this
  omega
def Ins (l:List Q4):Prop:=∃o:Q3,∃W:Int,0<W∧Str l o W
theorem Mt (ps C:List Q4) (h0:0<ps.length) (hC:∀c∈C,0<c.2.2.2∧InP ps (xyz c) c.2.2.2) (hi:∀p∈ps,∃c∈C,0<slk p (xyz c) c.2.2.2):Ins ps:=by
 have key:∀l:List Q4,0<l.length→(∀p∈l,p∈ps)→∃o W,0<W∧InP ps o W∧Str l o W:=by
  intro l
  induction l with
  |nil=>intro h;simp at h
  |cons p l ih=>
   intro _ hl
   obtain⟨c,hc,hs⟩:=hi p (hl p (by simp))
   obtain⟨hcW,hcI⟩:=hC c hc
   by_cases hn:0<l.length
   ·obtain⟨o,W,hW,hI,hS⟩:=ih hn (fun q hq=>hl q (List.mem_cons_of_mem _ hq))
    refine⟨(1*o.1+1*(xyz c).1,1*o.2.1+1*(xyz c).2.1,1*o.2.2+1*(xyz c).2.2),1*W+1*c.2.2.2,by omega,fun q hq=> ?_,fun q hq=> ?_⟩
    ·rw[Da];have:=hI q hq;have:=hcI q hq;omega
    ·rw[Da]
     have h1:=hcI q (hl q hq)
     rcases alsk.1 hq with rfl|hq
     ·have:=hI q (hl q (by simp));omega
     ·have:=hS q hq;omega
   ·have:l=[]:=List.eq_nil_of_length_eq_zero (by omega)
    subst this
    exact⟨xyz c,c.2.2.2,hcW,hcI,fun q hq=>by rw[ultg]at hq;subst hq;exact hs⟩
 obtain⟨o,W,hW,_,hS⟩:=key ps h0 (fun p hp=>hp)
 exact⟨o,W,hW,hS⟩
structure Rep (q:Bod) (S:List Q4):Prop where
 sub:∀x W,0<W→(InP q.1 x W↔InP S x W)
 str:∀x W,Str S x W→Str q.1 x W
 bdd:Bdd q.1
 vert:Vert q.1 q.2
 inC:∀c∈q.2,0<c.2.2.2∧InP q.1 (xyz c) c.2.2.2
 ins:Ins S
theorem IE (p:Q4):∃g:Int,0<g∧∀x W,slk p x W=g*slk (eL p) x W:=by
 unfold eL
 split
 ·rename_i h
  unfold IV at h
  have d1:=aY [p.1,p.2.1,p.2.2.1,p.2.2.2] p.1 (by simp)
  have d2:=aY [p.1,p.2.1,p.2.2.1,p.2.2.2] p.2.1 (by simp)
  have d3:=aY [p.1,p.2.1,p.2.2.1,p.2.2.2] p.2.2.1 (by simp)
  have d4:=aY [p.1,p.2.1,p.2.2.1,p.2.2.2] p.2.2.2 (by simp)
  unfold dG
  generalize aU [p.1,p.2.1,p.2.2.1,p.2.2.2]=g at*
  have e1:=Int.mul_ediv_cancel' d1
  have e2:=Int.mul_ediv_cancel' d2
  have e3:=Int.mul_ediv_cancel' d3
  have e4:=Int.mul_ediv_cancel' d4
  refine⟨g,by omega,fun x W=> ?_⟩
  unfold slk bj nrm
  simp only
  grind
 ·exact⟨1,by omega,fun x W=>by omega⟩
theorem IF {g a b:Int} (hg:0<g) (h:a=g*b):(0<a↔0<b)∧(0≤a↔0≤b):=by
 subst h
 refine⟨⟨fun h=> ?_,fun h=>qfY hg h⟩,⟨fun h=> ?_,fun h=>qgc (Int.le_of_lt hg) h⟩⟩
 ·exact mu hg (by rw[Int.mul_comm];exact h)
 ·exact mT hg (by rw[Int.mul_comm];exact h)
theorem zW (p:Q4) (x:Q3) (W:Int):(0<slk p x W↔0<slk (eL p) x W)∧(0≤slk p x W↔0≤slk (eL p) x W):=by
 obtain⟨g,hg,h⟩:=IE p
 exact IF hg (h x W)
theorem Lz {S:List Q4} {x:Q4} {o y:Q3} {W V:Int} (hW:0<W) (ho:Str S o W) (hV:0<V) (hy:InP S y V) (hx:0<slk x y V):Ins (S++[x]):=by
 obtain⟨t,ht⟩:∃t:Int,t=1+(slk x o W).natAbs:=⟨_,rfl⟩
 refine⟨(1*o.1+t*y.1,1*o.2.1+t*y.2.1,1*o.2.2+t*y.2.2),1*W+t*V, ?_,fun q hq=> ?_⟩
 ·have:=qfY (show 0<t by omega) hV;omega
 ·rw[Da]
  rcases altl.1 hq with hq|hq
  ·have h1:=ho q hq
   have h2:=qgc (show 0≤t by omega) (hy q hq)
   omega
  ·rw[ultg]at hq
   subst hq
   have h2:t*1≤t*slk q y V:=Int.mul_le_mul_of_nonneg_left hx (by omega)
   omega
theorem Ko {q:Bod} {S:List Q4} (h:Rep q S) (r:Q4) (o:Q3) (W:Int) (hW:0<W) (ho:InP q.1 o W):∃c∈q.2,0<c.2.2.2∧InP q.1 (xyz c) c.2.2.2∧slk r o W*c.2.2.2≤slk r (xyz c) c.2.2.2*W:=by
 obtain⟨c,hc,h1,h2,h3⟩:=Cq h.bdd h.vert (nrm r) o W hW ho
 refine⟨c,hc,h1,h2, ?_⟩
 unfold slk
 have e1:(r.2.2.2*W-bj (nrm r) o)*c.2.2.2=r.2.2.2*W*c.2.2.2-bj (nrm r) o*c.2.2.2:=Int.sub_mul _ _ _
 have e2:(r.2.2.2*c.2.2.2-bj (nrm r) (xyz c))*W=r.2.2.2*W*c.2.2.2-bj (nrm r) (xyz c)*W:=by grind
 omega
theorem IG {q:Bod} {S:List Q4} (h:Rep q S) (r:Q4) (o:Q3) (W:Int) (hW:0<W) (ho:InP q.1 o W):∃c∈q.2,0<c.2.2.2∧slk r (xyz c) c.2.2.2*W≤slk r o W*c.2.2.2:=by
 obtain⟨c,hc,h1,_,h3⟩:=Cq h.bdd h.vert (-(nrm r).1, -(nrm r).2.1, -(nrm r).2.2) o W hW ho
 refine⟨c,hc,h1, ?_⟩
 have hn:∀f:Q3,bj (-(nrm r).1, -(nrm r).2.1, -(nrm r).2.2) f= -(bj (nrm r) f):=fun f=>by unfold bj;grind
 rw[hn,hn,Int.neg_mul,Int.neg_mul]at h3
 unfold slk
 have e1:(r.2.2.2*W-bj (nrm r) o)*c.2.2.2=r.2.2.2*W*c.2.2.2-bj (nrm r) o*c.2.2.2:=Int.sub_mul _ _ _
 have e2:(r.2.2.2*c.2.2.2-bj (nrm r) (xyz c))*W=r.2.2.2*W*c.2.2.2-bj (nrm r) (xyz c)*W:=by grind
 omega
theorem Kp {p:Q4} {cs:List Q4} {c:Q4}:c∈Ob p cs↔c∈cs∧cw p c≤0:=by
 unfold Ob
 rw[(tw _ [] List.nodup_nil).2]
 simp
theorem mem_cutC {p:Q4} {b:Bod} {c:Q4}:c∈ol p b b.1.length 0↔(c∈b.2∧cw p c≤0)∨∃i k,i<b.1.length∧k<i∧c∈py p b.1 i k:=by
 unfold ol
 rw[(tw _ _ (by unfold Ob;exact(tw _ [] List.nodup_nil).1)).2,Kp]
 unfold Cu pK
 simp only[altl,List.mem_flatMap,ultv,List.range_zero,List.flatMap_nil,List.not_mem_nil,or_false]
 constructor
 ·rintro(h|⟨i,hi,k,hk,h⟩)
  ·exact .inl h
  ·exact .inr ⟨i,k,hi,hk,h⟩
 ·rintro(h|⟨i,k,hi,hk,h⟩)
  ·exact .inl h
  ·exact .inr ⟨i,hi,k,hk,h⟩
theorem DS (p q r:Q4) (h0:bN p q r≠0):0<(TB p q r (bN p q r)).2.2.2:=by
 unfold TB
 exact(AZ _ _ _ _ h0).choose_spec.2.2.2.2.2
theorem FB {p:Q4} {ps:List Q4} {i k:Nat} {x:Q3} {W:Int} (hW:0<W) (hin:InP (ps++[p]) x W) (h0:bN p (bm ps i) (bm ps k)≠0) (zp:slk p x W=0) (zi:slk (bm ps i) x W=0) (zk:slk (bm ps k) x W=0):
  ∃c∈py p ps i k,SameAt c x W:=by
 have hs:=ri _ _ _ x W h0 zp zi zk
 have e:lD p (bm ps i) (bm ps k)=TB p (bm ps i) (bm ps k) (bN p (bm ps i) (bm ps k)):=by unfold lD;rw[if_neg h0]
 have ha:=rj hs hW hin
 have ho:okB p (bm ps i) (bm ps k)=true:=by unfold okB;simpa using h0
 refine⟨_, ?_,hs⟩
 unfold py
 rw[e,ho,ha]
 simp
theorem Kq {p:Q4} {ps:List Q4} {i k:Nat} {c:Q4} (h:c∈py p ps i k):0<c.2.2.2∧InP (ps++[p]) (xyz c) c.2.2.2:=by
 unfold py at h
 split at h
 ·rename_i hc
  rw[qaF]at hc
  rw[ultg]at h
  have h0:bN p (bm ps i) (bm ps k)≠0:=by have:=hc.1;unfold okB at this;simpa using this
  have e:lD p (bm ps i) (bm ps k)=TB p (bm ps i) (bm ps k) (bN p (bm ps i) (bm ps k)):=by unfold lD;rw[if_neg h0]
  have ha:=hc.2
  rw[←h]at ha
  refine⟨by rw[h,e];exact DS _ _ _ h0,fun q hq=>dL ha hq⟩
 ·cases h
theorem Kr {p:Q4} {ps:List Q4} {a b:Q4} (ha:a∈ps) (hb:b∈ps) (h0:bN p a b≠0) {x:Q3} {W:Int} (hW:0<W) (hin:InP (ps++[p]) x W) (zp:slk p x W=0) (za:slk a x W=0) (zb:slk b x W=0):
  ∃i k,i<ps.length∧k<i∧∃c∈py p ps i k,SameAt c x W:=by
 obtain⟨i,hi,rfl⟩:=jA ha
 obtain⟨k,hk,rfl⟩:=jA hb
 rcases Nat.lt_trichotomy i k with h1|h1|h1
 ·exact⟨k,i,hk,h1,FB hW hin (by rw[iH];omega) zp zb za⟩
 ·subst h1
  exact absurd (tr _ _) h0
 ·exact⟨i,k,hi,h1,FB hW hin h0 zp za zb⟩
theorem Ks {q:Bod} {p:Q4} (hV:Vert q.1 q.2):Vert (q.1++[p]) (ol p q q.1.length 0):=by
 intro a ha b hb c hc hd x W hW hin za zb zc
 have hp:=hin p (by simp)
 have via:∀u v:Q4,u∈q.1++[p]→v∈q.1++[p]→bN p u v≠0→slk p x W=0→slk u x W=0→slk v x W=0→∃c∈ol p q q.1.length 0,SameAt c x W:=fun u v hu hv h0 z1 z2 z3=>by
  have hu':u∈q.1:=by
   rcases altl.1 hu with h|h
   ·exact h
   ·rw[ultg]at h;subst h;exact absurd (tq _ _) h0
  have hv':v∈q.1:=by
   rcases altl.1 hv with h|h
   ·exact h
   ·rw[ultg]at h;subst h;exact absurd (tt _ _) h0
  obtain⟨i,k,hi,hk,c,hc,hs⟩:=Kr hu' hv' h0 hW hin z1 z2 z3
  exact⟨c,mem_cutC.2 (.inr ⟨i,k,hi,hk,hc⟩),hs⟩
 rcases altl.1 ha with ha'|ha'
 ·rcases altl.1 hb with hb'|hb'
  ·rcases altl.1 hc with hc'|hc'
   ·obtain⟨d,hd',hs⟩:=hV a ha' b hb' c hc' hd x W hW (fun q hq=>hin q (by simp[hq])) za zb zc
    refine⟨d,mem_cutC.2 (.inl ⟨hd', ?_⟩),hs⟩
    rw[th]
    have:=GQ hs hW p hp
    omega
   ·rw[ultg]at hc'
    subst hc'
    exact via a b ha hb (by rw[gC,iH];omega) zc za zb
  ·rw[ultg]at hb'
   subst hb'
   exact via a c ha hc (by rw[gC];omega) zb za zc
 ·rw[ultg]at ha'
  subst ha'
  exact via b c hb hc hd za zb zc
theorem inP_snoc {S:List Q4} {x:Q4} {o:Q3} {W:Int}:InP (S++[x]) o W↔InP S o W∧0≤slk x o W:=by
 unfold InP
 simp only[altl,ultg]
 constructor
 ·intro h;exact⟨fun p hp=>h p (.inl hp),h x (.inr rfl)⟩
 ·rintro⟨h1,h2⟩ p (hp|rfl)
  ·exact h1 p hp
  ·exact h2
theorem str_snoc {S:List Q4} {x:Q4} {o:Q3} {W:Int}:Str (S++[x]) o W↔Str S o W∧0<slk x o W:=by
 unfold Str
 simp only[altl,ultg]
 constructor
 ·intro h;exact⟨fun p hp=>h p (.inl hp),h x (.inr rfl)⟩
 ·rintro⟨h1,h2⟩ p (hp|rfl)
  ·exact h1 p hp
  ·exact h2
theorem FC {L C S:List Q4} (hB:Bdd L) (hV:Vert L C) (hC:∀c∈C,0<c.2.2.2∧InP L (xyz c) c.2.2.2) (hsub:∀x W,0<W→(InP L x W↔InP S x W)) (hstr:∀x W,Str S x W→Str L x W) (hi:Ins S):Rep (nf L C,C) S:=by
 obtain⟨o,W0,hW0,ho⟩:=hi
 have hoL:=hstr o W0 ho
 have hm:=(BM L C).2
 have hn:∀x W,0<W→InP (nf L C) x W→InP L x W:=fun x W hW h=>CG C o W0 hW0 L [] hB hV hoL x W hW h
 exact{
  sub:=fun x W hW=>⟨fun h=>(hsub x W hW).1 (hn x W hW h),fun h p hp=>(hsub x W hW).2 h p (hm p hp)⟩
  str:=fun x W h p hp=>hstr x W h p (hm p hp)
  bdd:=Dx hB hn o W0 hW0 (fun p hp=>Int.le_of_lt (hoL p (hm p hp)))
  vert:=hV.sub hm hn
  inC:=fun c hc=>⟨(hC c hc).1,fun p hp=>(hC c hc).2 p (hm p hp)⟩
  ins:=⟨o,W0,hW0,ho⟩}
theorem LA {q:Bod} {S:List Q4} (h:Rep q S) (x:Q4):((qm q x).2=true→Rep (qm q x).1 (S++[x]))∧((qm q x).2=false→¬Ins (S++[x])):=by
 have hwi:wiA (eL x) q.2=false→¬Ins (S++[x]):=fun hw hI=>by
  obtain⟨o,W,hW,ho⟩:=hI
  obtain⟨h1,h2⟩:=str_snoc.1 ho
  obtain⟨c,hc,hcW,_,h3⟩:=Ko h (eL x) o W hW ((h.sub o W hW).2 h1.inP)
  have h4:=qfY ((zW x o W).1.1 h2) hcW
  have h5:0<slk (eL x) (xyz c) c.2.2.2:=mu hW (by omega)
  unfold wiA at hw
  rw[ultp]at hw
  exact hw c hc (by rw[th];simp;omega)
 have hwt:wiA (eL x) q.2=true→Ins (S++[x]):=fun hw=>by
  obtain⟨o,W,hW,ho⟩:=h.ins
  unfold wiA at hw
  rw[ultj]at hw
  obtain⟨c,hc,hs⟩:=hw
  have hs:=of_decide_eq_true hs
  rw[th]at hs
  obtain⟨hcW,hcI⟩:=h.inC c hc
  exact Lz hW ho hcW ((h.sub _ _ hcW).1 hcI) ((zW x _ _).1.2 (by omega))
 unfold qm
 by_cases hw:wiA (eL x) q.2=true
 ·by_cases hb:beA (eL x) q.2=true
  ·rw[if_pos (by rw[hw,hb];rfl)]
   refine⟨fun _=> ?_,(fun h=>by cases h)⟩
   have hC:∀c∈ol (eL x) q q.1.length 0,0<c.2.2.2∧InP (q.1++[eL x]) (xyz c) c.2.2.2:=fun c hc=>by
    rcases mem_cutC.1 hc with⟨h1,h2⟩|⟨i,k,_,_,h1⟩
    ·rw[th]at h2
     exact⟨(h.inC c h1).1,inP_snoc.2 ⟨(h.inC c h1).2,by omega⟩⟩
    ·exact Kq h1
   exact FC (h.bdd.mono (fun p hp=>by simp[hp])) (Ks h.vert) hC
    (fun y W hW=>by rw[inP_snoc,inP_snoc,h.sub y W hW,(zW x y W).2])
    (fun y W hy=>by
     obtain⟨h1,h2⟩:=str_snoc.1 hy
     exact str_snoc.2 ⟨h.str y W h1,(zW x y W).1.1 h2⟩) (hwt hw)
  ·rw[if_neg (by rw[hw];simpa using hb)]
   refine⟨fun _=> ?_,fun h=> ?_⟩
   rotate_left
   ·simp only at h
    rw[hw]at h
    cases h
   have hall:∀y W,0<W→InP q.1 y W→0≤slk x y W:=fun y W hW hy=>by
    obtain⟨c,hc,hcW,h3⟩:=IG h (eL x) y W hW hy
    have h4:¬0<cw (eL x) c:=fun h5=>hb (by unfold beA;rw[ultj];exact⟨c,hc,by simpa using h5⟩)
    rw[th]at h4
    have h5:=qgc (show 0≤slk (eL x) (xyz c) c.2.2.2 by omega) (Int.le_of_lt hW)
    exact(zW x y W).2.2 (mT hcW (by omega))
   exact{
    sub:=fun y W hW=>⟨fun hy=>inP_snoc.2 ⟨(h.sub y W hW).1 hy,hall y W hW hy⟩,fun hy=>(h.sub y W hW).2 (inP_snoc.1 hy).1⟩
    str:=fun y W hy=>h.str y W (str_snoc.1 hy).1
    bdd:=h.bdd
    vert:=h.vert
    inC:=h.inC
    ins:=hwt hw}
 ·have hw':wiA (eL x) q.2=false:=by simpa using hw
  rw[if_neg (by rw[hw'];simp)]
  refine⟨fun h=> ?_,fun _=>hwi hw'⟩
  simp only at h
  rw[hw']at h
  cases h
theorem Kt (ps:List Q4):Vert ps (ct ps):=fun p hp q hq r hr hd x W hW hin z1 z2 z3=>by
 obtain⟨c,hc,hs⟩:=np ps p q r hp hq hr x W hW hin z1 z2 z3 hd
 exact⟨c,((kT ps).2 c).2 hc,hs⟩
theorem Ku (ps:List Q4):∀c∈ct ps,0<c.2.2.2∧InP ps (xyz c) c.2.2.2:=fun c hc=>by
 have hr:=((kT ps).2 c).1 hc
 obtain⟨p,_,q,_,r,_,h0,e⟩:=YN (qaA _) hr
 exact⟨by rw[e];exact DS _ _ _ h0,fun q hq=>dL (ld hr) hq⟩
theorem Ql {ps:List Q4} (hB:Bdd ps):ps.all (gM (ct ps))=true↔Ins ps:=by
 have hne:0<ps.length:=by
  obtain⟨p,hp,_⟩:=hB (1,0,0) (by simp)
  exact List.length_pos_of_mem hp
 constructor
 ·intro h
  rw[alsi]at h
  refine Mt ps (ct ps) hne (Ku ps) (fun p hp=> ?_)
  have h1:=h p hp
  unfold gM at h1
  rw[ultj]at h1
  obtain⟨c,hc,h2⟩:=h1
  have h2:=of_decide_eq_true h2
  rw[mt,dp]at h2
  exact⟨c,hc,h2⟩
 ·rintro⟨o,W,hW,ho⟩
  rw[alsi]
  intro p hp
  obtain⟨c,hc,hs⟩:=Sx ps hB o W hW ho p hp
  unfold gM
  rw[ultj]
  exact⟨c,((kT ps).2 c).2 hc,by simpa using hs⟩
def go3 (x w:Q3) (T:Int):Q3:=(x.1+T*w.1,x.2.1+T*w.2.1,x.2.2+T*w.2.2)
def Hit (P Q:List Q4) (w:Q3):Prop:=∃x:Q3,∃W T:Int,0<W∧0≤T∧Str P x W∧Str Q (go3 x w T) W
def Dy (w:Q3):Q3:=(-w.1, -w.2.1, -w.2.2)
theorem Kv (x w:Q3) (T:Int):go3 (go3 x w T) (Dy w) T=x:=by
 obtain⟨a,b,c⟩:=x
 unfold go3 Dy
 simp only[Prod.mk.injEq]
 refine⟨?_, ?_, ?_⟩<;>grind
theorem GR {P Q:List Q4} {w:Q3} (h:Hit P Q w):Hit Q P (Dy w):=by
 obtain⟨x,W,T,hW,hT,h1,h2⟩:=h
 exact⟨go3 x w T,W,T,hW,hT,h2,by rw[Kv];exact h1⟩
theorem Dz (w:Q3):Dy (Dy w)=w:=by obtain⟨a,b,c⟩:=w;simp[Dy]
theorem hit_sym {P Q:List Q4} {w:Q3}:Hit P Q w↔Hit Q P (Dy w):=⟨GR,fun h=>by have:=GR h;rwa [Dz]at this⟩
theorem Eu (p:Q4) (x w:Q3) (W T:Int):slk p (go3 x w T) W=slk p x W-T*bj (nrm p) w:=by unfold slk go3 bj;grind
theorem Ev (x y:Q4) (w z:Q3) (W:Int):slk (kv x y w) z W= -(bj (nrm y) w)*slk x z W+bj (nrm x) w*slk y z W:=by
 unfold kv
 generalize bj (nrm y) w=a
 generalize bj (nrm x) w=b
 unfold slk bj nrm
 simp only
 grind
def IH (P:List Q4) (w:Q3):List Q4:=P.filter fun x=>decide (bj (nrm x) w≤0)
def Kw (P:List Q4) (w:Q3):List Q4:=(cr P w).flatMap fun x=>((bc P w).filter fun y=>decide (nrm (kv x y w)≠(0,0,0))).map fun y=>kv x y w
theorem LB (q:Option Bod) (w:Q3) (l:List Q4):l.foldl (zn w) q=(IH l w).foldl BU q:=by
 unfold IH
 induction l generalizing q with
 |nil=>rfl
 |cons x l ih=>
  rw[List.foldl_cons,ih,qgg]
  unfold zn
  split
  ·rw[if_pos (qfX ‹_›)];rfl
  ·rw[if_neg (by rw[qfV];assumption)]
theorem LC (q:Option Bod) (x:Q4) (w:Q3) (l:List Q4):l.foldl (BW x w) q=((l.filter fun y=>decide (nrm (kv x y w)≠(0,0,0))).map fun y=>kv x y w).foldl BU q:=by
 induction l generalizing q with
 |nil=>rfl
 |cons y l ih=>
  rw[List.foldl_cons,ih,qgg]
  unfold BW
  by_cases h:nrm (kv x y w)=(0,0,0)
  ·rw[if_pos h,if_neg (by simpa using h)]
  ·rw[if_neg h,if_pos (by simpa using h)];rfl
theorem LD (q:Option Bod) (B:List Q4) (w:Q3) (l:List Q4):l.foldl (fun q x=>B.foldl (BW x w) q) q=(l.flatMap fun x=>(B.filter fun y=>decide (nrm (kv x y w)≠(0,0,0))).map fun y=>kv x y w).foldl BU q:=by
 induction l generalizing q with
 |nil=>rfl
 |cons x l ih=>rw[List.foldl_cons,ih,qgm,List.foldl_append,LC]
theorem FD (p q:Bod) (w:Q3):DV p q w=(IH p.1 w++Kw p.1 w).foldl BU (some q):=by
 unfold DV Kw
 rw[LD,LB,List.foldl_append]
theorem II (l:List Q4):l.foldl BU none=none:=by
 induction l with
 |nil=>rfl
 |cons x l ih=>exact ih
theorem Ins.pre {S l:List Q4} (h:Ins (S++l)):Ins S:=by
 obtain⟨o,W,hW,h⟩:=h
 exact⟨o,W,hW,fun p hp=>h p (by simp[hp])⟩
theorem Kx (l:List Q4):∀(q:Bod) (S:List Q4),Rep q S→((l.foldl BU (some q)).isSome=true↔Ins (S++l)):=by
 induction l with
 |nil=>intro q S h;rw[qgd];exact⟨fun _=>h.ins,fun _=>rfl⟩
 |cons x l ih=>
  intro q S h
  obtain⟨h1,h2⟩:=LA h x
  rw[List.foldl_cons]
  show(l.foldl BU (if(qm q x).2 then some (qm q x).1 else none)).isSome=true↔_
  cases hc:(qm q x).2 with
  |true=>
   rw[if_pos rfl,ih _ _ (h1 hc),List.append_assoc]
   rfl
  |false=>
   rw[if_neg (by simp),II]
   refine⟨fun h=>by simp at h,fun h=>absurd ?_ (h2 hc)⟩
   rw[show S++x::l=(S++[x])++l by simp]at h
   exact h.pre
theorem IJ (f:Q4→Int) (l:List Q4):∃K:Int,0<K∧∀p∈l, -K<f p:=by
 induction l with
 |nil=>exact⟨1,by omega,fun _ h=>by cases h⟩
 |cons x l ih=>
  obtain⟨K,hK,h⟩:=ih
  refine⟨K+(f x).natAbs+1,by omega,fun p hp=> ?_⟩
  rcases alsk.1 hp with rfl|hp
  ·omega
  ·have:=h p hp;omega
theorem IK (p:Q4) (x:Q3) (W k:Int):slk p (k*x.1,k*x.2.1,k*x.2.2) (k*W)=k*slk p x W:=by unfold slk bj;grind
theorem LE {P Q:List Q4} {w:Q3} (hw:w≠(0,0,0)) (hB:Bdd P) (hI:Ins P):Ins (Q++(IH P w++Kw P w))↔Hit P Q w:=by
 constructor
 ·rintro⟨y,W,hW,hS⟩
  have hQ:Str Q y W:=fun p hp=>hS p (by simp[hp])
  have h1:∀p∈P,bj (nrm p) w≤0→0<slk p y W:=fun p hp h=>hS p (by
   unfold IH
   simp only[altl,alsm,qfV]
   exact .inr (.inl ⟨hp,h⟩))
  have h2:∀a∈P,∀b∈P,0<bj (nrm a) w→bj (nrm b) w<0→0<slk (kv a b w) y W:=fun a ha b hb pa pb=>by
   by_cases h0:nrm (kv a b w)=(0,0,0)
   ·obtain⟨o,W0,hW0,ho⟩:=hI
    have e:=Ev a b w o W0
    have pos:0<slk (kv a b w) o W0:=by
     rw[e]
     have u1:=qfY (show 0< -(bj (nrm b) w) by omega) (ho a ha)
     have u2:=qfY pa (ho b hb)
     omega
    have z:∀x V,slk (kv a b w) x V=(kv a b w).2.2.2*V:=fun x V=>by unfold slk;rw[h0];simp[bj]
    rw[z]at pos ⊢
    exact qfY (mu hW0 pos) hW
   ·refine hS _ ?_
    unfold Kw cr bc
    simp only[altl,List.mem_flatMap,altt,alsm,qfV]
    exact .inr (.inr ⟨a,⟨ha,pa⟩,b,⟨⟨hb,pb⟩,h0⟩,rfl⟩)
  obtain⟨b,hb,tb,hm⟩:=nl (fun p=>slk p y W) (fun p=> -(bj (nrm p) w)) P (by
   obtain⟨p,hp,h⟩:=hB (Dy w) (fun h=>hw (by rw[←Dz w,h];rfl))
   exact⟨p,hp,by unfold bj Dy at h;unfold bj;grind⟩)
  have sb:=h1 b hb (by omega)
  obtain⟨K,hK,hk⟩:=IJ (fun p=>slk p y W) P
  refine⟨((K* -(bj (nrm b) w)+1)*y.1-K*slk b y W*w.1,(K* -(bj (nrm b) w)+1)*y.2.1-K*slk b y W*w.2.1,(K* -(bj (nrm b) w)+1)*y.2.2-K*slk b y W*w.2.2),(K* -(bj (nrm b) w)+1)*W,K*slk b y W, ?_,qgc (by omega) (by omega),fun p hp=> ?_,fun q hq=> ?_⟩
  ·exact qfY (by have:=qfY hK tb;omega) hW
  ·have e:slk p ((K* -(bj (nrm b) w)+1)*y.1-K*slk b y W*w.1,(K* -(bj (nrm b) w)+1)*y.2.1-K*slk b y W*w.2.1,(K* -(bj (nrm b) w)+1)*y.2.2-K*slk b y W*w.2.2) ((K* -(bj (nrm b) w)+1)*W)=K*(-(bj (nrm b) w)*slk p y W+slk b y W*bj (nrm p) w)+slk p y W:=by
    generalize bj (nrm b) w=t
    generalize slk b y W=s
    unfold slk bj
    grind
   rw[e]
   by_cases hp0:0<bj (nrm p) w
   ·have h3:=h2 p hp b hb hp0 (by omega)
    rw[Ev]at h3
    have e2:slk b y W*bj (nrm p) w=bj (nrm p) w*slk b y W:=Int.mul_comm _ _
    rw[e2]
    have h4:K*1≤K*(-(bj (nrm b) w)*slk p y W+bj (nrm p) w*slk b y W):=Int.mul_le_mul_of_nonneg_left (by omega) (by omega)
    have h5:=hk p hp
    omega
   ·have h3:=h1 p hp (by omega)
    have h4:0≤ -(bj (nrm b) w)*slk p y W+slk b y W*bj (nrm p) w:=by
     by_cases hz:bj (nrm p) w=0
     ·rw[hz,Int.mul_zero,Int.add_zero]
      exact qgc (by omega) (by omega)
     ·have h5:=hm p hp (by omega)
      have e1:slk b y W* -(bj (nrm p) w)= -(slk b y W*bj (nrm p) w):=Int.mul_neg _ _
      have e2:slk p y W* -(bj (nrm b) w)= -(bj (nrm b) w)*slk p y W:=Int.mul_comm _ _
      omega
    have h5:=qgc (show 0≤K by omega) h4
    omega
  ·have e:go3 ((K* -(bj (nrm b) w)+1)*y.1-K*slk b y W*w.1,(K* -(bj (nrm b) w)+1)*y.2.1-K*slk b y W*w.2.1,(K* -(bj (nrm b) w)+1)*y.2.2-K*slk b y W*w.2.2) w (K*slk b y W)=((K* -(bj (nrm b) w)+1)*y.1,(K* -(bj (nrm b) w)+1)*y.2.1,(K* -(bj (nrm b) w)+1)*y.2.2):=by
    unfold go3
    simp only[Prod.mk.injEq]
    refine⟨?_, ?_, ?_⟩<;>omega
   rw[e,IK]
   exact qfY (by have:=qfY hK tb;omega) (hQ q hq)
 ·rintro⟨x,W,T,hW,hT,hP,hQ⟩
  refine⟨go3 x w T,W,hW,fun p hp=> ?_⟩
  rcases altl.1 hp with hp|hp
  ·exact hQ p hp
  ·rcases altl.1 hp with hp|hp
   ·unfold IH at hp
    simp only[alsm,qfV]at hp
    rw[Eu]
    have h1:=hP p hp.1
    have h2:=qgc hT (show 0≤ -(bj (nrm p) w) by omega)
    rw[Int.mul_neg]at h2
    omega
   ·unfold Kw cr bc at hp
    simp only[List.mem_flatMap,altt,alsm,qfV]at hp
    obtain⟨a,⟨ha,pa⟩,b,⟨⟨hb,pb⟩, -⟩,rfl⟩:=hp
    have e:slk (kv a b w) (go3 x w T) W= -(bj (nrm b) w)*slk a x W+bj (nrm a) w*slk b x W:=by
     rw[Ev,Eu,Eu]
     generalize bj (nrm a) w=u
     generalize bj (nrm b) w=v
     grind
    rw[e]
    have u1:=qfY (show 0< -(bj (nrm b) w) by omega) (hP a ha)
    have u2:=qfY pa (hP b hb)
    omega
theorem Mu {A S:List Q4} (h:∀x W,0<W→InP A x W→InP S x W) (hI:Ins S) {x:Q3} {W:Int} (hW:0<W) (hs:Str A x W):Str S x W:=by
 intro p hp
 by_cases h0:nrm p=(0,0,0)
 ·obtain⟨o,W0,hW0,ho⟩:=hI
  have z:∀x V,slk p x V=p.2.2.2*V:=fun x V=>by unfold slk;rw[h0];simp[bj]
  have pos:=ho p hp
  rw[z]at pos ⊢
  exact qfY (mu hW0 pos) hW
 ·obtain⟨K,hK,hk⟩:=CF (nrm p) x W A hs
  have h1:=h _ _ (qfY hK hW) (hk K (Int.le_refl _)).inP p hp
  rw[rh]at h1
  have h2:=ku h0
  exact mu hK (by rw[Int.mul_comm];omega)
theorem Rep.strOf {q:Bod} {S:List Q4} (h:Rep q S) {x:Q3} {W:Int} (hW:0<W):Str q.1 x W↔Str S x W:=
 ⟨Mu (fun x W hW=>(h.sub x W hW).1) h.ins hW,h.str x W⟩
theorem Ky {P P' Q Q':List Q4} {w:Q3} (h1:∀x W,0<W→Str P x W→Str P' x W) (h2:∀x W,0<W→Str Q x W→Str Q' x W) (h:Hit P Q w):Hit P' Q' w:=by
 obtain⟨x,W,T,hW,hT,a,b⟩:=h
 exact⟨x,W,T,hW,hT,h1 _ _ hW a,h2 _ _ hW b⟩
theorem MK (i:Nat) (c:Q4) (h:0<c.2.2.2):flA i c*c.2.2.2≤axA i c:=by unfold flA;exact Int.ediv_mul_le _ (by omega)
theorem ML (i:Nat) (c:Q4) (h:0<c.2.2.2):axA i c≤clA i c*c.2.2.2:=by
 unfold clA flA
 have h1:=Int.emod_add_mul_ediv (axA i c) c.2.2.2
 have h2:=Int.emod_lt_of_pos (axA i c) h
 have e:axA i c / c.2.2.2*c.2.2.2=c.2.2.2*(axA i c / c.2.2.2):=Int.mul_comm _ _
 split
 ·omega
 ·rw[Int.add_mul];omega
theorem Cr (f:Q4→Int) (l:List Q4):∀m:Int,m≤l.foldl (fun m y=>max m (f y)) m∧∀c∈l,f c≤l.foldl (fun m y=>max m (f y)) m:=by
 induction l with
 |nil=>exact fun m=>⟨Int.le_refl _,fun _ h=>by cases h⟩
 |cons x l ih=>
  intro m
  obtain⟨h1,h2⟩:=ih (max m (f x))
  refine⟨by rw[List.foldl_cons];omega,fun c hc=> ?_⟩
  rw[List.foldl_cons]
  rcases alsk.1 hc with rfl|hc
  ·omega
  ·exact h2 c hc
theorem Cs (f:Q4→Int) (l:List Q4):∀m:Int,l.foldl (fun m y=>min m (f y)) m≤m∧∀c∈l,l.foldl (fun m y=>min m (f y)) m≤f c:=by
 induction l with
 |nil=>exact fun m=>⟨Int.le_refl _,fun _ h=>by cases h⟩
 |cons x l ih=>
  intro m
  obtain⟨h1,h2⟩:=ih (min m (f x))
  refine⟨by rw[List.foldl_cons];omega,fun c hc=> ?_⟩
  rw[List.foldl_cons]
  rcases alsk.1 hc with rfl|hc
  ·omega
  ·exact h2 c hc
theorem LF (i:Nat) {C:List Q4} {c:Q4} (h:c∈C):clA i c≤bt i C:=by
 cases C with
 |nil=>cases h
 |cons x l=>
  unfold bt
  rcases alsk.1 h with rfl|h
  ·exact(Cr _ l _).1
  ·exact(Cr _ l _).2 c h
theorem Mv (i:Nat) {C:List Q4} {c:Q4} (h:c∈C):eT i C≤flA i c:=by
 cases C with
 |nil=>cases h
 |cons x l=>
  unfold eT
  rcases alsk.1 h with rfl|h
  ·exact(Cs _ l _).1
  ·exact(Cs _ l _).2 c h
def ax3 (i:Nat) (x:Q3):Int:=if i=0 then x.1 else if i=1 then x.2.1 else x.2.2
def CP (i:Nat) (s:Int):Q3:=(if i=0 then s else 0,if i=0 then 0 else if i=1 then s else 0,if i=0 then 0 else if i=1 then 0 else s)
theorem Ct (i:Nat) (s:Int) (x:Q3):bj (CP i s) x=s*ax3 i x:=by
 unfold bj CP ax3
 by_cases h0:i=0
 ·simp[h0]
 ·by_cases h1:i=1
  ·simp[h1]
  ·simp[h0,h1]
theorem VJ (i:Nat) (c:Q4):ax3 i (xyz c)=axA i c:=rfl
theorem GT {q:Bod} {S:List Q4} (h:Rep q S) (i:Nat) {x:Q3} {W:Int} (hW:0<W) (hx:InP S x W):ax3 i x≤bt i q.2*W:=by
 obtain⟨c,hc,c0, -,h3⟩:=Cq h.bdd h.vert (CP i (-1)) x W hW ((h.sub x W hW).2 hx)
 rw[Ct,Ct,VJ]at h3
 have h4:=ML i c c0
 have h5:=LF i hc
 have h6:axA i c*W≤clA i c*c.2.2.2*W:=qgl h4 (by omega)
 have h7:ax3 i x*c.2.2.2≤clA i c*W*c.2.2.2:=by
  have e1: -1*axA i c*W= -(axA i c*W):=by grind
  have e2: -1*ax3 i x*c.2.2.2= -(ax3 i x*c.2.2.2):=by grind
  have e3:clA i c*c.2.2.2*W=clA i c*W*c.2.2.2:=by grind
  omega
 have h8:=Int.le_of_mul_le_mul_right h7 c0
 exact Int.le_trans h8 (qgl h5 (by omega))
theorem Kz {q:Bod} {S:List Q4} (h:Rep q S) (i:Nat) {x:Q3} {W:Int} (hW:0<W) (hx:InP S x W):eT i q.2*W≤ax3 i x:=by
 obtain⟨c,hc,c0, -,h3⟩:=Cq h.bdd h.vert (CP i 1) x W hW ((h.sub x W hW).2 hx)
 rw[Ct,Ct,VJ,Int.one_mul,Int.one_mul]at h3
 have h4:=MK i c c0
 have h5:=Mv i hc
 have h6:flA i c*c.2.2.2*W≤axA i c*W:=qgl h4 (by omega)
 have h7:flA i c*W*c.2.2.2≤ax3 i x*c.2.2.2:=by
  have e3:flA i c*c.2.2.2*W=flA i c*W*c.2.2.2:=by grind
  omega
 have h8:=Int.le_of_mul_le_mul_right h7 c0
 exact Int.le_trans (qgl h5 (by omega)) h8
theorem GU (i:Nat) (x w:Q3) (T:Int):ax3 i (go3 x w T)=ax3 i x+T*stA i w:=by
 unfold ax3 go3 stA
 split
 ·rfl
 ·split<;>rfl
theorem KA (i:Nat) (x d:Q3) (k:Int):ax3 i (mv x d k 1)=k*ax3 i x+ax3 i d:=by
 unfold ax3 mv
 split<;>(try split)<;>simp only[Int.one_mul]
theorem FE (i:Nat) (s:Int):ax3 i (CP i s)=s:=by
 unfold ax3 CP
 by_cases h0:i=0
 ·simp[h0]
 ·by_cases h1:i=1
  ·simp[h1]
  ·simp[h0,h1]
theorem Ew {p q:Bod} {S S':List Q4} (hp:Rep p S) (hq:Rep q S') {w:Q3} (i:Nat) (h:wd p.2 q.2 w i=true):¬Hit S S' w:=by
 rintro⟨x,W,T,hW,hT,hP,hQ⟩
 unfold wd at h
 simp only[qgf,qaF,qfV]at h
 have hin:∀{k:Int} {z:Q3} {V:Int},Str S' z V→InP S' z V:=fun h=>h.inP
 rcases h with⟨h1,h2⟩|⟨h1,h2⟩
 ·have a1:=GT hp i hW hP.inP
  obtain⟨K,hK,hk⟩:=CF (CP i (-1)) (go3 x w T) W S' hQ
  have a2:=Kz hq i (qfY hK hW) (hk K (Int.le_refl _)).inP
  rw[KA,FE,GU]at a2
  have a3:T*stA i w≤0:=by have:=qgc hT (show 0≤ -(stA i w) by omega);rw[Int.mul_neg]at this;omega
  have a4:bt i p.2*W≤eT i q.2*W:=qgl h2 (by omega)
  have a5:K*(ax3 i x+T*stA i w)≤K*(eT i q.2*W):=Int.mul_le_mul_of_nonneg_left (by omega) (by omega)
  have e:eT i q.2*(K*W)=K*(eT i q.2*W):=by grind
  omega
 ·have a1:=Kz hp i hW hP.inP
  obtain⟨K,hK,hk⟩:=CF (CP i 1) (go3 x w T) W S' hQ
  have a2:=GT hq i (qfY hK hW) (hk K (Int.le_refl _)).inP
  rw[KA,FE,GU]at a2
  have a3:0≤T*stA i w:=qgc hT h1
  have a4:bt i q.2*W≤eT i p.2*W:=qgl h2 (by omega)
  have a5:K*(bt i q.2*W)≤K*(ax3 i x+T*stA i w):=Int.mul_le_mul_of_nonneg_left (by omega) (by omega)
  have e:bt i q.2*(K*W)=K*(bt i q.2*W):=by grind
  omega
theorem DA {p q:Bod} {S S':List Q4} (hp:Rep p S) (hq:Rep q S') {w:Q3} (hw:w≠(0,0,0)):eS p q w=true↔Hit S S' w:=by
 have hIp:Ins p.1:=by obtain⟨o,W,hW,ho⟩:=hp.ins;exact⟨o,W,hW,hp.str _ _ ho⟩
 have key:(DV p q w).isSome=true↔Hit S S' w:=by
  rw[FD,Kx _ q S' hq,LE hw hp.bdd hIp]
  exact⟨Ky (fun x W hW=>(hp.strOf hW).1) (fun _ _ _ h=>h),Ky (fun x W hW=>(hp.strOf hW).2) (fun _ _ _ h=>h)⟩
 unfold eS
 split
 ·rename_i hf
  unfold CQ at hf
  simp only[qgf]at hf
  refine⟨fun h=>(by cases h),fun h=> ?_⟩
  rcases hf with hf|hf|hf
  ·exact absurd h (Ew hp hq 0 hf)
  ·exact absurd h (Ew hp hq 1 hf)
  ·exact absurd h (Ew hp hq 2 hf)
 ·exact key
theorem LH {a b:Bool} {P:Prop} (h1:a=true↔P) (h2:b=true↔P):a=b:=by
 cases a<;>cases b<;>simp_all
theorem Gt {p q:Bod} {S S':List Q4} (hp:Rep p S) (hq:Rep q S') {w:Q3} (hw:w≠(0,0,0)):eS q p (Dy w)=eS p q w:=
 LH ((DA hq hp (fun h=>hw (by rw[←Dz w,h];rfl))).trans hit_sym.symm) (DA hp hq hw)
theorem KB {ps:List Q4} (hB:Bdd ps) (hI:Ins ps):Rep (bp ps) ps:=
 FC hB (Kt ps) (Ku ps) (fun _ _ _=>Iff.rfl) (fun _ _ h=>h) hI
theorem FF {ps:List Q4} (h:bK ps=0):Bdd ps∧Ins ps:=by
 unfold bK at h
 split at h
 ·cases h
 split at h
 ·contradiction
 split at h
 ·cases h
 rename_i hb
 split at h
 ·cases h
 rename_i hs
 have hb':bx ps=true:=by simpa using hb
 have hs':fh ps (aS ps)=true:=by simpa using hs
 refine⟨FA ps hb', ?_⟩
 unfold fh at hs'
 rw[qaF,qfV,alsi]at hs'
 refine Mt ps (ct ps) hs'.2 (Ku ps) (fun p hp=> ?_)
 have h1:=hs'.1 p hp
 unfold gM at h1
 rw[ultj]at h1
 obtain⟨c,hc,h2⟩:=h1
 have h2:=of_decide_eq_true h2
 rw[mt,dp]at h2
 exact⟨c,((kT ps).2 c).2 (pq hc),h2⟩
theorem FG {ps:List Q4} (h:bK ps=0):Rep (bp ps) ps:=KB (FF h).1 (FF h).2
theorem IL {css:List (List Q4)} (h:Tv css=0):∀c∈css,bK c=0:=by
 unfold Tv at h
 split at h
 ·cases h
 ·exact Dr h
theorem KC {α β:Type} (l:List α) (m:List β) (f:α→β→Bool):(l.any fun a=>m.any fun b=>f a b)=m.any fun b=>l.any fun a=>f a b:=by
 rw[Bool.eq_iff_iff]
 simp only[ultj]
 constructor
 ·rintro⟨a,ha,b,hb,h⟩;exact⟨b,hb,a,ha,h⟩
 ·rintro⟨b,hb,a,ha,h⟩;exact⟨a,ha,b,hb,h⟩
theorem Gu {α β:Type} {l:List α} {m:List β} {f g:α→β→Bool} (h:∀a∈l,∀b∈m,f a b=g a b):(l.any fun a=>m.any fun b=>f a b)=l.any fun a=>m.any fun b=>g a b:=by
 rw[Bool.eq_iff_iff]
 simp only[ultj]
 constructor
 ·rintro⟨a,ha,b,hb,e⟩;exact⟨a,ha,b,hb,by rw[←h a ha b hb];exact e⟩
 ·rintro⟨a,ha,b,hb,e⟩;exact⟨a,ha,b,hb,by rw[h a ha b hb];exact e⟩
theorem KD {p q:List (List Q4)} (hp:∀c∈p,bK c=0) (hq:∀c∈q,bK c=0) {w:Q3} (hw:w≠(0,0,0)):BT (q.map bp) (p.map bp) (Dy w)=BT (p.map bp) (q.map bp) w:=by
 unfold BT
 simp only[List.any_map,Function.comp_def]
 rw[KC]
 exact Gu fun c hc d hd=>Gt (FG (hp c hc)) (FG (hq d hd)) hw
theorem DT (l:List (List (List Q4))) (i:Nat):(l.map (·.map bp)).getD i []=(l.getD i []).map bp:=by
 simp only[List.getD,List.getElem?_map]
 cases l[i]? <;>rfl
theorem KE {l:List (List (List Q4))} (h:eB l=0):∀v∈ways26,∀i k,Cb (l.map (·.map bp)) (-v.1, -v.2.1, -v.2.2) k i=Cb (l.map (·.map bp)) v i k:=by
 intro v hv i k
 have hm:∀i,∀c∈l.getD i [],bK c=0:=fun i c hc=>by
  by_cases hi:i<l.length
  ·rw[show l.getD i []=l[i] by simp[List.getD,hi]]at hc
   exact IL ((sq h).2 _ (qaB hi)) c hc
  ·rw[show l.getD i []=[] by simp[List.getD,hi]]at hc
   cases hc
 unfold Cb
 rw[DT,DT]
 exact KD (hm i) (hm k) (by rintro rfl;have:=(Ef _ hv).2.2.2;simp at this)
theorem zsQ {P:Program} {ops:Array Oper} {S:World→Prop} {R:Nat→Value→World→Prop} {i:Nat} {l:List Nat} {a:Act} {o:Oper} {v:Value} {d:Nat} (h3:pZ P ops S R l (a.put (some d) v)) (ho:ops[i]? =some o:=by rfl) (hd:o.dst=some d:=by rfl) (hg:o.guard=none:=by rfl) (h1:∀w,S w→(execOp a.eval o).run P w= .ok (.value v) w) (h2:R i=IsV v:=by rfl):pZ P ops S R (i::l) a:=du ho hg ⟨v,h1,h2,hd▸h3⟩
end
section
open Go.RowKit Go.Shelf
set_option maxRecDepth 100000
attribute [local go_sem] Ext.cell Ext.frozen
def Rc (W:World) (e:Ending) (w':World):Prop:=∃r,e= .returned (.bool r)∧Below W.heap.size W w'
theorem Qq {w:World} {g:Nat} {x0 x1 x2:Value} {t:TypeId} (h:w.heap[g]? =some (.cells #[x0,x1,x2] t (0,0))) (i:Nat) (hi:i<3):w.cell? ⟨g,i,none⟩=some (if i=0 then x0 else if i=1 then x1 else x2):=by
 rw[ag h]
 match i,hi with
 |0,_=>rfl
 |1,_=>rfl
 |2,_=>rfl
theorem Qd (a b:Q4) (W:World):Calls Tryz.prog 138 #[v4 a,v4 b] W (Rc W):=by
 obtain⟨p0,p1,p2,pd⟩:=a
 obtain⟨q0,q1,q2,qd⟩:=b
 obtain⟨V,HV⟩:∃V,Hid ((W.alloc (.cells #[.int .i64 p0, .int .i64 p1, .int .i64 p2, .int .i64 pd] 192)).alloc (.cells #[.int .i64 q0, .int .i64 q1, .int .i64 q2, .int .i64 qd] 192)=V):=⟨_,YJ rfl⟩
 have hV:Below W.heap.size W V:=by rw[←HV.out];exact bel
 have BP:Hid (V.heap[W.heap.size]? =some (.cells #[.int .i64 p0, .int .i64 p1, .int .i64 p2, .int .i64 pd] 192 (0,0))):=YJ (by rw[←HV.out];exact(aB (by simp)).trans (ai rfl))
 have BQ:Hid (V.heap[W.heap.size+1]? =some (.cells #[.int .i64 q0, .int .i64 q1, .int .i64 q2, .int .i64 qd] 192 (0,0))):=YJ (by rw[←HV.out];exact ai (by simp))
 go_enter Tryz.func138,Tryz.ntmps138
 go_wp2
 rw[HV.out]
 clear HV
 have xp0:=(ag BP.out 0).trans rfl
 have xp1:=(ag BP.out 1).trans rfl
 have xp2:=(ag BP.out 2).trans rfl
 have xp3:=(ag BP.out 3).trans rfl
 simp only[qdp,qdq,qdr]at xp0 xp1 xp2 xp3
 have xpz:=ah BP.out
 have xpf:=aC BP.out
 have xq0:=(ag BQ.out 0).trans rfl
 have xq1:=(ag BQ.out 1).trans rfl
 have xq2:=(ag BQ.out 2).trans rfl
 have xq3:=(ag BQ.out 3).trans rfl
 simp only[qdp,qdq,qdr]at xq0 xq1 xq2 xq3
 have xqz:=ah BQ.out
 have xqf:=aC BQ.out
 apply bW [7,8,9,10,11,12,13] [0,1,2,3,4,5,6,7,8,9,10,11,12,13,14,15] 16 [] 17 [] [sv _,sv _,sv _,sv _,sv _,sv _,sv _,sv _,sv _,sv _,sv _,sv _,sv _,sv _,⟨yd V.heap.size 69 #[.int .i64 0, .int .i64 0, .int .i64 0],by first|exact stab_po _ _|exact stab_fo _ _|exact stab_co _ _|exact stab_ko _ _|exact stab_kgo _ _|exact ar _ _ _⟩,⟨yd V.heap.size 69 #[.int .i64 0, .int .i64 0, .int .i64 0],by first|exact stab_po _ _|exact stab_fo _ _|exact stab_co _ _|exact stab_ko _ _|exact stab_kgo _ _|exact ar _ _ _⟩] (fun w'=>Below V.heap.size V w') (by kernel_rfl) (by kernel_rfl) (by kernel_rfl) (fun u=>u.below)
 ·(try go_frame)
  iterate 7 ((try go_frame);refine zsQ ?_ (h1:=fun w9 h9=>by(have y0:=ab h9 xq0;have y1:=ab h9 xq1;have y2:=ab h9 xq2;have y3:=ab h9 xq3;have yz:=qaG xqz h9.size;go_simp;first|rfl|(simp only[h9];rfl))))
  exact gR
 iterate 14 ((try go_frame);refine wkQ ?_)
 try go_frame
 refine wkU (fun u hR K hK=> ?_) (fun o14=> ?_)
 ·clear hR
  have zz:=u.below.size
  go_simp
  exact hK _ _ bel ⟨_,rfl,zz,ai rfl⟩
 try go_frame
 refine wkU (fun u hR K hK=> ?_) (fun o15=> ?_)
 ·clear hR
  have zz:=u.below.size
  go_simp
  exact hK _ _ bel ⟨_,rfl,zz,ai rfl⟩
 try go_frame
 refine aI (fun u hR=> ?_)
 obtain⟨ga,rfl,hga,hA⟩:yd V.heap.size 69 #[.int .i64 0, .int .i64 0, .int .i64 0] o14 u.val:=hR 14 (by simp)
 obtain⟨gb,rfl,hgb,hB⟩:yd V.heap.size 69 #[.int .i64 0, .int .i64 0, .int .i64 0] o15 u.val:=hR 15 (by simp)
 have HA:=YJ hA
 have HB:=YJ hB
 have hVu:=u.below
 clear hR hA hB xp0 xp1 xp2 xp3 xpz xpf xq0 xq1 xq2 xq3 xqz xqf
 generalize u.val=X at*
 clear u
 obtain⟨a0,a1,a2,af,az⟩:=NO HA.out
 obtain⟨Y,HY⟩:∃Y,Hid (jd (jd X ga (.int .i64 p0) (.int .i64 p1) (.int .i64 p2)) gb (.int .i64 q0) (.int .i64 q1) (.int .i64 q2)=Y):=⟨_,YJ rfl⟩
 have hVY:Below V.heap.size V Y:=by rw[←HY.out];exact dt (dt hVu hga _ _ _) hgb _ _ _
 have HAY:Hid (∃u0 u1 u2:Int,Y.heap[ga]? =some (.cells #[.int .i64 u0, .int .i64 u1, .int .i64 u2] 69 (0,0))):=YJ (by
  rw[←HY.out]
  by_cases h:ga=gb
  ·subst h
   exact⟨q0,q1,q2,eh (eh HA.out _ _ _) _ _ _⟩
  ·exact⟨p0,p1,p2,(cE h _ _ _).trans (eh HA.out _ _ _)⟩)
 have HBY:Hid (Y.heap[gb]? =some (.cells #[.int .i64 q0, .int .i64 q1, .int .i64 q2] 69 (0,0))):=YJ (by
  rw[←HY.out]
  by_cases h:ga=gb
  ·subst h
   exact eh (eh HA.out _ _ _) _ _ _
  ·exact eh ((cE (fun e=>h e.symm) _ _ _).trans HB.out) _ _ _)
 have eY:(((((X.setCell ⟨ga,0,none⟩ (.int .i64 p0)).setCell ⟨ga,1,none⟩ (.int .i64 p1)).setCell ⟨ga,2,none⟩ (.int .i64 p2)).setCell ⟨gb,0,none⟩ (.int .i64 q0)).setCell ⟨gb,1,none⟩ (.int .i64 q1)).setCell ⟨gb,2,none⟩ (.int .i64 q2)=Y:=HY.out
 have HP:=YJ ((hVY.block _ (ah BP.out)).trans BP.out)
 have HQ:=YJ ((hVY.block _ (ah BQ.out)).trans BQ.out)
 have hW:=fB hV hVY
 by_cases hab:ga=gb
 ·subst hab
  simp only[oas]
  go_wp2
  refine⟨dt hVu hga _ _ _, ?_⟩
  simp only[oas]
  go_wp2
  refine NoPanic.normal ?_
  try rw[eY]
  clear eY HY HA HB a0 a1 a2 af az  BP BQ hVu
  obtain⟨u0,u1,u2,hAY⟩:=HAY.out
  have HAY:=YJ hAY
  clear hAY
  go_wp2
  go_loopw [7] (fun i wr=>∃k:Nat,k≤3∧i= .int .i64 k∧Below Y.heap.size Y wr) (fun i _=>3-(intOf i).toNat)
  case atStart=>exact⟨0,by omega,rfl,brf⟩
  case round=>
   obtain⟨k,hk,rfl,hb⟩:=hrel
   have hWr:=fB hW hb
   by_cases hlt:k<3
   ·have HPr:=YJ ((hb.block _ (ah HP.out)).trans HP.out)
    have HQr:=YJ ((hb.block _ (ah HQ.out)).trans HQ.out)
    have hAr:=(hb.block _ (ah HAY.out)).trans HAY.out
    have hBr:=(hb.block _ (ah HBY.out)).trans HBY.out
    obtain⟨m,hm⟩:∃m:Int,wr.cell? ⟨ga,k,none⟩=some (.int .i64 m):=by
     rw[Qq hAr k hlt]
     split
     ·exact⟨_,rfl⟩
     ·split<;>exact⟨_,rfl⟩
    obtain⟨n,hn⟩:∃n:Int,wr.cell? ⟨ga,k,none⟩=some (.int .i64 n):=by
     rw[Qq hBr k hlt]
     split
     ·exact⟨_,rfl⟩
     ·split<;>exact⟨_,rfl⟩
    have az:=ah hAr
    have bz:=ah hBr
    have dP:=(ag HPr.out 3).trans rfl
    have dQ:=(ag HQr.out 3).trans rfl
    have pz:=ah HPr.out
    have qz:=ah HQr.out
    simp only[qdp,qdq,qdr]at dP dQ
    have g1:(k:Int)<3:=by omega
    have g2:(0:Int)≤(k:Int):=by omega
    clear hAr hBr HAY HBY HP HQ HPr HQr
    obtain⟨x,Hx⟩:∃x,Hid (IntKind.i64.wrap (m*qd)=x):=⟨_,YJ rfl⟩
    obtain⟨y,Hy⟩:∃y,Hid (IntKind.i64.wrap (n*pd)=y):=⟨_,YJ rfl⟩
    have ex:=Hx.out
    have ey:=Hy.out
    go_wp2
    apply aj [12] [0,1,2,3,4,5,6,7,8,9,10,11,12] 13 [] [sv _,sv _,sv _,sv _,sv _,sv _,sv _,sv _,sv _,sv _,sv _,sv _,sv _] (by kernel_rfl) (by kernel_rfl)
    iterate 12 ((try go_frame);refine wkQ ?_)
    try go_frame
    refine wkz rfl rfl rfl rfl ?_
    apply Exists.intro
    apply And.intro
    ·intro w9
     go_simp
     try rfl
    refine⟨rfl, ?_⟩
    try go_frame
    refine aI (fun u hR=> ?_)
    have hbu:=fB hWr u.below
    have hbu':=fB hb u.below
    clear hR
    generalize u.val=Z at*
    clear u
    simp only[oas]
    go_wp2
    refine NoPanic.normal ?_
    go_wp2
    all_goals first
     |exact⟨⟨k+1,by omega,by go_num,hbu'⟩,by first|(simp[intOf];done)|(simp[intOf];omega)⟩
     |(go_ret;exact⟨_,rfl,hbu⟩)
   ·obtain rfl:k=3:=by omega
    clear HAY HBY HP HQ
    go_wp2
    go_ret
    exact⟨_,rfl,hWr⟩
 ·obtain⟨b0',b1',b2',bf,bz⟩:=NO HB.out
  have nba:gb≠ga:=fun e=>hab e.symm
  simp only[oas]
  go_wp2
  refine⟨dt hVu hga _ _ _, ?_⟩
  simp only[oas]
  go_wp2
  refine NoPanic.normal ?_
  try rw[eY]
  clear eY HY HA HB a0 a1 a2 af az b0' b1' b2' bf bz nba BP BQ hVu
  obtain⟨u0,u1,u2,hAY⟩:=HAY.out
  have HAY:=YJ hAY
  clear hAY
  go_wp2
  go_loopw [7] (fun i wr=>∃k:Nat,k≤3∧i= .int .i64 k∧Below Y.heap.size Y wr) (fun i _=>3-(intOf i).toNat)
  case atStart=>exact⟨0,by omega,rfl,brf⟩
  case round=>
   obtain⟨k,hk,rfl,hb⟩:=hrel
   have hWr:=fB hW hb
   by_cases hlt:k<3
   ·have HPr:=YJ ((hb.block _ (ah HP.out)).trans HP.out)
    have HQr:=YJ ((hb.block _ (ah HQ.out)).trans HQ.out)
    have hAr:=(hb.block _ (ah HAY.out)).trans HAY.out
    have hBr:=(hb.block _ (ah HBY.out)).trans HBY.out
    obtain⟨m,hm⟩:∃m:Int,wr.cell? ⟨ga,k,none⟩=some (.int .i64 m):=by
     rw[Qq hAr k hlt]
     split
     ·exact⟨_,rfl⟩
     ·split<;>exact⟨_,rfl⟩
    obtain⟨n,hn⟩:∃n:Int,wr.cell? ⟨gb,k,none⟩=some (.int .i64 n):=by
     rw[Qq hBr k hlt]
     split
     ·exact⟨_,rfl⟩
     ·split<;>exact⟨_,rfl⟩
    have az:=ah hAr
    have bz:=ah hBr
    have dP:=(ag HPr.out 3).trans rfl
    have dQ:=(ag HQr.out 3).trans rfl
    have pz:=ah HPr.out
    have qz:=ah HQr.out
    simp only[qdp,qdq,qdr]at dP dQ
    have g1:(k:Int)<3:=by omega
    have g2:(0:Int)≤(k:Int):=by omega
    clear hAr hBr HAY HBY HP HQ HPr HQr
    obtain⟨x,Hx⟩:∃x,Hid (IntKind.i64.wrap (m*qd)=x):=⟨_,YJ rfl⟩
    obtain⟨y,Hy⟩:∃y,Hid (IntKind.i64.wrap (n*pd)=y):=⟨_,YJ rfl⟩
    have ex:=Hx.out
    have ey:=Hy.out
    go_wp2
    apply aj [12] [0,1,2,3,4,5,6,7,8,9,10,11,12] 13 [] [sv _,sv _,sv _,sv _,sv _,sv _,sv _,sv _,sv _,sv _,sv _,sv _,sv _] (by kernel_rfl) (by kernel_rfl)
    iterate 12 ((try go_frame);refine wkQ ?_)
    try go_frame
    refine wkz rfl rfl rfl rfl ?_
    apply Exists.intro
    apply And.intro
    ·intro w9
     go_simp
     try rfl
    refine⟨rfl, ?_⟩
    try go_frame
    refine aI (fun u hR=> ?_)
    have hbu:=fB hWr u.below
    have hbu':=fB hb u.below
    clear hR
    generalize u.val=Z at*
    clear u
    simp only[oas]
    go_wp2
    refine NoPanic.normal ?_
    go_wp2
    all_goals first
     |exact⟨⟨k+1,by omega,by go_num,hbu'⟩,by first|(simp[intOf];done)|(simp[intOf];omega)⟩
     |(go_ret;exact⟨_,rfl,hbu⟩)
   ·obtain rfl:k=3:=by omega
    clear HAY HBY HP HQ
    go_wp2
    go_ret
    exact⟨_,rfl,hWr⟩
theorem tG {w:World} {base:Nat} {T:TypeId} {g n c:Nat} {cs:List Q4} (h:w.ownsRow base T 4 (.slice (some ⟨g,0,none⟩) n c) cs.length (cs.flatMap aH)):Q4At w g 0 cs:=by
 obtain⟨a,n',c',e,hn,_,hx⟩:=dV h
 intro i hi
 obtain⟨b,off,rfl,h4⟩:=hx (by omega)
 cases e
 exact h4 i hi
theorem mB {w:World} {g:Nat} {A:List Q4} (h:Q4At w g 0 A) (k:Nat):∀j u,((A.take k).flatMap aH)[j]? =some u→w.cell? ((⟨g,0,none⟩:Addr).add j)=some u:=by
 intro j u hu
 rw[jY]
 have hlen:∀l:List Q4,(l.flatMap aH).length=l.length*4:=fun l=>by
  induction l with
  |nil=>rfl
  |cons x l ih=>rw[qgm,qaE,ih,qdn];simp[aH];omega
 have hj:j<((A.take k).flatMap aH).length:=(List.getElem?_eq_some_iff.1 hu).1
 rw[hlen]at hj
 obtain⟨i,r,hr,rfl⟩:∃i r,r<4∧j=i*4+r:=⟨j / 4,j % 4,by omega,by omega⟩
 have hi:i<(A.take k).length:=by omega
 rw[eQ aH 4 (fun _=>rfl) _ i hi r hr]at hu
 have hi2:i<A.length:=by simp at hi;omega
 obtain⟨c0,c1,c2,c3⟩:=h i hi2
 rw[List.getElem_take]at hu
 simp only[qfW]at c0 c1 c2 c3
 rcases(by omega:r=0∨r=1∨r=2∨r=3)with rfl|rfl|rfl|rfl
 ·rw[←hu];exact c0
 ·rw[←hu];exact c1
 ·rw[←hu];exact c2
 ·rw[←hu];exact c3
theorem vH {w:World} {g:Nat} {A:List Q4} (h:Q4At w g 0 A) (k:Nat):∀j u,((A.drop k).flatMap aH)[j]? =some u→w.cell? ⟨g,k*4+j,none⟩=some u:=by
 intro j u hu
 have hlen:∀l:List Q4,(l.flatMap aH).length=l.length*4:=fun l=>by
  induction l with
  |nil=>rfl
  |cons x l ih=>rw[qgm,qaE,ih,qdn];simp[aH];omega
 have hj:j<((A.drop k).flatMap aH).length:=(List.getElem?_eq_some_iff.1 hu).1
 rw[hlen]at hj
 obtain⟨i,r,hr,rfl⟩:∃i r,r<4∧j=i*4+r:=⟨j / 4,j % 4,by omega,by omega⟩
 have hi:i<(A.drop k).length:=by omega
 rw[eQ aH 4 (fun _=>rfl) _ i hi r hr]at hu
 have hi2:k+i<A.length:=by simp at hi;omega
 obtain⟨c0,c1,c2,c3⟩:=h (k+i) hi2
 rw[List.getElem_drop]at hu
 simp only[qfW,Nat.add_mul]at c0 c1 c2 c3
 rcases(by omega:r=0∨r=1∨r=2∨r=3)with rfl|rfl|rfl|rfl
 ·rw[←hu];exact c0
 ·rw[←hu];exact c1
 ·rw[←hu];exact c2
 ·rw[←hu];exact c3
theorem gD {w:World} {g:Nat} {A:List Q4} (h:Q4At w g 0 A) (k:Nat):∀j u,((A.drop k).flatMap aH)[j]? =some u→w.cell? ((⟨g,k*4,none⟩:Addr).add j)=some u:=fun j u hu=>by
 rw[vp]
 exact vH h k j u hu
def Ou (B:Nat):Value→World→Prop:=fun v w=>∃g,v= .slice (some ⟨g,0,none⟩) 0 0∧B≤g∧w.heap[g]? =some (.cells #[] 192 (0,0))
theorem NQ (B:Nat):dR (Ou B):=fun _ _ _ hb ⟨g,h1,h2,h3⟩=>⟨g,h1,h2,(hb.block g (ah h3)).trans h3⟩
def PF (p:Q4):Value→World→Prop:=fun v w=>∃g,v= .slice (some ⟨g,0,none⟩) 1 1∧w.heap[g]? =some (.cells (aH p).toArray 192 (0,0))
theorem NR (p:Q4):dR (PF p):=fun _ _ _ hb ⟨g,h1,h2⟩=>⟨g,h1,(hb.block g (ah h2)).trans h2⟩
def OC (B:Nat) (L:List Q4):Value→World→Prop:=fun v w=>w.ownsRow B 192 4 v L.length (L.flatMap aH)
theorem NS (B:Nat) (L:List Q4):dR (OC B L):=fun _ _ _ hb h=>au h hb
def QT:Value→World→Prop:=fun v _=>∃b,v= .bool b
theorem NT:dR QT:=fun _ _ _ _ h=>h
theorem Ov {w:World} {g:Nat} {p:Q4} (h:w.heap[g]? =some (.cells (aH p).toArray 192 (0,0))):∀j u,([p].flatMap aH)[j]? =some u→w.cell? ((⟨g,0,none⟩:Addr).add j)=some u:=fun j u hu=>by
 rw[jY,ag h]
 simpa using hu
theorem NP {ops:Array Oper} {rest:List Oper} {o:Oper} {a:Act} {Q:Exit→Act→World→Prop} {w W:World} {B n m c:Nat} {L ds:List Q4} {v:Value} {ad:Addr} (hown:w.ownsRow B 192 4 v n (L.flatMap aH)) (hb:Below B W w) (hB:B≤w.heap.size) (hm:m=ds.length)
  (hsrc:∀j u,(ds.flatMap aH)[j]? =some u→w.cell? (ad.add j)=some u) (s x:Operand) (hgd:o.guard=none) (ho:o.op= .call {callee:= .builtin .append,args:=#[s,x],argTypes:=#[101,101]}) (hs:a.eval s=v) (hx:a.eval x= .slice (some ad) m c) (hn:n+m≤10000000)
  (h:∀v' w',w'.ownsRow B 192 4 v' (L++ds).length ((L++ds).flatMap aH)→Below B W w'→wpList Tryz.prog ops Q rest (a.put o.dst v') w'):wpList Tryz.prog ops Q (o::rest) a w:=by
 obtain⟨i0,hi0,hz0,hz1,hz2⟩:=info_parts kN
 have hl:=hown.1
 rw[bh]at hl
 obtain rfl:n=L.length:=by omega
 subst hm
 refine wpList_append_own w hgd s x 101 ho B 192 i0 (v4 (0,0,0,0)) 4 32 kO hi0 hz0 hz1 hz2 rfl (by decide) v _ (L.flatMap aH) hs hown ad ds.length c (ds.flatMap aH) hx (bh ds) hsrc (fun u hu=> ?_) (by unfold maxLen;omega) (by omega) hB fun v' w' h1 h2 _=>h v' w' ?_ (hb.grown h2 hB (fun z hz=>(hown.lt z hz).1))
 ·obtain⟨x,_,h⟩:=List.mem_flatMap.1 hu
  simp[aH]at h
  rcases h with rfl|rfl|rfl|rfl<;>rfl
 ·rw[qaE,qgj]
  exact h1
def Re (n:Nat) (W:World) (e:Ending) (w':World):Prop:=∃v,∃L:List Q4,e= .returned v∧Below W.heap.size W w'∧L.length=n∧w'.ownsRow W.heap.size 192 4 v L.length (L.flatMap aH)
theorem Qe (cs:List Q4) (cv:Value) (W:World) (hl:cs.length≤1000000) (h:Q4s W cv cs):Calls Tryz.prog 100 #[cv] W (Re cs.length W):=by
 obtain⟨i0,Hi0⟩:=qfT kN
 obtain⟨ca,n,cc,rfl,hn,_,hx⟩:=h
 have HX:=YJ hx
 have HN:=YJ hn
 have hl':n≤1000000:=by omega
 rw[hn]
 have HBf:=fun a b W'=>YJ (Qd a b W')
 clear hn hx hl
 go_enter Tryz.func100,Tryz.ntmps100
 go_wp2
 go_loopw [3,4] (fun v i wr=>∃(k:Nat) (L:List Q4),k≤n∧i= .int .i64 k∧Below W.heap.size W wr∧Hid (L.length=k∧(k=0→v= .slice none 0 0)∧wr.ownsRow W.heap.size 192 4 v L.length (L.flatMap aH))) (fun _ i _=>n-(intOf i).toNat)
 case atStart=>exact⟨0,[],by omega,rfl,brf,YJ ⟨rfl,fun _=>rfl,qds _ _ _ _⟩⟩
 case round=>
  rename World=>wo
  obtain⟨k,L,hk,rfl,hb,HL⟩:=hrel
  by_cases hlt:k<n
  ·have hil:k<cs.length:=by have:=HN.out;omega
   obtain⟨b,off,rfl,hi⟩:=HX.out (by omega)
   obtain⟨d0,d1,d2,d3⟩:=(hi.below hb) k hil
   generalize cs[k]=p at*
   obtain⟨p0,p1,p2,p3⟩:=p
   simp only at d0 d1 d2 d3
   have zlo:=qaC wo _ d0
   simp only at zlo
   have g1:(k:Int)<(n:Int):=by omega
   have g2:(0:Int)≤(k:Int):=by omega
   clear hi HX
   by_cases hk0:k=0
   ·subst hk0
    obtain⟨hLk,hv, -⟩:=HL.out
    obtain rfl:=hv rfl
    obtain rfl:L=[]:=alto.1 hLk
    clear hv hLk HL
    have z0:((0:Nat):Int)=0:=rfl
    simp only[Nat.zero_mul,Nat.add_zero]at d0 d1 d2 d3
    rw[z0]at g1
    simp only[z0]
    go_wp2
    go_loopw [5] (fun a wi=>a= .int .i64 0∧Below wo.heap.size wo wi) (fun a _=>0)
    case atStart=>exact⟨rfl,brf⟩
    case round=>
     rename World=>wi
     obtain⟨rfl,hbi⟩:=hrel
     have c0:=ab hbi d0
     have c1:=ab hbi d1
     have c2:=ab hbi d2
     have c3:=ab hbi d3
     have zl:=qaG zlo hbi.size
     clear d0 d1 d2 d3 zlo
     go_wp2
     refine wqf fun u=> ?_
     have e0:=ab u.below c0
     have e1:=ab u.below c1
     have e2:=ab u.below c2
     have e3:=ab u.below c3
     have ez:=qaG zl u.below.size
     have hbj:=fB hbi u.below
     skip
     clear c0 c1 c2 c3 zl hbi
     generalize u.val=wj at*
     clear u
     go_wp2
     apply aj [11,12,13] [0,1,2,3,4,5,6,7,8,9,11,12,13] 10 [14,15] [⟨Ou wj.heap.size,by first|exact NQ _|exact NR _|exact NS _ _|exact NT⟩,sv _,sv _,sv _,⟨OC wj.heap.size ([]:List Q4),by first|exact NQ _|exact NR _|exact NS _ _|exact NT⟩,sv _,sv _,sv _,sv _,⟨PF (p0,p1,p2,p3),by first|exact NQ _|exact NR _|exact NS _ _|exact NT⟩,sv undef,sv _,sv _,sv _] (by kernel_rfl) (by kernel_rfl)
     try go_frame
     refine wkU (fun u hR K hK=> ?_) (fun o0=> ?_)
     ·clear hR
      have zz:=u.below.size
      go_simp
      exact hK _ _ bel ⟨_,rfl,zz,ai rfl⟩
     iterate 3 ((try go_frame);refine wkQ ?_)
     try go_frame
     refine wkU (fun u hR K hK=> ?_) (fun o4=> ?_)
     ·have h0:Ou wj.heap.size o0 u.val:=hr hR 0
      clear hR
      obtain⟨gm,rfl,hgm,hgl⟩:=h0
      exact cZ _ _ 101 rfl (append_nil 101 _ 192 i0 kO Hi0.out.1 ⟨gm,0,none⟩ _ _) (hK _ _ (brf) ⟨rfl, .inr ⟨gm,0,#[],rfl,hgm,hgl,qaA _,by unfold maxLen;omega,rfl,rfl⟩⟩)
     iterate 4 ((try go_frame);refine wkQ ?_)
     try go_frame
     refine wkU (fun u hR K hK=> ?_) (fun o9=> ?_)
     ·clear hR
      go_simp
      exact hK _ _ bel ⟨_,rfl,ai rfl⟩
     try go_frame
     refine wkz rfl rfl rfl rfl ?_
     apply Exists.intro
     apply And.intro
     ·intro w9
      go_simp
      try rfl
     refine⟨rfl, ?_⟩
     try go_frame
     refine wkz rfl rfl rfl rfl ?_
     apply Exists.intro
     apply And.intro
     ·intro w9
      go_simp
      try rfl
     refine⟨rfl, ?_⟩
     try go_frame
     refine wkz rfl rfl rfl rfl ?_
     apply Exists.intro
     apply And.intro
     ·intro w9
      go_simp
      try rfl
     refine⟨rfl, ?_⟩
     try go_frame
     refine aI (fun u hR=> ?_)
     have ho4:OC wj.heap.size ([]:List Q4) o4 u.val:=hR 4 (by simp)
     obtain⟨gp,rfl,hgp⟩:PF (p0,p1,p2,p3) o9 u.val:=hR 9 (by simp)
     have hbu:=u.below
     clear hR
     simp only[oas]
     refine NP ho4 hbu hbu.size rfl (Ov hgp) _ _ rfl rfl rfl rfl (by first|omega|(simp;done)|(simp;omega)) fun v5 w5 hown5 hb5=> ?_
     clear ho4 hgp hbu
     go_frame
     refine wpList_append_own_none rfl _ _ 101 rfl wj.heap.size 192 i0 4 kO Hi0.out.1 _ _ _ rfl hown5 rfl ?_
     go_frame
     iterate 1 (refine wpList_step (fun K hK=> ?_);go_simp;refine hK _ _ ?_;clear hK K)
     refine NoPanic.normal ?_
     go_wp2
     go_roundw
     case rel=>exact⟨0+1,_,by omega,by go_num,fB (fB hb hbj) hb5,YJ ⟨rfl,fun h=>by omega,AY hown5 (fB hb hbj).size⟩⟩
     simp[intOf];try omega
   ·obtain⟨hLk, -,hown⟩:=HL.out
    rcases hown.2 with⟨_,h0⟩|⟨g,cap,cur,rfl,hgB,hh,hnc,hcm, -, -⟩
    ·omega
    rw[hLk]at hown hnc ⊢
    have HO:=YJ hown
    have HLk:=YJ hLk
    have hcap:cap≤maxLen:=hcm
    clear hown hLk HL hh hgB hcm
    have g3:(k:Int)≤(cap:Int):=by omega
    go_wp2
    go_loopw [5] (fun a wi=>∃T:Nat,T≤k∧a= .int .i64 T∧Below wo.heap.size wo wi) (fun a _=>(intOf a).toNat)
    case atStart=>exact⟨k,qaA _,rfl,brf⟩
    case round=>
     rename World=>wi
     obtain⟨T,hT,rfl,hbi⟩:=hrel
     have c0:=ab hbi d0
     have c1:=ab hbi d1
     have c2:=ab hbi d2
     have c3:=ab hbi d3
     have zl:=qaG zlo hbi.size
     have HOi:=YJ (au HO.out hbi)
     clear d0 d1 d2 d3 zlo HO
     by_cases hT0:T=0
     ·subst hT0
      have z0:((0:Nat):Int)=0:=rfl
      simp only[z0]
      go_wp2
      refine wqf fun u=> ?_
      have e0:=ab u.below c0
      have e1:=ab u.below c1
      have e2:=ab u.below c2
      have e3:=ab u.below c3
      have ez:=qaG zl u.below.size
      have hbj:=fB hbi u.below
      have HOj:=YJ (au HOi.out u.below)
      clear c0 c1 c2 c3 zl hbi
      generalize u.val=wj at*
      clear u
      clear HOi
      go_wp2
      apply aj [11,12,13] [0,1,2,3,4,5,6,7,8,9,11,12,13] 10 [14,15] [⟨Ou wj.heap.size,by first|exact NQ _|exact NR _|exact NS _ _|exact NT⟩,sv _,sv _,sv _,⟨OC wj.heap.size ([]:List Q4),by first|exact NQ _|exact NR _|exact NS _ _|exact NT⟩,sv _,sv _,sv _,sv _,⟨PF (p0,p1,p2,p3),by first|exact NQ _|exact NR _|exact NS _ _|exact NT⟩,sv undef,sv _,sv _,sv _] (by kernel_rfl) (by kernel_rfl)
      try go_frame
      refine wkU (fun u hR K hK=> ?_) (fun o0=> ?_)
      ·clear hR
       have zz:=u.below.size
       go_simp
       exact hK _ _ bel ⟨_,rfl,zz,ai rfl⟩
      iterate 3 ((try go_frame);refine wkQ ?_)
      try go_frame
      refine wkU (fun u hR K hK=> ?_) (fun o4=> ?_)
      ·have h0:Ou wj.heap.size o0 u.val:=hr hR 0
       clear hR
       obtain⟨gm,rfl,hgm,hgl⟩:=h0
       exact cZ _ _ 101 rfl (append_nil 101 _ 192 i0 kO Hi0.out.1 ⟨gm,0,none⟩ _ _) (hK _ _ (brf) ⟨rfl, .inr ⟨gm,0,#[],rfl,hgm,hgl,qaA _,by unfold maxLen;omega,rfl,rfl⟩⟩)
      iterate 4 ((try go_frame);refine wkQ ?_)
      try go_frame
      refine wkU (fun u hR K hK=> ?_) (fun o9=> ?_)
      ·clear hR
       go_simp
       exact hK _ _ bel ⟨_,rfl,ai rfl⟩
      try go_frame
      refine wkz rfl rfl rfl rfl ?_
      apply Exists.intro
      apply And.intro
      ·intro w9
       go_simp
       try rfl
      refine⟨rfl, ?_⟩
      try go_frame
      refine wkz rfl rfl rfl rfl ?_
      apply Exists.intro
      apply And.intro
      ·intro w9
       go_simp
       try rfl
      refine⟨rfl, ?_⟩
      try go_frame
      refine wkz rfl rfl rfl rfl ?_
      apply Exists.intro
      apply And.intro
      ·intro w9
       go_simp
       try rfl
      refine⟨rfl, ?_⟩
      try go_frame
      refine aI (fun u hR=> ?_)
      have ho4:OC wj.heap.size ([]:List Q4) o4 u.val:=hR 4 (by simp)
      obtain⟨gp,rfl,hgp⟩:PF (p0,p1,p2,p3) o9 u.val:=hR 9 (by simp)
      have hbu:=u.below
      clear hR
      simp only[oas]
      refine NP ho4 hbu hbu.size rfl (Ov hgp) _ _ rfl rfl rfl rfl (by first|omega|(simp;done)|(simp;omega)) fun v5 w5 hown5 hb5=> ?_
      clear ho4 hgp hbu
      go_frame
      refine NP (ds:=L.drop 0) hown5 hb5 hb5.size (by rw[List.length_drop,HLk.out];rfl) (gD (tG (by have:=au HOj.out hb5;rw[←HLk.out]at this;exact this)) 0) _ _ rfl rfl rfl rfl (by first|omega|(simp;done)|(simp;omega)) fun v6 w6 hown6 hb6=> ?_
      go_frame
      iterate 1 (refine wpList_step (fun K hK=> ?_);go_simp;refine hK _ _ ?_;clear hK K)
      refine NoPanic.normal ?_
      go_wp2
      go_roundw
      case rel=>exact⟨k+1,_,by omega,by go_num,fB (fB hb hbj) hb6,YJ ⟨(by simp[HLk.out]),fun h=>by omega,AY hown6 (fB hb hbj).size⟩⟩
      simp[intOf];try omega
     ·obtain⟨f0,f1,f2,f3⟩:=(tG (by have:=HOi.out;rw[←HLk.out]at this;exact this)) (T-1) (by have:=HLk.out;omega)
      generalize L[T-1]'(by have:=HLk.out;omega)=q at*
      obtain⟨q0,q1,q2,q3⟩:=q
      have zg:=qaC wi _ f0
      simp only[qfW]at f0 f1 f2 f3 zg
      have w1:IntKind.i64.wrap ((T:Int)-1)=((T-1:Nat):Int):=by rw[IntWalk.i64_in _ (by omega)];omega
      have g4:(0:Int)<(T:Int):=by omega
      have gT:0<T:=by omega
      have g5:(0:Int)≤((T-1:Nat):Int):=by omega
      have g6:((T-1:Nat):Int)<(k:Int):=by omega
      go_wp2
      apply aj [] [0,1,2,3,4,5,6,7,8,9,10,11,12] 13 [] [sv _,sv _,sv _,sv _,sv _,sv _,sv _,sv _,sv _,sv _,sv _,sv _,⟨QT,by first|exact NQ _|exact NR _|exact NS _ _|exact NT⟩] (by kernel_rfl) (by kernel_rfl)
      iterate 3 ((try go_frame);refine wkQ ?_)
      iterate 9 ((try go_frame);refine Ae rfl rfl (by simp) (by simp[Region.wanted,yielded]) ?_;apply ex3;(focus(intro u K hK;go_simp;exact hK _ brf));rfl)
      try go_frame
      refine Af rfl rfl (by simp) (by simp[Region.wanted,yielded]) (fun u hR K hK=> ?_) (fun o12=> ?_)
      ·clear hR
       go_simp
       refine((HBf (p0,p1,p2,p3) (q0,q1,q2,q3) _).out).mono ?_
       rintro e w9 ⟨r,rfl,hb9⟩
       exact hK _ _ hb9 ⟨r,rfl⟩
      try go_frame
      refine aI (fun u hR=> ?_)
      obtain⟨r,rfl⟩:QT o12 u.val:=hR 12 (by simp)
      clear hR f0 f1 f2 f3 zg
      have e0:=ab u.below c0
      have e1:=ab u.below c1
      have e2:=ab u.below c2
      have e3:=ab u.below c3
      have ez:=qaG zl u.below.size
      have hbj:=fB hbi u.below
      have HOj:=YJ (au HOi.out u.below)
      clear c0 c1 c2 c3 zl hbi
      generalize u.val=wj at*
      clear u
      clear HOi
      simp only[oas]
      go_wp2
      refine NoPanic.normal ?_
      cases r with
      |true=>
       go_wp2
       go_roundw
       case rel=>exact⟨T-1,by omega,by go_num,hbj⟩
       simp[intOf];try omega
      |false=>
       clear g4 g5 g6 w1
       have g4:(T:Int)≤(cap:Int):=by omega
       have g5:(0:Int)≤(T:Int):=by omega
       have g6:(T:Int)≤(k:Int):=by omega
       by_cases hTc:cap=T
       ·obtain rfl:T=k:=by omega
        subst hTc
        obtain⟨T,rfl⟩:∃T,T=cap:=⟨_,rfl⟩
        have e7:¬T=0:=by omega
        go_wp2
        apply aj [11,12,13] [0,1,2,3,4,5,6,7,8,9,11,12,13] 10 [14,15] [⟨Ou wj.heap.size,by first|exact NQ _|exact NR _|exact NS _ _|exact NT⟩,sv _,sv _,sv _,⟨OC wj.heap.size (L.take T),by first|exact NQ _|exact NR _|exact NS _ _|exact NT⟩,sv _,sv _,sv _,sv _,⟨PF (p0,p1,p2,p3),by first|exact NQ _|exact NR _|exact NS _ _|exact NT⟩,sv undef,sv _,sv _,sv _] (by kernel_rfl) (by kernel_rfl)
        try go_frame
        refine wkU (fun u hR K hK=> ?_) (fun o0=> ?_)
        ·clear hR
         have zz:=u.below.size
         go_simp
         exact hK _ _ bel ⟨_,rfl,zz,ai rfl⟩
        iterate 3 ((try go_frame);refine wkQ ?_)
        try go_frame
        refine wkU (fun u hR K hK=> ?_) (fun o4=> ?_)
        ·have h0:Ou wj.heap.size o0 u.val:=hr hR 0
         clear hR
         obtain⟨gm,rfl,hgm,hgl⟩:=h0
         obtain⟨v9,w9,hrun,hown9,hb9⟩:=dM (P:=Tryz.prog) (w:=u.val) 101 101 192 i0 (v4 (0,0,0,0)) 4 32 kO Hi0.out.1 Hi0.out.2.1 Hi0.out.2.2.1 Hi0.out.2.2.2 rfl (by decide) ⟨gm,0,none⟩ 0 0 [] rfl (fun _ _ h=>by simp at h) ⟨g,0,none⟩ T T ((L.take T).flatMap aH) (by rw[bh,qge,HLk.out];omega) (mB (tG (by have:=au HOj.out u.below;rw[←HLk.out]at this;exact this)) T) (by omega) (by unfold maxLen;omega) (by omega)
         exact cZ _ _ 101 rfl hrun (hK _ _ hb9 (show OC wj.heap.size (L.take T) v9 w9 from by have h9:=AY hown9 u.below.size;simp only[qfW,List.nil_append]at h9;unfold OC;rw[show(L.take T).length=T by rw[qge,HLk.out];omega];exact h9))
        iterate 4 ((try go_frame);refine wkQ ?_)
        try go_frame
        refine wkU (fun u hR K hK=> ?_) (fun o9=> ?_)
        ·clear hR
         go_simp
         exact hK _ _ bel ⟨_,rfl,ai rfl⟩
        try go_frame
        refine wkz rfl rfl rfl rfl ?_
        apply Exists.intro
        apply And.intro
        ·intro w9
         go_simp
         try rfl
        refine⟨rfl, ?_⟩
        try go_frame
        refine wkz rfl rfl rfl rfl ?_
        apply Exists.intro
        apply And.intro
        ·intro w9
         go_simp
         try rfl
        refine⟨rfl, ?_⟩
        try go_frame
        refine wkz rfl rfl rfl rfl ?_
        apply Exists.intro
        apply And.intro
        ·intro w9
         go_simp
         try rfl
        refine⟨rfl, ?_⟩
        try go_frame
        refine aI (fun u hR=> ?_)
        have ho4:OC wj.heap.size (L.take T) o4 u.val:=hR 4 (by simp)
        obtain⟨gp,rfl,hgp⟩:PF (p0,p1,p2,p3) o9 u.val:=hR 9 (by simp)
        have hbu:=u.below
        clear hR
        simp only[oas]
        refine NP ho4 hbu hbu.size rfl (Ov hgp) _ _ rfl rfl rfl rfl (by first|omega|(simp;done)|(simp;omega)) fun v5 w5 hown5 hb5=> ?_
        clear ho4 hgp hbu
        go_frame
        refine NP (ds:=L.drop T) hown5 hb5 hb5.size (by rw[List.length_drop,HLk.out];omega) (fun j u hu=>by rw[List.drop_eq_nil_of_le (by have:=HLk.out;omega)]at hu;simp at hu) _ _ rfl rfl rfl rfl (by first|omega|(simp;done)|(simp;omega)) fun v6 w6 hown6 hb6=> ?_
        go_frame
        iterate 1 (refine wpList_step (fun K hK=> ?_);go_simp;refine hK _ _ ?_;clear hK K)
        refine NoPanic.normal ?_
        go_wp2
        go_roundw
        case rel=>exact⟨T+1,_,by omega,by go_num,fB (fB hb hbj) hb6,YJ ⟨(by have:=HLk.out;simp;omega),fun h=>by omega,AY hown6 (fB hb hbj).size⟩⟩
        simp[intOf];try omega
       ·have e6:¬cap=T:=hTc
        have e7:¬cap=0:=by omega
        go_wp2
        apply aj [11,12,13] [0,1,2,3,4,5,6,7,8,9,11,12,13] 10 [14,15] [⟨Ou wj.heap.size,by first|exact NQ _|exact NR _|exact NS _ _|exact NT⟩,sv _,sv _,sv _,⟨OC wj.heap.size (L.take T),by first|exact NQ _|exact NR _|exact NS _ _|exact NT⟩,sv _,sv _,sv _,sv _,⟨PF (p0,p1,p2,p3),by first|exact NQ _|exact NR _|exact NS _ _|exact NT⟩,sv undef,sv _,sv _,sv _] (by kernel_rfl) (by kernel_rfl)
        try go_frame
        refine wkU (fun u hR K hK=> ?_) (fun o0=> ?_)
        ·clear hR
         have zz:=u.below.size
         go_simp
         exact hK _ _ bel ⟨_,rfl,zz,ai rfl⟩
        iterate 3 ((try go_frame);refine wkQ ?_)
        try go_frame
        refine wkU (fun u hR K hK=> ?_) (fun o4=> ?_)
        ·have h0:Ou wj.heap.size o0 u.val:=hr hR 0
         clear hR
         obtain⟨gm,rfl,hgm,hgl⟩:=h0
         obtain⟨v9,w9,hrun,hown9,hb9⟩:=dM (P:=Tryz.prog) (w:=u.val) 101 101 192 i0 (v4 (0,0,0,0)) 4 32 kO Hi0.out.1 Hi0.out.2.1 Hi0.out.2.2.1 Hi0.out.2.2.2 rfl (by decide) ⟨gm,0,none⟩ 0 0 [] rfl (fun _ _ h=>by simp at h) ⟨g,0,none⟩ T cap ((L.take T).flatMap aH) (by rw[bh,qge,HLk.out];omega) (mB (tG (by have:=au HOj.out u.below;rw[←HLk.out]at this;exact this)) T) (by omega) (by unfold maxLen;omega) (by omega)
         exact cZ _ _ 101 rfl hrun (hK _ _ hb9 (show OC wj.heap.size (L.take T) v9 w9 from by have h9:=AY hown9 u.below.size;simp only[qfW,List.nil_append]at h9;unfold OC;rw[show(L.take T).length=T by rw[qge,HLk.out];omega];exact h9))
        iterate 4 ((try go_frame);refine wkQ ?_)
        try go_frame
        refine wkU (fun u hR K hK=> ?_) (fun o9=> ?_)
        ·clear hR
         go_simp
         exact hK _ _ bel ⟨_,rfl,ai rfl⟩
        try go_frame
        refine wkz rfl rfl rfl rfl ?_
        apply Exists.intro
        apply And.intro
        ·intro w9
         go_simp
         try rfl
        refine⟨rfl, ?_⟩
        try go_frame
        refine wkz rfl rfl rfl rfl ?_
        apply Exists.intro
        apply And.intro
        ·intro w9
         go_simp
         try rfl
        refine⟨rfl, ?_⟩
        try go_frame
        refine wkz rfl rfl rfl rfl ?_
        apply Exists.intro
        apply And.intro
        ·intro w9
         go_simp
         try rfl
        refine⟨rfl, ?_⟩
        try go_frame
        refine aI (fun u hR=> ?_)
        have ho4:OC wj.heap.size (L.take T) o4 u.val:=hR 4 (by simp)
        obtain⟨gp,rfl,hgp⟩:PF (p0,p1,p2,p3) o9 u.val:=hR 9 (by simp)
        have hbu:=u.below
        clear hR
        simp only[oas]
        refine NP ho4 hbu hbu.size rfl (Ov hgp) _ _ rfl rfl rfl rfl (by first|omega|(simp;done)|(simp;omega)) fun v5 w5 hown5 hb5=> ?_
        clear ho4 hgp hbu
        go_frame
        refine NP (ds:=L.drop T) hown5 hb5 hb5.size (by rw[List.length_drop,HLk.out]) (gD (tG (by have:=au HOj.out hb5;rw[←HLk.out]at this;exact this)) T) _ _ rfl rfl rfl rfl (by first|omega|(simp;done)|(simp;omega)) fun v6 w6 hown6 hb6=> ?_
        go_frame
        iterate 1 (refine wpList_step (fun K hK=> ?_);go_simp;refine hK _ _ ?_;clear hK K)
        refine NoPanic.normal ?_
        go_wp2
        go_roundw
        case rel=>exact⟨k+1,_,by omega,by go_num,fB (fB hb hbj) hb6,YJ ⟨(by have:=HLk.out;simp;omega),fun h=>by omega,AY hown6 (fB hb hbj).size⟩⟩
        simp[intOf];try omega
  ·clear HX
   obtain rfl:k=n:=by omega
   go_wp2
   go_ret
   exact⟨_,L,rfl,hb,HL.out.1,HL.out.2.2⟩
theorem Oc:Tryz.prog.underlying 165=some (.slice 196):=by kernel_rfl
def Rd (L:List Q4) (W:World) (e:Ending) (w':World):Prop:=∃v,e= .returned v∧Below W.heap.size W w'∧Q4s w' v L
theorem Qf (ps qs:List Q4) (pv qv:Value) (W:World) (h0:0<ps.length) (h1:0<qs.length) (hl:ps.length≤1000) (hl2:qs.length≤1000) (hp:Q4s W pv ps) (hq:Q4s W qv qs):
  Calls Tryz.prog 97 #[pv,qv] W (Rd (ps++qs) W):=by
 obtain⟨i0,Hi0⟩:=qfT cY
 obtain⟨pa,pn,pc,rfl,hpn, -,hpx⟩:=hp
 obtain⟨qa,qn,qc,rfl,hqn, -,hqx⟩:=hq
 obtain⟨b,off,rfl,hi⟩:=hpx (by omega)
 obtain⟨b2,off2,rfl,hi2⟩:=hqx (by omega)
 have HS1:Hid (∀j u,(ps.flatMap aH)[j]? =some u→W.cell? ((⟨b,off,none⟩:Addr).add j)=some u):=YJ (MA hi)
 have HS2:Hid (∀j u,(qs.flatMap aH)[j]? =some u→W.cell? ((⟨b2,off2,none⟩:Addr).add j)=some u):=YJ (MA hi2)
 have Hpn:=YJ hpn
 have Hqn:=YJ hqn
 have hpl:pn≤1000:=by omega
 have hql:qn≤1000:=by omega
 clear hpx hqx hi hi2 hpn hqn h0 h1 hl hl2
 have hm0:(W.alloc (.cells #[] 196)).ownsRow W.heap.size 196 4 (.slice (some ⟨W.heap.size,0,none⟩) 0 0) 0 []:=World.ownsRow_made W #[] 0 (qaA _) (Nat.zero_le _) rfl
 have hx0:Below W.heap.size W (W.alloc (.cells #[] 196)):=bel
 go_enter Tryz.func97,Tryz.ntmps97
 go_wp2_with (at_builtin;refine wpList_append_own _ rfl _ _ 165 rfl W.heap.size 196 i0 (v4 (0,0,0,0)) 4 32 Oc Hi0.out.1 Hi0.out.2.1 Hi0.out.2.2.1 Hi0.out.2.2.2 rfl (by decide) _ 0 _ rfl hm0 ⟨b,off,none⟩ pn pc (ps.flatMap aH) rfl (by rw[dH aH 4 cP,Hpn.out]) (fun j u hu=>ab hx0 (HS1.out j u hu)) (Hu ps) (by unfold maxLen;omega) (by omega) hx0.size ?_)
 intro v' w4 hown4 hg4 _
 have hb4:Below W.heap.size W w4:=hx0.grown hg4 hx0.size (by intro k hk;simp[Value.ownBlock]at hk;omega)
 have HO4:=YJ hown4
 clear hown4 hg4 hm0 hx0
 go_wp2_with (at_builtin;refine wpList_append_own _ rfl _ _ 165 rfl W.heap.size 196 i0 (v4 (0,0,0,0)) 4 32 Oc Hi0.out.1 Hi0.out.2.1 Hi0.out.2.2.1 Hi0.out.2.2.2 rfl (by decide) _ _ _ rfl HO4.out ⟨b2,off2,none⟩ qn qc (qs.flatMap aH) rfl (by rw[dH aH 4 cP,Hqn.out]) (fun j u hu=>ab hb4 (HS2.out j u hu)) (Hu qs) (by unfold maxLen;omega) (by omega) hb4.size ?_)
 intro v6 w6 hown6 hg6 _
 have hb6:Below W.heap.size W w6:=hb4.grown hg6 hb4.size (fun z hz=>(HO4.out.lt z hz).1)
 go_wp2
 go_ret
 refine⟨_,rfl,hb6,dV (base:=W.heap.size) (T:=196) ?_⟩
 rw[qaE,qgj,Hpn.out,Hqn.out]
 simpa using hown6
end
end Go.Proofs.YtnpmkepfpekhfaaGreatDoor
