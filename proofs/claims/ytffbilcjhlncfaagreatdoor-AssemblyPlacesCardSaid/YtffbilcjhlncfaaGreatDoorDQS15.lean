/- texts: V1 J1 J2 J3 J5. -/
import Derived.Test.YtffbilcjhlncfaaGreatDoorDQS14
namespace Go.Proofs.YtffbilcjhlncfaaGreatDoor
set_option maxHeartbeats 8000000
set_option linter.all false
section
open Go.RowKit
def slk (p:Q4) (x:Q3) (W:Int):Int:=p.2.2.2*W-bj (nrm p) x
theorem nl {α:Type} (s t:α→Int):∀ps:List α,(∃p∈ps,0<t p)→∃p∈ps,0<t p∧∀q∈ps,0<t q→s p*t q≤s q*t p
 | [],h=>by obtain⟨p,hp,_⟩:=h;cases hp
 |a::l,h=>by
  by_cases hl:∃p∈l,0<t p
  ·obtain⟨p,hp,ht,hm⟩:=nl s t l hl
   by_cases ha:0<t a∧s a*t p≤s p*t a
   ·refine⟨a,by simp,ha.1,fun q hq h0=> ?_⟩
    rcases alsk.1 hq with rfl|hq
    ·exact Int.le_refl _
    ·have h1:=hm q hq h0
     have h2:s a*t p*t q≤s p*t a*t q:=qgl ha.2 (by omega)
     have h3:s p*t q*t a≤s q*t p*t a:=qgl h1 (by omega)
     have e1:s a*t p*t q=s a*t q*t p:=by grind
     have e2:s p*t a*t q=s p*t q*t a:=by grind
     have e3:s q*t p*t a=s q*t a*t p:=by grind
     exact Int.le_of_mul_le_mul_right (by omega:s a*t q*t p≤s q*t a*t p) ht
   ·refine⟨p,by simp[hp],ht,fun q hq h0=> ?_⟩
    rcases alsk.1 hq with rfl|hq
    ·have:¬(s q*t p≤s p*t q):=fun h=>ha ⟨h0,h⟩
     omega
    ·exact hm q hq h0
  ·obtain⟨p,hp,ht⟩:=h
   rcases alsk.1 hp with rfl|hp
   ·refine⟨p,by simp,ht,fun q hq h0=> ?_⟩
    rcases alsk.1 hq with rfl|hq
    ·exact Int.le_refl _
    ·exact absurd ⟨q,hq,h0⟩ hl
   ·exact absurd ⟨p,hp,ht⟩ hl
def mv (x d:Q3) (t s:Int):Q3:=(t*x.1+s*d.1,t*x.2.1+s*d.2.1,t*x.2.2+s*d.2.2)
theorem vq (n x d:Q3) (t s:Int):bj n (mv x d t s)=t*bj n x+s*bj n d:=by unfold bj mv;grind
theorem rh (q:Q4) (x d:Q3) (W t s:Int):slk q (mv x d t s) (t*W)=t*slk q x W-s*bj (nrm q) d:=by unfold slk;rw[vq];grind
theorem yV (ps:List Q4) (x d:Q3) (W:Int) (hW:0<W) (hin:∀p∈ps,0≤slk p x W) (hd:∃p∈ps,0<bj (nrm p) d):
  ∃p∈ps,∃x' W',0<W'∧(∀q∈ps,0≤slk q x' W')∧slk p x' W'=0∧0<bj (nrm p) d∧(∀q,bj (nrm q) d=0→slk q x W=0→slk q x' W'=0)∧∀f,bj f d≤0→bj f x'*W≤bj f x*W':=by
 obtain⟨p,hp,ht,hm⟩:=nl (fun p=>slk p x W) (fun p=>bj (nrm p) d) ps hd
 have hs:=hin p hp
 refine⟨p,hp,mv x d (bj (nrm p) d) (slk p x W),bj (nrm p) d*W,qfY ht hW,fun q hq=> ?_, ?_,ht,fun q h0 h1=> ?_,fun f hf=> ?_⟩
 ·rw[rh]
  by_cases h0:0<bj (nrm q) d
  ·have:=hm q hq h0
   have e:bj (nrm p) d*slk q x W=slk q x W*bj (nrm p) d:=Int.mul_comm _ _
   omega
  ·have h1:0≤bj (nrm p) d*slk q x W:=qgc (by omega) (hin q hq)
   have h2:0≤slk p x W*(-(bj (nrm q) d)):=qgc hs (by omega)
   rw[Int.mul_neg]at h2
   omega
 ·rw[rh,Int.mul_comm];omega
 ·rw[rh,h0,h1];omega
 ·rw[vq,Int.add_mul]
  have h2:0≤slk p x W*(-(bj f d))*W:=qgc (qgc hs (by omega)) (by omega)
  have e:slk p x W*(-(bj f d))*W= -(slk p x W*bj f d*W):=by grind
  have e2:bj (nrm p) d*bj f x*W=bj f x*(bj (nrm p) d*W):=by grind
  omega
theorem vr {a b c W V U:Int} (hV:0<V) (hW:0<W) (hU:0<U) (h1:b*W≤a*V) (h2:c*V≤b*U):c*W≤a*U:=by
 have h3:b*W*U≤a*V*U:=qgl h1 (by omega)
 have h4:c*V*W≤b*U*W:=qgl h2 (by omega)
 have e1:b*W*U=b*U*W:=by grind
 have e2:a*V*U=a*U*V:=by grind
 have e3:c*V*W=c*W*V:=by grind
 exact Int.le_of_mul_le_mul_right (by omega:c*W*V≤a*U*V) hV
theorem yW (ps:List Q4) (hB:∀d:Q3,d≠(0,0,0)→∃p∈ps,0<bj (nrm p) d) (f x:Q3) (W:Int) (hW:0<W) (hin:∀p∈ps,0≤slk p x W):
  ∃p1∈ps,∃p2∈ps,∃p3∈ps,∃x' W',0<W'∧(∀q∈ps,0≤slk q x' W')∧slk p1 x' W'=0∧slk p2 x' W'=0∧slk p3 x' W'=0∧bN p1 p2 p3≠0∧bj f x'*W≤bj f x*W':=by
 have sg:∀d:Q3,d≠(0,0,0)→∃s:Int,(s=1∨s= -1)∧(s*d.1,s*d.2.1,s*d.2.2)≠((0,0,0):Q3)∧bj f (s*d.1,s*d.2.1,s*d.2.2)≤0:=fun d hd=>by
  by_cases h:bj f d≤0
  ·obtain⟨d1,d2,d3⟩:=d
   refine⟨1,Or.inl rfl, ?_, ?_⟩
   ·simp only[Int.one_mul];exact hd
   ·simp only[Int.one_mul];exact h
  ·refine⟨-1,Or.inr rfl, ?_, ?_⟩
   ·intro e
    apply hd
    simp only[Prod.mk.injEq]at e
    obtain⟨d1,d2,d3⟩:=d
    simp only[Prod.mk.injEq]at e ⊢
    omega
   ·have:bj f (-1*d.1, -1*d.2.1, -1*d.2.2)= -(bj f d):=by unfold bj;grind
    rw[this];omega
 obtain⟨s1,hs1,hn1,hf1⟩:=sg (1,0,0) (by simp)
 obtain⟨p1,hp1,x1,W1,hW1,hin1,z1,t1,_,l1⟩:=yV ps x _ W hW hin (hB _ hn1)
 have q1:p1.1≠0:=by
  intro e
  simp only[bj,nrm,e]at t1
  omega
 obtain⟨s2,hs2,hn2,hf2⟩:=sg (p1.2.1, -p1.1,0) (by simp;omega)
 obtain⟨p2,hp2,x2,W2,hW2,hin2,z2,t2,k2,l2⟩:=yV ps x1 _ W1 hW1 hin1 (hB _ hn2)
 have q2:p1.1*p2.2.1-p1.2.1*p2.1≠0:=by
  intro e
  have:bj (nrm p2) (s2*p1.2.1,s2* -p1.1,s2*0)= -(s2*(p1.1*p2.2.1-p1.2.1*p2.1)):=by unfold bj nrm;grind
  simp only at t2
  rw[this,e]at t2
  omega
 obtain⟨s3,hs3,hn3,hf3⟩:=sg (aN (nrm p1) (nrm p2)) (by
  intro e
  have:(aN (nrm p1) (nrm p2)).2.2=0:=by rw[e]
  exact q2 this)
 obtain⟨p3,hp3,x3,W3,hW3,hin3,z3,t3,k3,l3⟩:=yV ps x2 _ W2 hW2 hin2 (hB _ hn3)
 have y1:slk p1 x2 W2=0:=k2 p1 (by unfold bj nrm;grind) z1
 refine⟨p1,hp1,p2,hp2,p3,hp3,x3,W3,hW3,hin3,k3 p1 (by unfold bj aN nrm;grind) y1,k3 p2 (by unfold bj aN nrm;grind) z2,z3, ?_, ?_⟩
 ·intro e
  have:bj (nrm p3) (s3*(aN (nrm p1) (nrm p2)).1,s3*(aN (nrm p1) (nrm p2)).2.1,s3*(aN (nrm p1) (nrm p2)).2.2)=s3*bN p1 p2 p3:=by unfold bN bj;grind
  rw[this,e]at t3
  omega
 ·exact vr hW2 hW hW3 (vr hW1 hW hW2 (l1 f hf1) (l2 f hf2)) (l3 f hf3)
def SameAt (c:Q4) (x:Q3) (W:Int):Prop:=0<c.2.2.2∧c.2.2.2*x.1=W*c.1∧c.2.2.2*x.2.1=W*c.2.1∧c.2.2.2*x.2.2=W*c.2.2.1
def xyz (c:Q4):Q3:=(c.1,c.2.1,c.2.2.1)
theorem SameAt.slk {c:Q4} {x:Q3} {W:Int} (h:SameAt c x W) (q:Q4):slk q (xyz c) c.2.2.2*W=slk q x W*c.2.2.2:=by
 obtain⟨_,h1,h2,h3⟩:=h
 unfold Go.Proofs.YtffbilcjhlncfaaGreatDoor.slk bj xyz nrm
 grind
theorem xB (a b:Int):sgn a b=sgn 0 (b-a):=by
 unfold sgn
 by_cases h1:a<b
 ·rw[if_pos h1,if_pos (by omega)]
 ·rw[if_neg h1,if_neg (by omega:¬0<b-a)]
  by_cases h2:b<a
  ·rw[if_pos h2,if_pos (by omega)]
  ·rw[if_neg h2,if_neg (by omega:¬b-a<0)]
theorem mt (p c:Q4):sd p c=sgn 0 (slk p (xyz c) c.2.2.2):=by
 unfold sd uA
 rw[xB]
 rfl
theorem mu {a W:Int} (hW:0<W) (h:0<a*W):0<a:=by
 rcases Int.lt_or_le 0 a with h1|h1
 ·exact h1
 ·have:0≤(-a)*W:=qgc (by omega) (by omega)
  rw[Int.neg_mul]at this
  omega
theorem mT {a W:Int} (hW:0<W) (h:0≤a*W):0≤a:=by
 rcases Int.lt_or_le a 0 with h1|h1
 ·have:0<(-a)*W:=qfY (by omega) (by omega)
  rw[Int.neg_mul]at this
  omega
 ·exact h1
theorem SameAt.pos {c:Q4} {x:Q3} {W:Int} (h:SameAt c x W) (hW:0<W) (q:Q4) (hs:0<Go.Proofs.YtffbilcjhlncfaaGreatDoor.slk q x W):sd q c<0:=by
 have h1:0<Go.Proofs.YtffbilcjhlncfaaGreatDoor.slk q x W*c.2.2.2:=qfY hs h.1
 rw[←h.slk q]at h1
 have:=mu hW h1
 rw[mt,dp]
 exact this
theorem SameAt.nonneg {c:Q4} {x:Q3} {W:Int} (h:SameAt c x W) (hW:0<W) (q:Q4) (hs:0≤Go.Proofs.YtffbilcjhlncfaaGreatDoor.slk q x W):¬0<sd q c:=by
 have h1:0≤Go.Proofs.YtffbilcjhlncfaaGreatDoor.slk q x W*c.2.2.2:=qgc hs (Int.le_of_lt h.1)
 rw[←h.slk q]at h1
 have:=mT hW h1
 rw[mt,kS]
 omega
theorem yX (a b c:Q3) (x:Q3):bj (aN a b) c*x.1=(fP (bj a x) (bj b x) (bj c x) (aN b c) (aN c a) (aN a b)).1∧
  bj (aN a b) c*x.2.1=(fP (bj a x) (bj b x) (bj c x) (aN b c) (aN c a) (aN a b)).2.1∧
  bj (aN a b) c*x.2.2=(fP (bj a x) (bj b x) (bj c x) (aN b c) (aN c a) (aN a b)).2.2:=by
 refine⟨?_, ?_, ?_⟩<;>(unfold fP bj aN;grind)
theorem vt (W d0 d1 d2:Int) (a b c:Q3):(fP (d0*W) (d1*W) (d2*W) a b c).1=W*(fP d0 d1 d2 a b c).1∧(fP (d0*W) (d1*W) (d2*W) a b c).2.1=W*(fP d0 d1 d2 a b c).2.1∧(fP (d0*W) (d1*W) (d2*W) a b c).2.2=W*(fP d0 d1 d2 a b c).2.2:=by
 refine⟨?_, ?_, ?_⟩<;>(unfold fP;grind)
theorem ri (p q r:Q4) (x:Q3) (W:Int) (h0:bN p q r≠0) (hp:slk p x W=0) (hq:slk q x W=0) (hr:slk r x W=0):SameAt (TB p q r (bN p q r)) x W:=by
 obtain⟨c1,c2,c3⟩:=yX (nrm p) (nrm q) (nrm r) x
 have ep:bj (nrm p) x=p.2.2.2*W:=by unfold slk at hp;omega
 have eq:bj (nrm q) x=q.2.2.2*W:=by unfold slk at hq;omega
 have er:bj (nrm r) x=r.2.2.2*W:=by unfold slk at hr;omega
 rw[ep,eq,er]at c1 c2 c3
 obtain⟨m1,m2,m3⟩:=vt W p.2.2.2 q.2.2.2 r.2.2.2 (aN (nrm q) (nrm r)) (aN (nrm r) (nrm p)) (aN (nrm p) (nrm q))
 rw[m1]at c1
 rw[m2]at c2
 rw[m3]at c3
 unfold TB
 simp only
 generalize fP p.2.2.2 q.2.2.2 r.2.2.2 (aN (nrm q) (nrm r)) (aN (nrm r) (nrm p)) (aN (nrm p) (nrm q))=v at*
 obtain⟨g,hg,e1,e2,e3,e4,hpos⟩:=AZ v.1 v.2.1 v.2.2 (bN p q r) h0
 change bN p q r*x.1=_ at c1
 change bN p q r*x.2.1=_ at c2
 change bN p q r*x.2.2=_ at c3
 generalize eu v.1 v.2.1 v.2.2 (bN p q r)=c at*
 generalize bN p q r=den at*
 refine⟨hpos, ?_, ?_, ?_⟩
 ·refine Int.eq_of_mul_eq_mul_left hg ?_
  rw[e4,e1]at c1
  grind
 ·refine Int.eq_of_mul_eq_mul_left hg ?_
  rw[e4,e2]at c2
  grind
 ·refine Int.eq_of_mul_eq_mul_left hg ?_
  rw[e4,e3]at c3
  grind
theorem xC (ps:List Q4) (i k m:Nat) (hi:i<ps.length) (hk:k<i) (hm:m<k) (h0:bN (fk ps i) (fk ps k) (fk ps m)≠0)
  (ha:bG ps (TB (fk ps i) (fk ps k) (fk ps m) (bN (fk ps i) (fk ps k) (fk ps m)))=true):
  TB (fk ps i) (fk ps k) (fk ps m) (bN (fk ps i) (fk ps k) (fk ps m))∈raw ps ps.length:=by
 unfold raw gJ gI
 simp only[List.mem_flatMap,ultv]
 exact⟨i,hi,k,hk,m,hm,by unfold jo;rw[if_neg h0,if_pos ha];simp⟩
theorem rj {ps:List Q4} {c:Q4} {x:Q3} {W:Int} (h:SameAt c x W) (hW:0<W) (hin:∀q∈ps,0≤slk q x W):bG ps c=true:=by
 unfold bG
 simp only[Bool.not_eq_true',ultp,qfV]
 exact fun q hq=>h.nonneg hW q (hin q hq)
theorem jA {ps:List Q4} {p:Q4} (h:p∈ps):∃i,i<ps.length∧fk ps i=p:=by
 obtain⟨i,hi,rfl⟩:=qaJ h
 exact⟨i,hi,by simp[fk,List.getD,hi]⟩
theorem pl (ps:List Q4) (i k m:Nat) (hi:i<ps.length) (hk:k<i) (hm:m<k) (x:Q3) (W:Int) (hW:0<W) (hin:∀q∈ps,0≤slk q x W)
  (zi:slk (fk ps i) x W=0) (zk:slk (fk ps k) x W=0) (zm:slk (fk ps m) x W=0) (h0:bN (fk ps i) (fk ps k) (fk ps m)≠0):∃c∈raw ps ps.length,SameAt c x W:=by
 have h:=ri _ _ _ x W h0 zi zk zm
 exact⟨_,xC ps i k m hi hk hm h0 (rj h hW hin),h⟩
theorem gC (p q r:Q4):bN q p r= -bN p q r:=by unfold bN bj aN nrm;grind
theorem iH (p q r:Q4):bN p r q= -bN p q r:=by unfold bN bj aN nrm;grind
theorem tq (p r:Q4):bN p p r=0:=by unfold bN bj aN nrm;grind
theorem tr (p r:Q4):bN p r r=0:=by unfold bN bj aN nrm;grind
theorem tt (p r:Q4):bN p r p=0:=by unfold bN bj aN nrm;grind
theorem np (ps:List Q4) (p1 p2 p3:Q4) (h1:p1∈ps) (h2:p2∈ps) (h3:p3∈ps) (x:Q3) (W:Int) (hW:0<W) (hin:∀q∈ps,0≤slk q x W)
  (z1:slk p1 x W=0) (z2:slk p2 x W=0) (z3:slk p3 x W=0) (h0:bN p1 p2 p3≠0):∃c∈raw ps ps.length,SameAt c x W:=by
 obtain⟨i,hi,rfl⟩:=jA h1
 obtain⟨k,hk,rfl⟩:=jA h2
 obtain⟨m,hm,rfl⟩:=jA h3
 have n1:i≠k:=fun e=>h0 (by rw[e,tq])
 have n2:k≠m:=fun e=>h0 (by rw[e,tr])
 have n3:i≠m:=fun e=>h0 (by rw[e,tt])
 rcases Nat.lt_or_gt_of_ne n1 with a|a<;>rcases Nat.lt_or_gt_of_ne n2 with b|b<;>rcases Nat.lt_or_gt_of_ne n3 with c|c
 ·exact pl ps m k i hm b a x W hW hin z3 z2 z1 (by rw[gC,iH,gC];omega)
 ·omega
 ·exact pl ps k m i hk b c x W hW hin z2 z3 z1 (by rw[iH,gC];omega)
 ·exact pl ps k i m hk a c x W hW hin z2 z1 z3 (by rw[gC];omega)
 ·exact pl ps m i k hm c a x W hW hin z3 z1 z2 (by rw[gC,iH];omega)
 ·exact pl ps i m k hi c b x W hW hin z1 z3 z2 (by rw[iH];omega)
 ·omega
 ·exact pl ps i k m hi a b x W hW hin z1 z2 z3 h0
theorem Sx (ps:List Q4) (hB:∀d:Q3,d≠(0,0,0)→∃p∈ps,0<bj (nrm p) d) (x:Q3) (W:Int) (hW:0<W) (hin:∀p∈ps,0<slk p x W) (p:Q4) (hp:p∈ps):
  ∃c∈raw ps ps.length,sd p c<0:=by
 obtain⟨p1,h1,p2,h2,p3,h3,x',W',hW',hin',z1,z2,z3,h0,hf⟩:=yW ps hB (nrm p) x W hW (fun q hq=>Int.le_of_lt (hin q hq))
 obtain⟨c,hc,hs⟩:=np ps p1 p2 p3 h1 h2 h3 x' W' hW' hin' z1 z2 z3 h0
 refine⟨c,hc,hs.pos hW' p ?_⟩
 have h4:=hin p hp
 have h5:0<slk p x W*W':=qfY h4 hW'
 refine mu hW (a:=slk p x' W') ?_
 unfold slk at h5 ⊢
 have e1:(p.2.2.2*W-bj (nrm p) x)*W'=p.2.2.2*W*W'-bj (nrm p) x*W':=Int.sub_mul _ _ _
 have e2:(p.2.2.2*W'-bj (nrm p) x')*W=p.2.2.2*W*W'-bj (nrm p) x'*W:=by grind
 omega
end
section
open Go.RowKit Go.Shelf
attribute [local go_sem] Ext.cell Ext.frozen
def axP (ax:Nat) (s d:Int):Q4:=(if ax=0 then s else 0,if ax=1 then s else 0,if ax=2 then s else 0,d)
def bB (lo hi:Int) (xs:List Int):Bool:= !(xs.any fun n=>decide (n<lo∨hi<n))
def aD:List Int→Bool
 |x::y::l=>decide (x<y)&&aD (y::l)
 |_=>true
def Bf (kind n:Int):Bool:=
 if kind=5 then decide (3≤n)else if kind=7 then decide (1≤n)else if kind=8 then decide (8≤n)&&n.tmod 2==0 else
 n==[1,2,4,6,4,0,3,0,0,5,5].getD kind.toNat 0
def bF (L W:Int) (xs:List Int):Bool:=
 decide (1≤xs.getD 0 0∧xs.getD 0 0≤8)&&(L.tmod (xs.getD 0 0)==0)&&decide (0<xs.getD 1 0)&&
 decide (L / xs.getD 0 0≤xs.getD 2 0)&&(List.range (xs.length-3)).all (fun i=>decide (xs.getD (2+i) 0+xs.getD 1 0+2*(L / xs.getD 0 0)≤xs.getD (3+i) 0))&&
 decide (xs.getD (xs.length-1) 0+xs.getD 1 0+L / xs.getD 0 0≤W)
end
end Go.Proofs.YtffbilcjhlncfaaGreatDoor
