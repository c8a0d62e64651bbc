/- texts: O1 O2. -/
import Derived.Test.YtoidbolmlckhnaaGreatDoorSES35
namespace Go.Proofs.YtoidbolmlckhnaaGreatDoor
set_option maxHeartbeats 8000000
set_option linter.unusedSimpArgs false
set_option linter.unusedVariables false
section
open Go.RowKit
theorem Fz (ps:List Q4) (d e:Q3) (hd:∀p∈ps,bj (nrm p) d≤0) (hde:bj d e=0) (hdd:0<bj d d) (he:∃p∈ps,bj (nrm p) e≠0):
  ∃p∈ps,bj (nrm p) e≠0∧∃d':Q3,(∀q∈ps,bj (nrm q) d'≤0)∧bj (nrm p) d'=0∧d'≠(0,0,0)∧∀q:Q3,bj q d=0→bj q e=0→bj q d'=0:=by
 have key:∀e:Q3,bj d e=0→(∃p∈ps,0<bj (nrm p) e)→∃p∈ps,0<bj (nrm p) e∧∃d':Q3,(∀q∈ps,bj (nrm q) d'≤0)∧bj (nrm p) d'=0∧d'≠(0,0,0)∧∀q:Q3,bj q d=0→bj q e=0→bj q d'=0:=by
  intro e hde he
  obtain⟨p,hp,ht,hm⟩:=nl (fun p=> -(bj (nrm p) d)) (fun p=>bj (nrm p) e) ps he
  have hs:=hd p hp
  refine⟨p,hp,ht,mv d e (bj (nrm p) e) (-(bj (nrm p) d)),fun q hq=> ?_, ?_, ?_,fun q h1 h2=> ?_⟩
  ·rw[vq]
   by_cases h0:0<bj (nrm q) e
   ·have h1:=hm q hq h0
    rw[Int.neg_mul,Int.neg_mul]at h1
    have e1:bj (nrm p) e*bj (nrm q) d=bj (nrm q) d*bj (nrm p) e:=Int.mul_comm _ _
    rw[Int.neg_mul]
    omega
   ·have h1:=Int.mul_nonneg (Int.le_of_lt ht) (show 0≤ -(bj (nrm q) d) by have:=hd q hq;omega)
    have h2:=Int.mul_nonneg (show 0≤ -(bj (nrm p) d) by omega) (show 0≤ -(bj (nrm q) e) by omega)
    rw[Int.mul_neg]at h1 h2
    omega
  ·rw[vq,Int.neg_mul,Int.mul_comm];omega
  ·intro h0
   have h1:bj d (mv d e (bj (nrm p) e) (-(bj (nrm p) d)))=0:=by rw[h0];unfold bj;simp
   rw[vq,hde,Int.mul_zero,Int.add_zero]at h1
   have:=Int.mul_pos ht hdd
   omega
  ·rw[vq,h1,h2];omega
 by_cases h:∃p∈ps,0<bj (nrm p) e
 ·obtain⟨p,hp,h0,d',h1,h2,h3,h4⟩:=key e hde h
  exact⟨p,hp,by omega,d',h1,h2,h3,h4⟩
 ·have hn:∀f:Q3,bj f (-e.1, -e.2.1, -e.2.2)= -(bj f e):=fun f=>by unfold bj;grind
  obtain⟨p,hp,h0,d',h1,h2,h3,h4⟩:=key (-e.1, -e.2.1, -e.2.2) (by rw[hn,hde];rfl) (by
   obtain⟨p,hp,h0⟩:=he
   have:¬0<bj (nrm p) e:=fun h1=>h ⟨p,hp,h1⟩
   exact⟨p,hp,by rw[hn];omega⟩)
  rw[hn]at h0
  exact⟨p,hp,by omega,d',h1,h2,h3,fun q g1 g2=>h4 q g1 (by rw[hn,g2];rfl)⟩
theorem FA (ps:List Q4) (h:bx ps=true):Bdd ps:=by
 unfold bx at h
 rw[Bool.and_eq_true]at h
 obtain⟨hg,hf⟩:=h
 have hln:∀i k,dJ ps k i=(-(dJ ps i k).1, -(dJ ps i k).2.1, -(dJ ps i k).2.2):=fun i k=>by unfold dJ aN;simp only[Prod.mk.injEq];refine⟨?_, ?_, ?_⟩<;>grind
 have hG:∀p∈ps,∀q∈ps,aN (nrm p) (nrm q)≠(0,0,0)→(∃r∈ps,0<bj (aN (nrm p) (nrm q)) (nrm r))∧∃r∈ps,bj (aN (nrm p) (nrm q)) (nrm r)<0:=by
  have key:∀i k,i<ps.length→k<i→dJ ps i k≠(0,0,0)→(∃r∈ps,0<bj (dJ ps i k) (nrm r))∧∃r∈ps,bj (dJ ps i k) (nrm r)<0:=fun i k hi hk h0=>by
   have h1:=List.all_eq_true.1 hg i (by simpa using hi)
   have h2:=List.all_eq_true.1 h1 k (by simpa using hk)
   unfold ij nzB at h2
   rw[decide_eq_true h0]at h2
   unfold mR mS at h2
   rw[List.take_length]at h2
   simp only[Bool.not_true,Bool.false_or,Bool.and_eq_true,List.any_eq_true,decide_eq_true_eq]at h2
   exact h2
  intro p hp q hq h0
  obtain⟨i,hi,rfl⟩:=jA hp
  obtain⟨k,hk,rfl⟩:=jA hq
  rcases Nat.lt_trichotomy i k with h1|h1|h1
  ·have e:aN (nrm (bm ps i)) (nrm (bm ps k))=(-(dJ ps k i).1, -(dJ ps k i).2.1, -(dJ ps k i).2.2):=hln k i
   have hn:∀f:Q3,bj (-(dJ ps k i).1, -(dJ ps k i).2.1, -(dJ ps k i).2.2) f= -(bj (dJ ps k i) f):=fun f=>by unfold bj;grind
   rw[e]at h0 ⊢
   obtain⟨⟨r,hr,h2⟩,r',hr',h3⟩:=key k i hk h1 (fun e0=>h0 (by rw[e0];rfl))
   exact⟨⟨r',hr',by rw[hn];omega⟩,r,hr,by rw[hn];omega⟩
  ·subst h1
   exact absurd (by unfold aN;simp only[Prod.mk.injEq];refine⟨?_, ?_, ?_⟩<;>grind) h0
  ·exact key i k hi h1 h0
 have hsp:∃p∈ps,∃q∈ps,∃r∈ps,bN p q r≠0:=by
  unfold jw Rq at hf
  simp only[List.any_eq_true,List.mem_range]at hf
  obtain⟨i,hi,k,hk,h0⟩:=hf
  have h0:dJ ps i k≠(0,0,0):=of_decide_eq_true h0
  have g:∀j,j<ps.length→bm ps j∈ps:=fun j hj=>by
   have:bm ps j=ps[j]:=by simp[bm,List.getD,hj]
   rw[this];exact List.getElem_mem hj
  obtain⟨⟨r,hr,h2⟩,_⟩:=hG _ (g i hi) _ (g k (by omega)) h0
  exact⟨_,g i hi,_,g k (by omega),r,hr,by unfold bN;omega⟩
 obtain⟨a,ha,b,hb,c,hc,hden⟩:=hsp
 have hspan:∀e:Q3,e≠(0,0,0)→∃p∈ps,bj (nrm p) e≠0:=fun e he=>by
  refine Classical.byContradiction fun hno=> ?_
  have z:∀p∈ps,bj (nrm p) e=0:=fun p hp=>Classical.byContradiction fun h0=>hno ⟨p,hp,h0⟩
  obtain⟨c1,c2,c3⟩:=yX (nrm a) (nrm b) (nrm c) e
  rw[z a ha,z b hb,z c hc]at c1 c2 c3
  have hz:∀u v w:Q3,fP 0 0 0 u v w=(0,0,0):=fun u v w=>by unfold fP;simp
  rw[hz]at c1 c2 c3
  obtain⟨e1,e2,e3⟩:=e
  unfold bN at hden
  refine he ?_
  have g1:e1=0:=(Int.mul_eq_zero.1 c1).resolve_left hden
  have g2:e2=0:=(Int.mul_eq_zero.1 c2).resolve_left hden
  have g3:e3=0:=(Int.mul_eq_zero.1 c3).resolve_left hden
  rw[g1,g2,g3]
 intro d hd
 refine Classical.byContradiction fun hno=> ?_
 have hcone:∀p∈ps,bj (nrm p) d≤0:=fun p hp=>Int.not_lt.1 fun h=>hno ⟨p,hp,h⟩
 obtain⟨e,he,_,hed⟩:=Mr d (0,0,0) hd (by unfold bj;simp)
 obtain⟨e,he0,hde,_⟩:=Mr d (0,0,0) hd (by unfold bj;simp)
 obtain⟨p1,hp1,hpe,d1,hc1,ht1,hd1,_⟩:=Fz ps d e hcone hde (ku hd) (hspan e he0)
 have hn1:nrm p1≠(0,0,0):=fun e0=>hpe (by rw[e0];unfold bj;simp)
 have he2:aN (nrm p1) d1≠(0,0,0):=fun e0=>by
  have h3:bj (aN (nrm p1) d1) (aN (nrm p1) d1)=bj (nrm p1) (nrm p1)*bj d1 d1-bj (nrm p1) d1*bj (nrm p1) d1:=by unfold bj aN;grind
  rw[e0,ht1]at h3
  have:=Int.mul_pos (ku hn1) (ku hd1)
  have:bj ((0,0,0):Q3) (0,0,0)=0:=rfl
  omega
 obtain⟨p2,hp2,hpe2,d2,hc2,ht2,hd2,hk2⟩:=Fz ps d1 (aN (nrm p1) d1) hc1 (by unfold bj aN;grind) (ku hd1) (hspan _ he2)
 have ht12:=hk2 (nrm p1) ht1 (by unfold bj aN;grind)
 have hx:aN (nrm p1) (nrm p2)≠(0,0,0):=fun e0=>hpe2 (by
  have:bj (nrm p2) (aN (nrm p1) d1)= -(bj d1 (aN (nrm p1) (nrm p2))):=by unfold bj aN;grind
  rw[this,e0];unfold bj;simp)
 obtain⟨⟨r,hr,h1⟩,r',hr',h2⟩:=hG p1 hp1 p2 hp2 hx
 have hid:∀n:Q3,bj (aN (nrm p1) (nrm p2)) n*bj d2 d2=bj (aN (nrm p1) (nrm p2)) d2*bj n d2:=fun n=>by
  have:bj (aN (nrm p1) (nrm p2)) n*bj d2 d2-bj (aN (nrm p1) (nrm p2)) d2*bj n d2=bj (nrm p1) d2*bj (nrm p2) (aN n d2)-bj (nrm p2) d2*bj (nrm p1) (aN n d2):=by unfold bj aN;grind
  rw[ht12,ht2]at this
  omega
 have hdd:=ku hd2
 have g1:=hid (nrm r)
 have g2:=hid (nrm r')
 have k1:=Int.mul_pos h1 hdd
 have k2:=Int.mul_pos (show 0< -(bj (aN (nrm p1) (nrm p2)) (nrm r')) by omega) hdd
 rw[Int.neg_mul]at k2
 have n1:=hc2 r hr
 have n2:=hc2 r' hr'
 rcases Int.le_total 0 (bj (aN (nrm p1) (nrm p2)) d2)with h|h
 ·have:=Int.mul_nonneg h (show 0≤ -(bj (nrm r) d2) by omega)
  rw[Int.mul_neg]at this
  omega
 ·have:=Int.mul_nonneg (show 0≤ -(bj (aN (nrm p1) (nrm p2)) d2) by omega) (show 0≤ -(bj (nrm r') d2) by omega)
  rw[Int.neg_mul,Int.mul_neg]at this
  omega
def Ins (l:List Q4):Prop:=∃o:Q3,∃W:Int,0<W∧Str l o W
theorem Mt (ps C:List Q4) (h0:0<ps.length) (hC:∀c∈C,0<c.2.2.2∧InP ps (xyz c) c.2.2.2) (hi:∀p∈ps,∃c∈C,0<slk p (xyz c) c.2.2.2):Ins ps:=by
 have key:∀l:List Q4,0<l.length→(∀p∈l,p∈ps)→∃o W,0<W∧InP ps o W∧Str l o W:=by
  intro l
  induction l with
  |nil=>intro h;simp at h
  |cons p l ih=>
   intro _ hl
   obtain⟨c,hc,hs⟩:=hi p (hl p (by simp))
   obtain⟨hcW,hcI⟩:=hC c hc
   by_cases hn:0<l.length
   ·obtain⟨o,W,hW,hI,hS⟩:=ih hn (fun q hq=>hl q (List.mem_cons_of_mem _ hq))
    refine⟨(1*o.1+1*(xyz c).1,1*o.2.1+1*(xyz c).2.1,1*o.2.2+1*(xyz c).2.2),1*W+1*c.2.2.2,by omega,fun q hq=> ?_,fun q hq=> ?_⟩
    ·rw[Da];have:=hI q hq;have:=hcI q hq;omega
    ·rw[Da]
     have h1:=hcI q (hl q hq)
     rcases List.mem_cons.1 hq with rfl|hq
     ·have:=hI q (hl q (by simp));omega
     ·have:=hS q hq;omega
   ·have:l=[]:=List.eq_nil_of_length_eq_zero (by omega)
    subst this
    exact⟨xyz c,c.2.2.2,hcW,hcI,fun q hq=>by rw[List.mem_singleton]at hq;subst hq;exact hs⟩
 obtain⟨o,W,hW,_,hS⟩:=key ps h0 (fun p hp=>hp)
 exact⟨o,W,hW,hS⟩
structure Rep (q:Bod) (S:List Q4):Prop where
 sub:∀x W,0<W→(InP q.1 x W↔InP S x W)
 str:∀x W,Str S x W→Str q.1 x W
 bdd:Bdd q.1
 vert:Vert q.1 q.2
 inC:∀c∈q.2,0<c.2.2.2∧InP q.1 (xyz c) c.2.2.2
 ins:Ins S
theorem IE (p:Q4):∃g:Int,0<g∧∀x W,slk p x W=g*slk (eL p) x W:=by
 unfold eL
 split
 ·rename_i h
  unfold IV at h
  have d1:=aY [p.1,p.2.1,p.2.2.1,p.2.2.2] p.1 (by simp)
  have d2:=aY [p.1,p.2.1,p.2.2.1,p.2.2.2] p.2.1 (by simp)
  have d3:=aY [p.1,p.2.1,p.2.2.1,p.2.2.2] p.2.2.1 (by simp)
  have d4:=aY [p.1,p.2.1,p.2.2.1,p.2.2.2] p.2.2.2 (by simp)
  unfold dG
  generalize aU [p.1,p.2.1,p.2.2.1,p.2.2.2]=g at*
  have e1:=Int.mul_ediv_cancel' d1
  have e2:=Int.mul_ediv_cancel' d2
  have e3:=Int.mul_ediv_cancel' d3
  have e4:=Int.mul_ediv_cancel' d4
  refine⟨g,by omega,fun x W=> ?_⟩
  unfold slk bj nrm
  simp only
  grind
 ·exact⟨1,by omega,fun x W=>by omega⟩
theorem IF {g a b:Int} (hg:0<g) (h:a=g*b):(0<a↔0<b)∧(0≤a↔0≤b):=by
 subst h
 refine⟨⟨fun h=> ?_,fun h=>Int.mul_pos hg h⟩,⟨fun h=> ?_,fun h=>Int.mul_nonneg (Int.le_of_lt hg) h⟩⟩
 ·exact mu hg (by rw[Int.mul_comm];exact h)
 ·exact mT hg (by rw[Int.mul_comm];exact h)
theorem zW (p:Q4) (x:Q3) (W:Int):(0<slk p x W↔0<slk (eL p) x W)∧(0≤slk p x W↔0≤slk (eL p) x W):=by
 obtain⟨g,hg,h⟩:=IE p
 exact IF hg (h x W)
theorem Lz {S:List Q4} {x:Q4} {o y:Q3} {W V:Int} (hW:0<W) (ho:Str S o W) (hV:0<V) (hy:InP S y V) (hx:0<slk x y V):Ins (S++[x]):=by
 obtain⟨t,ht⟩:∃t:Int,t=1+(slk x o W).natAbs:=⟨_,rfl⟩
 refine⟨(1*o.1+t*y.1,1*o.2.1+t*y.2.1,1*o.2.2+t*y.2.2),1*W+t*V, ?_,fun q hq=> ?_⟩
 ·have:=Int.mul_pos (show 0<t by omega) hV;omega
 ·rw[Da]
  rcases List.mem_append.1 hq with hq|hq
  ·have h1:=ho q hq
   have h2:=Int.mul_nonneg (show 0≤t by omega) (hy q hq)
   omega
  ·rw[List.mem_singleton]at hq
   subst hq
   have h2:t*1≤t*slk q y V:=Int.mul_le_mul_of_nonneg_left hx (by omega)
   omega
theorem Ko {q:Bod} {S:List Q4} (h:Rep q S) (r:Q4) (o:Q3) (W:Int) (hW:0<W) (ho:InP q.1 o W):∃c∈q.2,0<c.2.2.2∧InP q.1 (xyz c) c.2.2.2∧slk r o W*c.2.2.2≤slk r (xyz c) c.2.2.2*W:=by
 obtain⟨c,hc,h1,h2,h3⟩:=Cq h.bdd h.vert (nrm r) o W hW ho
 refine⟨c,hc,h1,h2, ?_⟩
 unfold slk
 have e1:(r.2.2.2*W-bj (nrm r) o)*c.2.2.2=r.2.2.2*W*c.2.2.2-bj (nrm r) o*c.2.2.2:=Int.sub_mul _ _ _
 have e2:(r.2.2.2*c.2.2.2-bj (nrm r) (xyz c))*W=r.2.2.2*W*c.2.2.2-bj (nrm r) (xyz c)*W:=by grind
 omega
theorem IG {q:Bod} {S:List Q4} (h:Rep q S) (r:Q4) (o:Q3) (W:Int) (hW:0<W) (ho:InP q.1 o W):∃c∈q.2,0<c.2.2.2∧slk r (xyz c) c.2.2.2*W≤slk r o W*c.2.2.2:=by
 obtain⟨c,hc,h1,_,h3⟩:=Cq h.bdd h.vert (-(nrm r).1, -(nrm r).2.1, -(nrm r).2.2) o W hW ho
 refine⟨c,hc,h1, ?_⟩
 have hn:∀f:Q3,bj (-(nrm r).1, -(nrm r).2.1, -(nrm r).2.2) f= -(bj (nrm r) f):=fun f=>by unfold bj;grind
 rw[hn,hn,Int.neg_mul,Int.neg_mul]at h3
 unfold slk
 have e1:(r.2.2.2*W-bj (nrm r) o)*c.2.2.2=r.2.2.2*W*c.2.2.2-bj (nrm r) o*c.2.2.2:=Int.sub_mul _ _ _
 have e2:(r.2.2.2*c.2.2.2-bj (nrm r) (xyz c))*W=r.2.2.2*W*c.2.2.2-bj (nrm r) (xyz c)*W:=by grind
 omega
theorem Kp {p:Q4} {cs:List Q4} {c:Q4}:c∈Ob p cs↔c∈cs∧cw p c≤0:=by
 unfold Ob
 rw[(tw _ [] List.nodup_nil).2]
 simp
theorem mem_cutC {p:Q4} {b:Bod} {c:Q4}:c∈gi p b b.1.length 0↔(c∈b.2∧cw p c≤0)∨∃i k,i<b.1.length∧k<i∧c∈py p b.1 i k:=by
 unfold gi
 rw[(tw _ _ (by unfold Ob;exact(tw _ [] List.nodup_nil).1)).2,Kp]
 unfold Cu pK
 simp only[List.mem_append,List.mem_flatMap,List.mem_range,List.range_zero,List.flatMap_nil,List.not_mem_nil,or_false]
 constructor
 ·rintro(h|⟨i,hi,k,hk,h⟩)
  ·exact .inl h
  ·exact .inr ⟨i,k,hi,hk,h⟩
 ·rintro(h|⟨i,k,hi,hk,h⟩)
  ·exact .inl h
  ·exact .inr ⟨i,hi,k,hk,h⟩
theorem DS (p q r:Q4) (h0:bN p q r≠0):0<(TB p q r (bN p q r)).2.2.2:=by
 unfold TB
 exact(AZ _ _ _ _ h0).choose_spec.2.2.2.2.2
theorem FB {p:Q4} {ps:List Q4} {i k:Nat} {x:Q3} {W:Int} (hW:0<W) (hin:InP (ps++[p]) x W) (h0:bN p (bm ps i) (bm ps k)≠0) (zp:slk p x W=0) (zi:slk (bm ps i) x W=0) (zk:slk (bm ps k) x W=0):
  ∃c∈py p ps i k,SameAt c x W:=by
 have hs:=ri _ _ _ x W h0 zp zi zk
 have e:lD p (bm ps i) (bm ps k)=TB p (bm ps i) (bm ps k) (bN p (bm ps i) (bm ps k)):=by unfold lD;rw[if_neg h0]
 have ha:=rj hs hW hin
 have ho:okB p (bm ps i) (bm ps k)=true:=by unfold okB;simpa using h0
 refine⟨_, ?_,hs⟩
 unfold py
 rw[e,ho,ha]
 simp
theorem Kq {p:Q4} {ps:List Q4} {i k:Nat} {c:Q4} (h:c∈py p ps i k):0<c.2.2.2∧InP (ps++[p]) (xyz c) c.2.2.2:=by
 unfold py at h
 split at h
 ·rename_i hc
  rw[Bool.and_eq_true]at hc
  rw[List.mem_singleton]at h
  have h0:bN p (bm ps i) (bm ps k)≠0:=by have:=hc.1;unfold okB at this;simpa using this
  have e:lD p (bm ps i) (bm ps k)=TB p (bm ps i) (bm ps k) (bN p (bm ps i) (bm ps k)):=by unfold lD;rw[if_neg h0]
  have ha:=hc.2
  rw[←h]at ha
  refine⟨by rw[h,e];exact DS _ _ _ h0,fun q hq=>dL ha hq⟩
 ·cases h
theorem Kr {p:Q4} {ps:List Q4} {a b:Q4} (ha:a∈ps) (hb:b∈ps) (h0:bN p a b≠0) {x:Q3} {W:Int} (hW:0<W) (hin:InP (ps++[p]) x W) (zp:slk p x W=0) (za:slk a x W=0) (zb:slk b x W=0):
  ∃i k,i<ps.length∧k<i∧∃c∈py p ps i k,SameAt c x W:=by
 obtain⟨i,hi,rfl⟩:=jA ha
 obtain⟨k,hk,rfl⟩:=jA hb
 rcases Nat.lt_trichotomy i k with h1|h1|h1
 ·exact⟨k,i,hk,h1,FB hW hin (by rw[iH];omega) zp zb za⟩
 ·subst h1
  exact absurd (tr _ _) h0
 ·exact⟨i,k,hi,h1,FB hW hin h0 zp za zb⟩
theorem Ks {q:Bod} {p:Q4} (hV:Vert q.1 q.2):Vert (q.1++[p]) (gi p q q.1.length 0):=by
 intro a ha b hb c hc hd x W hW hin za zb zc
 have hp:=hin p (by simp)
 have via:∀u v:Q4,u∈q.1++[p]→v∈q.1++[p]→bN p u v≠0→slk p x W=0→slk u x W=0→slk v x W=0→∃c∈gi p q q.1.length 0,SameAt c x W:=fun u v hu hv h0 z1 z2 z3=>by
  have hu':u∈q.1:=by
   rcases List.mem_append.1 hu with h|h
   ·exact h
   ·rw[List.mem_singleton]at h;subst h;exact absurd (tq _ _) h0
  have hv':v∈q.1:=by
   rcases List.mem_append.1 hv with h|h
   ·exact h
   ·rw[List.mem_singleton]at h;subst h;exact absurd (tt _ _) h0
  obtain⟨i,k,hi,hk,c,hc,hs⟩:=Kr hu' hv' h0 hW hin z1 z2 z3
  exact⟨c,mem_cutC.2 (.inr ⟨i,k,hi,hk,hc⟩),hs⟩
 rcases List.mem_append.1 ha with ha'|ha'
 ·rcases List.mem_append.1 hb with hb'|hb'
  ·rcases List.mem_append.1 hc with hc'|hc'
   ·obtain⟨d,hd',hs⟩:=hV a ha' b hb' c hc' hd x W hW (fun q hq=>hin q (by simp[hq])) za zb zc
    refine⟨d,mem_cutC.2 (.inl ⟨hd', ?_⟩),hs⟩
    rw[th]
    have:=GQ hs hW p hp
    omega
   ·rw[List.mem_singleton]at hc'
    subst hc'
    exact via a b ha hb (by rw[gC,iH];omega) zc za zb
  ·rw[List.mem_singleton]at hb'
   subst hb'
   exact via a c ha hc (by rw[gC];omega) zb za zc
 ·rw[List.mem_singleton]at ha'
  subst ha'
  exact via b c hb hc hd za zb zc
theorem inP_snoc {S:List Q4} {x:Q4} {o:Q3} {W:Int}:InP (S++[x]) o W↔InP S o W∧0≤slk x o W:=by
 unfold InP
 simp only[List.mem_append,List.mem_singleton]
 constructor
 ·intro h;exact⟨fun p hp=>h p (.inl hp),h x (.inr rfl)⟩
 ·rintro⟨h1,h2⟩ p (hp|rfl)
  ·exact h1 p hp
  ·exact h2
theorem str_snoc {S:List Q4} {x:Q4} {o:Q3} {W:Int}:Str (S++[x]) o W↔Str S o W∧0<slk x o W:=by
 unfold Str
 simp only[List.mem_append,List.mem_singleton]
 constructor
 ·intro h;exact⟨fun p hp=>h p (.inl hp),h x (.inr rfl)⟩
 ·rintro⟨h1,h2⟩ p (hp|rfl)
  ·exact h1 p hp
  ·exact h2
theorem FC {L C S:List Q4} (hB:Bdd L) (hV:Vert L C) (hC:∀c∈C,0<c.2.2.2∧InP L (xyz c) c.2.2.2) (hsub:∀x W,0<W→(InP L x W↔InP S x W)) (hstr:∀x W,Str S x W→Str L x W) (hi:Ins S):Rep (jz L C,C) S:=by
 obtain⟨o,W0,hW0,ho⟩:=hi
 have hoL:=hstr o W0 ho
 have hm:=(BM L C).2
 have hn:∀x W,0<W→InP (jz L C) x W→InP L x W:=fun x W hW h=>CG C o W0 hW0 L [] hB hV hoL x W hW h
 exact{
  sub:=fun x W hW=>⟨fun h=>(hsub x W hW).1 (hn x W hW h),fun h p hp=>(hsub x W hW).2 h p (hm p hp)⟩
  str:=fun x W h p hp=>hstr x W h p (hm p hp)
  bdd:=Dx hB hn o W0 hW0 (fun p hp=>Int.le_of_lt (hoL p (hm p hp)))
  vert:=hV.sub hm hn
  inC:=fun c hc=>⟨(hC c hc).1,fun p hp=>(hC c hc).2 p (hm p hp)⟩
  ins:=⟨o,W0,hW0,ho⟩}
theorem LA {q:Bod} {S:List Q4} (h:Rep q S) (x:Q4):((qm q x).2=true→Rep (qm q x).1 (S++[x]))∧((qm q x).2=false→¬Ins (S++[x])):=by
 have hwi:wiA (eL x) q.2=false→¬Ins (S++[x]):=fun hw hI=>by
  obtain⟨o,W,hW,ho⟩:=hI
  obtain⟨h1,h2⟩:=str_snoc.1 ho
  obtain⟨c,hc,hcW,_,h3⟩:=Ko h (eL x) o W hW ((h.sub o W hW).2 h1.inP)
  have h4:=Int.mul_pos ((zW x o W).1.1 h2) hcW
  have h5:0<slk (eL x) (xyz c) c.2.2.2:=mu hW (by omega)
  unfold wiA at hw
  rw[List.any_eq_false]at hw
  exact hw c hc (by rw[th];simp;omega)
 have hwt:wiA (eL x) q.2=true→Ins (S++[x]):=fun hw=>by
  obtain⟨o,W,hW,ho⟩:=h.ins
  unfold wiA at hw
  rw[List.any_eq_true]at hw
  obtain⟨c,hc,hs⟩:=hw
  have hs:=of_decide_eq_true hs
  rw[th]at hs
  obtain⟨hcW,hcI⟩:=h.inC c hc
  exact Lz hW ho hcW ((h.sub _ _ hcW).1 hcI) ((zW x _ _).1.2 (by omega))
 unfold qm
 by_cases hw:wiA (eL x) q.2=true
 ·by_cases hb:beA (eL x) q.2=true
  ·rw[if_pos (by rw[hw,hb];rfl)]
   refine⟨fun _=> ?_,(fun h=>by cases h)⟩
   have hC:∀c∈gi (eL x) q q.1.length 0,0<c.2.2.2∧InP (q.1++[eL x]) (xyz c) c.2.2.2:=fun c hc=>by
    rcases mem_cutC.1 hc with⟨h1,h2⟩|⟨i,k,_,_,h1⟩
    ·rw[th]at h2
     exact⟨(h.inC c h1).1,inP_snoc.2 ⟨(h.inC c h1).2,by omega⟩⟩
    ·exact Kq h1
   exact FC (h.bdd.mono (fun p hp=>by simp[hp])) (Ks h.vert) hC
    (fun y W hW=>by rw[inP_snoc,inP_snoc,h.sub y W hW,(zW x y W).2])
    (fun y W hy=>by
     obtain⟨h1,h2⟩:=str_snoc.1 hy
     exact str_snoc.2 ⟨h.str y W h1,(zW x y W).1.1 h2⟩) (hwt hw)
  ·rw[if_neg (by rw[hw];simpa using hb)]
   refine⟨fun _=> ?_,fun h=> ?_⟩
   rotate_left
   ·simp only at h
    rw[hw]at h
    cases h
   have hall:∀y W,0<W→InP q.1 y W→0≤slk x y W:=fun y W hW hy=>by
    obtain⟨c,hc,hcW,h3⟩:=IG h (eL x) y W hW hy
    have h4:¬0<cw (eL x) c:=fun h5=>hb (by unfold beA;rw[List.any_eq_true];exact⟨c,hc,by simpa using h5⟩)
    rw[th]at h4
    have h5:=Int.mul_nonneg (show 0≤slk (eL x) (xyz c) c.2.2.2 by omega) (Int.le_of_lt hW)
    exact(zW x y W).2.2 (mT hcW (by omega))
   exact{
    sub:=fun y W hW=>⟨fun hy=>inP_snoc.2 ⟨(h.sub y W hW).1 hy,hall y W hW hy⟩,fun hy=>(h.sub y W hW).2 (inP_snoc.1 hy).1⟩
    str:=fun y W hy=>h.str y W (str_snoc.1 hy).1
    bdd:=h.bdd
    vert:=h.vert
    inC:=h.inC
    ins:=hwt hw}
 ·have hw':wiA (eL x) q.2=false:=by simpa using hw
  rw[if_neg (by rw[hw'];simp)]
  refine⟨fun h=> ?_,fun _=>hwi hw'⟩
  simp only at h
  rw[hw']at h
  cases h
theorem Kt (ps:List Q4):Vert ps (ct ps):=fun p hp q hq r hr hd x W hW hin z1 z2 z3=>by
 obtain⟨c,hc,hs⟩:=np ps p q r hp hq hr x W hW hin z1 z2 z3 hd
 exact⟨c,((lf ps).2 c).2 hc,hs⟩
theorem Ku (ps:List Q4):∀c∈ct ps,0<c.2.2.2∧InP ps (xyz c) c.2.2.2:=fun c hc=>by
 have hr:=((lf ps).2 c).1 hc
 obtain⟨p,_,q,_,r,_,h0,e⟩:=mx (Nat.le_refl _) hr
 exact⟨by rw[e];exact DS _ _ _ h0,fun q hq=>dL (ld hr) hq⟩
theorem Ql {ps:List Q4} (hB:Bdd ps):ps.all (gM (ct ps))=true↔Ins ps:=by
 have hne:0<ps.length:=by
  obtain⟨p,hp,_⟩:=hB (1,0,0) (by simp)
  exact List.length_pos_of_mem hp
 constructor
 ·intro h
  rw[List.all_eq_true]at h
  refine Mt ps (ct ps) hne (Ku ps) (fun p hp=> ?_)
  have h1:=h p hp
  unfold gM at h1
  rw[List.any_eq_true]at h1
  obtain⟨c,hc,h2⟩:=h1
  have h2:=of_decide_eq_true h2
  rw[mt,dp]at h2
  exact⟨c,hc,h2⟩
 ·rintro⟨o,W,hW,ho⟩
  rw[List.all_eq_true]
  intro p hp
  obtain⟨c,hc,hs⟩:=Sx ps hB o W hW ho p hp
  unfold gM
  rw[List.any_eq_true]
  exact⟨c,((lf ps).2 c).2 hc,by simpa using hs⟩
def go3 (x w:Q3) (T:Int):Q3:=(x.1+T*w.1,x.2.1+T*w.2.1,x.2.2+T*w.2.2)
def Hit (P Q:List Q4) (w:Q3):Prop:=∃x:Q3,∃W T:Int,0<W∧0≤T∧Str P x W∧Str Q (go3 x w T) W
def Dy (w:Q3):Q3:=(-w.1, -w.2.1, -w.2.2)
theorem Kv (x w:Q3) (T:Int):go3 (go3 x w T) (Dy w) T=x:=by
 obtain⟨a,b,c⟩:=x
 unfold go3 Dy
 simp only[Prod.mk.injEq]
 refine⟨?_, ?_, ?_⟩<;>grind
theorem GR {P Q:List Q4} {w:Q3} (h:Hit P Q w):Hit Q P (Dy w):=by
 obtain⟨x,W,T,hW,hT,h1,h2⟩:=h
 exact⟨go3 x w T,W,T,hW,hT,h2,by rw[Kv];exact h1⟩
theorem Dz (w:Q3):Dy (Dy w)=w:=by obtain⟨a,b,c⟩:=w;simp[Dy]
theorem hit_sym {P Q:List Q4} {w:Q3}:Hit P Q w↔Hit Q P (Dy w):=⟨GR,fun h=>by have:=GR h;rwa [Dz]at this⟩
theorem Eu (p:Q4) (x w:Q3) (W T:Int):slk p (go3 x w T) W=slk p x W-T*bj (nrm p) w:=by unfold slk go3 bj;grind
theorem Ev (x y:Q4) (w z:Q3) (W:Int):slk (kv x y w) z W= -(bj (nrm y) w)*slk x z W+bj (nrm x) w*slk y z W:=by
 unfold kv
 generalize bj (nrm y) w=a
 generalize bj (nrm x) w=b
 unfold slk bj nrm
 simp only
 grind
def IH (P:List Q4) (w:Q3):List Q4:=P.filter fun x=>decide (bj (nrm x) w≤0)
def Kw (P:List Q4) (w:Q3):List Q4:=(cr P w).flatMap fun x=>((bc P w).filter fun y=>decide (nrm (kv x y w)≠(0,0,0))).map fun y=>kv x y w
theorem LB (q:Option Bod) (w:Q3) (l:List Q4):l.foldl (zn w) q=(IH l w).foldl BU q:=by
 unfold IH
 induction l generalizing q with
 |nil=>rfl
 |cons x l ih=>
  rw[List.foldl_cons,ih,List.filter_cons]
  unfold zn
  split
  ·rw[if_pos (decide_eq_true ‹_›)];rfl
  ·rw[if_neg (by rw[decide_eq_true_eq];assumption)]
theorem LC (q:Option Bod) (x:Q4) (w:Q3) (l:List Q4):l.foldl (BW x w) q=((l.filter fun y=>decide (nrm (kv x y w)≠(0,0,0))).map fun y=>kv x y w).foldl BU q:=by
 induction l generalizing q with
 |nil=>rfl
 |cons y l ih=>
  rw[List.foldl_cons,ih,List.filter_cons]
  unfold BW
  by_cases h:nrm (kv x y w)=(0,0,0)
  ·rw[if_pos h,if_neg (by simpa using h)]
  ·rw[if_neg h,if_pos (by simpa using h)];rfl
theorem LD (q:Option Bod) (B:List Q4) (w:Q3) (l:List Q4):l.foldl (fun q x=>B.foldl (BW x w) q) q=(l.flatMap fun x=>(B.filter fun y=>decide (nrm (kv x y w)≠(0,0,0))).map fun y=>kv x y w).foldl BU q:=by
 induction l generalizing q with
 |nil=>rfl
 |cons x l ih=>rw[List.foldl_cons,ih,List.flatMap_cons,List.foldl_append,LC]
theorem FD (p q:Bod) (w:Q3):DV p q w=(IH p.1 w++Kw p.1 w).foldl BU (some q):=by
 unfold DV Kw
 rw[LD,LB,List.foldl_append]
theorem II (l:List Q4):l.foldl BU none=none:=by
 induction l with
 |nil=>rfl
 |cons x l ih=>exact ih
theorem Ins.pre {S l:List Q4} (h:Ins (S++l)):Ins S:=by
 obtain⟨o,W,hW,h⟩:=h
 exact⟨o,W,hW,fun p hp=>h p (by simp[hp])⟩
theorem Kx (l:List Q4):∀(q:Bod) (S:List Q4),Rep q S→((l.foldl BU (some q)).isSome=true↔Ins (S++l)):=by
 induction l with
 |nil=>intro q S h;rw[List.append_nil];exact⟨fun _=>h.ins,fun _=>rfl⟩
 |cons x l ih=>
  intro q S h
  obtain⟨h1,h2⟩:=LA h x
  rw[List.foldl_cons]
  show(l.foldl BU (if(qm q x).2 then some (qm q x).1 else none)).isSome=true↔_
  cases hc:(qm q x).2 with
  |true=>
   rw[if_pos rfl,ih _ _ (h1 hc),List.append_assoc]
   rfl
  |false=>
   rw[if_neg (by simp),II]
   refine⟨fun h=>by simp at h,fun h=>absurd ?_ (h2 hc)⟩
   rw[show S++x::l=(S++[x])++l by simp]at h
   exact h.pre
theorem IJ (f:Q4→Int) (l:List Q4):∃K:Int,0<K∧∀p∈l, -K<f p:=by
 induction l with
 |nil=>exact⟨1,by omega,fun _ h=>by cases h⟩
 |cons x l ih=>
  obtain⟨K,hK,h⟩:=ih
  refine⟨K+(f x).natAbs+1,by omega,fun p hp=> ?_⟩
  rcases List.mem_cons.1 hp with rfl|hp
  ·omega
  ·have:=h p hp;omega
theorem IK (p:Q4) (x:Q3) (W k:Int):slk p (k*x.1,k*x.2.1,k*x.2.2) (k*W)=k*slk p x W:=by unfold slk bj;grind
theorem LE {P Q:List Q4} {w:Q3} (hw:w≠(0,0,0)) (hB:Bdd P) (hI:Ins P):Ins (Q++(IH P w++Kw P w))↔Hit P Q w:=by
 constructor
 ·rintro⟨y,W,hW,hS⟩
  have hQ:Str Q y W:=fun p hp=>hS p (by simp[hp])
  have h1:∀p∈P,bj (nrm p) w≤0→0<slk p y W:=fun p hp h=>hS p (by
   unfold IH
   simp only[List.mem_append,List.mem_filter,decide_eq_true_eq]
   exact .inr (.inl ⟨hp,h⟩))
  have h2:∀a∈P,∀b∈P,0<bj (nrm a) w→bj (nrm b) w<0→0<slk (kv a b w) y W:=fun a ha b hb pa pb=>by
   by_cases h0:nrm (kv a b w)=(0,0,0)
   ·obtain⟨o,W0,hW0,ho⟩:=hI
    have e:=Ev a b w o W0
    have pos:0<slk (kv a b w) o W0:=by
     rw[e]
     have u1:=Int.mul_pos (show 0< -(bj (nrm b) w) by omega) (ho a ha)
     have u2:=Int.mul_pos pa (ho b hb)
     omega
    have z:∀x V,slk (kv a b w) x V=(kv a b w).2.2.2*V:=fun x V=>by unfold slk;rw[h0];simp[bj]
    rw[z]at pos ⊢
    exact Int.mul_pos (mu hW0 pos) hW
   ·refine hS _ ?_
    unfold Kw cr bc
    simp only[List.mem_append,List.mem_flatMap,List.mem_map,List.mem_filter,decide_eq_true_eq]
    exact .inr (.inr ⟨a,⟨ha,pa⟩,b,⟨⟨hb,pb⟩,h0⟩,rfl⟩)
  obtain⟨b,hb,tb,hm⟩:=nl (fun p=>slk p y W) (fun p=> -(bj (nrm p) w)) P (by
   obtain⟨p,hp,h⟩:=hB (Dy w) (fun h=>hw (by rw[←Dz w,h];rfl))
   exact⟨p,hp,by unfold bj Dy at h;unfold bj;grind⟩)
  have sb:=h1 b hb (by omega)
  obtain⟨K,hK,hk⟩:=IJ (fun p=>slk p y W) P
  refine⟨((K* -(bj (nrm b) w)+1)*y.1-K*slk b y W*w.1,(K* -(bj (nrm b) w)+1)*y.2.1-K*slk b y W*w.2.1,(K* -(bj (nrm b) w)+1)*y.2.2-K*slk b y W*w.2.2),(K* -(bj (nrm b) w)+1)*W,K*slk b y W, ?_,Int.mul_nonneg (by omega) (by omega),fun p hp=> ?_,fun q hq=> ?_⟩
  ·exact Int.mul_pos (by have:=Int.mul_pos hK tb;omega) hW
  ·have e:slk p ((K* -(bj (nrm b) w)+1)*y.1-K*slk b y W*w.1,(K* -(bj (nrm b) w)+1)*y.2.1-K*slk b y W*w.2.1,(K* -(bj (nrm b) w)+1)*y.2.2-K*slk b y W*w.2.2) ((K* -(bj (nrm b) w)+1)*W)=K*(-(bj (nrm b) w)*slk p y W+slk b y W*bj (nrm p) w)+slk p y W:=by
    generalize bj (nrm b) w=t
    generalize slk b y W=s
    unfold slk bj
    grind
   rw[e]
   by_cases hp0:0<bj (nrm p) w
   ·have h3:=h2 p hp b hb hp0 (by omega)
    rw[Ev]at h3
    have e2:slk b y W*bj (nrm p) w=bj (nrm p) w*slk b y W:=Int.mul_comm _ _
    rw[e2]
    have h4:K*1≤K*(-(bj (nrm b) w)*slk p y W+bj (nrm p) w*slk b y W):=Int.mul_le_mul_of_nonneg_left (by omega) (by omega)
    have h5:=hk p hp
    omega
   ·have h3:=h1 p hp (by omega)
    have h4:0≤ -(bj (nrm b) w)*slk p y W+slk b y W*bj (nrm p) w:=by
     by_cases hz:bj (nrm p) w=0
     ·rw[hz,Int.mul_zero,Int.add_zero]
      exact Int.mul_nonneg (by omega) (by omega)
     ·have h5:=hm p hp (by omega)
      have e1:slk b y W* -(bj (nrm p) w)= -(slk b y W*bj (nrm p) w):=Int.mul_neg _ _
      have e2:slk p y W* -(bj (nrm b) w)= -(bj (nrm b) w)*slk p y W:=Int.mul_comm _ _
      omega
    have h5:=Int.mul_nonneg (show 0≤K by omega) h4
    omega
  ·have e:go3 ((K* -(bj (nrm b) w)+1)*y.1-K*slk b y W*w.1,(K* -(bj (nrm b) w)+1)*y.2.1-K*slk b y W*w.2.1,(K* -(bj (nrm b) w)+1)*y.2.2-K*slk b y W*w.2.2) w (K*slk b y W)=((K* -(bj (nrm b) w)+1)*y.1,(K* -(bj (nrm b) w)+1)*y.2.1,(K* -(bj (nrm b) w)+1)*y.2.2):=by
    unfold go3
    simp only[Prod.mk.injEq]
    refine⟨?_, ?_, ?_⟩<;>omega
   rw[e,IK]
   exact Int.mul_pos (by have:=Int.mul_pos hK tb;omega) (hQ q hq)
 ·rintro⟨x,W,T,hW,hT,hP,hQ⟩
  refine⟨go3 x w T,W,hW,fun p hp=> ?_⟩
  rcases List.mem_append.1 hp with hp|hp
  ·exact hQ p hp
  ·rcases List.mem_append.1 hp with hp|hp
   ·unfold IH at hp
    simp only[List.mem_filter,decide_eq_true_eq]at hp
    rw[Eu]
    have h1:=hP p hp.1
    have h2:=Int.mul_nonneg hT (show 0≤ -(bj (nrm p) w) by omega)
    rw[Int.mul_neg]at h2
    omega
   ·unfold Kw cr bc at hp
    simp only[List.mem_flatMap,List.mem_map,List.mem_filter,decide_eq_true_eq]at hp
    obtain⟨a,⟨ha,pa⟩,b,⟨⟨hb,pb⟩, -⟩,rfl⟩:=hp
    have e:slk (kv a b w) (go3 x w T) W= -(bj (nrm b) w)*slk a x W+bj (nrm a) w*slk b x W:=by
     rw[Ev,Eu,Eu]
     generalize bj (nrm a) w=u
     generalize bj (nrm b) w=v
     grind
    rw[e]
    have u1:=Int.mul_pos (show 0< -(bj (nrm b) w) by omega) (hP a ha)
    have u2:=Int.mul_pos pa (hP b hb)
    omega
theorem Mu {A S:List Q4} (h:∀x W,0<W→InP A x W→InP S x W) (hI:Ins S) {x:Q3} {W:Int} (hW:0<W) (hs:Str A x W):Str S x W:=by
 intro p hp
 by_cases h0:nrm p=(0,0,0)
 ·obtain⟨o,W0,hW0,ho⟩:=hI
  have z:∀x V,slk p x V=p.2.2.2*V:=fun x V=>by unfold slk;rw[h0];simp[bj]
  have pos:=ho p hp
  rw[z]at pos ⊢
  exact Int.mul_pos (mu hW0 pos) hW
 ·obtain⟨K,hK,hk⟩:=CF (nrm p) x W A hs
  have h1:=h _ _ (Int.mul_pos hK hW) (hk K (Int.le_refl _)).inP p hp
  rw[rh]at h1
  have h2:=ku h0
  exact mu hK (by rw[Int.mul_comm];omega)
theorem Rep.strOf {q:Bod} {S:List Q4} (h:Rep q S) {x:Q3} {W:Int} (hW:0<W):Str q.1 x W↔Str S x W:=
 ⟨Mu (fun x W hW=>(h.sub x W hW).1) h.ins hW,h.str x W⟩
theorem Ky {P P' Q Q':List Q4} {w:Q3} (h1:∀x W,0<W→Str P x W→Str P' x W) (h2:∀x W,0<W→Str Q x W→Str Q' x W) (h:Hit P Q w):Hit P' Q' w:=by
 obtain⟨x,W,T,hW,hT,a,b⟩:=h
 exact⟨x,W,T,hW,hT,h1 _ _ hW a,h2 _ _ hW b⟩
theorem MK (i:Nat) (c:Q4) (h:0<c.2.2.2):flA i c*c.2.2.2≤axA i c:=by unfold flA;exact Int.ediv_mul_le _ (by omega)
theorem ML (i:Nat) (c:Q4) (h:0<c.2.2.2):axA i c≤clA i c*c.2.2.2:=by
 unfold clA flA
 have h1:=Int.emod_add_mul_ediv (axA i c) c.2.2.2
 have h2:=Int.emod_lt_of_pos (axA i c) h
 have e:axA i c / c.2.2.2*c.2.2.2=c.2.2.2*(axA i c / c.2.2.2):=Int.mul_comm _ _
 split
 ·omega
 ·rw[Int.add_mul];omega
theorem Cr (f:Q4→Int) (l:List Q4):∀m:Int,m≤l.foldl (fun m y=>max m (f y)) m∧∀c∈l,f c≤l.foldl (fun m y=>max m (f y)) m:=by
 induction l with
 |nil=>exact fun m=>⟨Int.le_refl _,fun _ h=>by cases h⟩
 |cons x l ih=>
  intro m
  obtain⟨h1,h2⟩:=ih (max m (f x))
  refine⟨by rw[List.foldl_cons];omega,fun c hc=> ?_⟩
  rw[List.foldl_cons]
  rcases List.mem_cons.1 hc with rfl|hc
  ·omega
  ·exact h2 c hc
theorem Cs (f:Q4→Int) (l:List Q4):∀m:Int,l.foldl (fun m y=>min m (f y)) m≤m∧∀c∈l,l.foldl (fun m y=>min m (f y)) m≤f c:=by
 induction l with
 |nil=>exact fun m=>⟨Int.le_refl _,fun _ h=>by cases h⟩
 |cons x l ih=>
  intro m
  obtain⟨h1,h2⟩:=ih (min m (f x))
  refine⟨by rw[List.foldl_cons];omega,fun c hc=> ?_⟩
  rw[List.foldl_cons]
  rcases List.mem_cons.1 hc with rfl|hc
  ·omega
  ·exact h2 c hc
theorem LF (i:Nat) {C:List Q4} {c:Q4} (h:c∈C):clA i c≤bt i C:=by
 cases C with
 |nil=>cases h
 |cons x l=>
  unfold bt
  rcases List.mem_cons.1 h with rfl|h
  ·exact(Cr _ l _).1
  ·exact(Cr _ l _).2 c h
theorem Mv (i:Nat) {C:List Q4} {c:Q4} (h:c∈C):eT i C≤flA i c:=by
 cases C with
 |nil=>cases h
 |cons x l=>
  unfold eT
  rcases List.mem_cons.1 h with rfl|h
  ·exact(Cs _ l _).1
  ·exact(Cs _ l _).2 c h
def ax3 (i:Nat) (x:Q3):Int:=if i=0 then x.1 else if i=1 then x.2.1 else x.2.2
def CP (i:Nat) (s:Int):Q3:=(if i=0 then s else 0,if i=0 then 0 else if i=1 then s else 0,if i=0 then 0 else if i=1 then 0 else s)
theorem Ct (i:Nat) (s:Int) (x:Q3):bj (CP i s) x=s*ax3 i x:=by
 unfold bj CP ax3
 by_cases h0:i=0
 ·simp[h0]
 ·by_cases h1:i=1
  ·simp[h1]
  ·simp[h0,h1]
theorem VJ (i:Nat) (c:Q4):ax3 i (xyz c)=axA i c:=rfl
theorem GT {q:Bod} {S:List Q4} (h:Rep q S) (i:Nat) {x:Q3} {W:Int} (hW:0<W) (hx:InP S x W):ax3 i x≤bt i q.2*W:=by
 obtain⟨c,hc,c0, -,h3⟩:=Cq h.bdd h.vert (CP i (-1)) x W hW ((h.sub x W hW).2 hx)
 rw[Ct,Ct,VJ]at h3
 have h4:=ML i c c0
 have h5:=LF i hc
 have h6:axA i c*W≤clA i c*c.2.2.2*W:=Int.mul_le_mul_of_nonneg_right h4 (by omega)
 have h7:ax3 i x*c.2.2.2≤clA i c*W*c.2.2.2:=by
  have e1: -1*axA i c*W= -(axA i c*W):=by grind
  have e2: -1*ax3 i x*c.2.2.2= -(ax3 i x*c.2.2.2):=by grind
  have e3:clA i c*c.2.2.2*W=clA i c*W*c.2.2.2:=by grind
  omega
 have h8:=Int.le_of_mul_le_mul_right h7 c0
 exact Int.le_trans h8 (Int.mul_le_mul_of_nonneg_right h5 (by omega))
theorem Kz {q:Bod} {S:List Q4} (h:Rep q S) (i:Nat) {x:Q3} {W:Int} (hW:0<W) (hx:InP S x W):eT i q.2*W≤ax3 i x:=by
 obtain⟨c,hc,c0, -,h3⟩:=Cq h.bdd h.vert (CP i 1) x W hW ((h.sub x W hW).2 hx)
 rw[Ct,Ct,VJ,Int.one_mul,Int.one_mul]at h3
 have h4:=MK i c c0
 have h5:=Mv i hc
 have h6:flA i c*c.2.2.2*W≤axA i c*W:=Int.mul_le_mul_of_nonneg_right h4 (by omega)
 have h7:flA i c*W*c.2.2.2≤ax3 i x*c.2.2.2:=by
  have e3:flA i c*c.2.2.2*W=flA i c*W*c.2.2.2:=by grind
  omega
 have h8:=Int.le_of_mul_le_mul_right h7 c0
 exact Int.le_trans (Int.mul_le_mul_of_nonneg_right h5 (by omega)) h8
theorem GU (i:Nat) (x w:Q3) (T:Int):ax3 i (go3 x w T)=ax3 i x+T*stA i w:=by
 unfold ax3 go3 stA
 split
 ·rfl
 ·split<;>rfl
theorem KA (i:Nat) (x d:Q3) (k:Int):ax3 i (mv x d k 1)=k*ax3 i x+ax3 i d:=by
 unfold ax3 mv
 split<;>(try split)<;>simp only[Int.one_mul]
theorem FE (i:Nat) (s:Int):ax3 i (CP i s)=s:=by
 unfold ax3 CP
 by_cases h0:i=0
 ·simp[h0]
 ·by_cases h1:i=1
  ·simp[h1]
  ·simp[h0,h1]
theorem Ew {p q:Bod} {S S':List Q4} (hp:Rep p S) (hq:Rep q S') {w:Q3} (i:Nat) (h:ko p.2 q.2 w i=true):¬Hit S S' w:=by
 rintro⟨x,W,T,hW,hT,hP,hQ⟩
 unfold ko at h
 simp only[Bool.or_eq_true,Bool.and_eq_true,decide_eq_true_eq]at h
 have hin:∀{k:Int} {z:Q3} {V:Int},Str S' z V→InP S' z V:=fun h=>h.inP
 rcases h with⟨h1,h2⟩|⟨h1,h2⟩
 ·have a1:=GT hp i hW hP.inP
  obtain⟨K,hK,hk⟩:=CF (CP i (-1)) (go3 x w T) W S' hQ
  have a2:=Kz hq i (Int.mul_pos hK hW) (hk K (Int.le_refl _)).inP
  rw[KA,FE,GU]at a2
  have a3:T*stA i w≤0:=by have:=Int.mul_nonneg hT (show 0≤ -(stA i w) by omega);rw[Int.mul_neg]at this;omega
  have a4:bt i p.2*W≤eT i q.2*W:=Int.mul_le_mul_of_nonneg_right h2 (by omega)
  have a5:K*(ax3 i x+T*stA i w)≤K*(eT i q.2*W):=Int.mul_le_mul_of_nonneg_left (by omega) (by omega)
  have e:eT i q.2*(K*W)=K*(eT i q.2*W):=by grind
  omega
 ·have a1:=Kz hp i hW hP.inP
  obtain⟨K,hK,hk⟩:=CF (CP i 1) (go3 x w T) W S' hQ
  have a2:=GT hq i (Int.mul_pos hK hW) (hk K (Int.le_refl _)).inP
  rw[KA,FE,GU]at a2
  have a3:0≤T*stA i w:=Int.mul_nonneg hT h1
  have a4:bt i q.2*W≤eT i p.2*W:=Int.mul_le_mul_of_nonneg_right h2 (by omega)
  have a5:K*(bt i q.2*W)≤K*(ax3 i x+T*stA i w):=Int.mul_le_mul_of_nonneg_left (by omega) (by omega)
  have e:bt i q.2*(K*W)=K*(bt i q.2*W):=by grind
  omega
theorem DA {p q:Bod} {S S':List Q4} (hp:Rep p S) (hq:Rep q S') {w:Q3} (hw:w≠(0,0,0)):eS p q w=true↔Hit S S' w:=by
 have hIp:Ins p.1:=by obtain⟨o,W,hW,ho⟩:=hp.ins;exact⟨o,W,hW,hp.str _ _ ho⟩
 have key:(DV p q w).isSome=true↔Hit S S' w:=by
  rw[FD,Kx _ q S' hq,LE hw hp.bdd hIp]
  exact⟨Ky (fun x W hW=>(hp.strOf hW).1) (fun _ _ _ h=>h),Ky (fun x W hW=>(hp.strOf hW).2) (fun _ _ _ h=>h)⟩
 unfold eS
 split
 ·rename_i hf
  unfold CQ at hf
  simp only[Bool.or_eq_true]at hf
  refine⟨fun h=>(by cases h),fun h=> ?_⟩
  rcases hf with hf|hf|hf
  ·exact absurd h (Ew hp hq 0 hf)
  ·exact absurd h (Ew hp hq 1 hf)
  ·exact absurd h (Ew hp hq 2 hf)
 ·exact key
theorem LH {a b:Bool} {P:Prop} (h1:a=true↔P) (h2:b=true↔P):a=b:=by
 cases a<;>cases b<;>simp_all
theorem Gt {p q:Bod} {S S':List Q4} (hp:Rep p S) (hq:Rep q S') {w:Q3} (hw:w≠(0,0,0)):eS q p (Dy w)=eS p q w:=
 LH ((DA hq hp (fun h=>hw (by rw[←Dz w,h];rfl))).trans hit_sym.symm) (DA hp hq hw)
theorem KB {ps:List Q4} (hB:Bdd ps) (hI:Ins ps):Rep (bp ps) ps:=
 FC hB (Kt ps) (Ku ps) (fun _ _ _=>Iff.rfl) (fun _ _ h=>h) hI
end
end Go.Proofs.YtoidbolmlckhnaaGreatDoor
