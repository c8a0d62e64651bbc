/- texts: Perm App. -/
import Derived.Test.YtffbilcjhlncfaaGreatDoorDQS3
import Derived.Deep.RegionHeld3
namespace Go.Proofs.YtffbilcjhlncfaaGreatDoor
set_option maxHeartbeats 8000000
set_option linter.all false
section
open Go.RowKit
section
variable {P:Program} {ops:Array Oper} {md:Region.Mode} {C:World→Prop} {Q:Exit→Act→World→Prop}
def wpW (P:Program) (ops:Array Oper) (K:Act→Prop):List Oper→Act→Prop
 | [],a=>K a
 |o::l,a=>∃v,Yields P ops o v a∧wpW P ops K l (a.put o.dst v)
theorem zd {K:Act→Prop} {o:Oper} {l:List Oper} {a:Act} (h:∀K':Act→Prop,(∀a,wpW P ops K l a→K' a)→Region.wanted o (yielded ops a.tmps)=true∧∃v,(∀w,(execOp a.eval o).run P w= .ok (.value v) w)∧K' (a.put o.dst v)):wpW P ops K (o::l) a:=by
 obtain⟨hw,v,hv,hk⟩:=h (wpW P ops K l) (fun _ h=>h)
 exact⟨v, .inl ⟨hw,hv⟩,hk⟩
theorem lG {K:Act→Prop} {a:Act} (h:K a):wpW P ops K [] a:=h
def bu (ops:Array Oper) (l:List Nat):List Oper:=l.filterMap (ops[·]?)
theorem oas:(∀(ops:Array Oper) (l:List Nat),bu ops l=l.filterMap (ops[·]?))∧(∀(f:Nat→Option Oper) (a:Nat) (l:List Nat),List.filterMap f (a::l)=match f a with|none=>List.filterMap f l|some b=>b::List.filterMap f l)∧(∀f:Nat→Option Oper,List.filterMap f []=[])∧(∀(l:List Oper) (i:Nat),l.toArray[i]? =l[i]?)∧(∀(a:Oper) (l:List Oper),(a::l)[0]? =some a)∧∀(a:Oper) (l:List Oper) (i:Nat),(a::l)[i+1]? =l[i]? :=
 ⟨fun _ _=>rfl,fun f a _=>by cases h:f a<;>simp[h],fun _=>List.filterMap_nil,fun _ _=>by simp,fun _ _=>qdq,fun _ _ _=>qdr⟩
def pr (md:Region.Mode) (ops:Array Oper) (G:Array Bool→Bool):List Nat→Array Bool→Bool
 | [],listed=>G listed
 |i::l,listed=>(Region.ready md ops listed).contains i&&Region.free md ops listed i&&pr md ops G l (listed.setIfInBounds i true)
def bJ (md:Region.Mode) (ops:Array Oper):List Nat→Array Bool→Bool
 | [],listed=>(Region.ready md ops listed).isEmpty
 |i::l,listed=>decide (Region.ready md ops listed=[i])&&bJ md ops l (listed.setIfInBounds i true)
def fQ (md:Region.Mode) (ops:Array Oper) (t0:Nat):List Nat→Bool
 | []=>true
 |i::l=>(l++[t0]).any (fun j=>Region.waitsFor md ops j i)&&fQ md ops t0 l
def cT (md:Region.Mode) (ops:Array Oper):List Nat→Bool
 | []=>true
 | [_]=>true
 |i::j::l=>Region.waitsFor md ops j i&&cT md ops (j::l)
def yv (md:Region.Mode) (ops:Array Oper) (wi ci:List Nat) (t0:Nat) (ts:List Nat):Bool:=
 Region.noSelect ops&&decide (wi.length+ci.length+(ts.length+1)=ops.size)&&fQ md ops t0 ci&&cT md ops (t0::ts)&&
 ((wi++ci).all fun i=> !(t0::ts).contains i)&&
 pr md ops (pr md ops (bJ md ops (t0::ts)) ci) wi (Array.replicate ops.size false)
structure Inv (md:Region.Mode) (ops:Array Oper) (tl:List Nat) (listed:Array Bool):Prop where
 closed:∀j oj,ops[j]? =some oj→listed.getD j false=true→∀e∈oj.after,Region.binds md e=true→listed.getD e.on false=true
 tail:∀t∈tl,t<ops.size→listed.getD t true=false
 size:listed.size=ops.size
theorem Inv.set {tl:List Nat} {i:Nat} {listed:Array Bool} (inv:Inv md ops tl listed) (hi:i∈Region.ready md ops listed) (hin:i ∉ tl):Inv md ops tl (listed.setIfInBounds i true):=by
 obtain⟨_,oi,hoi,hall⟩:=mem_ready.1 hi
 refine⟨fun j oj hj hl e he hb=> ?_,fun t ht ht'=>by rw[getD_set_ne true (by rintro rfl;exact hin ht)];exact inv.tail t ht ht',by simp[inv.size]⟩
 by_cases hij:i=j
 ·subst hij
  have:oj=oi:=qgb (hj.symm.trans hoi)
  subst this
  exact getD_set_true (hall e he hb)
 ·rw[getD_set_ne false hij]at hl
  exact getD_set_true (inv.closed j oj hj hl e he hb)
theorem dm {t0:Nat} {tl:List Nat} {listed:Array Bool} (inv:Inv md ops tl listed):
  ∀(l:List Nat),fQ md ops t0 l=true→(∃i∈l,listed.getD i true=false)→t0 ∉ Region.ready md ops listed
 | [],_,h=>by obtain⟨i,hi,_⟩:=h;cases hi
 |i::l,hs,h=>by
  simp only[fQ,qaF]at hs
  by_cases hl:∃j∈l,listed.getD j true=false
  ·exact dm inv l hs.2 hl
  ·obtain⟨i',hi',hun⟩:=h
   have hii:i'=i:=by
    rcases alsk.1 hi' with h|h
    ·exact h
    ·exact absurd ⟨i',h,hun⟩ hl
   subst hii
   intro hr
   obtain⟨j,hj,hw⟩:=ultj.1 hs.1
   obtain⟨oj,hoj,e,he,hb,hon⟩:=Region.waitsFor_spec hw
   rcases altl.1 hj with hj|hj
   ·have hjl:listed.getD j false=true:=by
     have hlt:j<listed.size:=by rw[inv.size];exact(alsl.1 hoj).1
     cases hc:listed.getD j false with
     |true=>rfl
     |false=>exact absurd ⟨j,hj,getD_in hlt hc⟩ hl
    have:=inv.closed j oj hoj hjl e he hb
    rw[hon,getD_both hun]at this
    cases this
   ·have hjt:j=t0:=by simpa using hj
    subst hjt
    obtain⟨_,o',ho',hall⟩:=mem_ready.1 hr
    have:oj=o':=qgb (hoj.symm.trans ho')
    subst this
    have:=hall e he hb
    rw[hon,getD_both hun]at this
    cases this
theorem Bd {tl:List Nat} {listed:Array Bool} (hlt:∀t∈tl,listed.getD t true=false):
  ∀(t0:Nat) (ts:List Nat),(∀t∈t0::ts,t∈tl)→cT md ops (t0::ts)=true→∀t∈ts,t ∉ Region.ready md ops listed
 |_,[],_,_=>fun t ht=>by cases ht
 |t0,t1::ts,hin,hc=>fun t ht hr=>by
  simp only[cT,qaF]at hc
  rcases alsk.1 ht with rfl|ht
  ·obtain⟨oj,hoj,e,he,hb,hon⟩:=Region.waitsFor_spec hc.1
   obtain⟨_,o',ho',hall⟩:=mem_ready.1 hr
   have:oj=o':=qgb (hoj.symm.trans ho')
   subst this
   have:=hall e he hb
   rw[hon,getD_both (hlt t0 (hin t0 (by simp)))]at this
   cases this
  ·exact Bd hlt t1 ts (fun x hx=>hin x (by simp[hx])) hc.2 t ht hr
theorem nO {tl:List Nat} {listed:Array Bool} (h:bJ md ops tl listed=true):∀j∈Region.ready md ops listed,j∈tl:=by
 cases tl with
 |nil=>intro j hj;simp only[bJ,List.isEmpty_iff]at h;rw[h]at hj;cases hj
 |cons i l=>
  intro j hj
  simp only[bJ,qaF,qfV]at h
  rw[h.1]at hj
  have:j=i:=by simpa using hj
  simp[this]
theorem dg:∀(l:List Nat) (listed:Array Bool) (a:Act) (w:World),bJ md ops l listed=true→wpList P ops Q (bu ops l) a w→wpAny P md ops Q l.length listed a w
 | [],_,_,_,hB,h=>⟨by simpa [bJ]using hB,h⟩
 |i::l,listed,a,w,hB,h=>by
  simp only[bJ,qaF,qfV]at hB
  have hi:i∈Region.ready md ops listed:=by rw[hB.1];simp
  obtain⟨_,oi,hoi,_⟩:=mem_ready.1 hi
  refine⟨fun h1=>(by rw[hB.1]at h1;cases h1),fun j hj=> ?_⟩
  rw[hB.1]at hj
  have hji:j=i:=by simpa using hj
  subst hji
  have hl:bu ops (j::l)=oi::bu ops l:=by simp[bu,hoi]
  rw[hl]at h
  have hw:wpOp P ops Q j (wpList P ops Q (bu ops l)) a w:=by unfold wpOp;simp only[hoi];exact h
  exact wpOp_mono (fun a' w' h'=>dg l _ a' w' hB.2 h') hw
def uG (P:Program) (md:Region.Mode) (ops:Array Oper) (C:World→Prop) (tl:List Nat) (L:Array Bool→Act→Prop):Nat→Array Bool→Act→Prop
 |0,listed,a=>L listed a
 |f+1,listed,a=>Region.ready md ops listed≠[]∧∀i∈Region.ready md ops listed,i ∉ tl∧qOp P ops C i (uG P md ops C tl L f (listed.setIfInBounds i true)) a
theorem kM {tl:List Nat} {g:Nat} {L:Array Bool→Act→Prop} {Q':Exit→Act→World→Prop} (hL:∀listed a w,C w→L listed a→wpAny P md ops Q' g listed a w):
  ∀(f:Nat) (listed:Array Bool) (a:Act) (w:World),C w→uG P md ops C tl L f listed a→wpAny P md ops Q' (f+g) listed a w
 |0,listed,a,w,hw,h=>by rw[qfW];exact hL _ _ _ hw h
 |f+1,listed,a,w,hw,h=>by
  rw[show f+1+g=(f+g)+1 by omega]
  exact⟨fun h0=>absurd h0 h.1,fun i hi=>wpOp_of_qOp hw (fun a' w' hw' h'=>kM hL f _ a' w' hw' h') (h.2 i hi).2⟩
theorem qH {t0:Nat} {ts:List Nat} {i:Nat} {oi:Oper} {v:Value} {L:Array Bool→Act→Prop} (hi:ops[i]? =some oi) (hsel:∀(j:Nat) (o:Oper) cs b,ops[j]? =some o→o.op≠ .select cs b)
  (ci:List Nat) (hs:fQ md ops t0 ci=true) (hc:cT md ops (t0::ts)=true) (hin:i∈ci) (hit:i ∉ t0::ts)
  (hdone:∀listed a,L listed a→∀j∈Region.ready md ops listed,j∈t0::ts):
  ∀(f:Nat) (listed:Array Bool) (a:Act),Inv md ops (t0::ts) listed→
   (∀j oj,ops[j]? =some oj→j≠i→listed.getD j true=false→(∀e∈oj.after,Region.binds md e=true→e.on≠i)→oi.apart ops oj=true)→
   i∈Region.ready md ops listed→YieldsIn P ops C oi v a→
   uG P md ops C (t0::ts) L f (listed.setIfInBounds i true) (a.put oi.dst v)→uG P md ops C (t0::ts) L (f+1) listed a:=by
 have hno:∀(listed:Array Bool),Inv md ops (t0::ts) listed→listed.getD i true=false→∀j∈Region.ready md ops listed,j ∉ t0::ts:=by
  intro listed inv hun j hj hjt
  rcases alsk.1 hjt with rfl|hjt
  ·exact dm inv ci hs ⟨i,hin,hun⟩ hj
  ·have hlt:∀t∈t0::ts,t<ops.size→listed.getD t true=false:=inv.tail
   have hall:∀t∈(t0::ts).filter (· <ops.size),listed.getD t true=false:=fun t ht=>by
    rw[alsm]at ht
    exact hlt t ht.1 (by simpa using ht.2)
   have key:∀(t0:Nat) (ts:List Nat),(∀t∈t0::ts,t<ops.size→listed.getD t true=false)→cT md ops (t0::ts)=true→∀t∈ts,t ∉ Region.ready md ops listed:=by
    intro t0 ts
    induction ts generalizing t0 with
    |nil=>intro _ _ t ht;cases ht
    |cons t1 ts ih=>
     intro hun hc t ht hr
     simp only[cT,qaF]at hc
     rcases alsk.1 ht with rfl|ht
     ·obtain⟨oj,hoj,e,he,hb,hon⟩:=Region.waitsFor_spec hc.1
      obtain⟨_,o',ho',hall⟩:=mem_ready.1 hr
      have:oj=o':=qgb (hoj.symm.trans ho')
      subst this
      have h1:=hall e he hb
      rw[hon]at h1
      rcases Nat.lt_or_ge t0 ops.size with h|h
      ·rw[getD_both (hun t0 (by simp) h)]at h1;cases h1
      ·have:t0≥listed.size:=by rw[inv.size];exact h
       simp[Array.getElem?_eq_none this]at h1
     ·exact ih t1 (fun x hx=>hun x (by simp[hx])) hc.2 t ht hr
   exact key t0 ts hlt hc j hjt hj
 intro f
 induction f with
 |zero=>
  intro listed a inv _ hr hy H
  have hun:=(mem_ready.1 hr).1
  refine⟨fun h=>(by rw[h]at hr;cases hr),fun j hj=>⟨hno listed inv hun j hj, ?_⟩⟩
  by_cases hji:j=i
  ·subst hji;exact hy.qOp hi H
  ·exact absurd (hdone _ _ H j (ready_mono hj hji)) (hno listed inv hun j hj)
 |succ f ih=>
  intro listed a inv hfree hr hy H
  have hun:=(mem_ready.1 hr).1
  refine⟨fun h=>(by rw[h]at hr;cases hr),fun j hj=>⟨hno listed inv hun j hj, ?_⟩⟩
  by_cases hji:j=i
  ·subst hji;exact hy.qOp hi H
  ·have h1:=(H.2 j (ready_mono hj hji)).2
   obtain⟨hjun,oj,hoj,hall⟩:=mem_ready.1 hj
   have hnot:∀e∈oj.after,Region.binds md e=true→e.on≠i:=fun e he hb heq=>by
    have h1:=hall e he hb
    rw[heq,getD_both hun]at h1
    cases h1
   have h2:=qOp_put hoj (hfree j oj hoj hji hjun hnot) (fun cs b=>hsel i oi cs b hi) (fun cs b=>hsel j oj cs b hoj) hy h1
   have hfree':∀k ok,ops[k]? =some ok→k≠i→(listed.setIfInBounds j true).getD k true=false→
     (∀e∈ok.after,Region.binds md e=true→e.on≠i)→oi.apart ops ok=true:=fun k ok hk hki hun hno=>by
    refine hfree k ok hk hki ?_ hno
    by_cases hjk:j=k
    ·subst hjk;exact hjun
    ·rw[getD_set_ne true hjk]at hun;exact hun
   refine qOp_mono (fun a' h3=>ih (listed.setIfInBounds j true) a' (inv.set hj (hno listed inv hun j hj)) hfree' (ready_mono hr (Ne.symm hji)) h3.1 ?_) h2
   rw[Array.setIfInBounds_comm _ _ hji]
   exact h3.2
theorem PL {t0:Nat} {ts:List Nat} {Lq:Act→Prop} (hsel:Region.noSelect ops=true) (ci:List Nat) (hs:fQ md ops t0 ci=true) (hc:cT md ops (t0::ts)=true) (hit:∀i∈ci,i ∉ t0::ts):
  ∀(l:List Nat) (listed:Array Bool) (a:Act),(∀i∈l,i∈ci)→Inv md ops (t0::ts) listed→pr md ops (bJ md ops (t0::ts)) l listed=true→wpQuiet P ops C Lq (bu ops l) a→
  uG P md ops C (t0::ts) (fun listed' a'=>bJ md ops (t0::ts) listed'=true∧Lq a') l.length listed a
 | [],listed,a,_,_,hB,h=>⟨hB,h⟩
 |i::l,listed,a,hl,inv,hB,h=>by
  simp only[pr,qaF]at hB
  obtain⟨⟨hr,hf⟩,hB'⟩:=hB
  have hr':i∈Region.ready md ops listed:=by simpa using hr
  obtain⟨_,oi,hoi,_⟩:=mem_ready.1 hr'
  have ho:bu ops (i::l)=oi::bu ops l:=by simp[bu,hoi]
  rw[ho]at h
  have hst:qOp P ops C i (wpQuiet P ops C Lq (bu ops l)) a:=by unfold qOp;simp only[hoi];exact h
  obtain⟨v,hy,hK⟩:=yieldsIn_of_qOp hoi hst
  exact qH hoi (Region.noSelect_spec hsel) ci hs hc (hl i (by simp)) (hit i (hl i (by simp))) (fun listed' a' hL=>nO hL.1) l.length listed a inv (Region.free_spec hoi hf) hr' hy
   (PL hsel ci hs hc hit l _ _ (fun j hj=>hl j (by simp[hj])) (inv.set hr' (hit i (hl i (by simp)))) hB' hK)
theorem Pv {G:Array Bool→Bool} {g:Nat} (hsel:Region.noSelect ops=true) (hQ:∀c a w,¬Q (.panic c) a w) {w:World} {K:Act→Prop} (tl:List Nat)
  (hK:∀listed a,G listed=true→Inv md ops tl listed→K a→wpAny P md ops Q g listed a w):
  ∀(l:List Nat) (listed:Array Bool) (a:Act),(∀i∈l,i ∉ tl)→Inv md ops tl listed→pr md ops G l listed=true→wpW P ops K (bu ops l) a→wpAny P md ops Q (l.length+g) listed a w
 | [],listed,a,_,inv,hB,h=>by simpa using hK _ _ hB inv h
 |i::l,listed,a,hl,inv,hB,h=>by
  simp only[pr,qaF]at hB
  obtain⟨⟨hr,hf⟩,hB'⟩:=hB
  have hr':i∈Region.ready md ops listed:=by simpa using hr
  obtain⟨_,oi,hoi,_⟩:=mem_ready.1 hr'
  have ho:bu ops (i::l)=oi::bu ops l:=by simp[bu,hoi]
  rw[ho]at h
  obtain⟨v,hy,h'⟩:=h
  have:=Pv hsel hQ tl hK l _ _ (fun j hj=>hl j (by simp[hj])) (inv.set hr' (hl i (by simp))) hB' h'
  rw[show(i::l).length+g=(l.length+g)+1 by simp;omega]
  exact wpAny_first hoi (Region.noSelect_spec hsel) (fun c a w h=>absurd h (hQ c _ w)) _ listed a w (Region.free_spec hoi hf) hr' hy this
theorem px {id:Nat} {a:Act} {w:World} {l:List Oper} (wi ci:List Nat) (t0:Nat) (ts:List Nat) (hm:P.follows .mixedOrders=true) (hB:yv .any l.toArray wi ci t0 ts=true)
  (hC:C {w with drawn:=w.drawn+1})
  (h:wpW P l.toArray (wpQuiet P l.toArray C (fun a'=>∀w',C w'→wpList P l.toArray (NoPanic Q) (bu l.toArray (t0::ts)) a' w') (bu l.toArray ci)) (bu l.toArray wi) a):
  (Code.region id l.toArray true).wp P Q a w:=by
 refine wp_region_noPanic (wp_region_any hm ?_)
 simp only[yv,qaF,qfV]at hB
 obtain⟨⟨⟨⟨⟨hsel,hsz⟩,hs⟩,hc⟩,hd⟩,hf⟩:=hB
 have hit:∀i∈wi++ci,i ∉ t0::ts:=fun i hi=>by
  have:=alsi.1 hd i hi
  simpa using this
 have inv0:Inv .any l.toArray (t0::ts) (Array.replicate l.toArray.size false):=
  ⟨fun j oj _ hl=>(by rw[getD_replicate_false]at hl;cases hl),fun t _ ht=>getD_in (by simpa using ht) (getD_replicate_false _ _),by simp⟩
 have:=Pv (P:=P) (md:= .any) (Q:=NoPanic Q) (g:=ci.length+(ts.length+1)) (w:={w with drawn:=w.drawn+1}) hsel (fun c a w h=>h) (t0::ts)
  (fun listed a' hG inv hq=>kM (tl:=t0::ts) (g:=ts.length+1) (fun listed2 a2 w2 hw2 hL=>dg (t0::ts) listed2 a2 w2 hL.1 (hL.2 w2 hw2)) ci.length listed a' _ hC
   (PL hsel ci hs hc (fun i hi=>hit i (by simp[hi])) ci listed a' (fun _ h=>h) inv hG hq))
  wi _ a (fun i hi=>hit i (by simp[hi])) inv0 hf h
 rw[show wi.length+(ci.length+(ts.length+1))=l.toArray.size by omega]at this
 exact this
end
end
section
open Go.RowKit
section
variable {P:Program} {ops:Array Oper} {md:Region.Mode} {S:World→Prop} {Q:Exit→Act→World→Prop}
def jX (P:Program) (md:Region.Mode) (ops:Array Oper) (Q:Exit→Act→World→Prop) (S:World→Prop) (fin:List Nat):Nat→Array Bool→Act→World→Prop
 |0,listed,a,w=>Region.ready md ops listed=[]∧Q .normal a w
 |f+1,listed,a,w=>(Region.ready md ops listed=[]→Q .normal a w)∧
  ∀i∈Region.ready md ops listed,wpOp P ops Q i (fun a' w'=>(i ∉ fin→S w')∧jX P md ops Q S fin f (listed.setIfInBounds i true) a' w') a w
theorem zj {fin:List Nat}:∀(f:Nat) (listed:Array Bool) (a:Act) (w:World),jX P md ops Q S fin f listed a w→wpAny P md ops Q f listed a w
 |0,_,_,_,h=>h
 |f+1,_,_,_,h=>⟨h.1,fun i hi=>wpOp_mono (fun a' w' h'=>zj f _ a' w' h'.2) (h.2 i hi)⟩
theorem sN {tl:List Nat} {listed:Array Bool} (inv:Inv md ops tl listed):∀(t0:Nat) (ts:List Nat),(∀t∈t0::ts,t∈tl)→cT md ops (t0::ts)=true→∀t∈ts,t ∉ Region.ready md ops listed:=by
 intro t0 ts
 induction ts generalizing t0 with
 |nil=>intro _ _ t ht;cases ht
 |cons t1 ts ih=>
  intro hun hc t ht hr
  simp only[cT,qaF]at hc
  rcases alsk.1 ht with rfl|ht
  ·obtain⟨oj,hoj,e,he,hb,hon⟩:=Region.waitsFor_spec hc.1
   obtain⟨_,o',ho',hall⟩:=mem_ready.1 hr
   have:oj=o':=qgb (hoj.symm.trans ho')
   subst this
   have h1:=hall e he hb
   rw[hon]at h1
   rcases Nat.lt_or_ge t0 ops.size with h|h
   ·rw[getD_both (inv.tail t0 (hun t0 (by simp)) h)]at h1;cases h1
   ·have:t0≥listed.size:=by rw[inv.size];exact h
    simp[Array.getElem?_eq_none this]at h1
  ·exact ih t1 (fun x hx=>hun x (by simp[hx])) hc.2 t ht hr
theorem lQ {f0:Nat} {fs:List Nat} {i:Nat} {oi:Oper} {v:Value} (hi:ops[i]? =some oi) (hsel:∀(j:Nat) (o:Oper) cs b,ops[j]? =some o→o.op≠ .select cs b)
  (hQ:∀c a w,¬Q (.panic c) a w) (ci:List Nat) (hs:fQ md ops f0 ci=true) (hc:cT md ops (f0::fs)=true) (hin:i∈ci):
  ∀(f:Nat) (listed:Array Bool) (a:Act) (w:World),Inv md ops (f0::fs) listed→
   (∀j oj,ops[j]? =some oj→j≠i→listed.getD j true=false→(∀e∈oj.after,Region.binds md e=true→e.on≠i)→oi.apart ops oj=true)→
   i∈Region.ready md ops listed→YieldsIf P ops S oi v a→S w→
   jX P md ops Q S (f0::fs) f (listed.setIfInBounds i true) (a.put oi.dst v) w→jX P md ops Q S (f0::fs) (f+1) listed a w:=by
 have hno:∀(listed:Array Bool),Inv md ops (f0::fs) listed→listed.getD i true=false→∀j∈Region.ready md ops listed,j ∉ f0::fs:=by
  intro listed inv hun j hj hjt
  rcases alsk.1 hjt with rfl|hjt
  ·exact dm inv ci hs ⟨i,hin,hun⟩ hj
  ·exact sN inv f0 fs (fun _ h=>h) hc j hjt hj
 intro f
 induction f with
 |zero=>
  intro listed a w inv _ hr hy hS H
  refine⟨fun h=>(by rw[h]at hr;cases hr),fun j hj=> ?_⟩
  by_cases hji:j=i
  ·subst hji;exact hy.wpOp hi hS ⟨fun _=>hS,H⟩
  ·have:=ready_mono hj hji
   rw[H.1]at this
   cases this
 |succ f ih=>
  intro listed a w inv hfree hr hy hS H
  have hun:=(mem_ready.1 hr).1
  refine⟨fun h=>(by rw[h]at hr;cases hr),fun j hj=> ?_⟩
  have hjf:=hno listed inv hun j hj
  by_cases hji:j=i
  ·subst hji;exact hy.wpOp hi hS ⟨fun _=>hS,H⟩
  ·have h1:=H.2 j (ready_mono hj hji)
   obtain⟨hjun,oj,hoj,hall⟩:=mem_ready.1 hj
   have hnot:∀e∈oj.after,Region.binds md e=true→e.on≠i:=fun e he hb heq=>by
    have h1:=hall e he hb
    rw[heq,getD_both hun]at h1
    cases h1
   have h2:=wpOp_putIf hoj (hfree j oj hoj hji hjun hnot) (fun cs b=>hsel i oi cs b hi) (fun cs b=>hsel j oj cs b hoj) (fun c a w h=>absurd h (hQ c _ w)) hy h1
   have hfree':∀k ok,ops[k]? =some ok→k≠i→(listed.setIfInBounds j true).getD k true=false→
     (∀e∈ok.after,Region.binds md e=true→e.on≠i)→oi.apart ops ok=true:=fun k ok hk hki hun hno=>by
    refine hfree k ok hk hki ?_ hno
    by_cases hjk:j=k
    ·subst hjk;exact hjun
    ·rw[getD_set_ne true hjk]at hun;exact hun
   refine wpOp_mono (fun a' w' h3=>⟨h3.2.1,ih (listed.setIfInBounds j true) a' w' (inv.set hj hjf) hfree' (ready_mono hr (Ne.symm hji)) h3.1 (h3.2.1 hjf) ?_⟩) h2
   rw[Array.setIfInBounds_comm _ _ hji]
   exact h3.2.2
def wpS (P:Program) (ops:Array Oper) (S:World→Prop) (K:Act→Prop):List Oper→Act→Prop
 | [],a=>K a
 |o::l,a=>∃v,YieldsIf P ops S o v a∧wpS P ops S K l (a.put o.dst v)
theorem uH {K:Act→Prop} {o:Oper} {l:List Oper} {a:Act} (h:∀K':Act→Prop,(∀a,wpS P ops S K l a→K' a)→Region.wanted o (yielded ops a.tmps)=true∧∃v,(∀w,S w→(execOp a.eval o).run P w= .ok (.value v) w)∧K' (a.put o.dst v)):wpS P ops S K (o::l) a:=by
 obtain⟨hw,v,hv,hk⟩:=h (wpS P ops S K l) (fun _ h=>h)
 exact⟨v, .inl ⟨hw,hv⟩,hk⟩
theorem xk {K:Act→Prop} {a:Act} (h:K a):wpS P ops S K [] a:=h
def Mid (P:Program) (ops:Array Oper) (S:World→Prop) (Q:Exit→Act→World→Prop) (fin:List Oper):Exit→Act→World→Prop
 | .normal,a,w=>S w∧wpList P ops (NoPanic Q) fin a w
 |_,_,_=>False
theorem ie {fin:List Nat}:∀(l:List Nat) (listed:Array Bool) (a:Act) (w:World),(∀i∈l,i∈fin)→bJ md ops l listed=true→wpList P ops Q (bu ops l) a w→jX P md ops Q S fin l.length listed a w
 | [],_,_,_,_,hB,h=>⟨by simpa [bJ]using hB,h⟩
 |i::l,listed,a,w,hin,hB,h=>by
  simp only[bJ,qaF,qfV]at hB
  have hi:i∈Region.ready md ops listed:=by rw[hB.1];simp
  obtain⟨_,oi,hoi,_⟩:=mem_ready.1 hi
  refine⟨fun h1=>(by rw[hB.1]at h1;cases h1),fun j hj=> ?_⟩
  rw[hB.1]at hj
  have hji:j=i:=by simpa using hj
  subst hji
  have hl:bu ops (j::l)=oi::bu ops l:=by simp[bu,hoi]
  rw[hl]at h
  have hw:wpOp P ops Q j (wpList P ops Q (bu ops l)) a w:=by unfold wpOp;simp only[hoi];exact h
  exact wpOp_mono (fun a' w' h'=>⟨fun hn=>absurd (hin j (by simp)) hn,ie l _ a' w' (fun x hx=>hin x (by simp[hx])) hB.2 h'⟩) hw
def zK (md:Region.Mode) (ops:Array Oper) (wi ci:List Nat) (m0 f0:Nat) (fs:List Nat):Bool:=
 Region.noSelect ops&&decide (wi.length+ci.length+1+(fs.length+1)=ops.size)&&fQ md ops f0 (ci++[m0])&&cT md ops (f0::fs)&&
 ((wi++ci++[m0]).all fun i=> !(f0::fs).contains i)&&
 pr md ops (pr md ops (bJ md ops (m0::f0::fs)) ci) wi (Array.replicate ops.size false)
theorem lR {R:Exit→Act→World→Prop} {o:Oper} {a:Act} {w:World} (h:wpList P ops R [o] a w) (i:Nat) (ho:ops[i]? =some o) (hR:∀e a w,R e a w→e= .normal):
  wpOp P ops Q i (R .normal) a w:=by
 unfold wpOp
 simp only[ho]
 simp only[wpList]at h
 split
 ·rename_i hw
  simp only[hw,if_true]at h
  rcases h with h|⟨h1,a',w',h2⟩
  ·refine .inl ?_
   unfold Oper.wp at*
   generalize(execOp a.eval o).run P w=r at*
   cases r with
   |ok n w'=>
    cases n<;>simp only[Oper.upon]at h ⊢
    case value v=>exact h
    case skip=>exact h
    case defer d=>exact h
    case enter f args=>
     refine h.mono (fun e w'' he=> ?_)
     cases e with
     |returned v=>exact he
     |panicked c=>exact absurd (hR _ _ _ he) (by simp)
     |outgrown=>obtain⟨a',w',hq⟩:=he;exact absurd (hR _ _ _ hq) (by simp)
    case row r args=>exact h
   |halt x w'=>
    cases x<;>simp only[Oper.upon]at h ⊢
    all_goals first|exact h|exact absurd (hR _ _ _ h) (by simp)
  ·exact absurd (hR _ _ _ h2) (by simp)
 ·rename_i hw
  simp only[hw]at h
  exact h
theorem uI {f0 m0:Nat} {fs:List Nat} (hsel:Region.noSelect ops=true) (hQ:∀c a w,¬Q (.panic c) a w) (ci:List Nat) (hs:fQ md ops f0 (ci++[m0])=true) (hc:cT md ops (f0::fs)=true)
  (hit:∀i∈ci++[m0],i ∉ f0::fs) {w:World} (hS:S w) {R:Exit→Act→World→Prop} (hR:R=fun e a w=>match e with| .normal=>S w∧wpList P ops Q (bu ops (f0::fs)) a w|_=>False):
  ∀(l:List Nat) (listed:Array Bool) (a:Act),(∀i∈l,i∈ci)→Inv md ops (f0::fs) listed→pr md ops (bJ md ops (m0::f0::fs)) l listed=true→
   wpS P ops S (fun a'=>wpList P ops R (bu ops [m0]) a' w) (bu ops l) a→jX P md ops Q S (f0::fs) (l.length+(1+(fs.length+1))) listed a w
 | [],listed,a,_,inv,hB,h=>by
  simp only[pr,bJ,qaF,qfV]at hB
  have hi:m0∈Region.ready md ops listed:=by rw[hB.1];simp
  obtain⟨_,om,hom,_⟩:=mem_ready.1 hi
  have hl:bu ops [m0]=[om]:=by simp[bu,hom]
  rw[show([]:List Nat).length+(1+(fs.length+1))=(fs.length+1)+1 by simp;omega]
  refine⟨fun h1=>(by rw[hB.1]at h1;cases h1),fun j hj=> ?_⟩
  rw[hB.1]at hj
  have hji:j=m0:=by simpa using hj
  subst hji
  have h':wpList P ops R [om] a w:=by simpa [bu,wpS,hom]using h
  have:=lR (Q:=Q) h' j hom (fun e a w he=>by subst hR;cases e<;>first|rfl|exact he.elim)
  refine wpOp_mono (fun a' w' h'=> ?_) this
  subst hR
  have hf:bJ md ops (f0::fs) (listed.setIfInBounds j true)=true:=by
   simp only[bJ,qaF,qfV];exact hB.2
  exact⟨fun _=>h'.1,ie (f0::fs) _ a' w' (fun _ h=>h) hf h'.2⟩
 |i::l,listed,a,hl,inv,hB,h=>by
  simp only[pr,qaF]at hB
  obtain⟨⟨hr,hf⟩,hB'⟩:=hB
  have hr':i∈Region.ready md ops listed:=by simpa using hr
  obtain⟨_,oi,hoi,_⟩:=mem_ready.1 hr'
  have ho:bu ops (i::l)=oi::bu ops l:=by simp[bu,hoi]
  rw[ho]at h
  obtain⟨v,hy,h'⟩:=h
  have hic:i∈ci++[m0]:=by simp[hl i (by simp)]
  have:=uI hsel hQ ci hs hc hit hS hR l _ _ (fun j hj=>hl j (by simp[hj])) (inv.set hr' (hit i hic)) hB' h'
  rw[show(i::l).length+(1+(fs.length+1))=(l.length+(1+(fs.length+1)))+1 by simp;omega]
  exact lQ hoi (Region.noSelect_spec hsel) hQ (ci++[m0]) hs hc hic _ listed a w inv (Region.free_spec hoi hf) hr' hy hS this
theorem mO {id:Nat} {a:Act} {w:World} {l:List Oper} (wi ci:List Nat) (m0 f0:Nat) (fs:List Nat) (hm:P.follows .mixedOrders=true) (hB:zK .any l.toArray wi ci m0 f0 fs=true)
  (S:World→Prop) (hS:S w.drew)
  (h:wpW P l.toArray (wpS P l.toArray S (fun a'=>wpList P l.toArray (Mid P l.toArray S Q (bu l.toArray (f0::fs))) (bu l.toArray [m0]) a' w.drew) (bu l.toArray ci)) (bu l.toArray wi) a):
  (Code.region id l.toArray true).wp P Q a w:=by
 refine wp_region_noPanic (wp_region_any hm ?_)
 simp only[zK,qaF,qfV]at hB
 obtain⟨⟨⟨⟨⟨hsel,hsz⟩,hs⟩,hc⟩,hd⟩,hf⟩:=hB
 have hit:∀i∈wi++ci++[m0],i ∉ f0::fs:=fun i hi=>by
  have:=alsi.1 hd i hi
  simpa using this
 have inv0:Inv .any l.toArray (f0::fs) (Array.replicate l.toArray.size false):=
  ⟨fun j oj _ hl=>(by rw[getD_replicate_false]at hl;cases hl),fun t _ ht=>getD_in (by simpa using ht) (getD_replicate_false _ _),by simp⟩
 have:=Pv (P:=P) (md:= .any) (Q:=NoPanic Q) (g:=ci.length+(1+(fs.length+1))) (w:=w.drew) hsel (fun c a w h=>h) (f0::fs)
  (fun listed a' hG inv hq=>zj _ _ _ _ (uI (m0:=m0) hsel (fun c a w h=>h) ci hs hc (fun i hi=>hit i (by rw[List.append_assoc];exact List.mem_append_right _ hi)) hS rfl ci listed a' (fun _ h=>h) inv hG (by
   have e:(Mid P l.toArray S Q (bu l.toArray (f0::fs)))=(fun e a w=>match e with| .normal=>S w∧wpList P l.toArray (NoPanic Q) (bu l.toArray (f0::fs)) a w|_=>False):=by
    funext e a w;cases e<;>rfl
   rw[←e];exact hq)))
  wi _ a (fun i hi=>hit i (by simp[hi])) inv0 hf h
 rw[show wi.length+(ci.length+(1+(fs.length+1)))=l.toArray.size by omega]at this
 exact this
end
end
end Go.Proofs.YtffbilcjhlncfaaGreatDoor
