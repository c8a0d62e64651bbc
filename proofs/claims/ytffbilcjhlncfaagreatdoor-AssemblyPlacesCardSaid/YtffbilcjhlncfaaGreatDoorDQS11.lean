/- texts: Srt Srt2 Srt3. -/
import Derived.Test.YtffbilcjhlncfaaGreatDoorDQS9
import Derived.Test.YtffbilcjhlncfaaGreatDoorSort
namespace Go.Proofs.YtffbilcjhlncfaaGreatDoor
set_option maxHeartbeats 8000000
set_option linter.all false
section
open Go.RowKit Go.Shelf Go.Sort Go.Lib
theorem eQ {α:Type} (enc:α→List Value) (k:Nat) (hk:∀x,(enc x).length=k):∀(l:List α) (t:Nat) (h:t<l.length),∀j,j<k→(l.flatMap enc)[t*k+j]? =(enc l[t])[j]?
 | [],t,h,_,_=>absurd h (by simp)
 |x::l,0,_,j,hj=>by
  simp only[qgm,Nat.zero_mul,qfW,qdt]
  rw[List.getElem?_append_left (by rw[hk];exact hj)]
 |x::l,t+1,h,j,hj=>by
  simp only[qgm,List.getElem_cons_succ]
  rw[List.getElem?_append_right (by rw[hk,Nat.add_mul];omega),hk,show(t+1)*k+j-k=t*k+j by rw[Nat.add_mul];omega]
  exact eQ enc k hk l t (by simpa using h) j hj
theorem dH {α:Type} (enc:α→List Value) (k:Nat) (hk:∀x,(enc x).length=k) (l:List α):(l.flatMap enc).length=l.length*k:=by
 induction l with
 |nil=>simp
 |cons x l ih=>simp only[qgm,qaE,hk,ih,qdn,Nat.add_mul];omega
theorem Bl {α:Type} [Inhabited α] (enc:α→List Value) (k:Nat) (hk0:0<k) (hk:∀x,(enc x).length=k) (d:Array α) (t:Nat) (h:t<d.size*k):(d.toList.flatMap enc)[t]? =some (flatK enc k d)[t]! :=by
 rw[get_flatK enc k d t h]
 have h1:t / k<d.size:=Nat.div_lt_of_lt_mul (by rw[Nat.mul_comm];exact h)
 have h2:t % k<k:=Nat.mod_lt _ hk0
 have e:=eQ enc k hk d.toList (t / k) (by simpa using h1) (t % k) h2
 rw[show t / k*k+t % k=t by rw[Nat.mul_comm];exact Nat.div_add_mod t k]at e
 rw[e,getElem!_pos d (t / k) h1,getElem!_pos _ (t % k) (by rw[hk];exact h2)]
 simp
theorem lY {α:Type} [Inhabited α] {w:World} {base g k n cap:Nat} {T:TypeId} (enc:α→List Value) (hk0:0<k) (hk:∀x,(enc x).length=k) (d:Array α) (hd:d.size=n)
  (h:w.ownsRow base T k (.slice (some ⟨g,0,none⟩) n cap) n (d.toList.flatMap enc)):HoldsK enc k w g 0 d:=by
 rcases h.2 with⟨h0,_⟩|⟨g',cap',cur,hv,_,hh,hc,hm,hcs,ht⟩
 ·cases h0
 ·injection hv with h1 h2 h3
  injection h1 with h1
  injection h1 with h1
  subst h1
  intro j hj
  rw[size_flatK,hd]at hj
  have e:=Bl enc k hk0 hk d j (by rw[hd];exact hj)
  rw[←ht]at e
  have hj':(cur.toList.take (n*k))[j]? =cur[j]? :=by rw[qdx hj];simp
  rw[hj']at e
  refine⟨?_,by simp[World.frozen?,hh]⟩
  rw[qfW,bq hh j,e]
  rfl
theorem uN (F cur:Array Value) (h:F.size≤cur.size):(putCells id 0 F cur).toList.take F.size=F.toList:=by
 apply List.ext_getElem?
 intro i
 by_cases hi:i<F.size
 ·rw[qdx hi]
  simp only[putCells,Array.getElem?_toList,Array.getElem?_mapIdx]
  rw[Array.getElem?_eq_getElem (by omega:i<cur.size)]
  simp[hi]
 ·rw[List.getElem?_eq_none (by simp;omega),List.getElem?_eq_none (by simp;omega)]
theorem lZ {α:Type} [Inhabited α] {w:World} {base g k n cap m:Nat} {T:TypeId} {os:Array Obj} {xs:List Value} (enc:α→List Value) (hk0:0<k) (hk:∀x,(enc x).length=k) (d:Array α) (hd:d.size=n)
  (h:w.ownsRow base T k (.slice (some ⟨g,0,none⟩) n cap) n xs):
  (sortWorldK enc k w g 0 m d os).ownsRow base T k (.slice (some ⟨g,0,none⟩) n cap) n (d.toList.flatMap enc)∧w.grownBy (sortWorldK enc k w g 0 m d os) (some g):=by
 rcases h.2 with⟨h0,_⟩|⟨g',cap',cur,hv,hb,hh,hc,hm,hcs,ht⟩
 ·cases h0
 ·have hv':=hv
  injection hv with h1 h2 h3
  injection h1 with h1
  injection h1 with h1
  subst h1 h3
  have hlt:g<w.heap.size:=ah hh
  have hb':(sortWorldK enc k w g 0 m d os).heap[g]? =some (.cells (putCells id 0 (flatK enc k d) cur) T (0,0)):=by
   unfold sortWorldK
   rw[heap_grow_old _ _ (by simp[putRowK,putRow,mapBlock,Sort.ahead];exact hlt)]
   simp[putRowK,putRow,mapBlock,Sort.ahead,Array.getElem?_modify,hh,onCells]
  have hF:(flatK enc k d).size=n*k:=by rw[size_flatK,hd]
  have hle:n*k≤cur.size:=by rw[hcs];exact Nat.mul_le_mul_right _ hc
  have hl:(d.toList.flatMap enc)=(flatK enc k d).toList:=by
   apply List.ext_getElem?
   intro i
   by_cases hi:i<d.size*k
   ·rw[Bl enc k hk0 hk d i hi,Array.getElem?_toList,Array.getElem?_eq_getElem (by rw[size_flatK];exact hi),getElem!_pos _ i (by rw[size_flatK];exact hi)]
   ·rw[List.getElem?_eq_none (by rw[dH enc k hk];simpa using hi),List.getElem?_eq_none (by simpa using hi)]
  refine⟨⟨by rw[dH enc k hk];simp[hd], .inr ⟨g,cap,_,rfl,hb,hb',hc,hm,by simp[putCells,hcs], ?_⟩⟩, ?_⟩
  ·rw[hl, ←hF]
   exact uN _ _ (by rw[hF];exact hle)
  ·refine⟨rfl,rfl,rfl,by simp[sortWorldK,putRowK,putRow,mapBlock,Sort.ahead],fun j hj hne=> ?_⟩
   unfold sortWorldK
   rw[heap_grow_old _ _ (by simp[putRowK,putRow,mapBlock,Sort.ahead];exact hj)]
   have:g≠j:=fun e=>hne (by rw[e])
   simp[putRowK,putRow,mapBlock,Sort.ahead,Array.getElem?_modify,this]
theorem dp (a b:Int):sgn a b<0↔a<b:=by unfold sgn;split<;>(try split)<;>omega
theorem dq (a b:Int):sgn a b=0↔a=b:=by unfold sgn;split<;>(try split)<;>omega
theorem kS (a b:Int):0<sgn a b↔b<a:=by unfold sgn;split<;>(try split)<;>omega
theorem uO (a b c:Int):orL [a,b,c]<0↔a<0∨(a=0∧(b<0∨(b=0∧c<0))):=by
 simp only[orL];split<;>(try split)<;>(try split)<;>omega
theorem uP (a b c d:Int):orL [a,b,c,d]<0↔a<0∨(a=0∧(b<0∨(b=0∧(c<0∨(c=0∧d<0))))):=by
 simp only[orL];split<;>(try split)<;>(try split)<;>(try split)<;>omega
theorem sR {a b c p q r:Int} (hp:0<p) (hq:0<q) (hr:0<r) (h:c*q=a*r+b*p):
  (a<0→b≤0→c<0)∧(a≤0→b<0→c<0)∧(a=0→b=0→c=0)∧(0<a→0≤b→0<c)∧(0≤a→0<b→0<c):=by
 have ha:∀x:Int,x<0→x*r<0:=fun x hx=>Int.mul_neg_of_neg_of_pos hx hr
 have hb:∀x:Int,x<0→x*p<0:=fun x hx=>Int.mul_neg_of_neg_of_pos hx hp
 have ha':∀x:Int,0<x→0<x*r:=fun x hx=>qfY hx hr
 have hb':∀x:Int,0<x→0<x*p:=fun x hx=>qfY hx hp
 have la:∀x:Int,x≤0→x*r≤0:=fun x hx=>Int.mul_nonpos_of_nonpos_of_nonneg hx (Int.le_of_lt hr)
 have lb:∀x:Int,x≤0→x*p≤0:=fun x hx=>Int.mul_nonpos_of_nonpos_of_nonneg hx (Int.le_of_lt hp)
 have ga:∀x:Int,0≤x→0≤x*r:=fun x hx=>qgc hx (Int.le_of_lt hr)
 have gb:∀x:Int,0≤x→0≤x*p:=fun x hx=>qgc hx (Int.le_of_lt hp)
 have neg:c*q<0→c<0:=fun h=>by
  rcases Int.lt_or_le c 0 with h'|h'
  ·exact h'
  ·have:=qgc h' (Int.le_of_lt hq);omega
 have pos:0<c*q→0<c:=fun h=>by
  rcases Int.lt_or_le 0 c with h'|h'
  ·exact h'
  ·have:=Int.mul_nonpos_of_nonpos_of_nonneg h' (Int.le_of_lt hq);omega
 refine⟨fun h1 h2=>neg ?_,fun h1 h2=>neg ?_,fun h1 h2=> ?_,fun h1 h2=>pos ?_,fun h1 h2=>pos ?_⟩
 ·have:=ha a h1;have:=lb b h2;omega
 ·have:=la a h1;have:=hb b h2;omega
 ·subst h1 h2
  have:c*q=0:=by simpa using h
  rcases Int.mul_eq_zero.1 this with h|h<;>omega
 ·have:=ha' a h1;have:=gb b h2;omega
 ·have:=ga a h1;have:=hb' b h2;omega
def dif (a p b q:Int):Int:=a*q-b*p
theorem uQ (a p b q c r:Int):dif a p c r*q=dif a p b q*r+dif b q c r*p:=by
 unfold dif
 simp only[Int.sub_mul]
 rw[Int.mul_right_comm a r q,Int.mul_right_comm b p r,Int.mul_right_comm c p q,Int.mul_right_comm b r p,Int.mul_right_comm c q p]
 have e1:c*p*q=c*q*p:=Int.mul_right_comm c p q
 have e2:b*p*r=b*r*p:=Int.mul_right_comm b p r
 omega
theorem iC (x y:Q4):iO x y<0↔dif x.1 x.2.2.2 y.1 y.2.2.2<0∨(dif x.1 x.2.2.2 y.1 y.2.2.2=0∧(dif x.2.1 x.2.2.2 y.2.1 y.2.2.2<0∨(dif x.2.1 x.2.2.2 y.2.1 y.2.2.2=0∧dif x.2.2.1 x.2.2.2 y.2.2.1 y.2.2.2<0))):=by
 unfold iO
 rw[uO,dp,dq,dp,dq,dp]
 unfold dif
 omega
theorem Bg (a p b q:Int):dif b q a p= - dif a p b q:=by unfold dif;omega
theorem oZ (k:Nat):∀(xs:List Int) (g:Nat),k ∣ g→(∀x∈xs,k ∣ x.natAbs)→k ∣ xs.foldl (fun g n=>Nat.gcd g n.natAbs) g
 | [],_,hg,_=>hg
 |x::xs,g,hg,h=>oZ k xs _ (Nat.dvd_gcd hg (h x (by simp))) (fun y hy=>h y (by simp[hy]))
theorem ED (k:Nat) (xs:List Int) (h:∀x∈xs,(k:Int) ∣ x):k ∣ aU xs:=
 oZ k xs 0 (Nat.dvd_zero _) (fun x hx=>Int.ofNat_dvd_left.1 (h x hx))
def dI (c:Q4):Prop:=fD c∧aU [c.1,c.2.1,c.2.2.1,c.2.2.2]=1
theorem uR (x y:Q4) (hx:dI x) (hy:dI y) (h1:x.1*y.2.2.2=y.1*x.2.2.2) (h2:x.2.1*y.2.2.2=y.2.1*x.2.2.2) (h3:x.2.2.1*y.2.2.2=y.2.2.1*x.2.2.2):x=y:=by
 obtain⟨a,b,c,q⟩:=x
 obtain⟨a',b',c',q'⟩:=y
 simp only at h1 h2 h3
 have hq:0<q:=by have:=hx.1.2.2.2.1;simp only at this;omega
 have hq':0<q':=by have:=hy.1.2.2.2.1;simp only at this;omega
 have key:∀(a b c q a' b' c' q':Int),0<q→0<q'→aU [a,b,c,q]=1→a*q'=a'*q→b*q'=b'*q→c*q'=c'*q→q ∣ q':=by
  intro a b c q a' b' c' q' hq hq' hg e1 e2 e3
  have hd:(q.natAbs) ∣ aU [a*q',b*q',c*q',q*q']:=ED _ _ (fun x hx=>by
   have hn:((q.natAbs:Nat):Int)=q:=by omega
   rw[hn]
   simp at hx
   rcases hx with rfl|rfl|rfl|rfl
   ·exact⟨a',by rw[e1,Int.mul_comm]⟩
   ·exact⟨b',by rw[e2,Int.mul_comm]⟩
   ·exact⟨c',by rw[e3,Int.mul_comm]⟩
   ·exact⟨q',rfl⟩)
  have hm:∀(xs:List Int) (g:Nat),(xs.map (· *q')).foldl (fun g n=>Nat.gcd g n.natAbs) (g*q'.natAbs)=xs.foldl (fun g n=>Nat.gcd g n.natAbs) g*q'.natAbs:=by
   intro xs
   induction xs with
   |nil=>intro g;rfl
   |cons x xs ih=>
    intro g
    simp only[List.map_cons,List.foldl_cons]
    rw[Int.natAbs_mul,Nat.gcd_mul_right]
    exact ih _
  have he:aU [a*q',b*q',c*q',q*q']=aU [a,b,c,q]*q'.natAbs:=by
   have:=hm [a,b,c,q] 0
   simpa [aU]using this
  rw[he,hg,Nat.one_mul]at hd
  have:=Int.ofNat_dvd.2 hd
  rwa [show((q.natAbs:Nat):Int)=q by omega,show((q'.natAbs:Nat):Int)=q' by omega]at this
 have d1:=key a b c q a' b' c' q' hq hq' hx.2 h1 h2 h3
 have d2:=key a' b' c' q' a b c q hq' hq hy.2 h1.symm h2.symm h3.symm
 have hqq:q=q':=Int.dvd_antisymm (Int.le_of_lt hq) (Int.le_of_lt hq') d1 d2
 subst hqq
 have c1:=Int.eq_of_mul_eq_mul_right (by omega) h1
 have c2:=Int.eq_of_mul_eq_mul_right (by omega) h2
 have c3:=Int.eq_of_mul_eq_mul_right (by omega) h3
 subst c1 c2 c3
 rfl
abbrev NCo:={c:Q4 // dI c}
instance:Inhabited NCo:=⟨⟨(0,0,0,1),⟨by unfold fD;decide,by decide⟩⟩⟩
def jt (x y:NCo):Int:=iO x.1 y.1
theorem qK (x y:NCo):ltOf jt x y=decide (iO x.1 y.1<0):=rfl
theorem ym (x:NCo):0<x.1.2.2.2:=by have:=x.2.1.2.2.2.1;omega
def Sg (a b c:Int):Prop:=(a<0→b≤0→c<0)∧(a≤0→b<0→c<0)∧(a=0→b=0→c=0)∧(0<a→0≤b→0<c)∧(0≤a→0<b→0<c)
theorem zM {a b c:Int} {A B C:Prop} (e:Sg a b c) (k:A→B→C) (h1:a<0∨(a=0∧A)) (h2:b<0∨(b=0∧B)):c<0∨(c=0∧C):=by
 rcases h1 with h1|⟨h1,x⟩<;>rcases h2 with h2|⟨h2,y⟩
 ·exact .inl (e.1 h1 (Int.le_of_lt h2))
 ·exact .inl (e.1 h1 (by omega))
 ·exact .inl (e.2.1 (by omega) h2)
 ·exact .inr ⟨e.2.2.1 h1 h2,k x y⟩
theorem Ad {a b c:Int} (e:Sg a b c) (h1:a<0) (h2:b<0):c<0:=e.1 h1 (Int.le_of_lt h2)
theorem yx {a b c:Int} {A B C:Prop} (e:Sg a b c) (k:¬A→¬B→¬C) (h1:¬(a<0∨(a=0∧A))) (h2:¬(b<0∨(b=0∧B))):¬(c<0∨(c=0∧C)):=by
 have a0:0≤a:=by rcases Int.lt_or_le a 0 with h|h;exact absurd (.inl h) h1;exact h
 have b0:0≤b:=by rcases Int.lt_or_le b 0 with h|h;exact absurd (.inl h) h2;exact h
 rcases Int.lt_or_eq_of_le a0 with ha|ha
 ·have:=e.2.2.2.1 ha b0;rintro(h|⟨h,_⟩)<;>omega
 ·rcases Int.lt_or_eq_of_le b0 with hb|hb
  ·have:=e.2.2.2.2 a0 hb;rintro(h|⟨h,_⟩)<;>omega
  ·have hc:=e.2.2.1 ha.symm hb.symm
   rintro(h|⟨_,h⟩)
   ·omega
   ·exact k (fun x=>h1 (.inr ⟨ha.symm,x⟩)) (fun x=>h2 (.inr ⟨hb.symm,x⟩)) h
theorem zN {a b c:Int} (e:Sg a b c) (h1:¬a<0) (h2:¬b<0):¬c<0:=by
 rcases Int.lt_or_eq_of_le (Int.not_lt.1 h1)with ha|ha
 ·have:=e.2.2.2.1 ha (by omega);omega
 ·rcases Int.lt_or_eq_of_le (Int.not_lt.1 h2)with hb|hb
  ·have:=e.2.2.2.2 (by omega) hb;omega
  ·have:=e.2.2.1 ha.symm hb.symm;omega
theorem kg {a p b q c r:Int} (hp:0<p) (hq:0<q) (hr:0<r):Sg (dif a p b q) (dif b q c r) (dif a p c r):=sR hp hq hr (uQ a p b q c r)
theorem swoPt:SWO (ltOf jt) where
 irrefl x:=by rw[qK];simp only[decide_eq_false_iff_not,iC,dif];omega
 trans x y z h1 h2:=by
  rw[qK,qfV,iC]at*
  exact zM (kg (ym x) (ym y) (ym z)) (zM (kg (ym x) (ym y) (ym z)) (Ad (kg (ym x) (ym y) (ym z)))) h1 h2
 ntrans x y z h1 h2:=by
  rw[qK,decide_eq_false_iff_not,iC]at*
  exact yx (kg (ym x) (ym y) (ym z)) (yx (kg (ym x) (ym y) (ym z)) (zN (kg (ym x) (ym y) (ym z)))) h1 h2
theorem Wx (x y:NCo) (h1:ltOf jt x y=false) (h2:ltOf jt y x=false):x=y:=by
 rw[qK,decide_eq_false_iff_not,iC]at h1 h2
 have a1:=Bg x.1.1 x.1.2.2.2 y.1.1 y.1.2.2.2
 have a2:=Bg x.1.2.1 x.1.2.2.2 y.1.2.1 y.1.2.2.2
 have a3:=Bg x.1.2.2.1 x.1.2.2.2 y.1.2.2.1 y.1.2.2.2
 have:dif x.1.1 x.1.2.2.2 y.1.1 y.1.2.2.2=0∧dif x.1.2.1 x.1.2.2.2 y.1.2.1 y.1.2.2.2=0∧dif x.1.2.2.1 x.1.2.2.2 y.1.2.2.1 y.1.2.2.2=0:=by omega
 unfold dif at this
 exact Subtype.ext (uR x.1 y.1 x.2 y.2 (by omega) (by omega) (by omega))
def nP (x:NCo):List Value:=aH x.1
theorem Bh (x:NCo):(nP x).length=4:=rfl
theorem uS (x:NCo):∀v∈nP x,v.oneCell'=true:=fun v hv=>by simp[nP,aH]at hv;rcases hv with rfl|rfl|rfl|rfl<;>rfl
theorem nQ:∀w,(isAgg 186).run Tryz.prog w= .ok true w:=fun _=>by kernel_rfl
theorem mP:∀w,(Go.sizeOf 186).run Tryz.prog w= .ok 4 w:=fun _=>by kernel_rfl
theorem uT:∀args w,(callFunc 202 args).run Tryz.prog w= .ok (.enter 202 args) w:=enters_of Tryz.func202 (by kernel_rfl) rfl
theorem qL (blk off size:Nat) (w:World):CmpLays Tryz.prog 202 #[] nP 4 jt blk off size w:=fun _ _ _ _ x y=>by
 obtain⟨⟨x0,x1,x2,x3⟩,hx⟩:=x
 obtain⟨⟨y0,y1,y2,y3⟩,hy⟩:=y
 have ox:=hx.1
 have oy:=hy.1
 simp only[fD]at ox oy
 exact ji x0 x1 x2 x3 y0 y1 y2 y3 _ ox.1 ox.2.1 ox.2.2.1 (by omega) oy.1 oy.2.1 oy.2.2.1 (by omega)
def ed (cs:List Q4):List Q4:=cs.mergeSort (fun x y=> !decide (iO y x<0))
theorem pf (cs:List Q4) (hcs:∀c∈cs,dI c) (base g n cap:Nat) (w:World) (hn:cs.length=n) (hs:n<4611686018427387904)
  (hown:w.ownsRow base 186 4 (.slice (some ⟨g,0,none⟩) n cap) n (cs.flatMap aH)):
  Calls Tryz.prog 201 #[.slice (some ⟨g,0,none⟩) n cap, .func (.func 202) #[] #[]] w fun e w'=>
   e= .returned (.tuple #[])∧w'.ownsRow base 186 4 (.slice (some ⟨g,0,none⟩) n cap) n ((ed cs).flatMap aH)∧w.grownBy w' (some g):=by
 have hfl:∀l:List NCo,l.flatMap nP=(l.map Subtype.val).flatMap aH:=fun l=>by rw[List.flatMap_map];rfl
 have hd:(cs.attachWith dI hcs).toArray.size=n:=by simp[hn]
 have hv:(cs.attachWith dI hcs).map Subtype.val=cs:=List.attachWith_map_subtype_val hcs
 have hown':w.ownsRow base 186 4 (.slice (some ⟨g,0,none⟩) n cap) n ((cs.attachWith dI hcs).toArray.toList.flatMap nP):=by
  rw[hfl,List.toList_toArray,hv];exact hown
 have hg:g<w.heap.size:=by
  rcases hown.2 with⟨h,_⟩|⟨g',cap',cur,h,_,hh,_⟩
  ·cases h
  ·injection h with h1;injection h1 with h1;injection h1 with h1;subst h1;exact ah hh
 have hcon:=AnyQ.slices_SortFunc_total Tryz.sortCorner 4 nQ mP nP Bh uS jt swoPt 202 #[] g 0 cap (cs.attachWith dI hcs).toArray w uT (qL _ _ _ _)
  (lY nP (by decide) Bh _ hd hown') hg (by rw[hd];exact hs) Wx
 rw[hd]at hcon
 refine Calls.mono (show Calls Tryz.prog 201 _ _ _ from hcon) ?_
 rintro e w' ⟨rfl,m,os,rfl⟩
 have hsz:(List.mergeSort (cs.attachWith dI hcs) fun x y=> !ltOf jt y x).toArray.size=n:=by simp[hn]
 obtain⟨h1,h2⟩:=lZ (m:=m) (os:=os) nP (by decide) Bh _ hsz hown'
 refine⟨rfl, ?_,h2⟩
 rw[hfl]at h1
 have e:(List.mergeSort (cs.attachWith dI hcs) fun x y=> !ltOf jt y x).map Subtype.val=ed cs:=by
  unfold ed
  have:=List.map_mergeSort (r:=fun x y:NCo=> !ltOf jt y x) (s:=fun x y=> !decide (iO y x<0)) (f:=Subtype.val) (l:=cs.attachWith dI hcs) (fun a _ b _=>rfl)
  rw[this,hv]
 simp only at h1
 rw[e]at h1
 exact h1
end
end Go.Proofs.YtffbilcjhlncfaaGreatDoor
