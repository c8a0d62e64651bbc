/- texts: O2. -/
import Derived.Test.YtffbilcjhlncfaaGreatDoorDQS32
namespace Go.Proofs.YtffbilcjhlncfaaGreatDoor
set_option maxHeartbeats 8000000
set_option linter.all false
section
open Go.RowKit
def go3 (x w:Q3) (T:Int):Q3:=(x.1+T*w.1,x.2.1+T*w.2.1,x.2.2+T*w.2.2)
def Hit (P Q:List Q4) (w:Q3):Prop:=∃x:Q3,∃W T:Int,0<W∧0≤T∧Str P x W∧Str Q (go3 x w T) W
def Dy (w:Q3):Q3:=(-w.1, -w.2.1, -w.2.2)
theorem Kv (x w:Q3) (T:Int):go3 (go3 x w T) (Dy w) T=x:=by
 obtain⟨a,b,c⟩:=x
 unfold go3 Dy
 simp only[Prod.mk.injEq]
 refine⟨?_, ?_, ?_⟩<;>grind
theorem GR {P Q:List Q4} {w:Q3} (h:Hit P Q w):Hit Q P (Dy w):=by
 obtain⟨x,W,T,hW,hT,h1,h2⟩:=h
 exact⟨go3 x w T,W,T,hW,hT,h2,by rw[Kv];exact h1⟩
theorem Dz (w:Q3):Dy (Dy w)=w:=by obtain⟨a,b,c⟩:=w;simp[Dy]
theorem hit_sym {P Q:List Q4} {w:Q3}:Hit P Q w↔Hit Q P (Dy w):=⟨GR,fun h=>by have:=GR h;rwa [Dz]at this⟩
theorem Eu (p:Q4) (x w:Q3) (W T:Int):slk p (go3 x w T) W=slk p x W-T*bj (nrm p) w:=by unfold slk go3 bj;grind
theorem Ev (x y:Q4) (w z:Q3) (W:Int):slk (kv x y w) z W= -(bj (nrm y) w)*slk x z W+bj (nrm x) w*slk y z W:=by
 unfold kv
 generalize bj (nrm y) w=a
 generalize bj (nrm x) w=b
 unfold slk bj nrm
 simp only
 grind
def IH (P:List Q4) (w:Q3):List Q4:=P.filter fun x=>decide (bj (nrm x) w≤0)
def Kw (P:List Q4) (w:Q3):List Q4:=(cr P w).flatMap fun x=>((bc P w).filter fun y=>decide (nrm (kv x y w)≠(0,0,0))).map fun y=>kv x y w
theorem LB (q:Option Bod) (w:Q3) (l:List Q4):l.foldl (zn w) q=(IH l w).foldl BU q:=by
 unfold IH
 induction l generalizing q with
 |nil=>rfl
 |cons x l ih=>
  rw[List.foldl_cons,ih,qgg]
  unfold zn
  split
  ·rw[if_pos (qfX ‹_›)];rfl
  ·rw[if_neg (by rw[qfV];assumption)]
theorem LC (q:Option Bod) (x:Q4) (w:Q3) (l:List Q4):l.foldl (BW x w) q=((l.filter fun y=>decide (nrm (kv x y w)≠(0,0,0))).map fun y=>kv x y w).foldl BU q:=by
 induction l generalizing q with
 |nil=>rfl
 |cons y l ih=>
  rw[List.foldl_cons,ih,qgg]
  unfold BW
  by_cases h:nrm (kv x y w)=(0,0,0)
  ·rw[if_pos h,if_neg (by simpa using h)]
  ·rw[if_neg h,if_pos (by simpa using h)];rfl
theorem LD (q:Option Bod) (B:List Q4) (w:Q3) (l:List Q4):l.foldl (fun q x=>B.foldl (BW x w) q) q=(l.flatMap fun x=>(B.filter fun y=>decide (nrm (kv x y w)≠(0,0,0))).map fun y=>kv x y w).foldl BU q:=by
 induction l generalizing q with
 |nil=>rfl
 |cons x l ih=>rw[List.foldl_cons,ih,qgm,List.foldl_append,LC]
theorem FD (p q:Bod) (w:Q3):DV p q w=(IH p.1 w++Kw p.1 w).foldl BU (some q):=by
 unfold DV Kw
 rw[LD,LB,List.foldl_append]
theorem II (l:List Q4):l.foldl BU none=none:=by
 induction l with
 |nil=>rfl
 |cons x l ih=>exact ih
theorem Ins.pre {S l:List Q4} (h:Ins (S++l)):Ins S:=by
 obtain⟨o,W,hW,h⟩:=h
 exact⟨o,W,hW,fun p hp=>h p (by simp[hp])⟩
theorem Kx (l:List Q4):∀(q:Bod) (S:List Q4),Rep q S→((l.foldl BU (some q)).isSome=true↔Ins (S++l)):=by
 induction l with
 |nil=>intro q S h;rw[qgd];exact⟨fun _=>h.ins,fun _=>rfl⟩
 |cons x l ih=>
  intro q S h
  obtain⟨h1,h2⟩:=LA h x
  rw[List.foldl_cons]
  show(l.foldl BU (if(qm q x).2 then some (qm q x).1 else none)).isSome=true↔_
  cases hc:(qm q x).2 with
  |true=>
   rw[if_pos rfl,ih _ _ (h1 hc),List.append_assoc]
   rfl
  |false=>
   rw[if_neg (by simp),II]
   refine⟨fun h=>by simp at h,fun h=>absurd ?_ (h2 hc)⟩
   rw[show S++x::l=(S++[x])++l by simp]at h
   exact h.pre
theorem IJ (f:Q4→Int) (l:List Q4):∃K:Int,0<K∧∀p∈l, -K<f p:=by
 induction l with
 |nil=>exact⟨1,by omega,fun _ h=>by cases h⟩
 |cons x l ih=>
  obtain⟨K,hK,h⟩:=ih
  refine⟨K+(f x).natAbs+1,by omega,fun p hp=> ?_⟩
  rcases alsk.1 hp with rfl|hp
  ·omega
  ·have:=h p hp;omega
theorem IK (p:Q4) (x:Q3) (W k:Int):slk p (k*x.1,k*x.2.1,k*x.2.2) (k*W)=k*slk p x W:=by unfold slk bj;grind
theorem LE {P Q:List Q4} {w:Q3} (hw:w≠(0,0,0)) (hB:Bdd P) (hI:Ins P):Ins (Q++(IH P w++Kw P w))↔Hit P Q w:=by
 constructor
 ·rintro⟨y,W,hW,hS⟩
  have hQ:Str Q y W:=fun p hp=>hS p (by simp[hp])
  have h1:∀p∈P,bj (nrm p) w≤0→0<slk p y W:=fun p hp h=>hS p (by
   unfold IH
   simp only[altl,alsm,qfV]
   exact .inr (.inl ⟨hp,h⟩))
  have h2:∀a∈P,∀b∈P,0<bj (nrm a) w→bj (nrm b) w<0→0<slk (kv a b w) y W:=fun a ha b hb pa pb=>by
   by_cases h0:nrm (kv a b w)=(0,0,0)
   ·obtain⟨o,W0,hW0,ho⟩:=hI
    have e:=Ev a b w o W0
    have pos:0<slk (kv a b w) o W0:=by
     rw[e]
     have u1:=qfY (show 0< -(bj (nrm b) w) by omega) (ho a ha)
     have u2:=qfY pa (ho b hb)
     omega
    have z:∀x V,slk (kv a b w) x V=(kv a b w).2.2.2*V:=fun x V=>by unfold slk;rw[h0];simp[bj]
    rw[z]at pos ⊢
    exact qfY (mu hW0 pos) hW
   ·refine hS _ ?_
    unfold Kw cr bc
    simp only[altl,List.mem_flatMap,altt,alsm,qfV]
    exact .inr (.inr ⟨a,⟨ha,pa⟩,b,⟨⟨hb,pb⟩,h0⟩,rfl⟩)
  obtain⟨b,hb,tb,hm⟩:=nl (fun p=>slk p y W) (fun p=> -(bj (nrm p) w)) P (by
   obtain⟨p,hp,h⟩:=hB (Dy w) (fun h=>hw (by rw[←Dz w,h];rfl))
   exact⟨p,hp,by unfold bj Dy at h;unfold bj;grind⟩)
  have sb:=h1 b hb (by omega)
  obtain⟨K,hK,hk⟩:=IJ (fun p=>slk p y W) P
  refine⟨((K* -(bj (nrm b) w)+1)*y.1-K*slk b y W*w.1,(K* -(bj (nrm b) w)+1)*y.2.1-K*slk b y W*w.2.1,(K* -(bj (nrm b) w)+1)*y.2.2-K*slk b y W*w.2.2),(K* -(bj (nrm b) w)+1)*W,K*slk b y W, ?_,qgc (by omega) (by omega),fun p hp=> ?_,fun q hq=> ?_⟩
  ·exact qfY (by have:=qfY hK tb;omega) hW
  ·have e:slk p ((K* -(bj (nrm b) w)+1)*y.1-K*slk b y W*w.1,(K* -(bj (nrm b) w)+1)*y.2.1-K*slk b y W*w.2.1,(K* -(bj (nrm b) w)+1)*y.2.2-K*slk b y W*w.2.2) ((K* -(bj (nrm b) w)+1)*W)=K*(-(bj (nrm b) w)*slk p y W+slk b y W*bj (nrm p) w)+slk p y W:=by
    generalize bj (nrm b) w=t
    generalize slk b y W=s
    unfold slk bj
    grind
   rw[e]
   by_cases hp0:0<bj (nrm p) w
   ·have h3:=h2 p hp b hb hp0 (by omega)
    rw[Ev]at h3
    have e2:slk b y W*bj (nrm p) w=bj (nrm p) w*slk b y W:=Int.mul_comm _ _
    rw[e2]
    have h4:K*1≤K*(-(bj (nrm b) w)*slk p y W+bj (nrm p) w*slk b y W):=Int.mul_le_mul_of_nonneg_left (by omega) (by omega)
    have h5:=hk p hp
    omega
   ·have h3:=h1 p hp (by omega)
    have h4:0≤ -(bj (nrm b) w)*slk p y W+slk b y W*bj (nrm p) w:=by
     by_cases hz:bj (nrm p) w=0
     ·rw[hz,Int.mul_zero,Int.add_zero]
      exact qgc (by omega) (by omega)
     ·have h5:=hm p hp (by omega)
      have e1:slk b y W* -(bj (nrm p) w)= -(slk b y W*bj (nrm p) w):=Int.mul_neg _ _
      have e2:slk p y W* -(bj (nrm b) w)= -(bj (nrm b) w)*slk p y W:=Int.mul_comm _ _
      omega
    have h5:=qgc (show 0≤K by omega) h4
    omega
  ·have e:go3 ((K* -(bj (nrm b) w)+1)*y.1-K*slk b y W*w.1,(K* -(bj (nrm b) w)+1)*y.2.1-K*slk b y W*w.2.1,(K* -(bj (nrm b) w)+1)*y.2.2-K*slk b y W*w.2.2) w (K*slk b y W)=((K* -(bj (nrm b) w)+1)*y.1,(K* -(bj (nrm b) w)+1)*y.2.1,(K* -(bj (nrm b) w)+1)*y.2.2):=by
    unfold go3
    simp only[Prod.mk.injEq]
    refine⟨?_, ?_, ?_⟩<;>omega
   rw[e,IK]
   exact qfY (by have:=qfY hK tb;omega) (hQ q hq)
 ·rintro⟨x,W,T,hW,hT,hP,hQ⟩
  refine⟨go3 x w T,W,hW,fun p hp=> ?_⟩
  rcases altl.1 hp with hp|hp
  ·exact hQ p hp
  ·rcases altl.1 hp with hp|hp
   ·unfold IH at hp
    simp only[alsm,qfV]at hp
    rw[Eu]
    have h1:=hP p hp.1
    have h2:=qgc hT (show 0≤ -(bj (nrm p) w) by omega)
    rw[Int.mul_neg]at h2
    omega
   ·unfold Kw cr bc at hp
    simp only[List.mem_flatMap,altt,alsm,qfV]at hp
    obtain⟨a,⟨ha,pa⟩,b,⟨⟨hb,pb⟩, -⟩,rfl⟩:=hp
    have e:slk (kv a b w) (go3 x w T) W= -(bj (nrm b) w)*slk a x W+bj (nrm a) w*slk b x W:=by
     rw[Ev,Eu,Eu]
     generalize bj (nrm a) w=u
     generalize bj (nrm b) w=v
     grind
    rw[e]
    have u1:=qfY (show 0< -(bj (nrm b) w) by omega) (hP a ha)
    have u2:=qfY pa (hP b hb)
    omega
theorem Mu {A S:List Q4} (h:∀x W,0<W→InP A x W→InP S x W) (hI:Ins S) {x:Q3} {W:Int} (hW:0<W) (hs:Str A x W):Str S x W:=by
 intro p hp
 by_cases h0:nrm p=(0,0,0)
 ·obtain⟨o,W0,hW0,ho⟩:=hI
  have z:∀x V,slk p x V=p.2.2.2*V:=fun x V=>by unfold slk;rw[h0];simp[bj]
  have pos:=ho p hp
  rw[z]at pos ⊢
  exact qfY (mu hW0 pos) hW
 ·obtain⟨K,hK,hk⟩:=CF (nrm p) x W A hs
  have h1:=h _ _ (qfY hK hW) (hk K (Int.le_refl _)).inP p hp
  rw[rh]at h1
  have h2:=ku h0
  exact mu hK (by rw[Int.mul_comm];omega)
theorem Rep.strOf {q:Bod} {S:List Q4} (h:Rep q S) {x:Q3} {W:Int} (hW:0<W):Str q.1 x W↔Str S x W:=
 ⟨Mu (fun x W hW=>(h.sub x W hW).1) h.ins hW,h.str x W⟩
theorem Ky {P P' Q Q':List Q4} {w:Q3} (h1:∀x W,0<W→Str P x W→Str P' x W) (h2:∀x W,0<W→Str Q x W→Str Q' x W) (h:Hit P Q w):Hit P' Q' w:=by
 obtain⟨x,W,T,hW,hT,a,b⟩:=h
 exact⟨x,W,T,hW,hT,h1 _ _ hW a,h2 _ _ hW b⟩
theorem MK (i:Nat) (c:Q4) (h:0<c.2.2.2):flA i c*c.2.2.2≤axA i c:=by unfold flA;exact Int.ediv_mul_le _ (by omega)
theorem ML (i:Nat) (c:Q4) (h:0<c.2.2.2):axA i c≤clA i c*c.2.2.2:=by
 unfold clA flA
 have h1:=Int.emod_add_mul_ediv (axA i c) c.2.2.2
 have h2:=Int.emod_lt_of_pos (axA i c) h
 have e:axA i c / c.2.2.2*c.2.2.2=c.2.2.2*(axA i c / c.2.2.2):=Int.mul_comm _ _
 split
 ·omega
 ·rw[Int.add_mul];omega
theorem Cr (f:Q4→Int) (l:List Q4):∀m:Int,m≤l.foldl (fun m y=>max m (f y)) m∧∀c∈l,f c≤l.foldl (fun m y=>max m (f y)) m:=by
 induction l with
 |nil=>exact fun m=>⟨Int.le_refl _,fun _ h=>by cases h⟩
 |cons x l ih=>
  intro m
  obtain⟨h1,h2⟩:=ih (max m (f x))
  refine⟨by rw[List.foldl_cons];omega,fun c hc=> ?_⟩
  rw[List.foldl_cons]
  rcases alsk.1 hc with rfl|hc
  ·omega
  ·exact h2 c hc
theorem Cs (f:Q4→Int) (l:List Q4):∀m:Int,l.foldl (fun m y=>min m (f y)) m≤m∧∀c∈l,l.foldl (fun m y=>min m (f y)) m≤f c:=by
 induction l with
 |nil=>exact fun m=>⟨Int.le_refl _,fun _ h=>by cases h⟩
 |cons x l ih=>
  intro m
  obtain⟨h1,h2⟩:=ih (min m (f x))
  refine⟨by rw[List.foldl_cons];omega,fun c hc=> ?_⟩
  rw[List.foldl_cons]
  rcases alsk.1 hc with rfl|hc
  ·omega
  ·exact h2 c hc
theorem LF (i:Nat) {C:List Q4} {c:Q4} (h:c∈C):clA i c≤bt i C:=by
 cases C with
 |nil=>cases h
 |cons x l=>
  unfold bt
  rcases alsk.1 h with rfl|h
  ·exact(Cr _ l _).1
  ·exact(Cr _ l _).2 c h
theorem Mv (i:Nat) {C:List Q4} {c:Q4} (h:c∈C):eT i C≤flA i c:=by
 cases C with
 |nil=>cases h
 |cons x l=>
  unfold eT
  rcases alsk.1 h with rfl|h
  ·exact(Cs _ l _).1
  ·exact(Cs _ l _).2 c h
def ax3 (i:Nat) (x:Q3):Int:=if i=0 then x.1 else if i=1 then x.2.1 else x.2.2
def CP (i:Nat) (s:Int):Q3:=(if i=0 then s else 0,if i=0 then 0 else if i=1 then s else 0,if i=0 then 0 else if i=1 then 0 else s)
theorem Ct (i:Nat) (s:Int) (x:Q3):bj (CP i s) x=s*ax3 i x:=by
 unfold bj CP ax3
 by_cases h0:i=0
 ·simp[h0]
 ·by_cases h1:i=1
  ·simp[h1]
  ·simp[h0,h1]
theorem VJ (i:Nat) (c:Q4):ax3 i (xyz c)=axA i c:=rfl
theorem GT {q:Bod} {S:List Q4} (h:Rep q S) (i:Nat) {x:Q3} {W:Int} (hW:0<W) (hx:InP S x W):ax3 i x≤bt i q.2*W:=by
 obtain⟨c,hc,c0, -,h3⟩:=Cq h.bdd h.vert (CP i (-1)) x W hW ((h.sub x W hW).2 hx)
 rw[Ct,Ct,VJ]at h3
 have h4:=ML i c c0
 have h5:=LF i hc
 have h6:axA i c*W≤clA i c*c.2.2.2*W:=qgl h4 (by omega)
 have h7:ax3 i x*c.2.2.2≤clA i c*W*c.2.2.2:=by
  have e1: -1*axA i c*W= -(axA i c*W):=by grind
  have e2: -1*ax3 i x*c.2.2.2= -(ax3 i x*c.2.2.2):=by grind
  have e3:clA i c*c.2.2.2*W=clA i c*W*c.2.2.2:=by grind
  omega
 have h8:=Int.le_of_mul_le_mul_right h7 c0
 exact Int.le_trans h8 (qgl h5 (by omega))
theorem Kz {q:Bod} {S:List Q4} (h:Rep q S) (i:Nat) {x:Q3} {W:Int} (hW:0<W) (hx:InP S x W):eT i q.2*W≤ax3 i x:=by
 obtain⟨c,hc,c0, -,h3⟩:=Cq h.bdd h.vert (CP i 1) x W hW ((h.sub x W hW).2 hx)
 rw[Ct,Ct,VJ,Int.one_mul,Int.one_mul]at h3
 have h4:=MK i c c0
 have h5:=Mv i hc
 have h6:flA i c*c.2.2.2*W≤axA i c*W:=qgl h4 (by omega)
 have h7:flA i c*W*c.2.2.2≤ax3 i x*c.2.2.2:=by
  have e3:flA i c*c.2.2.2*W=flA i c*W*c.2.2.2:=by grind
  omega
 have h8:=Int.le_of_mul_le_mul_right h7 c0
 exact Int.le_trans (qgl h5 (by omega)) h8
theorem GU (i:Nat) (x w:Q3) (T:Int):ax3 i (go3 x w T)=ax3 i x+T*stA i w:=by
 unfold ax3 go3 stA
 split
 ·rfl
 ·split<;>rfl
theorem KA (i:Nat) (x d:Q3) (k:Int):ax3 i (mv x d k 1)=k*ax3 i x+ax3 i d:=by
 unfold ax3 mv
 split<;>(try split)<;>simp only[Int.one_mul]
theorem FE (i:Nat) (s:Int):ax3 i (CP i s)=s:=by
 unfold ax3 CP
 by_cases h0:i=0
 ·simp[h0]
 ·by_cases h1:i=1
  ·simp[h1]
  ·simp[h0,h1]
theorem Ew {p q:Bod} {S S':List Q4} (hp:Rep p S) (hq:Rep q S') {w:Q3} (i:Nat) (h:wd p.2 q.2 w i=true):¬Hit S S' w:=by
 rintro⟨x,W,T,hW,hT,hP,hQ⟩
 unfold wd at h
 simp only[qgf,qaF,qfV]at h
 have hin:∀{k:Int} {z:Q3} {V:Int},Str S' z V→InP S' z V:=fun h=>h.inP
 rcases h with⟨h1,h2⟩|⟨h1,h2⟩
 ·have a1:=GT hp i hW hP.inP
  obtain⟨K,hK,hk⟩:=CF (CP i (-1)) (go3 x w T) W S' hQ
  have a2:=Kz hq i (qfY hK hW) (hk K (Int.le_refl _)).inP
  rw[KA,FE,GU]at a2
  have a3:T*stA i w≤0:=by have:=qgc hT (show 0≤ -(stA i w) by omega);rw[Int.mul_neg]at this;omega
  have a4:bt i p.2*W≤eT i q.2*W:=qgl h2 (by omega)
  have a5:K*(ax3 i x+T*stA i w)≤K*(eT i q.2*W):=Int.mul_le_mul_of_nonneg_left (by omega) (by omega)
  have e:eT i q.2*(K*W)=K*(eT i q.2*W):=by grind
  omega
 ·have a1:=Kz hp i hW hP.inP
  obtain⟨K,hK,hk⟩:=CF (CP i 1) (go3 x w T) W S' hQ
  have a2:=GT hq i (qfY hK hW) (hk K (Int.le_refl _)).inP
  rw[KA,FE,GU]at a2
  have a3:0≤T*stA i w:=qgc hT h1
  have a4:bt i q.2*W≤eT i p.2*W:=qgl h2 (by omega)
  have a5:K*(bt i q.2*W)≤K*(ax3 i x+T*stA i w):=Int.mul_le_mul_of_nonneg_left (by omega) (by omega)
  have e:bt i q.2*(K*W)=K*(bt i q.2*W):=by grind
  omega
theorem DA {p q:Bod} {S S':List Q4} (hp:Rep p S) (hq:Rep q S') {w:Q3} (hw:w≠(0,0,0)):eS p q w=true↔Hit S S' w:=by
 have hIp:Ins p.1:=by obtain⟨o,W,hW,ho⟩:=hp.ins;exact⟨o,W,hW,hp.str _ _ ho⟩
 have key:(DV p q w).isSome=true↔Hit S S' w:=by
  rw[FD,Kx _ q S' hq,LE hw hp.bdd hIp]
  exact⟨Ky (fun x W hW=>(hp.strOf hW).1) (fun _ _ _ h=>h),Ky (fun x W hW=>(hp.strOf hW).2) (fun _ _ _ h=>h)⟩
 unfold eS
 split
 ·rename_i hf
  unfold CQ at hf
  simp only[qgf]at hf
  refine⟨fun h=>(by cases h),fun h=> ?_⟩
  rcases hf with hf|hf|hf
  ·exact absurd h (Ew hp hq 0 hf)
  ·exact absurd h (Ew hp hq 1 hf)
  ·exact absurd h (Ew hp hq 2 hf)
 ·exact key
theorem LH {a b:Bool} {P:Prop} (h1:a=true↔P) (h2:b=true↔P):a=b:=by
 cases a<;>cases b<;>simp_all
theorem Gt {p q:Bod} {S S':List Q4} (hp:Rep p S) (hq:Rep q S') {w:Q3} (hw:w≠(0,0,0)):eS q p (Dy w)=eS p q w:=
 LH ((DA hq hp (fun h=>hw (by rw[←Dz w,h];rfl))).trans hit_sym.symm) (DA hp hq hw)
theorem KB {ps:List Q4} (hB:Bdd ps) (hI:Ins ps):Rep (bp ps) ps:=
 FC hB (Kt ps) (Ku ps) (fun _ _ _=>Iff.rfl) (fun _ _ h=>h) hI
end
end Go.Proofs.YtffbilcjhlncfaaGreatDoor
