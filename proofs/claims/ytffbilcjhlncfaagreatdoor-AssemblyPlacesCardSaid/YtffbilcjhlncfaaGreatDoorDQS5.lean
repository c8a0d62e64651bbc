/- texts: L4 L5. -/
import Derived.Test.YtffbilcjhlncfaaGreatDoorDQS4
import Derived.Sort.Grow
namespace Go.Proofs.YtffbilcjhlncfaaGreatDoor
set_option maxHeartbeats 8000000
set_option linter.all false
section
open Go.RowKit
attribute [local go_sem] Ext.cell Ext.frozen
def orL:List Int→Int
 | []=>0
 |x::xs=>if x=0 then orL xs else x
theorem iN (xs:List Int):∀k,k≤xs.length→(∀i (h:i<xs.length),i<k→xs[i]=0)→orL xs=orL (xs.drop k):=by
 induction xs with
 |nil=>intro k _ _;simp
 |cons x xs ih=>
  intro k hk h
  cases k with
  |zero=>rfl
  |succ k=>
   have h0:x=0:=h 0 (by simp) (by omega)
   simp only[orL,h0,if_true,qdw]
   exact ih k (by simpa using hk) (fun i hi hik=>by have:=h (i+1) (by simp;omega) (by omega);simpa using this)
theorem wY (xs:List Int) (k:Nat) (hk:k<xs.length) (hx:xs[k]≠0) (h:∀i (h:i<xs.length),i<k→xs[i]=0):orL xs=xs[k]:=by
 rw[iN xs k (by omega) h,List.drop_eq_getElem_cons hk]
 simp[orL,hx]
theorem uD (xs:List Int) (h:∀i (h:i<xs.length),xs[i]=0):orL xs=0:=by
 rw[iN xs xs.length (qaA _) (fun i hi _=>h i hi)];simp[orL]
theorem uE (b off n c:Nat) (xs:List Int) (w:World) (hn:xs.length=n) (hm:n≤1000) (hx:IntsAt w b off xs):
  Calls Tryz.prog 235 #[.slice (some ⟨b,off,none⟩) n c] w fun e w'=>e= .returned (.int .i64 (orL xs))∧w=w':=by
 go_enter Tryz.func235,Tryz.ntmps235
 go_wp2
 go_loop [8] (fun i=>∃k:Nat,k≤n∧i= .int .i64 k∧Hid (∀i (h:i<xs.length),i<k→xs[i]=0)) (fun i=>n-(intOf i).toNat)
 case atStart=>exact⟨0,by omega,rfl,fun i _ h=>by omega⟩
 case round=>
  obtain⟨k,hk,rfl,Hz⟩:=hrel
  by_cases hlt:k<n
  ·have hcell:=hx k (by omega)
   have Hh:=YJ (wY xs k (by omega))
   obtain⟨x,Hxx⟩:∃x,Hid (xs[k]=x):=⟨xs[k],YJ rfl⟩
   rw[Hxx.out]at hcell
   clear hx
   by_cases h0:x=0
   ·subst h0
    go_wp2
    go_round
    case rel=>exact⟨k+1,by omega,by go_num,fun i hi hik=>by
     by_cases e:i=k
     ·subst e;exact Hxx.out
     ·exact Hz.out i hi (by omega)⟩
    simp[intOf];omega
   ·have hb:(x !=0)=true:=by simpa using h0
    go_wp2
    go_ret
    exact⟨aK (by rw[Hh.out (by rw[Hxx.out];exact h0) Hz.out,Hxx.out]),rfl⟩
  ·have Hn:=YJ (uD xs (fun i hi=>Hz.out i hi (by omega)))
   go_wp2
   go_ret
   exact⟨aK (by rw[Hn.out]),rfl⟩
theorem wZ (W:World) (T:TypeId) (x0 x1 x2:Int) (g:Nat) (hg:g=W.heap.size):
  Calls Tryz.prog 235 #[.slice (some ⟨g,0,none⟩) 3 3] (W.alloc (.cells #[.int .i64 x0, .int .i64 x1, .int .i64 x2] T)) fun e w'=>e= .returned (.int .i64 (orL [x0,x1,x2]))∧W.alloc (.cells #[.int .i64 x0, .int .i64 x1, .int .i64 x2] T)=w':=
 uE g 0 3 3 _ _ rfl (by omega) (oJ hg)
def iO (a b:Int×Int×Int×Int):Int:=orL [sgn (a.1*b.2.2.2) (b.1*a.2.2.2),sgn (a.2.1*b.2.2.2) (b.2.1*a.2.2.2),sgn (a.2.2.1*b.2.2.2) (b.2.2.1*a.2.2.2)]
def bD (p q:Int×Int×Int×Int):Int:=orL [sgn p.1 q.1,sgn p.2.1 q.2.1,sgn p.2.2.1 q.2.2.1,sgn p.2.2.2 q.2.2.2]
theorem yu (w:World) (o1 o2 o3:Obj) (n:Nat):(((w.alloc o1).alloc o2).drewN n).alloc o3=Go.Sort.grow (w.drewN n) #[o1,o2,o3]:=by
 rw[Go.Sort.alloc_eq_grow,Go.Sort.alloc_eq_grow,Go.Sort.alloc_eq_grow,Go.Sort.grow_grow]
 show Go.Sort.grow (Go.Sort.grow (w.drewN n) _) _=_
 rw[Go.Sort.grow_grow];rfl
theorem ji (x y z q x' y' z' q':Int) (w:World)
  (hx: -10000000000≤x∧x≤10000000000) (hy: -10000000000≤y∧y≤10000000000) (hz: -10000000000≤z∧z≤10000000000) (hq: -1000000≤q∧q≤1000000)
  (hx': -10000000000≤x'∧x'≤10000000000) (hy': -10000000000≤y'∧y'≤10000000000) (hz': -10000000000≤z'∧z'≤10000000000) (hq': -1000000≤q'∧q'≤1000000):
  Calls Tryz.prog 202 #[V4 x y z q,V4 x' y' z' q'] w fun e w'=>e= .returned (.int .i64 (iO (x,y,z,q) (x',y',z',q')))∧∃n os,w'=Go.Sort.grow (w.drewN n) os:=by
 have h1:=aJ hx.1 hx.2 hq'.1 hq'.2
 have h2:=aJ hx'.1 hx'.2 hq.1 hq.2
 have h3:=aJ hy.1 hy.2 hq'.1 hq'.2
 have h4:=aJ hy'.1 hy'.2 hq.1 hq.2
 have h5:=aJ hz.1 hz.2 hq'.1 hq'.2
 have h6:=aJ hz'.1 hz'.2 hq.1 hq.2
 clear hx hy hz hq hx' hy' hz' hq'
 go_enter Tryz.func202,Tryz.ntmps202
 go_wp2
 refine gY 33 (by kernel_rfl) (by kernel_rfl) ?_
 simp only[qdv,qdu,qdw,qdy]
 repeat(first|go_big_quiet_step ((go_at_call 197;exact Calls.quiet_of_same ((eO _ _ _).mono fun _ _ ⟨h,k⟩=>⟨h,k.symm⟩)))|quiet_step ((go_at_call 197;exact Calls.quiet_of_same ((eO _ _ _).mono fun _ _ ⟨h,k⟩=>⟨h,k.symm⟩))))
 refine wpQuiet_nil ?_
 rintro _ ⟨nq,rfl⟩
 go_wp2_with fail
 refine(wZ _ _ _ _ _ _ (by simp)).mono ?_
 rintro e w' ⟨rfl,rfl⟩
 go_wp2
 go_ret
 exact⟨rfl,nq,_,yu _ _ _ _ _⟩
theorem gj (a b c d:Int) (h:d≠0):0<aU [a,b,c,d]:=by
 simp only[aU,List.foldl]
 exact Nat.gcd_pos_of_pos_right _ (by omega)
theorem jl (B:Nat) (a b c d:Int) (ha: -(B:Int)≤a∧a≤B) (hb: -(B:Int)≤b∧b≤B) (hc: -(B:Int)≤c∧c≤B) (hd: -(B:Int)≤d∧d≤B):aU [a,b,c,d]≤B:=
 Bo B _ (fun x hx=>by simp at hx;rcases hx with rfl|rfl|rfl|rfl<;>assumption)
theorem oM:∀(xs:List Int) (g:Nat),xs.foldl (fun g n=>Nat.gcd g n.natAbs) g ∣ g∧∀x∈xs,xs.foldl (fun g n=>Nat.gcd g n.natAbs) g ∣ x.natAbs
 | [],g=>⟨Nat.dvd_refl _,by simp⟩
 |x::xs,g=>by
  obtain⟨h1,h2⟩:=oM xs (Nat.gcd g x.natAbs)
  refine⟨Nat.dvd_trans h1 (Nat.gcd_dvd_left _ _),fun y hy=> ?_⟩
  rcases alsk.1 hy with rfl|hy
  ·exact Nat.dvd_trans h1 (Nat.gcd_dvd_right _ _)
  ·exact h2 y hy
theorem aY (xs:List Int) (x:Int) (h:x∈xs):((aU xs:Nat):Int) ∣ x:=by
 have:=(oM xs 0).2 x h
 exact Int.ofNat_dvd_left.2 this
theorem bH {a g:Int} (h:g ∣ a):a.tdiv g=a / g:=by
 obtain⟨k,rfl⟩:=h
 by_cases h0:g=0
 ·subst h0;simp
 ·rw[Int.mul_tdiv_cancel_left _ h0,Int.mul_ediv_cancel_left _ h0]
theorem bZ {a B:Int} {g:Nat} (h: -B≤a∧a≤B): -B≤a.tdiv g∧a.tdiv g≤B:=by
 have h1:(a.tdiv g).natAbs≤a.natAbs:=by rw[Int.natAbs_tdiv];exact Nat.div_le_self _ _
 omega
def eu (a b c den:Int):Int×Int×Int×Int:=
 if den<0 then(-(a / aU [a,b,c,den]), -(b / aU [a,b,c,den]), -(c / aU [a,b,c,den]), -(den / aU [a,b,c,den]))
 else(a / aU [a,b,c,den],b / aU [a,b,c,den],c / aU [a,b,c,den],den / aU [a,b,c,den])
theorem sM (a b c den:Int) (w:World) (ha: -10000000000≤a∧a≤10000000000) (hb: -10000000000≤b∧b≤10000000000) (hc: -10000000000≤c∧c≤10000000000)
  (hd: -1000000≤den∧den≤1000000) (h0:den≠0):
  Calls Tryz.prog 232 #[V3 a b c, .int .i64 den] w (Ret w (V4 (eu a b c den).1 (eu a b c den).2.1 (eu a b c den).2.2.1 (eu a b c den).2.2.2)):=by
 have hp:=gj a b c den h0
 have hle:=jl 10000000000 a b c den (by omega) (by omega) (by omega) (by omega)
 have e1:=YJ (bH (aY [a,b,c,den] a (by simp)))
 have e2:=YJ (bH (aY [a,b,c,den] b (by simp)))
 have e3:=YJ (bH (aY [a,b,c,den] c (by simp)))
 have e4:=YJ (bH (aY [a,b,c,den] den (by simp)))
 have Hn:Hid (den<0→eu a b c den=(-(a / aU [a,b,c,den]), -(b / aU [a,b,c,den]), -(c / aU [a,b,c,den]), -(den / aU [a,b,c,den]))):=fun h=>if_pos h
 have Hp:Hid (0≤den→eu a b c den=(a / aU [a,b,c,den],b / aU [a,b,c,den],c / aU [a,b,c,den],den / aU [a,b,c,den])):=fun h=>if_neg (by omega)
 have t1:=bZ (g:=aU [a,b,c,den]) ha
 have t2:=bZ (g:=aU [a,b,c,den]) hb
 have t3:=bZ (g:=aU [a,b,c,den]) hc
 have t4:=bZ (g:=aU [a,b,c,den]) hd
 generalize eu a b c den=r at*
 go_enter Tryz.func232,Tryz.ntmps232
 go_wp2_with (go_at_call 249;refine(oL _ _ _ _ _ _ _ (by simp) (by omega) (by omega) (by omega) (by omega)).mono ?_;rintro e w1 ⟨rfl,hb1⟩)
 all_goals
  have hw1:Below w.heap.size w w1:=by
   refine Below.trans ?_ (hb1.mono (by simp;omega))
   exact bel
  have c0:w1.cell? ⟨w.heap.size,0,none⟩=some (.int .i64 a):=ab hb1 (by go_simp)
  have c1:w1.cell? ⟨w.heap.size,1,none⟩=some (.int .i64 b):=ab hb1 (by go_simp)
  have c2:w1.cell? ⟨w.heap.size,2,none⟩=some (.int .i64 c):=ab hb1 (by go_simp)
  have d0:w1.cell? ⟨w.heap.size+1,0,none⟩=some (.int .i64 0):=ab hb1 (by go_simp)
  have d1:w1.cell? ⟨w.heap.size+1,1,none⟩=some (.int .i64 0):=ab hb1 (by go_simp)
  have d2:w1.cell? ⟨w.heap.size+1,2,none⟩=some (.int .i64 0):=ab hb1 (by go_simp)
  have d3:w1.cell? ⟨w.heap.size+1,3,none⟩=some (.int .i64 0):=ab hb1 (by go_simp)
  have f0:∀i,w1.frozen? ⟨w.heap.size+1,i,none⟩=false:=fun i=>(hb1.frozen (by simp)).trans (by go_simp)
  have z0:w.heap.size<w1.heap.size:=by have:=hb1.size;simp at this;omega
  have z1:w.heap.size+1<w1.heap.size:=by have:=hb1.size;simp at this;omega
  clear hb1
  generalize aU [a,b,c,den]=g at*
  refine aQ 15 (by kernel_rfl) (by kernel_rfl) ?_
  simp only[qdv,qdu,qdw,qdy]
  repeat(first|go_big_quiet_step (fail)|quiet_step (fail))
  refine wpQuiet_nil ?_
  rintro _ ⟨u,rfl⟩
  go_wp2
 ·have hneg:den<0:=by assumption
  refine bodyPost_ret (v:=V4 (-(a.tdiv g)) (-(b.tdiv g)) (-(c.tdiv g)) (-(den.tdiv g))) (by simp[results,Tryz.results232,go_sem,z1,d0,d1,d2,d3]) rfl ⟨?_, ?_⟩
  ·rw[Hn.out hneg,e1.out,e2.out,e3.out,e4.out]
  ·exact bel
 ·have hpos:0≤den:=by assumption
  refine bodyPost_ret (v:=V4 (a.tdiv g) (b.tdiv g) (c.tdiv g) (den.tdiv g)) (by simp[results,Tryz.results232,go_sem,z1,d0,d1,d2,d3]) rfl ⟨?_, ?_⟩
  ·rw[Hp.out hpos,e1.out,e2.out,e3.out,e4.out]
  ·exact bel
def dG (p:Int×Int×Int×Int):Int×Int×Int×Int:=
 (p.1 / aU [p.1,p.2.1,p.2.2.1,p.2.2.2],p.2.1 / aU [p.1,p.2.1,p.2.2.1,p.2.2.2],p.2.2.1 / aU [p.1,p.2.1,p.2.2.1,p.2.2.2],p.2.2.2 / aU [p.1,p.2.1,p.2.2.1,p.2.2.2])
theorem FJ (a b c d:Int) (h:a≠0∨b≠0∨c≠0):0<aU [a,b,c,d]:=by
 rcases Nat.eq_zero_or_pos (aU [a,b,c,d])with h0|h0
 ·have h1:=aY [a,b,c,d] a (by simp)
  have h2:=aY [a,b,c,d] b (by simp)
  have h3:=aY [a,b,c,d] c (by simp)
  rw[h0]at h1 h2 h3
  simp at h1 h2 h3
  omega
 ·exact h0
def bI (p:Int×Int×Int×Int):Prop:=(-8≤p.1∧p.1≤8)∧(-8≤p.2.1∧p.2.1≤8)∧(-8≤p.2.2.1∧p.2.2.1≤8)∧(-10000000≤p.2.2.2∧p.2.2.2≤10000000)
def fD (p:Int×Int×Int×Int):Prop:=(-10000000000≤p.1∧p.1≤10000000000)∧(-10000000000≤p.2.1∧p.2.1≤10000000000)∧(-10000000000≤p.2.2.1∧p.2.2.1≤10000000000)∧(1≤p.2.2.2∧p.2.2.2≤1000000)
def bP (p:Int×Int×Int×Int):Int:=
 if p.1< -8∨8<p.1∨p.2.1< -8∨8<p.2.1∨p.2.2.1< -8∨8<p.2.2.1∨p.2.2.2< -10000000∨10000000<p.2.2.2 then 2 else if p.1=0∧p.2.1=0∧p.2.2.1=0 then 11 else 0
end
end Go.Proofs.YtffbilcjhlncfaaGreatDoor
