/- texts: D3 D4. -/
import Derived.Test.YtokhkhnofkcalaaGreatDoorKZS19
namespace Go.Proofs.YtokhkhnofkcalaaGreatDoor
set_option maxHeartbeats 8000000
set_option linter.unusedSimpArgs false
set_option linter.unusedVariables false
section
open Go.RowKit Go.Shelf
attribute [local go_sem] Ext.cell Ext.frozen
set_option maxRecDepth 100000 in
theorem lE (L W0 t:Int) (nv:Value) (xs:List Int) (W:World) (hx:Ints W nv xs) (hl:3≤xs.length) (hm:xs.length≤1000000) (hb:∀x∈xs, -1000000≤x∧x≤1000000) (hL:1≤L∧L≤1000000):
  Calls Tryz.prog 89 #[vJ 5 L W0 t nv] W (Ret W (.bool (bF L W0 xs))):=by
 unfold vJ
 obtain⟨b,off,c,rfl,hc,zb,hi⟩:=hx.at' (by omega)
 obtain⟨q,Hq⟩:∃q,Hid (xs.length=q+2):=⟨xs.length-2,Lib.hid (by omega)⟩
 have c0:=hi 0 (by omega)
 have c1:=hi 1 (by omega)
 rw[Nat.add_zero]at c0
 have q1:1≤q:=by have:=Hq.out;omega
 have q6:q≤1000000:=by have:=Hq.out;omega
 have qc:q+2≤c:=by have:=Hq.out;omega
 have n0:(0:Int)<((q+2:Nat):Int):=by omega
 have n1:(1:Int)<((q+2:Nat):Int):=by omega
 have n2:(2:Int)≤((q+2:Nat):Int):=by omega
 have n3:2<c:=by omega
 have n4:1<q+2:=by omega
 have n5:2≤q+2:=by omega
 have HI:=Lib.hid hi
 have HB:Hid (∀i,i<xs.length→ -1000000≤xs.getD i 0∧xs.getD i 0≤1000000):=Lib.hid (fun i h=>by rw[←cS xs i h];exact hb _ (List.getElem_mem h))
 have hbw:=HB.out 1 (by omega)
 have Hfalse1:Hid (¬(1≤xs.getD 0 0∧xs.getD 0 0≤8)→bF L W0 xs=false):=Lib.hid (fun h=>by unfold bF;rw[decide_eq_false h];rfl)
 have Hfalse2:Hid ((L.tmod (xs.getD 0 0)==0)=false→bF L W0 xs=false):=Lib.hid (fun h=>by unfold bF;rw[h];simp)
 have Hfalse3:Hid (¬0<xs.getD 1 0→bF L W0 xs=false):=Lib.hid (fun h=>by unfold bF;rw[decide_eq_false h];simp)
 have Hfalse5:Hid (∀i,i<xs.length-3→¬xs.getD (2+i) 0+xs.getD 1 0+2*(L / xs.getD 0 0)≤xs.getD (3+i) 0→bF L W0 xs=false):=Lib.hid (fun i hi h=>by
  have:(List.range (xs.length-3)).all (fun i=>decide (xs.getD (2+i) 0+xs.getD 1 0+2*(L / xs.getD 0 0)≤xs.getD (3+i) 0))=false:=by
   rw[List.all_eq_false];exact⟨i,by simpa using hi,by simpa using h⟩
  unfold bF;rw[this];simp)
 have Htrue:Hid ((1≤xs.getD 0 0∧xs.getD 0 0≤8)→(L.tmod (xs.getD 0 0)==0)=true→0<xs.getD 1 0→(∀i,i<xs.length-3→xs.getD (2+i) 0+xs.getD 1 0+2*(L / xs.getD 0 0)≤xs.getD (3+i) 0)→bF L W0 xs=(decide (L / xs.getD 0 0≤xs.getD 2 0)&&decide (xs.getD (xs.length-1) 0+xs.getD 1 0+L / xs.getD 0 0≤W0))):=Lib.hid (fun h1 h2 h3 h5=>by
  have:(List.range (xs.length-3)).all (fun i=>decide (xs.getD (2+i) 0+xs.getD 1 0+2*(L / xs.getD 0 0)≤xs.getD (3+i) 0))=true:=by
   rw[List.all_eq_true];intro i hi;exact decide_eq_true (h5 i (by simpa using hi))
  unfold bF;rw[decide_eq_true h1,h2,decide_eq_true h3,this];simp)
 generalize bF L W0 xs=res at*
 rw[Hq.out]
 obtain⟨V,HV⟩:∃V,Hid (W.alloc (.cells #[.int .i64 5, .int .i64 L, .int .i64 W0, .int .i64 t, .slice (some ⟨b,off,none⟩) (q+2) c] 25)=V):=⟨_,Lib.hid rfl⟩
 have hV:Below W.heap.size W V:=by rw[←HV.out];exact bel
 have v1:V.cell? ⟨W.heap.size,1,none⟩=some (.int .i64 L):=by rw[←HV.out];exact(aq rfl 1).trans rfl
 have v2:V.cell? ⟨W.heap.size,2,none⟩=some (.int .i64 W0):=by rw[←HV.out];exact(aq rfl 2).trans rfl
 have v4:V.cell? ⟨W.heap.size,4,none⟩=some (.slice (some ⟨b,off,none⟩) (q+2) c):=by rw[←HV.out];exact(aq rfl 4).trans rfl
 have zV:=World.block_lt_of_cell? V _ v1
 simp only at zV
 have cV0:=ab hV c0
 have cV1:=ab hV c1
 have zbV:=Nat.lt_of_lt_of_le zb hV.size
 have HIV:Hid (∀i,i<xs.length→V.cell? ⟨b,off+i,none⟩=some (.int .i64 (xs.getD i 0))):=Lib.hid (fun i h=>ab hV (HI.out i h))
 have h1:=fun W'=>Lib.hid (de (xs.getD 0 0) 1 8 W')
 generalize xs.getD 0 0=s at*
 generalize xs.getD 1 0=ww at*
 clear hx hi hb c0 c1 zb HI hc
 by_cases hs:1≤s∧s≤8
 ·rw[show decide (1≤s∧s≤8)=true from decide_eq_true hs]at h1
  have hs0:(s==0)=false:=by simp;omega
  cases hdv:(L.tmod s==0)with
  |false=>
   have He:=Lib.hid (Hfalse2.out hdv)
   have hdm:(L % s !=0)=true:=by rw[Int.tmod_eq_emod_of_nonneg (by omega)]at hdv;simpa using hdv
   clear hdv
   go_enter Tryz.func89,Tryz.ntmps89
   go_wp2
   rw[HV.out]
   refine wqf fun u=> ?_
   have hbu:Below V.heap.size V u.val:=u.below
   have c0u:=ab hbu v1
   have zu:=Nat.lt_of_lt_of_le zV hbu.size
   go_wp2_with fail
   refine((h1 _).out).mono ?_
   rintro e w1 ⟨rfl,rfl⟩
   go_wp2
   go_ret
   exact⟨ay He.out.symm,ae hV hbu⟩
  |true=>
   have Hdv:=Lib.hid hdv
   have hdm:(L % s !=0)=false:=by rw[Int.tmod_eq_emod_of_nonneg (by omega)]at hdv;simpa using hdv
   clear hdv
   by_cases hww:0<ww
   ·obtain⟨k,Hk⟩:∃k,Hid (L / s=k):=⟨_,Lib.hid rfl⟩
    have hk0:0≤k∧k≤1000000:=by
     rw[←Hk.out]
     exact⟨Int.ediv_nonneg (by omega) (by omega),Int.le_trans (Int.ediv_le_self _ (by omega)) (by omega)⟩
    rw[Hk.out]at Hfalse5 Htrue
    have hkk:=Hk.out
    have hwd:decide (ww≤0)=false:=by simp;omega
    go_enter Tryz.func89,Tryz.ntmps89
    go_wp2
    rw[HV.out]
    refine wqf fun u=> ?_
    have hbu:Below V.heap.size V u.val:=u.below
    have c0u:=ab hbu v1
    have zu:=Nat.lt_of_lt_of_le zV hbu.size
    go_wp2_with fail
    refine((h1 _).out).mono ?_
    rintro e w1 ⟨rfl,rfl⟩
    go_wp2
    try rw[hkk]
    clear hkk cV0 cV1 h1
    go_loopw [7] (fun i wr=>∃j:Nat,1≤j∧j≤q∧i= .int .i64 j∧Below V.heap.size V wr∧Hid (∀i,i+1<j→xs.getD (2+i) 0+ww+2*k≤xs.getD (3+i) 0)) (fun i _=>q-(intOf i).toNat)
    case atStart=>exact⟨1,by omega,by omega,rfl,hbu,Lib.hid (fun i h=>by omega)⟩
    case round=>
     obtain⟨j,hj1,hj,rfl,hbj,H2⟩:=hrel
     have z2:=Nat.lt_of_lt_of_le zbV hbj.size
     by_cases hlt:j<q
     ·have c2:=ab hbj (HIV.out (2+j) (by have:=Hq.out;omega))
      have c1:=ab hbj (HIV.out (2+(j-1)) (by have:=Hq.out;omega))
      have b2:=HB.out (2+j) (by have:=Hq.out;omega)
      have b1:=HB.out (2+(j-1)) (by have:=Hq.out;omega)
      have Hf:=Lib.hid (Hfalse5.out (j-1) (by have:=Hq.out;omega))
      rw[show 3+(j-1)=2+j by omega]at Hf
      rw[←Nat.add_assoc]at c2 c1
      obtain⟨x,Hx⟩:∃x,Hid (xs.getD (2+j) 0=x):=⟨_,Lib.hid rfl⟩
      obtain⟨y,Hy⟩:∃y,Hid (xs.getD (2+(j-1)) 0=y):=⟨_,Lib.hid rfl⟩
      rw[Hx.out]at c2 Hf b2
      rw[Hy.out]at c1 Hf b1
      have w1:IntKind.i64.wrap (y+ww)=y+ww:=IntWalk.i64_in _ (by omega)
      have w2:IntKind.i64.wrap (2*k)=2*k:=IntWalk.i64_in _ (by omega)
      have w3:IntKind.i64.wrap (y+ww+2*k)=y+ww+2*k:=IntWalk.i64_in _ (by omega)
      have w4:IntKind.i64.wrap ((j:Int)-1)=((j-1:Nat):Int):=(IntWalk.i64_in _ (by omega)).trans (by omega)
      have m1:(0:Int)≤(j:Int):=by omega
      have m2:(j:Int)<(q:Int):=by omega
      have m3:(0:Int)≤((j-1:Nat):Int):=by omega
      have m4:((j-1:Nat):Int)<(q:Int):=by omega
      by_cases hp:y+ww+2*k≤x
      ·have hpd:decide (x<y+ww+2*k)=false:=by simpa using hp
       go_wp2
       refine wqf fun u=> ?_
       go_wp2
       go_roundw
       case rel=>exact⟨j+1,by omega,by omega,by go_num,ae hbj u.below,Lib.hid (fun i hi=>by
        by_cases e:i=j-1
        ·subst e;rw[show 3+(j-1)=2+j by omega,Hx.out,Hy.out];exact hp
        ·exact H2.out i (by omega))⟩
       case measure=>simp[intOf];omega
      ·have hpd:decide (x<y+ww+2*k)=true:=by simpa using hp
       go_wp2
       refine wqf fun u=> ?_
       go_wp2
       go_ret
       exact⟨ay (Hf.out hp).symm,ae hV (ae hbj u.below)⟩
     ·have c2:=ab hbj (HIV.out (2+(q-1)) (by have:=Hq.out;omega))
      have c3:=ab hbj (HIV.out 2 (by have:=Hq.out;omega))
      have cw:=ab hbj v2
      have zj:=Nat.lt_of_lt_of_le zV hbj.size
      have b2:=HB.out (2+(q-1)) (by have:=Hq.out;omega)
      rw[←Nat.add_assoc]at c2
      have He:=Lib.hid (Htrue.out hs Hdv.out hww (fun i hi=>H2.out i (by have:=Hq.out;omega)))
      rw[show xs.length-1=2+(q-1) by have:=Hq.out;omega]at He
      obtain⟨x,Hx⟩:∃x,Hid (xs.getD (2+(q-1)) 0=x):=⟨_,Lib.hid rfl⟩
      obtain⟨y,Hy⟩:∃y,Hid (xs.getD 2 0=y):=⟨_,Lib.hid rfl⟩
      rw[Hx.out]at c2 b2 He
      rw[Hy.out]at c3 He
      have w1:IntKind.i64.wrap (x+ww)=x+ww:=IntWalk.i64_in _ (by omega)
      have w3:IntKind.i64.wrap (x+ww+k)=x+ww+k:=IntWalk.i64_in _ (by omega)
      have w4:IntKind.i64.wrap ((q:Int)-1)=((q-1:Nat):Int):=(IntWalk.i64_in _ (by omega)).trans (by omega)
      have m3:(0:Int)≤((q-1:Nat):Int):=by omega
      have m4:((q-1:Nat):Int)<(q:Int):=by omega
      have m5:(0:Int)<(q:Int):=by omega
      by_cases hy:k≤y
      ·have hyd:decide (k≤y)=true:=decide_eq_true hy
       go_wp2
       refine wqf fun u=> ?_
       go_wp2
       go_ret
       exact⟨ay (by rw[He.out,hyd];simp),ae hV (ae hbj u.below)⟩
      ·have hyd:decide (k≤y)=false:=decide_eq_false hy
       go_wp2
       refine wqf fun u=> ?_
       go_wp2
       go_ret
       exact⟨ay (by rw[He.out,hyd];simp),ae hV (ae hbj u.below)⟩
   ·have He:=Lib.hid (Hfalse3.out hww)
    have hwd:decide (ww≤0)=true:=by simp;omega
    go_enter Tryz.func89,Tryz.ntmps89
    go_wp2
    rw[HV.out]
    refine wqf fun u=> ?_
    have hbu:Below V.heap.size V u.val:=u.below
    have c0u:=ab hbu v1
    have zu:=Nat.lt_of_lt_of_le zV hbu.size
    go_wp2_with fail
    refine((h1 _).out).mono ?_
    rintro e w1 ⟨rfl,rfl⟩
    go_wp2
    go_ret
    exact⟨ay He.out.symm,ae hV hbu⟩
 ·rw[show decide (1≤s∧s≤8)=false from decide_eq_false hs]at h1
  have He:=Lib.hid (Hfalse1.out hs)
  go_enter Tryz.func89,Tryz.ntmps89
  go_wp2
  rw[HV.out]
  refine wqf fun u=> ?_
  have hbu:Below V.heap.size V u.val:=u.below
  have c0u:=ab hbu v1
  have zu:=Nat.lt_of_lt_of_le zV hbu.size
  go_wp2_with fail
  refine((h1 _).out).mono ?_
  rintro e w1 ⟨rfl,rfl⟩
  go_wp2
  go_ret
  exact⟨ay He.out.symm,ae hV hbu⟩
set_option maxRecDepth 100000 in
theorem kx (l w t:Int) (nv:Value) (xs:List Int) (W:World) (m:Nat) (hx:Ints W nv xs) (hm:xs.length=6+2*m) (h1:1≤m) (hl:m≤1000)
  (hb:∀x∈xs, -1000000≤x∧x≤1000000) (hL: -1000000≤l∧l≤1000000) (hT: -1000000≤t∧t≤1000000):
  Calls Tryz.prog 91 #[vJ 8 l w t nv] W (Ret W (.bool (bQ l w t xs))):=by
 unfold vJ
 obtain⟨b,off,c,rfl,hc,zb,hi⟩:=hx.at' (by omega)
 have hB:∀i,i<xs.length→ -1000000≤xs.getD i 0∧xs.getD i 0≤1000000:=fun i h=>by rw[←cS xs i h];exact hb _ (List.getElem_mem h)
 have HB:=Lib.hid hB
 have b0:=hB 0 (by omega)
 have b1:=hB 1 (by omega)
 have b2:=hB 2 (by omega)
 have b3:=hB 3 (by omega)
 have b4:=hB 4 (by omega)
 have b5:=hB 5 (by omega)
 have Hmm:Hid ((xs.length-6) / 2=m):=Lib.hid (by omega)
 have Hlen:Hid (xs.length=6+2*m):=Lib.hid hm
 have Hhead:Hid (dW l xs=(aD [0,xs.getD 1 0,xs.getD 2 0,2*xs.getD 1 0]&&decide (0<xs.getD 3 0∧0<xs.getD 4 0∧0≤xs.getD 5 0∧xs.getD 4 0+xs.getD 5 0<xs.getD 0 0∧xs.getD 0 0+xs.getD 3 0+xs.getD 5 0<l))):=Lib.hid rfl
 have Hno1:Hid (dW l xs=false→bQ l w t xs=false):=Lib.hid kX
 have Hno2:Hid (∀i,i<m→eZ t xs i=false→bQ l w t xs=false):=Lib.hid (fun i h=>kY i (by rw[Hmm.out];exact h))
 have Hend:Hid (dW l xs=true→(∀i,i<m→eZ t xs i=true)→bQ l w t xs=decide (xs.getD (4+2*m) 0+xs.getD 1 0<w)):=Lib.hid (fun h1 h2=>by rw[kZ h1 (by rw[Hmm.out];exact h2),Hmm.out];simp[bV,show m≠0 by omega])
 have Hok:Hid (∀i,eZ t xs i=(decide (bV xs i+2*xs.getD 1 0<xs.getD (6+2*i) 0)&&decide (xs.getD 1 0<xs.getD (7+2*i) 0∧xs.getD (7+2*i) 0<t-xs.getD 1 0))):=Lib.hid (fun i=>rfl)
 have Hp0:Hid (bV xs 0= -(xs.getD 1 0)):=Lib.hid (by simp[bV])
 have Hps:Hid (∀i,0<i→bV xs i=xs.getD (4+2*i) 0):=Lib.hid (fun i h=>by simp[bV,show i≠0 by omega])
 have hr:=fun W' x y z q g hg=>Lib.hid (bY _ [x,y,z,q] _ (aX (W:=W') (T:=3) (g:=g) [x,y,z,q] hg) (by simp))
 rw[hm]
 obtain⟨V,HV⟩:∃V,Hid (W.alloc (.cells #[.int .i64 8, .int .i64 l, .int .i64 w, .int .i64 t, .slice (some ⟨b,off,none⟩) (6+2*m) c] 25)=V):=⟨_,Lib.hid rfl⟩
 have hV:Below W.heap.size W V:=by rw[←HV.out];exact bel
 have v1:V.cell? ⟨W.heap.size,1,none⟩=some (.int .i64 l):=by rw[←HV.out];exact(aq rfl 1).trans rfl
 have v2:V.cell? ⟨W.heap.size,2,none⟩=some (.int .i64 w):=by rw[←HV.out];exact(aq rfl 2).trans rfl
 have v3:V.cell? ⟨W.heap.size,3,none⟩=some (.int .i64 t):=by rw[←HV.out];exact(aq rfl 3).trans rfl
 have v4:V.cell? ⟨W.heap.size,4,none⟩=some (.slice (some ⟨b,off,none⟩) (6+2*m) c):=by rw[←HV.out];exact(aq rfl 4).trans rfl
 have zV:=World.block_lt_of_cell? V _ v1
 simp only at zV
 have HIV:Hid (∀i,i<6+2*m→V.cell? ⟨b,off+i,none⟩=some (.int .i64 (xs.getD i 0))):=Lib.hid (fun i h=>ab hV (hi i (by omega)))
 have c0:=HIV.out 0 (by omega)
 have c1:=HIV.out 1 (by omega)
 have c2:=HIV.out 2 (by omega)
 have c3:=HIV.out 3 (by omega)
 have c4:=HIV.out 4 (by omega)
 have c5:=HIV.out 5 (by omega)
 rw[Nat.add_zero]at c0
 have zbV:=Nat.lt_of_lt_of_le zb hV.size
 generalize dW l xs=hd at*
 generalize bQ l w t xs=res at*
 generalize xs.getD 0 0=x0 at*
 generalize xs.getD 1 0=x1 at*
 generalize xs.getD 2 0=x2 at*
 generalize xs.getD 3 0=x3 at*
 generalize xs.getD 4 0=x4 at*
 generalize xs.getD 5 0=x5 at*
 clear hi hx hb hB hm hc zb
 have hr':=fun W' g hg=>hr W' 0 x1 x2 (2*x1) g hg
 clear hr
 generalize aD [0,x1,x2,2*x1]=r1 at*
 have n5:(5:Int)<((6+2*m:Nat):Int):=by omega
 have n4:(4:Int)<((6+2*m:Nat):Int):=by omega
 have n3:(3:Int)<((6+2*m:Nat):Int):=by omega
 have n2:(2:Int)<((6+2*m:Nat):Int):=by omega
 have n1:(1:Int)<((6+2*m:Nat):Int):=by omega
 have n0:(0:Int)<((6+2*m:Nat):Int):=by omega
 by_cases hgood:r1=true∧0<x3∧0<x4∧0≤x5∧x4+x5<x0∧x0+x3+x5<l
 ·obtain⟨rfl,g1,g2,g3,g4,g5⟩:=hgood
  have k1:decide (x3≤0)=false:=by simp;omega
  have k2:decide (x4≤0)=false:=by simp;omega
  have k3:decide (x5<0)=false:=by simp;omega
  have k4:decide (x0≤x4+x5)=false:=by simp;omega
  have k5:decide (l≤x0+x3+x5)=false:=by simp;omega
  have Hhd:Hid (hd=true):=Lib.hid (by rw[Hhead.out];simp[g1,g2,g3,g4,g5])
  go_enter Tryz.func91,Tryz.ntmps91
  go_wp2
  rw[HV.out]
  refine wqf fun u=> ?_
  go_wp2_with fail
  refine((hr' _ _ rfl).out).mono ?_
  rintro e w1 ⟨rfl,hb1⟩
  have hv1:Below V.heap.size V w1:=ae u.below (ae bel hb1)
  have d1:=ab hv1 v1
  have z1:=Nat.lt_of_lt_of_le zV hv1.size
  clear c0 c1 c2 c3 c4 c5 v4 hr' hb1
  go_wp2
  clear n0 n1 n2 n3 n4 n5 d1 z1
  go_loopw [10] (fun i wr=>∃k:Nat,k≤m∧i= .int .i64 (6+2*k)∧Below V.heap.size V wr∧Hid (∀i,i<k→eZ t xs i=true)) (fun i _=>6+2*m-(intOf i).toNat)
  case atStart=>exact⟨0,by omega,rfl,hv1,Lib.hid (fun i h=>by omega)⟩
  case round=>
   clear hv1
   obtain⟨k,hk,rfl,hbk,HZ⟩:=hrel
   have zk:=Nat.lt_of_lt_of_le zV hbk.size
   have zbk:=Nat.lt_of_lt_of_le zbV hbk.size
   have e2:=ab hbk v2
   have e3:=ab hbk v3
   by_cases hlt:k<m
   ·have cy:=ab hbk (HIV.out (6+2*k) (by omega))
    have cz:=ab hbk (HIV.out (6+2*k+1) (by omega))
    have by_:=HB.out (6+2*k) (by have:=Hlen.out;omega)
    have bz:=HB.out (6+2*k+1) (by have:=Hlen.out;omega)
    have Hokk:=Lib.hid (Hok.out k)
    have Hn:=Lib.hid (Hno2.out k hlt)
    rw[show 7+2*k=6+2*k+1 by omega]at Hokk
    generalize xs.getD (6+2*k) 0=y at*
    generalize xs.getD (6+2*k+1) 0=z at*
    have t1:((6+2*(k:Int)).toNat)=6+2*k:=by omega
    have t2:((6+2*(k:Int)+1).toNat)=6+2*k+1:=by omega
    have q1:(0:Int)≤6+2*(k:Int):=by omega
    have q2:(0:Int)≤6+2*(k:Int)+1:=by omega
    have q3:6+2*(k:Int)<((6+2*m:Nat):Int):=by omega
    have q4:6+2*(k:Int)+1<((6+2*m:Nat):Int):=by omega
    have q5:IntKind.i64.wrap (6+2*(k:Int)+1)=6+2*(k:Int)+1:=IntWalk.i64_in _ (by omega)
    by_cases hk0:k=0
    ·have hq:bV xs k+2*x1=x1:=by rw[hk0,Hp0.out];omega
     rw[hq]at Hokk
     clear hq
     have i6:((6+2*(k:Int))==6)=true:=by simp;omega
     have i7:¬0<k:=by omega
     have cp:=cy
     clear hk0
     by_cases hy:x1<y
     ·have hyd:decide (y≤x1)=false:=by simp;omega
      go_wp2
      refine wqf fun u=> ?_
      have hbu:Below V.heap.size V u.val:=ae hbk u.below
      have fp:=ab u.below cp
      have f3:=ab u.below e3
      have zu:=Nat.lt_of_lt_of_le zk u.below.size
      have zbu:=Nat.lt_of_lt_of_le zbk u.below.size
      clear cy cz cp e3 q5
      by_cases hz:x1<z
      ·have hzd:decide (z≤x1)=false:=by simp;omega
       by_cases hz2:z+x1<t
       ·have hzd2:decide (t≤z+x1)=false:=by simp;omega
        have Hyes:Hid (eZ t xs k=true):=Lib.hid (by rw[Hokk.out,decide_eq_true hy,decide_eq_true (show x1<z∧z<t-x1 by omega)];rfl)
        go_wp2
        go_roundw
        case rel=>exact⟨k+1,by omega,by go_num,hbu,Lib.hid (fun i hi=>by
         by_cases e:i=k
         ·subst e;exact Hyes.out
         ·exact HZ.out i (by omega))⟩
        case measure=>simp[intOf];omega
       ·have hzd2:decide (t≤z+x1)=true:=by simp;omega
        have Hf:Hid (res=false):=Lib.hid (Hn.out (by rw[Hokk.out,decide_eq_false (show ¬(x1<z∧z<t-x1) by omega)];simp))
        go_wp2
        go_ret
        exact⟨ay Hf.out.symm,ae hV hbu⟩
      ·have hzd:decide (z≤x1)=true:=by simp;omega
       have Hf:Hid (res=false):=Lib.hid (Hn.out (by rw[Hokk.out,decide_eq_false (show ¬(x1<z∧z<t-x1) by omega)];simp))
       go_wp2
       go_ret
       exact⟨ay Hf.out.symm,ae hV hbu⟩
     ·have hyd:decide (y≤x1)=true:=by simp;omega
      have Hf:Hid (res=false):=Lib.hid (Hn.out (by rw[Hokk.out,decide_eq_false hy];simp))
      go_wp2
      refine wqf fun u=> ?_
      have hbu:Below V.heap.size V u.val:=ae hbk u.below
      have fp:=ab u.below cp
      have f3:=ab u.below e3
      have zu:=Nat.lt_of_lt_of_le zk u.below.size
      have zbu:=Nat.lt_of_lt_of_le zbk u.below.size
      clear cy cz cp e3 q5
      go_wp2
      go_ret
      exact⟨ay Hf.out.symm,ae hV hbu⟩
    ·have cp:=ab hbk (HIV.out (4+2*k) (by omega))
     have bq:=HB.out (4+2*k) (by have:=Hlen.out;omega)
     rw[Hps.out k (by omega)]at Hokk
     generalize xs.getD (4+2*k) 0=q at*
     have i6:((6+2*(k:Int))==6)=false:=by simp;omega
     have i7:0<k:=by omega
     have t3:((6+2*(k:Int)-2).toNat)=4+2*k:=by omega
     have q6:(0:Int)≤6+2*(k:Int)-2:=by omega
     by_cases hy:q+2*x1<y
     ·have hyd:decide (y≤q+2*x1)=false:=by simp;omega
      go_wp2
      refine wqf fun u=> ?_
      have hbu:Below V.heap.size V u.val:=ae hbk u.below
      have fp:=ab u.below cp
      have f3:=ab u.below e3
      have zu:=Nat.lt_of_lt_of_le zk u.below.size
      have zbu:=Nat.lt_of_lt_of_le zbk u.below.size
      clear cy cz cp e3 q5
      by_cases hz:x1<z
      ·have hzd:decide (z≤x1)=false:=by simp;omega
       by_cases hz2:z+x1<t
       ·have hzd2:decide (t≤z+x1)=false:=by simp;omega
        have Hyes:Hid (eZ t xs k=true):=Lib.hid (by rw[Hokk.out,decide_eq_true hy,decide_eq_true (show x1<z∧z<t-x1 by omega)];rfl)
        go_wp2
        go_roundw
        case rel=>exact⟨k+1,by omega,by go_num,hbu,Lib.hid (fun i hi=>by
         by_cases e:i=k
         ·subst e;exact Hyes.out
         ·exact HZ.out i (by omega))⟩
        case measure=>simp[intOf];omega
       ·have hzd2:decide (t≤z+x1)=true:=by simp;omega
        have Hf:Hid (res=false):=Lib.hid (Hn.out (by rw[Hokk.out,decide_eq_false (show ¬(x1<z∧z<t-x1) by omega)];simp))
        go_wp2
        go_ret
        exact⟨ay Hf.out.symm,ae hV hbu⟩
      ·have hzd:decide (z≤x1)=true:=by simp;omega
       have Hf:Hid (res=false):=Lib.hid (Hn.out (by rw[Hokk.out,decide_eq_false (show ¬(x1<z∧z<t-x1) by omega)];simp))
       go_wp2
       go_ret
       exact⟨ay Hf.out.symm,ae hV hbu⟩
     ·have hyd:decide (y≤q+2*x1)=true:=by simp;omega
      have Hf:Hid (res=false):=Lib.hid (Hn.out (by rw[Hokk.out,decide_eq_false hy];simp))
      go_wp2
      refine wqf fun u=> ?_
      have hbu:Below V.heap.size V u.val:=ae hbk u.below
      have fp:=ab u.below cp
      have f3:=ab u.below e3
      have zu:=Nat.lt_of_lt_of_le zk u.below.size
      have zbu:=Nat.lt_of_lt_of_le zbk u.below.size
      clear cy cz cp e3 q5
      go_wp2
      go_ret
      exact⟨ay Hf.out.symm,ae hV hbu⟩
   ·obtain rfl:k=m:=by omega
    have cl:=ab hbk (HIV.out (4+2*k) (by omega))
    have bq:=HB.out (4+2*k) (by have:=Hlen.out;omega)
    have He:=Lib.hid (Hend.out Hhd.out HZ.out)
    generalize xs.getD (4+2*k) 0=q at*
    have w1:IntKind.i64.wrap (6+2*(k:Int)-2)=6+2*(k:Int)-2:=IntWalk.i64_in _ (by omega)
    have t3:((6+2*(k:Int)-2).toNat)=4+2*k:=by omega
    have q6:(0:Int)≤6+2*(k:Int)-2:=by omega
    have q7:6+2*(k:Int)-2<((6+2*k:Nat):Int):=by omega
    have q8:6+2*(k:Int)-2<6+2*(k:Int):=by omega
    have w2:IntKind.i64.wrap (q+x1)=q+x1:=IntWalk.i64_in _ (by omega)
    have m3:(0:Int)≤((4+2*k:Nat):Int):=by omega
    have m4:((4+2*k:Nat):Int)<((6+2*k:Nat):Int):=by omega
    have m5:¬(6+2*(k:Int))<((6+2*k:Nat):Int):=by omega
    go_wp2
    refine wqf fun u=> ?_
    go_wp2
    go_ret
    exact⟨ay He.out.symm,ae hV (ae hbk u.below)⟩
 ·have Hf:Hid (res=false):=Lib.hid (Hno1.out (by rw[Hhead.out,Bool.and_eq_false_iff,decide_eq_false_iff_not];cases r1;exact Or.inl rfl;exact Or.inr (fun h=>hgood ⟨rfl,h⟩)))
  go_enter Tryz.func91,Tryz.ntmps91
  go_wp2
  rw[HV.out]
  refine wqf fun u=> ?_
  go_wp2_with fail
  refine((hr' _ _ rfl).out).mono ?_
  rintro e w1 ⟨rfl,hb1⟩
  have hv1:Below V.heap.size V w1:=ae u.below (ae bel hb1)
  have d1:=ab hv1 v1
  have z1:=Nat.lt_of_lt_of_le zV hv1.size
  cases r1
  ·clear hgood
   go_wp2
   go_ret
   exact⟨ay Hf.out.symm,ae hV hv1⟩
  ·have hg:¬(0<x3∧0<x4∧0≤x5∧x4+x5<x0∧x0+x3+x5<l):=fun h=>hgood ⟨rfl,h⟩
   clear hgood
   go_wp2
   all_goals go_ret
   all_goals exact⟨ay Hf.out.symm,ae hV hv1⟩
end
end Go.Proofs.YtokhkhnofkcalaaGreatDoor
