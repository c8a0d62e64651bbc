/- texts: C5 C4. -/
import Derived.Test.YtokhkhnofkcalaaGreatDoorKZS22
namespace Go.Proofs.YtokhkhnofkcalaaGreatDoor
set_option maxHeartbeats 8000000
set_option linter.unusedSimpArgs false
set_option linter.unusedVariables false
section
open Go.RowKit Go.Shelf
attribute [local go_sem] Ext.cell Ext.frozen
theorem qb (s p:Int) (B:Int) (hs: -B≤s∧s≤B): -B≤s.tdiv p∧s.tdiv p≤B:=by
 have h1:(s.tdiv p).natAbs≤s.natAbs:=by rw[Int.natAbs_tdiv];exact Nat.div_le_self _ _
 omega
set_option maxRecDepth 100000 in
theorem ye (l w t:Int) (nv:Value) (n:List Int) (W:World) (hn:Ints W nv n) (hl:n.length=3) (hb:∀x∈n, -1000000≤x∧x≤1000000) (hT: -1000000≤t∧t≤1000000):
  Calls Tryz.prog 97 #[vJ 6 l w t nv] W (Ret W (.bool (fH l t n))):=by
 unfold vJ
 obtain⟨b,off,c,rfl,hc,zb,hi⟩:=hn.at' (by omega)
 have c0:=hi 0 (by omega)
 have c1:=hi 1 (by omega)
 have c2:=hi 2 (by omega)
 rw[Nat.add_zero]at c0
 have bx: -1000000≤n.getD 0 0∧n.getD 0 0≤1000000:=by rw[←cS n 0 (by omega)];exact hb _ (List.getElem_mem _)
 rw[hl]
 have HR:Hid (fH l t n=(decide (1≤n.getD 1 0∧n.getD 1 0≤8)&&decide (-8≤n.getD 2 0∧n.getD 2 0≤8)&&decide (n.getD 2 0≠0)&&((n.getD 2 0*t).tmod (n.getD 1 0)==0)&&bB 0 l [n.getD 0 0,n.getD 0 0+(n.getD 2 0*t).tdiv (n.getD 1 0)])):=Lib.hid rfl
 generalize fH l t n=res at*
 generalize n.getD 0 0=x at*
 generalize n.getD 1 0=p at*
 generalize n.getD 2 0=q at*
 clear hi hn hl hb
 have h1:=fun W' g hg=>Lib.hid (fS 1 8 W' 3 p g hg)
 have h2:=fun W' g hg=>Lib.hid (fS (-8) 8 W' 3 q g hg)
 by_cases hp:1≤p∧p≤8
 ·rw[show decide (1≤p∧p≤8)=true from decide_eq_true hp]at h1 HR
  by_cases hq: -8≤q∧q≤8
  ·rw[show decide (-8≤q∧q≤8)=true from decide_eq_true hq]at h2 HR
   by_cases h0:q=0
   ·have Hf:Hid (res=false):=Lib.hid (by rw[HR.out];simp[h0])
    subst h0
    go_enter Tryz.func97,Tryz.ntmps97
    go_wp2
    refine wqf fun u=> ?_
    have hbu:Below W.heap.size W u.val:=bel
    have zbu:=Nat.lt_of_lt_of_le zb hbu.size
    have cu0:=ab hbu c0
    have cu1:=ab hbu c1
    have cu2:=ab hbu c2
    clear c0 c1 c2 zb
    go_wp2
    refine wqf fun u=> ?_
    have hbv:Below W.heap.size W u.val:=bel
    clear cu0 cu1 cu2
    go_wp2_with fail
    refine((h1 _ _ (by simp)).out).mono ?_
    rintro e w1 ⟨rfl,hb1⟩
    have hv1:Below W.heap.size W w1:=ae hbv (ae bel hb1)
    clear hb1 h1
    go_wp2_with fail
    refine((h2 _ _ (by simp)).out).mono ?_
    rintro e w2 ⟨rfl,hb2⟩
    go_wp2
    go_ret
    exact⟨ay Hf.out.symm,ae hv1 (ae bel hb2)⟩
   ·have hqn:(q==0)=false:=by simpa using h0
    have bs:=aJ hq.1 hq.2 hT.1 hT.2
    have hws:wrap64 (q*t)=q*t:=by unfold wrap64;omega
    obtain⟨s,Hs⟩:∃s,Hid (q*t=s):=⟨_,Lib.hid rfl⟩
    rw[Hs.out]at bs HR
    have hws2:wrap64 (q*t)=s:=hws.trans Hs.out
    clear hws
    have h3:=fun W'=>Lib.hid (ik p s W' (by omega))
    have bd:=qb s p 8000000 (by omega)
    have HR2:Hid (res=((s.tmod p==0)&&bB 0 l [x,x+s.tdiv p])):=Lib.hid (by rw[HR.out];simp[h0])
    have hp0:(p==0)=false:=by simp;omega
    cases hd:(s.tmod p==0)with
    |false=>
     have Hf:Hid (res=false):=Lib.hid (by rw[HR2.out,hd];rfl)
     rw[hd]at h3
     clear hd
     go_enter Tryz.func97,Tryz.ntmps97
     go_wp2
     refine wqf fun u=> ?_
     have hbu:Below W.heap.size W u.val:=bel
     have zbu:=Nat.lt_of_lt_of_le zb hbu.size
     have cu0:=ab hbu c0
     have cu1:=ab hbu c1
     have cu2:=ab hbu c2
     clear c0 c1 c2 zb
     go_wp2
     refine wqf fun u=> ?_
     have hbv:Below W.heap.size W u.val:=bel
     clear cu0 cu1 cu2
     go_wp2_with fail
     refine((h1 _ _ (by simp)).out).mono ?_
     rintro e w1 ⟨rfl,hb1⟩
     have hv1:Below W.heap.size W w1:=ae hbv (ae bel hb1)
     clear hb1 h1
     go_wp2_with fail
     refine((h2 _ _ (by simp)).out).mono ?_
     rintro e w2 ⟨rfl,hb2⟩
     go_wp2_with fail
     refine((h3 _).out).mono ?_
     rintro e w3 ⟨rfl,rfl⟩
     go_wp2
     go_ret
     exact⟨ay Hf.out.symm,ae hv1 (ae bel hb2)⟩
    |true=>
     have Hf:Hid (res=bB 0 l [x,x+s.tdiv p]):=Lib.hid (by rw[HR2.out,hd];rfl)
     rw[hd]at h3
     clear hd
     have h4:=fun W' g hg=>Lib.hid (fG 0 l _ [x,x+s.tdiv p] _ (aX (W:=W') (T:=3) (g:=g) [x,x+s.tdiv p] hg) (by simp))
     rw[←Hf.out]at h4
     go_enter Tryz.func97,Tryz.ntmps97
     go_wp2
     refine wqf fun u=> ?_
     have hbu:Below W.heap.size W u.val:=bel
     have zbu:=Nat.lt_of_lt_of_le zb hbu.size
     have cu0:=ab hbu c0
     have cu1:=ab hbu c1
     have cu2:=ab hbu c2
     clear c0 c1 c2 zb
     go_wp2
     refine wqf fun u=> ?_
     have hbv:Below W.heap.size W u.val:=bel
     clear cu0 cu1 cu2
     go_wp2_with fail
     refine((h1 _ _ (by simp)).out).mono ?_
     rintro e w1 ⟨rfl,hb1⟩
     have hv1:Below W.heap.size W w1:=ae hbv (ae bel hb1)
     clear hb1 h1
     go_wp2_with fail
     refine((h2 _ _ (by simp)).out).mono ?_
     rintro e w2 ⟨rfl,hb2⟩
     go_wp2_with fail
     refine((h3 _).out).mono ?_
     rintro e w3 ⟨rfl,rfl⟩
     go_wp2_with fail
     refine((h4 _ _ rfl).out).mono ?_
     rintro e w4 ⟨rfl,hb4⟩
     go_wp2
     go_ret
     exact⟨ay (by simp[h0]),ae (ae hv1 (ae bel hb2)) (ae bel hb4)⟩
  ·rw[show decide (-8≤q∧q≤8)=false from decide_eq_false hq]at h2 HR
   have Hf:Hid (res=false):=Lib.hid (by rw[HR.out];simp)
   go_enter Tryz.func97,Tryz.ntmps97
   go_wp2
   refine wqf fun u=> ?_
   have hbu:Below W.heap.size W u.val:=bel
   have zbu:=Nat.lt_of_lt_of_le zb hbu.size
   have cu0:=ab hbu c0
   have cu1:=ab hbu c1
   have cu2:=ab hbu c2
   clear c0 c1 c2 zb
   go_wp2
   refine wqf fun u=> ?_
   have hbv:Below W.heap.size W u.val:=bel
   clear cu0 cu1 cu2
   go_wp2_with fail
   refine((h1 _ _ (by simp)).out).mono ?_
   rintro e w1 ⟨rfl,hb1⟩
   have hv1:Below W.heap.size W w1:=ae hbv (ae bel hb1)
   clear hb1 h1
   go_wp2_with fail
   refine((h2 _ _ (by simp)).out).mono ?_
   rintro e w2 ⟨rfl,hb2⟩
   go_wp2
   go_ret
   exact⟨ay Hf.out.symm,ae hv1 (ae bel hb2)⟩
 ·rw[show decide (1≤p∧p≤8)=false from decide_eq_false hp]at h1 HR
  have Hf:Hid (res=false):=Lib.hid (by rw[HR.out];simp)
  go_enter Tryz.func97,Tryz.ntmps97
  go_wp2
  refine wqf fun u=> ?_
  have hbu:Below W.heap.size W u.val:=bel
  have zbu:=Nat.lt_of_lt_of_le zb hbu.size
  have cu0:=ab hbu c0
  have cu1:=ab hbu c1
  have cu2:=ab hbu c2
  clear c0 c1 c2 zb
  go_wp2
  refine wqf fun u=> ?_
  have hbv:Below W.heap.size W u.val:=bel
  clear cu0 cu1 cu2
  go_wp2_with fail
  refine((h1 _ _ (by simp)).out).mono ?_
  rintro e w1 ⟨rfl,hb1⟩
  have hv1:Below W.heap.size W w1:=ae hbv (ae bel hb1)
  clear hb1 h1
  go_wp2
  go_ret
  exact⟨ay Hf.out.symm,hv1⟩
end
section
open Go.RowKit Go.Shelf
attribute [local go_sem] Ext.cell Ext.frozen
set_option maxRecDepth 100000
theorem ec {W:World} {v:Value} {xs:List Int} (h:Ints W v xs) (hn:re v):Raw W 1 v (xs.map (Value.int .i64)):=by
 obtain⟨a,m,c,rfl,hl,hc,hx⟩:=h
 refine⟨a,m,c,rfl,by simp[hl],fun e=>by subst e;exact hn m c rfl,fun ad ha j u hu=> ?_⟩
 have hj:j<xs.length:=by
  have:=(List.getElem?_eq_some_iff.1 hu).1
  simpa using this
 obtain⟨b,off,e,hi⟩:=hx (by omega)
 subst ha
 cases e
 rw[vp,hi j hj]
 simpa [hj]using hu
theorem yg (l w t:Int) (nv:Value) (n:List Int) (W:World) (m:Nat) (hn:Ints W nv n) (hm:n.length=6+2*m) (h1:1≤m) (hl:m≤1000)
  (hb:∀x∈n, -1000000≤x∧x≤1000000) (hL: -1000000≤l∧l≤1000000) (hT: -1000000≤t∧t≤1000000):
  Calls Tryz.prog 97 #[vJ 8 l w t nv] W (Ret W (.bool (bQ l w t n))):=by
 unfold vJ
 have hr:=fun W' h=>Lib.hid (lF l w t nv n W' m (hn.below (w':=W') h) hm h1 hl hb hL hT)
 obtain⟨b,off,c,rfl,hc,zb,hi⟩:=hn.at' (by omega)
 generalize bQ l w t n=r at*
 rw[hm]at hr ⊢
 clear hn hi hb hm hc
 go_enter Tryz.func97,Tryz.ntmps97
 go_wp2
 refine wqf fun u=> ?_
 go_wp2_with fail
 refine((hr _ bel).out).mono ?_
 rintro e w1 ⟨rfl,hb1⟩
 go_wp2
 go_ret
 exact⟨rfl,ae bel hb1⟩
theorem yh (l w t:Int) (nv:Value) (n:List Int) (W:World) (hn:Ints W nv n) (h1:1≤n.length) (hl:n.length≤1000):
  Calls Tryz.prog 97 #[vJ 7 l w t nv] W (Ret W (.bool (aD ([0]++n++[w])))):=by
 unfold vJ
 have HN:=Lib.hid hn
 obtain⟨b,off,c,rfl,hc,zb,hi⟩:=hn.at' (by omega)
 have hr:=fun W' v (h:Ints W' v ([0]++n++[w]))=>Lib.hid (cA v ([0]++n++[w]) W' h (by simp;omega))
 generalize aD ([0]++n++[w])=r at*
 obtain⟨q,Hq⟩:∃q,Hid (n.length=q):=⟨_,Lib.hid rfl⟩
 have hq1:q≤1000:=by have:=Hq.out;omega
 rw[Hq.out]at HN ⊢
 clear hn hi hc h1 hl
 go_enter Tryz.func97,Tryz.ntmps97
 go_wp2
 refine wqf fun u=> ?_
 go_wp2_with fail
 have hbu:Below W.heap.size W u.val:=bel
 have HNu:=Lib.hid (HN.out.below hbu)
 have hcat:=Lib.hid (ja (((u.val.alloc (.cells #[.int .i64 0] 3)).alloc (.cells #[.int .i64 w] 3)).alloc (.cells #[.slice (some ⟨u.val.heap.size,0,none⟩) 1 1, .slice (some ⟨b,off,none⟩) q c, .slice (some ⟨u.val.heap.size+1,0,none⟩) 1 1] 23)) (u.val.heap.size+2) 0 3 [[Value.int .i64 0],n.map (Value.int .i64),[Value.int .i64 w]] (by
   intro i hi
   match i,hi with
   |0,_=>
    refine⟨_,(aq (by simp) 0).trans rfl, ?_⟩
    exact ec (xs:=[0]) ((aX (T:=3) [0] rfl).below bel) (fun _ _ e=>by cases e)
   |1,_=>exact⟨_,(aq (by simp) 1).trans rfl,ec (HNu.out.below bel) (fun _ _ e=>by cases e)⟩
   |2,_=>
    refine⟨_,(aq (by simp) 2).trans rfl, ?_⟩
    exact ec (xs:=[w]) ((aX (W:=u.val.alloc (.cells #[.int .i64 0] 3)) (T:=3) [w] (by simp)).below bel) (fun _ _ e=>by cases e)) (by simp) (by simp) (by
   intro cs hcs u hu
   simp at hcs
   rcases hcs with rfl|rfl|rfl
   ·simp at hu;subst hu;rfl
   ·simp at hu;obtain⟨_,_,rfl⟩:=hu;rfl
   ·simp at hu;subst hu;rfl) (by simp;have:=Hq.out;omega))
 refine(hcat.out).mono ?_
 rintro e w1 ⟨r,m,rfl,hb1,ho⟩
 have hm:m=([0]++n++[w]).length:=by have:=ho.1;simp at this ⊢;omega
 subst hm
 have hI:Ints w1 r ([0]++n++[w]):=jy (by simpa using ho)
 have hb2:Below W.heap.size W w1:=ae (ae hbu bel) hb1
 have Hr:=Lib.hid (hr _ _ hI).out
 clear ho hb1 hcat hI hr
 go_wp2_with fail
 refine(Hr.out).mono ?_
 rintro e w2 ⟨rfl,hb3⟩
 go_wp2
 go_ret
 exact⟨rfl,ae hb2 hb3⟩
theorem Ba {k:Int} {n:List Int} (h:Bf k n.length=true) (hk:0≤k∧k≤10):(k=0→n.length=1)∧(k=1→n.length=2)∧(k=2→n.length=4)∧(k=3→n.length=6)∧(k=4→n.length=4)∧(k=5→3≤n.length)∧(k=6→n.length=3)∧(k=7→1≤n.length)∧(k=8→8≤n.length∧n.length % 2=0)∧(k=9→n.length=5)∧(k=10→n.length=5):=by
 generalize n.length=m at*
 rcases(by omega:k=0∨k=1∨k=2∨k=3∨k=4∨k=5∨k=6∨k=7∨k=8∨k=9∨k=10)with rfl|rfl|rfl|rfl|rfl|rfl|rfl|rfl|rfl|rfl|rfl
 all_goals (simp[Bf]at h;first|omega|(have h2:=h.2;rw[Int.tmod_eq_emod_of_nonneg (by omega)]at h2;omega))
theorem tK (k l w t:Int) (nv:Value) (n:List Int) (W:World) (hk:0≤k∧k≤10) (hn:Ints W nv n) (h24:n.length≤24) (hc:Bf k n.length=true)
  (hs:bB 1 100000 [l,w,t]=true) (hw:bB (-100000) 100000 n=true):
  Calls Tryz.prog 97 #[vJ k l w t nv] W (Ret W (.bool (cU k l w t n))):=by
 rw[cC]at hs hw
 have hL:=hs l (by simp)
 have hW:=hs w (by simp)
 have hT:=hs t (by simp)
 have hb:∀x∈n, -1000000≤x∧x≤1000000:=fun x hx=>by have:=hw x hx;omega
 have hB:∀i,i<n.length→ -1000000≤n.getD i 0∧n.getD i 0≤1000000:=fun i h=>by rw[←cS n i h];exact hb _ (List.getElem_mem h)
 obtain⟨a0,a1,a2,a3,a4,a5,a6,a7,a8,a9,a10⟩:=Ba hc hk
 rcases(by omega:k=0∨k=1∨k=2∨k=3∨k=4∨k=5∨k=6∨k=7∨k=8∨k=9∨k=10)with rfl|rfl|rfl|rfl|rfl|rfl|rfl|rfl|rfl|rfl|rfl
 ·exact sm l w t nv n W hn (a0 rfl)
 ·exact xZ l w t nv n W hn (a1 rfl)
 ·exact Bz l w t nv n W hn (a2 rfl)
 ·exact BA l w t nv n W hn (a3 rfl) ⟨hB 0 (by have:=a3 rfl;omega),hB 1 (by have:=a3 rfl;omega)⟩
 ·exact BB l w t nv n W hn (a4 rfl) ⟨hB 0 (by have:=a4 rfl;omega),hB 1 (by have:=a4 rfl;omega)⟩
 ·exact sr l w t nv n W hn (a5 rfl) (by omega) hb (by omega)
 ·exact ye l w t nv n W hn (a6 rfl) hb (by omega)
 ·exact yh l w t nv n W hn (a7 rfl) (by omega)
 ·have:=a8 rfl
  exact yg l w t nv n W ((n.length-6) / 2) hn (by omega) (by omega) (by omega) hb (by omega) (by omega)
 ·exact BC l w t nv n W hn (a9 rfl) (by omega) hb
 ·exact vR l w t nv n W hn (a10 rfl)
def ky (k l w t:Int) (n:List Int):Int:=eF k l w t n (cU k l w t n)
theorem nB (k l w t:Int) (nv:Value) (n:List Int) (W:World) (hn:Ints W nv n) (hm:n.length≤1000000):
  Calls Tryz.prog 48 #[vJ k l w t nv] W (Ret W (.int .i64 (ky k l w t n))):=
 kj k l w t nv n (cU k l w t n) W hn hm (fun hk hs h24 hc hw W' hb=>tK k l w t nv n W' hk (hn.below hb) h24 hc hs hw)
end
end Go.Proofs.YtokhkhnofkcalaaGreatDoor
