/- texts: D7 D5 D6 V4 V5 V6 V7. -/
import Derived.Test.YtokhkhnofkcalaaGreatDoorKZS23
import Derived.Test.YtokhkhnofkcalaaGreatDoorKZS20
import Derived.Test.YtokhkhnofkcalaaGreatDoorKZS21
namespace Go.Proofs.YtokhkhnofkcalaaGreatDoor
set_option maxHeartbeats 8000000
set_option linter.unusedSimpArgs false
set_option linter.unusedVariables false
section
open Go.RowKit Go.Shelf
attribute [local go_sem] Ext.cell Ext.frozen
set_option maxRecDepth 100000 in
theorem vT (l w t:Int) (nv:Value) (n:List Int) (W:World) (hn:Ints W nv n) (hl:n.length=3) (hb:∀x∈n, -1000000≤x∧x≤1000000) (hT: -1000000≤t∧t≤1000000):
  Calls Tryz.prog 35 #[vJ 6 l w t nv] W (Ret W (.bool (fH l t n))):=by
 unfold vJ
 obtain⟨b,off,c,rfl,hc,zb,hi⟩:=hn.at' (by omega)
 have c0:=hi 0 (by omega)
 have c1:=hi 1 (by omega)
 have c2:=hi 2 (by omega)
 rw[Nat.add_zero]at c0
 have bx: -1000000≤n.getD 0 0∧n.getD 0 0≤1000000:=by rw[←cS n 0 (by omega)];exact hb _ (List.getElem_mem _)
 rw[hl]
 have HR:Hid (fH l t n=(decide (1≤n.getD 1 0∧n.getD 1 0≤8)&&decide (-8≤n.getD 2 0∧n.getD 2 0≤8)&&decide (n.getD 2 0≠0)&&((n.getD 2 0*t).tmod (n.getD 1 0)==0)&&bB 0 l [n.getD 0 0,n.getD 0 0+(n.getD 2 0*t).tdiv (n.getD 1 0)])):=Lib.hid rfl
 generalize fH l t n=res at*
 generalize n.getD 0 0=x at*
 generalize n.getD 1 0=p at*
 generalize n.getD 2 0=q at*
 clear hi hn hl hb
 have h1:=fun W'=>Lib.hid (de p 1 8 W')
 have h2:=fun W'=>Lib.hid (de q (-8) 8 W')
 by_cases hp:1≤p∧p≤8
 ·rw[show decide (1≤p∧p≤8)=true from decide_eq_true hp]at h1 HR
  by_cases hq: -8≤q∧q≤8
  ·rw[show decide (-8≤q∧q≤8)=true from decide_eq_true hq]at h2 HR
   by_cases h0:q=0
   ·have Hf:Hid (res=false):=Lib.hid (by rw[HR.out];simp[h0])
    subst h0
    go_enter Tryz.func35,Tryz.ntmps35
    go_wp2
    refine wqf fun u=> ?_
    have hbu:Below W.heap.size W u.val:=bel
    have zbu:=Nat.lt_of_lt_of_le zb hbu.size
    have cu0:=ab hbu c0
    have cu1:=ab hbu c1
    have cu2:=ab hbu c2
    clear c0 c1 c2 zb
    go_wp2
    refine wqf fun u=> ?_
    have hbv:Below W.heap.size W u.val:=bel
    have zbv:=Nat.lt_of_lt_of_le zbu u.below.size
    have cv0:=ab u.below cu0
    clear cu0 cu1 cu2
    go_wp2_with fail
    refine((h1 _).out).mono ?_
    rintro e w1 ⟨rfl,rfl⟩
    clear h1
    go_wp2_with fail
    refine((h2 _).out).mono ?_
    rintro e w2 ⟨rfl,rfl⟩
    go_wp2
    go_ret
    exact⟨ay Hf.out.symm,hbv⟩
   ·have hqn:(q==0)=false:=by simpa using h0
    have bs:=aJ hq.1 hq.2 hT.1 hT.2
    have hws:wrap64 (q*t)=q*t:=by unfold wrap64;omega
    have hwi:IntKind.i64.wrap (q*t)=q*t:=IntWalk.i64_in _ (by omega)
    obtain⟨s,Hs⟩:∃s,Hid (q*t=s):=⟨_,Lib.hid rfl⟩
    rw[Hs.out]at bs HR
    have hws2:wrap64 (q*t)=s:=hws.trans Hs.out
    have hwi2:IntKind.i64.wrap (q*t)=s:=hwi.trans Hs.out
    clear hws hwi
    have h3:=fun W'=>Lib.hid (xY s p W' (by omega))
    have bd:=qb s p 8000000 (by omega)
    have HR2:Hid (res=((s.tmod p==0)&&bB 0 l [x,x+s.tdiv p])):=Lib.hid (by rw[HR.out];simp[h0])
    have hp0:(p==0)=false:=by simp;omega
    have hpn:¬p=0:=by omega
    have hdd:s % p=0↔s.tmod p=0:=⟨fun h=>by rw[Int.tmod_eq_zero_of_dvd (Int.dvd_of_emod_eq_zero h)],fun h=>Int.emod_eq_zero_of_dvd (Int.dvd_of_tmod_eq_zero h)⟩
    by_cases hd:s % p=0
    ·have Hf:Hid (res=(decide (0≤x∧x≤l)&&decide (0≤x+s.tdiv p∧x+s.tdiv p≤l))):=Lib.hid (by
      rw[HR2.out,hdd.1 hd]
      have:bB 0 l [x,x+s.tdiv p]=(decide (0≤x∧x≤l)&&decide (0≤x+s.tdiv p∧x+s.tdiv p≤l)):=by
       rw[Bool.eq_iff_iff,cC];simp
      rw[this];rfl)
     rw[hd]at h3
     clear hd hdd
     have h4:=fun W'=>Lib.hid (de x 0 l W')
     have h5:=fun W'=>Lib.hid (de (x+s.tdiv p) 0 l W')
     have hwt:IntKind.i64.wrap (s.tdiv p)=s.tdiv p:=IntWalk.i64_in _ (by omega)
     have hwu:IntKind.i64.wrap (x+s.tdiv p)=x+s.tdiv p:=IntWalk.i64_in _ (by omega)
     generalize decide (0≤x+s.tdiv p∧x+s.tdiv p≤l)=r2 at*
     generalize decide (0≤x∧x≤l)=r1 at*
     go_enter Tryz.func35,Tryz.ntmps35
     go_wp2
     refine wqf fun u=> ?_
     have hbu:Below W.heap.size W u.val:=bel
     have zbu:=Nat.lt_of_lt_of_le zb hbu.size
     have cu0:=ab hbu c0
     have cu1:=ab hbu c1
     have cu2:=ab hbu c2
     clear c0 c1 c2 zb
     go_wp2
     refine wqf fun u=> ?_
     have hbv:Below W.heap.size W u.val:=bel
     have zbv:=Nat.lt_of_lt_of_le zbu u.below.size
     have cv0:=ab u.below cu0
     clear cu0 cu1 cu2
     go_wp2_with fail
     refine((h1 _).out).mono ?_
     rintro e w1 ⟨rfl,rfl⟩
     clear h1
     go_wp2_with fail
     refine((h2 _).out).mono ?_
     rintro e w2 ⟨rfl,rfl⟩
     go_wp2_with fail
     refine((h3 _).out).mono ?_
     rintro e w3 ⟨rfl,rfl⟩
     go_wp2
     obtain⟨r3,Hr3⟩:∃r3,Hid ((r1&&r2)=r3):=⟨_,Lib.hid rfl⟩
     refine cX [0,1,2,3,4,5,6,7,8,9,10,11,12,13,14,15,16,17] 18 [] (pick [IsV (.slice (some ⟨b,off,none⟩) 3 c),IsV (.pointer (some ⟨b,off,none⟩)),IsV (.int .i64 x),IsV (.int .i64 l),IsV (.bool r1),IsV (.bool r1),Gd r1 (IsV (.slice (some ⟨b,off,none⟩) 3 c)),Gd r1 (IsV (.pointer (some ⟨b,off,none⟩))),Gd r1 (IsV (.int .i64 x)),Gd r1 (IsV (.int .i64 q)),Gd r1 (IsV (.int .i64 t)),Gd r1 (IsV (.int .i64 s)),Gd r1 (IsV (.int .i64 p)),Gd r1 (IsV (.int .i64 (s.tdiv p))),Gd r1 (IsV (.int .i64 (x+s.tdiv p))),Gd r1 (IsV (.int .i64 l)),Gd r1 (IsV (.bool r2)),IsV (.bool r3)]) (by kernel_rfl) (by kernel_rfl) (Stabs.pick (by repeat(first|exact Stabs.nil|refine Stabs.cons (by first|exact dj _|exact oq _|exact sB (by first|exact dj _|exact oq _)) ?_))) ?_
     try go_frame
     refine wgS (fun w' hb' hR K hK=> ?_) (fun o0=> ?_)
     ·clear hR
      go_simp
      exact hK _ _ brf rfl
     try go_frame
     refine wgS (fun w' hb' hR K hK=> ?_) (fun o1=> ?_)
     ·obtain rfl:o0= .slice (some ⟨b,off,none⟩) 3 c:=hr hR 0
      clear hR
      go_simp
      exact hK _ _ brf rfl
     try go_frame
     refine wgS (fun w' hb' hR K hK=> ?_) (fun o2=> ?_)
     ·obtain rfl:o1= .pointer (some ⟨b,off,none⟩):=hr hR 1
      clear hR
      have cc:=ab hb' cv0
      have zz:=World.block_lt_of_cell? w' _ cc
      simp only at zz
      go_simp
      exact hK _ _ brf rfl
     try go_frame
     refine wgS (fun w' hb' hR K hK=> ?_) (fun o3=> ?_)
     ·clear hR
      go_simp
      exact hK _ _ brf rfl
     try go_frame
     refine wgS (fun w' hb' hR K hK=> ?_) (fun o4=> ?_)
     ·obtain rfl:o2= .int .i64 x:=hr hR 2
      obtain rfl:o3= .int .i64 l:=hr hR 3
      clear hR
      go_simp
      refine((h4 _).out).mono ?_
      rintro e w9 ⟨rfl,rfl⟩
      exact hK _ _ (Below.refl _ _) rfl
     try go_frame
     refine wgS (fun w' hb' hR K hK=> ?_) (fun o5=> ?_)
     ·obtain rfl:o4= .bool r1:=hr hR 4
      clear hR
      go_simp
      exact hK _ _ brf rfl
     try go_frame
     refine wgg rfl rfl (by simp) (fun w' hb' hR K hK=> ?_) (fun o6=> ?_)
     ·obtain rfl:o5= .bool r1:=hr hR 5
      clear hR
      cases r1
      ·exact ifn rfl
      ·refine ifp ?_
       go_simp
       exact hK _ _ brf rfl
     try go_frame
     refine wgg rfl rfl (by simp) (fun w' hb' hR K hK=> ?_) (fun o7=> ?_)
     ·obtain rfl:o5= .bool r1:=hr hR 5
      have h6:(Gd r1 (IsV (.slice (some ⟨b,off,none⟩) 3 c))) o6 w':=hr hR 6
      clear hR
      cases r1
      ·exact ifn rfl
      ·refine ifp ?_
       obtain rfl:o6= .slice (some ⟨b,off,none⟩) 3 c:=h6
       go_simp
       exact hK _ _ brf rfl
     try go_frame
     refine wgg rfl rfl (by simp) (fun w' hb' hR K hK=> ?_) (fun o8=> ?_)
     ·obtain rfl:o5= .bool r1:=hr hR 5
      have h7:(Gd r1 (IsV (.pointer (some ⟨b,off,none⟩)))) o7 w':=hr hR 7
      clear hR
      cases r1
      ·exact ifn rfl
      ·refine ifp ?_
       obtain rfl:o7= .pointer (some ⟨b,off,none⟩):=h7
       have cc:=ab hb' cv0
       have zz:=World.block_lt_of_cell? w' _ cc
       simp only at zz
       go_simp
       exact hK _ _ brf rfl
     try go_frame
     refine wgg rfl rfl (by simp) (fun w' hb' hR K hK=> ?_) (fun o9=> ?_)
     ·obtain rfl:o5= .bool r1:=hr hR 5
      clear hR
      cases r1
      ·exact ifn rfl
      ·refine ifp ?_
       go_simp
       exact hK _ _ brf rfl
     try go_frame
     refine wgg rfl rfl (by simp) (fun w' hb' hR K hK=> ?_) (fun o10=> ?_)
     ·obtain rfl:o5= .bool r1:=hr hR 5
      clear hR
      cases r1
      ·exact ifn rfl
      ·refine ifp ?_
       go_simp
       exact hK _ _ brf rfl
     try go_frame
     refine wgg rfl rfl (by simp) (fun w' hb' hR K hK=> ?_) (fun o11=> ?_)
     ·obtain rfl:o5= .bool r1:=hr hR 5
      have h9:(Gd r1 (IsV (.int .i64 q))) o9 w':=hr hR 9
      have h10:(Gd r1 (IsV (.int .i64 t))) o10 w':=hr hR 10
      clear hR
      cases r1
      ·exact ifn rfl
      ·refine ifp ?_
       obtain rfl:o9= .int .i64 q:=h9
       obtain rfl:o10= .int .i64 t:=h10
       go_simp
       exact hK _ _ brf rfl
     try go_frame
     refine wgg rfl rfl (by simp) (fun w' hb' hR K hK=> ?_) (fun o12=> ?_)
     ·obtain rfl:o5= .bool r1:=hr hR 5
      clear hR
      cases r1
      ·exact ifn rfl
      ·refine ifp ?_
       go_simp
       exact hK _ _ brf rfl
     try go_frame
     refine wgg rfl rfl (by simp) (fun w' hb' hR K hK=> ?_) (fun o13=> ?_)
     ·obtain rfl:o5= .bool r1:=hr hR 5
      have h11:(Gd r1 (IsV (.int .i64 s))) o11 w':=hr hR 11
      have h12:(Gd r1 (IsV (.int .i64 p))) o12 w':=hr hR 12
      clear hR
      cases r1
      ·exact ifn rfl
      ·refine ifp ?_
       obtain rfl:o11= .int .i64 s:=h11
       obtain rfl:o12= .int .i64 p:=h12
       go_simp
       exact hK _ _ brf rfl
     try go_frame
     refine wgg rfl rfl (by simp) (fun w' hb' hR K hK=> ?_) (fun o14=> ?_)
     ·obtain rfl:o5= .bool r1:=hr hR 5
      have h8:(Gd r1 (IsV (.int .i64 x))) o8 w':=hr hR 8
      have h13:(Gd r1 (IsV (.int .i64 (s.tdiv p)))) o13 w':=hr hR 13
      clear hR
      cases r1
      ·exact ifn rfl
      ·refine ifp ?_
       obtain rfl:o8= .int .i64 x:=h8
       obtain rfl:o13= .int .i64 (s.tdiv p):=h13
       go_simp
       exact hK _ _ brf rfl
     try go_frame
     refine wgg rfl rfl (by simp) (fun w' hb' hR K hK=> ?_) (fun o15=> ?_)
     ·obtain rfl:o5= .bool r1:=hr hR 5
      clear hR
      cases r1
      ·exact ifn rfl
      ·refine ifp ?_
       go_simp
       exact hK _ _ brf rfl
     try go_frame
     refine wgg rfl rfl (by simp) (fun w' hb' hR K hK=> ?_) (fun o16=> ?_)
     ·obtain rfl:o5= .bool r1:=hr hR 5
      have h14:(Gd r1 (IsV (.int .i64 (x+s.tdiv p)))) o14 w':=hr hR 14
      have h15:(Gd r1 (IsV (.int .i64 l))) o15 w':=hr hR 15
      clear hR
      cases r1
      ·exact ifn rfl
      ·refine ifp ?_
       obtain rfl:o14= .int .i64 (x+s.tdiv p):=h14
       obtain rfl:o15= .int .i64 l:=h15
       go_simp
       refine((h5 _).out).mono ?_
       rintro e w9 ⟨rfl,rfl⟩
       exact hK _ _ (Below.refl _ _) rfl
     try go_frame
     refine wgS (fun w' hb' hR K hK=> ?_) (fun o17=> ?_)
     ·obtain rfl:o5= .bool r1:=hr hR 5
      have h16:(Gd r1 (IsV (.bool r2))) o16 w':=hr hR 16
      clear hR
      cases r1
      ·obtain rfl:o16=undef:=h16
       go_simp
       exact hK _ _ brf (by show _=_;rw[←Hr3.out];simp)
      ·obtain rfl:o16= .bool r2:=h16
       go_simp
       exact hK _ _ brf (by show _=_;rw[←Hr3.out];simp)
     try go_frame
     refine dE (fun w' hb' hR=> ?_)
     obtain rfl:o17= .bool r3:=hR 17 (by simp)
     clear hR
     simp only[oas]
     go_wp2
     refine NoPanic.normal ?_
     go_wp2
     go_ret
     exact⟨ay (by rw[Hf.out,Hr3.out]),ae hbv hb'⟩
    ·have Hf:Hid (res=false):=Lib.hid (by rw[HR2.out,show(s.tmod p==0)=false by simpa using fun h=>hd (hdd.2 h)];rfl)
     generalize s % p=r at*
     have hrn:(r !=0)=true:=by simpa using hd
     clear hd hdd
     go_enter Tryz.func35,Tryz.ntmps35
     go_wp2
     refine wqf fun u=> ?_
     have hbu:Below W.heap.size W u.val:=bel
     have zbu:=Nat.lt_of_lt_of_le zb hbu.size
     have cu0:=ab hbu c0
     have cu1:=ab hbu c1
     have cu2:=ab hbu c2
     clear c0 c1 c2 zb
     go_wp2
     refine wqf fun u=> ?_
     have hbv:Below W.heap.size W u.val:=bel
     have zbv:=Nat.lt_of_lt_of_le zbu u.below.size
     have cv0:=ab u.below cu0
     clear cu0 cu1 cu2
     go_wp2_with fail
     refine((h1 _).out).mono ?_
     rintro e w1 ⟨rfl,rfl⟩
     clear h1
     go_wp2_with fail
     refine((h2 _).out).mono ?_
     rintro e w2 ⟨rfl,rfl⟩
     go_wp2_with fail
     refine((h3 _).out).mono ?_
     rintro e w3 ⟨rfl,rfl⟩
     go_wp2
     go_ret
     exact⟨ay Hf.out.symm,hbv⟩
  ·rw[show decide (-8≤q∧q≤8)=false from decide_eq_false hq]at h2 HR
   have Hf:Hid (res=false):=Lib.hid (by rw[HR.out];simp)
   go_enter Tryz.func35,Tryz.ntmps35
   go_wp2
   refine wqf fun u=> ?_
   have hbu:Below W.heap.size W u.val:=bel
   have zbu:=Nat.lt_of_lt_of_le zb hbu.size
   have cu0:=ab hbu c0
   have cu1:=ab hbu c1
   have cu2:=ab hbu c2
   clear c0 c1 c2 zb
   go_wp2
   refine wqf fun u=> ?_
   have hbv:Below W.heap.size W u.val:=bel
   have zbv:=Nat.lt_of_lt_of_le zbu u.below.size
   have cv0:=ab u.below cu0
   clear cu0 cu1 cu2
   go_wp2_with fail
   refine((h1 _).out).mono ?_
   rintro e w1 ⟨rfl,rfl⟩
   clear h1
   go_wp2_with fail
   refine((h2 _).out).mono ?_
   rintro e w2 ⟨rfl,rfl⟩
   go_wp2
   go_ret
   exact⟨ay Hf.out.symm,hbv⟩
 ·rw[show decide (1≤p∧p≤8)=false from decide_eq_false hp]at h1 HR
  have Hf:Hid (res=false):=Lib.hid (by rw[HR.out];simp)
  go_enter Tryz.func35,Tryz.ntmps35
  go_wp2
  refine wqf fun u=> ?_
  have hbu:Below W.heap.size W u.val:=bel
  have zbu:=Nat.lt_of_lt_of_le zb hbu.size
  have cu0:=ab hbu c0
  have cu1:=ab hbu c1
  have cu2:=ab hbu c2
  clear c0 c1 c2 zb
  go_wp2
  refine wqf fun u=> ?_
  have hbv:Below W.heap.size W u.val:=bel
  have zbv:=Nat.lt_of_lt_of_le zbu u.below.size
  have cv0:=ab u.below cu0
  clear cu0 cu1 cu2
  go_wp2_with fail
  refine((h1 _).out).mono ?_
  rintro e w1 ⟨rfl,rfl⟩
  clear h1
  go_wp2
  go_ret
  exact⟨ay Hf.out.symm,hbv⟩
set_option maxRecDepth 100000 in
theorem vU (l w t:Int) (nv:Value) (n:List Int) (W:World) (hn:Ints W nv n) (hl:3≤n.length) (hm:n.length≤1000000) (hb:∀x∈n, -1000000≤x∧x≤1000000) (hL:1≤l∧l≤1000000):
  Calls Tryz.prog 35 #[vJ 5 l w t nv] W (Ret W (.bool (bF l w n))):=by
 have hr:=fun W' h=>Lib.hid (lE l w t nv n W' (hn.below (w':=W') h) hl hm hb hL)
 generalize bF l w n=r at*
 unfold vJ at*
 obtain⟨b,off,c,rfl,hc,zb,hi⟩:=hn.at' (by omega)
 generalize n.length=q at*
 clear hn hi hb hm
 go_enter Tryz.func35,Tryz.ntmps35
 go_wp2
 refine wqf fun u=> ?_
 go_wp2_with fail
 refine((hr _ bel).out).mono ?_
 rintro e w1 ⟨rfl,hb1⟩
 go_wp2
 go_ret
 exact⟨rfl,ae bel hb1⟩
set_option maxRecDepth 100000 in
theorem vV (l w t:Int) (nv:Value) (n:List Int) (W:World) (m:Nat) (hn:Ints W nv n) (hm:n.length=6+2*m) (h1:1≤m) (hl:m≤1000) (hb:∀x∈n, -1000000≤x∧x≤1000000) (hL: -1000000≤l∧l≤1000000) (hT: -1000000≤t∧t≤1000000):
  Calls Tryz.prog 35 #[vJ 8 l w t nv] W (Ret W (.bool (bQ l w t n))):=by
 have hr:=fun W' h=>Lib.hid (kx l w t nv n W' m (hn.below (w':=W') h) hm h1 hl hb hL hT)
 generalize bQ l w t n=r at*
 unfold vJ at*
 obtain⟨b,off,c,rfl,hc,zb,hi⟩:=hn.at' (by omega)
 generalize n.length=q at*
 clear hn hi hb hm
 go_enter Tryz.func35,Tryz.ntmps35
 go_wp2
 refine wqf fun u=> ?_
 go_wp2_with fail
 refine((hr _ bel).out).mono ?_
 rintro e w1 ⟨rfl,hb1⟩
 go_wp2
 go_ret
 exact⟨rfl,ae bel hb1⟩
theorem tL (n:List Int) (w:Int) (h:1≤n.length):aD ([0]++n++[w])=(decide (0<n.getD 0 0)&&aD n&&decide (n.getD (n.length-1) 0<w)):=by
 have key:∀(n:List Int),1≤n.length→aD (n++[w])=(aD n&&decide (n.getD (n.length-1) 0<w)):=by
  intro n
  induction n with
  |nil=>intro h;simp at h
  |cons x n ih=>
   intro _
   cases n with
   |nil=>simp[aD]
   |cons y n=>
    have:=ih (by simp)
    simp only[List.cons_append,aD]at this ⊢
    rw[this,Bool.and_assoc]
    congr 2
 cases n with
 |nil=>simp at h
 |cons x n=>
  have:=key (x::n) (by simp)
  simp only[List.cons_append,List.nil_append,aD]at this ⊢
  rw[this,Bool.and_assoc]
  rfl
set_option maxRecDepth 100000 in
theorem vW (l w t:Int) (nv:Value) (n:List Int) (W:World) (hn:Ints W nv n) (h1:1≤n.length) (hl:n.length≤1000):
  Calls Tryz.prog 35 #[vJ 7 l w t nv] W (Ret W (.bool (aD ([0]++n++[w])))):=by
 rw[tL n w h1]
 have hr:=fun W' h=>Lib.hid (bY nv n W' (hn.below (w':=W') h) (by omega))
 generalize aD n=r at*
 unfold vJ
 obtain⟨b,off,c,rfl,hc,zb,hi⟩:=hn.at' (by omega)
 have c0:=hi 0 (by omega)
 have cl:=hi (n.length-1) (by omega)
 rw[Nat.add_zero]at c0
 obtain⟨q,Hq⟩:∃q,Hid (n.length=q+1):=⟨n.length-1,Lib.hid (by omega)⟩
 rw[show n.length-1=q by have:=Hq.out;omega]at cl ⊢
 rw[Hq.out]at hr ⊢
 have hq9:q≤1000:=by have:=Hq.out;omega
 generalize n.getD 0 0=x at*
 generalize n.getD q 0=y at*
 clear hn hi hc h1 hl
 have n0:(0:Int)<((q+1:Nat):Int):=by omega
 by_cases hx:0<x
 ·have hxd:decide (0<x)=true:=decide_eq_true hx
  cases r
  ·go_enter Tryz.func35,Tryz.ntmps35
   go_wp2
   refine wqf fun u=> ?_
   have hbu:Below W.heap.size W u.val:=bel
   have c0:=ab hbu c0
   have cl:=ab hbu cl
   have zbu:=Nat.lt_of_lt_of_le zb hbu.size
   go_wp2_with fail
   refine((hr _ hbu).out).mono ?_
   rintro e w1 ⟨rfl,hb1⟩
   go_wp2
   go_ret
   exact⟨ay (by simp),ae hbu hb1⟩
  ·go_enter Tryz.func35,Tryz.ntmps35
   go_wp2
   refine wqf fun u=> ?_
   have hbu:Below W.heap.size W u.val:=bel
   have c0:=ab hbu c0
   have cl:=ab hbu cl
   have zbu:=Nat.lt_of_lt_of_le zb hbu.size
   go_wp2_with fail
   refine((hr _ hbu).out).mono ?_
   rintro e w1 ⟨rfl,hb1⟩
   have cl:=ab hb1 cl
   have zb1:=Nat.lt_of_lt_of_le zbu hb1.size
   go_wp2
   go_ret
   exact⟨ay (by simp[hx]),ae hbu hb1⟩
 ·have hxd:decide (0<x)=false:=decide_eq_false hx
  clear hr
  go_enter Tryz.func35,Tryz.ntmps35
  go_wp2
  refine wqf fun u=> ?_
  have hbu:Below W.heap.size W u.val:=bel
  have c0:=ab hbu c0
  have zbu:=Nat.lt_of_lt_of_le zb hbu.size
  go_wp2
  go_ret
  exact⟨ay (by rw[decide_eq_false (by omega)];simp),hbu⟩
theorem rA (k l w t:Int) (nv:Value) (n:List Int) (W:World) (hk:0≤k∧k≤10) (hn:Ints W nv n) (h24:n.length≤24) (hc:Bf k n.length=true)
  (hs:bB 1 100000 [l,w,t]=true) (hw:bB (-100000) 100000 n=true):
  Calls Tryz.prog 35 #[vJ k l w t nv] W (Ret W (.bool (cU k l w t n))):=by
 rw[cC]at hs hw
 have hL:=hs l (by simp)
 have hW:=hs w (by simp)
 have hT:=hs t (by simp)
 have hb:∀x∈n, -1000000≤x∧x≤1000000:=fun x hx=>by have:=hw x hx;omega
 have hB:∀i,i<n.length→ -1000000≤n.getD i 0∧n.getD i 0≤1000000:=fun i h=>by rw[←cS n i h];exact hb _ (List.getElem_mem h)
 obtain⟨a0,a1,a2,a3,a4,a5,a6,a7,a8,a9,a10⟩:=Ba hc hk
 rcases(by omega:k=0∨k=1∨k=2∨k=3∨k=4∨k=5∨k=6∨k=7∨k=8∨k=9∨k=10)with rfl|rfl|rfl|rfl|rfl|rfl|rfl|rfl|rfl|rfl|rfl
 ·exact vM l w t nv n W hn (a0 rfl)
 ·exact vL l w t nv n W hn (a1 rfl)
 ·exact vN l w t nv n W hn (a2 rfl)
 ·exact vO l w t nv n W hn (a3 rfl) ⟨hB 0 (by have:=a3 rfl;omega),hB 1 (by have:=a3 rfl;omega)⟩
 ·exact vP l w t nv n W hn (a4 rfl) ⟨hB 0 (by have:=a4 rfl;omega),hB 1 (by have:=a4 rfl;omega)⟩
 ·exact vU l w t nv n W hn (a5 rfl) (by omega) hb (by omega)
 ·exact vT l w t nv n W hn (a6 rfl) hb (by omega)
 ·exact vW l w t nv n W hn (a7 rfl) (by omega)
 ·have:=a8 rfl
  exact vV l w t nv n W ((n.length-6) / 2) hn (by omega) (by omega) (by omega) hb (by omega) (by omega)
 ·exact vQ l w t nv n W hn (a9 rfl) (by omega) hb
 ·exact tI l w t nv n W hn (a10 rfl)
set_option maxRecDepth 100000 in
theorem rB (k l w t:Int) (nv:Value) (n:List Int) (W:World) (hn:Ints W nv n) (hm:n.length≤1000000):
  Calls Tryz.prog 10 #[vJ k l w t nv] W (Ret W (.int .i64 (ky k l w t n))):=by
 have h1:=fun W'=>Lib.hid (mC k l w t W')
 have HN:=Lib.hid hn
 have HR:Hid (ef k l w t=0→n.length≤24→Bf k n.length=true→bB (-100000) 100000 n=true→∀W',Below W.heap.size W W'→Calls Tryz.prog 35 #[vJ k l w t nv] W' (Ret W' (.bool (cU k l w t n)))):=Lib.hid (fun hbx h24 hc hw W' hb=>by
  obtain⟨hk,hwi⟩:(0≤k∧k≤10)∧bB 1 100000 [l,w,t]=true:=by
   unfold ef at hbx
   split at hbx
   ·assumption
   ·simp at hbx
  exact rA k l w t nv n W' hk (hn.below hb) h24 hc hwi hw)
 have HE:Hid (ky k l w t n=if ef k l w t≠0 then 2 else if 24<n.length then 8 else if Bf k n.length=false then 10 else if bB (-100000) 100000 n=false then 2 else if cU k l w t n=false then 3 else 0):=Lib.hid rfl
 generalize cU k l w t n=rb at*
 generalize ky k l w t n=res at*
 unfold vJ at*
 obtain⟨a,m,c,rfl,hlen,hc,hx⟩:=hn
 obtain⟨V,HV⟩:∃V,Hid (W.alloc (.cells #[.int .i64 k, .int .i64 l, .int .i64 w, .int .i64 t, .slice a m c] 25)=V):=⟨_,Lib.hid rfl⟩
 have hV:Below W.heap.size W V:=by rw[←HV.out];exact bel
 have v0:V.cell? ⟨W.heap.size,0,none⟩=some (.int .i64 k):=by rw[←HV.out];exact(aq rfl 0).trans rfl
 have v1:V.cell? ⟨W.heap.size,1,none⟩=some (.int .i64 l):=by rw[←HV.out];exact(aq rfl 1).trans rfl
 have v2:V.cell? ⟨W.heap.size,2,none⟩=some (.int .i64 w):=by rw[←HV.out];exact(aq rfl 2).trans rfl
 have v3:V.cell? ⟨W.heap.size,3,none⟩=some (.int .i64 t):=by rw[←HV.out];exact(aq rfl 3).trans rfl
 have v4:V.cell? ⟨W.heap.size,4,none⟩=some (.slice a m c):=by rw[←HV.out];exact(aq rfl 4).trans rfl
 have zV:=World.block_lt_of_cell? V _ v0
 simp only at zV
 have Hlen:=Lib.hid hlen
 rw[hlen]at hm HE
 clear hlen hc
 by_cases hbx:ef k l w t=0
 ·have HR1:=Lib.hid (HR.out hbx)
  rw[hbx]at h1 HE
  by_cases h24:24<m
  ·have He:Hid (res=8):=Lib.hid (by rw[HE.out];simp[h24])
   have m24:(24:Int)<(m:Int):=by omega
   clear hx HR HR1 HN
   go_enter Tryz.func10,Tryz.ntmps10
   go_wp2_with fail
   rw[HV.out]
   refine((h1 _).out).mono ?_
   rintro e w1 ⟨rfl,hb1⟩
   have d0:=ab hb1 v0
   have d1:=ab hb1 v1
   have d2:=ab hb1 v2
   have d3:=ab hb1 v3
   have d4:=ab hb1 v4
   have z1:=Nat.lt_of_lt_of_le zV hb1.size
   go_wp2
   go_ret
   exact⟨aK He.out.symm,ae hV hb1⟩
  ·have hk:0≤k∧k≤10:=by
    unfold ef at hbx
    split at hbx
    ·rename_i h;exact h.1
    ·simp at hbx
   have h2:=fun W'=>Lib.hid (tH k m W' hk)
   have HR2:=Lib.hid (HR1.out (by have:=Hlen.out;omega))
   rw[Hlen.out]at HR2
   clear HR HR1 hbx
   cases hcn:Bf k m with
   |false=>
    have He:Hid (res=10):=Lib.hid (by rw[HE.out];simp[h24,hcn])
    rw[hcn]at h2
    clear hcn HR2 hx HN
    go_enter Tryz.func10,Tryz.ntmps10
    go_wp2_with fail
    rw[HV.out]
    refine((h1 _).out).mono ?_
    rintro e w1 ⟨rfl,hb1⟩
    have d0:=ab hb1 v0
    have d1:=ab hb1 v1
    have d2:=ab hb1 v2
    have d3:=ab hb1 v3
    have d4:=ab hb1 v4
    have z1:=Nat.lt_of_lt_of_le zV hb1.size
    go_wp2_with fail
    refine((h2 _).out).mono ?_
    rintro e w2 ⟨rfl,hb2⟩
    go_wp2
    go_ret
    exact⟨aK He.out.symm,ae hV (ae hb1 hb2)⟩
   |true=>
    have HR3:=Lib.hid (HR2.out hcn)
    rw[hcn]at h2 HE
    clear hcn HR2
    have Hbad:Hid (∀i,i<n.length→¬(-100000≤n.getD i 0∧n.getD i 0≤100000)→res=2):=Lib.hid (fun i hi hbad=>by
     have:bB (-100000) 100000 n=false:=by
      rw[Bool.eq_false_iff]
      intro h
      rw[cC]at h
      refine hbad ?_
      rw[←cS n i hi]
      exact h _ (List.getElem_mem hi)
     rw[HE.out];simp[h24,this])
    have Hgood:Hid ((∀i,i<n.length→ -100000≤n.getD i 0∧n.getD i 0≤100000)→bB (-100000) 100000 n=true):=Lib.hid (fun h=>by
     rw[cC]
     intro x hx
     obtain⟨i,hi,rfl⟩:=List.getElem_of_mem hx
     rw[cS n i hi]
     exact h i hi)
    have hw:=fun x W'=>Lib.hid (de x (-100000) 100000 W')
    go_enter Tryz.func10,Tryz.ntmps10
    go_wp2_with fail
    rw[HV.out]
    refine((h1 _).out).mono ?_
    rintro e w1 ⟨rfl,hb1⟩
    have d0:=ab hb1 v0
    have d1:=ab hb1 v1
    have d2:=ab hb1 v2
    have d3:=ab hb1 v3
    have d4:=ab hb1 v4
    have z1:=Nat.lt_of_lt_of_le zV hb1.size
    go_wp2_with fail
    refine((h2 _).out).mono ?_
    rintro e w2 ⟨rfl,hb2⟩
    have hb12:=ae hb1 hb2
    clear d0 d1 d2 d3 d4 z1 h1 h2 hb1 hb2
    go_wp2
    go_loopw [4] (fun i wr=>∃j:Nat,j≤m∧i= .int .i64 j∧Below V.heap.size V wr∧Hid (∀i,i<j→ -100000≤n.getD i 0∧n.getD i 0≤100000)) (fun i _=>m-(intOf i).toNat)
    case atStart=>exact⟨0,by omega,rfl,hb12,Lib.hid (fun i h=>by omega)⟩
    case round=>
     clear hb12
     obtain⟨j,hj,rfl,hbj,HZ⟩:=hrel
     have d4:=ab hbj v4
     have zj:=Nat.lt_of_lt_of_le zV hbj.size
     by_cases hlt:j<m
     ·obtain⟨b,off,rfl,hi⟩:=hx (by omega)
      have cj:=ab hbj (ab hV (hi j (by have:=Hlen.out;omega)))
      rw[cS n j (by have:=Hlen.out;omega)]at cj
      have zb:=World.block_lt_of_cell? wr _ cj
      simp only at zb
      have hw':=hw (n.getD j 0)
      have HB:=Lib.hid (Hbad.out j (by have:=Hlen.out;omega))
      obtain⟨x,Hx⟩:∃x,Hid (n.getD j 0=x):=⟨_,Lib.hid rfl⟩
      rw[Hx.out]at cj hw' HB
      clear hi hx hw
      by_cases hxx: -100000≤x∧x≤100000
      ·rw[show decide (-100000≤x∧x≤100000)=true from decide_eq_true hxx]at hw'
       go_wp2_with fail
       refine((hw' _).out).mono ?_
       rintro e w3 ⟨rfl,rfl⟩
       go_wp2
       go_roundw
       case rel=>exact⟨j+1,by omega,by go_num,hbj,Lib.hid (fun i hi=>by
        by_cases e:i=j
        ·subst e;rw[Hx.out];exact hxx
        ·exact HZ.out i (by omega))⟩
       case measure=>simp[intOf];omega
      ·rw[show decide (-100000≤x∧x≤100000)=false from decide_eq_false hxx]at hw'
       have Hf:=Lib.hid (HB.out hxx)
       go_wp2_with fail
       refine((hw' _).out).mono ?_
       rintro e w3 ⟨rfl,rfl⟩
       go_wp2
       go_ret
       exact⟨aK Hf.out.symm,ae hV hbj⟩
     ·have hwt:=Hgood.out (fun i hi=>HZ.out i (by have:=Hlen.out;omega))
      have HR4:=Lib.hid (HR3.out hwt wr (ae hV hbj))
      have He:Hid (res=if rb=false then 3 else 0):=Lib.hid (by rw[HE.out];simp[h24,hwt])
      have d0:=ab hbj v0
      have d1:=ab hbj v1
      have d2:=ab hbj v2
      have d3:=ab hbj v3
      clear hwt hx hw HR3 HZ Hgood Hbad
      cases rb
      ·go_wp2_with fail
       refine(HR4.out).mono ?_
       rintro e w3 ⟨rfl,hb3⟩
       go_wp2
       go_ret
       exact⟨aK He.out.symm,ae hV (ae hbj hb3)⟩
      ·go_wp2_with fail
       refine(HR4.out).mono ?_
       rintro e w3 ⟨rfl,hb3⟩
       go_wp2
       go_ret
       exact⟨aK He.out.symm,ae hV (ae hbj hb3)⟩
 ·have He:Hid (res=2):=Lib.hid (by rw[HE.out];simp[hbx])
  have:ef k l w t=2:=by unfold ef at hbx ⊢;split at hbx<;>simp_all
  rw[this]at h1
  clear this hbx HR hx HN HE
  go_enter Tryz.func10,Tryz.ntmps10
  go_wp2_with fail
  rw[HV.out]
  refine((h1 _).out).mono ?_
  rintro e w1 ⟨rfl,hb1⟩
  have d0:=ab hb1 v0
  have d1:=ab hb1 v1
  have d2:=ab hb1 v2
  have d3:=ab hb1 v3
  have d4:=ab hb1 v4
  have z1:=Nat.lt_of_lt_of_le zV hb1.size
  go_wp2
  go_ret
  exact⟨aK He.out.symm,ae hV hb1⟩
set_option maxRecDepth 100000 in
theorem mD (k l w t:Int) (nv:Value) (n:List Int) (W:World) (hn:Ints W nv n) (hm:n.length≤1000000) (h8:k=8→8≤n.length∧n.length % 2=0):
  Calls Tryz.prog 13 #[vJ k l w t nv] W (Ret W (.int .i64 (aV k n))):=by
 unfold vJ
 obtain⟨a,m,c,rfl,hlen,hc,hx⟩:=hn
 by_cases hk:k=8
 ·subst hk
  obtain⟨h6,h2⟩:=h8 rfl
  rw[show aV 8 n=(n.length-6) / 2 from rfl,hlen]
  obtain⟨q,rfl⟩:∃q,m=6+2*q:=⟨(m-6) / 2,by omega⟩
  rw[show(6+2*q-6) / 2=q by omega]
  have hq9:q≤1000000:=by omega
  clear h8 hx hlen h6 h2 hc
  have e1:(6+2*(q:Int)-6)=2*(q:Int):=by omega
  go_enter Tryz.func13,Tryz.ntmps13
  go_wp2
  go_ret
  exact⟨aK (by omega),bel⟩
 ·have hk':(k==8)=false:=by simpa using hk
  clear h8 hx
  by_cases h9:k=9
  ·subst h9
   go_enter Tryz.func13,Tryz.ntmps13
   go_wp2
   go_ret
   exact⟨rfl,bel⟩
  ·have h9':(k==9)=false:=by simpa using h9
   go_enter Tryz.func13,Tryz.ntmps13
   go_wp2
   go_ret
   exact⟨aK (by simp[aV,hk,h9]),bel⟩
structure Good (k l w t:Int) (n:List Int):Prop where
 kind:0≤k∧k≤10
 size:bB 1 100000 [l,w,t]=true
 len:n.length≤24
 cnt:Bf k n.length=true
 rng:bB (-100000) 100000 n=true
 right:cU k l w t n=true
theorem lJ {k l w t:Int} {n:List Int} (h:ky k l w t n=0):Good k l w t n:=by
 unfold ky eF at h
 split at h
 ·simp at h
 ·rename_i h1
  split at h
  ·simp at h
  ·rename_i h2
   split at h
   ·simp at h
   ·rename_i h3
    split at h
    ·simp at h
    ·rename_i h4
     split at h
     ·simp at h
     ·rename_i h5
      have hb:ef k l w t=0:=by simpa using h1
      unfold ef at hb
      split at hb
      ·rename_i h6
       exact⟨h6.1,h6.2,by omega,by simpa using h3,by simpa using h4,by simpa using h5⟩
      ·simp at hb
theorem Good.h8 {k l w t:Int} {n:List Int} (h:Good k l w t n) (h8:k=8):8≤n.length∧n.length % 2=0:=(Ba h.cnt h.kind).2.2.2.2.2.2.2.2.1 h8
end
section
open Go.RowKit
set_option linter.unusedSectionVars false
def aP (l w t:Int):List Q4:=[axP 0 (-1) (-0),axP 0 1 l,axP 1 (-1) (-0),axP 1 1 w,axP 2 (-1) (-0),axP 2 1 t]
theorem ou (l w t:Int):aP l w t=[(-1,0,0,0),(1,0,0,l),(0, -1,0,0),(0,1,0,w),(0,0, -1,0),(0,0,1,t)]:=by simp[aP,axP]
theorem boxP_mem {l w t:Int} {c:List Q4} {p:Q4}:p∈fU l w t c↔p∈c∨p∈aP l w t:=by
 simp[fU,aP]
structure Cell (l w t:Int) (c e:List Q4):Prop where
 len:c.length≤10
 ok:∀p∈c,cI p
 sub:∀p∈c,p∈e∨p∈aP l w t
 sup:∀p∈e,p∈c∨p∈aP l w t
 pt:∃(x:Q3) (W:Int),0<W∧(∀p∈c,0<slk p x W)∧(0<x.1∧x.1<l*W)∧(0<x.2.1∧x.2.1<w*W)∧(0<x.2.2∧x.2.2<t*W)
theorem rC {l w t:Int} (hl:1≤l∧l≤100000) (hw:1≤w∧w≤100000) (ht:1≤t∧t≤100000):∀p∈aP l w t,cI p:=by
 rw[ou]
 simp only[List.forall_mem_cons,cI,bI]
 refine⟨by omega,by omega,by omega,by omega,by omega,by omega,fun _ h=>by cases h⟩
theorem Cell.eq {l w t:Int} {c e:List Q4} (h:Cell l w t c e) (hl:1≤l∧l≤100000) (hw:1≤w∧w≤100000) (ht:1≤t∧t≤100000):dr l w t c=ch (aP l w t++e):=by
 have hb:=rC hl hw ht
 have hok:∀p∈Lib.compact (fU l w t c),cI p:=fun p hp=>by
  rcases boxP_mem.1 ((fd _ _).1 hp)with h1|h1
  ·exact h.ok p h1
  ·exact hb p h1
 have he:∀p∈aP l w t++e,cI p:=fun p hp=>by
  rcases List.mem_append.1 hp with h1|h1
  ·exact hb p h1
  ·rcases h.sup p h1 with h2|h2
   ·exact h.ok p h2
   ·exact hb p h2
 have hset:∀p,p∈Lib.compact (fU l w t c)↔p∈aP l w t++e:=fun p=>by
  rw[fd,boxP_mem,List.mem_append]
  constructor
  ·rintro(h1|h1)
   ·rcases h.sub p h1 with h2|h2
    ·exact Or.inr h2
    ·exact Or.inl h2
   ·exact Or.inl h1
  ·rintro(h1|h1)
   ·exact Or.inr h1
   ·exact h.sup p h1
 have hB:HasBox (Lib.compact (fU l w t c)) l w t:=by
  have hm:∀p∈aP l w t,p∈Lib.compact (fU l w t c):=fun p hp=>(hset p).2 (List.mem_append_left _ hp)
  rw[ou]at hm
  exact⟨hm _ (by simp),hm _ (by simp),hm _ (by simp),hm _ (by simp),hm _ (by simp),hm _ (by simp)⟩
 obtain⟨x,W,hW,hin,h1,h2,h3⟩:=h.pt
 have h0:bK (Lib.compact (fU l w t c))=0:=by
  refine pD hB (Nat.le_trans (eR _) ?_) hok hl hw ht x W hW fun p hp=> ?_
  ·have:=h.len
   simp[fU]
   omega
  ·rcases boxP_mem.1 ((fd _ _).1 hp)with h4|h4
   ·exact hin p h4
   ·rw[ou]at h4
    simp only[List.mem_cons,List.mem_nil_iff,or_false]at h4
    rcases h4 with rfl|rfl|rfl|rfl|rfl|rfl<;>simp[slk,bj,nrm]<;>omega
 unfold dr jB
 rw[if_pos h0,xF _ he]
 exact pE hset (fun p hp=>(hok p hp).1)
def Cells (l w t:Int):List (List Q4)→List (List Q4)→Prop
 | [],[]=>True
 |c::cs,e::es=>Cell l w t c e∧Cells l w t cs es
 |_,_=>False
theorem Cells.eq {l w t:Int} (hl:1≤l∧l≤100000) (hw:1≤w∧w≤100000) (ht:1≤t∧t≤100000):∀{cs es:List (List Q4)},Cells l w t cs es→cs.map (dr l w t)=es.map (fun e=>ch (aP l w t++e))
 | [],[],_=>rfl
 |c::cs,e::es,h=>by simp only[List.map_cons];rw[h.1.eq hl hw ht,Cells.eq hl hw ht h.2]
 | [],_::_,h=>h.elim
 |_::_,[],h=>h.elim
theorem Cells.append {l w t:Int}:∀{cs es cs' es':List (List Q4)},Cells l w t cs es→Cells l w t cs' es'→Cells l w t (cs++cs') (es++es')
 | [],[],_,_,_,h=>h
 |_::_,_::_,_,_,h,h'=>⟨h.1,Cells.append h.2 h'⟩
 | [],_::_,_,_,h,_=>h.elim
 |_::_,[],_,_,h,_=>h.elim
theorem Cells.map {l w t:Int} {α:Type} (f g:α→List Q4):∀(xs:List α),(∀x∈xs,Cell l w t (f x) (g x))→Cells l w t (xs.map f) (xs.map g)
 | [],_=>trivial
 |x::xs,h=>⟨h x (by simp),Cells.map f g xs (fun y hy=>h y (by simp[hy]))⟩
theorem Cells.flat {l w t:Int} {α:Type} (f g:α→List (List Q4)):∀(xs:List α),(∀x∈xs,Cells l w t (f x) (g x))→Cells l w t (xs.flatMap f) (xs.flatMap g)
 | [],_=>trivial
 |x::xs,h=>by
  rw[List.flatMap_cons,List.flatMap_cons]
  exact(h x (by simp)).append (Cells.flat f g xs (fun y hy=>h y (by simp[hy])))
def leP (ax:Nat) (n:Int):Q4:=axP ax 1 n
def geP (ax:Nat) (n:Int):Q4:=axP ax (-1) (-n)
def btP (ax:Nat) (lo hi:Int):List Q4:=[axP ax (-1) (-lo),axP ax 1 hi]
def trP (p:Q4):Q4:=(-p.1, -p.2.1, -p.2.2.1, -p.2.2.2)
theorem bL {l w t:Int} {c e:List Q4} (x y z W:Int) (h1:c.length≤10:=by simp[btP]) (h2:∀p∈c,cI p:=by(simp only[btP,leP,geP,trP,axP,List.cons_append,List.nil_append,List.append_nil,List.forall_mem_cons,cI,bI,List.not_mem_nil,false_implies,implies_true,and_true,reduceIte,Nat.reduceEqDiff,Nat.one_ne_zero,Nat.zero_ne_one];omega))
  (h3:∀p∈c,p∈e∨p∈aP l w t:=by simp[btP,leP,geP,trP,axP,aP]) (h4:∀p∈e,p∈c∨p∈aP l w t:=by simp[btP,leP,geP,trP,axP,aP]) (h5:0<W:=by omega)
  (h6:∀p∈c,0<slk p (x,y,z) W:=by(simp[btP,leP,geP,trP,axP,slk,bj,nrm]<;>omega)) (h7:0<x∧x<l*W:=by omega) (h8:0<y∧y<w*W:=by omega) (h9:0<z∧z<t*W:=by omega):Cell l w t c e:=
 ⟨h1,h2,h3,h4,(x,y,z),W,h5,h6,h7,h8,h9⟩
section
variable {l w t:Int} (hl:1≤l∧l≤100000) (hw:1≤w∧w≤100000) (ht:1≤t∧t≤100000)
include hl hw ht
theorem Ag {a:Int} (h:0<a∧a<t):Cells l w t [[geP 2 a]] [btP 2 a t]:=by
 refine⟨?_,trivial⟩
 exact bL (l) (w) (a+t) (2)
theorem Ah {a:Int} (h:0<a∧a<t):Cells l w t [[leP 2 a]] [btP 2 0 a]:=by
 refine⟨?_,trivial⟩
 exact bL (l) (w) (a) (2)
theorem Ai {a b:Int} (h:0<a∧a<b∧b<t):Cells l w t [[leP 2 a],[geP 2 b]] [btP 2 0 a,btP 2 b t]:=by
 refine⟨?_, ?_,trivial⟩
 ·exact bL (l) (w) (a) (2)
 ·exact bL (l) (w) (b+t) (2)
theorem Aj {a b:Int} (h:0<a∧a<b∧b<t):Cells l w t [btP 2 a b] [btP 2 a b]:=by
 refine⟨?_,trivial⟩
 exact bL (l) (w) (a+b) (2)
theorem Ak {a b c d:Int} (h:0<a∧a<b∧b<w) (h2:0<c∧c<d∧d<t):Cells l w t [btP 1 a b++btP 2 c d] [btP 1 a b++btP 2 c d]:=by
 refine⟨?_,trivial⟩
 exact bL (l) (a+b) (c+d) (2)
theorem qe {a b c d:Int} (h:0<a∧a<b∧b<w) (h2:0<c∧c<d∧d<t):Cells l w t
  [[leP 1 a],[geP 1 b],btP 1 a b++[leP 2 c],btP 1 a b++[geP 2 d]] [btP 1 0 a,btP 1 b w,btP 1 a b++btP 2 0 c,btP 1 a b++btP 2 d t]:=by
 refine⟨?_, ?_, ?_, ?_,trivial⟩
 ·exact bL (l) (a) (t) (2)
 ·exact bL (l) (b+w) (t) (2)
 ·exact bL (l) (a+b) (c) (2)
 ·exact bL (l) (a+b) (d+t) (2)
theorem Al {e a b c d:Int} (he:0<e∧e<l) (h:0<a∧a<b∧b<w) (h2:0<c∧c<d∧d<t):Cells l w t [[geP 0 e]++(btP 1 a b++btP 2 c d)] [btP 0 e l++btP 1 a b++btP 2 c d]:=by
 refine⟨?_,trivial⟩
 exact bL (e+l) (a+b) (c+d) (2)
theorem Am {e a b c d:Int} (he:0<e∧e<l) (h:0<a∧a<b∧b<w) (h2:0<c∧c<d∧d<t):Cells l w t [[leP 0 e]++(btP 1 a b++btP 2 c d)] [btP 0 0 e++btP 1 a b++btP 2 c d]:=by
 refine⟨?_,trivial⟩
 exact bL (e) (a+b) (c+d) (2)
theorem An {e c d:Int} (he:0<e∧e<l) (h2:0<c∧c<d∧d<t):Cells l w t [[geP 0 e]++btP 2 c d] [btP 0 e l++btP 2 c d]:=by
 refine⟨?_,trivial⟩
 exact bL (e+l) (w) (c+d) (2)
theorem Ao {e c d:Int} (he:0<e∧e<l) (h2:0<c∧c<d∧d<t):Cells l w t [[leP 2 c],[geP 2 d],[leP 0 e]++btP 2 c d] [btP 2 0 c,btP 2 d t,btP 0 0 e++btP 2 c d]:=by
 refine⟨?_, ?_, ?_,trivial⟩
 ·exact bL (l) (w) (c) (2)
 ·exact bL (l) (w) (d+t) (2)
 ·exact bL (e) (w) (c+d) (2)
theorem ck7 {a b:Int} (h:0≤a∧a<b∧b≤w):Cell l w t (btP 1 a b) (btP 1 a b):=by
 exact bL (l) (a+b) (t) (2)
theorem Ap {a p q e:Int} (hp:1≤p∧p≤8) (hq: -8≤q∧q≤8) (he:q*t=p*e) (h0:e≠0) (ha:0≤a∧a≤l) (hb:0≤a+e∧a+e≤l) (hd: -10000000≤p*a∧p*a≤10000000):
  Cells l w t [[trP (p,0, -q,p*a)]] [[(-p,0,q, -(p*a))]]:=by
 have h1:0<p*(2*a+e):=Int.mul_pos (by omega) (by omega)
 have h2:0<p*(2*l-2*a-e):=Int.mul_pos (by omega) (by omega)
 refine⟨⟨by simp, ?_, ?_, ?_,(2*a+e+2*l,2*w,2*t),4,by omega, ?_,by dsimp only;omega,by dsimp only;omega,by dsimp only;omega⟩,trivial⟩
 ·simp[trP,cI,bI];omega
 ·simp[trP]
 ·simp[trP]
 ·simp[trP,slk,bj,nrm];grind
theorem Aq {a p q e:Int} (hp:1≤p∧p≤8) (hq: -8≤q∧q≤8) (he:q*t=p*e) (h0:e≠0) (ha:0≤a∧a≤l) (hb:0≤a+e∧a+e≤l) (hd: -10000000≤p*a∧p*a≤10000000):
  Cells l w t [[(p,0, -q,p*a)]] [[(p,0, -q,p*a)]]:=by
 have h1:0<p*(2*a+e):=Int.mul_pos (by omega) (by omega)
 refine⟨⟨by simp, ?_, ?_, ?_,(2*a+e,2*w,2*t),4,by omega, ?_,by dsimp only;omega,by dsimp only;omega,by dsimp only;omega⟩,trivial⟩
 ·simp[cI,bI];omega
 ·simp
 ·simp
 ·simp[slk,bj,nrm];grind
theorem Ar {c h d a b:Int} (hlw:l=w) (hh:0<h∧0<d∧h+d≤c∧c+h+d≤2*l) (hz:0<a∧a<b∧b<t):Cells l w t
  [[(-1,1,0,0)]++[leP 2 a],[(-1,1,0,0)]++[geP 2 b],[(-1,1,0,0)]++btP 2 a b++[(1,1,0,c-h)],[(-1,1,0,0)]++btP 2 a b++[trP (1,1,0,c+h)],[(-1,1,0,0)]++btP 2 a b++[trP (1,1,0,c-h),(1,1,0,c+h)]++[(-1,1,0, -d)]]
  [[(-1,1,0,0)]++btP 2 0 a,[(-1,1,0,0)]++btP 2 b t,[(-1,1,0,0)]++btP 2 a b++[(1,1,0,c-h)],[(-1,1,0,0)]++btP 2 a b++[(-1, -1,0, -(c+h))],[(-1,1,0,0)]++btP 2 a b++[(-1, -1,0, -(c-h)),(1,1,0,c+h),(-1,1,0, -d)]]:=by
 refine⟨?_, ?_, ?_, ?_, ?_,trivial⟩
 ·exact bL (3*l) (l) (2*a) (4)
 ·exact bL (3*l) (l) (2*b+2*t) (4)
 ·exact bL (2*(c-h)) (c-h) (2*a+2*b) (4)
 ·exact bL (4*l-(2*l-c-h)) (4*l-2*(2*l-c-h)) (2*a+2*b) (4)
 ·exact bL (2*c+2*d+h) (2*c-2*d-h) (2*a+2*b) (4)
theorem As {c h d a b:Int} (hlw:l=w) (hh:0<h∧0<d∧h+d≤c∧c+h+d≤2*l) (hz:0<a∧a<b∧b<t):Cells l w t
  [[(1, -1,0,0)]++[leP 2 a],[(1, -1,0,0)]++[geP 2 b],[(1, -1,0,0)]++btP 2 a b++[(1,1,0,c-h)],[(1, -1,0,0)]++btP 2 a b++[trP (1,1,0,c+h)],[(1, -1,0,0)]++btP 2 a b++[trP (1,1,0,c-h),(1,1,0,c+h)]++[(1, -1,0, -d)]]
  [[(1, -1,0,0)]++btP 2 0 a,[(1, -1,0,0)]++btP 2 b t,[(1, -1,0,0)]++btP 2 a b++[(1,1,0,c-h)],[(1, -1,0,0)]++btP 2 a b++[(-1, -1,0, -(c+h))],[(1, -1,0,0)]++btP 2 a b++[(-1, -1,0, -(c-h)),(1,1,0,c+h),(1, -1,0, -d)]]:=by
 refine⟨?_, ?_, ?_, ?_, ?_,trivial⟩
 ·exact bL (l) (3*l) (2*a) (4)
 ·exact bL (l) (3*l) (2*b+2*t) (4)
 ·exact bL (c-h) (2*(c-h)) (2*a+2*b) (4)
 ·exact bL (4*l-2*(2*l-c-h)) (4*l-(2*l-c-h)) (2*a+2*b) (4)
 ·exact bL (2*c-2*d-h) (2*c+2*d+h) (2*a+2*b) (4)
theorem Au {c h d a b:Int} (hlw:l=w) (hh:0<h∧0<d∧h+d≤c∧c+h+d≤2*l) (hz:0<a∧a<b∧b<t):Cells l w t
  [[trP (1,1,0,c-h),(1,1,0,c+h)]++[(1, -1,0,d),(-1,1,0,d)]++btP 2 a b] [btP 2 a b++[(-1, -1,0, -(c-h)),(1,1,0,c+h),(-1,1,0,d),(1, -1,0,d)]]:=by
 refine⟨?_,trivial⟩
 exact bL (c) (c) (a+b) (2)
theorem zU {g a b c d:Int} (hg:0<g∧g<t) (h:0<a∧a<b∧b<l) (h2:0<c∧c<d∧d<w):Cells l w t
  [[geP 2 g]++[leP 0 a],[geP 2 g]++[geP 0 b],[geP 2 g]++btP 0 a b++[leP 1 c],[geP 2 g]++btP 0 a b++[geP 1 d]]
  [btP 2 g t++btP 0 0 a,btP 2 g t++btP 0 b l,btP 2 g t++btP 0 a b++btP 1 0 c,btP 2 g t++btP 0 a b++btP 1 d w]:=by
 refine⟨?_, ?_, ?_, ?_,trivial⟩
 ·exact bL (a) (w) (g+t) (2)
 ·exact bL (b+l) (w) (g+t) (2)
 ·exact bL (a+b) (c) (g+t) (2)
 ·exact bL (a+b) (d+w) (g+t) (2)
theorem zY {g a b c d:Int} (hg:0<g∧g<t) (h:0<a∧a<b∧b<l) (h2:0<c∧c<d∧d<w):Cells l w t
  [[leP 2 g]++[leP 0 a],[leP 2 g]++[geP 0 b],[leP 2 g]++btP 0 a b++[leP 1 c],[leP 2 g]++btP 0 a b++[geP 1 d]]
  [btP 2 0 g++btP 0 0 a,btP 2 0 g++btP 0 b l,btP 2 0 g++btP 0 a b++btP 1 0 c,btP 2 0 g++btP 0 a b++btP 1 d w]:=by
 refine⟨?_, ?_, ?_, ?_,trivial⟩
 ·exact bL (a) (w) (g) (2)
 ·exact bL (b+l) (w) (g) (2)
 ·exact bL (a+b) (c) (g) (2)
 ·exact bL (a+b) (d+w) (g) (2)
theorem zZ {a b c d:Int} (h:0<a∧a<b∧b<l) (h2:0<c∧c<d∧d<w):Cells l w t [btP 0 a b++btP 1 c d] [btP 0 a b++btP 1 c d]:=by
 refine⟨?_,trivial⟩
 exact bL (a+b) (c+d) (t) (2)
end
end
section
open Go.RowKit
set_option linter.unusedSectionVars false
section
variable {l w t:Int} (hl:1≤l∧l≤100000) (hw:1≤w∧w≤100000) (ht:1≤t∧t≤100000)
include hl hw ht
theorem Av {s k p q:Int} (hs:1≤s∧s≤8) (hk:l=s*k) (hp:0≤p-k) (hq:0<q) (hpw:p+q+k≤w):
  Cell l w t [(1, -s,0,l-s*p),(1,s,0,l+s*(p+q))] [(1, -s,0,l-s*p),(1,s,0,l+s*(p+q))]:=by
 have hk0:0<k:=by
  rcases(by omega:0<k∨k≤0)with h|h
  ·exact h
  ·have:s*k≤0:=Int.mul_nonpos_of_nonneg_of_nonpos (by omega) h
   omega
 have h1:0<s*q:=Int.mul_pos (by omega) hq
 have b1:=aJ (a:=s) (x:=p) (A:=8) (X:=100000) (by omega) (by omega) (by omega) (by omega)
 have b2:=aJ (a:=s) (x:=p+q) (A:=8) (X:=100000) (by omega) (by omega) (by omega) (by omega)
 have en:=Int.neg_mul s (2*p+q)
 have e1:(l-s*p)*2-(l-s*(2*p+q))=l+s*q:=by grind
 have e2:(l+s*(p+q))*2-(l+s*(2*p+q))=l+s*q:=by grind
 refine⟨by simp, ?_,by simp,by simp,(l,2*p+q,t),2,by omega, ?_,by dsimp only;omega,by dsimp only;omega,by dsimp only;omega⟩
 ·simp[cI,bI];omega
 ·simp[slk,bj,nrm];omega
theorem Aw {s k a b:Int} (hs:1≤s∧s≤8) (hk:l=s*k) (ha:0≤a) (hab:a+2*k≤b) (hb:b≤w):
  Cell l w t [trP (1,s,0,l+s*a),trP (1, -s,0,l-s*b)] [(-1, -s,0, -(l+s*a)),(-1,s,0, -(l-s*b))]:=by
 have hk0:0<k:=by
  rcases(by omega:0<k∨k≤0)with h|h
  ·exact h
  ·have:s*k≤0:=Int.mul_nonpos_of_nonneg_of_nonpos (by omega) h
   omega
 have h1:0≤s*(b-a-2*k):=Int.mul_nonneg (by omega) (by omega)
 have b1:=aJ (a:=s) (x:=a) (A:=8) (X:=100000) (by omega) (by omega) (by omega) (by omega)
 have b2:=aJ (a:=s) (x:=b) (A:=8) (X:=100000) (by omega) (by omega) (by omega) (by omega)
 have e0:s*(b-a-2*k)=s*b-s*a-2*l:=by rw[hk];grind
 have en:=Int.neg_mul s (2*a+2*b)
 have e1:s*(2*a+2*b)=2*(s*a)+2*(s*b):=by grind
 refine⟨by simp, ?_,by simp[trP],by simp[trP],(3*l,2*a+2*b,2*t),4,by omega, ?_,by dsimp only;omega,by dsimp only;omega,by dsimp only;omega⟩
 ·simp[cI,bI,trP];omega
 ·simp[slk,bj,nrm,trP];omega
theorem Ax {s k b:Int} (hs:1≤s∧s≤8) (hk:l=s*k) (hkb:k≤b) (hb:b≤w):
  Cell l w t [trP (1, -s,0,l-s*b)] [(-1,s,0, -(l-s*b))]:=by
 have hk0:0<k:=by
  rcases(by omega:0<k∨k≤0)with h|h
  ·exact h
  ·have:s*k≤0:=Int.mul_nonpos_of_nonneg_of_nonpos (by omega) h
   omega
 have h1:0≤s*(b-k):=Int.mul_nonneg (by omega) (by omega)
 have b2:=aJ (a:=s) (x:=b) (A:=8) (X:=100000) (by omega) (by omega) (by omega) (by omega)
 have e0:s*(b-k)=s*b-l:=by rw[hk];grind
 have e1:s*(2*b)=2*(s*b):=by grind
 refine⟨by simp, ?_,by simp[trP],by simp[trP],(3*l,2*b,2*t),4,by omega, ?_,by dsimp only;omega,by dsimp only;omega,by dsimp only;omega⟩
 ·simp[cI,bI,trP];omega
 ·simp[slk,bj,nrm,trP];omega
theorem Ay {s k a:Int} (hs:1≤s∧s≤8) (hk:l=s*k) (ha:0≤a) (hab:a+k≤w):
  Cell l w t [trP (1,s,0,l+s*a)] [(-1, -s,0, -(l+s*a))]:=by
 have hk0:0<k:=by
  rcases(by omega:0<k∨k≤0)with h|h
  ·exact h
  ·have:s*k≤0:=Int.mul_nonpos_of_nonneg_of_nonpos (by omega) h
   omega
 have h1:0≤s*(w-a-k):=Int.mul_nonneg (by omega) (by omega)
 have b1:=aJ (a:=s) (x:=a) (A:=8) (X:=100000) (by omega) (by omega) (by omega) (by omega)
 have e0:s*(w-a-k)=s*w-s*a-l:=by rw[hk];grind
 have en:=Int.neg_mul s (2*a+2*w)
 have e1:s*(2*a+2*w)=2*(s*a)+2*(s*w):=by grind
 refine⟨by simp, ?_,by simp[trP],by simp[trP],(3*l,2*a+2*w,2*t),4,by omega, ?_,by dsimp only;omega,by dsimp only;omega,by dsimp only;omega⟩
 ·simp[cI,bI,trP];omega
 ·simp[slk,bj,nrm,trP];omega
end
def kA (e y z:Int):List Q4:=[(0,1,1,y+z+e),(0,1, -1,y-z+e),(0, -1,1,z-y+e),(0, -1, -1,e-y-z)]
def fY (r e y z:Int):List Q4:=btP 1 (y-r) (y+r)++btP 2 (z-r) (z+r)++kA e y z
def vX (r e y z:Int):List Q4:=btP 1 (y-r) (y+r)++btP 2 (z-r) (z+r)++[(0,1,1,y+z+e),(0,1, -1,y-z+e),(0, -1,1,z-y+e),(0, -1, -1, -(y+z-e))]
def iI (f g r e:Int) (first:Bool) (s:Int) (last:Bool) (y z:Int):List (List Q4):=
 [btP 0 f g++(if first then []else [geP 1 s])++[leP 1 (y-r)]]++(if last then [btP 0 f g++[geP 1 (y+r)]]else [])++
 [btP 0 f g++btP 1 (y-r) (y+r)++[leP 2 (z-r)],btP 0 f g++btP 1 (y-r) (y+r)++[geP 2 (z+r)]]++
 (kA e y z).map fun p=>btP 0 f g++btP 1 (y-r) (y+r)++btP 2 (z-r) (z+r)++[trP p]
def cL (w t f g r e:Int) (s:Int) (last:Bool) (y z:Int):List (List Q4):=
 [btP 0 f g++btP 1 s (y-r)]++(if last then [btP 0 f g++btP 1 (y+r) w]else [])++
 [btP 0 f g++btP 1 (y-r) (y+r)++btP 2 0 (z-r),btP 0 f g++btP 1 (y-r) (y+r)++btP 2 (z+r) t,
 btP 0 f g++btP 1 (y-r) (y+r)++btP 2 (z-r) (z+r)++[(0, -1, -1, -(y+z+e))],btP 0 f g++btP 1 (y-r) (y+r)++btP 2 (z-r) (z+r)++[(0, -1,1, -(y-z+e))],
 btP 0 f g++btP 1 (y-r) (y+r)++btP 2 (z-r) (z+r)++[(0,1, -1, -(z-y+e))],btP 0 f g++btP 1 (y-r) (y+r)++btP 2 (z-r) (z+r)++[(0,1,1,y+z-e)]]
section
variable {l w t:Int} (hl:1≤l∧l≤100000) (hw:1≤w∧w≤100000) (ht:1≤t∧t≤100000)
include hl hw ht
theorem ck8 {f g r e s y z:Int} {first last:Bool} (hf:0≤f∧f<g∧g≤l) (hr:0<r∧r<e∧e<2*r) (hs:0≤s∧s<y-r) (h1:first=true→s=0) (hy:y+r<w) (hz:r<z∧z+r<t):
  Cells l w t (iI f g r e first s last y z) (cL w t f g r e s last y z):=by
 have hrest:Cells l w t ([btP 0 f g++btP 1 (y-r) (y+r)++[leP 2 (z-r)],btP 0 f g++btP 1 (y-r) (y+r)++[geP 2 (z+r)]]++
   (kA e y z).map fun p=>btP 0 f g++btP 1 (y-r) (y+r)++btP 2 (z-r) (z+r)++[trP p])
   [btP 0 f g++btP 1 (y-r) (y+r)++btP 2 0 (z-r),btP 0 f g++btP 1 (y-r) (y+r)++btP 2 (z+r) t,
   btP 0 f g++btP 1 (y-r) (y+r)++btP 2 (z-r) (z+r)++[(0, -1, -1, -(y+z+e))],btP 0 f g++btP 1 (y-r) (y+r)++btP 2 (z-r) (z+r)++[(0, -1,1, -(y-z+e))],
   btP 0 f g++btP 1 (y-r) (y+r)++btP 2 (z-r) (z+r)++[(0,1, -1, -(z-y+e))],btP 0 f g++btP 1 (y-r) (y+r)++btP 2 (z-r) (z+r)++[(0,1,1,y+z-e)]]:=by
  simp only[kA,List.map_cons,List.map_nil,List.cons_append,List.nil_append]
  refine⟨?_, ?_, ?_, ?_, ?_, ?_,trivial⟩
  ·exact bL (f+g) (2*y) (z-r) (2)
  ·exact bL (f+g) (2*y) (z+r+t) (2)
  ·exact bL (2*f+2*g) (4*y+4*r-(2*r-e)) (4*z+4*r-(2*r-e)) (4)
  ·exact bL (2*f+2*g) (4*y+4*r-(2*r-e)) (4*z-4*r+(2*r-e)) (4)
  ·exact bL (2*f+2*g) (4*y-4*r+(2*r-e)) (4*z+4*r-(2*r-e)) (4)
  ·have e1:trP (0, -1, -1,e-y-z)=(0,1,1,y+z-e):=by simp[trP];omega
   rw[e1]
   exact bL (2*f+2*g) (4*y-4*r+(2*r-e)) (4*z-4*r+(2*r-e)) (4)
 unfold iI cL
 rw[List.append_assoc _ _ (List.map _ _)]
 refine Cells.append (Cells.append ⟨?_,trivial⟩ ?_) hrest
 ·cases first
  ·simp only[Bool.false_eq_true,if_false]
   exact bL (f+g) (s+y-r) (t) (2)
  ·obtain rfl:=h1 rfl
   simp only[if_true]
   exact bL (f+g) (y-r) (t) (2)
 ·cases last
  ·exact trivial
  ·refine⟨?_,trivial⟩
   exact bL (f+g) (y+r+w) (t) (2)
theorem Az {f g r e y z:Int} (hf:0≤f∧f<g∧g≤l) (hr:0<r∧r<e∧e<2*r) (hy:r<y∧y+r<w) (hz:r<z∧z+r<t):
  Cell l w t (fY r e y z++btP 0 f g) (vX r e y z++btP 0 f g):=by
 have e1:(-(y+z-e))=e-y-z:=by omega
 unfold fY vX kA
 rw[e1]
 exact bL (f+g) (2*y) (2*z) (2)
end
end
section
open Go.RowKit
def fu (a b c d:Int):List (List Q4):=[[leP 1 a],[geP 1 b],btP 1 a b++[leP 2 c],btP 1 a b++[geP 2 d]]
def ej (w t a b c d:Int):List (List Q4):=[btP 1 0 a,btP 1 b w,btP 1 a b++btP 2 0 c,btP 1 a b++btP 2 d t]
def el (l s x:Int):Q4:=(1, -s,0,l-s*x)
def em (l s q x:Int):Q4:=(1,s,0,l+s*(x+q))
def kB (l:Int) (n:List Int) (i:Nat):List Q4:=if i=0 then []else [trP (em l (n.getD 0 0) (n.getD 1 0) (n.getD (1+i) 0))]
def dB (l:Int) (n:List Int) (j:Nat):List (List Q4):=(List.range j).map fun i=>[el l (n.getD 0 0) (n.getD (2+i) 0),em l (n.getD 0 0) (n.getD 1 0) (n.getD (2+i) 0)]
def fZ (l:Int) (n:List Int) (j:Nat):List (List Q4):=(List.range j).map fun i=>kB l n i++[trP (el l (n.getD 0 0) (n.getD (2+i) 0))]
def eo (l:Int) (n:List Int) (j:Nat):List (List Q4):=(List.range j).map fun i=>
 (if 0<i then [(-1, -(n.getD 0 0),0, -(l+n.getD 0 0*(n.getD (1+i) 0+n.getD 1 0)))]else [])++(if i<n.length-2 then [(-1,n.getD 0 0,0, -(l-n.getD 0 0*n.getD (2+i) 0))]else [])
def dT (w:Int) (n:List Int):List Int:=[0]++n++[w]
def im (w:Int) (n:List Int) (i:Nat):List Q4:=btP 1 ((dT w n).getD i 0) ((dT w n).getD (i+1) 0)
def cK (w:Int) (n:List Int) (m j:Nat):List (List Q4):=((List.range j).filter (fun i=>i % 2==m)).map (im w n)
def bo (n:List Int):Nat:=(n.length-6) / 2
def dw (n:List Int) (i:Nat):Int:=if i=0 then 0 else n.getD (4+2*i) 0+n.getD 1 0
def Bb (f g:Int) (n:List Int) (j:Nat):List (List Q4):=(List.range j).flatMap fun i=>iI f g (n.getD 1 0) (n.getD 2 0) (i==0) (dw n i) (i+1==bo n) (n.getD (6+2*i) 0) (n.getD (7+2*i) 0)
def ew (w t f g:Int) (n:List Int) (j:Nat):List (List Q4):=(List.range j).flatMap fun i=>cL w t f g (n.getD 1 0) (n.getD 2 0) (dw n i) (i+1==bo n) (n.getD (6+2*i) 0) (n.getD (7+2*i) 0)
def shapeN (n:List Int) (i:Nat):List Q4:=fY (n.getD 1 0) (n.getD 2 0) (n.getD (6+2*i) 0) (n.getD (7+2*i) 0)
def gE (n:List Int) (i:Nat):List Q4:=vX (n.getD 1 0) (n.getD 2 0) (n.getD (6+2*i) 0) (n.getD (7+2*i) 0)
def io (n:List Int) (j:Nat):List (List (List Q4)):=(List.range j).map fun i=>[shapeN n i++btP 0 (n.getD 0 0-n.getD 4 0) (n.getD 0 0+n.getD 3 0)]
def ip (n:List Int) (j:Nat):List (List Q4):=(List.range j).flatMap fun i=>
 [shapeN n i++btP 0 (n.getD 0 0+n.getD 3 0) (n.getD 0 0+n.getD 3 0+n.getD 5 0),shapeN n i++btP 0 (n.getD 0 0-n.getD 4 0-n.getD 5 0) (n.getD 0 0-n.getD 4 0)]
def rD (c h a b:Int) (half away:Q4):List (List Q4):=
 [[half]++[leP 2 a],[half]++[geP 2 b],[half]++btP 2 a b++[(1,1,0,c-h)],[half]++btP 2 a b++[trP (1,1,0,c+h)],[half]++btP 2 a b++[trP (1,1,0,c-h),(1,1,0,c+h)]++[away]]
def iq (t c h a b:Int) (half away:Q4):List (List Q4):=
 [[half]++btP 2 0 a,[half]++btP 2 b t,[half]++btP 2 a b++[(1,1,0,c-h)],[half]++btP 2 a b++[(-1, -1,0, -(c+h))],[half]++btP 2 a b++[(-1, -1,0, -(c-h)),(1,1,0,c+h),away]]
def gS (a b c d:Int) (p:Q4):List (List Q4):=[[p]++[leP 0 a],[p]++[geP 0 b],[p]++btP 0 a b++[leP 1 c],[p]++btP 0 a b++[geP 1 d]]
def ir (l w a b c d:Int) (p:List Q4):List (List Q4):=[p++btP 0 0 a,p++btP 0 b l,p++btP 0 a b++btP 1 0 c,p++btP 0 a b++btP 1 d w]
def aR (k l w:Int) (n:List Int):List (List (List Q4)):=
 if k=0 then [[[geP 2 (n.getD 0 0)]],[[leP 2 (n.getD 0 0)]]]
 else if k=1 then [[[leP 2 (n.getD 0 0)],[geP 2 (n.getD 1 0)]],[btP 2 (n.getD 0 0) (n.getD 1 0)]]
 else if k=2 then [[btP 1 (n.getD 0 0) (n.getD 1 0)++btP 2 (n.getD 2 0) (n.getD 3 0)],fu (n.getD 0 0) (n.getD 1 0) (n.getD 2 0) (n.getD 3 0)]
 else if k=3 then [[[geP 0 (l-n.getD 0 0)]++(btP 1 (n.getD 2 0) (n.getD 3 0)++btP 2 (n.getD 4 0) (n.getD 5 0))],
  fu (n.getD 2 0) (n.getD 3 0) (n.getD 4 0) (n.getD 5 0)++[[leP 0 (l-n.getD 0 0-n.getD 1 0)]++(btP 1 (n.getD 2 0) (n.getD 3 0)++btP 2 (n.getD 4 0) (n.getD 5 0))]]
 else if k=4 then [[[geP 0 (l-n.getD 0 0)]++btP 2 (n.getD 2 0) (n.getD 3 0)],
  [[leP 2 (n.getD 2 0)],[geP 2 (n.getD 3 0)],[leP 0 (l-n.getD 0 0-n.getD 1 0)]++btP 2 (n.getD 2 0) (n.getD 3 0)]]
 else if k=5 then [dB l n (n.length-2),fZ l n (n.length-2)++[kB l n (n.length-2)]]
 else if k=6 then [[[trP (n.getD 1 0,0, -(n.getD 2 0),n.getD 1 0*n.getD 0 0)]],[[(n.getD 1 0,0, -(n.getD 2 0),n.getD 1 0*n.getD 0 0)]]]
 else if k=7 then [cK w n 0 (n.length+1),cK w n 1 (n.length+1)]
 else if k=8 then [[geP 0 (n.getD 0 0+n.getD 3 0+n.getD 5 0)]::Bb (n.getD 0 0) (n.getD 0 0+n.getD 3 0+n.getD 5 0) n (bo n),
  [leP 0 (n.getD 0 0-n.getD 4 0-n.getD 5 0)]::Bb (n.getD 0 0-n.getD 4 0-n.getD 5 0) (n.getD 0 0) n (bo n)]++io n (bo n)
 else if k=9 then [rD (n.getD 0 0) (n.getD 1 0) (n.getD 3 0) (n.getD 4 0) (-1,1,0,0) (-1,1,0, -(n.getD 2 0)),rD (n.getD 0 0) (n.getD 1 0) (n.getD 3 0) (n.getD 4 0) (1, -1,0,0) (1, -1,0, -(n.getD 2 0)),
  [[trP (1,1,0,n.getD 0 0-n.getD 1 0),(1,1,0,n.getD 0 0+n.getD 1 0)]++[(1, -1,0,n.getD 2 0),(-1,1,0,n.getD 2 0)]++btP 2 (n.getD 3 0) (n.getD 4 0)]]
 else [gS (n.getD 1 0) (n.getD 2 0) (n.getD 3 0) (n.getD 4 0) (geP 2 (n.getD 0 0)),gS (n.getD 1 0) (n.getD 2 0) (n.getD 3 0) (n.getD 4 0) (leP 2 (n.getD 0 0)),[btP 0 (n.getD 1 0) (n.getD 2 0)++btP 1 (n.getD 3 0) (n.getD 4 0)]]
def bR (k l:Int) (n:List Int):List (List Q4):=
 if k=3 then if n.getD 1 0=0 then []else [btP 0 (l-n.getD 0 0-n.getD 1 0) (l-n.getD 0 0)++(btP 1 (n.getD 2 0) (n.getD 3 0)++btP 2 (n.getD 4 0) (n.getD 5 0))]
 else if k=4 then if n.getD 1 0=0 then []else [btP 0 (l-n.getD 0 0-n.getD 1 0) (l-n.getD 0 0)++btP 2 (n.getD 2 0) (n.getD 3 0)]
 else if k=8 then if n.getD 5 0=0 then []else ip n (bo n)
 else []
def aW (k l w t:Int) (n:List Int) (m:Nat):List (List Q4):=
 if k=0 then if m=0 then [btP 2 (n.getD 0 0) t]else [btP 2 0 (n.getD 0 0)]
 else if k=1 then if m=0 then [btP 2 0 (n.getD 0 0),btP 2 (n.getD 1 0) t]else [btP 2 (n.getD 0 0) (n.getD 1 0)]
 else if k=2 then if m=0 then [btP 1 (n.getD 0 0) (n.getD 1 0)++btP 2 (n.getD 2 0) (n.getD 3 0)]else ej w t (n.getD 0 0) (n.getD 1 0) (n.getD 2 0) (n.getD 3 0)
 else if k=3 then if m=0 then [btP 0 (l-n.getD 0 0) l++btP 1 (n.getD 2 0) (n.getD 3 0)++btP 2 (n.getD 4 0) (n.getD 5 0)]
  else ej w t (n.getD 2 0) (n.getD 3 0) (n.getD 4 0) (n.getD 5 0)++[btP 0 0 (l-n.getD 0 0-n.getD 1 0)++btP 1 (n.getD 2 0) (n.getD 3 0)++btP 2 (n.getD 4 0) (n.getD 5 0)]
 else if k=4 then if m=0 then [btP 0 (l-n.getD 0 0) l++btP 2 (n.getD 2 0) (n.getD 3 0)]
  else [btP 2 0 (n.getD 2 0),btP 2 (n.getD 3 0) t,btP 0 0 (l-n.getD 0 0-n.getD 1 0)++btP 2 (n.getD 2 0) (n.getD 3 0)]
 else if k=5 then if m=0 then dB l n (n.length-2)else eo l n (n.length-1)
 else if k=6 then if m=0 then [[(-(n.getD 1 0),0,n.getD 2 0, -(n.getD 1 0*n.getD 0 0))]]else [[(n.getD 1 0,0, -(n.getD 2 0),n.getD 1 0*n.getD 0 0)]]
 else if k=7 then cK w n m (n.length+1)
 else if k=8 then
  if m=0 then [btP 0 (n.getD 0 0+n.getD 3 0+n.getD 5 0) l]++ew w t (n.getD 0 0) (n.getD 0 0+n.getD 3 0+n.getD 5 0) n (bo n)
  else if m=1 then [btP 0 0 (n.getD 0 0-n.getD 4 0-n.getD 5 0)]++ew w t (n.getD 0 0-n.getD 4 0-n.getD 5 0) (n.getD 0 0) n (bo n)
  else [gE n (m-2)++btP 0 (n.getD 0 0-n.getD 4 0) (n.getD 0 0+n.getD 3 0)]
 else if k=9 then
  if m=0 then iq t (n.getD 0 0) (n.getD 1 0) (n.getD 3 0) (n.getD 4 0) (-1,1,0,0) (-1,1,0, -(n.getD 2 0))
  else if m=1 then iq t (n.getD 0 0) (n.getD 1 0) (n.getD 3 0) (n.getD 4 0) (1, -1,0,0) (1, -1,0, -(n.getD 2 0))
  else [btP 2 (n.getD 3 0) (n.getD 4 0)++[(-1, -1,0, -(n.getD 0 0-n.getD 1 0)),(1,1,0,n.getD 0 0+n.getD 1 0),(-1,1,0,n.getD 2 0),(1, -1,0,n.getD 2 0)]]
 else if m=0 then ir l w (n.getD 1 0) (n.getD 2 0) (n.getD 3 0) (n.getD 4 0) (btP 2 (n.getD 0 0) t)
  else if m=1 then ir l w (n.getD 1 0) (n.getD 2 0) (n.getD 3 0) (n.getD 4 0) (btP 2 0 (n.getD 0 0))
  else [btP 0 (n.getD 1 0) (n.getD 2 0)++btP 1 (n.getD 3 0) (n.getD 4 0)]
theorem lj (l:Int) (n:List Int) (j:Nat):dB l n (j+1)=dB l n j++[[el l (n.getD 0 0) (n.getD (2+j) 0),em l (n.getD 0 0) (n.getD 1 0) (n.getD (2+j) 0)]]:=by simp[dB,List.range_succ]
theorem qf (l:Int) (n:List Int) (j:Nat):fZ l n (j+1)=fZ l n j++[kB l n j++[trP (el l (n.getD 0 0) (n.getD (2+j) 0))]]:=by simp[fZ,List.range_succ]
theorem fT (w:Int) (n:List Int) (m j:Nat):cK w n m (j+1)=cK w n m j++if j % 2=m then [im w n j]else []:=by
 unfold cK
 rw[List.range_succ,List.filter_append,List.map_append]
 congr 1
 by_cases h:j % 2=m<;>simp[h]
theorem qg (f g:Int) (n:List Int) (j:Nat):Bb f g n (j+1)=Bb f g n j++iI f g (n.getD 1 0) (n.getD 2 0) (j==0) (dw n j) (j+1==bo n) (n.getD (6+2*j) 0) (n.getD (7+2*j) 0):=by
 simp[Bb,List.range_succ]
theorem mE (w t f g:Int) (n:List Int) (j:Nat):ew w t f g n (j+1)=ew w t f g n j++cL w t f g (n.getD 1 0) (n.getD 2 0) (dw n j) (j+1==bo n) (n.getD (6+2*j) 0) (n.getD (7+2*j) 0):=by
 simp[ew,List.range_succ]
theorem rE (n:List Int) (j:Nat):io n (j+1)=io n j++[[shapeN n j++btP 0 (n.getD 0 0-n.getD 4 0) (n.getD 0 0+n.getD 3 0)]]:=by simp[io,List.range_succ]
theorem ll (n:List Int) (j:Nat):ip n (j+1)=ip n j++[shapeN n j++btP 0 (n.getD 0 0+n.getD 3 0) (n.getD 0 0+n.getD 3 0+n.getD 5 0),shapeN n j++btP 0 (n.getD 0 0-n.getD 4 0-n.getD 5 0) (n.getD 0 0-n.getD 4 0)]:=by simp[ip,List.range_succ]
theorem jH (l:Int) (n:List Int) (j:Nat):eo l n (j+1)=eo l n j++[(if 0<j then [(-1, -(n.getD 0 0),0, -(l+n.getD 0 0*(n.getD (1+j) 0+n.getD 1 0)))]else [])++(if j<n.length-2 then [(-1,n.getD 0 0,0, -(l-n.getD 0 0*n.getD (2+j) 0))]else [])]:=by simp[eo,List.range_succ]
theorem mF (a b c d:Int):aD [a,b,c,d]=decide (a<b∧b<c∧c<d):=by simp[aD,Bool.decide_and]
theorem Good.sz {k l w t:Int} {n:List Int} (g:Good k l w t n):(1≤l∧l≤100000)∧(1≤w∧w≤100000)∧(1≤t∧t≤100000):=by
 have h:=(cC _ _ _).1 g.size
 exact⟨h l (by simp),h w (by simp),h t (by simp)⟩
theorem Good.nb {k l w t:Int} {n:List Int} (g:Good k l w t n) (i:Nat): -100000≤n.getD i 0∧n.getD i 0≤100000:=by
 by_cases h:i<n.length
 ·rw[←cS n i h]
  exact(cC _ _ _).1 g.rng _ (List.getElem_mem h)
 ·rw[List.getD_eq_getElem?_getD,List.getElem?_eq_none (by omega)]
  simp
theorem BG {l w t:Int} (hl:1≤l∧l≤100000) (hw:1≤w∧w≤100000) (ht:1≤t∧t≤100000) {a:Int} (h:0<a∧a<l):Cell l w t [geP 0 a] (btP 0 a l):=by
 exact bL (a+l) (w) (t) (2)
theorem BH {l w t:Int} (hl:1≤l∧l≤100000) (hw:1≤w∧w≤100000) (ht:1≤t∧t≤100000) {a:Int} (h:0<a∧a<l):Cell l w t [leP 0 a] (btP 0 0 a):=by
 exact bL (a) (w) (t) (2)
theorem iu {l w:Int} {n:List Int} (h:bF l w n=true) (h3:3≤n.length) (hl:1≤l):∃k,(1≤n.getD 0 0∧n.getD 0 0≤8)∧l=n.getD 0 0*k∧0<n.getD 1 0∧0<k∧
  (∀i,i<n.length-2→k≤n.getD (2+i) 0∧n.getD (2+i) 0+n.getD 1 0+k≤w)∧∀i,i+1<n.length-2→n.getD (2+i) 0+n.getD 1 0+2*k≤n.getD (3+i) 0:=by
 unfold bF at h
 simp only[Bool.and_eq_true,decide_eq_true_eq,beq_iff_eq,List.all_eq_true,List.mem_range]at h
 obtain⟨⟨⟨⟨⟨hs,hd⟩,hq⟩,hp0⟩,hstep⟩,hend⟩:=h
 have hk:l=n.getD 0 0*(l / n.getD 0 0):=(Int.mul_ediv_cancel' (Int.dvd_of_tmod_eq_zero hd)).symm
 generalize l / n.getD 0 0=k at*
 have hk0:0<k:=by
  rcases(by omega:0<k∨k≤0)with h|h
  ·exact h
  ·have:n.getD 0 0*k≤0:=Int.mul_nonpos_of_nonneg_of_nonpos (by omega) h
   omega
 have up:∀i,i<n.length-2→k≤n.getD (2+i) 0:=by
  intro i
  induction i with
  |zero=>intro _;exact hp0
  |succ i ih=>
   intro hi
   have h1:=ih (by omega)
   have h2:=hstep i (by omega)
   rw[show 2+(i+1)=3+i by omega]
   omega
 have dn:∀d,d<n.length-2→n.getD (n.length-1-d) 0+n.getD 1 0+k≤w:=by
  intro d
  induction d with
  |zero=>intro _;exact hend
  |succ d ih=>
   intro hi
   have h1:=ih (by omega)
   have h2:=hstep (n.length-1-d-3) (by omega)
   rw[show 2+(n.length-1-d-3)=n.length-1-(d+1) by omega,show 3+(n.length-1-d-3)=n.length-1-d by omega]at h2
   omega
 refine⟨k,hs,hk,hq,hk0,fun i hi=>⟨up i hi, ?_⟩,fun i hi=>hstep i (by omega)⟩
 have:=dn (n.length-3-i) (by omega)
 rwa [show n.length-1-(n.length-3-i)=2+i by omega]at this
theorem ov {l w t:Int} {n:List Int} (hl:1≤l∧l≤100000) (hw:1≤w∧w≤100000) (ht:1≤t∧t≤100000) (h:bF l w n=true) (h3:3≤n.length):
  Cells l w t (dB l n (n.length-2)) (dB l n (n.length-2)):=by
 obtain⟨k,hs,hk,hq,hk0,hi,_⟩:=iu h h3 hl.1
 refine Cells.map _ _ _ fun i hx=> ?_
 have:=hi i (by simpa using hx)
 exact Av hl hw ht hs hk (by omega) hq (by omega)
theorem ow {l w t:Int} {n:List Int} (hl:1≤l∧l≤100000) (hw:1≤w∧w≤100000) (ht:1≤t∧t≤100000) (h:bF l w n=true) (h3:3≤n.length):
  Cells l w t (fZ l n (n.length-2)++[kB l n (n.length-2)]) (eo l n (n.length-1)):=by
 obtain⟨k,hs,hk,hq,hk0,hi,hst⟩:=iu h h3 hl.1
 rw[show n.length-1=n.length-2+1 by omega,jH]
 refine Cells.append ?_ ⟨?_,trivial⟩
 ·refine Cells.map _ _ _ fun i hx=> ?_
  have hx':i<n.length-2:=by simpa using hx
  rw[if_pos hx']
  have h1:=hi i hx'
  unfold kB
  by_cases h0:i=0
  ·subst h0
   rw[if_pos rfl,if_neg (by omega)]
   exact Ax hl hw ht hs hk (by omega) (by omega)
  ·obtain⟨j,rfl⟩:∃j,i=j+1:=⟨i-1,by omega⟩
   rw[if_neg h0,if_pos (by omega),show 1+(j+1)=2+j by omega,show 2+(j+1)=3+j by omega]
   have h2:=hst j (by omega)
   have h4:=hi j (by omega)
   rw[show 2+(j+1)=3+j by omega]at h1
   exact Aw hl hw ht hs hk (by omega) (by omega) (by omega)
 ·unfold kB
  rw[if_neg (by omega),if_pos (by omega),if_neg (by omega),List.append_nil]
  have h1:=hi (n.length-3) (by omega)
  rw[show 2+(n.length-3)=1+(n.length-2) by omega]at h1
  exact Ay hl hw ht hs hk (by omega) (by omega)
theorem oA {l:List Int} (h:aD l=true) (i j:Nat) (hij:i≤j) (hj:j<l.length):l.getD i 0+(j-i:Nat)≤l.getD j 0:=by
 rw[Be]at h
 obtain⟨d,rfl⟩:∃d,j=i+d:=⟨j-i,by omega⟩
 rw[show i+d-i=d by omega]
 clear hij
 induction d with
 |zero=>simp
 |succ d ih=>
  have h1:=ih (by omega)
  have h2:=h (i+d) (by omega)
  rw[show i+(d+1)=i+d+1 by omega]
  omega
theorem mG {l w t:Int} {n:List Int} (hl:1≤l∧l≤100000) (hw:1≤w∧w≤100000) (ht:1≤t∧t≤100000) (h:aD ([0]++n++[w])=true) (m:Nat):
  Cells l w t (cK w n m (n.length+1)) (cK w n m (n.length+1)):=by
 refine Cells.map _ _ _ fun i hx=> ?_
 have hx':i<n.length+1:=by
  rw[List.mem_filter,List.mem_range]at hx
  exact hx.1
 have hlen:(dT w n).length=n.length+2:=by simp[dT]
 have h0:=oA h 0 i (by omega) (by simp;omega)
 have h1:=oA h i (i+1) (by omega) (by simp;omega)
 have h2:=oA h (i+1) (n.length+1) (by omega) (by simp)
 have e0:([0]++n++[w]).getD 0 0=0:=by simp
 have e1:([0]++n++[w]).getD (n.length+1) 0=w:=by simp
 rw[e0]at h0
 rw[e1]at h2
 unfold im dT
 exact ck7 hl hw ht ⟨by omega,by omega,by omega⟩
theorem Cells.flatAt {l w t:Int} (f g:Nat→List (List Q4)) (j:Nat) (h:∀i,i<j→Cells l w t (f i) (g i)):Cells l w t ((List.range j).flatMap f) ((List.range j).flatMap g):=
 Cells.flat f g _ fun i hi=>h i (by simpa using hi)
theorem rF {l w t:Int} {n:List Int} (h:bQ l w t n=true) (h8:8≤n.length∧n.length % 2=0):
  (0<n.getD 1 0∧n.getD 1 0<n.getD 2 0∧n.getD 2 0<2*n.getD 1 0)∧(0<n.getD 3 0∧0<n.getD 4 0∧0≤n.getD 5 0∧n.getD 4 0+n.getD 5 0<n.getD 0 0∧n.getD 0 0+n.getD 3 0+n.getD 5 0<l)∧
  ∀i,i<bo n→(0≤dw n i∧dw n i<n.getD (6+2*i) 0-n.getD 1 0)∧(i=0→dw n i=0)∧n.getD (6+2*i) 0+n.getD 1 0<w∧(n.getD 1 0<n.getD (7+2*i) 0∧n.getD (7+2*i) 0+n.getD 1 0<t):=by
 unfold bQ dW at h
 simp only[mF,Bool.and_eq_true,decide_eq_true_eq,List.all_eq_true,List.mem_range]at h
 obtain⟨⟨⟨h1,h2⟩,h3⟩,h4⟩:=h
 have hN:(n.length-6) / 2=bo n:=rfl
 rw[hN]at h3 h4
 have hpos:0<bo n:=by unfold bo;omega
 unfold eZ at h3
 simp only[Bool.and_eq_true,decide_eq_true_eq]at h3
 have hps:∀i,bV n (i+1)=n.getD (6+2*i) 0:=fun i=>by simp[bV,show 4+2*(i+1)=6+2*i by omega]
 have hp0:bV n 0= -(n.getD 1 0):=by simp[bV]
 have hy0:dw n 0=0:=by simp[dw]
 have hys:∀i,dw n (i+1)=n.getD (6+2*i) 0+n.getD 1 0:=fun i=>by simp[dw,show 4+2*(i+1)=6+2*i by omega]
 have up:∀i,i<bo n→n.getD 1 0<n.getD (6+2*i) 0:=by
  intro i
  induction i with
  |zero=>
   intro hi
   have:=(h3 0 hi).1
   rw[hp0]at this
   omega
  |succ i ih=>
   intro hi
   have h5:=ih (by omega)
   have h6:=(h3 (i+1) hi).1
   rw[hps]at h6
   omega
 have dn:∀d,d<bo n→n.getD (6+2*(bo n-1-d)) 0+n.getD 1 0<w:=by
  intro d
  induction d with
  |zero=>
   intro _
   obtain⟨q,hq⟩:∃q,bo n=q+1:=⟨bo n-1,by omega⟩
   rw[hq,hps]at h4
   rw[hq,show q+1-1-0=q by omega]
   exact h4
  |succ d ih=>
   intro hi
   have h5:=ih (by omega)
   have h6:=(h3 (bo n-1-(d+1)+1) (by omega)).1
   rw[hps,show bo n-1-(d+1)+1=bo n-1-d by omega]at h6
   omega
 refine⟨h1,h2,fun i hi=> ?_⟩
 have hw:=dn (bo n-1-i) (by omega)
 rw[show bo n-1-(bo n-1-i)=i by omega]at hw
 have hz:=(h3 i hi).2
 refine⟨?_,fun e=>by subst e;exact hy0,hw,by omega⟩
 cases i with
 |zero=>rw[hy0];have:=up 0 hi;simp only[Nat.mul_zero,Nat.add_zero]at*;omega
 |succ i=>
  rw[hys]
  have h5:=up i (by omega)
  have h6:=(h3 (i+1) hi).1
  rw[hps]at h6
  omega
theorem mH {l w t f g:Int} {n:List Int} (hl:1≤l∧l≤100000) (hw:1≤w∧w≤100000) (ht:1≤t∧t≤100000) (h:bQ l w t n=true) (h8:8≤n.length∧n.length % 2=0) (hf:0≤f∧f<g∧g≤l):
  Cells l w t (Bb f g n (bo n)) (ew w t f g n (bo n)):=by
 obtain⟨h1,h2,h3⟩:=rF h h8
 refine Cells.flatAt _ _ _ fun i hi=> ?_
 obtain⟨h4,h5,h6,h7⟩:=h3 i hi
 exact ck8 hl hw ht hf h1 h4 (fun e=>h5 (by simpa using e)) h6 h7
theorem tM {l w t:Int} {n:List Int} (hl:1≤l∧l≤100000) (hw:1≤w∧w≤100000) (ht:1≤t∧t≤100000) (h:bQ l w t n=true) (h8:8≤n.length∧n.length % 2=0) {f g:Int} (hf:0≤f∧f<g∧g≤l) (i:Nat) (hi:i<bo n):
  Cell l w t (shapeN n i++btP 0 f g) (gE n i++btP 0 f g):=by
 obtain⟨h1,h2,h3⟩:=rF h h8
 obtain⟨h4,h5,h6,h7⟩:=h3 i hi
 exact Az hl hw ht hf h1 ⟨by omega,h6⟩ h7
theorem bS {k l w t:Int} {n:List Int} (g:Good k l w t n) (m:Nat) (hm:(m:Int)<cD k+aV k n):
  (aR k l w n).length=cD k+aV k n∧Cells l w t ((aR k l w n).getD m []) (aW k l w t n m):=by
 obtain⟨hl,hw,ht⟩:=g.sz
 have hr:=g.right
 have hc:=Ba g.cnt g.kind
 have hk:=g.kind
 have h8:=g.h8
 rcases(by omega:k=0∨k=1∨k=2∨k=3∨k=4∨k=5∨k=6∨k=7∨k=8∨k=9∨k=10)with rfl|rfl|rfl|rfl|rfl|rfl|rfl|rfl|rfl|rfl|rfl
 ·simp[cU,vS, -List.getD_eq_getElem?_getD]at hr
  simp only[cD,aV]at hm ⊢
  refine⟨by simp[aR], ?_⟩
  rcases(by simp at hm;omega:m=0∨m=1)with rfl|rfl
  ·exact Ag hl hw ht (by omega)
  ·exact Ah hl hw ht (by omega)
 ·simp[cU,mF, -List.getD_eq_getElem?_getD]at hr
  simp only[cD,aV]at hm ⊢
  refine⟨by simp[aR], ?_⟩
  rcases(by simp at hm;omega:m=0∨m=1)with rfl|rfl
  ·exact Ai hl hw ht (by omega)
  ·exact Aj hl hw ht (by omega)
 ·simp[cU,mF, -List.getD_eq_getElem?_getD]at hr
  simp only[cD,aV]at hm ⊢
  refine⟨by simp[aR], ?_⟩
  rcases(by simp at hm;omega:m=0∨m=1)with rfl|rfl
  ·exact Ak hl hw ht (by omega) (by omega)
  ·exact qe hl hw ht (by omega) (by omega)
 ·simp[cU,mF,fj, -List.getD_eq_getElem?_getD]at hr
  simp only[cD,aV]at hm ⊢
  refine⟨by simp[aR], ?_⟩
  rcases(by simp at hm;omega:m=0∨m=1)with rfl|rfl
  ·exact Al hl hw ht (by omega) (by omega) (by omega)
  ·exact(qe hl hw ht (by omega) (by omega)).append (Am hl hw ht (by omega) (by omega) (by omega))
 ·simp[cU,mF,fj, -List.getD_eq_getElem?_getD]at hr
  simp only[cD,aV]at hm ⊢
  refine⟨by simp[aR], ?_⟩
  rcases(by simp at hm;omega:m=0∨m=1)with rfl|rfl
  ·exact An hl hw ht (by omega) (by omega)
  ·exact Ao hl hw ht (by omega) (by omega)
 ·have hr':bF l w n=true:=by simpa [cU]using hr
  have h3:3≤n.length:=by have:=hc.2.2.2.2.2.1 rfl;omega
  simp only[cD,aV]at hm ⊢
  refine⟨by simp[aR], ?_⟩
  rcases(by simp at hm;omega:m=0∨m=1)with rfl|rfl
  ·exact ov hl hw ht hr' h3
  ·exact ow hl hw ht hr' h3
 ·have hr':fH l t n=true:=by simpa [cU]using hr
  unfold fH at hr'
  simp only[Bool.and_eq_true,decide_eq_true_eq,beq_iff_eq]at hr'
  obtain⟨⟨⟨⟨hp,hq⟩,hq0⟩,hd⟩,hin⟩:=hr'
  rw[cC]at hin
  have ha:=hin (n.getD 0 0) (by simp)
  have hb:=hin (n.getD 0 0+(n.getD 2 0*t).tdiv (n.getD 1 0)) (by simp)
  have he:n.getD 2 0*t=n.getD 1 0*(n.getD 2 0*t).tdiv (n.getD 1 0):=(Int.mul_tdiv_cancel' (Int.dvd_of_tmod_eq_zero hd)).symm
  have he0:(n.getD 2 0*t).tdiv (n.getD 1 0)≠0:=fun e=>by
   rw[e,Int.mul_zero]at he
   rcases Int.mul_eq_zero.1 he with h|h<;>omega
  have b1:=aJ (a:=n.getD 1 0) (x:=n.getD 0 0) (A:=8) (X:=100000) (by omega) (by omega) (by omega) (by omega)
  simp only[cD,aV]at hm ⊢
  refine⟨by simp[aR], ?_⟩
  rcases(by simp at hm;omega:m=0∨m=1)with rfl|rfl
  ·exact Ap hl hw ht hp hq he he0 ha hb (by omega)
  ·exact Aq hl hw ht hp hq he he0 ha hb (by omega)
 ·have hr':aD ([0]++n++[w])=true:=by simpa [cU]using hr
  simp only[cD,aV]at hm ⊢
  refine⟨by simp[aR], ?_⟩
  rcases(by simp at hm;omega:m=0∨m=1)with rfl|rfl
  ·exact mG hl hw ht hr' 0
  ·exact mG hl hw ht hr' 1
 ·have hr':bQ l w t n=true:=by simpa [cU]using hr
  have h8':=h8 rfl
  obtain⟨h1,h2,h3⟩:=rF hr' h8'
  have hN:(aV 8 n:Int)=bo n:=by simp[aV,bo]
  simp only[cD]at hm ⊢
  rw[hN]at hm ⊢
  refine⟨by simp[aR,io];omega, ?_⟩
  rcases(by omega:m=0∨m=1∨m=(m-2)+2)with rfl|rfl|hm2
  ·exact⟨BG hl hw ht (by omega),mH hl hw ht hr' h8' (by omega)⟩
  ·exact⟨BH hl hw ht (by omega),mH hl hw ht hr' h8' (by omega)⟩
  ·generalize m-2=q at hm2
   subst hm2
   have hq:q<bo n:=by simp at hm;omega
   have e:(aR 8 l w n).getD (q+2) []=[shapeN n q++btP 0 (n.getD 0 0-n.getD 4 0) (n.getD 0 0+n.getD 3 0)]:=by
    simp[aR,io,hq]
   rw[e]
   have e2:aW 8 l w t n (q+2)=[gE n q++btP 0 (n.getD 0 0-n.getD 4 0) (n.getD 0 0+n.getD 3 0)]:=by
    simp[aW]
   rw[e2]
   exact⟨tM hl hw ht hr' h8' (by omega) q hq,trivial⟩
 ·simp[cU,iG,mF, -List.getD_eq_getElem?_getD]at hr
  simp only[cD,aV]at hm ⊢
  refine⟨by simp[aR], ?_⟩
  rcases(by simp at hm;omega:m=0∨m=1∨m=2)with rfl|rfl|rfl
  ·exact Ar hl hw ht hr.1.1 (by omega) (by omega)
  ·exact As hl hw ht hr.1.1 (by omega) (by omega)
  ·exact Au hl hw ht hr.1.1 (by omega) (by omega)
 ·simp[cU,vS,mF, -List.getD_eq_getElem?_getD]at hr
  simp only[cD,aV]at hm ⊢
  refine⟨by simp[aR], ?_⟩
  rcases(by simp at hm;omega:m=0∨m=1∨m=2)with rfl|rfl|rfl
  ·exact zU hl hw ht (by omega) (by omega) (by omega)
  ·exact zY hl hw ht (by omega) (by omega) (by omega)
  ·exact zZ hl hw ht (by omega) (by omega)
end
end Go.Proofs.YtokhkhnofkcalaaGreatDoor
