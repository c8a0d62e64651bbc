/- texts: D2. -/
import Derived.Test.YtokhkhnofkcalaaGreatDoorKZS19
namespace Go.Proofs.YtokhkhnofkcalaaGreatDoor
set_option maxHeartbeats 8000000
set_option linter.unusedSimpArgs false
set_option linter.unusedVariables false
section
open Go.RowKit Go.Shelf
set_option maxRecDepth 100000
attribute [local go_sem] Ext.cell Ext.frozen
theorem vL (l w t:Int) (nv:Value) (n:List Int) (W:World) (hn:Ints W nv n) (hl:n.length=2):
  Calls Tryz.prog 35 #[vJ 1 l w t nv] W (Ret W (.bool (aD [0,n.getD 0 0,n.getD 1 0,t]))):=by
 unfold vJ
 obtain⟨b,off,c,rfl,hc,zb,hi⟩:=hn.at' (by omega)
 have c0:=hi 0 (by omega)
 have c1:=hi 1 (by omega)
 rw[Nat.add_zero]at c0
 rw[hl]
 have hr:=fun W' x y g hg=>Lib.hid (bY _ [0,x,y,t] _ (aX (W:=W') (T:=3) (g:=g) [0,x,y,t] hg) (by simp))
 generalize n.getD 0 0=x0 at*
 generalize n.getD 1 0=x1 at*
 clear hi hn hl
 go_enter Tryz.func35,Tryz.ntmps35
 go_wp2
 refine wqf fun u=> ?_
 go_wp2
 have hbu:Below W.heap.size W u.val:=bel
 have zbu:=Nat.lt_of_lt_of_le zb hbu.size
 have cu0:=ab hbu c0
 have cu1:=ab hbu c1
 refine aQ 7 (by kernel_rfl) (by kernel_rfl) ?_
 simp only[List.take_succ_cons,List.take_zero,List.drop_succ_cons,List.drop_zero]
 repeat(first|go_big_quiet_step (fail)|quiet_step (fail))
 refine wpQuiet_nil ?_
 rintro _ ⟨u,rfl⟩
 go_wp2_with fail
 refine((hr _ _ _ _ rfl).out).mono ?_
 rintro e w1 ⟨rfl,hb1⟩
 go_wp2
 go_ret
 exact⟨rfl,ae (show Below W.heap.size W u.val from bel) (ae bel hb1)⟩
theorem vM (l w t:Int) (nv:Value) (n:List Int) (W:World) (hn:Ints W nv n) (hl:n.length=1):
  Calls Tryz.prog 35 #[vJ 0 l w t nv] W (Ret W (.bool (aD [0,n.getD 0 0,t]))):=by
 unfold vJ
 obtain⟨b,off,c,rfl,hc,zb,hi⟩:=hn.at' (by omega)
 have c0:=hi 0 (by omega)
 rw[Nat.add_zero]at c0
 rw[hl]
 have hr:=fun W' x g hg=>Lib.hid (bY _ [0,x,t] _ (aX (W:=W') (T:=3) (g:=g) [0,x,t] hg) (by simp))
 generalize n.getD 0 0=x0 at*
 clear hi hn hl
 go_enter Tryz.func35,Tryz.ntmps35
 go_wp2
 refine wqf fun u=> ?_
 go_wp2_with fail
 refine((hr _ _ _ rfl).out).mono ?_
 rintro e w1 ⟨rfl,hb1⟩
 go_wp2
 go_ret
 exact⟨rfl,ae (show Below W.heap.size W u.val from bel) (ae bel hb1)⟩
theorem vN (l w t:Int) (nv:Value) (n:List Int) (W:World) (hn:Ints W nv n) (hl:n.length=4):
  Calls Tryz.prog 35 #[vJ 2 l w t nv] W (Ret W (.bool (aD [0,n.getD 0 0,n.getD 1 0,w]&&aD [0,n.getD 2 0,n.getD 3 0,t]))):=by
 unfold vJ
 obtain⟨b,off,c,rfl,hc,zb,hi⟩:=hn.at' (by omega)
 have c0:=hi 0 (by omega)
 have c1:=hi 1 (by omega)
 have c2:=hi 2 (by omega)
 have c3:=hi 3 (by omega)
 rw[Nat.add_zero]at c0
 rw[hl]
 generalize n.getD 0 0=x0 at*
 generalize n.getD 1 0=x1 at*
 generalize n.getD 2 0=x2 at*
 generalize n.getD 3 0=x3 at*
 have h1:=fun W' v (h:Ints W' v [0,x0,x1,w])=>Lib.hid (bY v [0,x0,x1,w] W' h (by simp))
 generalize aD [0,x0,x1,w]=b1 at*
 have h2:=fun W' v (h:Ints W' v [0,x2,x3,t])=>Lib.hid (bY v [0,x2,x3,t] W' h (by simp))
 generalize aD [0,x2,x3,t]=b2 at*
 obtain⟨b3,Hb3⟩:∃b3,Hid ((b1&&b2)=b3):=⟨_,Lib.hid rfl⟩
 rw[Hb3.out]
 clear hi hn hl
 go_enter Tryz.func35,Tryz.ntmps35
 go_wp2
 refine wqf fun u=> ?_
 go_wp2
 have hbu:Below W.heap.size W u.val:=bel
 have zbu:=Nat.lt_of_lt_of_le zb hbu.size
 have cu0:=ab hbu c0
 have cu1:=ab hbu c1
 have cu2:=ab hbu c2
 have cu3:=ab hbu c3
 apply aj [] [0,1,2,3,4,5,6,7,8,9,10,11,12,13,14,15,16,17,18,19] 20 [] [sv _,sv _,sv _,sv _,sv _,sv _,sv _,svl [0,x0,x1,w],sv _,sv _,sv _,sv _,sv _,sv _,sv _,sv _,sv _,svg b1 [0,x2,x3,t],sv _,sv _] (by kernel_rfl) (by kernel_rfl)
 iterate 7 ((try go_frame);refine wkQ ?_)
 try go_frame
 refine wkU (fun u hR K hK=> ?_) (fun o7=> ?_)
 ·clear hR
  go_simp
  exact hK _ _ bel (aX [0,x0,x1,w] rfl)
 try go_frame
 refine wkR ⟨.bool b1,fun u hR K hK=> ?_,rfl, ?_⟩
 ·have h7:(IsL [0,x0,x1,w]) o7 u.val:=hr hR 7
  clear hR
  go_simp
  refine((h1 _ _ h7).out).mono ?_
  rintro e w9 ⟨rfl,hb9⟩
  exact hK _ hb9
 ((try go_frame);refine wkQ ?_)
 iterate 7 ((try go_frame);refine wkw (b:=b1) rfl rfl (by simp) (by simp[Region.wanted,yielded]) ?_;apply Exists.intro;apply And.intro;(focus(intro hg u hR K hK;clear hR;(try simp only[hg,cond_true]at hK ⊢);go_simp;exact hK _ brf));refine⟨rfl, ?_⟩)
 try go_frame
 refine wkx (b:=b1) (p:=IsL [0,x2,x3,t]) rfl rfl (by simp) (by simp[Region.wanted,yielded]) rfl (fun hg u hR K hK=> ?_) (fun o17=> ?_)
 ·clear hR
  (try simp only[hg,cond_true]at hK ⊢)
  go_simp
  exact hK _ _ bel (aX [0,x2,x3,t] rfl)
 try go_frame
 refine wkw (b:=b1) rfl rfl (by simp) (by simp[Region.wanted,yielded]) ⟨.bool b2,fun hg u hR K hK=> ?_,rfl, ?_⟩
 ·have h17:(Gd b1 (IsL [0,x2,x3,t])) o17 u.val:=hr hR 17
  rw[hg]at h17
  clear hR
  (try simp only[hg,cond_true]at hK ⊢)
  go_simp
  refine((h2 _ _ h17).out).mono ?_
  rintro e w9 ⟨rfl,hb9⟩
  exact hK _ hb9
 try go_frame
 refine wkR ⟨.bool b3,fun u hR K hK=> ?_,rfl, ?_⟩
 ·clear hR
  have e:=Hb3.out
  cases b1<;>(simp only[Bool.true_and,Bool.false_and,Bool.true_or,Bool.false_or]at e;subst e;(try simp only[cond_true,cond_false]);go_simp;exact hK _ brf)
 try go_frame
 refine aI (fun u hR=> ?_)
 have hb':=u.below
 clear hR
 generalize u.val=w' at*
 simp only[oas]
 go_wp2
 refine NoPanic.normal ?_
 go_wp2
 go_ret
 exact⟨rfl,ae (show Below W.heap.size W _ from bel) hb'⟩
theorem vO (l w t:Int) (nv:Value) (n:List Int) (W:World) (hn:Ints W nv n) (hl:n.length=6) (hx:(-1000000≤n.getD 0 0∧n.getD 0 0≤1000000)∧(-1000000≤n.getD 1 0∧n.getD 1 0≤1000000)):
  Calls Tryz.prog 35 #[vJ 3 l w t nv] W (Ret W (.bool (aD [0,n.getD 2 0,n.getD 3 0,w]&&aD [0,n.getD 4 0,n.getD 5 0,t]&&fj l n))):=by
 unfold vJ
 obtain⟨b,off,c,rfl,hc,zb,hi⟩:=hn.at' (by omega)
 have c0:=hi 0 (by omega)
 have c1:=hi 1 (by omega)
 have c2:=hi 2 (by omega)
 have c3:=hi 3 (by omega)
 have c4:=hi 4 (by omega)
 have c5:=hi 5 (by omega)
 rw[Nat.add_zero]at c0
 rw[hl]
 unfold fj
 generalize n.getD 0 0=x0 at*
 generalize n.getD 1 0=x1 at*
 generalize n.getD 2 0=x2 at*
 generalize n.getD 3 0=x3 at*
 generalize n.getD 4 0=x4 at*
 generalize n.getD 5 0=x5 at*
 have h1:=fun W' v (h:Ints W' v [0,x2,x3,w])=>Lib.hid (bY v [0,x2,x3,w] W' h (by simp))
 generalize aD [0,x2,x3,w]=b1 at*
 have h2:=fun W' v (h:Ints W' v [0,x4,x5,t])=>Lib.hid (bY v [0,x4,x5,t] W' h (by simp))
 generalize aD [0,x4,x5,t]=b2 at*
 have hs:IntKind.i64.wrap (x0+x1)=x0+x1:=IntWalk.i64_in _ (by omega)
 obtain⟨g1,Hg1⟩:∃g1,Hid ((decide (0<x0))=g1):=⟨_,Lib.hid rfl⟩
 obtain⟨b4,Hb4⟩:∃b4,Hid ((g1&&decide (0≤x1))=b4):=⟨_,Lib.hid rfl⟩
 obtain⟨b5,Hb5⟩:∃b5,Hid ((b4&&decide (x0+x1<l))=b5):=⟨_,Lib.hid rfl⟩
 obtain⟨b6,Hb6⟩:∃b6,Hid ((b5&&b1)=b6):=⟨_,Lib.hid rfl⟩
 obtain⟨b7,Hb7⟩:∃b7,Hid ((b6&&b2)=b7):=⟨_,Lib.hid rfl⟩
 rw[show(b1&&b2&&decide (0<x0∧0≤x1∧x0+x1<l))=b7 by rw[←Hb7.out, ←Hb6.out, ←Hb5.out, ←Hb4.out, ←Hg1.out,Bool.decide_and,Bool.decide_and];ac_rfl]
 clear hx
 clear hi hn hl
 go_enter Tryz.func35,Tryz.ntmps35
 go_wp2
 refine wqf fun u=> ?_
 go_wp2
 have hbu:Below W.heap.size W u.val:=bel
 have zbu:=Nat.lt_of_lt_of_le zb hbu.size
 have cu0:=ab hbu c0
 have cu1:=ab hbu c1
 have cu2:=ab hbu c2
 have cu3:=ab hbu c3
 have cu4:=ab hbu c4
 have cu5:=ab hbu c5
 apply aj [] [0,1,2,3,4,5,6,7,8,9,10,11,12,13,14,15,16,17,18,19,20,21,22,23,24,25,26,27,28,29,30,31,32,33,34,35,36,37,38,39,40,41,42] 43 [] [sv _,sv _,sv _,sv _,sv _,sv _,sv _,sv _,sv _,sv _,sv _,sv _,sv _,sv _,sv _,sv _,sv _,sv _,sv _,sv _,sv _,sv _,sv _,sv _,sv _,sv _,sv _,sv _,sv _,svg b5 [0,x2,x3,w],sv _,sv _,sv _,sv _,sv _,sv _,sv _,sv _,sv _,sv _,svg b6 [0,x4,x5,t],sv _,sv _] (by kernel_rfl) (by kernel_rfl)
 iterate 3 ((try go_frame);refine wkQ ?_)
 try go_frame
 refine wkR ⟨.bool g1,fun u hR K hK=> ?_,rfl, ?_⟩
 ·clear hR
  go_simp
  rw[Hg1.out]
  exact hK _ brf
 ((try go_frame);refine wkQ ?_)
 iterate 4 ((try go_frame);refine wkw (b:=g1) rfl rfl (by simp) (by simp[Region.wanted,yielded]) ?_;apply Exists.intro;apply And.intro;(focus(intro hg u hR K hK;clear hR;(try simp only[hg,cond_true]at hK ⊢);go_simp;exact hK _ brf));refine⟨rfl, ?_⟩)
 try go_frame
 refine wkR ⟨.bool b4,fun u hR K hK=> ?_,rfl, ?_⟩
 ·clear hR
  have e:=Hb4.out
  cases g1<;>(simp only[Bool.true_and,Bool.false_and,Bool.true_or,Bool.false_or]at e;subst e;(try simp only[cond_true,cond_false]);go_simp;exact hK _ brf)
 ((try go_frame);refine wkQ ?_)
 iterate 9 ((try go_frame);refine wkw (b:=b4) rfl rfl (by simp) (by simp[Region.wanted,yielded]) ?_;apply Exists.intro;apply And.intro;(focus(intro hg u hR K hK;clear hR;(try simp only[hg,cond_true]at hK ⊢);go_simp;exact hK _ brf));refine⟨rfl, ?_⟩)
 try go_frame
 refine wkR ⟨.bool b5,fun u hR K hK=> ?_,rfl, ?_⟩
 ·clear hR
  have e:=Hb5.out
  cases b4<;>(simp only[Bool.true_and,Bool.false_and,Bool.true_or,Bool.false_or]at e;subst e;(try simp only[cond_true,cond_false]);go_simp;exact hK _ brf)
 ((try go_frame);refine wkQ ?_)
 iterate 7 ((try go_frame);refine wkw (b:=b5) rfl rfl (by simp) (by simp[Region.wanted,yielded]) ?_;apply Exists.intro;apply And.intro;(focus(intro hg u hR K hK;clear hR;(try simp only[hg,cond_true]at hK ⊢);go_simp;exact hK _ brf));refine⟨rfl, ?_⟩)
 try go_frame
 refine wkx (b:=b5) (p:=IsL [0,x2,x3,w]) rfl rfl (by simp) (by simp[Region.wanted,yielded]) rfl (fun hg u hR K hK=> ?_) (fun o29=> ?_)
 ·clear hR
  (try simp only[hg,cond_true]at hK ⊢)
  go_simp
  exact hK _ _ bel (aX [0,x2,x3,w] rfl)
 try go_frame
 refine wkw (b:=b5) rfl rfl (by simp) (by simp[Region.wanted,yielded]) ⟨.bool b1,fun hg u hR K hK=> ?_,rfl, ?_⟩
 ·have h29:(Gd b5 (IsL [0,x2,x3,w])) o29 u.val:=hr hR 29
  rw[hg]at h29
  clear hR
  (try simp only[hg,cond_true]at hK ⊢)
  go_simp
  refine((h1 _ _ h29).out).mono ?_
  rintro e w9 ⟨rfl,hb9⟩
  exact hK _ hb9
 try go_frame
 refine wkR ⟨.bool b6,fun u hR K hK=> ?_,rfl, ?_⟩
 ·clear hR
  have e:=Hb6.out
  cases b5<;>(simp only[Bool.true_and,Bool.false_and,Bool.true_or,Bool.false_or]at e;subst e;(try simp only[cond_true,cond_false]);go_simp;exact hK _ brf)
 ((try go_frame);refine wkQ ?_)
 iterate 7 ((try go_frame);refine wkw (b:=b6) rfl rfl (by simp) (by simp[Region.wanted,yielded]) ?_;apply Exists.intro;apply And.intro;(focus(intro hg u hR K hK;clear hR;(try simp only[hg,cond_true]at hK ⊢);go_simp;exact hK _ brf));refine⟨rfl, ?_⟩)
 try go_frame
 refine wkx (b:=b6) (p:=IsL [0,x4,x5,t]) rfl rfl (by simp) (by simp[Region.wanted,yielded]) rfl (fun hg u hR K hK=> ?_) (fun o40=> ?_)
 ·clear hR
  (try simp only[hg,cond_true]at hK ⊢)
  go_simp
  exact hK _ _ bel (aX [0,x4,x5,t] rfl)
 try go_frame
 refine wkw (b:=b6) rfl rfl (by simp) (by simp[Region.wanted,yielded]) ⟨.bool b2,fun hg u hR K hK=> ?_,rfl, ?_⟩
 ·have h40:(Gd b6 (IsL [0,x4,x5,t])) o40 u.val:=hr hR 40
  rw[hg]at h40
  clear hR
  (try simp only[hg,cond_true]at hK ⊢)
  go_simp
  refine((h2 _ _ h40).out).mono ?_
  rintro e w9 ⟨rfl,hb9⟩
  exact hK _ hb9
 try go_frame
 refine wkR ⟨.bool b7,fun u hR K hK=> ?_,rfl, ?_⟩
 ·clear hR
  have e:=Hb7.out
  cases b6<;>(simp only[Bool.true_and,Bool.false_and,Bool.true_or,Bool.false_or]at e;subst e;(try simp only[cond_true,cond_false]);go_simp;exact hK _ brf)
 try go_frame
 refine aI (fun u hR=> ?_)
 have hb':=u.below
 clear hR
 generalize u.val=w' at*
 simp only[oas]
 go_wp2
 refine NoPanic.normal ?_
 go_wp2
 go_ret
 exact⟨rfl,ae (show Below W.heap.size W _ from bel) hb'⟩
theorem vP (l w t:Int) (nv:Value) (n:List Int) (W:World) (hn:Ints W nv n) (hl:n.length=4) (hx:(-1000000≤n.getD 0 0∧n.getD 0 0≤1000000)∧(-1000000≤n.getD 1 0∧n.getD 1 0≤1000000)):
  Calls Tryz.prog 35 #[vJ 4 l w t nv] W (Ret W (.bool (aD [0,n.getD 2 0,n.getD 3 0,t]&&fj l n))):=by
 unfold vJ
 obtain⟨b,off,c,rfl,hc,zb,hi⟩:=hn.at' (by omega)
 have c0:=hi 0 (by omega)
 have c1:=hi 1 (by omega)
 have c2:=hi 2 (by omega)
 have c3:=hi 3 (by omega)
 rw[Nat.add_zero]at c0
 rw[hl]
 unfold fj
 generalize n.getD 0 0=x0 at*
 generalize n.getD 1 0=x1 at*
 generalize n.getD 2 0=x2 at*
 generalize n.getD 3 0=x3 at*
 have h1:=fun W' v (h:Ints W' v [0,x2,x3,t])=>Lib.hid (bY v [0,x2,x3,t] W' h (by simp))
 generalize aD [0,x2,x3,t]=b1 at*
 have hs:IntKind.i64.wrap (x0+x1)=x0+x1:=IntWalk.i64_in _ (by omega)
 obtain⟨g1,Hg1⟩:∃g1,Hid ((decide (0<x0))=g1):=⟨_,Lib.hid rfl⟩
 obtain⟨b4,Hb4⟩:∃b4,Hid ((g1&&decide (0≤x1))=b4):=⟨_,Lib.hid rfl⟩
 obtain⟨b5,Hb5⟩:∃b5,Hid ((b4&&decide (x0+x1<l))=b5):=⟨_,Lib.hid rfl⟩
 obtain⟨b6,Hb6⟩:∃b6,Hid ((b5&&b1)=b6):=⟨_,Lib.hid rfl⟩
 rw[show(b1&&decide (0<x0∧0≤x1∧x0+x1<l))=b6 by rw[←Hb6.out, ←Hb5.out, ←Hb4.out, ←Hg1.out,Bool.decide_and,Bool.decide_and];ac_rfl]
 clear hx
 clear hi hn hl
 go_enter Tryz.func35,Tryz.ntmps35
 go_wp2
 refine wqf fun u=> ?_
 go_wp2
 have hbu:Below W.heap.size W u.val:=bel
 have zbu:=Nat.lt_of_lt_of_le zb hbu.size
 have cu0:=ab hbu c0
 have cu1:=ab hbu c1
 have cu2:=ab hbu c2
 have cu3:=ab hbu c3
 apply aj [] [0,1,2,3,4,5,6,7,8,9,10,11,12,13,14,15,16,17,18,19,20,21,22,23,24,25,26,27,28,29,30,31] 32 [] [sv _,sv _,sv _,sv _,sv _,sv _,sv _,sv _,sv _,sv _,sv _,sv _,sv _,sv _,sv _,sv _,sv _,sv _,sv _,sv _,sv _,sv _,sv _,sv _,sv _,sv _,sv _,sv _,sv _,svg b5 [0,x2,x3,t],sv _,sv _] (by kernel_rfl) (by kernel_rfl)
 iterate 3 ((try go_frame);refine wkQ ?_)
 try go_frame
 refine wkR ⟨.bool g1,fun u hR K hK=> ?_,rfl, ?_⟩
 ·clear hR
  go_simp
  rw[Hg1.out]
  exact hK _ brf
 ((try go_frame);refine wkQ ?_)
 iterate 4 ((try go_frame);refine wkw (b:=g1) rfl rfl (by simp) (by simp[Region.wanted,yielded]) ?_;apply Exists.intro;apply And.intro;(focus(intro hg u hR K hK;clear hR;(try simp only[hg,cond_true]at hK ⊢);go_simp;exact hK _ brf));refine⟨rfl, ?_⟩)
 try go_frame
 refine wkR ⟨.bool b4,fun u hR K hK=> ?_,rfl, ?_⟩
 ·clear hR
  have e:=Hb4.out
  cases g1<;>(simp only[Bool.true_and,Bool.false_and,Bool.true_or,Bool.false_or]at e;subst e;(try simp only[cond_true,cond_false]);go_simp;exact hK _ brf)
 ((try go_frame);refine wkQ ?_)
 iterate 9 ((try go_frame);refine wkw (b:=b4) rfl rfl (by simp) (by simp[Region.wanted,yielded]) ?_;apply Exists.intro;apply And.intro;(focus(intro hg u hR K hK;clear hR;(try simp only[hg,cond_true]at hK ⊢);go_simp;exact hK _ brf));refine⟨rfl, ?_⟩)
 try go_frame
 refine wkR ⟨.bool b5,fun u hR K hK=> ?_,rfl, ?_⟩
 ·clear hR
  have e:=Hb5.out
  cases b4<;>(simp only[Bool.true_and,Bool.false_and,Bool.true_or,Bool.false_or]at e;subst e;(try simp only[cond_true,cond_false]);go_simp;exact hK _ brf)
 ((try go_frame);refine wkQ ?_)
 iterate 7 ((try go_frame);refine wkw (b:=b5) rfl rfl (by simp) (by simp[Region.wanted,yielded]) ?_;apply Exists.intro;apply And.intro;(focus(intro hg u hR K hK;clear hR;(try simp only[hg,cond_true]at hK ⊢);go_simp;exact hK _ brf));refine⟨rfl, ?_⟩)
 try go_frame
 refine wkx (b:=b5) (p:=IsL [0,x2,x3,t]) rfl rfl (by simp) (by simp[Region.wanted,yielded]) rfl (fun hg u hR K hK=> ?_) (fun o29=> ?_)
 ·clear hR
  (try simp only[hg,cond_true]at hK ⊢)
  go_simp
  exact hK _ _ bel (aX [0,x2,x3,t] rfl)
 try go_frame
 refine wkw (b:=b5) rfl rfl (by simp) (by simp[Region.wanted,yielded]) ⟨.bool b1,fun hg u hR K hK=> ?_,rfl, ?_⟩
 ·have h29:(Gd b5 (IsL [0,x2,x3,t])) o29 u.val:=hr hR 29
  rw[hg]at h29
  clear hR
  (try simp only[hg,cond_true]at hK ⊢)
  go_simp
  refine((h1 _ _ h29).out).mono ?_
  rintro e w9 ⟨rfl,hb9⟩
  exact hK _ hb9
 try go_frame
 refine wkR ⟨.bool b6,fun u hR K hK=> ?_,rfl, ?_⟩
 ·clear hR
  have e:=Hb6.out
  cases b5<;>(simp only[Bool.true_and,Bool.false_and,Bool.true_or,Bool.false_or]at e;subst e;(try simp only[cond_true,cond_false]);go_simp;exact hK _ brf)
 try go_frame
 refine aI (fun u hR=> ?_)
 have hb':=u.below
 clear hR
 generalize u.val=w' at*
 simp only[oas]
 go_wp2
 refine NoPanic.normal ?_
 go_wp2
 go_ret
 exact⟨rfl,ae (show Below W.heap.size W _ from bel) hb'⟩
theorem tI (l w t:Int) (nv:Value) (n:List Int) (W:World) (hn:Ints W nv n) (hl:n.length=5):
  Calls Tryz.prog 35 #[vJ 10 l w t nv] W (Ret W (.bool (aD [0,n.getD 0 0,t]&&aD [0,n.getD 1 0,n.getD 2 0,l]&&aD [0,n.getD 3 0,n.getD 4 0,w]))):=by
 unfold vJ
 obtain⟨b,off,c,rfl,hc,zb,hi⟩:=hn.at' (by omega)
 have c0:=hi 0 (by omega)
 have c1:=hi 1 (by omega)
 have c2:=hi 2 (by omega)
 have c3:=hi 3 (by omega)
 have c4:=hi 4 (by omega)
 rw[Nat.add_zero]at c0
 rw[hl]
 generalize n.getD 0 0=x0 at*
 generalize n.getD 1 0=x1 at*
 generalize n.getD 2 0=x2 at*
 generalize n.getD 3 0=x3 at*
 generalize n.getD 4 0=x4 at*
 have h1:=fun W' v (h:Ints W' v [0,x0,t])=>Lib.hid (bY v [0,x0,t] W' h (by simp))
 generalize aD [0,x0,t]=b1 at*
 have h2:=fun W' v (h:Ints W' v [0,x1,x2,l])=>Lib.hid (bY v [0,x1,x2,l] W' h (by simp))
 generalize aD [0,x1,x2,l]=b2 at*
 have h4:=fun W' v (h:Ints W' v [0,x3,x4,w])=>Lib.hid (bY v [0,x3,x4,w] W' h (by simp))
 generalize aD [0,x3,x4,w]=b4 at*
 obtain⟨b3,Hb3⟩:∃b3,Hid ((b1&&b2)=b3):=⟨_,Lib.hid rfl⟩
 rw[Hb3.out]
 obtain⟨b5,Hb5⟩:∃b5,Hid ((b3&&b4)=b5):=⟨_,Lib.hid rfl⟩
 rw[Hb5.out]
 clear hi hn hl
 go_enter Tryz.func35,Tryz.ntmps35
 go_wp2
 refine wqf fun u=> ?_
 go_wp2
 have hbu:Below W.heap.size W u.val:=bel
 have zbu:=Nat.lt_of_lt_of_le zb hbu.size
 have cu0:=ab hbu c0
 have cu1:=ab hbu c1
 have cu2:=ab hbu c2
 have cu3:=ab hbu c3
 have cu4:=ab hbu c4
 apply aj [] [0,1,2,3,4,5,6,7,8,9,10,11,12,13,14,15,16,17,18,19,20,21,22,23,24,25,26,27] 28 [] [sv _,sv _,sv _,sv _,svl [0,x0,t],sv _,sv _,sv _,sv _,sv _,sv _,sv _,sv _,sv _,svg b1 [0,x1,x2,l],sv _,sv _,sv _,sv _,sv _,sv _,sv _,sv _,sv _,sv _,svg b3 [0,x3,x4,w],sv _,sv _] (by kernel_rfl) (by kernel_rfl)
 iterate 4 ((try go_frame);refine wkQ ?_)
 try go_frame
 refine wkU (fun u hR K hK=> ?_) (fun o4=> ?_)
 ·clear hR
  go_simp
  exact hK _ _ bel (aX [0,x0,t] rfl)
 try go_frame
 refine wkR ⟨.bool b1,fun u hR K hK=> ?_,rfl, ?_⟩
 ·have h4:(IsL [0,x0,t]) o4 u.val:=hr hR 4
  clear hR
  go_simp
  refine((h1 _ _ h4).out).mono ?_
  rintro e w9 ⟨rfl,hb9⟩
  exact hK _ hb9
 ((try go_frame);refine wkQ ?_)
 iterate 7 ((try go_frame);refine wkw (b:=b1) rfl rfl (by simp) (by simp[Region.wanted,yielded]) ?_;apply Exists.intro;apply And.intro;(focus(intro hg u hR K hK;clear hR;(try simp only[hg,cond_true]at hK ⊢);go_simp;exact hK _ brf));refine⟨rfl, ?_⟩)
 try go_frame
 refine wkx (b:=b1) (p:=IsL [0,x1,x2,l]) rfl rfl (by simp) (by simp[Region.wanted,yielded]) rfl (fun hg u hR K hK=> ?_) (fun o14=> ?_)
 ·clear hR
  (try simp only[hg,cond_true]at hK ⊢)
  go_simp
  exact hK _ _ bel (aX [0,x1,x2,l] rfl)
 try go_frame
 refine wkw (b:=b1) rfl rfl (by simp) (by simp[Region.wanted,yielded]) ⟨.bool b2,fun hg u hR K hK=> ?_,rfl, ?_⟩
 ·have h14:(Gd b1 (IsL [0,x1,x2,l])) o14 u.val:=hr hR 14
  rw[hg]at h14
  clear hR
  (try simp only[hg,cond_true]at hK ⊢)
  go_simp
  refine((h2 _ _ h14).out).mono ?_
  rintro e w9 ⟨rfl,hb9⟩
  exact hK _ hb9
 try go_frame
 refine wkR ⟨.bool b3,fun u hR K hK=> ?_,rfl, ?_⟩
 ·clear hR
  have e:=Hb3.out
  cases b1<;>(simp only[Bool.true_and,Bool.false_and,Bool.true_or,Bool.false_or]at e;subst e;(try simp only[cond_true,cond_false]);go_simp;exact hK _ brf)
 ((try go_frame);refine wkQ ?_)
 iterate 7 ((try go_frame);refine wkw (b:=b3) rfl rfl (by simp) (by simp[Region.wanted,yielded]) ?_;apply Exists.intro;apply And.intro;(focus(intro hg u hR K hK;clear hR;(try simp only[hg,cond_true]at hK ⊢);go_simp;exact hK _ brf));refine⟨rfl, ?_⟩)
 try go_frame
 refine wkx (b:=b3) (p:=IsL [0,x3,x4,w]) rfl rfl (by simp) (by simp[Region.wanted,yielded]) rfl (fun hg u hR K hK=> ?_) (fun o25=> ?_)
 ·clear hR
  (try simp only[hg,cond_true]at hK ⊢)
  go_simp
  exact hK _ _ bel (aX [0,x3,x4,w] rfl)
 try go_frame
 refine wkw (b:=b3) rfl rfl (by simp) (by simp[Region.wanted,yielded]) ⟨.bool b4,fun hg u hR K hK=> ?_,rfl, ?_⟩
 ·have h25:(Gd b3 (IsL [0,x3,x4,w])) o25 u.val:=hr hR 25
  rw[hg]at h25
  clear hR
  (try simp only[hg,cond_true]at hK ⊢)
  go_simp
  refine((h4 _ _ h25).out).mono ?_
  rintro e w9 ⟨rfl,hb9⟩
  exact hK _ hb9
 try go_frame
 refine wkR ⟨.bool b5,fun u hR K hK=> ?_,rfl, ?_⟩
 ·clear hR
  have e:=Hb5.out
  cases b3<;>(simp only[Bool.true_and,Bool.false_and,Bool.true_or,Bool.false_or]at e;subst e;(try simp only[cond_true,cond_false]);go_simp;exact hK _ brf)
 try go_frame
 refine aI (fun u hR=> ?_)
 have hb':=u.below
 clear hR
 generalize u.val=w' at*
 simp only[oas]
 go_wp2
 refine NoPanic.normal ?_
 go_wp2
 go_ret
 exact⟨rfl,ae (show Below W.heap.size W _ from bel) hb'⟩
theorem vQ (l w t:Int) (nv:Value) (n:List Int) (W:World) (hn:Ints W nv n) (hl:n.length=5) (hL: -1000000≤l∧l≤1000000) (hx:∀x∈n, -1000000≤x∧x≤1000000):
  Calls Tryz.prog 35 #[vJ 9 l w t nv] W (Ret W (.bool (iG l w t n))):=by
 unfold vJ
 obtain⟨b,off,c,rfl,hc,zb,hi⟩:=hn.at' (by omega)
 have c0:=hi 0 (by omega)
 have c1:=hi 1 (by omega)
 have c2:=hi 2 (by omega)
 have c3:=hi 3 (by omega)
 have c4:=hi 4 (by omega)
 rw[Nat.add_zero]at c0
 rw[hl]
 unfold iG
 have q0: -1000000≤n.getD 0 0∧n.getD 0 0≤1000000:=by rw[←cS n 0 (by omega)];exact hx _ (List.getElem_mem _)
 have q1: -1000000≤n.getD 1 0∧n.getD 1 0≤1000000:=by rw[←cS n 1 (by omega)];exact hx _ (List.getElem_mem _)
 have q2: -1000000≤n.getD 2 0∧n.getD 2 0≤1000000:=by rw[←cS n 2 (by omega)];exact hx _ (List.getElem_mem _)
 generalize n.getD 0 0=x0 at*
 generalize n.getD 1 0=x1 at*
 generalize n.getD 2 0=x2 at*
 generalize n.getD 3 0=x3 at*
 generalize n.getD 4 0=x4 at*
 have h1:=fun W' v (h:Ints W' v [0,x3,x4,t])=>Lib.hid (bY v [0,x3,x4,t] W' h (by simp))
 generalize aD [0,x3,x4,t]=b1 at*
 have s1:IntKind.i64.wrap (x1+x2)=x1+x2:=IntWalk.i64_in _ (by omega)
 have s2:IntKind.i64.wrap (x0+x1)=x0+x1:=IntWalk.i64_in _ (by omega)
 have s3:IntKind.i64.wrap (x0+x1+x2)=x0+x1+x2:=IntWalk.i64_in _ (by omega)
 have s4:IntKind.i64.wrap (2*l)=2*l:=IntWalk.i64_in _ (by omega)
 obtain⟨g1,Hg1⟩:∃g1,Hid ((l==w)=g1):=⟨_,Lib.hid rfl⟩
 obtain⟨g2,Hg2⟩:∃g2,Hid ((g1&&decide (0<x1))=g2):=⟨_,Lib.hid rfl⟩
 obtain⟨g3,Hg3⟩:∃g3,Hid ((g2&&decide (0<x2))=g3):=⟨_,Lib.hid rfl⟩
 obtain⟨g4,Hg4⟩:∃g4,Hid ((g3&&decide (x1+x2≤x0))=g4):=⟨_,Lib.hid rfl⟩
 obtain⟨g5,Hg5⟩:∃g5,Hid ((g4&&decide (x0+x1+x2≤2*l))=g5):=⟨_,Lib.hid rfl⟩
 obtain⟨g6,Hg6⟩:∃g6,Hid ((g5&&b1)=g6):=⟨_,Lib.hid rfl⟩
 rw[show(decide (l=w∧0<x1∧0<x2∧x1+x2≤x0∧x0+x1+x2≤2*l)&&b1)=g6 by rw[←Hg6.out, ←Hg5.out, ←Hg4.out, ←Hg3.out, ←Hg2.out, ←Hg1.out,Bool.decide_and,Bool.decide_and,Bool.decide_and,Bool.decide_and,show decide (l=w)=(l==w)from rfl];ac_rfl]
 clear hx hL q0 q1 q2
 clear hi hn hl
 go_enter Tryz.func35,Tryz.ntmps35
 go_wp2
 refine wqf fun u=> ?_
 go_wp2
 have hbu:Below W.heap.size W u.val:=bel
 have zbu:=Nat.lt_of_lt_of_le zb hbu.size
 have cu0:=ab hbu c0
 have cu1:=ab hbu c1
 have cu2:=ab hbu c2
 have cu3:=ab hbu c3
 have cu4:=ab hbu c4
 refine wqf fun u=> ?_
 go_wp2
 have hbu:Below W.heap.size W u.val:=bel
 have zbu:=Nat.lt_of_lt_of_le zb hbu.size
 have cu0:=ab hbu c0
 have cu1:=ab hbu c1
 have cu2:=ab hbu c2
 have cu3:=ab hbu c3
 have cu4:=ab hbu c4
 apply aj [] [0,1,2,3,4,5,6,7,8,9,10,11,12,13,14,15,16,17,18,19,20,21,22,23,24,25,26,27,28,29,30,31,32,33,34,35,36,37,38] 39 [] [sv _,sv _,sv _,sv _,sv _,sv _,sv _,sv _,sv _,sv _,sv _,sv _,sv _,sv _,sv _,sv _,sv _,sv _,sv _,sv _,sv _,sv _,sv _,sv _,sv _,sv _,sv _,sv _,sv _,sv _,sv _,sv _,sv _,sv _,sv _,sv _,svg g5 [0,x3,x4,t],sv _,sv _] (by kernel_rfl) (by kernel_rfl)
 iterate 2 ((try go_frame);refine wkQ ?_)
 try go_frame
 refine wkR ⟨.bool g1,fun u hR K hK=> ?_,rfl, ?_⟩
 ·clear hR
  go_simp
  rw[Hg1.out]
  exact hK _ brf
 ((try go_frame);refine wkQ ?_)
 iterate 2 ((try go_frame);refine wkw (b:=g1) rfl rfl (by simp) (by simp[Region.wanted,yielded]) ?_;apply Exists.intro;apply And.intro;(focus(intro hg u hR K hK;clear hR;(try simp only[hg,cond_true]at hK ⊢);go_simp;exact hK _ brf));refine⟨rfl, ?_⟩)
 try go_frame
 refine wkR ⟨.bool g2,fun u hR K hK=> ?_,rfl, ?_⟩
 ·clear hR
  have e:=Hg2.out
  cases g1<;>(simp only[Bool.true_and,Bool.false_and,Bool.true_or,Bool.false_or]at e;subst e;(try simp only[cond_true,cond_false]);go_simp;exact hK _ brf)
 ((try go_frame);refine wkQ ?_)
 iterate 2 ((try go_frame);refine wkw (b:=g2) rfl rfl (by simp) (by simp[Region.wanted,yielded]) ?_;apply Exists.intro;apply And.intro;(focus(intro hg u hR K hK;clear hR;(try simp only[hg,cond_true]at hK ⊢);go_simp;exact hK _ brf));refine⟨rfl, ?_⟩)
 try go_frame
 refine wkR ⟨.bool g3,fun u hR K hK=> ?_,rfl, ?_⟩
 ·clear hR
  have e:=Hg3.out
  cases g2<;>(simp only[Bool.true_and,Bool.false_and,Bool.true_or,Bool.false_or]at e;subst e;(try simp only[cond_true,cond_false]);go_simp;exact hK _ brf)
 ((try go_frame);refine wkQ ?_)
 iterate 5 ((try go_frame);refine wkw (b:=g3) rfl rfl (by simp) (by simp[Region.wanted,yielded]) ?_;apply Exists.intro;apply And.intro;(focus(intro hg u hR K hK;clear hR;(try simp only[hg,cond_true]at hK ⊢);go_simp;exact hK _ brf));refine⟨rfl, ?_⟩)
 try go_frame
 refine wkR ⟨.bool g4,fun u hR K hK=> ?_,rfl, ?_⟩
 ·clear hR
  have e:=Hg4.out
  cases g3<;>(simp only[Bool.true_and,Bool.false_and,Bool.true_or,Bool.false_or]at e;subst e;(try simp only[cond_true,cond_false]);go_simp;exact hK _ brf)
 ((try go_frame);refine wkQ ?_)
 iterate 8 ((try go_frame);refine wkw (b:=g4) rfl rfl (by simp) (by simp[Region.wanted,yielded]) ?_;apply Exists.intro;apply And.intro;(focus(intro hg u hR K hK;clear hR;(try simp only[hg,cond_true]at hK ⊢);go_simp;exact hK _ brf));refine⟨rfl, ?_⟩)
 try go_frame
 refine wkR ⟨.bool g5,fun u hR K hK=> ?_,rfl, ?_⟩
 ·clear hR
  have e:=Hg5.out
  cases g4<;>(simp only[Bool.true_and,Bool.false_and,Bool.true_or,Bool.false_or]at e;subst e;(try simp only[cond_true,cond_false]);go_simp;exact hK _ brf)
 ((try go_frame);refine wkQ ?_)
 iterate 7 ((try go_frame);refine wkw (b:=g5) rfl rfl (by simp) (by simp[Region.wanted,yielded]) ?_;apply Exists.intro;apply And.intro;(focus(intro hg u hR K hK;clear hR;(try simp only[hg,cond_true]at hK ⊢);go_simp;exact hK _ brf));refine⟨rfl, ?_⟩)
 try go_frame
 refine wkx (b:=g5) (p:=IsL [0,x3,x4,t]) rfl rfl (by simp) (by simp[Region.wanted,yielded]) rfl (fun hg u hR K hK=> ?_) (fun o36=> ?_)
 ·clear hR
  (try simp only[hg,cond_true]at hK ⊢)
  go_simp
  exact hK _ _ bel (aX [0,x3,x4,t] rfl)
 try go_frame
 refine wkw (b:=g5) rfl rfl (by simp) (by simp[Region.wanted,yielded]) ⟨.bool b1,fun hg u hR K hK=> ?_,rfl, ?_⟩
 ·have h36:(Gd g5 (IsL [0,x3,x4,t])) o36 u.val:=hr hR 36
  rw[hg]at h36
  clear hR
  (try simp only[hg,cond_true]at hK ⊢)
  go_simp
  refine((h1 _ _ h36).out).mono ?_
  rintro e w9 ⟨rfl,hb9⟩
  exact hK _ hb9
 try go_frame
 refine wkR ⟨.bool g6,fun u hR K hK=> ?_,rfl, ?_⟩
 ·clear hR
  have e:=Hg6.out
  cases g5<;>(simp only[Bool.true_and,Bool.false_and,Bool.true_or,Bool.false_or]at e;subst e;(try simp only[cond_true,cond_false]);go_simp;exact hK _ brf)
 try go_frame
 refine aI (fun u hR=> ?_)
 have hb':=u.below
 clear hR
 generalize u.val=w' at*
 simp only[oas]
 go_wp2
 refine NoPanic.normal ?_
 go_wp2
 go_ret
 exact⟨rfl,ae (show Below W.heap.size W _ from bel) hb'⟩
end
end Go.Proofs.YtokhkhnofkcalaaGreatDoor
