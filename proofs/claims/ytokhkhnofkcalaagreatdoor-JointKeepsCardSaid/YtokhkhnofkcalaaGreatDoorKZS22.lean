/- texts: C1 C3. -/
import Derived.Test.YtokhkhnofkcalaaGreatDoorKZS19
namespace Go.Proofs.YtokhkhnofkcalaaGreatDoor
set_option maxHeartbeats 8000000
set_option linter.unusedSimpArgs false
set_option linter.unusedVariables false
section
open Go.RowKit Go.Shelf
set_option maxRecDepth 100000
attribute [local go_sem] Ext.cell Ext.frozen
theorem xZ (l w t:Int) (nv:Value) (n:List Int) (W:World) (hn:Ints W nv n) (hl:n.length=2):
  Calls Tryz.prog 97 #[vJ 1 l w t nv] W (Ret W (.bool (aD [0,n.getD 0 0,n.getD 1 0,t]))):=by
 unfold vJ
 obtain⟨b,off,c,rfl,hc,zb,hi⟩:=hn.at' (by omega)
 have c0:=hi 0 (by omega)
 have c1:=hi 1 (by omega)
 rw[Nat.add_zero]at c0
 rw[hl]
 have hr:=fun W' x y g hg=>Lib.hid (cA _ [0,x,y,t] _ (aX (W:=W') (T:=3) (g:=g) [0,x,y,t] hg) (by simp))
 generalize n.getD 0 0=x0 at*
 generalize n.getD 1 0=x1 at*
 clear hi hn hl
 go_enter Tryz.func97,Tryz.ntmps97
 go_wp2
 refine wqf fun u=> ?_
 go_wp2
 have hbu:Below W.heap.size W u.val:=bel
 have zbu:=Nat.lt_of_lt_of_le zb hbu.size
 have cu0:=ab hbu c0
 have cu1:=ab hbu c1
 refine aQ 7 (by kernel_rfl) (by kernel_rfl) ?_
 simp only[List.take_succ_cons,List.take_zero,List.drop_succ_cons,List.drop_zero]
 repeat(first|go_big_quiet_step (fail)|quiet_step (fail))
 refine wpQuiet_nil ?_
 rintro _ ⟨u,rfl⟩
 go_wp2_with fail
 refine((hr _ _ _ _ rfl).out).mono ?_
 rintro e w1 ⟨rfl,hb1⟩
 go_wp2
 go_ret
 exact⟨rfl,ae (show Below W.heap.size W u.val from bel) (ae bel hb1)⟩
theorem Bz (l w t:Int) (nv:Value) (n:List Int) (W:World) (hn:Ints W nv n) (hl:n.length=4):
  Calls Tryz.prog 97 #[vJ 2 l w t nv] W (Ret W (.bool (aD [0,n.getD 0 0,n.getD 1 0,w]&&aD [0,n.getD 2 0,n.getD 3 0,t]))):=by
 unfold vJ
 obtain⟨b,off,c,rfl,hc,zb,hi⟩:=hn.at' (by omega)
 have c0:=hi 0 (by omega)
 have c1:=hi 1 (by omega)
 have c2:=hi 2 (by omega)
 have c3:=hi 3 (by omega)
 rw[Nat.add_zero]at c0
 rw[hl]
 generalize n.getD 0 0=x0 at*
 generalize n.getD 1 0=x1 at*
 generalize n.getD 2 0=x2 at*
 generalize n.getD 3 0=x3 at*
 have h1:=fun W' v (h:Ints W' v [0,x0,x1,w])=>Lib.hid (cA v [0,x0,x1,w] W' h (by simp))
 generalize aD [0,x0,x1,w]=b1 at*
 have h2:=fun W' v (h:Ints W' v [0,x2,x3,t])=>Lib.hid (cA v [0,x2,x3,t] W' h (by simp))
 generalize aD [0,x2,x3,t]=b2 at*
 obtain⟨b3,Hb3⟩:∃b3,Hid ((b1&&b2)=b3):=⟨_,Lib.hid rfl⟩
 rw[Hb3.out]
 clear hi hn hl
 go_enter Tryz.func97,Tryz.ntmps97
 go_wp2
 refine wqf fun u=> ?_
 go_wp2
 have hbu:Below W.heap.size W u.val:=bel
 have zbu:=Nat.lt_of_lt_of_le zb hbu.size
 have cu0:=ab hbu c0
 have cu1:=ab hbu c1
 have cu2:=ab hbu c2
 have cu3:=ab hbu c3
 apply aj [] [0,1,2,3,4,5,6,7,8,9,10,11,12,13,14,15,16,17,18,19] 20 [] [sv _,sv _,sv _,sv _,sv _,sv _,sv _,svl [0,x0,x1,w],sv _,sv _,sv _,sv _,sv _,sv _,sv _,sv _,sv _,svg b1 [0,x2,x3,t],sv _,sv _] (by kernel_rfl) (by kernel_rfl)
 iterate 7 ((try go_frame);refine wkQ ?_)
 try go_frame
 refine wkU (fun u hR K hK=> ?_) (fun o7=> ?_)
 ·clear hR
  go_simp
  exact hK _ _ bel (aX [0,x0,x1,w] rfl)
 try go_frame
 refine wkR ⟨.bool b1,fun u hR K hK=> ?_,rfl, ?_⟩
 ·have h7:(IsL [0,x0,x1,w]) o7 u.val:=hr hR 7
  clear hR
  go_simp
  refine((h1 _ _ h7).out).mono ?_
  rintro e w9 ⟨rfl,hb9⟩
  exact hK _ hb9
 ((try go_frame);refine wkQ ?_)
 iterate 7 ((try go_frame);refine wkw (b:=b1) rfl rfl (by simp) (by simp[Region.wanted,yielded]) ?_;apply Exists.intro;apply And.intro;(focus(intro hg u hR K hK;clear hR;(try simp only[hg,cond_true]at hK ⊢);go_simp;exact hK _ brf));refine⟨rfl, ?_⟩)
 try go_frame
 refine wkx (b:=b1) (p:=IsL [0,x2,x3,t]) rfl rfl (by simp) (by simp[Region.wanted,yielded]) rfl (fun hg u hR K hK=> ?_) (fun o17=> ?_)
 ·clear hR
  (try simp only[hg,cond_true]at hK ⊢)
  go_simp
  exact hK _ _ bel (aX [0,x2,x3,t] rfl)
 try go_frame
 refine wkw (b:=b1) rfl rfl (by simp) (by simp[Region.wanted,yielded]) ⟨.bool b2,fun hg u hR K hK=> ?_,rfl, ?_⟩
 ·have h17:(Gd b1 (IsL [0,x2,x3,t])) o17 u.val:=hr hR 17
  rw[hg]at h17
  clear hR
  (try simp only[hg,cond_true]at hK ⊢)
  go_simp
  refine((h2 _ _ h17).out).mono ?_
  rintro e w9 ⟨rfl,hb9⟩
  exact hK _ hb9
 try go_frame
 refine wkR ⟨.bool b3,fun u hR K hK=> ?_,rfl, ?_⟩
 ·clear hR
  have e:=Hb3.out
  cases b1<;>(simp only[Bool.true_and,Bool.false_and,Bool.true_or,Bool.false_or]at e;subst e;(try simp only[cond_true,cond_false]);go_simp;exact hK _ brf)
 try go_frame
 refine aI (fun u hR=> ?_)
 have hb':=u.below
 clear hR
 generalize u.val=w' at*
 simp only[oas]
 go_wp2
 refine NoPanic.normal ?_
 go_wp2
 go_ret
 exact⟨rfl,ae (show Below W.heap.size W _ from bel) hb'⟩
theorem BA (l w t:Int) (nv:Value) (n:List Int) (W:World) (hn:Ints W nv n) (hl:n.length=6) (hx:(-1000000≤n.getD 0 0∧n.getD 0 0≤1000000)∧(-1000000≤n.getD 1 0∧n.getD 1 0≤1000000)):
  Calls Tryz.prog 97 #[vJ 3 l w t nv] W (Ret W (.bool (aD [0,n.getD 2 0,n.getD 3 0,w]&&aD [0,n.getD 4 0,n.getD 5 0,t]&&fj l n))):=by
 unfold vJ
 obtain⟨b,off,c,rfl,hc,zb,hi⟩:=hn.at' (by omega)
 have c0:=hi 0 (by omega)
 have c1:=hi 1 (by omega)
 have c2:=hi 2 (by omega)
 have c3:=hi 3 (by omega)
 have c4:=hi 4 (by omega)
 have c5:=hi 5 (by omega)
 rw[Nat.add_zero]at c0
 rw[hl]
 unfold fj
 generalize n.getD 0 0=x0 at*
 generalize n.getD 1 0=x1 at*
 generalize n.getD 2 0=x2 at*
 generalize n.getD 3 0=x3 at*
 generalize n.getD 4 0=x4 at*
 generalize n.getD 5 0=x5 at*
 have h1:=fun W' v (h:Ints W' v [0,x2,x3,w])=>Lib.hid (cA v [0,x2,x3,w] W' h (by simp))
 generalize aD [0,x2,x3,w]=b1 at*
 have h2:=fun W' v (h:Ints W' v [0,x4,x5,t])=>Lib.hid (cA v [0,x4,x5,t] W' h (by simp))
 generalize aD [0,x4,x5,t]=b2 at*
 have hs:IntKind.i64.wrap (x0+x1)=x0+x1:=IntWalk.i64_in _ (by omega)
 obtain⟨b3,Hb3⟩:∃b3,Hid ((b1&&b2)=b3):=⟨_,Lib.hid rfl⟩
 obtain⟨b4,Hb4⟩:∃b4,Hid ((b3&&decide (0<x0))=b4):=⟨_,Lib.hid rfl⟩
 obtain⟨b5,Hb5⟩:∃b5,Hid ((b4&&decide (0≤x1))=b5):=⟨_,Lib.hid rfl⟩
 obtain⟨b6,Hb6⟩:∃b6,Hid ((b5&&decide (x0+x1<l))=b6):=⟨_,Lib.hid rfl⟩
 rw[show(b1&&b2&&decide (0<x0∧0≤x1∧x0+x1<l))=b6 by rw[←Hb6.out, ←Hb5.out, ←Hb4.out, ←Hb3.out,Bool.decide_and,Bool.decide_and];ac_rfl]
 clear hx
 clear hi hn hl
 go_enter Tryz.func97,Tryz.ntmps97
 go_wp2
 refine wqf fun u=> ?_
 go_wp2
 have hbu:Below W.heap.size W u.val:=bel
 have zbu:=Nat.lt_of_lt_of_le zb hbu.size
 have cu0:=ab hbu c0
 have cu1:=ab hbu c1
 have cu2:=ab hbu c2
 have cu3:=ab hbu c3
 have cu4:=ab hbu c4
 have cu5:=ab hbu c5
 apply aj [] [0,1,2,3,4,5,6,7,8,9,10,11,12,13,14,15,16,17,18,19,20,21,22,23,24,25,26,27,28,29,30,31,32,33,34,35,36,37,38,39,40,41,42] 43 [] [sv _,sv _,sv _,sv _,sv _,sv _,sv _,svl [0,x2,x3,w],sv _,sv _,sv _,sv _,sv _,sv _,sv _,sv _,sv _,svg b1 [0,x4,x5,t],sv _,sv _,sv _,sv _,sv _,sv _,sv _,sv _,sv _,sv _,sv _,sv _,sv _,sv _,sv _,sv _,sv _,sv _,sv _,sv _,sv _,sv _,sv _,sv _,sv _] (by kernel_rfl) (by kernel_rfl)
 iterate 7 ((try go_frame);refine wkQ ?_)
 try go_frame
 refine wkU (fun u hR K hK=> ?_) (fun o7=> ?_)
 ·clear hR
  go_simp
  exact hK _ _ bel (aX [0,x2,x3,w] rfl)
 try go_frame
 refine wkR ⟨.bool b1,fun u hR K hK=> ?_,rfl, ?_⟩
 ·have h7:(IsL [0,x2,x3,w]) o7 u.val:=hr hR 7
  clear hR
  go_simp
  refine((h1 _ _ h7).out).mono ?_
  rintro e w9 ⟨rfl,hb9⟩
  exact hK _ hb9
 ((try go_frame);refine wkQ ?_)
 iterate 7 ((try go_frame);refine wkw (b:=b1) rfl rfl (by simp) (by simp[Region.wanted,yielded]) ?_;apply Exists.intro;apply And.intro;(focus(intro hg u hR K hK;clear hR;(try simp only[hg,cond_true]at hK ⊢);go_simp;exact hK _ brf));refine⟨rfl, ?_⟩)
 try go_frame
 refine wkx (b:=b1) (p:=IsL [0,x4,x5,t]) rfl rfl (by simp) (by simp[Region.wanted,yielded]) rfl (fun hg u hR K hK=> ?_) (fun o17=> ?_)
 ·clear hR
  (try simp only[hg,cond_true]at hK ⊢)
  go_simp
  exact hK _ _ bel (aX [0,x4,x5,t] rfl)
 try go_frame
 refine wkw (b:=b1) rfl rfl (by simp) (by simp[Region.wanted,yielded]) ⟨.bool b2,fun hg u hR K hK=> ?_,rfl, ?_⟩
 ·have h17:(Gd b1 (IsL [0,x4,x5,t])) o17 u.val:=hr hR 17
  rw[hg]at h17
  clear hR
  (try simp only[hg,cond_true]at hK ⊢)
  go_simp
  refine((h2 _ _ h17).out).mono ?_
  rintro e w9 ⟨rfl,hb9⟩
  exact hK _ hb9
 try go_frame
 refine wkR ⟨.bool b3,fun u hR K hK=> ?_,rfl, ?_⟩
 ·clear hR
  have e:=Hb3.out
  cases b1<;>(simp only[Bool.true_and,Bool.false_and,Bool.true_or,Bool.false_or]at e;subst e;(try simp only[cond_true,cond_false]);go_simp;exact hK _ brf)
 ((try go_frame);refine wkQ ?_)
 iterate 4 ((try go_frame);refine wkw (b:=b3) rfl rfl (by simp) (by simp[Region.wanted,yielded]) ?_;apply Exists.intro;apply And.intro;(focus(intro hg u hR K hK;clear hR;(try simp only[hg,cond_true]at hK ⊢);go_simp;exact hK _ brf));refine⟨rfl, ?_⟩)
 try go_frame
 refine wkR ⟨.bool b4,fun u hR K hK=> ?_,rfl, ?_⟩
 ·clear hR
  have e:=Hb4.out
  cases b3<;>(simp only[Bool.true_and,Bool.false_and,Bool.true_or,Bool.false_or]at e;subst e;(try simp only[cond_true,cond_false]);go_simp;exact hK _ brf)
 ((try go_frame);refine wkQ ?_)
 iterate 4 ((try go_frame);refine wkw (b:=b4) rfl rfl (by simp) (by simp[Region.wanted,yielded]) ?_;apply Exists.intro;apply And.intro;(focus(intro hg u hR K hK;clear hR;(try simp only[hg,cond_true]at hK ⊢);go_simp;exact hK _ brf));refine⟨rfl, ?_⟩)
 try go_frame
 refine wkR ⟨.bool b5,fun u hR K hK=> ?_,rfl, ?_⟩
 ·clear hR
  have e:=Hb5.out
  cases b4<;>(simp only[Bool.true_and,Bool.false_and,Bool.true_or,Bool.false_or]at e;subst e;(try simp only[cond_true,cond_false]);go_simp;exact hK _ brf)
 ((try go_frame);refine wkQ ?_)
 iterate 9 ((try go_frame);refine wkw (b:=b5) rfl rfl (by simp) (by simp[Region.wanted,yielded]) ?_;apply Exists.intro;apply And.intro;(focus(intro hg u hR K hK;clear hR;(try simp only[hg,cond_true]at hK ⊢);go_simp;exact hK _ brf));refine⟨rfl, ?_⟩)
 try go_frame
 refine wkR ⟨.bool b6,fun u hR K hK=> ?_,rfl, ?_⟩
 ·clear hR
  have e:=Hb6.out
  cases b5<;>(simp only[Bool.true_and,Bool.false_and,Bool.true_or,Bool.false_or]at e;subst e;(try simp only[cond_true,cond_false]);go_simp;exact hK _ brf)
 try go_frame
 refine aI (fun u hR=> ?_)
 have hb':=u.below
 clear hR
 generalize u.val=w' at*
 simp only[oas]
 go_wp2
 refine NoPanic.normal ?_
 go_wp2
 go_ret
 exact⟨rfl,ae (show Below W.heap.size W _ from bel) hb'⟩
theorem BB (l w t:Int) (nv:Value) (n:List Int) (W:World) (hn:Ints W nv n) (hl:n.length=4) (hx:(-1000000≤n.getD 0 0∧n.getD 0 0≤1000000)∧(-1000000≤n.getD 1 0∧n.getD 1 0≤1000000)):
  Calls Tryz.prog 97 #[vJ 4 l w t nv] W (Ret W (.bool (aD [0,n.getD 2 0,n.getD 3 0,t]&&fj l n))):=by
 unfold vJ
 obtain⟨b,off,c,rfl,hc,zb,hi⟩:=hn.at' (by omega)
 have c0:=hi 0 (by omega)
 have c1:=hi 1 (by omega)
 have c2:=hi 2 (by omega)
 have c3:=hi 3 (by omega)
 rw[Nat.add_zero]at c0
 rw[hl]
 unfold fj
 generalize n.getD 0 0=x0 at*
 generalize n.getD 1 0=x1 at*
 generalize n.getD 2 0=x2 at*
 generalize n.getD 3 0=x3 at*
 have h1:=fun W' v (h:Ints W' v [0,x2,x3,t])=>Lib.hid (cA v [0,x2,x3,t] W' h (by simp))
 generalize aD [0,x2,x3,t]=b1 at*
 have hs:IntKind.i64.wrap (x0+x1)=x0+x1:=IntWalk.i64_in _ (by omega)
 obtain⟨b4,Hb4⟩:∃b4,Hid ((b1&&decide (0<x0))=b4):=⟨_,Lib.hid rfl⟩
 obtain⟨b5,Hb5⟩:∃b5,Hid ((b4&&decide (0≤x1))=b5):=⟨_,Lib.hid rfl⟩
 obtain⟨b6,Hb6⟩:∃b6,Hid ((b5&&decide (x0+x1<l))=b6):=⟨_,Lib.hid rfl⟩
 rw[show(b1&&decide (0<x0∧0≤x1∧x0+x1<l))=b6 by rw[←Hb6.out, ←Hb5.out, ←Hb4.out,Bool.decide_and,Bool.decide_and];ac_rfl]
 clear hx
 clear hi hn hl
 go_enter Tryz.func97,Tryz.ntmps97
 go_wp2
 refine wqf fun u=> ?_
 go_wp2
 have hbu:Below W.heap.size W u.val:=bel
 have zbu:=Nat.lt_of_lt_of_le zb hbu.size
 have cu0:=ab hbu c0
 have cu1:=ab hbu c1
 have cu2:=ab hbu c2
 have cu3:=ab hbu c3
 apply aj [] [0,1,2,3,4,5,6,7,8,9,10,11,12,13,14,15,16,17,18,19,20,21,22,23,24,25,26,27,28,29,30,31] 32 [] [sv _,sv _,sv _,sv _,sv _,sv _,sv _,svl [0,x2,x3,t],sv _,sv _,sv _,sv _,sv _,sv _,sv _,sv _,sv _,sv _,sv _,sv _,sv _,sv _,sv _,sv _,sv _,sv _,sv _,sv _,sv _,sv _,sv _,sv _] (by kernel_rfl) (by kernel_rfl)
 iterate 7 ((try go_frame);refine wkQ ?_)
 try go_frame
 refine wkU (fun u hR K hK=> ?_) (fun o7=> ?_)
 ·clear hR
  go_simp
  exact hK _ _ bel (aX [0,x2,x3,t] rfl)
 try go_frame
 refine wkR ⟨.bool b1,fun u hR K hK=> ?_,rfl, ?_⟩
 ·have h7:(IsL [0,x2,x3,t]) o7 u.val:=hr hR 7
  clear hR
  go_simp
  refine((h1 _ _ h7).out).mono ?_
  rintro e w9 ⟨rfl,hb9⟩
  exact hK _ hb9
 ((try go_frame);refine wkQ ?_)
 iterate 4 ((try go_frame);refine wkw (b:=b1) rfl rfl (by simp) (by simp[Region.wanted,yielded]) ?_;apply Exists.intro;apply And.intro;(focus(intro hg u hR K hK;clear hR;(try simp only[hg,cond_true]at hK ⊢);go_simp;exact hK _ brf));refine⟨rfl, ?_⟩)
 try go_frame
 refine wkR ⟨.bool b4,fun u hR K hK=> ?_,rfl, ?_⟩
 ·clear hR
  have e:=Hb4.out
  cases b1<;>(simp only[Bool.true_and,Bool.false_and,Bool.true_or,Bool.false_or]at e;subst e;(try simp only[cond_true,cond_false]);go_simp;exact hK _ brf)
 ((try go_frame);refine wkQ ?_)
 iterate 4 ((try go_frame);refine wkw (b:=b4) rfl rfl (by simp) (by simp[Region.wanted,yielded]) ?_;apply Exists.intro;apply And.intro;(focus(intro hg u hR K hK;clear hR;(try simp only[hg,cond_true]at hK ⊢);go_simp;exact hK _ brf));refine⟨rfl, ?_⟩)
 try go_frame
 refine wkR ⟨.bool b5,fun u hR K hK=> ?_,rfl, ?_⟩
 ·clear hR
  have e:=Hb5.out
  cases b4<;>(simp only[Bool.true_and,Bool.false_and,Bool.true_or,Bool.false_or]at e;subst e;(try simp only[cond_true,cond_false]);go_simp;exact hK _ brf)
 ((try go_frame);refine wkQ ?_)
 iterate 9 ((try go_frame);refine wkw (b:=b5) rfl rfl (by simp) (by simp[Region.wanted,yielded]) ?_;apply Exists.intro;apply And.intro;(focus(intro hg u hR K hK;clear hR;(try simp only[hg,cond_true]at hK ⊢);go_simp;exact hK _ brf));refine⟨rfl, ?_⟩)
 try go_frame
 refine wkR ⟨.bool b6,fun u hR K hK=> ?_,rfl, ?_⟩
 ·clear hR
  have e:=Hb6.out
  cases b5<;>(simp only[Bool.true_and,Bool.false_and,Bool.true_or,Bool.false_or]at e;subst e;(try simp only[cond_true,cond_false]);go_simp;exact hK _ brf)
 try go_frame
 refine aI (fun u hR=> ?_)
 have hb':=u.below
 clear hR
 generalize u.val=w' at*
 simp only[oas]
 go_wp2
 refine NoPanic.normal ?_
 go_wp2
 go_ret
 exact⟨rfl,ae (show Below W.heap.size W _ from bel) hb'⟩
theorem vR (l w t:Int) (nv:Value) (n:List Int) (W:World) (hn:Ints W nv n) (hl:n.length=5):
  Calls Tryz.prog 97 #[vJ 10 l w t nv] W (Ret W (.bool (aD [0,n.getD 0 0,t]&&aD [0,n.getD 1 0,n.getD 2 0,l]&&aD [0,n.getD 3 0,n.getD 4 0,w]))):=by
 unfold vJ
 obtain⟨b,off,c,rfl,hc,zb,hi⟩:=hn.at' (by omega)
 have c0:=hi 0 (by omega)
 have c1:=hi 1 (by omega)
 have c2:=hi 2 (by omega)
 have c3:=hi 3 (by omega)
 have c4:=hi 4 (by omega)
 rw[Nat.add_zero]at c0
 rw[hl]
 generalize n.getD 0 0=x0 at*
 generalize n.getD 1 0=x1 at*
 generalize n.getD 2 0=x2 at*
 generalize n.getD 3 0=x3 at*
 generalize n.getD 4 0=x4 at*
 have h1:=fun W' v (h:Ints W' v [0,x0,t])=>Lib.hid (cA v [0,x0,t] W' h (by simp))
 generalize aD [0,x0,t]=b1 at*
 have h2:=fun W' v (h:Ints W' v [0,x1,x2,l])=>Lib.hid (cA v [0,x1,x2,l] W' h (by simp))
 generalize aD [0,x1,x2,l]=b2 at*
 have h4:=fun W' v (h:Ints W' v [0,x3,x4,w])=>Lib.hid (cA v [0,x3,x4,w] W' h (by simp))
 generalize aD [0,x3,x4,w]=b4 at*
 obtain⟨b3,Hb3⟩:∃b3,Hid ((b1&&b2)=b3):=⟨_,Lib.hid rfl⟩
 rw[Hb3.out]
 obtain⟨b5,Hb5⟩:∃b5,Hid ((b3&&b4)=b5):=⟨_,Lib.hid rfl⟩
 rw[Hb5.out]
 clear hi hn hl
 go_enter Tryz.func97,Tryz.ntmps97
 go_wp2
 refine wqf fun u=> ?_
 go_wp2
 have hbu:Below W.heap.size W u.val:=bel
 have zbu:=Nat.lt_of_lt_of_le zb hbu.size
 have cu0:=ab hbu c0
 have cu1:=ab hbu c1
 have cu2:=ab hbu c2
 have cu3:=ab hbu c3
 have cu4:=ab hbu c4
 apply aj [] [0,1,2,3,4,5,6,7,8,9,10,11,12,13,14,15,16,17,18,19,20,21,22,23,24,25,26,27] 28 [] [sv _,sv _,sv _,sv _,svl [0,x0,t],sv _,sv _,sv _,sv _,sv _,sv _,sv _,sv _,sv _,svg b1 [0,x1,x2,l],sv _,sv _,sv _,sv _,sv _,sv _,sv _,sv _,sv _,sv _,svg b3 [0,x3,x4,w],sv _,sv _] (by kernel_rfl) (by kernel_rfl)
 iterate 4 ((try go_frame);refine wkQ ?_)
 try go_frame
 refine wkU (fun u hR K hK=> ?_) (fun o4=> ?_)
 ·clear hR
  go_simp
  exact hK _ _ bel (aX [0,x0,t] rfl)
 try go_frame
 refine wkR ⟨.bool b1,fun u hR K hK=> ?_,rfl, ?_⟩
 ·have h4:(IsL [0,x0,t]) o4 u.val:=hr hR 4
  clear hR
  go_simp
  refine((h1 _ _ h4).out).mono ?_
  rintro e w9 ⟨rfl,hb9⟩
  exact hK _ hb9
 ((try go_frame);refine wkQ ?_)
 iterate 7 ((try go_frame);refine wkw (b:=b1) rfl rfl (by simp) (by simp[Region.wanted,yielded]) ?_;apply Exists.intro;apply And.intro;(focus(intro hg u hR K hK;clear hR;(try simp only[hg,cond_true]at hK ⊢);go_simp;exact hK _ brf));refine⟨rfl, ?_⟩)
 try go_frame
 refine wkx (b:=b1) (p:=IsL [0,x1,x2,l]) rfl rfl (by simp) (by simp[Region.wanted,yielded]) rfl (fun hg u hR K hK=> ?_) (fun o14=> ?_)
 ·clear hR
  (try simp only[hg,cond_true]at hK ⊢)
  go_simp
  exact hK _ _ bel (aX [0,x1,x2,l] rfl)
 try go_frame
 refine wkw (b:=b1) rfl rfl (by simp) (by simp[Region.wanted,yielded]) ⟨.bool b2,fun hg u hR K hK=> ?_,rfl, ?_⟩
 ·have h14:(Gd b1 (IsL [0,x1,x2,l])) o14 u.val:=hr hR 14
  rw[hg]at h14
  clear hR
  (try simp only[hg,cond_true]at hK ⊢)
  go_simp
  refine((h2 _ _ h14).out).mono ?_
  rintro e w9 ⟨rfl,hb9⟩
  exact hK _ hb9
 try go_frame
 refine wkR ⟨.bool b3,fun u hR K hK=> ?_,rfl, ?_⟩
 ·clear hR
  have e:=Hb3.out
  cases b1<;>(simp only[Bool.true_and,Bool.false_and,Bool.true_or,Bool.false_or]at e;subst e;(try simp only[cond_true,cond_false]);go_simp;exact hK _ brf)
 ((try go_frame);refine wkQ ?_)
 iterate 7 ((try go_frame);refine wkw (b:=b3) rfl rfl (by simp) (by simp[Region.wanted,yielded]) ?_;apply Exists.intro;apply And.intro;(focus(intro hg u hR K hK;clear hR;(try simp only[hg,cond_true]at hK ⊢);go_simp;exact hK _ brf));refine⟨rfl, ?_⟩)
 try go_frame
 refine wkx (b:=b3) (p:=IsL [0,x3,x4,w]) rfl rfl (by simp) (by simp[Region.wanted,yielded]) rfl (fun hg u hR K hK=> ?_) (fun o25=> ?_)
 ·clear hR
  (try simp only[hg,cond_true]at hK ⊢)
  go_simp
  exact hK _ _ bel (aX [0,x3,x4,w] rfl)
 try go_frame
 refine wkw (b:=b3) rfl rfl (by simp) (by simp[Region.wanted,yielded]) ⟨.bool b4,fun hg u hR K hK=> ?_,rfl, ?_⟩
 ·have h25:(Gd b3 (IsL [0,x3,x4,w])) o25 u.val:=hr hR 25
  rw[hg]at h25
  clear hR
  (try simp only[hg,cond_true]at hK ⊢)
  go_simp
  refine((h4 _ _ h25).out).mono ?_
  rintro e w9 ⟨rfl,hb9⟩
  exact hK _ hb9
 try go_frame
 refine wkR ⟨.bool b5,fun u hR K hK=> ?_,rfl, ?_⟩
 ·clear hR
  have e:=Hb5.out
  cases b3<;>(simp only[Bool.true_and,Bool.false_and,Bool.true_or,Bool.false_or]at e;subst e;(try simp only[cond_true,cond_false]);go_simp;exact hK _ brf)
 try go_frame
 refine aI (fun u hR=> ?_)
 have hb':=u.below
 clear hR
 generalize u.val=w' at*
 simp only[oas]
 go_wp2
 refine NoPanic.normal ?_
 go_wp2
 go_ret
 exact⟨rfl,ae (show Below W.heap.size W _ from bel) hb'⟩
theorem BC (l w t:Int) (nv:Value) (n:List Int) (W:World) (hn:Ints W nv n) (hl:n.length=5) (hL: -1000000≤l∧l≤1000000) (hx:∀x∈n, -1000000≤x∧x≤1000000):
  Calls Tryz.prog 97 #[vJ 9 l w t nv] W (Ret W (.bool (iG l w t n))):=by
 unfold vJ
 obtain⟨b,off,c,rfl,hc,zb,hi⟩:=hn.at' (by omega)
 have c0:=hi 0 (by omega)
 have c1:=hi 1 (by omega)
 have c2:=hi 2 (by omega)
 have c3:=hi 3 (by omega)
 have c4:=hi 4 (by omega)
 rw[Nat.add_zero]at c0
 rw[hl]
 unfold iG
 have q0: -1000000≤n.getD 0 0∧n.getD 0 0≤1000000:=by rw[←cS n 0 (by omega)];exact hx _ (List.getElem_mem _)
 have q1: -1000000≤n.getD 1 0∧n.getD 1 0≤1000000:=by rw[←cS n 1 (by omega)];exact hx _ (List.getElem_mem _)
 have q2: -1000000≤n.getD 2 0∧n.getD 2 0≤1000000:=by rw[←cS n 2 (by omega)];exact hx _ (List.getElem_mem _)
 generalize n.getD 0 0=x0 at*
 generalize n.getD 1 0=x1 at*
 generalize n.getD 2 0=x2 at*
 generalize n.getD 3 0=x3 at*
 generalize n.getD 4 0=x4 at*
 have h1:=fun W' v (h:Ints W' v [0,x3,x4,t])=>Lib.hid (cA v [0,x3,x4,t] W' h (by simp))
 generalize aD [0,x3,x4,t]=b1 at*
 have s1:IntKind.i64.wrap (x1+x2)=x1+x2:=IntWalk.i64_in _ (by omega)
 have s2:IntKind.i64.wrap (x0+x1)=x0+x1:=IntWalk.i64_in _ (by omega)
 have s3:IntKind.i64.wrap (x0+x1+x2)=x0+x1+x2:=IntWalk.i64_in _ (by omega)
 have s4:IntKind.i64.wrap (2*l)=2*l:=IntWalk.i64_in _ (by omega)
 obtain⟨g1,Hg1⟩:∃g1,Hid ((l==w)=g1):=⟨_,Lib.hid rfl⟩
 obtain⟨g2,Hg2⟩:∃g2,Hid ((g1&&decide (0<x1))=g2):=⟨_,Lib.hid rfl⟩
 obtain⟨g3,Hg3⟩:∃g3,Hid ((g2&&decide (0<x2))=g3):=⟨_,Lib.hid rfl⟩
 obtain⟨g4,Hg4⟩:∃g4,Hid ((g3&&decide (x1+x2≤x0))=g4):=⟨_,Lib.hid rfl⟩
 obtain⟨g5,Hg5⟩:∃g5,Hid ((g4&&decide (x0+x1+x2≤2*l))=g5):=⟨_,Lib.hid rfl⟩
 obtain⟨g6,Hg6⟩:∃g6,Hid ((g5&&b1)=g6):=⟨_,Lib.hid rfl⟩
 rw[show(decide (l=w∧0<x1∧0<x2∧x1+x2≤x0∧x0+x1+x2≤2*l)&&b1)=g6 by rw[←Hg6.out, ←Hg5.out, ←Hg4.out, ←Hg3.out, ←Hg2.out, ←Hg1.out,Bool.decide_and,Bool.decide_and,Bool.decide_and,Bool.decide_and,show decide (l=w)=(l==w)from rfl];ac_rfl]
 clear hx hL q0 q1 q2
 clear hi hn hl
 go_enter Tryz.func97,Tryz.ntmps97
 go_wp2
 refine wqf fun u=> ?_
 go_wp2
 have hbu:Below W.heap.size W u.val:=bel
 have zbu:=Nat.lt_of_lt_of_le zb hbu.size
 have cu0:=ab hbu c0
 have cu1:=ab hbu c1
 have cu2:=ab hbu c2
 have cu3:=ab hbu c3
 have cu4:=ab hbu c4
 refine wqf fun u=> ?_
 go_wp2
 have hbu:Below W.heap.size W u.val:=bel
 have zbu:=Nat.lt_of_lt_of_le zb hbu.size
 have cu0:=ab hbu c0
 have cu1:=ab hbu c1
 have cu2:=ab hbu c2
 have cu3:=ab hbu c3
 have cu4:=ab hbu c4
 apply aj [] [0,1,2,3,4,5,6,7,8,9,10,11,12,13,14,15,16,17,18,19,20,21,22,23,24,25,26,27,28,29,30,31,32,33,34,35,36,37,38] 39 [] [sv _,sv _,sv _,sv _,sv _,sv _,sv _,sv _,sv _,sv _,sv _,sv _,sv _,sv _,sv _,sv _,sv _,sv _,sv _,sv _,sv _,sv _,sv _,sv _,sv _,sv _,sv _,sv _,sv _,sv _,sv _,sv _,sv _,sv _,sv _,sv _,svg g5 [0,x3,x4,t],sv _,sv _] (by kernel_rfl) (by kernel_rfl)
 iterate 2 ((try go_frame);refine wkQ ?_)
 try go_frame
 refine wkR ⟨.bool g1,fun u hR K hK=> ?_,rfl, ?_⟩
 ·clear hR
  go_simp
  rw[Hg1.out]
  exact hK _ brf
 ((try go_frame);refine wkQ ?_)
 iterate 2 ((try go_frame);refine wkw (b:=g1) rfl rfl (by simp) (by simp[Region.wanted,yielded]) ?_;apply Exists.intro;apply And.intro;(focus(intro hg u hR K hK;clear hR;(try simp only[hg,cond_true]at hK ⊢);go_simp;exact hK _ brf));refine⟨rfl, ?_⟩)
 try go_frame
 refine wkR ⟨.bool g2,fun u hR K hK=> ?_,rfl, ?_⟩
 ·clear hR
  have e:=Hg2.out
  cases g1<;>(simp only[Bool.true_and,Bool.false_and,Bool.true_or,Bool.false_or]at e;subst e;(try simp only[cond_true,cond_false]);go_simp;exact hK _ brf)
 ((try go_frame);refine wkQ ?_)
 iterate 2 ((try go_frame);refine wkw (b:=g2) rfl rfl (by simp) (by simp[Region.wanted,yielded]) ?_;apply Exists.intro;apply And.intro;(focus(intro hg u hR K hK;clear hR;(try simp only[hg,cond_true]at hK ⊢);go_simp;exact hK _ brf));refine⟨rfl, ?_⟩)
 try go_frame
 refine wkR ⟨.bool g3,fun u hR K hK=> ?_,rfl, ?_⟩
 ·clear hR
  have e:=Hg3.out
  cases g2<;>(simp only[Bool.true_and,Bool.false_and,Bool.true_or,Bool.false_or]at e;subst e;(try simp only[cond_true,cond_false]);go_simp;exact hK _ brf)
 ((try go_frame);refine wkQ ?_)
 iterate 5 ((try go_frame);refine wkw (b:=g3) rfl rfl (by simp) (by simp[Region.wanted,yielded]) ?_;apply Exists.intro;apply And.intro;(focus(intro hg u hR K hK;clear hR;(try simp only[hg,cond_true]at hK ⊢);go_simp;exact hK _ brf));refine⟨rfl, ?_⟩)
 try go_frame
 refine wkR ⟨.bool g4,fun u hR K hK=> ?_,rfl, ?_⟩
 ·clear hR
  have e:=Hg4.out
  cases g3<;>(simp only[Bool.true_and,Bool.false_and,Bool.true_or,Bool.false_or]at e;subst e;(try simp only[cond_true,cond_false]);go_simp;exact hK _ brf)
 ((try go_frame);refine wkQ ?_)
 iterate 8 ((try go_frame);refine wkw (b:=g4) rfl rfl (by simp) (by simp[Region.wanted,yielded]) ?_;apply Exists.intro;apply And.intro;(focus(intro hg u hR K hK;clear hR;(try simp only[hg,cond_true]at hK ⊢);go_simp;exact hK _ brf));refine⟨rfl, ?_⟩)
 try go_frame
 refine wkR ⟨.bool g5,fun u hR K hK=> ?_,rfl, ?_⟩
 ·clear hR
  have e:=Hg5.out
  cases g4<;>(simp only[Bool.true_and,Bool.false_and,Bool.true_or,Bool.false_or]at e;subst e;(try simp only[cond_true,cond_false]);go_simp;exact hK _ brf)
 ((try go_frame);refine wkQ ?_)
 iterate 7 ((try go_frame);refine wkw (b:=g5) rfl rfl (by simp) (by simp[Region.wanted,yielded]) ?_;apply Exists.intro;apply And.intro;(focus(intro hg u hR K hK;clear hR;(try simp only[hg,cond_true]at hK ⊢);go_simp;exact hK _ brf));refine⟨rfl, ?_⟩)
 try go_frame
 refine wkx (b:=g5) (p:=IsL [0,x3,x4,t]) rfl rfl (by simp) (by simp[Region.wanted,yielded]) rfl (fun hg u hR K hK=> ?_) (fun o36=> ?_)
 ·clear hR
  (try simp only[hg,cond_true]at hK ⊢)
  go_simp
  exact hK _ _ bel (aX [0,x3,x4,t] rfl)
 try go_frame
 refine wkw (b:=g5) rfl rfl (by simp) (by simp[Region.wanted,yielded]) ⟨.bool b1,fun hg u hR K hK=> ?_,rfl, ?_⟩
 ·have h36:(Gd g5 (IsL [0,x3,x4,t])) o36 u.val:=hr hR 36
  rw[hg]at h36
  clear hR
  (try simp only[hg,cond_true]at hK ⊢)
  go_simp
  refine((h1 _ _ h36).out).mono ?_
  rintro e w9 ⟨rfl,hb9⟩
  exact hK _ hb9
 try go_frame
 refine wkR ⟨.bool g6,fun u hR K hK=> ?_,rfl, ?_⟩
 ·clear hR
  have e:=Hg6.out
  cases g5<;>(simp only[Bool.true_and,Bool.false_and,Bool.true_or,Bool.false_or]at e;subst e;(try simp only[cond_true,cond_false]);go_simp;exact hK _ brf)
 try go_frame
 refine aI (fun u hR=> ?_)
 have hb':=u.below
 clear hR
 generalize u.val=w' at*
 simp only[oas]
 go_wp2
 refine NoPanic.normal ?_
 go_wp2
 go_ret
 exact⟨rfl,ae (show Below W.heap.size W _ from bel) hb'⟩
end
section
open Go.RowKit Go.Shelf
attribute [local go_sem] Ext.cell Ext.frozen
theorem tJ (ps:List (Int×Int)):(ps.flatMap iL).length=ps.length*2:=by
 induction ps with
 |nil=>rfl
 |cons p ps ih=>simp[iL]at ih ⊢;omega
theorem ry {w:World} {base g cap m:Nat} {T:TypeId} {ps:List (Int×Int)} (h:w.ownsRow base T 2 (.slice (some ⟨g,0,none⟩) m cap) m (ps.flatMap iL)) (i:Nat) (hi:i<ps.length):
  w.cell? ⟨g,i*2,none⟩=some (.int .i64 ps[i].1)∧w.cell? ⟨g,i*2+1,none⟩=some (.int .i64 ps[i].2):=by
 rcases h.2 with⟨h,_⟩|⟨g',cap',cur,h,hb,hh,hc,hm,hcs,ht⟩
 ·cases h
 ·cases h
  have key:∀j,j<2→w.cell? ⟨g,i*2+j,none⟩=(iL ps[i])[j]? :=fun j hj=>by
   rw[ag hh, ←eQ iL 2 (fun _=>rfl) ps i hi j hj, ←ht,List.getElem?_take_of_lt (by
    have:=h.1
    have hl:=tJ ps
    omega),Array.getElem?_toList]
  exact⟨key 0 (by omega),key 1 (by omega)⟩
theorem vS (a b c:Int):aD [a,b,c]=decide (a<b∧b<c):=by simp[aD,Bool.decide_and]
set_option maxRecDepth 100000 in
theorem lF (l w t:Int) (v:Value) (xs:List Int) (W:World) (m:Nat) (hx:Ints W v xs) (hm:xs.length=6+2*m) (h1:1≤m) (hl:m≤1000)
  (hb:∀x∈xs, -1000000≤x∧x≤1000000) (hL: -1000000≤l∧l≤1000000) (hT: -1000000≤t∧t≤1000000):
  Calls Tryz.prog 135 #[.agg #[.int .i64 l, .int .i64 w, .int .i64 t],v] W (Ret W (.bool (bQ l w t xs))):=by
 have HH:=fun W' h=>Lib.hid (ki v xs W' m (hx.below (w':=W') h) hm (by omega))
 obtain⟨b,off,c,rfl,hc,zb,hi⟩:=hx.at' (by omega)
 have c0:=hi 0 (by omega)
 have c1:=hi 1 (by omega)
 have c2:=hi 2 (by omega)
 have c3:=hi 3 (by omega)
 have c4:=hi 4 (by omega)
 have c5:=hi 5 (by omega)
 rw[Nat.add_zero]at c0
 have hB:∀i,i<xs.length→ -1000000≤xs.getD i 0∧xs.getD i 0≤1000000:=fun i h=>by rw[←cS xs i h];exact hb _ (List.getElem_mem h)
 have HB:=Lib.hid hB
 have b0:=hB 0 (by omega)
 have b1:=hB 1 (by omega)
 have b2:=hB 2 (by omega)
 have b3:=hB 3 (by omega)
 have b4:=hB 4 (by omega)
 have b5:=hB 5 (by omega)
 have Hmm:Hid ((xs.length-6) / 2=m):=Lib.hid (by omega)
 have Hhead:Hid (dW l xs=(aD [0,xs.getD 1 0,xs.getD 2 0,2*xs.getD 1 0]&&decide (0<xs.getD 3 0∧0<xs.getD 4 0∧0≤xs.getD 5 0∧xs.getD 4 0+xs.getD 5 0<xs.getD 0 0∧xs.getD 0 0+xs.getD 3 0+xs.getD 5 0<l))):=Lib.hid rfl
 have Hno1:Hid (dW l xs=false→bQ l w t xs=false):=Lib.hid kX
 have Hno2:Hid (∀i,i<m→eZ t xs i=false→bQ l w t xs=false):=Lib.hid (fun i h=>kY i (by rw[Hmm.out];exact h))
 have Hend:Hid (dW l xs=true→(∀i,i<m→eZ t xs i=true)→bQ l w t xs=decide (bV xs m+xs.getD 1 0<w)):=Lib.hid (fun h1 h2=>by rw[kZ h1 (by rw[Hmm.out];exact h2),Hmm.out])
 have Hok:Hid (∀i,eZ t xs i=(decide (bV xs i+2*xs.getD 1 0<xs.getD (6+2*i) 0)&&decide (xs.getD 1 0<xs.getD (7+2*i) 0∧xs.getD (7+2*i) 0<t-xs.getD 1 0))):=Lib.hid (fun i=>rfl)
 have Hp0:Hid (bV xs 0= -(xs.getD 1 0)):=Lib.hid (by simp[bV])
 have Hps:Hid (∀i,bV xs (i+1)=xs.getD (6+2*i) 0):=Lib.hid (fun i=>by simp[bV,show 4+2*(i+1)=6+2*i by omega])
 have hr:=fun W' x y z q g hg=>Lib.hid (cA _ [x,y,z,q] _ (aX (W:=W') (T:=3) (g:=g) [x,y,z,q] hg) (by simp))
 have hr3:=fun W' x y z g hg=>Lib.hid (cA _ [x,y,z] _ (aX (W:=W') (T:=3) (g:=g) [x,y,z] hg) (by simp))
 simp only[vS]at hr3
 generalize dW l xs=hd at*
 generalize bQ l w t xs=res at*
 rw[hm]at HH ⊢
 generalize xs.getD 0 0=x0 at*
 generalize xs.getD 1 0=x1 at*
 generalize xs.getD 2 0=x2 at*
 generalize xs.getD 3 0=x3 at*
 generalize xs.getD 4 0=x4 at*
 generalize xs.getD 5 0=x5 at*
 clear hi hx hb hB
 have hr':=fun W' g hg=>hr W' 0 x1 x2 (2*x1) g hg
 clear hr
 generalize aD [0,x1,x2,2*x1]=r1 at*
 have n5:(5:Int)<((6+2*m:Nat):Int):=by omega
 have n4:(4:Int)<((6+2*m:Nat):Int):=by omega
 have n3:(3:Int)<((6+2*m:Nat):Int):=by omega
 have n2:(2:Int)<((6+2*m:Nat):Int):=by omega
 have n1:(1:Int)<((6+2*m:Nat):Int):=by omega
 have n0:(0:Int)<((6+2*m:Nat):Int):=by omega
 by_cases hgood:r1=true∧0<x3∧0<x4∧0≤x5∧x4+x5<x0∧x0+x3+x5<l
 ·obtain⟨rfl,g1,g2,g3,g4,g5⟩:=hgood
  have k1:decide (x3≤0)=false:=by simp;omega
  have k2:decide (x4≤0)=false:=by simp;omega
  have k3:decide (x5<0)=false:=by simp;omega
  have k4:decide (x0≤x4+x5)=false:=by simp;omega
  have k5:decide (l≤x0+x3+x5)=false:=by simp;omega
  have Hhd:Hid (hd=true):=Lib.hid (by rw[Hhead.out];simp[g1,g2,g3,g4,g5])
  go_enter Tryz.func135,Tryz.ntmps135
  go_wp2
  refine wqf fun u=> ?_
  go_wp2_with fail
  refine((hr' _ _ rfl).out).mono ?_
  rintro e w1 ⟨rfl,hb1⟩
  have hw1:=ae (show Below W.heap.size W u.val from bel) (ae (show Below u.val.heap.size u.val _ from bel) hb1)
  have HS:Hid (w1.heap[W.heap.size]? =some (.cells #[.int .i64 l, .int .i64 w, .int .i64 t] 22 (0,0))):=Lib.hid (by
   have h1:=(u.below.block W.heap.size (by simp)).trans (ai rfl)
   have h2:=(aB (o:= .cells (List.map (Value.int .i64) [0,x1,x2,2*x1]).toArray 3) (ah h1)).trans h1
   exact(hb1.block _ (ah h2)).trans h2)
  have d0:w1.cell? ⟨W.heap.size,0,none⟩=some (.int .i64 l):=(ag HS.out 0).trans rfl
  have zs:=ah HS.out
  clear hb1 hr' c0 c1 c2 c3 c4 c5
  go_wp2_with fail
  refine((HH _ bel).out).mono ?_
  rintro e w2 ⟨r,rfl,hb2,ho⟩
  have hw2:=ae (show Below W.heap.size W w1 from hw1) hb2
  have HS2:Hid (w2.heap[W.heap.size]? =_):=Lib.hid ((hb2.block _ zs).trans HS.out)
  obtain⟨g,cap,rfl,hg1,hg2⟩:=fF ho (by omega)
  have HC:Hid (∀i,i<m→w2.cell? ⟨g,i*2,none⟩=some (.int .i64 (xs.getD (6+2*i) 0))∧w2.cell? ⟨g,i*2+1,none⟩=some (.int .i64 (xs.getD (7+2*i) 0))):=Lib.hid (fun i hi=>by
   have:=ry ho i (by rw[fR];exact hi)
   simpa [cG]using this)
  have Hp:=Lib.hid Hp0.out
  obtain⟨q0,Hq0⟩:∃q,Hid (bV xs 0=q):=⟨_,Lib.hid rfl⟩
  have hq0: -x1=q0:=by rw[←Hq0.out,Hp0.out]
  clear ho HH HS hb2 hw1 d0 zs
  go_wp2
  go_loopw [73,11] (fun i s wr=>∃k:Nat,k≤m∧i= .int .i64 k∧s= .int .i64 (bV xs k)∧Below w2.heap.size w2 wr∧Hid (∀i,i<k→eZ t xs i=true)) (fun i _ _=>m-(intOf i).toNat)
  case atStart=>exact⟨0,by omega,rfl,by rw[Hq0.out],Below.refl _ _,Lib.hid (fun i h=>by omega)⟩
  case round=>
   obtain⟨k,hk,rfl,rfl,hbk,HZ⟩:=hrel
   have HSk:Hid (wr.heap[W.heap.size]? =_):=Lib.hid ((hbk.block _ (ah HS2.out)).trans HS2.out)
   have e1:wr.cell? ⟨W.heap.size,1,none⟩=some (.int .i64 w):=(ag HSk.out 1).trans rfl
   have e2:wr.cell? ⟨W.heap.size,2,none⟩=some (.int .i64 t):=(ag HSk.out 2).trans rfl
   have zs:=ah HSk.out
   have bq: -1000000≤bV xs k∧bV xs k≤1000000:=by
    cases k with
    |zero=>rw[Hp0.out];omega
    |succ k=>rw[Hps.out];exact HB.out _ (by omega)
   obtain⟨q,Hq⟩:∃q,Hid (bV xs k=q):=⟨_,Lib.hid rfl⟩
   rw[Hq.out]at bq ⊢
   by_cases hlt:k<m
   ·have cy:=ab hbk (HC.out k hlt).1
    have cz:=ab hbk (HC.out k hlt).2
    have zg:=World.block_lt_of_cell? wr _ cy
    simp only at zg
    have by_:=HB.out (6+2*k) (by omega)
    have bz:=HB.out (7+2*k) (by omega)
    have Hokk:=Lib.hid (Hok.out k)
    have Hn:=Lib.hid (Hno2.out k hlt)
    have Hpk:=Lib.hid (Hps.out k)
    rw[Hq.out]at Hokk
    generalize xs.getD (6+2*k) 0=y at*
    generalize xs.getD (7+2*k) 0=z at*
    have kt:((k:Int)*2).toNat=k*2:=by omega
    clear HC hq0
    by_cases hy:q+2*x1<y
    ·have hyd:decide (y≤q+2*x1)=false:=by simp;omega
     have hr4:=fun W' g hg=>hr3 W' x1 z (t-x1) g hg
     by_cases hz:x1<z∧z<t-x1
     ·rw[show decide (x1<z∧z<t-x1)=true from decide_eq_true hz]at hr4
      go_wp2_with fail
      refine((hr4 _ _ (by simp)).out).mono ?_
      rintro e w3 ⟨rfl,hb3⟩
      have HK:Hid (w3.heap[wr.heap.size]? =some (.cells #[.int .i64 y, .int .i64 z] 157 (0,0))):=Lib.hid ((hb3.block _ (by simp;omega)).trans ((aB (by simp)).trans (ai rfl)))
      have f0:w3.cell? ⟨wr.heap.size,0,none⟩=some (.int .i64 y):=(ag HK.out 0).trans rfl
      have zk:=ah HK.out
      have hb4:Below w2.heap.size w2 w3:=ae hbk (ae bel hb3)
      have Hyes:Hid (eZ t xs k=true):=Lib.hid (by rw[Hokk.out,decide_eq_true hy,decide_eq_true hz];rfl)
      clear hb3 hr4 cy cz
      go_wp2
      go_roundw
      case rel=>exact⟨k+1,by omega,by go_num,by rw[Hpk.out],hb4,Lib.hid (fun i hi=>by
       by_cases e:i=k
       ·subst e;exact Hyes.out
       ·exact HZ.out i (by omega))⟩
      case measure=>simp[intOf];omega
     ·rw[show decide (x1<z∧z<t-x1)=false from decide_eq_false hz]at hr4
      have Hf:Hid (res=false):=Lib.hid (Hn.out (by rw[Hokk.out,decide_eq_false hz];simp))
      go_wp2_with fail
      refine((hr4 _ _ (by simp)).out).mono ?_
      rintro e w3 ⟨rfl,hb3⟩
      have hb4:Below w2.heap.size w2 w3:=ae hbk (ae bel hb3)
      clear hb3 hr4 cy cz
      go_wp2
      go_ret
      exact⟨ay Hf.out.symm,ae hw2 hb4⟩
    ·have hyd:decide (y≤q+2*x1)=true:=by simp;omega
     have Hf:Hid (res=false):=Lib.hid (Hn.out (by rw[Hokk.out,decide_eq_false hy];simp))
     clear hr3
     go_wp2
     go_ret
     exact⟨ay Hf.out.symm,ae hw2 (ae hbk bel)⟩
   ·obtain rfl:k=m:=by omega
    have He:Hid (res=decide (q+x1<w)):=Lib.hid (by rw[Hend.out Hhd.out HZ.out,Hq.out])
    clear HC hr3
    go_wp2
    go_ret
    exact⟨ay He.out.symm,ae hw2 hbk⟩
 ·have Hf:Hid (res=false):=Lib.hid (Hno1.out (by rw[Hhead.out,Bool.and_eq_false_iff,decide_eq_false_iff_not];cases r1;exact Or.inl rfl;exact Or.inr (fun h=>hgood ⟨rfl,h⟩)))
  clear HH
  go_enter Tryz.func135,Tryz.ntmps135
  go_wp2
  refine wqf fun u=> ?_
  go_wp2_with fail
  refine((hr' _ _ rfl).out).mono ?_
  rintro e w1 ⟨rfl,hb1⟩
  have hw1:=ae (show Below W.heap.size W _ from bel) (ae (show Below u.val.heap.size u.val _ from bel) hb1)
  have HS:Hid (w1.heap[W.heap.size]? =some (.cells #[.int .i64 l, .int .i64 w, .int .i64 t] 22 (0,0))):=Lib.hid (by
   have h1:=(u.below.block W.heap.size (by simp)).trans (ai rfl)
   have h2:=(aB (o:= .cells (List.map (Value.int .i64) [0,x1,x2,2*x1]).toArray 3) (ah h1)).trans h1
   exact(hb1.block _ (ah h2)).trans h2)
  have d0:w1.cell? ⟨W.heap.size,0,none⟩=some (.int .i64 l):=(ag HS.out 0).trans rfl
  have zs:=ah HS.out
  cases r1
  ·clear hgood
   go_wp2
   go_ret
   exact⟨ay Hf.out.symm,hw1⟩
  ·have hg:¬(0<x3∧0<x4∧0≤x5∧x4+x5<x0∧x0+x3+x5<l):=fun h=>hgood ⟨rfl,h⟩
   clear hgood
   go_wp2
   all_goals go_ret
   all_goals exact⟨ay Hf.out.symm,hw1⟩
end
end Go.Proofs.YtokhkhnofkcalaaGreatDoor
