/- texts: XH. -/
import Derived.Test.YtokhkhnofkcalaaGreatDoorKZS42
import Derived.Deep.DeepCutAuto
namespace Go.Proofs.YtokhkhnofkcalaaGreatDoor
set_option maxHeartbeats 8000000
set_option linter.unusedSimpArgs false
set_option linter.unusedVariables false
section
open Go.RowKit Go.Shelf
set_option maxRecDepth 100000
attribute [local go_sem] Ext.cell Ext.frozen
theorem yl {B g:Nat} {W:World} (vs:List Value) (cs:List (List Q4)) (hg:g=W.heap.size) (hB:B≤W.heap.size) (h:Alls (PO B) W vs cs) (hb:Below W.heap.size W (W.alloc (.cells vs.toArray 104))) (hn:cs.length≤1000000:=by simp):FO B cs (.slice (some ⟨g,0,none⟩) cs.length cs.length) (W.alloc (.cells vs.toArray 104)):=by
 subst hg
 exact bi vs cs hB h hb hn
theorem yn {B g:Nat} {W:World} (vs:List Value) (ks:List (List (List Q4))) (hg:g=W.heap.size) (hB:B≤W.heap.size) (h:Alls (CO B) W vs ks) (hb:Below W.heap.size W (W.alloc (.cells vs.toArray 72))) (hn:ks.length≤1000000:=by simp):KO B ks (.slice (some ⟨g,0,none⟩) ks.length ks.length) (W.alloc (.cells vs.toArray 72)):=by
 subst hg
 exact kD vs ks hB h hb hn
theorem ub (l w:Int) (nv:Value) (n:List Int) (W:World) (hn:Ints W nv n) (hl:n.length=5) (hb:∀i, -100000≤n.getD i 0∧n.getD i 0≤100000):
  Calls Tryz.prog 85 #[nv] W (gW W (aR 9 l w n) (bR 9 l n)):=by
 obtain⟨b,off,c,rfl,hc,zb,hat⟩:=hn.at' (by omega)
 have c0:=hat 0 (by omega)
 have c1:=hat 1 (by omega)
 have c2:=hat 2 (by omega)
 have c3:=hat 3 (by omega)
 have c4:=hat 4 (by omega)
 rw[Nat.add_zero]at c0
 have b0:=hb 0
 have b1:=hb 1
 have b2:=hb 2
 have b3:=hb 3
 have b4:=hb 4
 rw[hl]at*
 have hg:bR 9 l n=[]:=by simp[bR]
 have hk:aR 9 l w n=[
  [[[(-1,1,0,0)],[leP 2 (n.getD 3 0)]].flatten,[[(-1,1,0,0)],[geP 2 (n.getD 4 0)]].flatten,[[(-1,1,0,0)],btP 2 (n.getD 3 0) (n.getD 4 0),[(1,1,0,n.getD 0 0-n.getD 1 0)]].flatten,[[(-1,1,0,0)],btP 2 (n.getD 3 0) (n.getD 4 0),[trP (1,1,0,n.getD 0 0+n.getD 1 0)]].flatten,[[(-1,1,0,0)],btP 2 (n.getD 3 0) (n.getD 4 0),[trP (1,1,0,n.getD 0 0-n.getD 1 0),(1,1,0,n.getD 0 0+n.getD 1 0)],[(-1,1,0, -(n.getD 2 0))]].flatten],
  [[[(1, -1,0,0)],[leP 2 (n.getD 3 0)]].flatten,[[(1, -1,0,0)],[geP 2 (n.getD 4 0)]].flatten,[[(1, -1,0,0)],btP 2 (n.getD 3 0) (n.getD 4 0),[(1,1,0,n.getD 0 0-n.getD 1 0)]].flatten,[[(1, -1,0,0)],btP 2 (n.getD 3 0) (n.getD 4 0),[trP (1,1,0,n.getD 0 0+n.getD 1 0)]].flatten,[[(1, -1,0,0)],btP 2 (n.getD 3 0) (n.getD 4 0),[trP (1,1,0,n.getD 0 0-n.getD 1 0),(1,1,0,n.getD 0 0+n.getD 1 0)],[(1, -1,0, -(n.getD 2 0))]].flatten],
  [[[trP (1,1,0,n.getD 0 0-n.getD 1 0),(1,1,0,n.getD 0 0+n.getD 1 0)],[(1, -1,0,n.getD 2 0),(-1,1,0,n.getD 2 0)],btP 2 (n.getD 3 0) (n.getD 4 0)].flatten]]:=by
  simp[aR,rD]
 rw[hk,hg]
 generalize n.getD 0 0=x0 at*
 generalize n.getD 1 0=x1 at*
 generalize n.getD 2 0=x2 at*
 generalize n.getD 3 0=x3 at*
 generalize n.getD 4 0=x4 at*
 have eT:∀W',Hid (Calls Tryz.prog 82 #[v4 (1,1,0,x0+x1)] W' (Ret W' (v4 (trP (1,1,0,x0+x1))))):=fun W'=>Lib.hid (eE 1 1 0 (x0+x1) W' (by omega) (by omega) (by omega) (by omega))
 have eS:∀W',Hid (Calls Tryz.prog 82 #[v4 (1,1,0,x0-x1)] W' (Ret W' (v4 (trP (1,1,0,x0-x1))))):=fun W'=>Lib.hid (eE 1 1 0 (x0-x1) W' (by omega) (by omega) (by omega) (by omega))
 have e3:=fun W'=>Lib.hid (bO 2 x3 x4 W' (by omega) (by omega) (by omega))
 have k1:IntKind.i64.wrap (x0-x1)=x0-x1:=IntWalk.i64_in _ (by omega)
 have k2:IntKind.i64.wrap (x0+x1)=x0+x1:=IntWalk.i64_in _ (by omega)
 have k3:IntKind.i64.wrap (-x2)= -x2:=IntWalk.i64_in _ (by omega)
 have lp:(btP 2 x3 x4).length≤4:=by simp[btP]
 generalize btP 2 x3 x4=pl at*
 generalize trP (1,1,0,x0+x1)=th at*
 generalize trP (1,1,0,x0-x1)=tl at*
 obtain⟨t1,t2,t3,t4⟩:=th
 obtain⟨s1,s2,s3,s4⟩:=tl
 have eM:=fun half away gn gl gw gh gs ln lc sn sc la sa W' cn c3 c4 cl hl cs hs hw hh=>Lib.hid (Bt half away (1,1,0,x0-x1) (1,1,0,x0+x1) (t1,t2,t3,t4) pl [(s1,s2,s3,s4),(1,1,0,x0+x1)] b off c gn gl gw gh gs ln lc sn sc la sa x3 x4 W' b3 b4 lp (by simp) cn c3 c4 cl hl cs hs hw hh eT)
 have eK:=fun cv lv W' hc hl=>Lib.hid (bC cv [(s1,s2,s3,s4),(1,1,0,x0+x1)] lv [[(1, -1,0,x2),(-1,1,0,x2)],pl] W' hc hl (by simp) (by simp) (by simp;omega))
 have eA:=eM (-1,1,0,0) (-1,1,0, -x2)
 have eB:=eM (1, -1,0,0) (1, -1,0, -x2)
 obtain⟨KA,hKA⟩:∃KA,KA=[[[(-1,1,0,0)],[leP 2 x3]].flatten,[[(-1,1,0,0)],[geP 2 x4]].flatten,[[(-1,1,0,0)],pl,[(1,1,0,x0-x1)]].flatten,[[(-1,1,0,0)],pl,[(t1,t2,t3,t4)]].flatten,[[(-1,1,0,0)],pl,[(s1,s2,s3,s4),(1,1,0,x0+x1)],[(-1,1,0, -x2)]].flatten]:=⟨_,rfl⟩
 obtain⟨KB,hKB⟩:∃KB,KB=[[[(1, -1,0,0)],[leP 2 x3]].flatten,[[(1, -1,0,0)],[geP 2 x4]].flatten,[[(1, -1,0,0)],pl,[(1,1,0,x0-x1)]].flatten,[[(1, -1,0,0)],pl,[(t1,t2,t3,t4)]].flatten,[[(1, -1,0,0)],pl,[(s1,s2,s3,s4),(1,1,0,x0+x1)],[(1, -1,0, -x2)]].flatten]:=⟨_,rfl⟩
 obtain⟨key,hkey⟩:∃key,key=[[(s1,s2,s3,s4),(1,1,0,x0+x1)],[(1, -1,0,x2),(-1,1,0,x2)],pl].flatten:=⟨_,rfl⟩
 rw[←hKA, ←hKB, ←hkey]
 rw[←hKA]at eA
 rw[←hKB]at eB
 rw[←hkey]at eK
 obtain⟨V,HV⟩:∃V,Hid ((W.alloc (.cells #[.slice (some ⟨b,off,none⟩) 5 c] 23)).alloc (.cells #[.slice none 0 0, .slice none 0 0] 75)=V):=⟨_,Lib.hid rfl⟩
 have hV:Below W.heap.size W V:=by rw[←HV.out];exact bel
 have HN:Hid (V.heap[W.heap.size]? =some (.cells #[.slice (some ⟨b,off,none⟩) 5 c] 23 (0,0))):=by rw[←HV.out];exact Lib.hid ((aB (by simp)).trans (ai rfl))
 have HR:Hid (V.heap[W.heap.size+1]? =some (.cells #[.slice none 0 0, .slice none 0 0] 75 (0,0))):=by rw[←HV.out];exact Lib.hid (ai (by simp))
 have c0:=ab hV c0
 have c1:=ab hV c1
 have c2:=ab hV c2
 have c3:=ab hV c3
 have c4:=ab hV c4
 have cn:V.cell? ⟨W.heap.size,0,none⟩=some (.slice (some ⟨b,off,none⟩) 5 c):=(ag HN.out 0).trans rfl
 have zs:W.heap.size+2≤V.heap.size:=by rw[←HV.out];simp
 have zb:=Nat.lt_of_lt_of_le zb hV.size
 have zn:=ah HN.out
 clear hat hn hl hb hk hg eM hKA hKB hkey b0 b1 b2 b3 b4 HN lp
 go_enter Tryz.func85,Tryz.ntmps85
 go_wp2
 rw[HV.out]
 clear HV
 refine wqf fun u=> ?_
 have c3:=ab u.below c3
 have c4:=ab u.below c4
 have cn:=ab u.below cn
 have HR:=Lib.hid ((u.below.block _ (ah HR.out)).trans HR.out)
 have zb:=Nat.lt_of_lt_of_le zb u.below.size
 have zn:=Nat.lt_of_lt_of_le zn u.below.size
 have zs:=Nat.le_trans zs u.below.size
 have hV:=ae hV u.below
 clear c0 c1 c2
 generalize u.val=V2 at*
 clear u
 go_wp2
 apply aj [] [0,1,2,3,4,5,6,7] 8 [] [sv _,sv _,sv _,sv _,sv _,sv _,sPO (W.heap.size+2) pl,⟨da V2.heap.size 104 #[.slice none 0 0],by first|exact bT _ _|exact dF _ _|exact bU _ _|exact db _ _|exact dS _ _|exact ar _ _ _⟩] (by kernel_rfl) (by kernel_rfl)
 iterate 6 ((try go_frame);refine wkQ ?_)
 try go_frame
 refine wkU (fun u hR K hK=> ?_) (fun o6=> ?_)
 ·clear hR
  go_simp
  refine((e3 _).out).mono ?_
  rintro e w9 ⟨v9,rfl,hb9,hp9⟩
  exact hK _ _ hb9 (AY hp9 (by have:=u.size;omega))
 try go_frame
 refine wkU (fun u hR K hK=> ?_) (fun o7=> ?_)
 ·clear hR
  have zw:=u.size
  go_simp
  exact hK _ _ bel ⟨_,rfl,zw,ai rfl⟩
 try go_frame
 refine aI (fun u hR=> ?_)
 have HPL:Hid (PO (W.heap.size+2) pl o6 u.val):=Lib.hid (hR 6 (by simp))
 obtain⟨xa,xc,rfl⟩:=HPL.out.shape
 obtain⟨g6,rfl,hg6,hh6⟩:da V2.heap.size 104 #[.slice none 0 0] o7 u.val:=hR 7 (by simp)
 have HX:=Lib.hid (br hh6 0 (.slice xa pl.length xc))
 have hbX:Below V2.heap.size V2 (u.val.setCell ⟨g6,0,none⟩ (.slice xa pl.length xc)):=u.below.setCell (by dsimp only;omega) _
 have HPL9:Hid (PO (W.heap.size+2) pl (.slice xa pl.length xc) (u.val.setCell ⟨g6,0,none⟩ (.slice xa pl.length xc))):=Lib.hid (aF HPL.out _ _ (fun e=>aG HPL.out hh6 (by decide) e.symm))
 obtain⟨d0,d1⟩:u.val.cell? ⟨g6,0,none⟩=some (.slice none 0 0)∧u.val.frozen? ⟨g6,0,none⟩=false:=⟨(ag hh6 0).trans rfl,aC hh6 0⟩
 have d2:=ah hh6
 clear hR hh6 HPL e3
 simp only[oas]
 go_wp2
 refine NoPanic.normal ?_
 clear d0 d1 d2
 generalize u.val.setCell ⟨g6,0,none⟩ (.slice xa pl.length xc)=X at*
 clear u
 have c3:=ab hbX c3
 have c4:=ab hbX c4
 have cn:=ab hbX cn
 have HR:=Lib.hid ((hbX.block _ (ah HR.out)).trans HR.out)
 have zb:=Nat.lt_of_lt_of_le zb hbX.size
 have zn:=Nat.lt_of_lt_of_le zn hbX.size
 have zs:=Nat.le_trans zs hbX.size
 have hV:=ae hV hbX
 clear hbX hg6
 go_upto_region 4 with fail
 obtain⟨Y,HY⟩:∃Y,Hid ((X.alloc (.cells #[.int .i64 1, .int .i64 1, .int .i64 0, .int .i64 (x0-x1)] 69)).alloc (.cells #[.int .i64 1, .int .i64 1, .int .i64 0, .int .i64 (x0+x1)] 69)=Y):=⟨_,Lib.hid rfl⟩
 have hbY:Below X.heap.size X Y:=by rw[←HY.out];exact bel
 rw[HY.out]
 have HW:Hid (Y.heap[X.heap.size]? =some (.cells #[.int .i64 1, .int .i64 1, .int .i64 0, .int .i64 (x0-x1)] 69 (0,0))):=Lib.hid (by rw[←HY.out];exact(aB (by simp)).trans (ai rfl))
 have HH:Hid (Y.heap[X.heap.size+1]? =some (.cells #[.int .i64 1, .int .i64 1, .int .i64 0, .int .i64 (x0+x1)] 69 (0,0))):=Lib.hid (by rw[←HY.out];exact ai (by simp))
 have c3:=ab hbY c3
 have c4:=ab hbY c4
 have cn:=ab hbY cn
 have HR:=Lib.hid ((hbY.block _ (ah HR.out)).trans HR.out)
 have zb:=Nat.lt_of_lt_of_le zb hbY.size
 have zn:=Nat.lt_of_lt_of_le zn hbY.size
 have HX:=Lib.hid ((hbY.block _ (ah HX.out)).trans HX.out)
 have HPL9:=Lib.hid (HPL9.out.below hbY)
 have zs:=Nat.le_trans zs hbY.size
 have hV:=ae hV hbY
 clear hbY HY
 obtain⟨l0,l1,l2,l3,_,lz⟩:=ff HW.out
 obtain⟨m0,m1,m2,m3,_,mz⟩:=ff HH.out
 apply aj [] [0,1,2,3,4] 5 [] [sv _,sv _,sv _,sPO (W.heap.size+2) [(s1,s2,s3,s4),(1,1,0,x0+x1)],⟨da Y.heap.size 104 #[.slice none 0 0],by first|exact bT _ _|exact dF _ _|exact bU _ _|exact db _ _|exact dS _ _|exact ar _ _ _⟩] (by kernel_rfl) (by kernel_rfl)
 ((try go_frame);refine wkQ ?_)
 try go_frame
 refine wkV ?_
 apply ex3
 ·intro u K hK
  go_simp
  refine((eS _).out).mono ?_
  rintro e w9 ⟨rfl,hb9⟩
  exact hK _ hb9
 rfl
 ((try go_frame);refine wkQ ?_)
 try go_frame
 refine wkU (fun u hR K hK=> ?_) (fun o3=> ?_)
 ·clear hR
  have zw:=u.size
  go_simp
  exact hK _ _ bel (cF [(s1,s2,s3,s4),(1,1,0,x0+x1)] (by omega))
 try go_frame
 refine wkU (fun u hR K hK=> ?_) (fun o4=> ?_)
 ·clear hR
  have zw:=u.size
  go_simp
  exact hK _ _ bel ⟨_,rfl,zw,ai rfl⟩
 try go_frame
 refine aI (fun u hR=> ?_)
 have HS0:Hid (PO (W.heap.size+2) [(s1,s2,s3,s4),(1,1,0,x0+x1)] o3 u.val):=Lib.hid (hR 3 (by simp))
 obtain⟨sa,sc,rfl⟩:=HS0.out.shape
 obtain⟨g9,rfl,hg9,hh9⟩:da Y.heap.size 104 #[.slice none 0 0] o4 u.val:=hR 4 (by simp)
 have HSB:=Lib.hid (br hh9 0 (.slice sa 2 sc))
 have hbX:Below Y.heap.size Y (u.val.setCell ⟨g9,0,none⟩ (.slice sa 2 sc)):=u.below.setCell (by dsimp only;omega) _
 have HSL:Hid (PO (W.heap.size+2) [(s1,s2,s3,s4),(1,1,0,x0+x1)] (.slice sa 2 sc) (u.val.setCell ⟨g9,0,none⟩ (.slice sa 2 sc))):=Lib.hid (aF HS0.out _ _ (fun e=>aG HS0.out hh9 (by decide) e.symm))
 obtain⟨d0,d1⟩:u.val.cell? ⟨g9,0,none⟩=some (.slice none 0 0)∧u.val.frozen? ⟨g9,0,none⟩=false:=⟨(ag hh9 0).trans rfl,aC hh9 0⟩
 have d2:=ah hh9
 clear hR hh9 HS0 eS l0 l1 l2 l3 lz m0 m1 m2 m3 mz
 simp only[oas]
 go_wp2
 refine NoPanic.normal ?_
 clear d0 d1 d2
 generalize u.val.setCell ⟨g9,0,none⟩ (.slice sa 2 sc)=X2 at*
 clear u
 have c3:=ab hbX c3
 have c4:=ab hbX c4
 have cn:=ab hbX cn
 have HR:=Lib.hid ((hbX.block _ (ah HR.out)).trans HR.out)
 have zb:=Nat.lt_of_lt_of_le zb hbX.size
 have zn:=Nat.lt_of_lt_of_le zn hbX.size
 have HX:=Lib.hid ((hbX.block _ (ah HX.out)).trans HX.out)
 have HW:=Lib.hid ((hbX.block _ (ah HW.out)).trans HW.out)
 have HH:=Lib.hid ((hbX.block _ (ah HH.out)).trans HH.out)
 have HPL9:=Lib.hid (HPL9.out.below hbX)
 have zs:=Nat.le_trans zs hbX.size
 have hV:=ae hV hbX
 clear hbX hg9
 obtain⟨Z,HZ⟩:∃Z,Hid ((X2.alloc (.cells #[.int .i64 1, .int .i64 (-1), .int .i64 0, .int .i64 x2, .int .i64 (-1), .int .i64 1, .int .i64 0, .int .i64 x2] 69)).alloc (.cells #[.slice (some ⟨X2.heap.size,0,none⟩) 2 2, .slice xa pl.length xc] 104)=Z):=⟨_,Lib.hid rfl⟩
 have hbZ:Below X2.heap.size X2 Z:=by rw[←HZ.out];exact bel
 have hbZ1:Below X2.heap.size X2 (X2.alloc (.cells #[.int .i64 1, .int .i64 (-1), .int .i64 0, .int .i64 x2, .int .i64 (-1), .int .i64 1, .int .i64 0, .int .i64 x2] 69)):=bel
 have HF:Hid (FO 0 [[(1, -1,0,x2),(-1,1,0,x2)],pl] (.slice (some ⟨X2.heap.size+1,0,none⟩) 2 2) Z):=Lib.hid (by
  rw[←HZ.out]
  exact yl [_,_] [_,_] (by simp) (Nat.zero_le _) ⟨jO [(1, -1,0,x2),(-1,1,0,x2)] rfl (Nat.zero_le _),(HPL9.out.below hbZ1).mono (Nat.zero_le _),trivial⟩ bel)
 have rs:X2.cell? ⟨g9,0,none⟩=some (.slice sa 2 sc):=(ag HSB.out 0).trans rfl
 have rl:X2.cell? ⟨g6,0,none⟩=some (.slice xa pl.length xc):=(ag HX.out 0).trans rfl
 have zsb:=ah HSB.out
 have zxb:=ah HX.out
 have HK9:=Lib.hid ((eK _ _ Z ((HSL.out.below hbZ).planes.mono (Nat.zero_le _)) HF.out.2.cells).out)
 clear eK
 go_wp2_with fail
 rw[HZ.out]
 refine(HK9.out).mono ?_
 rintro e w1 ⟨rk,rfl,hb1,hk1⟩
 have hbw:=ae hbZ hb1
 have c3:=ab hbw c3
 have c4:=ab hbw c4
 have cn:=ab hbw cn
 have HR:=Lib.hid ((hbw.block _ (ah HR.out)).trans HR.out)
 have zb:=Nat.lt_of_lt_of_le zb hbw.size
 have zn:=Nat.lt_of_lt_of_le zn hbw.size
 have HX:=Lib.hid ((hbw.block _ (ah HX.out)).trans HX.out)
 have HW:=Lib.hid ((hbw.block _ (ah HW.out)).trans HW.out)
 have HH:=Lib.hid ((hbw.block _ (ah HH.out)).trans HH.out)
 have HPL9:=Lib.hid (HPL9.out.below hbw)
 have HSB:=Lib.hid ((hbw.block _ (ah HSB.out)).trans HSB.out)
 have HSL:=Lib.hid (HSL.out.below hbw)
 have zs:=Nat.le_trans zs hbw.size
 have hV:=ae hV hbw
 have HKY:=Lib.hid (hk1.mono (B':=W.heap.size+2) (by have:=hbZ.size;have:=hbw.size;omega))
 obtain⟨ka,kc,rfl⟩:=HKY.out.shape
 clear hk1 HK9 hb1 hbZ hbZ1 hbw HF HZ rs rl zsb zxb
 go_wp2_with fail
 refine((eA _ _ _ _ _ _ _ _ _ _ _ w1 cn c3 c4 ((ag HX.out 0).trans rfl) (HPL9.out.mono (Nat.zero_le _)) ((ag HSB.out 0).trans rfl) (HSL.out.mono (Nat.zero_le _)) HW.out HH.out).out).mono ?_
 rintro e w2 ⟨v2,rfl,hb2,hk2⟩
 have HKA:=Lib.hid (hk2.2.mono (B':=W.heap.size+2) (by omega))
 have c3:=ab hb2 c3
 have c4:=ab hb2 c4
 have cn:=ab hb2 cn
 have HR:=Lib.hid ((hb2.block _ (ah HR.out)).trans HR.out)
 have zb:=Nat.lt_of_lt_of_le zb hb2.size
 have zn:=Nat.lt_of_lt_of_le zn hb2.size
 have HX:=Lib.hid ((hb2.block _ (ah HX.out)).trans HX.out)
 have HW:=Lib.hid ((hb2.block _ (ah HW.out)).trans HW.out)
 have HH:=Lib.hid ((hb2.block _ (ah HH.out)).trans HH.out)
 have HPL9:=Lib.hid (HPL9.out.below hb2)
 have HSB:=Lib.hid ((hb2.block _ (ah HSB.out)).trans HSB.out)
 have HSL:=Lib.hid (HSL.out.below hb2)
 have zs:=Nat.le_trans zs hb2.size
 have hV:=ae hV hb2
 have HKY:=Lib.hid (HKY.out.below hb2)
 clear hk2 hb2 eA
 go_wp2_with fail
 refine((eB _ _ _ _ _ _ _ _ _ _ _ w2 cn c3 c4 ((ag HX.out 0).trans rfl) (HPL9.out.mono (Nat.zero_le _)) ((ag HSB.out 0).trans rfl) (HSL.out.mono (Nat.zero_le _)) HW.out HH.out).out).mono ?_
 rintro e w3 ⟨v3,rfl,hb3,hk3⟩
 have HKB:=Lib.hid (hk3.2.mono (B':=W.heap.size+2) (by omega))
 have HKA:=Lib.hid (bU _ _ _ _ _ hb3 HKA.out)
 have HKY:=Lib.hid (HKY.out.below hb3)
 have HR:=Lib.hid ((hb3.block _ (ah HR.out)).trans HR.out)
 have zs:=Nat.le_trans zs hb3.size
 have hV:=ae hV hb3
 clear hk3 hb3 eB c3 c4 cn HX HW HH HPL9 HSB HSL zb zn
 obtain⟨va,vc,rfl⟩:=HKA.out.shape
 obtain⟨ua,uc,rfl⟩:=HKB.out.shape
 obtain⟨Q,HQ⟩:∃Q,Hid ((w3.alloc (.cells #[.slice ka key.length kc] 104)).alloc (.cells #[.slice va KA.length vc, .slice ua KB.length uc, .slice (some ⟨w3.heap.size,0,none⟩) 1 1] 72)=Q):=⟨_,Lib.hid rfl⟩
 have hbQ:Below w3.heap.size w3 Q:=by rw[←HQ.out];exact bel
 have hbQ1:Below w3.heap.size w3 (w3.alloc (.cells #[.slice ka key.length kc] 104)):=bel
 have HKO:Hid (KO (W.heap.size+2) [KA,KB,[key]] (.slice (some ⟨w3.heap.size+1,0,none⟩) 3 3) Q):=Lib.hid (by
  rw[←HQ.out]
  exact yn [_,_,_] [_,_,_] (by simp) (by simp;omega) ⟨bU _ _ _ _ _ hbQ1 HKA.out,bU _ _ _ _ _ hbQ1 HKB.out,(bi [_] [_] zs ⟨HKY.out,trivial⟩ hbQ1).2,trivial⟩ bel)
 have HR:=Lib.hid ((hbQ.block _ (ah HR.out)).trans HR.out)
 have hV:=ae hV hbQ
 obtain⟨r0,r1,rf,rz⟩:=dC HR.out
 have rf0:=rf 0
 have rf1:=rf 1
 have hq:=HQ.out
 clear rf HQ hbQ hbQ1 HKA HKB HKY
 subst hq
 go_wp2
 refine bodyPost_ret (v:= .agg #[.slice (some ⟨w3.heap.size+1,0,none⟩) 3 3, .slice none 0 0]) (by simp[results,Tryz.results85,go_sem,r0,r1]) rfl ⟨_,_,rfl, ?_, ?_,Bc⟩
 ·exact(hV.setCell (by simp) _).setCell (by simp) _
 ·exact((HKO.out.put HR.out _ _).mono (B':=W.heap.size) (by omega)).parts
end
end Go.Proofs.YtokhkhnofkcalaaGreatDoor
