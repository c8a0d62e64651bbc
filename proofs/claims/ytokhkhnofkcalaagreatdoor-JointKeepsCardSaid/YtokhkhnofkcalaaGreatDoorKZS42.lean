/- texts: XG. -/
import Derived.Test.YtokhkhnofkcalaaGreatDoorKZS37
namespace Go.Proofs.YtokhkhnofkcalaaGreatDoor
set_option maxHeartbeats 8000000
set_option linter.unusedSimpArgs false
set_option linter.unusedVariables false
section
open Go.RowKit Go.Shelf
set_option maxRecDepth 100000
attribute [local go_sem] Ext.cell Ext.frozen
theorem Bt (half away lo hi th:Q4) (pl sl:List Q4) (b off c gn gl gw gh gs ln lc sn sc:Nat) (la sa:Option Addr) (x y:Int) (W:World) (hx: -100000≤x∧x≤100000) (hy: -100000≤y∧y≤100000) (hpl:pl.length≤4) (hsl:sl.length≤4)
  (cn:W.cell? ⟨gn,0,none⟩=some (.slice (some ⟨b,off,none⟩) 5 c)) (c3:W.cell? ⟨b,off+3,none⟩=some (.int .i64 x)) (c4:W.cell? ⟨b,off+4,none⟩=some (.int .i64 y))
  (cl:W.cell? ⟨gl,0,none⟩=some (.slice la ln lc)) (hl:PO 0 pl (.slice la ln lc) W) (cs:W.cell? ⟨gs,0,none⟩=some (.slice sa sn sc)) (hs:PO 0 sl (.slice sa sn sc) W)
  (hw:W.heap[gw]? =some (.cells #[.int .i64 lo.1, .int .i64 lo.2.1, .int .i64 lo.2.2.1, .int .i64 lo.2.2.2] 69 (0,0))) (hh:W.heap[gh]? =some (.cells #[.int .i64 hi.1, .int .i64 hi.2.1, .int .i64 hi.2.2.1, .int .i64 hi.2.2.2] 69 (0,0)))
  (eT:∀W',Hid (Calls Tryz.prog 82 #[v4 hi] W' (Ret W' (v4 th)))):
  Calls Tryz.prog 126 #[v4 half,v4 away, .pointer (some ⟨gn,0,none⟩), .pointer (some ⟨gl,0,none⟩), .pointer (some ⟨gw,0,none⟩), .pointer (some ⟨gh,0,none⟩), .pointer (some ⟨gs,0,none⟩)] W fun e w'=>∃r,e= .returned r∧Below W.heap.size W w'∧
   FO W.heap.size [[[half],[leP 2 x]].flatten,[[half],[geP 2 y]].flatten,[[half],pl,[lo]].flatten,[[half],pl,[th]].flatten,[[half],pl,sl,[away]].flatten] r w':=by
 have e1:=fun W'=>Lib.hid (show Calls Tryz.prog 76 #[.int .i64 2, .int .i64 x] W' (Ret W' (v4 (leP 2 x)))from cR 2 x W' (by omega) (by omega))
 have e2:=fun W'=>Lib.hid (show Calls Tryz.prog 75 #[.int .i64 2, .int .i64 y] W' (Ret W' (v4 (geP 2 y)))from bX 2 y W' (by omega) (by omega))
 generalize leP 2 x=q at*
 generalize geP 2 y=r at*
 obtain⟨p1,p2,p3,p4⟩:=half
 obtain⟨a1,a2,a3,a4⟩:=away
 obtain⟨q1,q2,q3,q4⟩:=q
 obtain⟨r1,r2,r3,r4⟩:=r
 obtain⟨l1,l2,l3,l4⟩:=lo
 obtain⟨h1,h2,h3,h4⟩:=hi
 obtain⟨t1,t2,t3,t4⟩:=th
 dsimp only at hw hh
 have e5:=fun cv lv W' hc hl=>Lib.hid (bC cv [(p1,p2,p3,p4)] lv [[(q1,q2,q3,q4)]] W' hc hl (by simp) (by simp) (by simp))
 have e6:=fun cv lv W' hc hl=>Lib.hid (bC cv [(p1,p2,p3,p4)] lv [[(r1,r2,r3,r4)]] W' hc hl (by simp) (by simp) (by simp))
 have e7:=fun cv lv W' hc hl=>Lib.hid (bC cv [(p1,p2,p3,p4)] lv [pl,[(l1,l2,l3,l4)]] W' hc hl (by simp) (by simp) (by simp;omega))
 have e8:=fun cv lv W' hc hl=>Lib.hid (bC cv [(p1,p2,p3,p4)] lv [pl,[(t1,t2,t3,t4)]] W' hc hl (by simp) (by simp) (by simp;omega))
 have e9:=fun cv lv W' hc hl=>Lib.hid (bC cv [(p1,p2,p3,p4)] lv [pl,sl,[(a1,a2,a3,a4)]] W' hc hl (by simp) (by simp) (by simp;omega))
 obtain⟨k5,hk5⟩:∃k5,k5=[[(p1,p2,p3,p4)],[(q1,q2,q3,q4)]].flatten:=⟨_,rfl⟩
 obtain⟨k6,hk6⟩:∃k6,k6=[[(p1,p2,p3,p4)],[(r1,r2,r3,r4)]].flatten:=⟨_,rfl⟩
 obtain⟨k7,hk7⟩:∃k7,k7=[[(p1,p2,p3,p4)],pl,[(l1,l2,l3,l4)]].flatten:=⟨_,rfl⟩
 obtain⟨k8,hk8⟩:∃k8,k8=[[(p1,p2,p3,p4)],pl,[(t1,t2,t3,t4)]].flatten:=⟨_,rfl⟩
 obtain⟨k9,hk9⟩:∃k9,k9=[[(p1,p2,p3,p4)],pl,sl,[(a1,a2,a3,a4)]].flatten:=⟨_,rfl⟩
 rw[←hk5]at e5 ⊢
 rw[←hk6]at e6 ⊢
 rw[←hk7]at e7 ⊢
 rw[←hk8]at e8 ⊢
 rw[←hk9]at e9 ⊢
 obtain⟨V,HV⟩:∃V,Hid (((W.alloc (.cells #[.int .i64 p1, .int .i64 p2, .int .i64 p3, .int .i64 p4] 69)).alloc (.cells #[.int .i64 a1, .int .i64 a2, .int .i64 a3, .int .i64 a4] 69)).alloc (.cells #[.int .i64 p1, .int .i64 p2, .int .i64 p3, .int .i64 p4] 69)=V):=⟨_,Lib.hid rfl⟩
 have hV:Below W.heap.size W V:=by rw[←HV.out];exact bel
 have HP:Hid (PO W.heap.size [(p1,p2,p3,p4)] (.slice (some ⟨W.heap.size+1+1,0,none⟩) 1 1) V):=Lib.hid (by
  rw[←HV.out]
  exact jO [(p1,p2,p3,p4)] (by simp) (by simp;omega))
 have HA:V.heap[W.heap.size+1]? =some (.cells #[.int .i64 a1, .int .i64 a2, .int .i64 a3, .int .i64 a4] 69 (0,0)):=by
  rw[←HV.out]
  exact(aB (by simp)).trans (ai (by simp))
 have HL:=Lib.hid (hl.below hV)
 have HS:=Lib.hid (hs.below hV)
 have cn:=ab hV cn
 have cl:=ab hV cl
 have cs:=ab hV cs
 have c3:=ab hV c3
 have c4:=ab hV c4
 obtain⟨w0,w1,w2,w3,_,wz⟩:=ff ((hV.block _ (ah hw)).trans hw)
 obtain⟨g0,g1,g2,g3,_,gz⟩:=ff ((hV.block _ (ah hh)).trans hh)
 obtain⟨m0,m1,m2,m3,_,mz⟩:=ff HA
 have zb:=World.block_lt_of_cell? V _ c3
 have zn:=World.block_lt_of_cell? V _ cn
 have zl:=World.block_lt_of_cell? V _ cl
 have zs':=World.block_lt_of_cell? V _ cs
 simp only at zb zn zl zs'
 have zs:=hV.size
 clear hk5 hk6 hk7 hk8 hk9 hl hs hw hh HA hpl hsl
 go_enter Tryz.func126,Tryz.ntmps126
 go_wp2
 rw[HV.out]
 clear HV
 apply aj [] [0,1,2,3,4,5,6,7,8,9,10,11,12,13,14,15,16,17,18,19,20,21,22,23,24,25,26,27,28,29,30,31,32,33,34,35,36] 37 [] [sv _,sv _,sv _,sv _,sv _,sPO W.heap.size [(q1,q2,q3,q4)],sFO W.heap.size [[(q1,q2,q3,q4)]],sPO W.heap.size k5,sv _,sv _,sv _,sv _,sv _,sPO W.heap.size [(r1,r2,r3,r4)],sFO W.heap.size [[(r1,r2,r3,r4)]],sPO W.heap.size k6,sv _,sv _,sv _,sPO W.heap.size [(l1,l2,l3,l4)],sFO 0 [pl,[(l1,l2,l3,l4)]],sPO W.heap.size k7,sv _,sv _,sv _,sv _,sPO W.heap.size [(t1,t2,t3,t4)],sFO 0 [pl,[(t1,t2,t3,t4)]],sPO W.heap.size k8,sv _,sv _,sv _,sv _,sPO W.heap.size [(a1,a2,a3,a4)],sFO 0 [pl,sl,[(a1,a2,a3,a4)]],sPO W.heap.size k9,sFO W.heap.size [k5,k6,k7,k8,k9]] (by kernel_rfl) (by kernel_rfl)
 iterate 4 ((try go_frame);refine wkQ ?_)
 try go_frame
 refine wkV ?_
 apply ex3
 ·intro u K hK
  go_simp
  refine((e1 _).out).mono ?_
  rintro e w9 ⟨rfl,hb9⟩
  exact hK _ hb9
 rfl
 try go_frame
 refine wkU (fun u hR K hK=> ?_) (fun o5=> ?_)
 ·clear hR
  have zw:=u.size
  go_simp
  exact hK _ _ bel (cF [(q1,q2,q3,q4)] (by omega))
 try go_frame
 refine wkU (fun u hR K hK=> ?_) (fun o6=> ?_)
 ·have h5:(PO W.heap.size [(q1,q2,q3,q4)]) o5 u.val:=hr hR 5
  clear hR
  have zw:=u.size
  obtain⟨ya,yc,rfl⟩:=(h5).shape
  have H1:=Lib.hid h5
  clear h5
  go_simp
  exact hK _ _ bel (bi [_] [_] (by omega) ⟨H1.out,trivial⟩ bel)
 try go_frame
 refine wkU (fun u hR K hK=> ?_) (fun o7=> ?_)
 ·have h6:(FO W.heap.size [[(q1,q2,q3,q4)]]) o6 u.val:=hr hR 6
  clear hR
  go_simp
  refine((e5 _ _ _ ((HP.out.planes.below u.below).mono (Nat.zero_le _)) (h6.2.cells.mono (Nat.zero_le _))).out).mono ?_
  rintro e w9 ⟨v9,rfl,hb9,hp9⟩
  exact hK _ _ hb9 (AY hp9 (by have:=u.size;omega))
 iterate 4 ((try go_frame);refine wkQ ?_)
 try go_frame
 refine wkV ?_
 apply ex3
 ·intro u K hK
  go_simp
  refine((e2 _).out).mono ?_
  rintro e w9 ⟨rfl,hb9⟩
  exact hK _ hb9
 rfl
 try go_frame
 refine wkU (fun u hR K hK=> ?_) (fun o13=> ?_)
 ·clear hR
  have zw:=u.size
  go_simp
  exact hK _ _ bel (cF [(r1,r2,r3,r4)] (by omega))
 try go_frame
 refine wkU (fun u hR K hK=> ?_) (fun o14=> ?_)
 ·have h13:(PO W.heap.size [(r1,r2,r3,r4)]) o13 u.val:=hr hR 13
  clear hR
  have zw:=u.size
  obtain⟨ya,yc,rfl⟩:=(h13).shape
  have H1:=Lib.hid h13
  clear h13
  go_simp
  exact hK _ _ bel (bi [_] [_] (by omega) ⟨H1.out,trivial⟩ bel)
 try go_frame
 refine wkU (fun u hR K hK=> ?_) (fun o15=> ?_)
 ·have h14:(FO W.heap.size [[(r1,r2,r3,r4)]]) o14 u.val:=hr hR 14
  clear hR
  go_simp
  refine((e6 _ _ _ ((HP.out.planes.below u.below).mono (Nat.zero_le _)) (h14.2.cells.mono (Nat.zero_le _))).out).mono ?_
  rintro e w9 ⟨v9,rfl,hb9,hp9⟩
  exact hK _ _ hb9 (AY hp9 (by have:=u.size;omega))
 iterate 3 ((try go_frame);refine wkQ ?_)
 try go_frame
 refine wkU (fun u hR K hK=> ?_) (fun o19=> ?_)
 ·clear hR
  have zw:=u.size
  go_simp
  exact hK _ _ bel (cF [(l1,l2,l3,l4)] (by omega))
 try go_frame
 refine wkU (fun u hR K hK=> ?_) (fun o20=> ?_)
 ·have h19:(PO W.heap.size [(l1,l2,l3,l4)]) o19 u.val:=hr hR 19
  clear hR
  have zw:=u.size
  have H1:=Lib.hid (HL.out.below u.below)
  obtain⟨xa,xc,rfl⟩:=(h19).shape
  have H2:=Lib.hid ((h19).mono (Nat.zero_le _))
  clear h19
  go_simp
  exact hK _ _ bel (bi [_,_] [_,_] (by omega) ⟨H1.out,H2.out,trivial⟩ bel)
 try go_frame
 refine wkU (fun u hR K hK=> ?_) (fun o21=> ?_)
 ·have h20:(FO 0 [pl,[(l1,l2,l3,l4)]]) o20 u.val:=hr hR 20
  clear hR
  go_simp
  refine((e7 _ _ _ ((HP.out.planes.below u.below).mono (Nat.zero_le _)) h20.2.cells).out).mono ?_
  rintro e w9 ⟨v9,rfl,hb9,hp9⟩
  exact hK _ _ hb9 (AY hp9 (by have:=u.size;omega))
 iterate 3 ((try go_frame);refine wkQ ?_)
 try go_frame
 refine wkV ?_
 apply ex3
 ·intro u K hK
  go_simp
  refine((eT _).out).mono ?_
  rintro e w9 ⟨rfl,hb9⟩
  exact hK _ hb9
 rfl
 try go_frame
 refine wkU (fun u hR K hK=> ?_) (fun o26=> ?_)
 ·clear hR
  have zw:=u.size
  go_simp
  exact hK _ _ bel (cF [(t1,t2,t3,t4)] (by omega))
 try go_frame
 refine wkU (fun u hR K hK=> ?_) (fun o27=> ?_)
 ·have h26:(PO W.heap.size [(t1,t2,t3,t4)]) o26 u.val:=hr hR 26
  clear hR
  have zw:=u.size
  have H1:=Lib.hid (HL.out.below u.below)
  obtain⟨xa,xc,rfl⟩:=(h26).shape
  have H2:=Lib.hid ((h26).mono (Nat.zero_le _))
  clear h26
  go_simp
  exact hK _ _ bel (bi [_,_] [_,_] (by omega) ⟨H1.out,H2.out,trivial⟩ bel)
 try go_frame
 refine wkU (fun u hR K hK=> ?_) (fun o28=> ?_)
 ·have h27:(FO 0 [pl,[(t1,t2,t3,t4)]]) o27 u.val:=hr hR 27
  clear hR
  go_simp
  refine((e8 _ _ _ ((HP.out.planes.below u.below).mono (Nat.zero_le _)) h27.2.cells).out).mono ?_
  rintro e w9 ⟨v9,rfl,hb9,hp9⟩
  exact hK _ _ hb9 (AY hp9 (by have:=u.size;omega))
 iterate 4 ((try go_frame);refine wkQ ?_)
 try go_frame
 refine wkU (fun u hR K hK=> ?_) (fun o33=> ?_)
 ·clear hR
  have zw:=u.size
  go_simp
  exact hK _ _ bel (cF [(a1,a2,a3,a4)] (by omega))
 try go_frame
 refine wkU (fun u hR K hK=> ?_) (fun o34=> ?_)
 ·have h33:(PO W.heap.size [(a1,a2,a3,a4)]) o33 u.val:=hr hR 33
  clear hR
  have zw:=u.size
  have H1:=Lib.hid (HL.out.below u.below)
  have H3:=Lib.hid (HS.out.below u.below)
  obtain⟨xa,xc,rfl⟩:=h33.shape
  have H2:=Lib.hid (h33.mono (Nat.zero_le _))
  clear h33
  go_simp
  exact hK _ _ bel (bi [_,_,_] [_,_,_] (by omega) ⟨H1.out,H3.out,H2.out,trivial⟩ bel)
 try go_frame
 refine wkU (fun u hR K hK=> ?_) (fun o35=> ?_)
 ·have h34:(FO 0 [pl,sl,[(a1,a2,a3,a4)]]) o34 u.val:=hr hR 34
  clear hR
  go_simp
  refine((e9 _ _ _ ((HP.out.planes.below u.below).mono (Nat.zero_le _)) h34.2.cells).out).mono ?_
  rintro e w9 ⟨v9,rfl,hb9,hp9⟩
  exact hK _ _ hb9 (AY hp9 (by have:=u.size;omega))
 try go_frame
 refine wkU (fun u hR K hK=> ?_) (fun o36=> ?_)
 ·have h7:(PO W.heap.size k5) o7 u.val:=hr hR 7
  have h15:(PO W.heap.size k6) o15 u.val:=hr hR 15
  have h21:(PO W.heap.size k7) o21 u.val:=hr hR 21
  have h28:(PO W.heap.size k8) o28 u.val:=hr hR 28
  have h35:(PO W.heap.size k9) o35 u.val:=hr hR 35
  clear hR
  have zw:=u.size
  obtain⟨ya,yc,rfl⟩:=h7.shape
  obtain⟨ua,uc,rfl⟩:=h15.shape
  obtain⟨va,vc,rfl⟩:=h21.shape
  obtain⟨xa,xc,rfl⟩:=h28.shape
  obtain⟨za,zc,rfl⟩:=h35.shape
  have H4:=Lib.hid h7
  have H9:=Lib.hid h15
  have H17:=Lib.hid h21
  have H25:=Lib.hid h28
  have H26:=Lib.hid h35
  clear h7 h15 h21 h28 h35
  go_simp
  exact hK _ _ bel (bi [_,_,_,_,_] [_,_,_,_,_] (by omega) ⟨H4.out,H9.out,H17.out,H25.out,H26.out,trivial⟩ bel)
 try go_frame
 refine aI (fun u hR=> ?_)
 have HF:Hid (FO W.heap.size [k5,k6,k7,k8,k9] o36 u.val):=Lib.hid (hR 36 (by simp))
 have hb1:=ae hV u.below
 clear hR
 generalize u.val=w9 at*
 clear u
 simp only[oas]
 go_wp2
 refine NoPanic.normal ?_
 go_wp2
 go_ret
 exact⟨_,rfl,hb1,HF.out⟩
end
end Go.Proofs.YtokhkhnofkcalaaGreatDoor
