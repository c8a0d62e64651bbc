/- texts: X3 X4 X5 XI. -/
import Derived.Test.YtokhkhnofkcalaaGreatDoorKZS37
namespace Go.Proofs.YtokhkhnofkcalaaGreatDoor
set_option maxHeartbeats 8000000
set_option linter.unusedSimpArgs false
set_option linter.unusedVariables false
section
open Go.RowKit Go.Shelf
set_option maxRecDepth 100000
attribute [local go_sem] Ext.cell Ext.frozen
theorem qj (nv:Value) (n:List Int) (W:World) (hn:Ints W nv n) (hl:n.length=4) (hb:∀i, -100000≤n.getD i 0∧n.getD i 0≤100000):
  Calls Tryz.prog 78 #[nv] W fun e w'=>∃r,e= .returned r∧Below W.heap.size W w'∧FO W.heap.size (fu (n.getD 0 0) (n.getD 1 0) (n.getD 2 0) (n.getD 3 0)) r w':=by
 obtain⟨b,off,c,rfl,hc,zb,hat⟩:=hn.at' (by omega)
 have c0:=hat 0 (by omega)
 have c1:=hat 1 (by omega)
 have c2:=hat 2 (by omega)
 have c3:=hat 3 (by omega)
 rw[Nat.add_zero]at c0
 have b0:=hb 0
 have b1:=hb 1
 have b2:=hb 2
 have b3:=hb 3
 rw[hl]
 generalize n.getD 0 0=x0 at*
 generalize n.getD 1 0=x1 at*
 generalize n.getD 2 0=x2 at*
 generalize n.getD 3 0=x3 at*
 have hk:fu x0 x1 x2 x3=[[axP 1 1 x0],[axP 1 (-1) (-x1)],[btP 1 x0 x1,[axP 2 1 x2]].flatten,[btP 1 x0 x1,[axP 2 (-1) (-x3)]].flatten]:=by simp[fu,leP,geP]
 rw[hk]
 have h1:=fun W'=>Lib.hid (cR 1 x0 W' (by omega) (by omega))
 have h2:=fun W'=>Lib.hid (bX 1 x1 W' (by omega) (by omega))
 have h4:=fun W'=>Lib.hid (cR 2 x2 W' (by omega) (by omega))
 have h5:=fun W'=>Lib.hid (bX 2 x3 W' (by omega) (by omega))
 have h3:=fun W'=>Lib.hid (bO 1 x0 x1 W' (by omega) (by omega) (by omega))
 have lr:(btP 1 x0 x1).length=2:=rfl
 generalize axP 1 1 x0=p at*
 generalize axP 1 (-1) (-x1)=q at*
 generalize axP 2 1 x2=s at*
 generalize axP 2 (-1) (-x3)=t at*
 generalize btP 1 x0 x1=r at*
 obtain⟨p1,p2,p3,p4⟩:=p
 obtain⟨q1,q2,q3,q4⟩:=q
 obtain⟨s1,s2,s3,s4⟩:=s
 obtain⟨t1,t2,t3,t4⟩:=t
 have h6:=fun cv lv W' hc hl=>Lib.hid (bC cv r lv [[(s1,s2,s3,s4)]] W' hc hl (by simp) (by simp) (by simp[lr]))
 have h7:=fun cv lv W' hc hl=>Lib.hid (bC cv r lv [[(t1,t2,t3,t4)]] W' hc hl (by simp) (by simp) (by simp[lr]))
 obtain⟨rs,hrs⟩:∃rs,rs=[r,[(s1,s2,s3,s4)]].flatten:=⟨_,rfl⟩
 obtain⟨rt,hrt⟩:∃rt,rt=[r,[(t1,t2,t3,t4)]].flatten:=⟨_,rfl⟩
 rw[←hrs]at h6 ⊢
 rw[←hrt]at h7 ⊢
 clear hat hn hl hb hk b0 b1 b2 b3 hrs hrt lr
 go_enter Tryz.func78,Tryz.ntmps78
 go_wp2
 apply aj [] [0,1,2,3,4,5,6] 7 [] [sv _,sv _,sv _,sv _,sv _,sv _,sPO W.heap.size r] (by kernel_rfl) (by kernel_rfl)
 iterate 6 ((try go_frame);refine wkQ ?_)
 try go_frame
 refine wkU (fun u hR K hK=> ?_) (fun o6=> ?_)
 ·clear hR
  go_simp
  refine((h3 _).out).mono ?_
  rintro e w9 ⟨v9,rfl,hb9,hp9⟩
  exact hK _ _ hb9 (AY hp9 (by have:=u.size;omega))
 try go_frame
 refine aI (fun u hR=> ?_)
 have HP6:Hid (PO W.heap.size r o6 u.val):=Lib.hid (hR 6 (by simp))
 obtain⟨ra,rc,rfl⟩:=(HP6.out).shape
 have hb1:=u.below
 clear hR
 generalize u.val=w1 at*
 clear u
 simp only[oas]
 go_wp2
 refine NoPanic.normal ?_
 have c0:=ab hb1 c0
 have c1:=ab hb1 c1
 have c2:=ab hb1 c2
 have c3:=ab hb1 c3
 have zb:=Nat.lt_of_lt_of_le zb hb1.size
 have zs:=hb1.size
 clear h3
 go_wp2
 apply aj [] [0,1,2,3,4,5,6,7,8,9,10,11,12,13,14,15,16,17,18,19,20,21,22,23,24,25,26] 27 [] [sv _,sv _,sv _,sv _,sPO W.heap.size [(p1,p2,p3,p4)],sv _,sv _,sv _,sv _,sPO W.heap.size [(q1,q2,q3,q4)],sv _,sv _,sv _,sv _,sv _,sPO W.heap.size [(s1,s2,s3,s4)],sFO W.heap.size [[(s1,s2,s3,s4)]],sPO W.heap.size rs,sv _,sv _,sv _,sv _,sv _,sPO W.heap.size [(t1,t2,t3,t4)],sFO W.heap.size [[(t1,t2,t3,t4)]],sPO W.heap.size rt,sFO W.heap.size [[(p1,p2,p3,p4)],[(q1,q2,q3,q4)],rs,rt]] (by kernel_rfl) (by kernel_rfl)
 iterate 3 ((try go_frame);refine wkQ ?_)
 try go_frame
 refine wkV ?_
 apply ex3
 ·intro u K hK
  go_simp
  refine((h1 _).out).mono ?_
  rintro e w9 ⟨rfl,hb9⟩
  exact hK _ hb9
 rfl
 try go_frame
 refine wkU (fun u hR K hK=> ?_) (fun o4=> ?_)
 ·clear hR
  have zw:=u.size
  go_simp
  exact hK _ _ bel (cF [(p1,p2,p3,p4)] (by omega))
 iterate 3 ((try go_frame);refine wkQ ?_)
 try go_frame
 refine wkV ?_
 apply ex3
 ·intro u K hK
  go_simp
  refine((h2 _).out).mono ?_
  rintro e w9 ⟨rfl,hb9⟩
  exact hK _ hb9
 rfl
 try go_frame
 refine wkU (fun u hR K hK=> ?_) (fun o9=> ?_)
 ·clear hR
  have zw:=u.size
  go_simp
  exact hK _ _ bel (cF [(q1,q2,q3,q4)] (by omega))
 iterate 4 ((try go_frame);refine wkQ ?_)
 try go_frame
 refine wkV ?_
 apply ex3
 ·intro u K hK
  go_simp
  refine((h4 _).out).mono ?_
  rintro e w9 ⟨rfl,hb9⟩
  exact hK _ hb9
 rfl
 try go_frame
 refine wkU (fun u hR K hK=> ?_) (fun o15=> ?_)
 ·clear hR
  have zw:=u.size
  go_simp
  exact hK _ _ bel (cF [(s1,s2,s3,s4)] (by omega))
 try go_frame
 refine wkU (fun u hR K hK=> ?_) (fun o16=> ?_)
 ·have h15:(PO W.heap.size [(s1,s2,s3,s4)]) o15 u.val:=hr hR 15
  clear hR
  have zw:=u.size
  obtain⟨ya,yc,rfl⟩:=(h15).shape
  have H1:=Lib.hid h15
  clear h15
  go_simp
  exact hK _ _ bel (bi [_] [_] (by omega) ⟨H1.out,trivial⟩ bel)
 try go_frame
 refine wkU (fun u hR K hK=> ?_) (fun o17=> ?_)
 ·have h16:(FO W.heap.size [[(s1,s2,s3,s4)]]) o16 u.val:=hr hR 16
  clear hR
  go_simp
  refine((h6 _ _ _ ((HP6.out.planes.below u.below).mono (Nat.zero_le _)) (h16.2.cells.mono (Nat.zero_le _))).out).mono ?_
  rintro e w9 ⟨v9,rfl,hb9,hp9⟩
  exact hK _ _ hb9 (AY hp9 (by have:=u.size;omega))
 iterate 4 ((try go_frame);refine wkQ ?_)
 try go_frame
 refine wkV ?_
 apply ex3
 ·intro u K hK
  go_simp
  refine((h5 _).out).mono ?_
  rintro e w9 ⟨rfl,hb9⟩
  exact hK _ hb9
 rfl
 try go_frame
 refine wkU (fun u hR K hK=> ?_) (fun o23=> ?_)
 ·clear hR
  have zw:=u.size
  go_simp
  exact hK _ _ bel (cF [(t1,t2,t3,t4)] (by omega))
 try go_frame
 refine wkU (fun u hR K hK=> ?_) (fun o24=> ?_)
 ·have h23:(PO W.heap.size [(t1,t2,t3,t4)]) o23 u.val:=hr hR 23
  clear hR
  have zw:=u.size
  obtain⟨ya,yc,rfl⟩:=(h23).shape
  have H1:=Lib.hid h23
  clear h23
  go_simp
  exact hK _ _ bel (bi [_] [_] (by omega) ⟨H1.out,trivial⟩ bel)
 try go_frame
 refine wkU (fun u hR K hK=> ?_) (fun o25=> ?_)
 ·have h24:(FO W.heap.size [[(t1,t2,t3,t4)]]) o24 u.val:=hr hR 24
  clear hR
  go_simp
  refine((h7 _ _ _ ((HP6.out.planes.below u.below).mono (Nat.zero_le _)) (h24.2.cells.mono (Nat.zero_le _))).out).mono ?_
  rintro e w9 ⟨v9,rfl,hb9,hp9⟩
  exact hK _ _ hb9 (AY hp9 (by have:=u.size;omega))
 try go_frame
 refine wkU (fun u hR K hK=> ?_) (fun o26=> ?_)
 ·have h4:(PO W.heap.size [(p1,p2,p3,p4)]) o4 u.val:=hr hR 4
  have h9:(PO W.heap.size [(q1,q2,q3,q4)]) o9 u.val:=hr hR 9
  have h17:(PO W.heap.size rs) o17 u.val:=hr hR 17
  have h25:(PO W.heap.size rt) o25 u.val:=hr hR 25
  clear hR
  have zw:=u.size
  obtain⟨ya,yc,rfl⟩:=h4.shape
  obtain⟨ua,uc,rfl⟩:=h9.shape
  obtain⟨va,vc,rfl⟩:=h17.shape
  obtain⟨xa,xc,rfl⟩:=h25.shape
  have H4:=Lib.hid h4
  have H9:=Lib.hid h9
  have H17:=Lib.hid h17
  have H25:=Lib.hid h25
  clear h4 h9 h17 h25
  go_simp
  exact hK _ _ bel (bi [_,_,_,_] [_,_,_,_] (by omega) ⟨H4.out,H9.out,H17.out,H25.out,trivial⟩ bel)
 try go_frame
 refine aI (fun u hR=> ?_)
 have HP26:Hid (FO W.heap.size [[(p1,p2,p3,p4)],[(q1,q2,q3,q4)],rs,rt] o26 u.val):=Lib.hid (hR 26 (by simp))
 have hb2:=u.below
 clear hR
 generalize u.val=w2 at*
 clear u
 simp only[oas]
 go_wp2
 refine NoPanic.normal ?_
 go_wp2
 go_ret
 exact⟨_,rfl,ae hb1 hb2,HP26.out⟩
theorem rN (nv:Value) (n:List Int) (W:World) (hn:Ints W nv n) (hl:n.length=4) (hb:∀i, -100000≤n.getD i 0∧n.getD i 0≤100000):
  Calls Tryz.prog 78 #[nv] W fun e w'=>∃r,e= .returned r∧Below W.heap.size W w'∧CellsV W.heap.size w' r (fu (n.getD 0 0) (n.getD 1 0) (n.getD 2 0) (n.getD 3 0)):=
 (qj nv n W hn hl hb).mono (by rintro e w' ⟨r,rfl,hb,ho⟩;exact⟨r,rfl,hb,ho.2.cells⟩)
theorem tV (l w t:Int) (nv:Value) (n:List Int) (W:World) (hn:Ints W nv n) (hl:n.length=4) (hb:∀i, -100000≤n.getD i 0∧n.getD i 0≤100000):
  Calls Tryz.prog 31 #[vJ 2 l w t nv] W (cW W (aR 2 l w n) (bR 2 l n)):=by
 unfold vJ
 have hk:aR 2 l w n=[[[btP 1 (n.getD 0 0) (n.getD 1 0),btP 2 (n.getD 2 0) (n.getD 3 0)].flatten],fu (n.getD 0 0) (n.getD 1 0) (n.getD 2 0) (n.getD 3 0)]:=by simp[aR]
 have hg:bR 2 l n=[]:=rfl
 rw[hk,hg]
 have hA:=fun W' (h:Below W.heap.size W W')=>Lib.hid (rN nv n W' (hn.below h) hl hb)
 obtain⟨b,off,c,rfl,hc,zb,hat⟩:=hn.at' (by omega)
 have c0:=hat 0 (by omega)
 have c1:=hat 1 (by omega)
 have c2:=hat 2 (by omega)
 have c3:=hat 3 (by omega)
 rw[Nat.add_zero]at c0
 have b0:=hb 0
 have b1:=hb 1
 have b2:=hb 2
 have b3:=hb 3
 rw[hl]at*
 generalize n.getD 0 0=x0 at*
 generalize n.getD 1 0=x1 at*
 generalize n.getD 2 0=x2 at*
 generalize n.getD 3 0=x3 at*
 have h3:=fun W'=>Lib.hid (show Calls Tryz.prog 72 #[.int .i64 1, .int .i64 x0, .int .i64 x1] W' fun e w'=>∃r,e= .returned r∧Below W'.heap.size W' w'∧PlanesV W'.heap.size w' r (btP 1 x0 x1)from fC 1 x0 x1 W' (by omega) (by omega) (by omega))
 have h4:=fun W'=>Lib.hid (show Calls Tryz.prog 72 #[.int .i64 2, .int .i64 x2, .int .i64 x3] W' fun e w'=>∃r,e= .returned r∧Below W'.heap.size W' w'∧PlanesV W'.heap.size w' r (btP 2 x2 x3)from fC 2 x2 x3 W' (by omega) (by omega) (by omega))
 have lr:(btP 1 x0 x1).length=2:=rfl
 have ls:(btP 2 x2 x3).length=2:=rfl
 generalize btP 1 x0 x1=r at*
 generalize btP 2 x2 x3=s at*
 generalize fu x0 x1 x2 x3=ak at*
 have hwth:=fun cv lv W' hc hl=>Lib.hid (tS cv r lv [s] W' hc hl (by simp) (by simp) (by simp[lr,ls]))
 obtain⟨rs,hrs⟩:∃rs,rs=[r,s].flatten:=⟨_,rfl⟩
 rw[←hrs]at hwth ⊢
 clear hat hn hl hb hk hg b0 b1 b2 b3 hrs lr ls
 obtain⟨W1,HW1⟩:∃W1,Hid ((W.alloc (.cells #[.int .i64 2, .int .i64 l, .int .i64 w, .int .i64 t, .slice (some ⟨b,off,none⟩) 4 c] 25)).alloc (.cells #[.slice none 0 0, .slice none 0 0] 75)=W1):=⟨_,Lib.hid rfl⟩
 have hW1:Below W.heap.size W W1:=by rw[←HW1.out];exact bel
 have HR:Hid (W1.heap[W.heap.size+1]? =some (.cells #[.slice none 0 0, .slice none 0 0] 75 (0,0))):=by rw[←HW1.out];exact Lib.hid (ai (by simp))
 have c0:=ab hW1 c0
 have c1:=ab hW1 c1
 have c2:=ab hW1 c2
 have c3:=ab hW1 c3
 have zs:W.heap.size+2≤W1.heap.size:=by rw[←HW1.out];simp
 have zb:=Nat.lt_of_lt_of_le zb hW1.size
 go_enter Tryz.func31,Tryz.ntmps31
 go_wp2
 rw[HW1.out]
 clear HW1
 refine cX [0,1,2,3,4,5,6,7,8,9,10,11,12,13,14,15] 16 [] (pick [IsV (.slice (some ⟨b,off,none⟩) 4 c),IsV (.pointer (some ⟨b,off,none⟩)),IsV (.int .i64 x0),IsV (.slice (some ⟨b,off,none⟩) 4 c),IsV (.pointer (some ⟨b,off+1,none⟩)),IsV (.int .i64 x1),IsP (W.heap.size+2) r,IsV (.slice (some ⟨b,off,none⟩) 4 c),IsV (.pointer (some ⟨b,off+2,none⟩)),IsV (.int .i64 x2),IsV (.slice (some ⟨b,off,none⟩) 4 c),IsV (.pointer (some ⟨b,off+3,none⟩)),IsV (.int .i64 x3),IsP (W.heap.size+2) s,IsC (W.heap.size+2) [s],IsP (W.heap.size+2) rs]) (by kernel_rfl) (by kernel_rfl) (Stabs.pick (by repeat(first|exact Stabs.nil|refine Stabs.cons (by first|exact dj _|exact dy _ _|exact dA _ _) ?_))) ?_
 try go_frame
 refine wgS (fun w' hb' hR K hK=> ?_) (fun o0=> ?_)
 ·clear hR
  go_simp
  exact hK _ _ brf rfl
 try go_frame
 refine wgS (fun w' hb' hR K hK=> ?_) (fun o1=> ?_)
 ·obtain rfl:o0= .slice (some ⟨b,off,none⟩) 4 c:=hr hR 0
  clear hR
  go_simp
  exact hK _ _ brf rfl
 try go_frame
 refine wgS (fun w' hb' hR K hK=> ?_) (fun o2=> ?_)
 ·obtain rfl:o1= .pointer (some ⟨b,off,none⟩):=hr hR 1
  clear hR
  have cc:=ab hb' c0
  have zz:=World.block_lt_of_cell? w' _ cc
  simp only at zz
  go_simp
  exact hK _ _ brf rfl
 try go_frame
 refine wgS (fun w' hb' hR K hK=> ?_) (fun o3=> ?_)
 ·clear hR
  go_simp
  exact hK _ _ brf rfl
 try go_frame
 refine wgS (fun w' hb' hR K hK=> ?_) (fun o4=> ?_)
 ·obtain rfl:o3= .slice (some ⟨b,off,none⟩) 4 c:=hr hR 3
  clear hR
  go_simp
  exact hK _ _ brf rfl
 try go_frame
 refine wgS (fun w' hb' hR K hK=> ?_) (fun o5=> ?_)
 ·obtain rfl:o4= .pointer (some ⟨b,off+1,none⟩):=hr hR 4
  clear hR
  have cc:=ab hb' c1
  have zz:=World.block_lt_of_cell? w' _ cc
  simp only at zz
  go_simp
  exact hK _ _ brf rfl
 try go_frame
 refine wgS (fun w' hb' hR K hK=> ?_) (fun o6=> ?_)
 ·obtain rfl:o2= .int .i64 x0:=hr hR 2
  obtain rfl:o5= .int .i64 x1:=hr hR 5
  clear hR
  go_simp
  refine((h3 _).out).mono ?_
  rintro e w9 ⟨v9,rfl,hb9,hp9⟩
  exact hK _ _ hb9 (PlanesV.mono hp9 (by have:=hb'.size;omega))
 try go_frame
 refine wgS (fun w' hb' hR K hK=> ?_) (fun o7=> ?_)
 ·clear hR
  go_simp
  exact hK _ _ brf rfl
 try go_frame
 refine wgS (fun w' hb' hR K hK=> ?_) (fun o8=> ?_)
 ·obtain rfl:o7= .slice (some ⟨b,off,none⟩) 4 c:=hr hR 7
  clear hR
  go_simp
  exact hK _ _ brf rfl
 try go_frame
 refine wgS (fun w' hb' hR K hK=> ?_) (fun o9=> ?_)
 ·obtain rfl:o8= .pointer (some ⟨b,off+2,none⟩):=hr hR 8
  clear hR
  have cc:=ab hb' c2
  have zz:=World.block_lt_of_cell? w' _ cc
  simp only at zz
  go_simp
  exact hK _ _ brf rfl
 try go_frame
 refine wgS (fun w' hb' hR K hK=> ?_) (fun o10=> ?_)
 ·clear hR
  go_simp
  exact hK _ _ brf rfl
 try go_frame
 refine wgS (fun w' hb' hR K hK=> ?_) (fun o11=> ?_)
 ·obtain rfl:o10= .slice (some ⟨b,off,none⟩) 4 c:=hr hR 10
  clear hR
  go_simp
  exact hK _ _ brf rfl
 try go_frame
 refine wgS (fun w' hb' hR K hK=> ?_) (fun o12=> ?_)
 ·obtain rfl:o11= .pointer (some ⟨b,off+3,none⟩):=hr hR 11
  clear hR
  have cc:=ab hb' c3
  have zz:=World.block_lt_of_cell? w' _ cc
  simp only at zz
  go_simp
  exact hK _ _ brf rfl
 try go_frame
 refine wgS (fun w' hb' hR K hK=> ?_) (fun o13=> ?_)
 ·obtain rfl:o9= .int .i64 x2:=hr hR 9
  obtain rfl:o12= .int .i64 x3:=hr hR 12
  clear hR
  go_simp
  refine((h4 _).out).mono ?_
  rintro e w9 ⟨v9,rfl,hb9,hp9⟩
  exact hK _ _ hb9 (PlanesV.mono hp9 (by have:=hb'.size;omega))
 try go_frame
 refine wgS (fun w' hb' hR K hK=> ?_) (fun o14=> ?_)
 ·have h13:(IsP (W.heap.size+2) s) o13 w':=hr hR 13
  clear hR
  have zw:=hb'.size
  obtain⟨ya,ym,yc,rfl⟩:=fv h13
  have H4:=Lib.hid h13
  clear h13
  go_simp
  exact hK _ _ bel (fO (by omega) H4.out bel)
 try go_frame
 refine wgS (fun w' hb' hR K hK=> ?_) (fun o15=> ?_)
 ·have h6:(IsP (W.heap.size+2) r) o6 w':=hr hR 6
  have h14:(IsC (W.heap.size+2) [s]) o14 w':=hr hR 14
  clear hR
  go_simp
  refine((hwth _ _ _ (h6.mono (Nat.zero_le _)) (h14.mono (Nat.zero_le _))).out).mono ?_
  rintro e w9 ⟨v9,rfl,hb9,hp9⟩
  exact hK _ _ hb9 (PlanesV.mono hp9 (by have:=hb'.size;omega))
 try go_frame
 refine dE (fun w' hb' hR=> ?_)
 have hp6:PlanesV (W.heap.size+2) w' o15 rs:=hR 15 (by simp)
 have HP6:=Lib.hid hp6
 obtain⟨ra,rm,rc,rfl⟩:=fv hp6
 have HR1:=Lib.hid ((hb'.block _ (ah HR.out)).trans HR.out)
 have hw1:=ae hW1 hb'
 have zs1:=Nat.le_trans zs hb'.size
 clear hR hp6 HR c0 c1 c2 c3 zb hW1 zs h3 h4 hwth
 simp only[oas]
 go_wp2
 refine NoPanic.normal ?_
 clear hb'
 generalize w'=w1 at*
 have hbx:Below w1.heap.size w1 (w1.alloc (.cells #[.slice ra rm rc] 104)):=bel
 have HC1:=Lib.hid (fO (B:=W.heap.size+2) (by omega) HP6.out hbx)
 have HR2:=Lib.hid ((hbx.block _ (ah HR1.out)).trans HR1.out)
 have hw2:=ae hw1 hbx
 have zs2:=Nat.le_trans zs1 hbx.size
 go_wp2_with fail
 refine((hA _ hw2).out).mono ?_
 rintro e w3 ⟨av,rfl,hb3,hca⟩
 have HCA:=Lib.hid (hca.mono (B':=W.heap.size+2) zs2)
 obtain⟨aa,am,ac,rfl⟩:=dY hca
 have HC3:=Lib.hid (HC1.out.below hb3)
 have HR3:=Lib.hid ((hb3.block _ (ah HR2.out)).trans HR2.out)
 have hw3:=ae hw2 hb3
 have zs3:=Nat.le_trans zs2 hb3.size
 clear hca HC1 HR2 HR1 HP6 hw2 hb3 hbx hA zs2
 have e0:=(ag HR3.out 0).trans rfl
 have e1:=(ag HR3.out 1).trans rfl
 have f0:=aC HR3.out 0
 have f1:=aC HR3.out 1
 have zu:=ah HR3.out
 go_wp2
 have HC5:=((HC3.out.far (i:=0) (x:= .slice (some ⟨w3.heap.size,0,none⟩) 2 2) (g:=W.heap.size+1) (by omega)).far (i:=1) (x:= .slice none 0 0) (g:=W.heap.size+1) (by omega))
 have HCA5:=((HCA.out.far (i:=0) (x:= .slice (some ⟨w3.heap.size,0,none⟩) 2 2) (g:=W.heap.size+1) (by omega)).far (i:=1) (x:= .slice none 0 0) (g:=W.heap.size+1) (by omega))
 have hPP:=jg (T:=72) (by simpa using zs3) HC5 HCA5 bel
 simp only[World.size_setCell]at hPP
 have hbz:Below ((w3.setCell ⟨W.heap.size+1,0,none⟩ (.slice (some ⟨w3.heap.size,0,none⟩) 2 2)).setCell ⟨W.heap.size+1,1,none⟩ (.slice none 0 0)).heap.size ((w3.setCell ⟨W.heap.size+1,0,none⟩ (.slice (some ⟨w3.heap.size,0,none⟩) 2 2)).setCell ⟨W.heap.size+1,1,none⟩ (.slice none 0 0)) (((w3.setCell ⟨W.heap.size+1,0,none⟩ (.slice (some ⟨w3.heap.size,0,none⟩) 2 2)).setCell ⟨W.heap.size+1,1,none⟩ (.slice none 0 0)).alloc (.cells #[.slice (some ⟨w1.heap.size,0,none⟩) 1 1, .slice aa am ac] 72)):=bel
 have hb5:=br (br HR3.out 0 (.slice (some ⟨w3.heap.size,0,none⟩) 2 2)) 1 (.slice none 0 0)
 have r0:=ab hbz ((ag hb5 0).trans rfl)
 have r1:=ab hbz ((ag hb5 1).trans rfl)
 refine bodyPost_ret (v:= .agg #[.slice (some ⟨w3.heap.size,0,none⟩) 2 2, .slice none 0 0]) (by simp[results,Tryz.results31,go_sem,r0,r1]) rfl ⟨_,rfl, ?_,_,_,rfl,PartsV.mono hPP (Nat.zero_le _),iJ⟩
 have hs5:Below W.heap.size W ((w3.setCell ⟨W.heap.size+1,0,none⟩ (.slice (some ⟨w3.heap.size,0,none⟩) 2 2)).setCell ⟨W.heap.size+1,1,none⟩ (.slice none 0 0)):=(hw3.setCell (by simp) _).setCell (by simp) _
 exact hs5.alloc hs5.size _
theorem tW (l w t:Int) (nv:Value) (n:List Int) (W:World) (hn:Ints W nv n) (hl:n.length=3) (hb:∀i, -100000≤n.getD i 0∧n.getD i 0≤100000) (hm: -1000000000≤n.getD 1 0*n.getD 0 0∧n.getD 1 0*n.getD 0 0≤1000000000):
  Calls Tryz.prog 31 #[vJ 6 l w t nv] W (cW W (aR 6 l w n) (bR 6 l n)):=by
 unfold vJ
 obtain⟨b,off,c,rfl,hc,zb,hat⟩:=hn.at' (by omega)
 have c0:=hat 0 (by omega)
 have c1:=hat 1 (by omega)
 have c2:=hat 2 (by omega)
 rw[Nat.add_zero]at c0
 have b1:=hb 1
 have b2:=hb 2
 have hk:aR 6 l w n=[[[trP (n.getD 1 0,0, -(n.getD 2 0),n.getD 1 0*n.getD 0 0)]],[[(n.getD 1 0,0, -(n.getD 2 0),n.getD 1 0*n.getD 0 0)]]]:=rfl
 have hg:bR 6 l n=[]:=rfl
 rw[hk,hg]
 rw[hl]
 generalize n.getD 0 0=x0 at*
 generalize n.getD 1 0=x1 at*
 generalize n.getD 2 0=x2 at*
 obtain⟨m,hmm⟩:∃m,x1*x0=m:=⟨_,rfl⟩
 have w1:IntKind.i64.wrap (x1*x0)=m:=by rw[hmm];exact IntWalk.i64_in _ (by omega)
 have w2:IntKind.i64.wrap (-x2)= -x2:=IntWalk.i64_in _ (by omega)
 rw[hmm]at hm ⊢
 have hT:=fun W'=>Lib.hid (show Calls Tryz.prog 82 #[V4 x1 0 (-x2) m] W' (Ret W' (v4 (trP (x1,0, -x2,m))))from eE x1 0 (-x2) m W' (by omega) (by omega) (by omega) hm)
 generalize trP (x1,0, -x2,m)=p at*
 obtain⟨p1,p2,p3,p4⟩:=p
 clear hat hn hl hb hk hg b1 b2 hmm hm
 obtain⟨W1,HW1⟩:∃W1,Hid ((W.alloc (.cells #[.int .i64 6, .int .i64 l, .int .i64 w, .int .i64 t, .slice (some ⟨b,off,none⟩) 3 c] 25)).alloc (.cells #[.slice none 0 0, .slice none 0 0] 75)=W1):=⟨_,Lib.hid rfl⟩
 have hW1:Below W.heap.size W W1:=by rw[←HW1.out];exact bel
 have HR:Hid (W1.heap[W.heap.size+1]? =some (.cells #[.slice none 0 0, .slice none 0 0] 75 (0,0))):=by rw[←HW1.out];exact Lib.hid (ai (by simp))
 have c0:=ab hW1 c0
 have c1:=ab hW1 c1
 have c2:=ab hW1 c2
 have zs:W.heap.size+2≤W1.heap.size:=by rw[←HW1.out];simp
 have zb:=Nat.lt_of_lt_of_le zb hW1.size
 go_enter Tryz.func31,Tryz.ntmps31
 go_wp2
 rw[HW1.out]
 clear HW1
 apply aj [] [0,1,2,3,4,5,6,7,8,9,10,11,12,13,14,15] 16 [] [sv _,sv _,sv _,sv _,sv _,sv _,sv _,sv _,sv _,sv _,sv _,sv _,sv _,sv _,sv _,⟨da W1.heap.size 69 #[.int .i64 0, .int .i64 0, .int .i64 0, .int .i64 0],by first|exact ar _ _ _|exact dy _ _|exact dA _ _|exact dK _ _|exact di _ _⟩] (by kernel_rfl) (by kernel_rfl)
 iterate 15 ((try go_frame);refine wkQ ?_)
 try go_frame
 refine wkU (fun u hR K hK=> ?_) (fun o15=> ?_)
 ·clear hR
  have zz:=u.size
  go_simp
  exact hK _ _ bel ⟨_,rfl,zz,ai rfl⟩
 try go_frame
 refine aI (fun u hR=> ?_)
 have hb':=u.below
 generalize u.val=w' at*
 obtain⟨g5,rfl,hg5,hh5⟩:da W1.heap.size 69 #[.int .i64 0, .int .i64 0, .int .i64 0, .int .i64 0] o15 w':=hR 15 (by simp)
 have HG:=Lib.hid hh5
 obtain⟨d0,d1,d2,d3,df,dz⟩:=ff hh5
 have df0:=df 0
 have df1:=df 1
 have df2:=df 2
 have df3:=df 3
 have HX:=pI hh5 (.int .i64 x1) (.int .i64 0) (.int .i64 (-x2)) (.int .i64 m)
 have HbX:Below W1.heap.size W1 (tB w' g5 (.int .i64 x1) (.int .i64 0) (.int .i64 (-x2)) (.int .i64 m)):=(((hb'.setCell (by dsimp only;omega) _).setCell (by dsimp only;omega) _).setCell (by dsimp only;omega) _).setCell (by dsimp only;omega) _
 unfold tB at HX HbX
 clear hR hh5 c0 c1 c2 zb
 simp only[oas]
 go_wp2
 refine NoPanic.normal ?_
 go_wp2
 clear d0 d1 d2 d3 df dz df0 df1 df2 df3 hb' HG
 generalize(((w'.setCell ⟨g5,0,none⟩ (.int .i64 x1)).setCell ⟨g5,1,none⟩ (.int .i64 0)).setCell ⟨g5,2,none⟩ (.int .i64 (-x2))).setCell ⟨g5,3,none⟩ (.int .i64 m)=X at*
 obtain⟨d0,d1,d2,d3,_,dz⟩:=ff HX
 have hWX:=ae hW1 HbX
 have zX:=Nat.le_trans zs HbX.size
 have HRX:=Lib.hid ((HbX.block _ (ah HR.out)).trans HR.out)
 clear HR hW1
 apply aj [] [0,1,2,3,4,5,6,7,8] 9 [] [sv _,sv _,⟨IsP (W.heap.size+2) [(p1,p2,p3,p4)],by first|exact ar _ _ _|exact dy _ _|exact dA _ _|exact dK _ _|exact di _ _⟩,⟨IsC (W.heap.size+2) [[(p1,p2,p3,p4)]],by first|exact ar _ _ _|exact dy _ _|exact dA _ _|exact dK _ _|exact di _ _⟩,sv _,⟨IsP (W.heap.size+2) [(x1,0, -x2,m)],by first|exact ar _ _ _|exact dy _ _|exact dA _ _|exact dK _ _|exact di _ _⟩,⟨IsC (W.heap.size+2) [[(x1,0, -x2,m)]],by first|exact ar _ _ _|exact dy _ _|exact dA _ _|exact dK _ _|exact di _ _⟩,⟨IsK (W.heap.size+2) [[[(p1,p2,p3,p4)]],[[(x1,0, -x2,m)]]],by first|exact ar _ _ _|exact dy _ _|exact dA _ _|exact dK _ _|exact di _ _⟩,⟨xD (W.heap.size+2) [[[(p1,p2,p3,p4)]],[[(x1,0, -x2,m)]]],by first|exact ar _ _ _|exact dy _ _|exact dA _ _|exact dK _ _|exact di _ _⟩] (by kernel_rfl) (by kernel_rfl)
 ((try go_frame);refine wkQ ?_)
 try go_frame
 refine wkV ?_
 apply ex3
 ·intro u K hK
  go_simp
  refine((hT _).out).mono ?_
  rintro e w9 ⟨rfl,hb9⟩
  exact hK _ hb9
 rfl
 try go_frame
 refine wkU (fun u hR K hK=> ?_) (fun o2=> ?_)
 ·clear hR
  have zw:=u.size
  go_simp
  exact hK _ _ bel (dZ [(p1,p2,p3,p4)] rfl (by omega) rfl)
 try go_frame
 refine wkU (fun u hR K hK=> ?_) (fun o3=> ?_)
 ·have h2:IsP (W.heap.size+2) [(p1,p2,p3,p4)] o2 u.val:=hr hR 2
  clear hR
  have zw:=u.size
  obtain⟨ya,ym,yc,rfl⟩:=fv h2
  have H4:=Lib.hid h2
  clear h2
  go_simp
  exact hK _ _ bel (fO (by omega) H4.out bel)
 ((try go_frame);refine wkQ ?_)
 try go_frame
 refine wkU (fun u hR K hK=> ?_) (fun o5=> ?_)
 ·clear hR
  have zw:=u.size
  go_simp
  exact hK _ _ bel (dZ [(x1,0, -x2,m)] rfl (by omega) rfl)
 try go_frame
 refine wkU (fun u hR K hK=> ?_) (fun o6=> ?_)
 ·have h5:IsP (W.heap.size+2) [(x1,0, -x2,m)] o5 u.val:=hr hR 5
  clear hR
  have zw:=u.size
  obtain⟨ya,ym,yc,rfl⟩:=fv h5
  have H4:=Lib.hid h5
  clear h5
  go_simp
  exact hK _ _ bel (fO (by omega) H4.out bel)
 try go_frame
 refine wkU (fun u hR K hK=> ?_) (fun o7=> ?_)
 ·have h3:IsC (W.heap.size+2) [[(p1,p2,p3,p4)]] o3 u.val:=hr hR 3
  have h6:IsC (W.heap.size+2) [[(x1,0, -x2,m)]] o6 u.val:=hr hR 6
  clear hR
  have zw:=u.size
  obtain⟨ya,ym,yc,rfl⟩:=dY h3
  obtain⟨za,zm,zc,rfl⟩:=dY h6
  have H4:=Lib.hid h3
  have H9:=Lib.hid h6
  clear h3 h6
  go_simp
  exact hK _ _ bel (jg (by omega) H4.out H9.out bel)
 try go_frame
 refine wkU (fun u hR K hK=> ?_) (fun o8=> ?_)
 ·have h7:IsK (W.heap.size+2) [[[(p1,p2,p3,p4)]],[[(x1,0, -x2,m)]]] o7 u.val:=hr hR 7
  clear hR
  obtain⟨ya,ym,yc,rfl⟩:=et h7
  have H4:=Lib.hid h7
  clear h7
  go_simp
  exact hK _ _ brf ⟨_,rfl,H4.out⟩
 try go_frame
 refine aI (fun u hR=> ?_)
 have hb':=u.below
 generalize u.val=w' at*
 obtain⟨u,rfl,hp⟩:∃u,o8= .agg #[u, .slice none 0 0]∧PartsV (W.heap.size+2) w' u [[[(p1,p2,p3,p4)]],[[(x1,0, -x2,m)]]]:=hR 8 (by simp)
 have HP:=Lib.hid hp
 obtain⟨pa,pm,pc,rfl⟩:=et hp
 have HR':w'.heap[W.heap.size+1]? =some (.cells #[.slice none 0 0, .slice none 0 0] 75 (0,0)):=(hb'.block _ (ah HRX.out)).trans HRX.out
 have e0:=(ag HR' 0).trans rfl
 have e1:=(ag HR' 1).trans rfl
 have f0:=aC HR' 0
 have f1:=aC HR' 1
 have zu:=ah HR'
 clear hR
 simp only[oas]
 go_wp2
 refine NoPanic.normal ?_
 go_wp2
 refine bodyPost_ret (v:= .agg #[.slice pa pm pc, .slice none 0 0]) (by simp[results,Tryz.results31,go_sem,e0,e1]) rfl ⟨_,rfl, ?_,_,_,rfl, ?_,iJ⟩
 ·exact((ae hWX hb').setCell (by simp) _).setCell (by simp) _
 ·exact((HP.out.far (by omega)).far (by omega)).mono (by omega)
theorem nG (y z r e:Int) (W:World) (hy: -1000000≤y∧y≤1000000) (hz: -1000000≤z∧z≤1000000) (hr: -1000000≤r∧r≤1000000) (he: -1000000≤e∧e≤1000000):
  Calls Tryz.prog 125 #[.agg #[.int .i64 y, .int .i64 z], .int .i64 r, .int .i64 e] W fun en w'=>∃v,en= .returned v∧Below W.heap.size W w'∧PO W.heap.size (fY r e y z) v w':=by
 have hk:fY r e y z=[btP 1 (y-r) (y+r),btP 2 (z-r) (z+r),[(0,1,1,y+z+e),(0,1, -1,y-z+e),(0, -1,1,z-y+e),(0, -1, -1,e-y-z)]].flatten:=by simp[fY,kA]
 rw[hk]
 have e1:=fun W'=>Lib.hid (show Calls Tryz.prog 72 #[.int .i64 1, .int .i64 (y-r), .int .i64 (y+r)] W' _ from bO 1 (y-r) (y+r) W' (by omega) (by omega) (by omega))
 have e2:=fun W'=>Lib.hid (show Calls Tryz.prog 72 #[.int .i64 2, .int .i64 (z-r), .int .i64 (z+r)] W' _ from bO 2 (z-r) (z+r) W' (by omega) (by omega) (by omega))
 have ly:(btP 1 (y-r) (y+r)).length=2:=rfl
 have lz:(btP 2 (z-r) (z+r)).length=2:=rfl
 generalize btP 1 (y-r) (y+r)=py at*
 generalize btP 2 (z-r) (z+r)=pz at*
 have e3:=fun cv lv W' hc hl=>Lib.hid (bC cv py lv [pz,[(0,1,1,y+z+e),(0,1, -1,y-z+e),(0, -1,1,z-y+e),(0, -1, -1,e-y-z)]] W' hc hl (by simp) (by simp) (by simp[ly,lz]))
 obtain⟨ps,hps⟩:∃ps,ps=[py,pz,[(0,1,1,y+z+e),(0,1, -1,y-z+e),(0, -1,1,z-y+e),(0, -1, -1,e-y-z)]].flatten:=⟨_,rfl⟩
 rw[←hps]at e3 ⊢
 have k1:IntKind.i64.wrap (y-r)=y-r:=IntWalk.i64_in _ (by omega)
 have k2:IntKind.i64.wrap (y+r)=y+r:=IntWalk.i64_in _ (by omega)
 have k3:IntKind.i64.wrap (z-r)=z-r:=IntWalk.i64_in _ (by omega)
 have k4:IntKind.i64.wrap (z+r)=z+r:=IntWalk.i64_in _ (by omega)
 have k5:IntKind.i64.wrap (y+z)=y+z:=IntWalk.i64_in _ (by omega)
 have k6:IntKind.i64.wrap (y+z+e)=y+z+e:=IntWalk.i64_in _ (by omega)
 have k7:IntKind.i64.wrap (y-z)=y-z:=IntWalk.i64_in _ (by omega)
 have k8:IntKind.i64.wrap (y-z+e)=y-z+e:=IntWalk.i64_in _ (by omega)
 have k9:IntKind.i64.wrap (z-y)=z-y:=IntWalk.i64_in _ (by omega)
 have k10:IntKind.i64.wrap (z-y+e)=z-y+e:=IntWalk.i64_in _ (by omega)
 have k11:IntKind.i64.wrap (e-y)=e-y:=IntWalk.i64_in _ (by omega)
 have k12:IntKind.i64.wrap (e-y-z)=e-y-z:=IntWalk.i64_in _ (by omega)
 obtain⟨V,HV⟩:∃V,Hid (W.alloc (.cells #[.int .i64 y, .int .i64 z] 157)=V):=⟨_,Lib.hid rfl⟩
 have hV:Below W.heap.size W V:=by rw[←HV.out];exact bel
 have cy:V.cell? ⟨W.heap.size,0,none⟩=some (.int .i64 y):=by rw[←HV.out];exact(aq rfl 0).trans rfl
 have cz:V.cell? ⟨W.heap.size,1,none⟩=some (.int .i64 z):=by rw[←HV.out];exact(aq rfl 1).trans rfl
 have zV:=World.block_lt_of_cell? V _ cy
 simp only at zV
 have zs:=hV.size
 clear hk hps ly lz hy hz hr he
 go_enter Tryz.func125,Tryz.ntmps125
 go_wp2
 rw[HV.out]
 clear HV
 apply aj [] [0,1,2,3,4,5,6,7,8,9,10,11,12,13,14,15,16,17,18,19,20,21,22,23,24,25,26,27,28,29,30,31,32,33,34,35,36,37,38,39,40,41,42,43,44,45,46,47,48,49,50,51,52] 53 [] [sv _,sv _,sv _,sv _,sv _,sv _,sv _,sv _,sPO W.heap.size py,sv _,sv _,sv _,sv _,sv _,sv _,sv _,sv _,sPO W.heap.size pz,sv _,sv _,sv _,sv _,sv _,sv _,sv _,sv _,sv _,sv _,sv _,sv _,sv _,sv _,sv _,sv _,sv _,sv _,sv _,sv _,sv _,sv _,sv _,sv _,sv _,sv _,sv _,sv _,sv _,sv _,sv _,sv _,sPO W.heap.size [(0,1,1,y+z+e),(0,1, -1,y-z+e),(0, -1,1,z-y+e),(0, -1, -1,e-y-z)],sFO W.heap.size [pz,[(0,1,1,y+z+e),(0,1, -1,y-z+e),(0, -1,1,z-y+e),(0, -1, -1,e-y-z)]],sPO W.heap.size ps] (by kernel_rfl) (by kernel_rfl)
 iterate 8 ((try go_frame);refine wkQ ?_)
 try go_frame
 refine wkU (fun u hR K hK=> ?_) (fun o8=> ?_)
 ·clear hR
  go_simp
  refine((e1 _).out).mono ?_
  rintro e w9 ⟨v9,rfl,hb9,hp9⟩
  exact hK _ _ hb9 (AY hp9 (by have:=u.size;omega))
 iterate 8 ((try go_frame);refine wkQ ?_)
 try go_frame
 refine wkU (fun u hR K hK=> ?_) (fun o17=> ?_)
 ·clear hR
  go_simp
  refine((e2 _).out).mono ?_
  rintro e w9 ⟨v9,rfl,hb9,hp9⟩
  exact hK _ _ hb9 (AY hp9 (by have:=u.size;omega))
 iterate 32 ((try go_frame);refine wkQ ?_)
 try go_frame
 refine wkU (fun u hR K hK=> ?_) (fun o50=> ?_)
 ·clear hR
  have zw:=u.size
  go_simp
  exact hK _ _ bel (cF [(0,1,1,y+z+e),(0,1, -1,y-z+e),(0, -1,1,z-y+e),(0, -1, -1,e-y-z)] (by omega))
 try go_frame
 refine wkU (fun u hR K hK=> ?_) (fun o51=> ?_)
 ·have h17:(PO W.heap.size pz) o17 u.val:=hr hR 17
  have h50:(PO W.heap.size [(0,1,1,y+z+e),(0,1, -1,y-z+e),(0, -1,1,z-y+e),(0, -1, -1,e-y-z)]) o50 u.val:=hr hR 50
  clear hR
  have zw:=u.size
  obtain⟨ya,yc,rfl⟩:=(h17).shape
  obtain⟨xa,xc,rfl⟩:=(h50).shape
  have H1:=Lib.hid h17
  have H2:=Lib.hid h50
  clear h17 h50
  go_simp
  exact hK _ _ bel (bi [_,_] [_,_] (by omega) ⟨H1.out,H2.out,trivial⟩ bel)
 try go_frame
 refine wkU (fun u hR K hK=> ?_) (fun o52=> ?_)
 ·have h8:(PO W.heap.size py) o8 u.val:=hr hR 8
  have h51:(FO W.heap.size [pz,[(0,1,1,y+z+e),(0,1, -1,y-z+e),(0, -1,1,z-y+e),(0, -1, -1,e-y-z)]]) o51 u.val:=hr hR 51
  clear hR
  go_simp
  refine((e3 _ _ _ (h8.planes.mono (Nat.zero_le _)) (h51.2.cells.mono (Nat.zero_le _))).out).mono ?_
  rintro e w9 ⟨v9,rfl,hb9,hp9⟩
  exact hK _ _ hb9 (AY hp9 (by have:=u.size;omega))
 try go_frame
 refine aI (fun u hR=> ?_)
 have HF:Hid (PO W.heap.size ps o52 u.val):=Lib.hid (hR 52 (by simp))
 have hb1:=ae hV u.below
 clear hR
 generalize u.val=w9 at*
 clear u
 simp only[oas]
 go_wp2
 refine NoPanic.normal ?_
 go_wp2
 go_ret
 exact⟨_,rfl,hb1,HF.out⟩
end
end Go.Proofs.YtokhkhnofkcalaaGreatDoor
