/- texts: RD RE. -/
import Derived.Test.YtokhkhnofkcalaaGreatDoorKZS25
namespace Go.Proofs.YtokhkhnofkcalaaGreatDoor
set_option maxHeartbeats 8000000
set_option linter.unusedSimpArgs false
set_option linter.unusedVariables false
section
open Go.RowKit Go.Shelf
set_option maxRecDepth 100000
attribute [local go_sem] Ext.cell Ext.frozen
theorem gV (a b c d:Int) (W:World) (p:Q4) (hp:p=(-a, -b, -c, -d)) (ha: -10000000≤a∧a≤10000000) (hb: -10000000≤b∧b≤10000000) (hc: -10000000≤c∧c≤10000000) (hd: -10000000≤d∧d≤10000000):
  Calls Tryz.prog 42 #[.int .i64 a, .int .i64 b, .int .i64 c, .int .i64 d] W (Ret W (v4 p)):=by
 subst hp
 exact dh a b c d W ha hb hc hd
theorem rK (l w t:Int) (nv:Value) (n:List Int) (m:Nat) (W:World) (hn:Ints W nv n) (g:Good 9 l w t n) (hm3:m<3):
  Calls Tryz.prog 46 #[vJ 9 l w t nv, .int .i64 m] W (SolK W l w t (aW 9 l w t n m)):=by
 obtain⟨hl,hw,ht⟩:=g.sz
 have hlen:n.length=5:=by have h9:(n.length:Int)=5:=(by simpa [Bf]using g.cnt);omega
 have hE:=Cells.okE hl hw ht (bS g m (by simp[cD,aV];omega)).2
 have b0:=g.nb 0
 have b1:=g.nb 1
 have b2:=g.nb 2
 have b3:=g.nb 3
 have b4:=g.nb 4
 clear g
 obtain⟨b,off,c,rfl,hc,zb0,hat⟩:=hn.at' (by omega)
 have C0:=Lib.hid (hat 0 (by omega))
 have C1:=Lib.hid (hat 1 (by omega))
 have C2:=Lib.hid (hat 2 (by omega))
 have C3:=Lib.hid (hat 3 (by omega))
 have C4:=Lib.hid (hat 4 (by omega))
 rw[Nat.add_zero]at C0
 rw[hlen]at*
 clear hat hlen hn
 unfold SolK
 unfold aW at*
 simp only[Int.reduceEq,Int.reduceNeg,reduceIte]at hE ⊢
 generalize HES:List.map (fun e=>ch (aP l w t++e)) _=ES
 generalize n.getD 0 0=x0 at*
 generalize n.getD 1 0=x1 at*
 generalize n.getD 2 0=x2 at*
 generalize n.getD 3 0=x3 at*
 generalize n.getD 4 0=x4 at*
 obtain⟨L,hs,hm,hlt⟩:=SI.start W #[.int .i64 9, .int .i64 l, .int .i64 w, .int .i64 t, .slice (some ⟨b,off,none⟩) 5 c]
 have HS:=Lib.hid hs
 have HM:=Lib.hid hm
 have HL:=Lib.hid hlt
 have zs:W.heap.size+2≤((W.alloc (.cells #[.int .i64 9, .int .i64 l, .int .i64 w, .int .i64 t, .slice (some ⟨b,off,none⟩) 5 c] 25)).alloc (.cells #[.slice none 0 0] 30)).heap.size:=by simp
 obtain⟨V,HV⟩:∃V,Hid ((W.alloc (.cells #[.int .i64 9, .int .i64 l, .int .i64 w, .int .i64 t, .slice (some ⟨b,off,none⟩) 5 c] 25)).alloc (.cells #[.slice none 0 0] 30)=V):=⟨_,Lib.hid rfl⟩
 rw[HV.out]at HS zs
 clear hs hm hlt
 obtain⟨j0,j1,j2,j3,j4,_,jz⟩:=bM (HS.out.at _ (.tail _ HM.out))
 unfold vJ at*
 go_enter Tryz.func46,Tryz.ntmps46
 have c0:=ab HS.out.below C0.out
 have c1:=ab HS.out.below C1.out
 have c2:=ab HS.out.below C2.out
 have c3:=ab HS.out.below C3.out
 have zb:=Nat.lt_of_lt_of_le zb0 HS.out.below.size
 have c4:=ab HS.out.below C4.out
 go_wp2
 rw[HV.out]
 clear HV
 refine wqf fun u=> ?_
 have HS:=Lib.hid (HS.out.grow u.below)
 have zs:=Nat.le_trans zs u.below.size
 clear j0 j1 j2 j3 j4 jz
 try clear zb
 try clear c0
 try clear c1
 try clear c2
 try clear c3
 try clear c4
 try clear c5
 generalize u.val=X1 at*
 clear u
 obtain⟨j0,j1,j2,j3,j4,_,jz⟩:=bM (HS.out.at _ (.tail _ HM.out))
 have c0:=ab HS.out.below C0.out
 have c1:=ab HS.out.below C1.out
 have c2:=ab HS.out.below C2.out
 have c3:=ab HS.out.below C3.out
 have zb:=Nat.lt_of_lt_of_le zb0 HS.out.below.size
 have c4:=ab HS.out.below C4.out
 go_wp2
 refine wqf fun u=> ?_
 have HS:=Lib.hid (HS.out.grow u.below)
 have zs:=Nat.le_trans zs u.below.size
 clear j0 j1 j2 j3 j4 jz
 try clear zb
 try clear c0
 try clear c1
 try clear c2
 try clear c3
 try clear c4
 try clear c5
 generalize u.val=X2 at*
 clear u
 obtain⟨j0,j1,j2,j3,j4,_,jz⟩:=bM (HS.out.at _ (.tail _ HM.out))
 have c0:=ab HS.out.below C0.out
 have c1:=ab HS.out.below C1.out
 have c2:=ab HS.out.below C2.out
 have c3:=ab HS.out.below C3.out
 have zb:=Nat.lt_of_lt_of_le zb0 HS.out.below.size
 have c4:=ab HS.out.below C4.out
 by_cases h2:m=2
 ·subst h2
  rw[if_neg (by decide),if_neg (by decide)]at hE HES
  have O1:Hid (OKW l w t [btP 2 x3 x4,[(-1, -1,0, -(x0-x1)),(1,1,0,x0+x1),(-1,1,0,x2),(1, -1,0,x2)]]):=Lib.hid ⟨by simpa using hE _ (.head _),by simp,by simp[aP,btP]⟩
  have ha: [btP 2 x3 x4++[(-1, -1,0, -(x0-x1)),(1,1,0,x0+x1),(-1,1,0,x2),(1, -1,0,x2)]].map (fun e=>ch (aP l w t++e))=[]++[wC l w t [btP 2 x3 x4,[(-1, -1,0, -(x0-x1)),(1,1,0,x0+x1),(-1,1,0,x2),(1, -1,0,x2)]]]:=by simp[wC]
  rw[ha]at HES
  subst HES
  clear hE ha
  have q1:IntKind.i64.wrap (x0-x1)=x0-x1:=IntWalk.i64_in _ (by omega)
  have q2:IntKind.i64.wrap (x0+x1)=x0+x1:=IntWalk.i64_in _ (by omega)
  have q3:IntKind.i64.wrap (-x2)= -x2:=IntWalk.i64_in _ (by omega)
  go_wp2
  apply aj [] [0,1,2,3,4,5,6,7,8,9,10,11,12,13,14,15,16,17,18,19] 20 [21] [sv _,sv _,sv _,sv _,⟨PK (0) (btP 2 (x3) (x4)),by first|exact aw _ _|exact ap _|exact ar _ _ _|exact aA _ _ _⟩,sv _,sv _,sv _,sv _,sv _,sv _,sv _,sv _,sv _,sv _,sv _,sv _,sv _,⟨PK 0 [(-1, -1,0, -(x0-x1)),(1,1,0,x0+x1),(-1,1,0,x2),(1, -1,0,x2)],by first|exact aw _ _|exact ap _|exact ar _ _ _|exact aA _ _ _⟩,⟨aO [(btP 2 (x3) (x4)),[(-1, -1,0, -(x0-x1)),(1,1,0,x0+x1),(-1,1,0,x2),(1, -1,0,x2)]],by first|exact aw _ _|exact ap _|exact ar _ _ _|exact aA _ _ _⟩] (by kernel_rfl) (by kernel_rfl)
  iterate 4 ((try go_frame);refine wkQ ?_)
  try go_frame
  refine wkU (fun u hR K hK=> ?_) (fun o4=> ?_)
  ·clear hR
   go_simp
   refine(fM _ _ _ (by omega)).mono ?_
   rintro e w9 ⟨r,rfl,hb9,hp9⟩
   exact hK _ _ hb9 (AY hp9 (Nat.zero_le _))
  iterate 3 ((try go_frame);refine wkQ ?_)
  try go_frame
  refine wkV ?_
  apply ex3
  ·intro u K hK
   go_simp
   refine(gV 1 1 0 (x0-x1) _ (-1, -1,0, -(x0-x1)) rfl (by omega) (by omega) (by omega) (by omega)).mono ?_
   rintro e w9 ⟨rfl,hb9⟩
   exact hK _ hb9
  rfl
  iterate 3 ((try go_frame);refine wkQ ?_)
  try go_frame
  refine wkV ?_
  apply ex3
  ·intro u K hK
   go_simp
   refine(cM _ _ _ _ _).mono ?_
   rintro e w9 ⟨rfl,hb9⟩
   exact hK _ hb9
  rfl
  iterate 2 ((try go_frame);refine wkQ ?_)
  try go_frame
  refine wkV ?_
  apply ex3
  ·intro u K hK
   go_simp
   refine(gV 1 (-1) 0 (-x2) _ (-1,1,0,x2) (by simp) (by omega) (by omega) (by omega) (by omega)).mono ?_
   rintro e w9 ⟨rfl,hb9⟩
   exact hK _ hb9
  rfl
  ((try go_frame);refine wkQ ?_)
  try go_frame
  refine wkV ?_
  apply ex3
  ·intro u K hK
   go_simp
   refine(cM _ _ _ _ _).mono ?_
   rintro e w9 ⟨rfl,hb9⟩
   exact hK _ hb9
  rfl
  try go_frame
  refine wkU (fun u hR K hK=> ?_) (fun o18=> ?_)
  ·clear hR
   go_simp
   exact hK _ _ bel (AY (fl _ [(-1, -1,0, -(x0-x1)),(1,1,0,x0+x1),(-1,1,0,x2),(1, -1,0,x2)] _) (Nat.zero_le _))
  try go_frame
  refine wkU (fun u hR K hK=> ?_) (fun o19=> ?_)
  ·have h4:(PK (0) (btP 2 (x3) (x4))) o4 u.val:=hr hR 4
   have h18:(PK 0 [(-1, -1,0, -(x0-x1)),(1,1,0,x0+x1),(-1,1,0,x2),(1, -1,0,x2)]) o18 u.val:=hr hR 18
   clear hR
   obtain⟨a9,c9,a8,c8,rfl,rfl,hb9,hp9⟩:=fN h4 h18
   go_simp
   exact hK _ _ hb9 hp9
  try go_frame
  refine aI (fun u hR=> ?_)
  have HSu:=Lib.hid (HS.out.grow u.below)
  have hp:aO [btP 2 x3 x4,[(-1, -1,0, -(x0-x1)),(1,1,0,x0+x1),(-1,1,0,x2),(1, -1,0,x2)]] o19 u.val:=hR 19 (by simp)
  clear hR HS
  try clear s0 sf sz
  clear j0 j1 j2 j3 j4 jz
  try clear zb
  try clear c0
  try clear c1
  try clear c2
  try clear c3
  try clear c4
  try clear c5
  generalize u.val=Y at*
  clear u
  simp only[oas]
  go_wp2_with fail
  refine(bA (n:=1) O1.out (fun _ h=>(by cases h)) (Nat.le_succ _) (by simp) (by simp) HSu.out.one hp).mono ?_
  rintro e Z ⟨ra,rc,rfl,s0,sf,sz,HS⟩
  clear hp HSu
  go_wp2
  refine NoPanic.normal ?_
  have r0:=HS.out.box.1
  clear s0 sf sz
  generalize Z.setCell ⟨W.heap.size+1,0,none⟩ (.slice ra 1 rc)=Z2 at*
  go_wp2
  refine bodyPost_ret (v:= .agg #[.slice ra 1 rc]) (by simp[results,Tryz.results46,go_sem,r0]) rfl ⟨_,rfl,HS.out.drop⟩
 ·obtain⟨sg,hsg,hm⟩:∃sg:Int,(sg=1-2*(m:Int)∧(sg=1∨sg= -1))∧(if m=0 then iq t x0 x1 x3 x4 (-1,1,0,0) (-1,1,0, -x2)else if m=1 then iq t x0 x1 x3 x4 (1, -1,0,0) (1, -1,0, -x2)else [btP 2 x3 x4++[(-1, -1,0, -(x0-x1)),(1,1,0,x0+x1),(-1,1,0,x2),(1, -1,0,x2)]])=iq t x0 x1 x3 x4 (-sg,sg,0,0) (-sg,sg,0, -x2):=
   ⟨1-2*(m:Int),⟨rfl,by omega⟩,by rcases(by omega:m=0∨m=1)with rfl|rfl<;>simp⟩
  rw[hm]at hE HES
  obtain⟨hsg,hs1⟩:=hsg
  have O1:Hid (OKW l w t [[(-sg,sg,0,0)],btP 2 0 x3]):=Lib.hid ⟨by simpa using hE _ (.head _),by simp,by simp[aP,btP]⟩
  have O2:Hid (OKW l w t [[(-sg,sg,0,0)],btP 2 x4 t]):=Lib.hid ⟨by simpa using hE _ (.tail _ (.head _)),by simp,by simp[aP,btP]⟩
  have O3:Hid (OKW l w t [[(-sg,sg,0,0)]++btP 2 x3 x4,[(1,1,0,x0-x1)]]):=Lib.hid ⟨by simpa using hE _ (.tail _ (.tail _ (.head _))),by simp,by simp[aP,btP]⟩
  have O4:Hid (OKW l w t [[(-sg,sg,0,0)]++btP 2 x3 x4,[(-1, -1,0, -(x0+x1))]]):=Lib.hid ⟨by simpa using hE _ (.tail _ (.tail _ (.tail _ (.head _)))),by simp,by simp[aP,btP]⟩
  have O5:Hid (OKW l w t [[(-sg,sg,0,0)]++btP 2 x3 x4,[(-1, -1,0, -(x0-x1)),(1,1,0,x0+x1),(-sg,sg,0, -x2)]]):=Lib.hid ⟨by simpa using hE _ (.tail _ (.tail _ (.tail _ (.tail _ (.head _))))),by simp,by simp[aP,btP]⟩
  have ha:(iq t x0 x1 x3 x4 (-sg,sg,0,0) (-sg,sg,0, -x2)).map (fun e=>ch (aP l w t++e))=[wC l w t [[(-sg,sg,0,0)],btP 2 0 x3]]++[wC l w t [[(-sg,sg,0,0)],btP 2 x4 t]]++[wC l w t [[(-sg,sg,0,0)]++btP 2 x3 x4,[(1,1,0,x0-x1)]]]++
   [wC l w t [[(-sg,sg,0,0)]++btP 2 x3 x4,[(-1, -1,0, -(x0+x1))]]]++[wC l w t [[(-sg,sg,0,0)]++btP 2 x3 x4,[(-1, -1,0, -(x0-x1)),(1,1,0,x0+x1),(-sg,sg,0, -x2)]]]:=by simp[wC,iq]
  rw[ha]at HES
  subst HES
  have g2:¬(m:Int)=2:=by omega
  have hs2: -1≤sg∧sg≤1:=by omega
  have HSG:=Lib.hid hsg.symm
  clear hE ha hm hsg hs1
  go_wp2_with fail
  rw[HSG.out]
  refine(gV sg (-sg) 0 0 _ (-sg,sg,0,0) (by simp) (by omega) (by omega) (by omega) (by omega)).mono ?_
  rintro e wh ⟨rfl,hbh⟩
  clear HSG
  have hbl:Below wh.heap.size wh (wh.alloc (.cells #[.int .i64 (-sg), .int .i64 sg, .int .i64 0, .int .i64 0] 69)):=bel
  have hzh:=hbh.size
  have HS:=Lib.hid ((HS.out.grow (ae hbh hbl)).row (AY (fl (w:=wh) #[.int .i64 (-sg), .int .i64 sg, .int .i64 0, .int .i64 0] [(-sg,sg,0,0)] 1) (by omega))).base0
  have hxh:wh.heap.size<(wh.alloc (.cells #[.int .i64 (-sg), .int .i64 sg, .int .i64 0, .int .i64 0] 69)).heap.size:=by simp
  go_wp2
  clear hbl hbh
  clear j0 j1 j2 j3 j4 jz
  try clear zb
  try clear c0
  try clear c1
  try clear c2
  try clear c3
  try clear c4
  try clear c5
  generalize wh.alloc (.cells #[.int .i64 (-sg), .int .i64 sg, .int .i64 0, .int .i64 0] 69)=X at*
  have hgh:W.heap.size+2≤wh.heap.size:=by omega
  generalize wh.heap.size=gh at*
  have zs:W.heap.size+2≤X.heap.size:=by omega
  obtain⟨j0,j1,j2,j3,j4,_,jz⟩:=bM (HS.out.at _ (.tail _ HM.out))
  have c0:=ab HS.out.below C0.out
  have c1:=ab HS.out.below C1.out
  have c2:=ab HS.out.below C2.out
  have c3:=ab HS.out.below C3.out
  have zb:=Nat.lt_of_lt_of_le zb0 HS.out.below.size
  have c4:=ab HS.out.below C4.out
  apply aj [] [0,1,2,3,4,5,6,7] 8 [] [sv _,sv _,sv _,sv _,⟨PK (0) (btP 2 (0) (x3)),by first|exact aw _ _|exact ap _|exact ar _ _ _|exact aA _ _ _⟩,⟨aO [[(-sg,sg,0,0)],(btP 2 (0) (x3))],by first|exact aw _ _|exact ap _|exact ar _ _ _|exact aA _ _ _⟩,⟨gd (X.heap.size) 1 [wC l w t [[(-sg,sg,0,0)],btP 2 0 x3]],by first|exact aw _ _|exact ap _|exact ar _ _ _|exact aA _ _ _⟩,⟨da (X.heap.size) 30 #[.slice none 0 0],by first|exact aw _ _|exact ap _|exact ar _ _ _|exact aA _ _ _⟩] (by kernel_rfl) (by kernel_rfl)
  iterate 4 ((try go_frame);refine wkQ ?_)
  try go_frame
  refine wkU (fun u hR K hK=> ?_) (fun o4=> ?_)
  ·clear hR
   go_simp
   refine(fM _ _ _ (by omega)).mono ?_
   rintro e w9 ⟨r,rfl,hb9,hp9⟩
   exact hK _ _ hb9 (AY hp9 (Nat.zero_le _))
  try go_frame
  refine wkU (fun u hR K hK=> ?_) (fun o5=> ?_)
  ·have h4:(PK (0) (btP 2 (0) (x3))) o4 u.val:=hr hR 4
   clear hR
   obtain⟨a9,c9,a8,c8,_,rfl,hb9,hp9⟩:=fN (au (HS.out.rows _ (.head _)) u.below) h4
   go_simp
   exact hK _ _ hb9 hp9
  try go_frame
  refine wkU (fun u hR K hK=> ?_) (fun o6=> ?_)
  ·have h5:aO [[(-sg,sg,0,0)],(btP 2 (0) (x3))] o5 u.val:=hr hR 5
   clear hR
   go_simp
   refine(fL (B:=X.heap.size) O1.out (by have:=u.size;omega) h5).mono ?_
   rintro e w9 ⟨r,rfl,hb9,hp9⟩
   exact hK _ _ hb9 hp9
  try go_frame
  refine wkU (fun u hR K hK=> ?_) (fun o7=> ?_)
  ·clear hR
   have zw:=u.size
   go_simp
   exact hK _ _ bel ⟨_,rfl,zw,ai rfl⟩
  try go_frame
  refine aI (fun u hR=> ?_)
  obtain⟨g8,rfl,hg8,hh8⟩:da X.heap.size 30 #[.slice none 0 0] o7 u.val:=hR 7 (by simp)
  obtain⟨sa,sc,vs,rfl,ho⟩:gd X.heap.size 1 [wC l w t [[(-sg,sg,0,0)],btP 2 0 x3]] o6 u.val:=hR 6 (by simp)
  have HG:Hid (∀y∈(W.heap.size+1,#[.slice none 0 0],30)::L,y.1≠g8):=Lib.hid (fun y hy=>by
   rcases List.mem_cons.1 hy with rfl|hy
   ·dsimp only;omega
   ·have:=HL.out y hy;omega)
  have hgW:W.heap.size≤g8:=by omega
  have HSP:=Lib.hid (SI.put (.slice sa 1 sc) (((HS.out.grow u.below).have ⟨sa,sc,vs,rfl,ho⟩).add hh8 (by decide)) hgW (by decide) HG.out)
  have s0:=(ag hh8 0).trans rfl
  have sf:=aC hh8 0
  have sz:=ah hh8
  simp only[List.getElem?_toArray,List.getElem?_cons_zero]at s0
  clear hR HS ho hh8
  generalize u.val=Y at*
  clear u
  simp only[oas]
  go_wp2
  refine NoPanic.normal ?_
  have HS:=HSP
  clear HSP s0 sf sz zs
  clear j0 j1 j2 j3 j4 jz
  try clear zb
  try clear c0
  try clear c1
  try clear c2
  try clear c3
  try clear c4
  try clear c5
  generalize Y.setCell ⟨g8,0,none⟩ (.slice sa 1 sc)=Z at*
  obtain⟨j0,j1,j2,j3,j4,_,jz⟩:=bM (HS.out.at _ (.tail _ (.tail _ HM.out)))
  obtain⟨s0,sf,sz⟩:=HS.out.box
  have c0:=ab HS.out.below C0.out
  have c1:=ab HS.out.below C1.out
  have c2:=ab HS.out.below C2.out
  have c3:=ab HS.out.below C3.out
  have zb:=Nat.lt_of_lt_of_le zb0 HS.out.below.size
  have c4:=ab HS.out.below C4.out
  go_wp2
  apply aj [] [0,1,2,3,4,5,6,7,8] 9 [10] [sv _,sv _,sv _,sv _,sv _,sv _,sv _,⟨PK (0) (btP 2 (x4) (t)),by first|exact aw _ _|exact ap _|exact ar _ _ _|exact aA _ _ _⟩,⟨aO [[(-sg,sg,0,0)],(btP 2 (x4) (t))],by first|exact aw _ _|exact ap _|exact ar _ _ _|exact aA _ _ _⟩] (by kernel_rfl) (by kernel_rfl)
  iterate 7 ((try go_frame);refine wkQ ?_)
  try go_frame
  refine wkU (fun u hR K hK=> ?_) (fun o7=> ?_)
  ·clear hR
   go_simp
   refine(fM _ _ _ (by omega)).mono ?_
   rintro e w9 ⟨r,rfl,hb9,hp9⟩
   exact hK _ _ hb9 (AY hp9 (Nat.zero_le _))
  try go_frame
  refine wkU (fun u hR K hK=> ?_) (fun o8=> ?_)
  ·have h7:(PK (0) (btP 2 (x4) (t))) o7 u.val:=hr hR 7
   clear hR
   obtain⟨a9,c9,a8,c8,_,rfl,hb9,hp9⟩:=fN (au (HS.out.rows _ (.head _)) u.below) h7
   go_simp
   exact hK _ _ hb9 hp9
  try go_frame
  refine aI (fun u hR=> ?_)
  have HSu:=Lib.hid (HS.out.grow u.below)
  have hp:aO [[(-sg,sg,0,0)],btP 2 x4 t] o8 u.val:=hR 8 (by simp)
  clear hR HS
  try clear s0 sf sz
  clear j0 j1 j2 j3 j4 jz
  try clear zb
  try clear c0
  try clear c1
  try clear c2
  try clear c3
  try clear c4
  try clear c5
  generalize u.val=Y at*
  clear u
  simp only[oas]
  go_wp2_with fail
  refine(bA (n:=2) O2.out HG.out hgW (by simp) (by simp) HSu.out hp).mono ?_
  rintro e Z ⟨ra,rc,rfl,s0,sf,sz,HS⟩
  clear hp HSu
  go_wp2
  refine NoPanic.normal ?_
  clear s0 sf sz
  generalize Z.setCell ⟨g8,0,none⟩ (.slice ra 2 rc)=Z2 at*
  obtain⟨j0,j1,j2,j3,j4,_,jz⟩:=bM (HS.out.at _ (.tail _ (.tail _ HM.out)))
  obtain⟨s0,sf,sz⟩:=HS.out.box
  go_wp2_with fail
  refine(fM x3 x4 _ (by omega)).mono ?_
  rintro e w9 ⟨r,rfl,hb9,hz⟩
  have HS:=Lib.hid (HS.out.grow hb9)
  have HH:=HS.out.rows _ (.head _)
  obtain⟨⟨za,zm,zc,rfl,hzl,hzn,hzu⟩,_⟩:=cN hz
  clear s0 sf sz hb9 hz
  clear j0 j1 j2 j3 j4 jz
  try clear zb
  try clear c0
  try clear c1
  try clear c2
  try clear c3
  try clear c4
  try clear c5
  rw[bh]at hzl
  have hzl2:zm=2:=by simp[btP]at hzl;omega
  subst hzl2
  cases za with
  |none=>exact absurd (hzn rfl).1 (by decide)
  |some ad=>
   obtain⟨i0,hi0,hz0,hz1,hz2⟩:=info_parts cY
   go_wp2_with (at_builtin;refine wpList_append_own _ rfl _ _ 65 rfl W.heap.size 69 i0 (v4 (0,0,0,0)) 4 32 be hi0 hz0 hz1 hz2 rfl (by decide) _ 1 _ rfl HH ad 2 zc ((btP 2 x3 x4).flatMap aH) rfl (bh _) (hzu ad rfl) ?c2 ?c3 ?c4 ?c5 ?_)
   case c2=>exact dl
   case c3=>unfold maxLen;omega
   case c4=>omega
   case c5=>exact HS.out.below.size
   intro v5 w5 hown5 hg5 _
   have hp5:PK W.heap.size ([(-sg,sg,0,0)]++btP 2 x3 x4) v5 w5:=rI hown5 rfl rfl rfl (Nat.le_refl _)
   have HS:=Lib.hid ((HS.out.app (g:=gh) hg5 (by omega) (by omega) (fun y hy=>by
    rcases List.mem_cons.1 hy with rfl|hy
    ·dsimp only;omega
    ·rcases List.mem_cons.1 hy with rfl|hy
     ·dsimp only;omega
     ·have:=HL.out y hy;omega)).row hp5)
   obtain⟨pa,pc,rfl⟩:=aT hp5
   clear hown5 hg5 hp5 HH hzu hzn hzl
   go_wp2
   rename World=>X5
   have q1:IntKind.i64.wrap (x0-x1)=x0-x1:=IntWalk.i64_in _ (by omega)
   have q2:IntKind.i64.wrap (x0+x1)=x0+x1:=IntWalk.i64_in _ (by omega)
   have q3:IntKind.i64.wrap (-sg)= -sg:=IntWalk.i64_in _ (by omega)
   obtain⟨j0,j1,j2,j3,j4,_,jz⟩:=bM (HS.out.at _ (.tail _ (.tail _ HM.out)))
   obtain⟨s0,sf,sz⟩:=HS.out.box
   have c0:=ab HS.out.below C0.out
   have c1:=ab HS.out.below C1.out
   have c2:=ab HS.out.below C2.out
   have c3:=ab HS.out.below C3.out
   have zb:=Nat.lt_of_lt_of_le zb0 HS.out.below.size
   have c4:=ab HS.out.below C4.out
   apply aj [] [0,1,2,3,4,5,6,7,8] 9 [10] [sv _,sv _,sv _,sv _,sv _,sv _,sv _,⟨PK 0 [(1,1,0,x0-x1)],by first|exact aw _ _|exact ap _|exact ar _ _ _|exact aA _ _ _⟩,⟨aO [([(-sg,sg,0,0)]++btP 2 x3 x4),[(1,1,0,x0-x1)]],by first|exact aw _ _|exact ap _|exact ar _ _ _|exact aA _ _ _⟩] (by kernel_rfl) (by kernel_rfl)
   iterate 6 ((try go_frame);refine wkQ ?_)
   try go_frame
   refine wkV ?_
   apply ex3
   ·intro u K hK
    go_simp
    refine(cM _ _ _ _ _).mono ?_
    rintro e w9 ⟨rfl,hb9⟩
    exact hK _ hb9
   rfl
   try go_frame
   refine wkU (fun u hR K hK=> ?_) (fun o7=> ?_)
   ·clear hR
    go_simp
    exact hK _ _ bel (AY (fl _ [(1,1,0,x0-x1)] _) (Nat.zero_le _))
   try go_frame
   refine wkU (fun u hR K hK=> ?_) (fun o8=> ?_)
   ·have h7:(PK 0 [(1,1,0,x0-x1)]) o7 u.val:=hr hR 7
    clear hR
    obtain⟨a9,c9,a8,c8,_,rfl,hb9,hp9⟩:=fN (au (HS.out.rows _ (.head _)) u.below) h7
    go_simp
    exact hK _ _ hb9 hp9
   try go_frame
   refine aI (fun u hR=> ?_)
   have HSu:=Lib.hid (HS.out.grow u.below)
   have hp:aO [[(-sg,sg,0,0)]++btP 2 x3 x4,[(1,1,0,x0-x1)]] o8 u.val:=hR 8 (by simp)
   clear hR HS
   try clear s0 sf sz
   clear j0 j1 j2 j3 j4 jz
   try clear zb
   try clear c0
   try clear c1
   try clear c2
   try clear c3
   try clear c4
   try clear c5
   generalize u.val=Y at*
   clear u
   simp only[oas]
   go_wp2_with fail
   refine(bA (n:=3) O3.out HG.out hgW (by simp) (by simp) HSu.out hp).mono ?_
   rintro e Z ⟨ra,rc,rfl,s0,sf,sz,HS⟩
   clear hp HSu
   go_wp2
   refine NoPanic.normal ?_
   clear s0 sf sz
   generalize Z.setCell ⟨g8,0,none⟩ (.slice ra 3 rc)=Z2 at*
   obtain⟨j0,j1,j2,j3,j4,_,jz⟩:=bM (HS.out.at _ (.tail _ (.tail _ HM.out)))
   obtain⟨s0,sf,sz⟩:=HS.out.box
   have c0:=ab HS.out.below C0.out
   have c1:=ab HS.out.below C1.out
   have c2:=ab HS.out.below C2.out
   have c3:=ab HS.out.below C3.out
   have zb:=Nat.lt_of_lt_of_le zb0 HS.out.below.size
   have c4:=ab HS.out.below C4.out
   go_wp2
   apply aj [] [0,1,2,3,4,5,6,7,8] 9 [10] [sv _,sv _,sv _,sv _,sv _,sv _,sv _,⟨PK 0 [(-1, -1,0, -(x0+x1))],by first|exact aw _ _|exact ap _|exact ar _ _ _|exact aA _ _ _⟩,⟨aO [([(-sg,sg,0,0)]++btP 2 x3 x4),[(-1, -1,0, -(x0+x1))]],by first|exact aw _ _|exact ap _|exact ar _ _ _|exact aA _ _ _⟩] (by kernel_rfl) (by kernel_rfl)
   iterate 6 ((try go_frame);refine wkQ ?_)
   try go_frame
   refine wkV ?_
   apply ex3
   ·intro u K hK
    go_simp
    refine(gV 1 1 0 (x0+x1) _ (-1, -1,0, -(x0+x1)) rfl (by omega) (by omega) (by omega) (by omega)).mono ?_
    rintro e w9 ⟨rfl,hb9⟩
    exact hK _ hb9
   rfl
   try go_frame
   refine wkU (fun u hR K hK=> ?_) (fun o7=> ?_)
   ·clear hR
    go_simp
    exact hK _ _ bel (AY (fl _ [(-1, -1,0, -(x0+x1))] _) (Nat.zero_le _))
   try go_frame
   refine wkU (fun u hR K hK=> ?_) (fun o8=> ?_)
   ·have h7:(PK 0 [(-1, -1,0, -(x0+x1))]) o7 u.val:=hr hR 7
    clear hR
    obtain⟨a9,c9,a8,c8,_,rfl,hb9,hp9⟩:=fN (au (HS.out.rows _ (.head _)) u.below) h7
    go_simp
    exact hK _ _ hb9 hp9
   try go_frame
   refine aI (fun u hR=> ?_)
   have HSu:=Lib.hid (HS.out.grow u.below)
   have hp:aO [[(-sg,sg,0,0)]++btP 2 x3 x4,[(-1, -1,0, -(x0+x1))]] o8 u.val:=hR 8 (by simp)
   clear hR HS
   try clear s0 sf sz
   clear j0 j1 j2 j3 j4 jz
   try clear zb
   try clear c0
   try clear c1
   try clear c2
   try clear c3
   try clear c4
   try clear c5
   generalize u.val=Y at*
   clear u
   simp only[oas]
   go_wp2_with fail
   refine(bA (n:=4) O4.out HG.out hgW (by simp) (by simp) HSu.out hp).mono ?_
   rintro e Z ⟨ra,rc,rfl,s0,sf,sz,HS⟩
   clear hp HSu
   go_wp2
   refine NoPanic.normal ?_
   clear s0 sf sz
   generalize Z.setCell ⟨g8,0,none⟩ (.slice ra 4 rc)=Z2 at*
   obtain⟨j0,j1,j2,j3,j4,_,jz⟩:=bM (HS.out.at _ (.tail _ (.tail _ HM.out)))
   obtain⟨s0,sf,sz⟩:=HS.out.box
   have c0:=ab HS.out.below C0.out
   have c1:=ab HS.out.below C1.out
   have c2:=ab HS.out.below C2.out
   have c3:=ab HS.out.below C3.out
   have zb:=Nat.lt_of_lt_of_le zb0 HS.out.below.size
   have c4:=ab HS.out.below C4.out
   go_wp2
   apply aj [] [0,1,2,3,4,5,6,7,8,9,10,11,12,13,14,15,16,17] 18 [19] [sv _,sv _,sv _,sv _,sv _,sv _,sv _,sv _,sv _,sv _,sv _,sv _,sv _,sv _,sv _,sv _,⟨PK 0 [(-1, -1,0, -(x0-x1)),(1,1,0,x0+x1),(-sg,sg,0, -x2)],by first|exact aw _ _|exact ap _|exact ar _ _ _|exact aA _ _ _⟩,⟨aO [([(-sg,sg,0,0)]++btP 2 x3 x4),[(-1, -1,0, -(x0-x1)),(1,1,0,x0+x1),(-sg,sg,0, -x2)]],by first|exact aw _ _|exact ap _|exact ar _ _ _|exact aA _ _ _⟩] (by kernel_rfl) (by kernel_rfl)
   iterate 6 ((try go_frame);refine wkQ ?_)
   try go_frame
   refine wkV ?_
   apply ex3
   ·intro u K hK
    go_simp
    refine(gV 1 1 0 (x0-x1) _ (-1, -1,0, -(x0-x1)) rfl (by omega) (by omega) (by omega) (by omega)).mono ?_
    rintro e w9 ⟨rfl,hb9⟩
    exact hK _ hb9
   rfl
   iterate 3 ((try go_frame);refine wkQ ?_)
   try go_frame
   refine wkV ?_
   apply ex3
   ·intro u K hK
    go_simp
    refine(cM _ _ _ _ _).mono ?_
    rintro e w9 ⟨rfl,hb9⟩
    exact hK _ hb9
   rfl
   iterate 4 ((try go_frame);refine wkQ ?_)
   try go_frame
   refine wkV ?_
   apply ex3
   ·intro u K hK
    go_simp
    refine(gV sg (-sg) 0 x2 _ (-sg,sg,0, -x2) (by simp) (by omega) (by omega) (by omega) (by omega)).mono ?_
    rintro e w9 ⟨rfl,hb9⟩
    exact hK _ hb9
   rfl
   try go_frame
   refine wkU (fun u hR K hK=> ?_) (fun o16=> ?_)
   ·clear hR
    go_simp
    exact hK _ _ bel (AY (fl _ [(-1, -1,0, -(x0-x1)),(1,1,0,x0+x1),(-sg,sg,0, -x2)] _) (Nat.zero_le _))
   try go_frame
   refine wkU (fun u hR K hK=> ?_) (fun o17=> ?_)
   ·have h16:(PK 0 [(-1, -1,0, -(x0-x1)),(1,1,0,x0+x1),(-sg,sg,0, -x2)]) o16 u.val:=hr hR 16
    clear hR
    obtain⟨a9,c9,a8,c8,_,rfl,hb9,hp9⟩:=fN (au (HS.out.rows _ (.head _)) u.below) h16
    go_simp
    exact hK _ _ hb9 hp9
   try go_frame
   refine aI (fun u hR=> ?_)
   have HSu:=Lib.hid (HS.out.grow u.below)
   have hp:aO [[(-sg,sg,0,0)]++btP 2 x3 x4,[(-1, -1,0, -(x0-x1)),(1,1,0,x0+x1),(-sg,sg,0, -x2)]] o17 u.val:=hR 17 (by simp)
   clear hR HS
   try clear s0 sf sz
   clear j0 j1 j2 j3 j4 jz
   try clear zb
   try clear c0
   try clear c1
   try clear c2
   try clear c3
   try clear c4
   try clear c5
   generalize u.val=Y at*
   clear u
   simp only[oas]
   go_wp2_with fail
   refine(bA (n:=5) O5.out (fun _ h=>(by cases h)) (Nat.le_succ _) (by simp) (by simp) HSu.out.last hp).mono ?_
   rintro e Z ⟨ra,rc,rfl,s0,sf,sz,HS⟩
   clear hp HSu
   go_wp2
   refine NoPanic.normal ?_
   have r0:=HS.out.box.1
   clear s0 sf sz
   generalize Z.setCell ⟨W.heap.size+1,0,none⟩ (.slice ra 5 rc)=Z2 at*
   go_wp2
   refine bodyPost_ret (v:= .agg #[.slice ra 5 rc]) (by simp[results,Tryz.results46,go_sem,r0]) rfl ⟨_,rfl,HS.out.drop⟩
def wD (x:Int):Value→World→Prop:=fun v w=>∃g,v= .slice (some ⟨g,0,none⟩) 1 1∧w.heap[g]? =some (.cells #[.int .i64 x] 3 (0,0))
theorem jK (x:Int):dR (wD x):=fun _ _ _ hb ⟨g,h1,h2⟩=>⟨g,h1,(hb.block _ (ah h2)).trans h2⟩
def IO (B:Nat) (xs:List Int):Value→World→Prop:=fun v w=>w.ownsRow B 3 1 v xs.length (xs.map (Value.int .i64))
theorem jL (B:Nat) (xs:List Int):dR (IO B xs):=fun _ _ _ hb h=>au h hb
theorem wE {w:World} {g:Nat} {x:Int} (h:w.heap[g]? =some (.cells #[.int .i64 x] 3 (0,0))):∀j u,([Value.int .i64 x]:List Value)[j]? =some u→w.cell? ((⟨g,0,none⟩:Addr).add j)=some u:=fun j u hj=>by
 rw[jY,ag h]
 simpa using hj
theorem oB (l w t:Int) (nv:Value) (n:List Int) (m:Nat) (W:World) (hn:Ints W nv n) (g:Good 7 l w t n) (hm2:m<2):
  Calls Tryz.prog 44 #[vJ 7 l w t nv, .int .i64 m] W (SolK W l w t (aW 7 l w t n m)):=by
 obtain⟨hl,hw,ht⟩:=g.sz
 have hln:=g.len
 have hn1:1≤n.length:=by have:=(Ba g.cnt g.kind);omega
 have hE:=Cells.okE hl hw ht (bS g m (by simp[cD,aV];omega)).2
 have hk:aW 7 l w t n m=cK w n m (n.length+1):=by simp[aW]
 rw[hk]at hE ⊢
 have hnb:=fun i=>g.nb i
 obtain⟨E,hEd⟩:∃E,E=dT w n:=⟨_,rfl⟩
 have HEb:Hid (∀i, -100000≤E.getD i 0∧E.getD i 0≤100000):=Lib.hid (fun i=>by
  rw[hEd]
  unfold dT
  rw[List.append_assoc]
  rcases i with _|i
  ·simp
  ·simp only[List.cons_append,List.nil_append,List.getD_cons_succ]
   by_cases h:i<n.length
   ·have:=hnb i
    simpa [List.getD,List.getElem?_append_left h]using this
   ·simp only[List.getD,List.getElem?_append_right (Nat.le_of_not_lt h)]
    rcases i-n.length with _|j
    ·simp;omega
    ·simp)
 obtain⟨acc,hacc⟩:∃acc:Nat→List (List Q4),acc=fun i=>(cK w n m i).map (fun e=>ch (aP l w t++e)):=⟨_,rfl⟩
 have HO:Hid (∀i,i+1<n.length+2→i % 2=m→OKW l w t [btP 1 (E.getD i 0) (E.getD (i+1) 0)]):=Lib.hid (fun i hi hp=>⟨by
  have:=hE (im w n i) (by unfold cK;exact List.mem_map.2 ⟨i,List.mem_filter.2 ⟨List.mem_range.2 (by omega),by simpa using hp⟩,rfl⟩)
  rw[hEd]
  simpa [im]using this,by simp,by simp[aP,btP]⟩)
 have Hs:Hid (∀i,i % 2=m→acc (i+2)=acc i++[wC l w t [btP 1 (E.getD i 0) (E.getD (i+1) 0)]]):=Lib.hid (fun i hp=>by
  rw[hacc,hEd]
  simp only[fT,if_pos hp,if_neg (show ¬(i+1) % 2=m by omega),List.append_nil,List.map_append,List.map_cons,List.map_nil]
  simp[wC,im])
 have H0:Hid (acc m=[]):=Lib.hid (by rw[hacc];rcases(by omega:m=0∨m=1)with rfl|rfl<;>rfl)
 have Hn:Hid (∀i,n.length+1≤i→i≤n.length+2→i % 2=m→acc i=(cK w n m (n.length+1)).map (fun e=>ch (aP l w t++e))):=Lib.hid (fun i h1 h2 hp=>by
  rw[hacc]
  rcases(by omega:i=n.length+1∨i=n.length+1+1)with rfl|rfl
  ·rfl
  ·simp only
   rw[fT,if_neg (by omega),List.append_nil])
 have Hl:Hid (∀i,(acc i).length≤i):=Lib.hid (fun i=>by
  rw[hacc,List.length_map]
  unfold cK
  rw[List.length_map]
  exact Nat.le_trans (List.length_filter_le _ _) (by simp))
 unfold SolK
 generalize(cK w n m (n.length+1)).map (fun e=>ch (aP l w t++e))=css at*
 clear hE hk hacc g
 obtain⟨i0,hi0,hz0,hz1,hz2⟩:=info_parts iE
 have Hi0:=Lib.hid (And.intro hi0 (And.intro hz0 (And.intro hz1 hz2)))
 clear hi0 hz0 hz1 hz2
 obtain⟨b,off,c,rfl,hc,zb0,hat⟩:=hn.at' (by omega)
 have Hsrc:Hid (∀j u,(n.map (Value.int .i64))[j]? =some u→W.cell? ((⟨b,off,none⟩:Addr).add j)=some u):=Lib.hid (fun j u hj=>by
  have hlt:j<n.length:=by have:=(List.getElem?_eq_some_iff.1 hj).1;simpa using this
  have h1:=hat j hlt
  rw[List.getElem?_map]at hj
  simp[List.getElem?_eq_getElem hlt]at hj
  subst hj
  rw[show(⟨b,off,none⟩:Addr).add j=⟨b,off+j,none⟩ by simp[Addr.add],h1]
  simp[List.getD,List.getElem?_eq_getElem hlt])
 clear hat hn hnb
 obtain⟨L,hs,hm,hlt⟩:=SI.start W #[.int .i64 7, .int .i64 l, .int .i64 w, .int .i64 t, .slice (some ⟨b,off,none⟩) n.length c]
 have HS:=Lib.hid hs
 have HM:=Lib.hid hm
 have HL:=Lib.hid hlt
 have zs:W.heap.size+2≤((W.alloc (.cells #[.int .i64 7, .int .i64 l, .int .i64 w, .int .i64 t, .slice (some ⟨b,off,none⟩) n.length c] 25)).alloc (.cells #[.slice none 0 0] 30)).heap.size:=by simp
 obtain⟨V,HV⟩:∃V,Hid ((W.alloc (.cells #[.int .i64 7, .int .i64 l, .int .i64 w, .int .i64 t, .slice (some ⟨b,off,none⟩) n.length c] 25)).alloc (.cells #[.slice none 0 0] 30)=V):=⟨_,Lib.hid rfl⟩
 rw[HV.out]at HS zs
 clear hs hm hlt
 obtain⟨j0,j1,j2,j3,j4,_,jz⟩:=bM (HS.out.at _ (.tail _ HM.out))
 unfold vJ at*
 go_enter Tryz.func44,Tryz.ntmps44
 go_wp2
 rw[HV.out]
 clear HV
 have HWV:=Lib.hid HS.out.below
 apply aj [] [0,1,2,3,4,5,6,7] 8 [9] [⟨wD 0,by first|exact aw _ _|exact ap _|exact jK _|exact jL _ _⟩,sv _,sv _,⟨IO V.heap.size ([0]++n),by first|exact aw _ _|exact ap _|exact jK _|exact jL _ _⟩,sv _,sv _,sv _,⟨wD w,by first|exact aw _ _|exact ap _|exact jK _|exact jL _ _⟩] (by kernel_rfl) (by kernel_rfl)
 try go_frame
 refine wkU (fun u hR K hK=> ?_) (fun o0=> ?_)
 ·clear hR
  go_simp
  exact hK _ _ bel ⟨_,rfl,ai rfl⟩
 iterate 2 ((try go_frame);refine wkQ ?_)
 try go_frame
 refine wkU (fun u hR K hK=> ?_) (fun o3=> ?_)
 ·have h0:wD 0 o0 u.val:=hr hR 0
  clear hR
  obtain⟨g0,rfl,hh0⟩:=h0
  obtain⟨v9,w9,hrun,hown9,hb9⟩:=dM (P:=Tryz.prog) (w:=u.val) 23 23 3 i0 (.int .i64 0) 1 8 eY Hi0.out.1 Hi0.out.2.1 Hi0.out.2.2.1 Hi0.out.2.2.2 rfl (by decide) ⟨g0,0,none⟩ 1 1 [.int .i64 0] rfl (wE hh0) ⟨b,off,none⟩ n.length c (n.map (Value.int .i64)) (by simp) (fun j x hj=>ab (ae HWV.out u.below) (Hsrc.out j x hj)) (by omega) (by unfold maxLen;omega) (by omega)
  exact cZ _ _ 23 rfl hrun (hK _ _ hb9 (show IO V.heap.size ([0]++n) v9 w9 from by unfold IO;have h9:=AY hown9 u.size;simpa [Nat.add_comm]using h9))
 iterate 3 ((try go_frame);refine wkQ ?_)
 try go_frame
 refine wkU (fun u hR K hK=> ?_) (fun o7=> ?_)
 ·clear hR
  go_simp
  exact hK _ _ bel ⟨_,rfl,ai rfl⟩
 try go_frame
 refine aI (fun u hR=> ?_)
 have h3:IO V.heap.size ([0]++n) o3 u.val:=hR 3 (by simp)
 unfold IO at h3
 obtain⟨g7,rfl,hh7⟩:wD w o7 u.val:=hR 7 (by simp)
 simp only[oas]
 refine wpList_append_own _ rfl _ _ 23 rfl V.heap.size 3 i0 (.int .i64 0) 1 8 eY Hi0.out.1 Hi0.out.2.1 Hi0.out.2.2.1 Hi0.out.2.2.2 rfl (by decide) _ _ _ rfl h3 ⟨g7,0,none⟩ 1 1 [.int .i64 w] rfl rfl (wE hh7) ?c2 ?c3 ?c4 ?c5 ?_
 case c2=>intro v hv;simp at hv;subst hv;rfl
 case c3=>unfold maxLen;simp;omega
 case c4=>simp;omega
 case c5=>exact u.size
 intro v5 w5 hown5 hg5 _
 have hb5:Below V.heap.size V w5:=u.below.grown hg5 u.size (fun z hz=>(h3.lt z hz).1)
 have HS:=Lib.hid (HS.out.grow hb5)
 rcases id hown5.2 with⟨_,h0⟩|⟨g5,cap,cur,rfl,hB5,hh5,hc5,hm5,hz5,ht5⟩
 ·simp at h0
 have Hcur:Hid (∀i,i<n.length+2→cur[i]? =some (.int .i64 (E.getD i 0))):=Lib.hid (fun i hi=>by
  have h1:(cur.toList.take (n.length+2))[i]? =(E.map (Value.int .i64))[i]? :=by
   rw[hEd]
   have:=congrArg (fun x=>x[i]?) ht5
   simpa [dT,Nat.add_comm,Nat.add_left_comm,Nat.add_assoc]using this
  have hEl:E.length=n.length+2:=by rw[hEd];simp[dT]
  rw[List.getElem?_take_of_lt hi,Array.getElem?_toList]at h1
  rw[h1]
  simp[List.getD,List.getElem?_eq_getElem (show i<E.length by omega)])
 have hvl:([0]++n).length+1=n.length+2:=by simp
 rw[hvl]at hc5 ⊢
 have hzb:V.heap.size≤w5.heap.size:=hb5.size
 have HS1:=Lib.hid ((HS.out.add hh5 (by decide)).new (cs:=#[.slice none 0 0]) (T:=30) rfl (by decide))
 obtain⟨LL,HLL⟩:∃LL,Hid ((g5,cur,3)::(W.heap.size+1,#[Value.slice none 0 0],30)::L=LL):=⟨_,Lib.hid rfl⟩
 have HG:Hid (∀y∈LL,y.1≠w5.heap.size):=Lib.hid (fun y hy=>by
  rw[←HLL.out]at hy
  rcases List.mem_cons.1 hy with rfl|hy
  ·have:=ah hh5;dsimp only;omega
  ·rcases List.mem_cons.1 hy with rfl|hy
   ·dsimp only;omega
   ·have:=HL.out y hy;omega)
 have HMJ:Hid (_∈LL):=Lib.hid (HLL.out▸List.Mem.tail _ (List.Mem.tail _ HM.out))
 have HMR:Hid ((W.heap.size+1,#[Value.slice none 0 0],30)∈LL):=Lib.hid (HLL.out▸List.Mem.tail _ (List.Mem.head _))
 have HMC:Hid ((g5,cur,3)∈LL):=Lib.hid (HLL.out▸List.Mem.head _)
 rw[HLL.out]at HS1
 have hgW:W.heap.size≤w5.heap.size:=by omega
 clear hR h3 hh7 hown5 hg5 hb5 hh5 ht5 hz5 hm5 HS HLL HM HL HWV hzb
 clear j0 j1 j2 j3 j4 jz
 try clear zb
 try clear c0
 try clear c1
 try clear c2
 try clear c3
 try clear c4
 try clear c5
 clear u
 go_wp2
 refine NoPanic.normal ?_
 go_wp2
 rw[←H0.out]at HS1
 generalize w5.alloc (.cells #[.slice none 0 0] 30)=Y at*
 generalize w5.heap.size=g6 at*
 clear hvl
 go_loopw [7] (fun x wr=>∃i:Nat,i≤n.length+2∧Hid (i % 2=m)∧x= .int .i64 i∧∃sv,Hid (SI W W.heap.size ((g6,#[sv],30)::LL) [] (acc i) sv wr)) (fun x _=>n.length+4-(intOf x).toNat)
 case atStart=>exact⟨m,by omega,Lib.hid (by omega),rfl,_,HS1⟩
 case round=>
  clear HS1
  obtain⟨i,hiN,hp,rfl,sv,HS⟩:=hrel
  obtain⟨j0,j1,j2,j3,j4,_,jz⟩:=bM (HS.out.at _ (.tail _ HMJ.out))
  obtain⟨sa,sc,rfl⟩:=HS.out.shape
  obtain⟨s0,sf,sz⟩:=HS.out.box
  by_cases hlt:i+1<n.length+2
  ·have g1:(i:Int)+1<(n.length:Int)+2:=by omega
   have hC:=HS.out.at _ (.tail _ HMC.out)
   have e0:=(ag hC i).trans (Hcur.out i (by omega))
   have e1:=(ag hC (i+1)).trans (Hcur.out (i+1) (by omega))
   have ez:=ah hC
   simp only at ez
   have t1:((i:Int)+1).toNat=i+1:=by omega
   have q0:(0:Int)≤(i:Int)+1:=by omega
   have q1:(i:Int)<(n.length:Int)+2:=by omega
   have q2:IntKind.i64.wrap ((i:Int)+1)=(i:Int)+1:=IntWalk.i64_in _ (by omega)
   have O:=Lib.hid (HO.out i (by omega) hp.out)
   have hy0:=HEb.out i
   have Hsi:=Lib.hid (Hs.out i hp.out)
   have hla:=Hl.out i
   generalize E.getD i 0=y0 at*
   generalize E.getD (i+1) 0=y1 at*
   go_wp2
   apply aj [] [0,1,2,3,4,5,6,7,8,9,10,11,12] 13 [14] [sv _,sv _,sv _,sv _,sv _,sv _,sv _,sv _,sv _,sv _,sv _,⟨PK (0) (btP 1 (y0) (y1)),by first|exact aw _ _|exact ap _|exact jK _|exact jL _ _⟩,⟨aO [(btP 1 (y0) (y1))],by first|exact aw _ _|exact ap _|exact jK _|exact jL _ _⟩] (by kernel_rfl) (by kernel_rfl)
   iterate 11 ((try go_frame);refine wkQ ?_)
   try go_frame
   refine wkU (fun u hR K hK=> ?_) (fun o11=> ?_)
   ·clear hR
    go_simp
    refine(jJ _ _ _ (by omega)).mono ?_
    rintro e w9 ⟨r,rfl,hb9,hp9⟩
    exact hK _ _ hb9 (AY hp9 (Nat.zero_le _))
   try go_frame
   refine wkU (fun u hR K hK=> ?_) (fun o12=> ?_)
   ·have h11:(PK (0) (btP 1 (y0) (y1))) o11 u.val:=hr hR 11
    clear hR
    obtain⟨a9,c9,rfl,hb9,hp9⟩:=iM h11
    go_simp
    exact hK _ _ hb9 hp9
   try go_frame
   refine aI (fun u hR=> ?_)
   have hpp:=hp
   have hp:aO [btP 1 y0 y1] o12 u.val:=hR 12 (by simp)
   have HSu:=Lib.hid (HS.out.grow u.below)
   clear hR HS s0 sf sz j0 j1 j2 j3 j4 jz e0 e1 ez hC
   generalize u.val=Y at*
   clear u
   simp only[oas]
   go_wp2_with fail
   refine(bA (n:=(acc i).length+1) O.out HG.out hgW (by omega) rfl HSu.out hp).mono ?_
   rintro e Z ⟨ra,rc,rfl,s0,sf,sz,HS⟩
   clear hp HSu
   go_wp2
   refine NoPanic.normal ?_
   go_wp2
   go_roundw
   case rel=>exact⟨i+2,by omega,Lib.hid (by have:=hpp.out;omega),by go_num,_,Lib.hid (by rw[Hsi.out];exact HS.out)⟩
   case measure=>first|(simp[intOf];done)|(simp[intOf];omega)
  ·have g1:¬(i:Int)+1<(n.length:Int)+2:=by omega
   have e9:=Hn.out i (by omega) (by omega) hp.out
   subst e9
   have HSR:=Lib.hid (HS.out.sub (L':=[(W.heap.size+1,#[Value.slice none 0 0],30)]) (fun z hz=>by
    obtain rfl:z=_:=by simpa using hz
    exact .tail _ HMR.out) (fun _ h=>h))
   obtain⟨r0,rf,rz⟩:=HSR.out.box
   clear HS
   go_wp2
   have HSP:=Lib.hid (HSR.out.put (.slice sa ((acc i).length) sc) (Nat.le_succ _) (by decide) (fun _ h=>(by cases h)))
   have r1:=HSP.out.box.1
   clear s0 sf sz r0 rf rz
   generalize World.setCell _ ⟨W.heap.size+1,0,none⟩ _=Z2 at*
   refine bodyPost_ret (v:= .agg #[.slice sa ((acc i).length) sc]) (by simp[results,Tryz.results44,go_sem,r1]) rfl ⟨_,rfl,HSP.out.drop⟩
end
end Go.Proofs.YtokhkhnofkcalaaGreatDoor
