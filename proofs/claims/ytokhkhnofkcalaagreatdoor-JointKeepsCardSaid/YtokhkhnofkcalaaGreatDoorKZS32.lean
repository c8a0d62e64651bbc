/- texts: RC. -/
import Derived.Test.YtokhkhnofkcalaaGreatDoorKZS25
import Derived.Deep.DeepCutAuto
namespace Go.Proofs.YtokhkhnofkcalaaGreatDoor
set_option maxHeartbeats 8000000
set_option linter.unusedSimpArgs false
set_option linter.unusedVariables false
section
open Go.RowKit Go.Shelf
attribute [local go_sem] Ext.cell Ext.frozen
set_option maxRecDepth 100000 in
theorem qh (l w t:Int) (nv:Value) (n:List Int) (m:Nat) (W:World) (hn:Ints W nv n) (g:Good 10 l w t n) (hm3:m<3):
  Calls Tryz.prog 47 #[vJ 10 l w t nv, .int .i64 m] W (SolK W l w t (aW 10 l w t n m)):=by
 obtain⟨hl,hw,ht⟩:=g.sz
 have hlen:n.length=5:=by have h9:(n.length:Int)=5:=(by simpa [Bf]using g.cnt);omega
 have hE:=Cells.okE hl hw ht (bS g m (by simp[cD,aV];omega)).2
 have b0:=g.nb 0
 have b1:=g.nb 1
 have b2:=g.nb 2
 have b3:=g.nb 3
 have b4:=g.nb 4
 clear g
 obtain⟨b,off,c,rfl,hc,zb0,hat⟩:=hn.at' (by omega)
 have C0:=Lib.hid (hat 0 (by omega))
 have C1:=Lib.hid (hat 1 (by omega))
 have C2:=Lib.hid (hat 2 (by omega))
 have C3:=Lib.hid (hat 3 (by omega))
 have C4:=Lib.hid (hat 4 (by omega))
 rw[Nat.add_zero]at C0
 rw[hlen]at*
 clear hat hlen hn
 unfold SolK
 unfold aW at*
 simp only[Int.reduceEq,Int.reduceNeg,reduceIte]at hE ⊢
 generalize n.getD 0 0=x0 at*
 generalize n.getD 1 0=x1 at*
 generalize n.getD 2 0=x2 at*
 generalize n.getD 3 0=x3 at*
 generalize n.getD 4 0=x4 at*
 obtain⟨L,hs,hm,hlt⟩:=SI.start W #[.int .i64 10, .int .i64 l, .int .i64 w, .int .i64 t, .slice (some ⟨b,off,none⟩) 5 c]
 have HS:=Lib.hid hs
 have HM:=Lib.hid hm
 have HL:=Lib.hid hlt
 have zs:W.heap.size+2≤((W.alloc (.cells #[.int .i64 10, .int .i64 l, .int .i64 w, .int .i64 t, .slice (some ⟨b,off,none⟩) 5 c] 25)).alloc (.cells #[.slice none 0 0] 30)).heap.size:=by simp
 obtain⟨V,HV⟩:∃V,Hid ((W.alloc (.cells #[.int .i64 10, .int .i64 l, .int .i64 w, .int .i64 t, .slice (some ⟨b,off,none⟩) 5 c] 25)).alloc (.cells #[.slice none 0 0] 30)=V):=⟨_,Lib.hid rfl⟩
 rw[HV.out]at HS zs
 clear hs hm hlt
 obtain⟨j0,j1,j2,j3,j4,_,jz⟩:=bM (HS.out.at _ (.tail _ HM.out))
 unfold vJ at*
 by_cases h2:m=2
 ·subst h2
  rw[if_neg (by decide),if_neg (by decide)]at hE ⊢
  have O1:Hid (OKW l w t [btP 0 x1 x2,btP 1 x3 x4]):=Lib.hid ⟨by simpa using hE _ (.head _),by simp,by simp[aP,btP]⟩
  have ha: [btP 0 x1 x2++btP 1 x3 x4].map (fun e=>ch (aP l w t++e))=[]++[wC l w t [btP 0 x1 x2,btP 1 x3 x4]]:=by simp[wC]
  rw[ha]
  clear hE ha
  go_enter Tryz.func47,Tryz.ntmps47
  have c0:=ab HS.out.below C0.out
  have c1:=ab HS.out.below C1.out
  have c2:=ab HS.out.below C2.out
  have c3:=ab HS.out.below C3.out
  have zb:=Nat.lt_of_lt_of_le zb0 HS.out.below.size
  have c4:=ab HS.out.below C4.out
  go_wp2
  rw[HV.out]
  apply aj [] [0,1,2,3,4,5,6,7,8,9,10,11,12,13,14,15,16] 17 [18] [sv _,sv _,sv _,sv _,sv _,sv _,sv _,sv _,⟨PK (0) (btP 0 (x1) (x2)),by first|exact aw _ _|exact ap _|exact ar _ _ _|exact aA _ _ _⟩,sv _,sv _,sv _,sv _,sv _,sv _,⟨PK (0) (btP 1 (x3) (x4)),by first|exact aw _ _|exact ap _|exact ar _ _ _|exact aA _ _ _⟩,⟨aO [(btP 0 (x1) (x2)),(btP 1 (x3) (x4))],by first|exact aw _ _|exact ap _|exact ar _ _ _|exact aA _ _ _⟩] (by kernel_rfl) (by kernel_rfl)
  iterate 8 ((try go_frame);refine wkQ ?_)
  try go_frame
  refine wkU (fun u hR K hK=> ?_) (fun o8=> ?_)
  ·clear hR
   go_simp
   refine(kC _ _ _ (by omega)).mono ?_
   rintro e w9 ⟨r,rfl,hb9,hp9⟩
   exact hK _ _ hb9 (AY hp9 (Nat.zero_le _))
  iterate 6 ((try go_frame);refine wkQ ?_)
  try go_frame
  refine wkU (fun u hR K hK=> ?_) (fun o15=> ?_)
  ·clear hR
   go_simp
   refine(jJ _ _ _ (by omega)).mono ?_
   rintro e w9 ⟨r,rfl,hb9,hp9⟩
   exact hK _ _ hb9 (AY hp9 (Nat.zero_le _))
  try go_frame
  refine wkU (fun u hR K hK=> ?_) (fun o16=> ?_)
  ·have h8:(PK (0) (btP 0 (x1) (x2))) o8 u.val:=hr hR 8
   have h15:(PK (0) (btP 1 (x3) (x4))) o15 u.val:=hr hR 15
   clear hR
   obtain⟨a9,c9,a8,c8,rfl,rfl,hb9,hp9⟩:=fN h8 h15
   go_simp
   exact hK _ _ hb9 hp9
  try go_frame
  refine aI (fun u hR=> ?_)
  have HSu:=Lib.hid (HS.out.grow u.below)
  have hp:aO [btP 0 x1 x2,btP 1 x3 x4] o16 u.val:=hR 16 (by simp)
  clear hR HS
  try clear s0 sf sz
  clear j0 j1 j2 j3 j4 jz
  try clear zb
  try clear c0
  try clear c1
  try clear c2
  try clear c3
  try clear c4
  try clear c5
  generalize u.val=Y at*
  clear u
  simp only[oas]
  go_wp2_with fail
  refine(bA (n:=1) O1.out (fun _ h=>(by cases h)) (Nat.le_succ _) (by simp) (by simp) HSu.out.one hp).mono ?_
  rintro e Z ⟨ra,rc,rfl,s0,sf,sz,HS⟩
  clear hp HSu
  go_wp2
  refine NoPanic.normal ?_
  have r0:=HS.out.box.1
  clear s0 sf sz
  generalize Z.setCell ⟨W.heap.size+1,0,none⟩ (.slice ra 1 rc)=Z2 at*
  go_wp2
  refine bodyPost_ret (v:= .agg #[.slice ra 1 rc]) (by simp[results,Tryz.results47,go_sem,r0]) rfl ⟨_,rfl,HS.out.drop⟩
 ·obtain⟨p,hp,hp2⟩:∃p,(p=if m=1 then btP 2 0 x0 else btP 2 x0 t)∧(if m=0 then ir l w x1 x2 x3 x4 (btP 2 x0 t)else if m=1 then ir l w x1 x2 x3 x4 (btP 2 0 x0)else [btP 0 x1 x2++btP 1 x3 x4])=ir l w x1 x2 x3 x4 p:=⟨_,rfl,by
   rcases(by omega:m=0∨m=1)with rfl|rfl<;>simp⟩
  rw[hp2]at hE ⊢
  have hpl:p.length=2:=by rw[hp];split<;>rfl
  have O1:Hid (OKW l w t [p,btP 0 0 x1]):=Lib.hid ⟨by simpa using hE _ (.head _),by simp,by simp[aP,btP,hpl]⟩
  have O2:Hid (OKW l w t [p,btP 0 x2 l]):=Lib.hid ⟨by simpa using hE _ (.tail _ (.head _)),by simp,by simp[aP,btP,hpl]⟩
  have O3:Hid (OKW l w t [p,btP 0 x1 x2,btP 1 0 x3]):=Lib.hid ⟨by simpa using hE _ (.tail _ (.tail _ (.head _))),by simp,by simp[aP,btP,hpl]⟩
  have O4:Hid (OKW l w t [p,btP 0 x1 x2,btP 1 x4 w]):=Lib.hid ⟨by simpa using hE _ (.tail _ (.tail _ (.tail _ (.head _)))),by simp,by simp[aP,btP,hpl]⟩
  have ha:(ir l w x1 x2 x3 x4 p).map (fun e=>ch (aP l w t++e))=[wC l w t [p,btP 0 0 x1]]++[wC l w t [p,btP 0 x2 l]]++[wC l w t [p,btP 0 x1 x2,btP 1 0 x3]]++[wC l w t [p,btP 0 x1 x2,btP 1 x4 w]]:=by simp[wC,ir]
  rw[ha]
  have HP:=Lib.hid hp
  have g2:¬(m:Int)=2:=by omega
  clear hE ha hp hp2 hpl h2
  go_enter Tryz.func47,Tryz.ntmps47
  have c0:=ab HS.out.below C0.out
  have c1:=ab HS.out.below C1.out
  have c2:=ab HS.out.below C2.out
  have c3:=ab HS.out.below C3.out
  have zb:=Nat.lt_of_lt_of_le zb0 HS.out.below.size
  have c4:=ab HS.out.below C4.out
  go_wp2
  rw[HV.out]
  clear HV
  apply aj [] [0,1,2,3,4,5,6] 7 [] [sv _,sv _,sv _,sv _,sv _,sv _,⟨PK (W.heap.size) (btP 2 (x0) (t)),by first|exact aw _ _|exact ap _|exact ar _ _ _|exact aA _ _ _⟩] (by kernel_rfl) (by kernel_rfl)
  iterate 6 ((try go_frame);refine wkQ ?_)
  try go_frame
  refine wkU (fun u hR K hK=> ?_) (fun o6=> ?_)
  ·clear hR
   go_simp
   refine(fM _ _ _ (by omega)).mono ?_
   rintro e w9 ⟨r,rfl,hb9,hp9⟩
   exact hK _ _ hb9 (AY hp9 (by have:=u.size;omega))
  try go_frame
  refine aI (fun u hR=> ?_)
  have h6:PK W.heap.size (btP 2 x0 t) o6 u.val:=hR 6 (by simp)
  obtain⟨ha,hc',rfl⟩:=aT h6
  have HS:=Lib.hid ((HS.out.grow u.below).row h6)
  have zs:=Nat.le_trans zs u.below.size
  clear hR h6
  clear j0 j1 j2 j3 j4 jz
  try clear zb
  try clear c0
  try clear c1
  try clear c2
  try clear c3
  try clear c4
  try clear c5
  generalize u.val=X0 at*
  clear u
  simp only[oas]
  go_upto_if 38 with fail
  refine NoPanic.normal ?_
  go_upto_if 38 with fail
  go_cut [6] (fun s6 wx=>∃a c',s6= .slice a p.length c'∧W.heap.size+2≤wx.heap.size∧Hid (SI W W.heap.size ((W.heap.size+1,#[.slice none 0 0],30)::L) [(.slice a p.length c',p)] [] (.slice none 0 0) wx))
  case first=>
   by_cases h1:m=1
   ·have hp:p=btP 2 0 x0:=by rw[HP.out,if_pos h1]
    subst hp h1
    have HS:=Lib.hid (HS.out.sub (fun _ h=>h) (H':=[]) (fun _ hx=>(by cases hx)))
    have c0:=ab HS.out.below C0.out
    have c1:=ab HS.out.below C1.out
    have c2:=ab HS.out.below C2.out
    have c3:=ab HS.out.below C3.out
    have zb:=Nat.lt_of_lt_of_le zb0 HS.out.below.size
    have c4:=ab HS.out.below C4.out
    go_wp2_with fail
    refine(fM 0 x0 _ (by omega)).mono ?_
    rintro e w9 ⟨r,rfl,hb9,hp9⟩
    obtain⟨a9,c9,rfl⟩:=aT hp9
    have hp8:PK W.heap.size (btP 2 0 x0) _ w9:=AY hp9 (by omega)
    have HS9:=Lib.hid ((HS.out.grow hb9).row hp8)
    have zs9:=Nat.le_trans zs hb9.size
    go_wp2_with fail
    go_meet
    exact⟨_,_,rfl,zs9,HS9⟩
   ·have hp:p=btP 2 x0 t:=by rw[HP.out,if_neg h1]
    subst hp
    have g1:¬(m:Int)=1:=by omega
    go_wp2_with fail
    go_meet
    exact⟨_,_,rfl,zs,HS⟩
  case rest=>
   rename World=>X
   clear HS zs
   obtain⟨pa,pc,rfl,zs,HS⟩:=hcut
   obtain⟨j0,j1,j2,j3,j4,_,jz⟩:=bM (HS.out.at _ (.tail _ HM.out))
   have c0:=ab HS.out.below C0.out
   have c1:=ab HS.out.below C1.out
   have c2:=ab HS.out.below C2.out
   have c3:=ab HS.out.below C3.out
   have zb:=Nat.lt_of_lt_of_le zb0 HS.out.below.size
   have c4:=ab HS.out.below C4.out
   go_wp2
   apply aj [] [0,1,2,3,4,5,6,7,8,9] 10 [] [sv _,sv _,sv _,sv _,sv _,sv _,⟨PK (0) (btP 0 (0) (x1)),by first|exact aw _ _|exact ap _|exact ar _ _ _|exact aA _ _ _⟩,⟨aO [p,(btP 0 (0) (x1))],by first|exact aw _ _|exact ap _|exact ar _ _ _|exact aA _ _ _⟩,⟨gd (W.heap.size) 1 [wC l w t [p,btP 0 0 x1]],by first|exact aw _ _|exact ap _|exact ar _ _ _|exact aA _ _ _⟩,⟨da (X.heap.size) 30 #[.slice none 0 0],by first|exact aw _ _|exact ap _|exact ar _ _ _|exact aA _ _ _⟩] (by kernel_rfl) (by kernel_rfl)
   iterate 6 ((try go_frame);refine wkQ ?_)
   try go_frame
   refine wkU (fun u hR K hK=> ?_) (fun o6=> ?_)
   ·clear hR
    go_simp
    refine(kC _ _ _ (by omega)).mono ?_
    rintro e w9 ⟨r,rfl,hb9,hp9⟩
    exact hK _ _ hb9 (AY hp9 (Nat.zero_le _))
   try go_frame
   refine wkU (fun u hR K hK=> ?_) (fun o7=> ?_)
   ·have h6:(PK (0) (btP 0 (0) (x1))) o6 u.val:=hr hR 6
    clear hR
    obtain⟨a9,c9,a8,c8,_,rfl,hb9,hp9⟩:=fN (au (HS.out.rows _ (.head _)) u.below) h6
    go_simp
    exact hK _ _ hb9 hp9
   try go_frame
   refine wkU (fun u hR K hK=> ?_) (fun o8=> ?_)
   ·have h7:aO [p,(btP 0 (0) (x1))] o7 u.val:=hr hR 7
    clear hR
    go_simp
    refine(fL (B:=W.heap.size) O1.out (by have:=u.size;omega) h7).mono ?_
    rintro e w9 ⟨r,rfl,hb9,hp9⟩
    exact hK _ _ hb9 hp9
   try go_frame
   refine wkU (fun u hR K hK=> ?_) (fun o9=> ?_)
   ·clear hR
    have zw:=u.size
    go_simp
    exact hK _ _ bel ⟨_,rfl,zw,ai rfl⟩
   try go_frame
   refine aI (fun u hR=> ?_)
   obtain⟨g8,rfl,hg8,hh8⟩:da X.heap.size 30 #[.slice none 0 0] o9 u.val:=hR 9 (by simp)
   obtain⟨sa,sc,vs,rfl,ho⟩:gd W.heap.size 1 [wC l w t [p,btP 0 0 x1]] o8 u.val:=hR 8 (by simp)
   have HG:Hid (∀y∈(W.heap.size+1,#[.slice none 0 0],30)::L,y.1≠g8):=Lib.hid (fun y hy=>by
    rcases List.mem_cons.1 hy with rfl|hy
    ·dsimp only;omega
    ·have:=HL.out y hy;omega)
   have hgW:W.heap.size≤g8:=by omega
   have HSP:=Lib.hid (SI.put (.slice sa 1 sc) (((HS.out.grow u.below).have ⟨sa,sc,vs,rfl,ho⟩).add hh8 (by decide)) hgW (by decide) HG.out)
   have s0:=(ag hh8 0).trans rfl
   have sf:=aC hh8 0
   have sz:=ah hh8
   simp only[List.getElem?_toArray,List.getElem?_cons_zero]at s0
   clear hR HS ho hh8
   generalize u.val=Y at*
   clear u
   simp only[oas]
   go_wp2
   refine NoPanic.normal ?_
   have HS:=HSP
   clear HSP s0 sf sz zs
   clear j0 j1 j2 j3 j4 jz
   try clear zb
   try clear c0
   try clear c1
   try clear c2
   try clear c3
   try clear c4
   try clear c5
   generalize Y.setCell ⟨g8,0,none⟩ (.slice sa 1 sc)=Z at*
   obtain⟨j0,j1,j2,j3,j4,_,jz⟩:=bM (HS.out.at _ (.tail _ (.tail _ HM.out)))
   obtain⟨s0,sf,sz⟩:=HS.out.box
   have c0:=ab HS.out.below C0.out
   have c1:=ab HS.out.below C1.out
   have c2:=ab HS.out.below C2.out
   have c3:=ab HS.out.below C3.out
   have zb:=Nat.lt_of_lt_of_le zb0 HS.out.below.size
   have c4:=ab HS.out.below C4.out
   go_wp2
   apply aj [] [0,1,2,3,4,5,6,7,8,9,10] 11 [12] [sv _,sv _,sv _,sv _,sv _,sv _,sv _,sv _,sv _,⟨PK (0) (btP 0 (x2) (l)),by first|exact aw _ _|exact ap _|exact ar _ _ _|exact aA _ _ _⟩,⟨aO [p,(btP 0 (x2) (l))],by first|exact aw _ _|exact ap _|exact ar _ _ _|exact aA _ _ _⟩] (by kernel_rfl) (by kernel_rfl)
   iterate 9 ((try go_frame);refine wkQ ?_)
   try go_frame
   refine wkU (fun u hR K hK=> ?_) (fun o9=> ?_)
   ·clear hR
    go_simp
    refine(kC _ _ _ (by omega)).mono ?_
    rintro e w9 ⟨r,rfl,hb9,hp9⟩
    exact hK _ _ hb9 (AY hp9 (Nat.zero_le _))
   try go_frame
   refine wkU (fun u hR K hK=> ?_) (fun o10=> ?_)
   ·have h9:(PK (0) (btP 0 (x2) (l))) o9 u.val:=hr hR 9
    clear hR
    obtain⟨a9,c9,a8,c8,_,rfl,hb9,hp9⟩:=fN (au (HS.out.rows _ (.head _)) u.below) h9
    go_simp
    exact hK _ _ hb9 hp9
   try go_frame
   refine aI (fun u hR=> ?_)
   have HSu:=Lib.hid (HS.out.grow u.below)
   have hp:aO [p,btP 0 x2 l] o10 u.val:=hR 10 (by simp)
   clear hR HS
   try clear s0 sf sz
   clear j0 j1 j2 j3 j4 jz
   try clear zb
   try clear c0
   try clear c1
   try clear c2
   try clear c3
   try clear c4
   try clear c5
   generalize u.val=Y at*
   clear u
   simp only[oas]
   go_wp2_with fail
   refine(bA (n:=2) O2.out HG.out hgW (by simp) (by simp) HSu.out hp).mono ?_
   rintro e Z ⟨ra,rc,rfl,s0,sf,sz,HS⟩
   clear hp HSu
   go_wp2
   refine NoPanic.normal ?_
   clear s0 sf sz
   generalize Z.setCell ⟨g8,0,none⟩ (.slice ra 2 rc)=Z2 at*
   obtain⟨j0,j1,j2,j3,j4,_,jz⟩:=bM (HS.out.at _ (.tail _ (.tail _ HM.out)))
   obtain⟨s0,sf,sz⟩:=HS.out.box
   have c0:=ab HS.out.below C0.out
   have c1:=ab HS.out.below C1.out
   have c2:=ab HS.out.below C2.out
   have c3:=ab HS.out.below C3.out
   have zb:=Nat.lt_of_lt_of_le zb0 HS.out.below.size
   have c4:=ab HS.out.below C4.out
   go_wp2
   apply aj [] [0,1,2,3,4,5,6,7,8,9,10,11,12,13,14] 15 [16] [sv _,sv _,sv _,sv _,sv _,sv _,sv _,sv _,sv _,⟨PK (0) (btP 0 (x1) (x2)),by first|exact aw _ _|exact ap _|exact ar _ _ _|exact aA _ _ _⟩,sv _,sv _,sv _,⟨PK (0) (btP 1 (0) (x3)),by first|exact aw _ _|exact ap _|exact ar _ _ _|exact aA _ _ _⟩,⟨aO [p,(btP 0 (x1) (x2)),(btP 1 (0) (x3))],by first|exact aw _ _|exact ap _|exact ar _ _ _|exact aA _ _ _⟩] (by kernel_rfl) (by kernel_rfl)
   iterate 9 ((try go_frame);refine wkQ ?_)
   try go_frame
   refine wkU (fun u hR K hK=> ?_) (fun o9=> ?_)
   ·clear hR
    go_simp
    refine(kC _ _ _ (by omega)).mono ?_
    rintro e w9 ⟨r,rfl,hb9,hp9⟩
    exact hK _ _ hb9 (AY hp9 (Nat.zero_le _))
   iterate 3 ((try go_frame);refine wkQ ?_)
   try go_frame
   refine wkU (fun u hR K hK=> ?_) (fun o13=> ?_)
   ·clear hR
    go_simp
    refine(jJ _ _ _ (by omega)).mono ?_
    rintro e w9 ⟨r,rfl,hb9,hp9⟩
    exact hK _ _ hb9 (AY hp9 (Nat.zero_le _))
   try go_frame
   refine wkU (fun u hR K hK=> ?_) (fun o14=> ?_)
   ·have h9:(PK (0) (btP 0 (x1) (x2))) o9 u.val:=hr hR 9
    have h13:(PK (0) (btP 1 (0) (x3))) o13 u.val:=hr hR 13
    clear hR
    obtain⟨a9,c9,a8,c8,a7,c7,_,rfl,rfl,hb9,hp9⟩:=yj (au (HS.out.rows _ (.head _)) u.below) h9 h13
    go_simp
    exact hK _ _ hb9 hp9
   try go_frame
   refine aI (fun u hR=> ?_)
   have HSu:=Lib.hid (HS.out.grow u.below)
   have hp:aO [p,btP 0 x1 x2,btP 1 0 x3] o14 u.val:=hR 14 (by simp)
   clear hR HS
   try clear s0 sf sz
   clear j0 j1 j2 j3 j4 jz
   try clear zb
   try clear c0
   try clear c1
   try clear c2
   try clear c3
   try clear c4
   try clear c5
   generalize u.val=Y at*
   clear u
   simp only[oas]
   go_wp2_with fail
   refine(bA (n:=3) O3.out HG.out hgW (by simp) (by simp) HSu.out hp).mono ?_
   rintro e Z ⟨ra,rc,rfl,s0,sf,sz,HS⟩
   clear hp HSu
   go_wp2
   refine NoPanic.normal ?_
   clear s0 sf sz
   generalize Z.setCell ⟨g8,0,none⟩ (.slice ra 3 rc)=Z2 at*
   obtain⟨j0,j1,j2,j3,j4,_,jz⟩:=bM (HS.out.at _ (.tail _ (.tail _ HM.out)))
   obtain⟨s0,sf,sz⟩:=HS.out.box
   have c0:=ab HS.out.below C0.out
   have c1:=ab HS.out.below C1.out
   have c2:=ab HS.out.below C2.out
   have c3:=ab HS.out.below C3.out
   have zb:=Nat.lt_of_lt_of_le zb0 HS.out.below.size
   have c4:=ab HS.out.below C4.out
   go_wp2
   apply aj [] [0,1,2,3,4,5,6,7,8,9,10,11,12,13,14,15,16,17] 18 [19] [sv _,sv _,sv _,sv _,sv _,sv _,sv _,sv _,sv _,⟨PK (0) (btP 0 (x1) (x2)),by first|exact aw _ _|exact ap _|exact ar _ _ _|exact aA _ _ _⟩,sv _,sv _,sv _,sv _,sv _,sv _,⟨PK (0) (btP 1 (x4) (w)),by first|exact aw _ _|exact ap _|exact ar _ _ _|exact aA _ _ _⟩,⟨aO [p,(btP 0 (x1) (x2)),(btP 1 (x4) (w))],by first|exact aw _ _|exact ap _|exact ar _ _ _|exact aA _ _ _⟩] (by kernel_rfl) (by kernel_rfl)
   iterate 9 ((try go_frame);refine wkQ ?_)
   try go_frame
   refine wkU (fun u hR K hK=> ?_) (fun o9=> ?_)
   ·clear hR
    go_simp
    refine(kC _ _ _ (by omega)).mono ?_
    rintro e w9 ⟨r,rfl,hb9,hp9⟩
    exact hK _ _ hb9 (AY hp9 (Nat.zero_le _))
   iterate 6 ((try go_frame);refine wkQ ?_)
   try go_frame
   refine wkU (fun u hR K hK=> ?_) (fun o16=> ?_)
   ·clear hR
    go_simp
    refine(jJ _ _ _ (by omega)).mono ?_
    rintro e w9 ⟨r,rfl,hb9,hp9⟩
    exact hK _ _ hb9 (AY hp9 (Nat.zero_le _))
   try go_frame
   refine wkU (fun u hR K hK=> ?_) (fun o17=> ?_)
   ·have h9:(PK (0) (btP 0 (x1) (x2))) o9 u.val:=hr hR 9
    have h16:(PK (0) (btP 1 (x4) (w))) o16 u.val:=hr hR 16
    clear hR
    obtain⟨a9,c9,a8,c8,a7,c7,_,rfl,rfl,hb9,hp9⟩:=yj (au (HS.out.rows _ (.head _)) u.below) h9 h16
    go_simp
    exact hK _ _ hb9 hp9
   try go_frame
   refine aI (fun u hR=> ?_)
   have HSu:=Lib.hid (HS.out.grow u.below)
   have hp:aO [p,btP 0 x1 x2,btP 1 x4 w] o17 u.val:=hR 17 (by simp)
   clear hR HS
   try clear s0 sf sz
   clear j0 j1 j2 j3 j4 jz
   try clear zb
   try clear c0
   try clear c1
   try clear c2
   try clear c3
   try clear c4
   try clear c5
   generalize u.val=Y at*
   clear u
   simp only[oas]
   go_wp2_with fail
   refine(bA (n:=4) O4.out (fun _ h=>(by cases h)) (Nat.le_succ _) (by simp) (by simp) HSu.out.last hp).mono ?_
   rintro e Z ⟨ra,rc,rfl,s0,sf,sz,HS⟩
   clear hp HSu
   go_wp2
   refine NoPanic.normal ?_
   have r0:=HS.out.box.1
   clear s0 sf sz
   generalize Z.setCell ⟨W.heap.size+1,0,none⟩ (.slice ra 4 rc)=Z2 at*
   go_wp2
   refine bodyPost_ret (v:= .agg #[.slice ra 4 rc]) (by simp[results,Tryz.results47,go_sem,r0]) rfl ⟨_,rfl,HS.out.drop⟩
end
end Go.Proofs.YtokhkhnofkcalaaGreatDoor
