/- texts: RB RF2. -/
import Derived.Test.YtokhkhnofkcalaaGreatDoorKZS25
namespace Go.Proofs.YtokhkhnofkcalaaGreatDoor
set_option maxHeartbeats 8000000
set_option linter.unusedSimpArgs false
set_option linter.unusedVariables false
section
open Go.RowKit Go.Shelf
set_option maxRecDepth 100000
attribute [local go_sem] Ext.cell Ext.frozen
theorem lm (k l w t:Int) (nv lv:Value) (xs:List Int) (W:World) (hx:Ints W lv xs) (hl:4≤xs.length) (hb:∀i, -1000000≤xs.getD i 0∧xs.getD i 0≤1000000) (hw: -1000000≤w∧w≤1000000)
  (hE:∀e∈ej w t (xs.getD 0 0) (xs.getD 1 0) (xs.getD 2 0) (xs.getD 3 0),∀p∈aP l w t++e,cI p):
  Calls Tryz.prog 39 #[vJ k l w t nv,lv] W (SolK W l w t (ej w t (xs.getD 0 0) (xs.getD 1 0) (xs.getD 2 0) (xs.getD 3 0))):=by
 obtain⟨b,off,c,rfl,hc,zb0,hat⟩:=hx.at' (by omega)
 have C0:=Lib.hid (hat 0 (by omega))
 have C1:=Lib.hid (hat 1 (by omega))
 have C2:=Lib.hid (hat 2 (by omega))
 have C3:=Lib.hid (hat 3 (by omega))
 rw[Nat.add_zero]at C0
 have b0:=hb 0
 have b1:=hb 1
 have b2:=hb 2
 have b3:=hb 3
 generalize xs.getD 0 0=x0 at*
 generalize xs.getD 1 0=x1 at*
 generalize xs.getD 2 0=x2 at*
 generalize xs.getD 3 0=x3 at*
 generalize xs.length=M at*
 have ha:(ej w t x0 x1 x2 x3).map (fun e=>ch (aP l w t++e))=[wC l w t [btP 1 0 x0]]++[wC l w t [btP 1 x1 w]]++[wC l w t [btP 1 x0 x1,btP 2 0 x2]]++[wC l w t [btP 1 x0 x1,btP 2 x3 t]]:=by simp[ej,wC]
 unfold SolK
 rw[ha]
 have O1:Hid (OKW l w t [btP 1 0 x0]):=Lib.hid ⟨by simpa using hE _ (.head _),by simp,by simp[aP,btP]⟩
 have O2:Hid (OKW l w t [btP 1 x1 w]):=Lib.hid ⟨by simpa using hE _ (.tail _ (.head _)),by simp,by simp[aP,btP]⟩
 have O3:Hid (OKW l w t [btP 1 x0 x1,btP 2 0 x2]):=Lib.hid ⟨by simpa using hE _ (.tail _ (.tail _ (.head _))),by simp,by simp[aP,btP]⟩
 have O4:Hid (OKW l w t [btP 1 x0 x1,btP 2 x3 t]):=Lib.hid ⟨by simpa using hE _ (.tail _ (.tail _ (.tail _ (.head _)))),by simp,by simp[aP,btP]⟩
 clear ha hE hat hb hx
 have q0:(0:Int)<(M:Int):=by omega
 have q1:(1:Int)<(M:Int):=by omega
 have q2:(2:Int)<(M:Int):=by omega
 have q3:(3:Int)<(M:Int):=by omega
 have n0:0<M:=by omega
 have n1:1<M:=by omega
 have n2:2<M:=by omega
 have n3:3<M:=by omega
 obtain⟨L,hs,hm,hlt⟩:=SI.start W #[.int .i64 k, .int .i64 l, .int .i64 w, .int .i64 t,nv]
 have HS:=Lib.hid hs
 have HM:=Lib.hid hm
 have HL:=Lib.hid hlt
 have zs:W.heap.size+2≤((W.alloc (.cells #[.int .i64 k, .int .i64 l, .int .i64 w, .int .i64 t,nv] 25)).alloc (.cells #[.slice none 0 0] 30)).heap.size:=by simp
 obtain⟨V,HV⟩:∃V,Hid ((W.alloc (.cells #[.int .i64 k, .int .i64 l, .int .i64 w, .int .i64 t,nv] 25)).alloc (.cells #[.slice none 0 0] 30)=V):=⟨_,Lib.hid rfl⟩
 rw[HV.out]at HS zs
 clear hs hm hlt
 obtain⟨j0,j1,j2,j3,j4,_,jz⟩:=bM (HS.out.at _ (.tail _ HM.out))
 unfold vJ at*
 go_enter Tryz.func39,Tryz.ntmps39
 go_wp2
 rw[HV.out]
 clear HV
 refine wqf fun u=> ?_
 have HS:=Lib.hid (HS.out.grow u.below)
 have zs:=Nat.le_trans zs u.below.size
 clear j0 j1 j2 j3 j4 jz
 try clear zb
 try clear c0
 try clear c1
 try clear c2
 try clear c3
 try clear c4
 try clear c5
 generalize u.val=X at*
 clear u
 obtain⟨j0,j1,j2,j3,j4,_,jz⟩:=bM (HS.out.at _ (.tail _ HM.out))
 have c0:=ab HS.out.below C0.out
 have c1:=ab HS.out.below C1.out
 have c2:=ab HS.out.below C2.out
 have c3:=ab HS.out.below C3.out
 have zb:=Nat.lt_of_lt_of_le zb0 HS.out.below.size
 go_wp2
 apply aj [] [0,1,2,3,4,5,6,7,8] 9 [] [sv _,sv _,sv _,sv _,sv _,⟨PK (0) (btP 1 (0) (x0)),by first|exact aw _ _|exact ap _|exact ar _ _ _|exact aA _ _ _⟩,⟨aO [(btP 1 (0) (x0))],by first|exact aw _ _|exact ap _|exact ar _ _ _|exact aA _ _ _⟩,⟨gd (W.heap.size) 1 [wC l w t [btP 1 0 x0]],by first|exact aw _ _|exact ap _|exact ar _ _ _|exact aA _ _ _⟩,⟨da (X.heap.size) 30 #[.slice none 0 0],by first|exact aw _ _|exact ap _|exact ar _ _ _|exact aA _ _ _⟩] (by kernel_rfl) (by kernel_rfl)
 iterate 5 ((try go_frame);refine wkQ ?_)
 try go_frame
 refine wkU (fun u hR K hK=> ?_) (fun o5=> ?_)
 ·clear hR
  go_simp
  refine(jJ _ _ _ (by omega)).mono ?_
  rintro e w9 ⟨r,rfl,hb9,hp9⟩
  exact hK _ _ hb9 (AY hp9 (Nat.zero_le _))
 try go_frame
 refine wkU (fun u hR K hK=> ?_) (fun o6=> ?_)
 ·have h5:(PK (0) (btP 1 (0) (x0))) o5 u.val:=hr hR 5
  clear hR
  obtain⟨a9,c9,rfl,hb9,hp9⟩:=iM h5
  go_simp
  exact hK _ _ hb9 hp9
 try go_frame
 refine wkU (fun u hR K hK=> ?_) (fun o7=> ?_)
 ·have h6:aO [(btP 1 (0) (x0))] o6 u.val:=hr hR 6
  clear hR
  go_simp
  refine(fL (B:=W.heap.size) O1.out (by have:=u.size;omega) h6).mono ?_
  rintro e w9 ⟨r,rfl,hb9,hp9⟩
  exact hK _ _ hb9 hp9
 try go_frame
 refine wkU (fun u hR K hK=> ?_) (fun o8=> ?_)
 ·clear hR
  have zw:=u.size
  go_simp
  exact hK _ _ bel ⟨_,rfl,zw,ai rfl⟩
 try go_frame
 refine aI (fun u hR=> ?_)
 obtain⟨g8,rfl,hg8,hh8⟩:da X.heap.size 30 #[.slice none 0 0] o8 u.val:=hR 8 (by simp)
 obtain⟨sa,sc,vs,rfl,ho⟩:gd W.heap.size 1 [wC l w t [btP 1 0 x0]] o7 u.val:=hR 7 (by simp)
 have HG:Hid (∀y∈(W.heap.size+1,#[.slice none 0 0],30)::L,y.1≠g8):=Lib.hid (fun y hy=>by
  rcases List.mem_cons.1 hy with rfl|hy
  ·dsimp only;omega
  ·have:=HL.out y hy;omega)
 have hgW:W.heap.size≤g8:=by omega
 have HSP:=Lib.hid (SI.put (.slice sa 1 sc) (((HS.out.grow u.below).have ⟨sa,sc,vs,rfl,ho⟩).add hh8 (by decide)) hgW (by decide) HG.out)
 have s0:=(ag hh8 0).trans rfl
 have sf:=aC hh8 0
 have sz:=ah hh8
 simp only[List.getElem?_toArray,List.getElem?_cons_zero]at s0
 clear hR HS ho hh8
 generalize u.val=Y at*
 clear u
 simp only[oas]
 go_wp2
 refine NoPanic.normal ?_
 have HS:=HSP
 clear HSP s0 sf sz zs
 clear j0 j1 j2 j3 j4 jz
 try clear zb
 try clear c0
 try clear c1
 try clear c2
 try clear c3
 try clear c4
 try clear c5
 generalize Y.setCell ⟨g8,0,none⟩ (.slice sa 1 sc)=Z at*
 obtain⟨j0,j1,j2,j3,j4,_,jz⟩:=bM (HS.out.at _ (.tail _ (.tail _ HM.out)))
 obtain⟨s0,sf,sz⟩:=HS.out.box
 have c0:=ab HS.out.below C0.out
 have c1:=ab HS.out.below C1.out
 have c2:=ab HS.out.below C2.out
 have c3:=ab HS.out.below C3.out
 have zb:=Nat.lt_of_lt_of_le zb0 HS.out.below.size
 go_wp2
 apply aj [] [0,1,2,3,4,5,6,7] 8 [9] [sv _,sv _,sv _,sv _,sv _,sv _,⟨PK (0) (btP 1 (x1) (w)),by first|exact aw _ _|exact ap _|exact ar _ _ _|exact aA _ _ _⟩,⟨aO [(btP 1 (x1) (w))],by first|exact aw _ _|exact ap _|exact ar _ _ _|exact aA _ _ _⟩] (by kernel_rfl) (by kernel_rfl)
 iterate 6 ((try go_frame);refine wkQ ?_)
 try go_frame
 refine wkU (fun u hR K hK=> ?_) (fun o6=> ?_)
 ·clear hR
  go_simp
  refine(jJ _ _ _ (by omega)).mono ?_
  rintro e w9 ⟨r,rfl,hb9,hp9⟩
  exact hK _ _ hb9 (AY hp9 (Nat.zero_le _))
 try go_frame
 refine wkU (fun u hR K hK=> ?_) (fun o7=> ?_)
 ·have h6:(PK (0) (btP 1 (x1) (w))) o6 u.val:=hr hR 6
  clear hR
  obtain⟨a9,c9,rfl,hb9,hp9⟩:=iM h6
  go_simp
  exact hK _ _ hb9 hp9
 try go_frame
 refine aI (fun u hR=> ?_)
 have HSu:=Lib.hid (HS.out.grow u.below)
 have hp:aO [btP 1 x1 w] o7 u.val:=hR 7 (by simp)
 clear hR HS
 try clear s0 sf sz
 clear j0 j1 j2 j3 j4 jz
 try clear zb
 try clear c0
 try clear c1
 try clear c2
 try clear c3
 try clear c4
 try clear c5
 generalize u.val=Y at*
 clear u
 simp only[oas]
 go_wp2_with fail
 refine(bA (n:=2) O2.out HG.out hgW (by simp) (by simp) HSu.out hp).mono ?_
 rintro e Z ⟨ra,rc,rfl,s0,sf,sz,HS⟩
 clear hp HSu
 go_wp2
 refine NoPanic.normal ?_
 clear s0 sf sz
 generalize Z.setCell ⟨g8,0,none⟩ (.slice ra 2 rc)=Z2 at*
 obtain⟨j0,j1,j2,j3,j4,_,jz⟩:=bM (HS.out.at _ (.tail _ (.tail _ HM.out)))
 obtain⟨s0,sf,sz⟩:=HS.out.box
 have c0:=ab HS.out.below C0.out
 have c1:=ab HS.out.below C1.out
 have c2:=ab HS.out.below C2.out
 have c3:=ab HS.out.below C3.out
 have zb:=Nat.lt_of_lt_of_le zb0 HS.out.below.size
 go_wp2
 apply aj [] [0,1,2,3,4,5,6,7,8,9,10,11,12,13] 14 [15] [sv _,sv _,sv _,sv _,sv _,sv _,sv _,sv _,⟨PK (0) (btP 1 (x0) (x1)),by first|exact aw _ _|exact ap _|exact ar _ _ _|exact aA _ _ _⟩,sv _,sv _,sv _,⟨PK (0) (btP 2 (0) (x2)),by first|exact aw _ _|exact ap _|exact ar _ _ _|exact aA _ _ _⟩,⟨aO [(btP 1 (x0) (x1)),(btP 2 (0) (x2))],by first|exact aw _ _|exact ap _|exact ar _ _ _|exact aA _ _ _⟩] (by kernel_rfl) (by kernel_rfl)
 iterate 8 ((try go_frame);refine wkQ ?_)
 try go_frame
 refine wkU (fun u hR K hK=> ?_) (fun o8=> ?_)
 ·clear hR
  go_simp
  refine(jJ _ _ _ (by omega)).mono ?_
  rintro e w9 ⟨r,rfl,hb9,hp9⟩
  exact hK _ _ hb9 (AY hp9 (Nat.zero_le _))
 iterate 3 ((try go_frame);refine wkQ ?_)
 try go_frame
 refine wkU (fun u hR K hK=> ?_) (fun o12=> ?_)
 ·clear hR
  go_simp
  refine(fM _ _ _ (by omega)).mono ?_
  rintro e w9 ⟨r,rfl,hb9,hp9⟩
  exact hK _ _ hb9 (AY hp9 (Nat.zero_le _))
 try go_frame
 refine wkU (fun u hR K hK=> ?_) (fun o13=> ?_)
 ·have h8:(PK (0) (btP 1 (x0) (x1))) o8 u.val:=hr hR 8
  have h12:(PK (0) (btP 2 (0) (x2))) o12 u.val:=hr hR 12
  clear hR
  obtain⟨a9,c9,a8,c8,rfl,rfl,hb9,hp9⟩:=fN h8 h12
  go_simp
  exact hK _ _ hb9 hp9
 try go_frame
 refine aI (fun u hR=> ?_)
 have HSu:=Lib.hid (HS.out.grow u.below)
 have hp:aO [btP 1 x0 x1,btP 2 0 x2] o13 u.val:=hR 13 (by simp)
 clear hR HS
 try clear s0 sf sz
 clear j0 j1 j2 j3 j4 jz
 try clear zb
 try clear c0
 try clear c1
 try clear c2
 try clear c3
 try clear c4
 try clear c5
 generalize u.val=Y at*
 clear u
 simp only[oas]
 go_wp2_with fail
 refine(bA (n:=3) O3.out HG.out hgW (by simp) (by simp) HSu.out hp).mono ?_
 rintro e Z ⟨ra,rc,rfl,s0,sf,sz,HS⟩
 clear hp HSu
 go_wp2
 refine NoPanic.normal ?_
 clear s0 sf sz
 generalize Z.setCell ⟨g8,0,none⟩ (.slice ra 3 rc)=Z2 at*
 obtain⟨j0,j1,j2,j3,j4,_,jz⟩:=bM (HS.out.at _ (.tail _ (.tail _ HM.out)))
 obtain⟨s0,sf,sz⟩:=HS.out.box
 have c0:=ab HS.out.below C0.out
 have c1:=ab HS.out.below C1.out
 have c2:=ab HS.out.below C2.out
 have c3:=ab HS.out.below C3.out
 have zb:=Nat.lt_of_lt_of_le zb0 HS.out.below.size
 go_wp2
 apply aj [] [0,1,2,3,4,5,6,7,8,9,10,11,12,13,14] 15 [16] [sv _,sv _,sv _,sv _,sv _,sv _,sv _,sv _,⟨PK (0) (btP 1 (x0) (x1)),by first|exact aw _ _|exact ap _|exact ar _ _ _|exact aA _ _ _⟩,sv _,sv _,sv _,sv _,⟨PK (0) (btP 2 (x3) (t)),by first|exact aw _ _|exact ap _|exact ar _ _ _|exact aA _ _ _⟩,⟨aO [(btP 1 (x0) (x1)),(btP 2 (x3) (t))],by first|exact aw _ _|exact ap _|exact ar _ _ _|exact aA _ _ _⟩] (by kernel_rfl) (by kernel_rfl)
 iterate 8 ((try go_frame);refine wkQ ?_)
 try go_frame
 refine wkU (fun u hR K hK=> ?_) (fun o8=> ?_)
 ·clear hR
  go_simp
  refine(jJ _ _ _ (by omega)).mono ?_
  rintro e w9 ⟨r,rfl,hb9,hp9⟩
  exact hK _ _ hb9 (AY hp9 (Nat.zero_le _))
 iterate 4 ((try go_frame);refine wkQ ?_)
 try go_frame
 refine wkU (fun u hR K hK=> ?_) (fun o13=> ?_)
 ·clear hR
  go_simp
  refine(fM _ _ _ (by omega)).mono ?_
  rintro e w9 ⟨r,rfl,hb9,hp9⟩
  exact hK _ _ hb9 (AY hp9 (Nat.zero_le _))
 try go_frame
 refine wkU (fun u hR K hK=> ?_) (fun o14=> ?_)
 ·have h8:(PK (0) (btP 1 (x0) (x1))) o8 u.val:=hr hR 8
  have h13:(PK (0) (btP 2 (x3) (t))) o13 u.val:=hr hR 13
  clear hR
  obtain⟨a9,c9,a8,c8,rfl,rfl,hb9,hp9⟩:=fN h8 h13
  go_simp
  exact hK _ _ hb9 hp9
 try go_frame
 refine aI (fun u hR=> ?_)
 have HSu:=Lib.hid (HS.out.grow u.below)
 have hp:aO [btP 1 x0 x1,btP 2 x3 t] o14 u.val:=hR 14 (by simp)
 clear hR HS
 try clear s0 sf sz
 clear j0 j1 j2 j3 j4 jz
 try clear zb
 try clear c0
 try clear c1
 try clear c2
 try clear c3
 try clear c4
 try clear c5
 generalize u.val=Y at*
 clear u
 simp only[oas]
 go_wp2_with fail
 refine(bA (n:=4) O4.out (fun _ h=>(by cases h)) (Nat.le_succ _) (by simp) (by simp) HSu.out.last hp).mono ?_
 rintro e Z ⟨ra,rc,rfl,s0,sf,sz,HS⟩
 clear hp HSu
 go_wp2
 refine NoPanic.normal ?_
 have r0:=HS.out.box.1
 clear s0 sf sz
 generalize Z.setCell ⟨W.heap.size+1,0,none⟩ (.slice ra 4 rc)=Z2 at*
 go_wp2
 refine bodyPost_ret (v:= .agg #[.slice ra 4 rc]) (by simp[results,Tryz.results39,go_sem,r0]) rfl ⟨_,rfl,HS.out.drop⟩
theorem wj (l w t:Int) (nv:Value) (n:List Int) (m:Nat) (W:World) (hn:Ints W nv n) (g:Good 2 l w t n) (hm:(m:Int)<cD 2+aV 2 n):
  Calls Tryz.prog 15 #[vJ 2 l w t nv, .int .i64 m] W (SolK W l w t (aW 2 l w t n m)):=by
 obtain⟨hl,hw,ht⟩:=g.sz
 have HE:=Lib.hid (Cells.okE hl hw ht (bS g m hm).2)
 have HCN:=Lib.hid (Ba g.cnt g.kind)
 have hln:=g.len
 have hn1:1≤n.length:=by have:=HCN.out;omega
 have HN:=Lib.hid hn
 obtain⟨b,off,c,rfl,hc,zb0,hat⟩:=hn.at' (by omega)
 have HAT:=Lib.hid hat
 clear hat hn
 obtain⟨L,hs,hm,hlt⟩:=SI.start W #[.int .i64 2, .int .i64 l, .int .i64 w, .int .i64 t, .slice (some ⟨b,off,none⟩) n.length c]
 have HS:=Lib.hid hs
 have HM:=Lib.hid hm
 have HL:=Lib.hid hlt
 have zs:W.heap.size+2≤((W.alloc (.cells #[.int .i64 2, .int .i64 l, .int .i64 w, .int .i64 t, .slice (some ⟨b,off,none⟩) n.length c] 25)).alloc (.cells #[.slice none 0 0] 30)).heap.size:=by simp
 obtain⟨V,HV⟩:∃V,Hid ((W.alloc (.cells #[.int .i64 2, .int .i64 l, .int .i64 w, .int .i64 t, .slice (some ⟨b,off,none⟩) n.length c] 25)).alloc (.cells #[.slice none 0 0] 30)=V):=⟨_,Lib.hid rfl⟩
 rw[HV.out]at HS zs
 clear hs hm hlt
 obtain⟨j0,j1,j2,j3,j4,_,jz⟩:=bM (HS.out.at _ (.tail _ HM.out))
 have HL0:Hid (∀y∈([]:List (Nat×Array Value×TypeId)),y.1<W.heap.size+1):=Lib.hid (fun _ h=>by cases h)
 unfold SolK
 obtain⟨ES,HES⟩:∃ES,Hid ((aW 2 l w t n m).map (fun e=>ch (aP l w t++e))=ES):=⟨_,Lib.hid rfl⟩
 rw[HES.out]
 unfold vJ at*
 go_enter Tryz.func15,Tryz.ntmps15
 go_wp2
 rw[HV.out]
 clear HV
 refine wqf fun u=> ?_
 have HS:=Lib.hid (HS.out.grow u.below)
 have zs:=Nat.le_trans zs u.below.size
 clear j0 j1 j2 j3 j4 jz
 try clear zb
 try clear c0
 try clear c1
 try clear c2
 try clear c3
 try clear c4
 try clear c5
 generalize u.val=X at*
 clear u
 obtain⟨j0,j1,j2,j3,j4,_,jz⟩:=bM (HS.out.at _ (.tail _ HM.out))
 have HSA:=Lib.hid (HS.out.new (g:=X.heap.size) (cs:=#[.slice none 0 0]) (T:=30) rfl (by decide))
 clear HS
 have HS:=HSA
 clear HSA
 have h1:n.length=4:=HCN.out.2.2.1 trivial
 have C0:=Lib.hid (HAT.out 0 (by omega))
 have b0:=g.nb 0
 have c0:=ab HS.out.below C0.out
 have C1:=Lib.hid (HAT.out 1 (by omega))
 have b1:=g.nb 1
 have c1:=ab HS.out.below C1.out
 have C2:=Lib.hid (HAT.out 2 (by omega))
 have b2:=g.nb 2
 have c2:=ab HS.out.below C2.out
 have C3:=Lib.hid (HAT.out 3 (by omega))
 have b3:=g.nb 3
 have c3:=ab HS.out.below C3.out
 rw[Nat.add_zero]at c0
 rcases(by have h9:(m:Int)<2:=(by simpa [cD,aV]using hm);omega:m=0∨m=1)with rfl|rfl
 ·have hk:aW 2 l w t n 0=[btP 1 (n.getD 0 0) (n.getD 1 0)++btP 2 (n.getD 2 0) (n.getD 3 0)]:=by simp[aW]
  have hE:=HE.out
  rw[hk]at hE
  have O1:Hid (OKW l w t [btP 1 (n.getD 0 0) (n.getD 1 0),btP 2 (n.getD 2 0) (n.getD 3 0)]):=Lib.hid ⟨by simpa using hE _ (.head _),by simp,by simp[aP,btP]⟩
  have ha: [btP 1 (n.getD 0 0) (n.getD 1 0)++btP 2 (n.getD 2 0) (n.getD 3 0)].map (fun e=>ch (aP l w t++e))=[]++[wC l w t [btP 1 (n.getD 0 0) (n.getD 1 0),btP 2 (n.getD 2 0) (n.getD 3 0)]]:=by simp[wC]
  have HR:Hid (ES=[]++[wC l w t [btP 1 (n.getD 0 0) (n.getD 1 0),btP 2 (n.getD 2 0) (n.getD 3 0)]]):=Lib.hid (by rw[←HES.out,hk];exact ha)
  clear hE hk ha HES
  rw[h1]at HM hc
  try rw[h1]
  clear h1
  have zb:=Nat.lt_of_lt_of_le zb0 HS.out.below.size
  clear g HE HAT HN C0
  generalize n.getD 0 0=x0 at*
  generalize n.getD 1 0=x1 at*
  generalize n.getD 2 0=x2 at*
  generalize n.getD 3 0=x3 at*
  go_wp2
  generalize X.alloc (.cells #[.slice none 0 0] 30)=Y at*
  clear j0 j1 j2 j3 j4 jz
  obtain⟨j0,j1,j2,j3,j4,_,jz⟩:=bM (HS.out.at _ (.tail _ (.tail _ HM.out)))
  obtain⟨s0,sf,sz⟩:=HS.out.box
  apply aj [] [0,1,2,3,4,5,6,7,8,9,10,11,12,13,14,15,16] 17 [18] [sv _,sv _,sv _,sv _,sv _,sv _,sv _,sv _,⟨PK (0) (btP 1 (x0) (x1)),by first|exact aw _ _|exact ap _|exact ar _ _ _|exact aA _ _ _⟩,sv _,sv _,sv _,sv _,sv _,sv _,⟨PK (0) (btP 2 (x2) (x3)),by first|exact aw _ _|exact ap _|exact ar _ _ _|exact aA _ _ _⟩,⟨aO [(btP 1 (x0) (x1)),(btP 2 (x2) (x3))],by first|exact aw _ _|exact ap _|exact ar _ _ _|exact aA _ _ _⟩] (by kernel_rfl) (by kernel_rfl)
  iterate 8 ((try go_frame);refine wkQ ?_)
  try go_frame
  refine wkU (fun u hR K hK=> ?_) (fun o8=> ?_)
  ·clear hR
   go_simp
   refine(jJ _ _ _ (by omega)).mono ?_
   rintro e w9 ⟨r,rfl,hb9,hp9⟩
   exact hK _ _ hb9 (AY hp9 (Nat.zero_le _))
  iterate 6 ((try go_frame);refine wkQ ?_)
  try go_frame
  refine wkU (fun u hR K hK=> ?_) (fun o15=> ?_)
  ·clear hR
   go_simp
   refine(fM _ _ _ (by omega)).mono ?_
   rintro e w9 ⟨r,rfl,hb9,hp9⟩
   exact hK _ _ hb9 (AY hp9 (Nat.zero_le _))
  try go_frame
  refine wkU (fun u hR K hK=> ?_) (fun o16=> ?_)
  ·have h8:(PK (0) (btP 1 (x0) (x1))) o8 u.val:=hr hR 8
   have h15:(PK (0) (btP 2 (x2) (x3))) o15 u.val:=hr hR 15
   clear hR
   obtain⟨a9,c9,a8,c8,rfl,rfl,hb9,hp9⟩:=fN h8 h15
   go_simp
   exact hK _ _ hb9 hp9
  try go_frame
  refine aI (fun u hR=> ?_)
  have HSu:=Lib.hid (HS.out.grow u.below)
  have hp:aO [btP 1 x0 x1,btP 2 x2 x3] o16 u.val:=hR 16 (by simp)
  clear hR HS
  try clear s0 sf sz
  clear j0 j1 j2 j3 j4 jz
  try clear zb
  try clear c0
  try clear c1
  try clear c2
  try clear c3
  try clear c4
  try clear c5
  generalize u.val=Y at*
  clear u
  simp only[oas]
  go_wp2_with fail
  refine(bA (n:=1) O1.out (fun _ h=>(by cases h)) (Nat.le_succ _) (by simp) (by simp) HSu.out.last hp).mono ?_
  rintro e Z ⟨ra,rc,rfl,s0,sf,sz,HS⟩
  clear hp HSu
  go_wp2
  refine NoPanic.normal ?_
  have r0:=HS.out.box.1
  clear s0 sf sz
  generalize Z.setCell ⟨W.heap.size+1,0,none⟩ (.slice ra 1 rc)=Z2 at*
  go_wp2
  refine bodyPost_ret (v:= .agg #[.slice ra 1 rc]) (by simp[results,Tryz.results15,go_sem,r0]) rfl ⟨_,rfl,by rw[HR.out];exact HS.out.drop⟩
 ·have hk:aW 2 l w t n 1=ej w t (n.getD 0 0) (n.getD 1 0) (n.getD 2 0) (n.getD 3 0):=by simp[aW]
  have hE:=HE.out
  rw[hk]at hE
  have hnb:=fun i=>g.nb i
  have HNX:=Lib.hid (fun W' h=>HN.out.below (w':=W') h)
  have HR:=Lib.hid (HES.out.symm.trans (congrArg (List.map fun e=>ch (aP l w t++e)) hk))
  have hl4:4≤n.length:=by omega
  clear hk HE HAT HN HES h1
  go_wp2_with fail
  refine(lm 2 l w t _ _ n _ (HNX.out _ HS.out.below) (by omega) (fun i=>by have:=hnb i;omega) (by omega) hE).mono ?_
  rintro e Z ⟨r,rfl,hZ⟩
  have HS:=Lib.hid (HS.out.last.join hZ)
  clear hZ
  obtain⟨za,zn,zc,rfl⟩:=HS.out.shapeN
  obtain⟨r0,rf,rz⟩:=HS.out.box
  have HSP:=Lib.hid (HS.out.put (.slice za zn zc) (Nat.le_succ _) (by decide) (fun y hy=>by have:=HL0.out y hy;omega))
  clear HS
  go_wp2
  try refine NoPanic.normal ?_
  have r1:=HSP.out.box.1
  clear r0 rf rz
  generalize World.setCell _ ⟨W.heap.size+1,0,none⟩ _=Z2 at*
  try go_wp2
  refine bodyPost_ret (v:= .agg #[.slice za zn zc]) (by simp[results,Tryz.results15,go_sem,r1]) rfl ⟨_,rfl,by rw[HR.out];exact HSP.out.drop⟩
end
end Go.Proofs.YtokhkhnofkcalaaGreatDoor
