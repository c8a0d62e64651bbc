/- texts: RF5 RF6 RF. -/
import Derived.Test.YtokhkhnofkcalaaGreatDoorKZS31
import Derived.Test.YtokhkhnofkcalaaGreatDoorKZS32
import Derived.Test.YtokhkhnofkcalaaGreatDoorKZS33
import Derived.Test.YtokhkhnofkcalaaGreatDoorKZS35
import Derived.Test.YtokhkhnofkcalaaGreatDoorKZS26
import Derived.Test.YtokhkhnofkcalaaGreatDoorKZS29
import Derived.Test.YtokhkhnofkcalaaGreatDoorKZS30
namespace Go.Proofs.YtokhkhnofkcalaaGreatDoor
set_option maxHeartbeats 8000000
set_option linter.unusedSimpArgs false
set_option linter.unusedVariables false
section
open Go.RowKit Go.Shelf
set_option maxRecDepth 100000
attribute [local go_sem] Ext.cell Ext.frozen
theorem rL (k l w t:Int) (nv:Value) (n:List Int) (m:Nat) (W:World) (hk:k=5∨k=7∨k=8∨k=9∨k=10) (hn:Ints W nv n) (g:Good k l w t n) (hm:(m:Int)<cD k+aV k n):
  Calls Tryz.prog 15 #[vJ k l w t nv, .int .i64 m] W (SolK W l w t (aW k l w t n m)):=by
 obtain⟨hl,hw,ht⟩:=g.sz
 have HE:=Lib.hid (Cells.okE hl hw ht (bS g m hm).2)
 have HCN:=Lib.hid (Ba g.cnt g.kind)
 have hln:=g.len
 have hn1:1≤n.length:=by have:=HCN.out;omega
 have HN:=Lib.hid hn
 obtain⟨b,off,c,rfl,hc,zb0,hat⟩:=hn.at' (by omega)
 have HAT:=Lib.hid hat
 clear hat hn
 obtain⟨L,hs,hm,hlt⟩:=SI.start W #[.int .i64 k, .int .i64 l, .int .i64 w, .int .i64 t, .slice (some ⟨b,off,none⟩) n.length c]
 have HS:=Lib.hid hs
 have HM:=Lib.hid hm
 have HL:=Lib.hid hlt
 have zs:W.heap.size+2≤((W.alloc (.cells #[.int .i64 k, .int .i64 l, .int .i64 w, .int .i64 t, .slice (some ⟨b,off,none⟩) n.length c] 25)).alloc (.cells #[.slice none 0 0] 30)).heap.size:=by simp
 obtain⟨V,HV⟩:∃V,Hid ((W.alloc (.cells #[.int .i64 k, .int .i64 l, .int .i64 w, .int .i64 t, .slice (some ⟨b,off,none⟩) n.length c] 25)).alloc (.cells #[.slice none 0 0] 30)=V):=⟨_,Lib.hid rfl⟩
 rw[HV.out]at HS zs
 clear hs hm hlt
 obtain⟨j0,j1,j2,j3,j4,_,jz⟩:=bM (HS.out.at _ (.tail _ HM.out))
 have HL0:Hid (∀y∈([]:List (Nat×Array Value×TypeId)),y.1<W.heap.size+1):=Lib.hid (fun _ h=>by cases h)
 unfold SolK
 obtain⟨ES,HES⟩:∃ES,Hid ((aW k l w t n m).map (fun e=>ch (aP l w t++e))=ES):=⟨_,Lib.hid rfl⟩
 rw[HES.out]
 unfold vJ at*
 go_enter Tryz.func15,Tryz.ntmps15
 go_wp2
 rw[HV.out]
 clear HV
 refine wqf fun u=> ?_
 have HS:=Lib.hid (HS.out.grow u.below)
 have zs:=Nat.le_trans zs u.below.size
 clear j0 j1 j2 j3 j4 jz
 try clear zb
 try clear c0
 try clear c1
 try clear c2
 try clear c3
 try clear c4
 try clear c5
 generalize u.val=X at*
 clear u
 obtain⟨j0,j1,j2,j3,j4,_,jz⟩:=bM (HS.out.at _ (.tail _ HM.out))
 have HSA:=Lib.hid (HS.out.new (g:=X.heap.size) (cs:=#[.slice none 0 0]) (T:=30) rfl (by decide))
 clear HS
 have HS:=HSA
 clear HSA
 have HNX:=Lib.hid (fun W' h=>HN.out.below (w':=W') h)
 clear HE HCN
 have HR:=Lib.hid HES.out.symm
 clear HES
 rcases hk with rfl|rfl|rfl|rfl|rfl
 ·rcases(by have h9:(m:Int)<2:=(by simpa [cD,aV]using hm);omega:m=0∨m=1)with h0|h0
  ·have H0:=Lib.hid h0
   clear h0
   go_wp2_with fail
   refine(wv l w t _ n m _ (HNX.out _ HS.out.below) g H0.out).mono ?_
   rintro e Z ⟨r,rfl,hZ⟩
   have HS:=Lib.hid (HS.out.last.join hZ)
   clear hZ
   obtain⟨za,zn,zc,rfl⟩:=HS.out.shapeN
   obtain⟨r0,rf,rz⟩:=HS.out.box
   have HSP:=Lib.hid (HS.out.put (.slice za zn zc) (Nat.le_succ _) (by decide) (fun y hy=>by have:=HL0.out y hy;omega))
   clear HS
   go_wp2
   try refine NoPanic.normal ?_
   have r1:=HSP.out.box.1
   clear r0 rf rz
   generalize World.setCell _ ⟨W.heap.size+1,0,none⟩ _=Z2 at*
   try go_wp2
   refine bodyPost_ret (v:= .agg #[.slice za zn zc]) (by simp[results,Tryz.results15,go_sem,r1]) rfl ⟨_,rfl,by rw[HR.out];exact HSP.out.drop⟩
  ·have H0:=Lib.hid h0
   clear h0
   go_wp2_with fail
   refine(wB l w t _ n m _ (HNX.out _ HS.out.below) g H0.out).mono ?_
   rintro e Z ⟨r,rfl,hZ⟩
   have HS:=Lib.hid (HS.out.last.join hZ)
   clear hZ
   obtain⟨za,zn,zc,rfl⟩:=HS.out.shapeN
   obtain⟨r0,rf,rz⟩:=HS.out.box
   have HSP:=Lib.hid (HS.out.put (.slice za zn zc) (Nat.le_succ _) (by decide) (fun y hy=>by have:=HL0.out y hy;omega))
   clear HS
   go_wp2
   try refine NoPanic.normal ?_
   have r1:=HSP.out.box.1
   clear r0 rf rz
   generalize World.setCell _ ⟨W.heap.size+1,0,none⟩ _=Z2 at*
   try go_wp2
   refine bodyPost_ret (v:= .agg #[.slice za zn zc]) (by simp[results,Tryz.results15,go_sem,r1]) rfl ⟨_,rfl,by rw[HR.out];exact HSP.out.drop⟩
 ·go_wp2_with fail
  refine(oB l w t _ n m _ (HNX.out _ HS.out.below) g (by simp[cD,aV]at hm;omega)).mono ?_
  rintro e Z ⟨r,rfl,hZ⟩
  have HS:=Lib.hid (HS.out.last.join hZ)
  clear hZ
  obtain⟨za,zn,zc,rfl⟩:=HS.out.shapeN
  obtain⟨r0,rf,rz⟩:=HS.out.box
  have HSP:=Lib.hid (HS.out.put (.slice za zn zc) (Nat.le_succ _) (by decide) (fun y hy=>by have:=HL0.out y hy;omega))
  clear HS
  go_wp2
  try refine NoPanic.normal ?_
  have r1:=HSP.out.box.1
  clear r0 rf rz
  generalize World.setCell _ ⟨W.heap.size+1,0,none⟩ _=Z2 at*
  try go_wp2
  refine bodyPost_ret (v:= .agg #[.slice za zn zc]) (by simp[results,Tryz.results15,go_sem,r1]) rfl ⟨_,rfl,by rw[HR.out];exact HSP.out.drop⟩
 ·go_wp2_with fail
  refine(tU l w t _ n m _ (HNX.out _ HS.out.below) g hm).mono ?_
  rintro e Z ⟨r,rfl,hZ⟩
  have HS:=Lib.hid (HS.out.last.join hZ)
  clear hZ
  obtain⟨za,zn,zc,rfl⟩:=HS.out.shapeN
  obtain⟨r0,rf,rz⟩:=HS.out.box
  have HSP:=Lib.hid (HS.out.put (.slice za zn zc) (Nat.le_succ _) (by decide) (fun y hy=>by have:=HL0.out y hy;omega))
  clear HS
  go_wp2
  try refine NoPanic.normal ?_
  have r1:=HSP.out.box.1
  clear r0 rf rz
  generalize World.setCell _ ⟨W.heap.size+1,0,none⟩ _=Z2 at*
  try go_wp2
  refine bodyPost_ret (v:= .agg #[.slice za zn zc]) (by simp[results,Tryz.results15,go_sem,r1]) rfl ⟨_,rfl,by rw[HR.out];exact HSP.out.drop⟩
 ·go_wp2_with fail
  refine(rK l w t _ n m _ (HNX.out _ HS.out.below) g (by simp[cD,aV]at hm;omega)).mono ?_
  rintro e Z ⟨r,rfl,hZ⟩
  have HS:=Lib.hid (HS.out.last.join hZ)
  clear hZ
  obtain⟨za,zn,zc,rfl⟩:=HS.out.shapeN
  obtain⟨r0,rf,rz⟩:=HS.out.box
  have HSP:=Lib.hid (HS.out.put (.slice za zn zc) (Nat.le_succ _) (by decide) (fun y hy=>by have:=HL0.out y hy;omega))
  clear HS
  go_wp2
  try refine NoPanic.normal ?_
  have r1:=HSP.out.box.1
  clear r0 rf rz
  generalize World.setCell _ ⟨W.heap.size+1,0,none⟩ _=Z2 at*
  try go_wp2
  refine bodyPost_ret (v:= .agg #[.slice za zn zc]) (by simp[results,Tryz.results15,go_sem,r1]) rfl ⟨_,rfl,by rw[HR.out];exact HSP.out.drop⟩
 ·go_wp2_with fail
  refine(qh l w t _ n m _ (HNX.out _ HS.out.below) g (by simp[cD,aV]at hm;omega)).mono ?_
  rintro e Z ⟨r,rfl,hZ⟩
  have HS:=Lib.hid (HS.out.last.join hZ)
  clear hZ
  obtain⟨za,zn,zc,rfl⟩:=HS.out.shapeN
  obtain⟨r0,rf,rz⟩:=HS.out.box
  have HSP:=Lib.hid (HS.out.put (.slice za zn zc) (Nat.le_succ _) (by decide) (fun y hy=>by have:=HL0.out y hy;omega))
  clear HS
  go_wp2
  try refine NoPanic.normal ?_
  have r1:=HSP.out.box.1
  clear r0 rf rz
  generalize World.setCell _ ⟨W.heap.size+1,0,none⟩ _=Z2 at*
  try go_wp2
  refine bodyPost_ret (v:= .agg #[.slice za zn zc]) (by simp[results,Tryz.results15,go_sem,r1]) rfl ⟨_,rfl,by rw[HR.out];exact HSP.out.drop⟩
theorem wF (l w t:Int) (nv:Value) (n:List Int) (m:Nat) (W:World) (hn:Ints W nv n) (g:Good 6 l w t n) (hm:(m:Int)<cD 6+aV 6 n):
  Calls Tryz.prog 15 #[vJ 6 l w t nv, .int .i64 m] W (SolK W l w t (aW 6 l w t n m)):=by
 obtain⟨hl,hw,ht⟩:=g.sz
 have HE:=Lib.hid (Cells.okE hl hw ht (bS g m hm).2)
 have HCN:=Lib.hid (Ba g.cnt g.kind)
 have hln:=g.len
 have hn1:1≤n.length:=by have:=HCN.out;omega
 have HN:=Lib.hid hn
 obtain⟨b,off,c,rfl,hc,zb0,hat⟩:=hn.at' (by omega)
 have HAT:=Lib.hid hat
 clear hat hn
 obtain⟨L,hs,hm,hlt⟩:=SI.start W #[.int .i64 6, .int .i64 l, .int .i64 w, .int .i64 t, .slice (some ⟨b,off,none⟩) n.length c]
 have HS:=Lib.hid hs
 have HM:=Lib.hid hm
 have HL:=Lib.hid hlt
 have zs:W.heap.size+2≤((W.alloc (.cells #[.int .i64 6, .int .i64 l, .int .i64 w, .int .i64 t, .slice (some ⟨b,off,none⟩) n.length c] 25)).alloc (.cells #[.slice none 0 0] 30)).heap.size:=by simp
 obtain⟨V,HV⟩:∃V,Hid ((W.alloc (.cells #[.int .i64 6, .int .i64 l, .int .i64 w, .int .i64 t, .slice (some ⟨b,off,none⟩) n.length c] 25)).alloc (.cells #[.slice none 0 0] 30)=V):=⟨_,Lib.hid rfl⟩
 rw[HV.out]at HS zs
 clear hs hm hlt
 obtain⟨j0,j1,j2,j3,j4,_,jz⟩:=bM (HS.out.at _ (.tail _ HM.out))
 have HL0:Hid (∀y∈([]:List (Nat×Array Value×TypeId)),y.1<W.heap.size+1):=Lib.hid (fun _ h=>by cases h)
 unfold SolK
 obtain⟨ES,HES⟩:∃ES,Hid ((aW 6 l w t n m).map (fun e=>ch (aP l w t++e))=ES):=⟨_,Lib.hid rfl⟩
 rw[HES.out]
 unfold vJ at*
 go_enter Tryz.func15,Tryz.ntmps15
 go_wp2
 rw[HV.out]
 clear HV
 refine wqf fun u=> ?_
 have HS:=Lib.hid (HS.out.grow u.below)
 have zs:=Nat.le_trans zs u.below.size
 clear j0 j1 j2 j3 j4 jz
 try clear zb
 try clear c0
 try clear c1
 try clear c2
 try clear c3
 try clear c4
 try clear c5
 generalize u.val=X at*
 clear u
 obtain⟨j0,j1,j2,j3,j4,_,jz⟩:=bM (HS.out.at _ (.tail _ HM.out))
 have HSA:=Lib.hid (HS.out.new (g:=X.heap.size) (cs:=#[.slice none 0 0]) (T:=30) rfl (by decide))
 clear HS
 have HS:=HSA
 clear HSA
 have h1:n.length=3:=HCN.out.2.2.2.2.2.2.1 trivial
 have C0:=Lib.hid (HAT.out 0 (by omega))
 have b0:=g.nb 0
 have c0:=ab HS.out.below C0.out
 have C1:=Lib.hid (HAT.out 1 (by omega))
 have b1:=g.nb 1
 have c1:=ab HS.out.below C1.out
 have C2:=Lib.hid (HAT.out 2 (by omega))
 have b2:=g.nb 2
 have c2:=ab HS.out.below C2.out
 rw[Nat.add_zero]at c0
 have hm6:1≤n.getD 1 0∧n.getD 1 0≤8∧ -8≤n.getD 2 0∧n.getD 2 0≤8:=by
  have h:=g.right
  simp[cU,fH,bB, -List.getD_eq_getElem?_getD]at h
  omega
 have m1:=aJ (show -8≤n.getD 1 0 by omega) hm6.2.1 b0.1 b0.2
 rcases(by have h9:(m:Int)<2:=(by simpa [cD,aV]using hm);omega:m=0∨m=1)with rfl|rfl
 ·have hk:aW 6 l w t n 0=[[(-(n.getD 1 0),0,n.getD 2 0, -(n.getD 1 0*n.getD 0 0))]]:=by simp[aW]
  have hE:=HE.out
  rw[hk]at hE
  have O1:Hid (OKW l w t [[(-(n.getD 1 0),0,n.getD 2 0, -(n.getD 1 0*n.getD 0 0))]]):=Lib.hid ⟨by simpa using hE _ (.head _),by simp,by simp[aP,btP]⟩
  have ha: [[(-(n.getD 1 0),0,n.getD 2 0, -(n.getD 1 0*n.getD 0 0))]].map (fun e=>ch (aP l w t++e))=[]++[wC l w t [[(-(n.getD 1 0),0,n.getD 2 0, -(n.getD 1 0*n.getD 0 0))]]]:=by simp[wC]
  have HR:Hid (ES=[]++[wC l w t [[(-(n.getD 1 0),0,n.getD 2 0, -(n.getD 1 0*n.getD 0 0))]]]):=Lib.hid (by rw[←HES.out,hk];exact ha)
  clear hE hk ha HES
  rw[h1]at HM hc
  try rw[h1]
  clear h1
  have zb:=Nat.lt_of_lt_of_le zb0 HS.out.below.size
  clear g HE HAT HN C0
  generalize n.getD 0 0=x0 at*
  generalize n.getD 1 0=x1 at*
  generalize n.getD 2 0=x2 at*
  obtain⟨pr,hpr⟩:∃pr,x1*x0=pr:=⟨_,rfl⟩
  rw[hpr]at O1 m1 HR
  have f1:IntKind.i64.wrap (x1*x0)=pr:=by rw[hpr];exact IntWalk.i64_in _ (by omega)
  have f2:IntKind.i64.wrap (-x2)= -x2:=IntWalk.i64_in _ (by omega)
  clear hpr
  go_wp2
  generalize X.alloc (.cells #[.slice none 0 0] 30)=Y at*
  clear j0 j1 j2 j3 j4 jz
  obtain⟨j0,j1,j2,j3,j4,_,jz⟩:=bM (HS.out.at _ (.tail _ (.tail _ HM.out)))
  obtain⟨s0,sf,sz⟩:=HS.out.box
  apply aj [] [0,1,2,3,4,5,6,7,8,9,10,11,12,13,14,15,16,17,18] 19 [20] [sv _,sv _,sv _,sv _,sv _,sv _,sv _,sv _,sv _,sv _,sv _,sv _,sv _,sv _,sv _,sv _,sv _,⟨PK 0 [(-x1,0,x2, -pr)],by first|exact aw _ _|exact ap _|exact ar _ _ _|exact aA _ _ _⟩,⟨aO [[(-x1,0,x2, -pr)]],by first|exact aw _ _|exact ap _|exact ar _ _ _|exact aA _ _ _⟩] (by kernel_rfl) (by kernel_rfl)
  iterate 16 ((try go_frame);refine wkQ ?_)
  try go_frame
  refine wkV ?_
  apply ex3
  ·intro u K hK
   go_simp
   refine(gV x1 0 (-x2) pr _ (-x1,0,x2, -pr) (by simp) (by omega) (by omega) (by omega) (by omega)).mono ?_
   rintro e w9 ⟨rfl,hb9⟩
   exact hK _ hb9
  rfl
  try go_frame
  refine wkU (fun u hR K hK=> ?_) (fun o17=> ?_)
  ·clear hR
   go_simp
   exact hK _ _ bel (AY (fl _ [(-x1,0,x2, -pr)] _) (Nat.zero_le _))
  try go_frame
  refine wkU (fun u hR K hK=> ?_) (fun o18=> ?_)
  ·have h17:(PK 0 [(-x1,0,x2, -pr)]) o17 u.val:=hr hR 17
   clear hR
   obtain⟨a9,c9,rfl,hb9,hp9⟩:=iM h17
   go_simp
   exact hK _ _ hb9 hp9
  try go_frame
  refine aI (fun u hR=> ?_)
  have HSu:=Lib.hid (HS.out.grow u.below)
  have hp:aO [[(-x1,0,x2, -pr)]] o18 u.val:=hR 18 (by simp)
  clear hR HS
  try clear s0 sf sz
  clear j0 j1 j2 j3 j4 jz
  try clear zb
  try clear c0
  try clear c1
  try clear c2
  try clear c3
  try clear c4
  try clear c5
  generalize u.val=Y at*
  clear u
  simp only[oas]
  go_wp2_with fail
  refine(bA (n:=1) O1.out (fun _ h=>(by cases h)) (Nat.le_succ _) (by simp) (by simp) HSu.out.last hp).mono ?_
  rintro e Z ⟨ra,rc,rfl,s0,sf,sz,HS⟩
  clear hp HSu
  go_wp2
  refine NoPanic.normal ?_
  have r0:=HS.out.box.1
  clear s0 sf sz
  generalize Z.setCell ⟨W.heap.size+1,0,none⟩ (.slice ra 1 rc)=Z2 at*
  go_wp2
  refine bodyPost_ret (v:= .agg #[.slice ra 1 rc]) (by simp[results,Tryz.results15,go_sem,r0]) rfl ⟨_,rfl,by rw[HR.out];exact HS.out.drop⟩
 ·have hk:aW 6 l w t n 1=[[(n.getD 1 0,0, -(n.getD 2 0),n.getD 1 0*n.getD 0 0)]]:=by simp[aW]
  have hE:=HE.out
  rw[hk]at hE
  have O1:Hid (OKW l w t [[(n.getD 1 0,0, -(n.getD 2 0),n.getD 1 0*n.getD 0 0)]]):=Lib.hid ⟨by simpa using hE _ (.head _),by simp,by simp[aP,btP]⟩
  have ha: [[(n.getD 1 0,0, -(n.getD 2 0),n.getD 1 0*n.getD 0 0)]].map (fun e=>ch (aP l w t++e))=[]++[wC l w t [[(n.getD 1 0,0, -(n.getD 2 0),n.getD 1 0*n.getD 0 0)]]]:=by simp[wC]
  have HR:Hid (ES=[]++[wC l w t [[(n.getD 1 0,0, -(n.getD 2 0),n.getD 1 0*n.getD 0 0)]]]):=Lib.hid (by rw[←HES.out,hk];exact ha)
  clear hE hk ha HES
  rw[h1]at HM hc
  try rw[h1]
  clear h1
  have zb:=Nat.lt_of_lt_of_le zb0 HS.out.below.size
  clear g HE HAT HN C0
  generalize n.getD 0 0=x0 at*
  generalize n.getD 1 0=x1 at*
  generalize n.getD 2 0=x2 at*
  obtain⟨pr,hpr⟩:∃pr,x1*x0=pr:=⟨_,rfl⟩
  rw[hpr]at O1 m1 HR
  have f1:IntKind.i64.wrap (x1*x0)=pr:=by rw[hpr];exact IntWalk.i64_in _ (by omega)
  have f2:IntKind.i64.wrap (-x2)= -x2:=IntWalk.i64_in _ (by omega)
  clear hpr
  go_wp2
  generalize X.alloc (.cells #[.slice none 0 0] 30)=Y at*
  clear j0 j1 j2 j3 j4 jz
  obtain⟨j0,j1,j2,j3,j4,_,jz⟩:=bM (HS.out.at _ (.tail _ (.tail _ HM.out)))
  obtain⟨s0,sf,sz⟩:=HS.out.box
  apply aj [] [0,1,2,3,4,5,6,7,8,9,10,11,12,13,14,15,16,17,18] 19 [20] [sv _,sv _,sv _,sv _,sv _,sv _,sv _,sv _,sv _,sv _,sv _,sv _,sv _,sv _,sv _,sv _,sv _,⟨PK 0 [(x1,0, -x2,pr)],by first|exact aw _ _|exact ap _|exact ar _ _ _|exact aA _ _ _⟩,⟨aO [[(x1,0, -x2,pr)]],by first|exact aw _ _|exact ap _|exact ar _ _ _|exact aA _ _ _⟩] (by kernel_rfl) (by kernel_rfl)
  iterate 16 ((try go_frame);refine wkQ ?_)
  try go_frame
  refine wkV ?_
  apply ex3
  ·intro u K hK
   go_simp
   refine(cM _ _ _ _ _).mono ?_
   rintro e w9 ⟨rfl,hb9⟩
   exact hK _ hb9
  rfl
  try go_frame
  refine wkU (fun u hR K hK=> ?_) (fun o17=> ?_)
  ·clear hR
   go_simp
   exact hK _ _ bel (AY (fl _ [(x1,0, -x2,pr)] _) (Nat.zero_le _))
  try go_frame
  refine wkU (fun u hR K hK=> ?_) (fun o18=> ?_)
  ·have h17:(PK 0 [(x1,0, -x2,pr)]) o17 u.val:=hr hR 17
   clear hR
   obtain⟨a9,c9,rfl,hb9,hp9⟩:=iM h17
   go_simp
   exact hK _ _ hb9 hp9
  try go_frame
  refine aI (fun u hR=> ?_)
  have HSu:=Lib.hid (HS.out.grow u.below)
  have hp:aO [[(x1,0, -x2,pr)]] o18 u.val:=hR 18 (by simp)
  clear hR HS
  try clear s0 sf sz
  clear j0 j1 j2 j3 j4 jz
  try clear zb
  try clear c0
  try clear c1
  try clear c2
  try clear c3
  try clear c4
  try clear c5
  generalize u.val=Y at*
  clear u
  simp only[oas]
  go_wp2_with fail
  refine(bA (n:=1) O1.out (fun _ h=>(by cases h)) (Nat.le_succ _) (by simp) (by simp) HSu.out.last hp).mono ?_
  rintro e Z ⟨ra,rc,rfl,s0,sf,sz,HS⟩
  clear hp HSu
  go_wp2
  refine NoPanic.normal ?_
  have r0:=HS.out.box.1
  clear s0 sf sz
  generalize Z.setCell ⟨W.heap.size+1,0,none⟩ (.slice ra 1 rc)=Z2 at*
  go_wp2
  refine bodyPost_ret (v:= .agg #[.slice ra 1 rc]) (by simp[results,Tryz.results15,go_sem,r0]) rfl ⟨_,rfl,by rw[HR.out];exact HS.out.drop⟩
end
section
open Go.RowKit Go.Shelf
theorem rM (k l w t:Int) (nv:Value) (n:List Int) (m:Nat) (W:World) (hn:Ints W nv n) (g:Good k l w t n) (hm:(m:Int)<cD k+aV k n):
  Calls Tryz.prog 15 #[vJ k l w t nv, .int .i64 m] W (SolK W l w t (aW k l w t n m)):=by
 have hk:=g.kind
 rcases(by omega:k=0∨k=1∨k=2∨k=3∨k=4∨k=6∨(k=5∨k=7∨k=8∨k=9∨k=10))with rfl|rfl|rfl|rfl|rfl|rfl|h
 ·exact we l w t nv n m W hn g hm
 ·exact wg l w t nv n m W hn g hm
 ·exact wj l w t nv n m W hn g hm
 ·exact wt l w t nv n m W hn g hm
 ·exact wu l w t nv n m W hn g hm
 ·exact wF l w t nv n m W hn g hm
 ·exact rL k l w t nv n m W h hn g hm
end
end Go.Proofs.YtokhkhnofkcalaaGreatDoor
