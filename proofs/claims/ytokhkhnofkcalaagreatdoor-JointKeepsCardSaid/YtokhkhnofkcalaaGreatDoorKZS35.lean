/- texts: RM. -/
import Derived.Test.YtokhkhnofkcalaaGreatDoorKZS34
namespace Go.Proofs.YtokhkhnofkcalaaGreatDoor
set_option maxHeartbeats 8000000
set_option linter.unusedSimpArgs false
set_option linter.unusedVariables false
section
open Go.RowKit Go.Shelf
set_option maxRecDepth 100000
attribute [local go_sem] Ext.cell Ext.frozen
theorem tU (l w t:Int) (nv:Value) (n:List Int) (m:Nat) (W:World) (hn:Ints W nv n) (g:Good 8 l w t n) (hm:(m:Int)<cD 8+aV 8 n):
  Calls Tryz.prog 45 #[vJ 8 l w t nv, .int .i64 m] W (SolK W l w t (aW 8 l w t n m)):=by
 obtain⟨hl,hw,ht⟩:=g.sz
 have hE:=Cells.okE hl hw ht (bS g m hm).2
 have hc8:=g.h8 rfl
 have hln:=g.len
 have b0:=g.nb 0
 have b3:=g.nb 3
 have b4:=g.nb 4
 have b5:=g.nb 5
 have HN:=Lib.hid hn
 have G:=Lib.hid g
 have hml:m<2+bo n:=by
  simp only[cD,aV]at hm
  unfold bo
  simp at hm
  omega
 have hhb:bo n≤12:=by unfold bo;omega
 have HHo:=fun i (hi:i<bo n) W' h=>Lib.hid (tN 8 l w t nv n i W' (hn.below (w':=W') h) (fun x hx=>by have:=(cC _ _ _).1 g.rng x hx;omega) (by unfold bo at hi;omega) (by unfold bo at hi;omega))
 clear g hm
 obtain⟨b,off,c,rfl,hc,zb0,hat⟩:=hn.at' (by omega)
 have C0:=Lib.hid (hat 0 (by omega))
 have C3:=Lib.hid (hat 3 (by omega))
 have C4:=Lib.hid (hat 4 (by omega))
 have C5:=Lib.hid (hat 5 (by omega))
 rw[Nat.add_zero]at C0
 have q0:(0:Int)<(n.length:Int):=by omega
 have q3:(3:Int)<(n.length:Int):=by omega
 have q4:(4:Int)<(n.length:Int):=by omega
 have q5:(5:Int)<(n.length:Int):=by omega
 have n0:0<n.length:=by omega
 have n3:3<n.length:=by omega
 have n4:4<n.length:=by omega
 have n5:5<n.length:=by omega
 clear hat hn
 unfold SolK
 obtain⟨ES,HES⟩:∃ES,Hid ((aW 8 l w t n m).map (fun e=>ch (aP l w t++e))=ES):=⟨_,Lib.hid rfl⟩
 rw[HES.out]
 unfold aW at hE HES
 simp only[Int.reduceEq,reduceIte]at hE HES
 generalize n.getD 0 0=x0 at*
 generalize n.getD 3 0=x3 at*
 generalize n.getD 4 0=x4 at*
 generalize n.getD 5 0=x5 at*
 obtain⟨L,hs,hm,hlt⟩:=SI.start W #[.int .i64 8, .int .i64 l, .int .i64 w, .int .i64 t, .slice (some ⟨b,off,none⟩) n.length c]
 have HS:=Lib.hid hs
 have HM:=Lib.hid hm
 have HL:=Lib.hid hlt
 have zs:W.heap.size+2≤((W.alloc (.cells #[.int .i64 8, .int .i64 l, .int .i64 w, .int .i64 t, .slice (some ⟨b,off,none⟩) n.length c] 25)).alloc (.cells #[.slice none 0 0] 30)).heap.size:=by simp
 obtain⟨V,HV⟩:∃V,Hid ((W.alloc (.cells #[.int .i64 8, .int .i64 l, .int .i64 w, .int .i64 t, .slice (some ⟨b,off,none⟩) n.length c] 25)).alloc (.cells #[.slice none 0 0] 30)=V):=⟨_,Lib.hid rfl⟩
 rw[HV.out]at HS zs
 clear hs hm hlt
 obtain⟨j0,j1,j2,j3,j4,_,jz⟩:=bM (HS.out.at _ (.tail _ HM.out))
 have c0:=ab HS.out.below C0.out
 have c3:=ab HS.out.below C3.out
 have c4:=ab HS.out.below C4.out
 have c5:=ab HS.out.below C5.out
 have zb:=Nat.lt_of_lt_of_le zb0 HS.out.below.size
 unfold vJ at*
 go_enter Tryz.func45,Tryz.ntmps45
 go_wp2
 rw[HV.out]
 clear HV
 refine wqf fun u=> ?_
 have HS:=Lib.hid (HS.out.grow u.below)
 have zs:=Nat.le_trans zs u.below.size
 clear j0 j1 j2 j3 j4 jz
 try clear zb
 try clear c0
 try clear c1
 try clear c2
 try clear c3
 try clear c4
 try clear c5
 generalize u.val=X at*
 clear u
 obtain⟨j0,j1,j2,j3,j4,_,jz⟩:=bM (HS.out.at _ (.tail _ HM.out))
 have f1:IntKind.i64.wrap (x0+x3)=x0+x3:=IntWalk.i64_in _ (by omega)
 have f2:IntKind.i64.wrap (x0+x3+x5)=x0+x3+x5:=IntWalk.i64_in _ (by omega)
 have f3:IntKind.i64.wrap (x0-x4)=x0-x4:=IntWalk.i64_in _ (by omega)
 have f4:IntKind.i64.wrap (x0-x4-x5)=x0-x4-x5:=IntWalk.i64_in _ (by omega)
 rcases(by omega:m=0∨m=1∨2≤m)with h0|h0|h0
 ·subst h0
  simp only[reduceIte]at hE HES
  have O1:Hid (OKW l w t [btP 0 (x0+x3+x5) l]):=Lib.hid ⟨by simpa using hE _ (.head _),by simp,by simp[aP,btP]⟩
  have hE2:=fun e he=>hE e (List.Mem.tail _ he)
  have ha:([btP 0 (x0+x3+x5) l]++ew w t x0 (x0+x3+x5) n (bo n)).map (fun e=>ch (aP l w t++e))=[wC l w t [btP 0 (x0+x3+x5) l]]++(ew w t x0 (x0+x3+x5) n (bo n)).map (fun e=>ch (aP l w t++e)):=by simp[wC]
  have HR:=Lib.hid (HES.out.symm.trans ha)
  clear hE ha HHo HES
  go_wp2
  apply aj [] [0,1,2,3,4,5,6,7,8,9,10,11,12,13,14,15,16,17,18,19] 20 [21] [sv _,sv _,sv _,sv _,sv _,sv _,sv _,sv _,sv _,sv _,⟨PK (0) (btP 0 ((x0+x3+x5)) (l)),by first|exact aw _ _|exact ap _|exact ar _ _ _|exact aA _ _ _⟩,⟨aO [(btP 0 ((x0+x3+x5)) (l))],by first|exact aw _ _|exact ap _|exact ar _ _ _|exact aA _ _ _⟩,⟨gd (W.heap.size) 1 [wC l w t [btP 0 (x0+x3+x5) l]],by first|exact aw _ _|exact ap _|exact ar _ _ _|exact aA _ _ _⟩,sv _,sv _,sv _,sv _,sv _,sv _,sv _] (by kernel_rfl) (by kernel_rfl)
  iterate 10 ((try go_frame);refine wkQ ?_)
  try go_frame
  refine wkU (fun u hR K hK=> ?_) (fun o10=> ?_)
  ·clear hR
   go_simp
   refine(kC _ _ _ (by omega)).mono ?_
   rintro e w9 ⟨r,rfl,hb9,hp9⟩
   exact hK _ _ hb9 (AY hp9 (Nat.zero_le _))
  try go_frame
  refine wkU (fun u hR K hK=> ?_) (fun o11=> ?_)
  ·have h10:(PK (0) (btP 0 ((x0+x3+x5)) (l))) o10 u.val:=hr hR 10
   clear hR
   obtain⟨a9,c9,rfl,hb9,hp9⟩:=iM h10
   go_simp
   exact hK _ _ hb9 hp9
  try go_frame
  refine wkU (fun u hR K hK=> ?_) (fun o12=> ?_)
  ·have h11:aO [(btP 0 ((x0+x3+x5)) (l))] o11 u.val:=hr hR 11
   clear hR
   go_simp
   refine(fL (B:=W.heap.size) O1.out (by have:=u.size;omega) h11).mono ?_
   rintro e w9 ⟨r,rfl,hb9,hp9⟩
   exact hK _ _ hb9 hp9
  iterate 7 ((try go_frame);refine wkQ ?_)
  try go_frame
  refine aI (fun u hR=> ?_)
  obtain⟨sa,sc,vs,rfl,ho⟩:gd W.heap.size 1 [wC l w t [btP 0 (x0+x3+x5) l]] o12 u.val:=hR 12 (by simp)
  have HSu:=Lib.hid (((HS.out.grow u.below).have ⟨sa,sc,vs,rfl,ho⟩).sub (L':=(W.heap.size+1,#[Value.slice none 0 0],30)::L) (H':=[]) (fun _ h=>h) (fun _ h=>h))
  clear hR HS ho
  clear j0 j1 j2 j3 j4 jz
  try clear zb
  try clear c0
  try clear c1
  try clear c2
  try clear c3
  try clear c4
  try clear c5
  generalize u.val=Y at*
  clear u
  simp only[oas]
  go_wp2_with fail
  refine(jN l w t (x0) (x0+x3+x5) _ _ n W Y W.heap.size _ [wC l w t [btP 0 (x0+x3+x5) l]] HSu.out (by simp) HN.out G.out (by omega) hE2).mono ?_
  rintro e Z ⟨r,rfl,hZ⟩
  have HS:=Lib.hid hZ
  clear hZ HSu
  obtain⟨za,zn,zc,rfl⟩:=HS.out.shapeN
  obtain⟨r0,rf,rz⟩:=HS.out.box
  have HSP:=Lib.hid (HS.out.put (.slice za zn zc) (Nat.le_succ _) (by decide) (fun y hy=>by have:=HL.out y hy;omega))
  clear HS
  go_wp2
  try refine NoPanic.normal ?_
  have r1:=HSP.out.box.1
  clear r0 rf rz
  generalize World.setCell _ ⟨W.heap.size+1,0,none⟩ _=Z2 at*
  try go_wp2
  refine bodyPost_ret (v:= .agg #[.slice za zn zc]) (by simp[results,Tryz.results45,go_sem,r1]) rfl ⟨_,rfl,by rw[HR.out];exact HSP.out.drop⟩
 ·subst h0
  rw[if_neg (by decide),if_pos rfl]at hE HES
  have O1:Hid (OKW l w t [btP 0 0 (x0-x4-x5)]):=Lib.hid ⟨by simpa using hE _ (.head _),by simp,by simp[aP,btP]⟩
  have hE2:=fun e he=>hE e (List.Mem.tail _ he)
  have ha:([btP 0 0 (x0-x4-x5)]++ew w t (x0-x4-x5) x0 n (bo n)).map (fun e=>ch (aP l w t++e))=[wC l w t [btP 0 0 (x0-x4-x5)]]++(ew w t (x0-x4-x5) x0 n (bo n)).map (fun e=>ch (aP l w t++e)):=by simp[wC]
  have HR:=Lib.hid (HES.out.symm.trans ha)
  clear hE ha HHo HES
  go_wp2
  apply aj [] [0,1,2,3,4,5,6,7,8,9,10,11,12,13,14,15,16] 17 [18] [sv _,sv _,sv _,sv _,sv _,sv _,sv _,⟨PK (0) (btP 0 (0) (x0-x4-x5)),by first|exact aw _ _|exact ap _|exact ar _ _ _|exact aA _ _ _⟩,⟨aO [(btP 0 (0) (x0-x4-x5))],by first|exact aw _ _|exact ap _|exact ar _ _ _|exact aA _ _ _⟩,⟨gd (W.heap.size) 1 [wC l w t [btP 0 0 (x0-x4-x5)]],by first|exact aw _ _|exact ap _|exact ar _ _ _|exact aA _ _ _⟩,sv _,sv _,sv _,sv _,sv _,sv _,sv _] (by kernel_rfl) (by kernel_rfl)
  iterate 7 ((try go_frame);refine wkQ ?_)
  try go_frame
  refine wkU (fun u hR K hK=> ?_) (fun o7=> ?_)
  ·clear hR
   go_simp
   refine(kC _ _ _ (by omega)).mono ?_
   rintro e w9 ⟨r,rfl,hb9,hp9⟩
   exact hK _ _ hb9 (AY hp9 (Nat.zero_le _))
  try go_frame
  refine wkU (fun u hR K hK=> ?_) (fun o8=> ?_)
  ·have h7:(PK (0) (btP 0 (0) (x0-x4-x5))) o7 u.val:=hr hR 7
   clear hR
   obtain⟨a9,c9,rfl,hb9,hp9⟩:=iM h7
   go_simp
   exact hK _ _ hb9 hp9
  try go_frame
  refine wkU (fun u hR K hK=> ?_) (fun o9=> ?_)
  ·have h8:aO [(btP 0 (0) (x0-x4-x5))] o8 u.val:=hr hR 8
   clear hR
   go_simp
   refine(fL (B:=W.heap.size) O1.out (by have:=u.size;omega) h8).mono ?_
   rintro e w9 ⟨r,rfl,hb9,hp9⟩
   exact hK _ _ hb9 hp9
  iterate 7 ((try go_frame);refine wkQ ?_)
  try go_frame
  refine aI (fun u hR=> ?_)
  obtain⟨sa,sc,vs,rfl,ho⟩:gd W.heap.size 1 [wC l w t [btP 0 0 (x0-x4-x5)]] o9 u.val:=hR 9 (by simp)
  have HSu:=Lib.hid (((HS.out.grow u.below).have ⟨sa,sc,vs,rfl,ho⟩).sub (L':=(W.heap.size+1,#[Value.slice none 0 0],30)::L) (H':=[]) (fun _ h=>h) (fun _ h=>h))
  clear hR HS ho
  clear j0 j1 j2 j3 j4 jz
  try clear zb
  try clear c0
  try clear c1
  try clear c2
  try clear c3
  try clear c4
  try clear c5
  generalize u.val=Y at*
  clear u
  simp only[oas]
  go_wp2_with fail
  refine(jN l w t (x0-x4-x5) (x0) _ _ n W Y W.heap.size _ [wC l w t [btP 0 0 (x0-x4-x5)]] HSu.out (by simp) HN.out G.out (by omega) hE2).mono ?_
  rintro e Z ⟨r,rfl,hZ⟩
  have HS:=Lib.hid hZ
  clear hZ HSu
  obtain⟨za,zn,zc,rfl⟩:=HS.out.shapeN
  obtain⟨r0,rf,rz⟩:=HS.out.box
  have HSP:=Lib.hid (HS.out.put (.slice za zn zc) (Nat.le_succ _) (by decide) (fun y hy=>by have:=HL.out y hy;omega))
  clear HS
  go_wp2
  try refine NoPanic.normal ?_
  have r1:=HSP.out.box.1
  clear r0 rf rz
  generalize World.setCell _ ⟨W.heap.size+1,0,none⟩ _=Z2 at*
  try go_wp2
  refine bodyPost_ret (v:= .agg #[.slice za zn zc]) (by simp[results,Tryz.results45,go_sem,r1]) rfl ⟨_,rfl,by rw[HR.out];exact HSP.out.drop⟩
 ·rw[if_neg (by omega),if_neg (by omega)]at hE HES
  have hho:(gE n (m-2)).length=8:=rfl
  have O1:Hid (OKW l w t [gE n (m-2),btP 0 (x0-x4) (x0+x3)]):=Lib.hid ⟨by simpa using hE _ (.head _),by simp,by simp[aP,btP,hho]⟩
  have ha: [gE n (m-2)++btP 0 (x0-x4) (x0+x3)].map (fun e=>ch (aP l w t++e))=[]++[wC l w t [gE n (m-2),btP 0 (x0-x4) (x0+x3)]]:=by simp[wC]
  have HR:=Lib.hid (HES.out.symm.trans ha)
  clear HES
  have g0:¬(m:Int)=0:=by omega
  have g1:¬(m:Int)=1:=by omega
  have HH:=fun W' h=>Lib.hid (HHo (m-2) (by omega) W' h).out
  have f5:IntKind.i64.wrap ((m:Int)-2)=((m-2:Nat):Int):=by rw[IntWalk.i64_in _ (by omega)];omega
  clear hE ha HHo hho
  go_wp2
  apply aj [] [0,1,2,3,4,5,6,7,8,9,10,11,12,13] 14 [15] [sv _,sv _,sv _,sv _,sv _,⟨PK 0 (gE n (m-2)),by first|exact aw _ _|exact ap _|exact ar _ _ _|exact aA _ _ _⟩,sv _,sv _,sv _,sv _,sv _,sv _,⟨PK (0) (btP 0 ((x0-x4)) (x0+x3)),by first|exact aw _ _|exact ap _|exact ar _ _ _|exact aA _ _ _⟩,⟨aO [(gE n (m-2)),(btP 0 ((x0-x4)) (x0+x3))],by first|exact aw _ _|exact ap _|exact ar _ _ _|exact aA _ _ _⟩] (by kernel_rfl) (by kernel_rfl)
  iterate 5 ((try go_frame);refine wkQ ?_)
  try go_frame
  refine wkU (fun u hR K hK=> ?_) (fun o5=> ?_)
  ·clear hR
   go_simp
   refine((HH _ (ae HS.out.below u.below)).out).mono ?_
   rintro e w9 ⟨r,rfl,hb9,ho9⟩
   exact hK _ _ hb9 (AY ho9 (Nat.zero_le _))
  iterate 6 ((try go_frame);refine wkQ ?_)
  try go_frame
  refine wkU (fun u hR K hK=> ?_) (fun o12=> ?_)
  ·clear hR
   go_simp
   refine(kC _ _ _ (by omega)).mono ?_
   rintro e w9 ⟨r,rfl,hb9,hp9⟩
   exact hK _ _ hb9 (AY hp9 (Nat.zero_le _))
  try go_frame
  refine wkU (fun u hR K hK=> ?_) (fun o13=> ?_)
  ·have h5:(PK 0 (gE n (m-2))) o5 u.val:=hr hR 5
   have h12:(PK (0) (btP 0 ((x0-x4)) (x0+x3))) o12 u.val:=hr hR 12
   clear hR
   obtain⟨a9,c9,a8,c8,rfl,rfl,hb9,hp9⟩:=fN h5 h12
   go_simp
   exact hK _ _ hb9 hp9
  try go_frame
  refine aI (fun u hR=> ?_)
  have HSu:=Lib.hid (HS.out.grow u.below)
  have hp:aO [gE n (m-2),btP 0 (x0-x4) (x0+x3)] o13 u.val:=hR 13 (by simp)
  clear hR HS
  try clear s0 sf sz
  clear j0 j1 j2 j3 j4 jz
  try clear zb
  try clear c0
  try clear c1
  try clear c2
  try clear c3
  try clear c4
  try clear c5
  generalize u.val=Y at*
  clear u
  simp only[oas]
  go_wp2_with fail
  refine(bA (n:=1) O1.out (fun _ h=>(by cases h)) (Nat.le_succ _) (by simp) (by simp) HSu.out.one hp).mono ?_
  rintro e Z ⟨ra,rc,rfl,s0,sf,sz,HS⟩
  clear hp HSu
  go_wp2
  refine NoPanic.normal ?_
  have r0:=HS.out.box.1
  clear s0 sf sz
  generalize Z.setCell ⟨W.heap.size+1,0,none⟩ (.slice ra 1 rc)=Z2 at*
  go_wp2
  refine bodyPost_ret (v:= .agg #[.slice ra 1 rc]) (by simp[results,Tryz.results45,go_sem,r0]) rfl ⟨_,rfl,by rw[HR.out];exact HS.out.drop⟩
end
end Go.Proofs.YtokhkhnofkcalaaGreatDoor
