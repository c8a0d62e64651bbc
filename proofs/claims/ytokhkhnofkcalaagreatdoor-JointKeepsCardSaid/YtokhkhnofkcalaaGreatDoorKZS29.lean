/- texts: RF3. -/
import Derived.Test.YtokhkhnofkcalaaGreatDoorKZS27
import Derived.Test.YtokhkhnofkcalaaGreatDoorKZS28
namespace Go.Proofs.YtokhkhnofkcalaaGreatDoor
set_option maxHeartbeats 8000000
set_option linter.unusedSimpArgs false
set_option linter.unusedVariables false
section
open Go.RowKit Go.Shelf
set_option maxRecDepth 100000
attribute [local go_sem] Ext.cell Ext.frozen
theorem wt (l w t:Int) (nv:Value) (n:List Int) (m:Nat) (W:World) (hn:Ints W nv n) (g:Good 3 l w t n) (hm:(m:Int)<cD 3+aV 3 n):
  Calls Tryz.prog 15 #[vJ 3 l w t nv, .int .i64 m] W (SolK W l w t (aW 3 l w t n m)):=by
 obtain⟨hl,hw,ht⟩:=g.sz
 have HE:=Lib.hid (Cells.okE hl hw ht (bS g m hm).2)
 have HCN:=Lib.hid (Ba g.cnt g.kind)
 have hln:=g.len
 have hn1:1≤n.length:=by have:=HCN.out;omega
 have HN:=Lib.hid hn
 obtain⟨b,off,c,rfl,hc,zb0,hat⟩:=hn.at' (by omega)
 have HAT:=Lib.hid hat
 clear hat hn
 obtain⟨L,hs,hm,hlt⟩:=SI.start W #[.int .i64 3, .int .i64 l, .int .i64 w, .int .i64 t, .slice (some ⟨b,off,none⟩) n.length c]
 have HS:=Lib.hid hs
 have HM:=Lib.hid hm
 have HL:=Lib.hid hlt
 have zs:W.heap.size+2≤((W.alloc (.cells #[.int .i64 3, .int .i64 l, .int .i64 w, .int .i64 t, .slice (some ⟨b,off,none⟩) n.length c] 25)).alloc (.cells #[.slice none 0 0] 30)).heap.size:=by simp
 obtain⟨V,HV⟩:∃V,Hid ((W.alloc (.cells #[.int .i64 3, .int .i64 l, .int .i64 w, .int .i64 t, .slice (some ⟨b,off,none⟩) n.length c] 25)).alloc (.cells #[.slice none 0 0] 30)=V):=⟨_,Lib.hid rfl⟩
 rw[HV.out]at HS zs
 clear hs hm hlt
 obtain⟨j0,j1,j2,j3,j4,_,jz⟩:=bM (HS.out.at _ (.tail _ HM.out))
 have HL0:Hid (∀y∈([]:List (Nat×Array Value×TypeId)),y.1<W.heap.size+1):=Lib.hid (fun _ h=>by cases h)
 unfold SolK
 obtain⟨ES,HES⟩:∃ES,Hid ((aW 3 l w t n m).map (fun e=>ch (aP l w t++e))=ES):=⟨_,Lib.hid rfl⟩
 rw[HES.out]
 unfold vJ at*
 go_enter Tryz.func15,Tryz.ntmps15
 go_wp2
 rw[HV.out]
 clear HV
 refine wqf fun u=> ?_
 have HS:=Lib.hid (HS.out.grow u.below)
 have zs:=Nat.le_trans zs u.below.size
 clear j0 j1 j2 j3 j4 jz
 try clear zb
 try clear c0
 try clear c1
 try clear c2
 try clear c3
 try clear c4
 try clear c5
 generalize u.val=X at*
 clear u
 obtain⟨j0,j1,j2,j3,j4,_,jz⟩:=bM (HS.out.at _ (.tail _ HM.out))
 have HSA:=Lib.hid (HS.out.new (g:=X.heap.size) (cs:=#[.slice none 0 0]) (T:=30) rfl (by decide))
 clear HS
 have HS:=HSA
 clear HSA
 have h1:n.length=6:=HCN.out.2.2.2.1 trivial
 have C0:=Lib.hid (HAT.out 0 (by omega))
 have b0:=g.nb 0
 have c0:=ab HS.out.below C0.out
 have C1:=Lib.hid (HAT.out 1 (by omega))
 have b1:=g.nb 1
 have c1:=ab HS.out.below C1.out
 have C2:=Lib.hid (HAT.out 2 (by omega))
 have b2:=g.nb 2
 have c2:=ab HS.out.below C2.out
 have C3:=Lib.hid (HAT.out 3 (by omega))
 have b3:=g.nb 3
 have c3:=ab HS.out.below C3.out
 have C4:=Lib.hid (HAT.out 4 (by omega))
 have b4:=g.nb 4
 have c4:=ab HS.out.below C4.out
 have C5:=Lib.hid (HAT.out 5 (by omega))
 have b5:=g.nb 5
 have c5:=ab HS.out.below C5.out
 rw[Nat.add_zero]at c0
 rcases(by have h9:(m:Int)<2:=(by simpa [cD,aV]using hm);omega:m=0∨m=1)with rfl|rfl
 ·have hk:aW 3 l w t n 0=[btP 0 (l-n.getD 0 0) l++btP 1 (n.getD 2 0) (n.getD 3 0)++btP 2 (n.getD 4 0) (n.getD 5 0)]:=by simp[aW]
  have hE:=HE.out
  rw[hk]at hE
  have O1:Hid (OKW l w t [btP 0 (l-n.getD 0 0) l,btP 1 (n.getD 2 0) (n.getD 3 0),btP 2 (n.getD 4 0) (n.getD 5 0)]):=Lib.hid ⟨by simpa using hE _ (.head _),by simp,by simp[aP,btP]⟩
  have ha: [btP 0 (l-n.getD 0 0) l++btP 1 (n.getD 2 0) (n.getD 3 0)++btP 2 (n.getD 4 0) (n.getD 5 0)].map (fun e=>ch (aP l w t++e))=[]++[wC l w t [btP 0 (l-n.getD 0 0) l,btP 1 (n.getD 2 0) (n.getD 3 0),btP 2 (n.getD 4 0) (n.getD 5 0)]]:=by simp[wC]
  have HR:Hid (ES=[]++[wC l w t [btP 0 (l-n.getD 0 0) l,btP 1 (n.getD 2 0) (n.getD 3 0),btP 2 (n.getD 4 0) (n.getD 5 0)]]):=Lib.hid (by rw[←HES.out,hk];exact ha)
  clear hE hk ha HES
  rw[h1]at HM hc
  try rw[h1]
  clear h1
  have zb:=Nat.lt_of_lt_of_le zb0 HS.out.below.size
  clear g HE HAT HN C0
  generalize n.getD 0 0=x0 at*
  generalize n.getD 1 0=x1 at*
  generalize n.getD 2 0=x2 at*
  generalize n.getD 3 0=x3 at*
  generalize n.getD 4 0=x4 at*
  generalize n.getD 5 0=x5 at*
  have f1:IntKind.i64.wrap (l-x0)=l-x0:=IntWalk.i64_in _ (by omega)
  go_wp2
  generalize X.alloc (.cells #[.slice none 0 0] 30)=Y at*
  clear j0 j1 j2 j3 j4 jz
  obtain⟨j0,j1,j2,j3,j4,_,jz⟩:=bM (HS.out.at _ (.tail _ (.tail _ HM.out)))
  obtain⟨s0,sf,sz⟩:=HS.out.box
  apply aj [] [0,1,2,3,4,5,6,7,8,9,10,11,12,13,14,15,16,17,18,19,20,21,22,23] 24 [25] [sv _,sv _,sv _,sv _,sv _,sv _,sv _,sv _,⟨PK (0) (btP 0 ((l-x0)) (l)),by first|exact aw _ _|exact ap _|exact ar _ _ _|exact aA _ _ _⟩,sv _,sv _,sv _,sv _,sv _,sv _,⟨PK (0) (btP 1 (x2) (x3)),by first|exact aw _ _|exact ap _|exact ar _ _ _|exact aA _ _ _⟩,sv _,sv _,sv _,sv _,sv _,sv _,⟨PK (0) (btP 2 (x4) (x5)),by first|exact aw _ _|exact ap _|exact ar _ _ _|exact aA _ _ _⟩,⟨aO [(btP 0 ((l-x0)) (l)),(btP 1 (x2) (x3)),(btP 2 (x4) (x5))],by first|exact aw _ _|exact ap _|exact ar _ _ _|exact aA _ _ _⟩] (by kernel_rfl) (by kernel_rfl)
  iterate 8 ((try go_frame);refine wkQ ?_)
  try go_frame
  refine wkU (fun u hR K hK=> ?_) (fun o8=> ?_)
  ·clear hR
   go_simp
   refine(kC _ _ _ (by omega)).mono ?_
   rintro e w9 ⟨r,rfl,hb9,hp9⟩
   exact hK _ _ hb9 (AY hp9 (Nat.zero_le _))
  iterate 6 ((try go_frame);refine wkQ ?_)
  try go_frame
  refine wkU (fun u hR K hK=> ?_) (fun o15=> ?_)
  ·clear hR
   go_simp
   refine(jJ _ _ _ (by omega)).mono ?_
   rintro e w9 ⟨r,rfl,hb9,hp9⟩
   exact hK _ _ hb9 (AY hp9 (Nat.zero_le _))
  iterate 6 ((try go_frame);refine wkQ ?_)
  try go_frame
  refine wkU (fun u hR K hK=> ?_) (fun o22=> ?_)
  ·clear hR
   go_simp
   refine(fM _ _ _ (by omega)).mono ?_
   rintro e w9 ⟨r,rfl,hb9,hp9⟩
   exact hK _ _ hb9 (AY hp9 (Nat.zero_le _))
  try go_frame
  refine wkU (fun u hR K hK=> ?_) (fun o23=> ?_)
  ·have h8:(PK (0) (btP 0 ((l-x0)) (l))) o8 u.val:=hr hR 8
   have h15:(PK (0) (btP 1 (x2) (x3))) o15 u.val:=hr hR 15
   have h22:(PK (0) (btP 2 (x4) (x5))) o22 u.val:=hr hR 22
   clear hR
   obtain⟨a9,c9,a8,c8,a7,c7,rfl,rfl,rfl,hb9,hp9⟩:=yj h8 h15 h22
   go_simp
   exact hK _ _ hb9 hp9
  try go_frame
  refine aI (fun u hR=> ?_)
  have HSu:=Lib.hid (HS.out.grow u.below)
  have hp:aO [btP 0 (l-x0) l,btP 1 x2 x3,btP 2 x4 x5] o23 u.val:=hR 23 (by simp)
  clear hR HS
  try clear s0 sf sz
  clear j0 j1 j2 j3 j4 jz
  try clear zb
  try clear c0
  try clear c1
  try clear c2
  try clear c3
  try clear c4
  try clear c5
  generalize u.val=Y at*
  clear u
  simp only[oas]
  go_wp2_with fail
  refine(bA (n:=1) O1.out (fun _ h=>(by cases h)) (Nat.le_succ _) (by simp) (by simp) HSu.out.last hp).mono ?_
  rintro e Z ⟨ra,rc,rfl,s0,sf,sz,HS⟩
  clear hp HSu
  go_wp2
  refine NoPanic.normal ?_
  have r0:=HS.out.box.1
  clear s0 sf sz
  generalize Z.setCell ⟨W.heap.size+1,0,none⟩ (.slice ra 1 rc)=Z2 at*
  go_wp2
  refine bodyPost_ret (v:= .agg #[.slice ra 1 rc]) (by simp[results,Tryz.results15,go_sem,r0]) rfl ⟨_,rfl,by rw[HR.out];exact HS.out.drop⟩
 ·have hk:aW 3 l w t n 1=ej w t (n.getD 2 0) (n.getD 3 0) (n.getD 4 0) (n.getD 5 0)++[btP 0 0 (l-n.getD 0 0-n.getD 1 0)++btP 1 (n.getD 2 0) (n.getD 3 0)++btP 2 (n.getD 4 0) (n.getD 5 0)]:=by simp[aW]
  have hE:=HE.out
  rw[hk]at hE
  have O1:Hid (OKW l w t [btP 0 0 (l-n.getD 0 0-n.getD 1 0),btP 1 (n.getD 2 0) (n.getD 3 0),btP 2 (n.getD 4 0) (n.getD 5 0)]):=Lib.hid ⟨by simpa using hE _ (List.mem_append_right _ (.head _)),by simp,by simp[aP,btP]⟩
  obtain⟨A,B,C,D,hA⟩:∃A B C D,Hid ((ej w t (n.getD 2 0) (n.getD 3 0) (n.getD 4 0) (n.getD 5 0)).map (fun e=>ch (aP l w t++e))=[A,B,C,D]):=⟨_,_,_,_,Lib.hid rfl⟩
  have hdr:=Ints.drop' (W:=W) 2 (by omega) hc HAT.out
  rw[h1]at hdr
  have HAR:Hid (∀W',Below W.heap.size W W'→Calls Tryz.prog 39 #[vJ 3 l w t (.slice (some ⟨b,off,none⟩) 6 c), .slice (some ⟨b,off+2,none⟩) 4 (c-2)] W' fun e w'=>∃x,e= .returned x∧Below W'.heap.size W' w'∧gd W.heap.size 4 [A,B,C,D] x w'):=Lib.hid (fun W' h=>by
   have h3:=lm 3 l w t (.slice (some ⟨b,off,none⟩) 6 c) _ (n.drop 2) W' (hdr.below h) (by simp;omega) (fun i=>by rw[eI];have:=g.nb (2+i);omega) (by omega) (by simp only[eI];exact fun e he=>hE e (List.mem_append_left _ he))
   simp only[eI]at h3
   exact h3.mono fun e w' h4=>h4.so h.size hA.out rfl)
  have ha:(ej w t (n.getD 2 0) (n.getD 3 0) (n.getD 4 0) (n.getD 5 0)++[btP 0 0 (l-n.getD 0 0-n.getD 1 0)++btP 1 (n.getD 2 0) (n.getD 3 0)++btP 2 (n.getD 4 0) (n.getD 5 0)]).map (fun e=>ch (aP l w t++e))=[A,B,C,D]++[wC l w t [btP 0 0 (l-n.getD 0 0-n.getD 1 0),btP 1 (n.getD 2 0) (n.getD 3 0),btP 2 (n.getD 4 0) (n.getD 5 0)]]:=by
   rw[List.map_append,hA.out]
   simp[wC]
  have HR:=Lib.hid ((HES.out.symm.trans (congrArg (List.map fun e=>ch (aP l w t++e)) hk)).trans ha)
  clear hE hk ha hA hdr HES
  unfold vJ at HAR
  rw[h1]at HM hc
  try rw[h1]
  clear h1
  have zb:=Nat.lt_of_lt_of_le zb0 HS.out.below.size
  clear g HE HAT HN C0
  generalize n.getD 0 0=x0 at*
  generalize n.getD 1 0=x1 at*
  generalize n.getD 2 0=x2 at*
  generalize n.getD 3 0=x3 at*
  generalize n.getD 4 0=x4 at*
  generalize n.getD 5 0=x5 at*
  have f1:IntKind.i64.wrap (l-x0)=l-x0:=IntWalk.i64_in _ (by omega)
  have hc2:c≠2:=by omega
  have f2:IntKind.i64.wrap (l-x0-x1)=l-x0-x1:=IntWalk.i64_in _ (by omega)
  go_wp2
  generalize X.alloc (.cells #[.slice none 0 0] 30)=Y at*
  clear j0 j1 j2 j3 j4 jz
  obtain⟨j0,j1,j2,j3,j4,_,jz⟩:=bM (HS.out.at _ (.tail _ (.tail _ HM.out)))
  obtain⟨s0,sf,sz⟩:=HS.out.box
  apply aj [] [0,1,2,3,4,5,6,7,8,9,10,11,12,13,14,15,16,17,18,19,20,21,22,23,24,25,26,27,28,29] 30 [31] [sv _,sv _,sv _,⟨gd W.heap.size 4 [A,B,C,D],by first|exact aw _ _|exact ap _|exact ar _ _ _|exact aA _ _ _⟩,sv _,sv _,sv _,sv _,sv _,sv _,sv _,sv _,sv _,sv _,⟨PK (0) (btP 0 (0) (l-x0-x1)),by first|exact aw _ _|exact ap _|exact ar _ _ _|exact aA _ _ _⟩,sv _,sv _,sv _,sv _,sv _,sv _,⟨PK (0) (btP 1 (x2) (x3)),by first|exact aw _ _|exact ap _|exact ar _ _ _|exact aA _ _ _⟩,sv _,sv _,sv _,sv _,sv _,sv _,⟨PK (0) (btP 2 (x4) (x5)),by first|exact aw _ _|exact ap _|exact ar _ _ _|exact aA _ _ _⟩,⟨aO [(btP 0 (0) (l-x0-x1)),(btP 1 (x2) (x3)),(btP 2 (x4) (x5))],by first|exact aw _ _|exact ap _|exact ar _ _ _|exact aA _ _ _⟩] (by kernel_rfl) (by kernel_rfl)
  iterate 3 ((try go_frame);refine wkQ ?_)
  try go_frame
  refine wkU (fun u hR K hK=> ?_) (fun o3=> ?_)
  ·clear hR
   go_simp
   refine(HAR.out _ (ae HS.out.below u.below)).mono ?_
   rintro e w9 ⟨x,rfl,hb9,hp9⟩
   exact hK _ _ hb9 hp9
  iterate 10 ((try go_frame);refine wkQ ?_)
  try go_frame
  refine wkU (fun u hR K hK=> ?_) (fun o14=> ?_)
  ·clear hR
   go_simp
   refine(kC _ _ _ (by omega)).mono ?_
   rintro e w9 ⟨r,rfl,hb9,hp9⟩
   exact hK _ _ hb9 (AY hp9 (Nat.zero_le _))
  iterate 6 ((try go_frame);refine wkQ ?_)
  try go_frame
  refine wkU (fun u hR K hK=> ?_) (fun o21=> ?_)
  ·clear hR
   go_simp
   refine(jJ _ _ _ (by omega)).mono ?_
   rintro e w9 ⟨r,rfl,hb9,hp9⟩
   exact hK _ _ hb9 (AY hp9 (Nat.zero_le _))
  iterate 6 ((try go_frame);refine wkQ ?_)
  try go_frame
  refine wkU (fun u hR K hK=> ?_) (fun o28=> ?_)
  ·clear hR
   go_simp
   refine(fM _ _ _ (by omega)).mono ?_
   rintro e w9 ⟨r,rfl,hb9,hp9⟩
   exact hK _ _ hb9 (AY hp9 (Nat.zero_le _))
  try go_frame
  refine wkU (fun u hR K hK=> ?_) (fun o29=> ?_)
  ·have h14:(PK (0) (btP 0 (0) (l-x0-x1))) o14 u.val:=hr hR 14
   have h21:(PK (0) (btP 1 (x2) (x3))) o21 u.val:=hr hR 21
   have h28:(PK (0) (btP 2 (x4) (x5))) o28 u.val:=hr hR 28
   clear hR
   obtain⟨a9,c9,a8,c8,a7,c7,rfl,rfl,rfl,hb9,hp9⟩:=yj h14 h21 h28
   go_simp
   exact hK _ _ hb9 hp9
  try go_frame
  refine aI (fun u hR=> ?_)
  obtain⟨qa,qc,qs,rfl,hqo⟩:gd W.heap.size 4 [A,B,C,D] o3 u.val:=hR 3 (by simp)
  have HSu:=Lib.hid ((HS.out.grow u.below).have ⟨qa,qc,qs,rfl,hqo⟩)
  have hp:aO [btP 0 0 (l-x0-x1),btP 1 x2 x3,btP 2 x4 x5] o29 u.val:=hR 29 (by simp)
  clear hR HS
  try clear s0 sf sz
  clear j0 j1 j2 j3 j4 jz
  try clear zb
  try clear c0
  try clear c1
  try clear c2
  try clear c3
  try clear c4
  try clear c5
  generalize u.val=Y at*
  clear u
  simp only[oas]
  go_wp2_with fail
  refine(bA (n:=5) O1.out (fun _ h=>(by cases h)) (Nat.le_succ _) (by simp) (by simp) HSu.out.last hp).mono ?_
  rintro e Z ⟨ra,rc,rfl,s0,sf,sz,HS⟩
  clear hp HSu
  go_wp2
  refine NoPanic.normal ?_
  have r0:=HS.out.box.1
  clear s0 sf sz
  generalize Z.setCell ⟨W.heap.size+1,0,none⟩ (.slice ra 5 rc)=Z2 at*
  go_wp2
  refine bodyPost_ret (v:= .agg #[.slice ra 5 rc]) (by simp[results,Tryz.results15,go_sem,r0]) rfl ⟨_,rfl,by rw[HR.out];exact HS.out.drop⟩
end
end Go.Proofs.YtokhkhnofkcalaaGreatDoor
