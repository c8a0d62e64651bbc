/- texts: RF0 RF1. -/
import Derived.Test.YtokhkhnofkcalaaGreatDoorKZS25
namespace Go.Proofs.YtokhkhnofkcalaaGreatDoor
set_option maxHeartbeats 8000000
set_option linter.unusedSimpArgs false
set_option linter.unusedVariables false
section
open Go.RowKit Go.Shelf
set_option maxRecDepth 100000
attribute [local go_sem] Ext.cell Ext.frozen
theorem we (l w t:Int) (nv:Value) (n:List Int) (m:Nat) (W:World) (hn:Ints W nv n) (g:Good 0 l w t n) (hm:(m:Int)<cD 0+aV 0 n):
  Calls Tryz.prog 15 #[vJ 0 l w t nv, .int .i64 m] W (SolK W l w t (aW 0 l w t n m)):=by
 obtain⟨hl,hw,ht⟩:=g.sz
 have HE:=Lib.hid (Cells.okE hl hw ht (bS g m hm).2)
 have HCN:=Lib.hid (Ba g.cnt g.kind)
 have hln:=g.len
 have hn1:1≤n.length:=by have:=HCN.out;omega
 have HN:=Lib.hid hn
 obtain⟨b,off,c,rfl,hc,zb0,hat⟩:=hn.at' (by omega)
 have HAT:=Lib.hid hat
 clear hat hn
 obtain⟨L,hs,hm,hlt⟩:=SI.start W #[.int .i64 0, .int .i64 l, .int .i64 w, .int .i64 t, .slice (some ⟨b,off,none⟩) n.length c]
 have HS:=Lib.hid hs
 have HM:=Lib.hid hm
 have HL:=Lib.hid hlt
 have zs:W.heap.size+2≤((W.alloc (.cells #[.int .i64 0, .int .i64 l, .int .i64 w, .int .i64 t, .slice (some ⟨b,off,none⟩) n.length c] 25)).alloc (.cells #[.slice none 0 0] 30)).heap.size:=by simp
 obtain⟨V,HV⟩:∃V,Hid ((W.alloc (.cells #[.int .i64 0, .int .i64 l, .int .i64 w, .int .i64 t, .slice (some ⟨b,off,none⟩) n.length c] 25)).alloc (.cells #[.slice none 0 0] 30)=V):=⟨_,Lib.hid rfl⟩
 rw[HV.out]at HS zs
 clear hs hm hlt
 obtain⟨j0,j1,j2,j3,j4,_,jz⟩:=bM (HS.out.at _ (.tail _ HM.out))
 have HL0:Hid (∀y∈([]:List (Nat×Array Value×TypeId)),y.1<W.heap.size+1):=Lib.hid (fun _ h=>by cases h)
 unfold SolK
 obtain⟨ES,HES⟩:∃ES,Hid ((aW 0 l w t n m).map (fun e=>ch (aP l w t++e))=ES):=⟨_,Lib.hid rfl⟩
 rw[HES.out]
 unfold vJ at*
 go_enter Tryz.func15,Tryz.ntmps15
 go_wp2
 rw[HV.out]
 clear HV
 refine wqf fun u=> ?_
 have HS:=Lib.hid (HS.out.grow u.below)
 have zs:=Nat.le_trans zs u.below.size
 clear j0 j1 j2 j3 j4 jz
 try clear zb
 try clear c0
 try clear c1
 try clear c2
 try clear c3
 try clear c4
 try clear c5
 generalize u.val=X at*
 clear u
 obtain⟨j0,j1,j2,j3,j4,_,jz⟩:=bM (HS.out.at _ (.tail _ HM.out))
 have HSA:=Lib.hid (HS.out.new (g:=X.heap.size) (cs:=#[.slice none 0 0]) (T:=30) rfl (by decide))
 clear HS
 have HS:=HSA
 clear HSA
 have h1:n.length=1:=HCN.out.1 trivial
 have C0:=Lib.hid (HAT.out 0 (by omega))
 have b0:=g.nb 0
 have c0:=ab HS.out.below C0.out
 rw[Nat.add_zero]at c0
 rcases(by have h9:(m:Int)<2:=(by simpa [cD,aV]using hm);omega:m=0∨m=1)with rfl|rfl
 ·have hk:aW 0 l w t n 0=[btP 2 (n.getD 0 0) t]:=by simp[aW]
  have hE:=HE.out
  rw[hk]at hE
  have O1:Hid (OKW l w t [btP 2 (n.getD 0 0) t]):=Lib.hid ⟨by simpa using hE _ (.head _),by simp,by simp[aP,btP]⟩
  have ha: [btP 2 (n.getD 0 0) t].map (fun e=>ch (aP l w t++e))=[]++[wC l w t [btP 2 (n.getD 0 0) t]]:=by simp[wC]
  have HR:Hid (ES=[]++[wC l w t [btP 2 (n.getD 0 0) t]]):=Lib.hid (by rw[←HES.out,hk];exact ha)
  clear hE hk ha HES
  rw[h1]at HM hc
  try rw[h1]
  clear h1
  have zb:=Nat.lt_of_lt_of_le zb0 HS.out.below.size
  clear g HE HAT HN C0
  generalize n.getD 0 0=x0 at*
  go_wp2
  generalize X.alloc (.cells #[.slice none 0 0] 30)=Y at*
  clear j0 j1 j2 j3 j4 jz
  obtain⟨j0,j1,j2,j3,j4,_,jz⟩:=bM (HS.out.at _ (.tail _ (.tail _ HM.out)))
  obtain⟨s0,sf,sz⟩:=HS.out.box
  apply aj [] [0,1,2,3,4,5,6,7] 8 [9] [sv _,sv _,sv _,sv _,sv _,sv _,⟨PK (0) (btP 2 (x0) (t)),by first|exact aw _ _|exact ap _|exact ar _ _ _|exact aA _ _ _⟩,⟨aO [(btP 2 (x0) (t))],by first|exact aw _ _|exact ap _|exact ar _ _ _|exact aA _ _ _⟩] (by kernel_rfl) (by kernel_rfl)
  iterate 6 ((try go_frame);refine wkQ ?_)
  try go_frame
  refine wkU (fun u hR K hK=> ?_) (fun o6=> ?_)
  ·clear hR
   go_simp
   refine(fM _ _ _ (by omega)).mono ?_
   rintro e w9 ⟨r,rfl,hb9,hp9⟩
   exact hK _ _ hb9 (AY hp9 (Nat.zero_le _))
  try go_frame
  refine wkU (fun u hR K hK=> ?_) (fun o7=> ?_)
  ·have h6:(PK (0) (btP 2 (x0) (t))) o6 u.val:=hr hR 6
   clear hR
   obtain⟨a9,c9,rfl,hb9,hp9⟩:=iM h6
   go_simp
   exact hK _ _ hb9 hp9
  try go_frame
  refine aI (fun u hR=> ?_)
  have HSu:=Lib.hid (HS.out.grow u.below)
  have hp:aO [btP 2 x0 t] o7 u.val:=hR 7 (by simp)
  clear hR HS
  try clear s0 sf sz
  clear j0 j1 j2 j3 j4 jz
  try clear zb
  try clear c0
  try clear c1
  try clear c2
  try clear c3
  try clear c4
  try clear c5
  generalize u.val=Y at*
  clear u
  simp only[oas]
  go_wp2_with fail
  refine(bA (n:=1) O1.out (fun _ h=>(by cases h)) (Nat.le_succ _) (by simp) (by simp) HSu.out.last hp).mono ?_
  rintro e Z ⟨ra,rc,rfl,s0,sf,sz,HS⟩
  clear hp HSu
  go_wp2
  refine NoPanic.normal ?_
  have r0:=HS.out.box.1
  clear s0 sf sz
  generalize Z.setCell ⟨W.heap.size+1,0,none⟩ (.slice ra 1 rc)=Z2 at*
  go_wp2
  refine bodyPost_ret (v:= .agg #[.slice ra 1 rc]) (by simp[results,Tryz.results15,go_sem,r0]) rfl ⟨_,rfl,by rw[HR.out];exact HS.out.drop⟩
 ·have hk:aW 0 l w t n 1=[btP 2 0 (n.getD 0 0)]:=by simp[aW]
  have hE:=HE.out
  rw[hk]at hE
  have O1:Hid (OKW l w t [btP 2 0 (n.getD 0 0)]):=Lib.hid ⟨by simpa using hE _ (.head _),by simp,by simp[aP,btP]⟩
  have ha: [btP 2 0 (n.getD 0 0)].map (fun e=>ch (aP l w t++e))=[]++[wC l w t [btP 2 0 (n.getD 0 0)]]:=by simp[wC]
  have HR:Hid (ES=[]++[wC l w t [btP 2 0 (n.getD 0 0)]]):=Lib.hid (by rw[←HES.out,hk];exact ha)
  clear hE hk ha HES
  rw[h1]at HM hc
  try rw[h1]
  clear h1
  have zb:=Nat.lt_of_lt_of_le zb0 HS.out.below.size
  clear g HE HAT HN C0
  generalize n.getD 0 0=x0 at*
  go_wp2
  generalize X.alloc (.cells #[.slice none 0 0] 30)=Y at*
  clear j0 j1 j2 j3 j4 jz
  obtain⟨j0,j1,j2,j3,j4,_,jz⟩:=bM (HS.out.at _ (.tail _ (.tail _ HM.out)))
  obtain⟨s0,sf,sz⟩:=HS.out.box
  apply aj [] [0,1,2,3,4,5,6] 7 [8] [sv _,sv _,sv _,sv _,sv _,⟨PK (0) (btP 2 (0) (x0)),by first|exact aw _ _|exact ap _|exact ar _ _ _|exact aA _ _ _⟩,⟨aO [(btP 2 (0) (x0))],by first|exact aw _ _|exact ap _|exact ar _ _ _|exact aA _ _ _⟩] (by kernel_rfl) (by kernel_rfl)
  iterate 5 ((try go_frame);refine wkQ ?_)
  try go_frame
  refine wkU (fun u hR K hK=> ?_) (fun o5=> ?_)
  ·clear hR
   go_simp
   refine(fM _ _ _ (by omega)).mono ?_
   rintro e w9 ⟨r,rfl,hb9,hp9⟩
   exact hK _ _ hb9 (AY hp9 (Nat.zero_le _))
  try go_frame
  refine wkU (fun u hR K hK=> ?_) (fun o6=> ?_)
  ·have h5:(PK (0) (btP 2 (0) (x0))) o5 u.val:=hr hR 5
   clear hR
   obtain⟨a9,c9,rfl,hb9,hp9⟩:=iM h5
   go_simp
   exact hK _ _ hb9 hp9
  try go_frame
  refine aI (fun u hR=> ?_)
  have HSu:=Lib.hid (HS.out.grow u.below)
  have hp:aO [btP 2 0 x0] o6 u.val:=hR 6 (by simp)
  clear hR HS
  try clear s0 sf sz
  clear j0 j1 j2 j3 j4 jz
  try clear zb
  try clear c0
  try clear c1
  try clear c2
  try clear c3
  try clear c4
  try clear c5
  generalize u.val=Y at*
  clear u
  simp only[oas]
  go_wp2_with fail
  refine(bA (n:=1) O1.out (fun _ h=>(by cases h)) (Nat.le_succ _) (by simp) (by simp) HSu.out.last hp).mono ?_
  rintro e Z ⟨ra,rc,rfl,s0,sf,sz,HS⟩
  clear hp HSu
  go_wp2
  refine NoPanic.normal ?_
  have r0:=HS.out.box.1
  clear s0 sf sz
  generalize Z.setCell ⟨W.heap.size+1,0,none⟩ (.slice ra 1 rc)=Z2 at*
  go_wp2
  refine bodyPost_ret (v:= .agg #[.slice ra 1 rc]) (by simp[results,Tryz.results15,go_sem,r0]) rfl ⟨_,rfl,by rw[HR.out];exact HS.out.drop⟩
theorem wg (l w t:Int) (nv:Value) (n:List Int) (m:Nat) (W:World) (hn:Ints W nv n) (g:Good 1 l w t n) (hm:(m:Int)<cD 1+aV 1 n):
  Calls Tryz.prog 15 #[vJ 1 l w t nv, .int .i64 m] W (SolK W l w t (aW 1 l w t n m)):=by
 obtain⟨hl,hw,ht⟩:=g.sz
 have HE:=Lib.hid (Cells.okE hl hw ht (bS g m hm).2)
 have HCN:=Lib.hid (Ba g.cnt g.kind)
 have hln:=g.len
 have hn1:1≤n.length:=by have:=HCN.out;omega
 have HN:=Lib.hid hn
 obtain⟨b,off,c,rfl,hc,zb0,hat⟩:=hn.at' (by omega)
 have HAT:=Lib.hid hat
 clear hat hn
 obtain⟨L,hs,hm,hlt⟩:=SI.start W #[.int .i64 1, .int .i64 l, .int .i64 w, .int .i64 t, .slice (some ⟨b,off,none⟩) n.length c]
 have HS:=Lib.hid hs
 have HM:=Lib.hid hm
 have HL:=Lib.hid hlt
 have zs:W.heap.size+2≤((W.alloc (.cells #[.int .i64 1, .int .i64 l, .int .i64 w, .int .i64 t, .slice (some ⟨b,off,none⟩) n.length c] 25)).alloc (.cells #[.slice none 0 0] 30)).heap.size:=by simp
 obtain⟨V,HV⟩:∃V,Hid ((W.alloc (.cells #[.int .i64 1, .int .i64 l, .int .i64 w, .int .i64 t, .slice (some ⟨b,off,none⟩) n.length c] 25)).alloc (.cells #[.slice none 0 0] 30)=V):=⟨_,Lib.hid rfl⟩
 rw[HV.out]at HS zs
 clear hs hm hlt
 obtain⟨j0,j1,j2,j3,j4,_,jz⟩:=bM (HS.out.at _ (.tail _ HM.out))
 have HL0:Hid (∀y∈([]:List (Nat×Array Value×TypeId)),y.1<W.heap.size+1):=Lib.hid (fun _ h=>by cases h)
 unfold SolK
 obtain⟨ES,HES⟩:∃ES,Hid ((aW 1 l w t n m).map (fun e=>ch (aP l w t++e))=ES):=⟨_,Lib.hid rfl⟩
 rw[HES.out]
 unfold vJ at*
 go_enter Tryz.func15,Tryz.ntmps15
 go_wp2
 rw[HV.out]
 clear HV
 refine wqf fun u=> ?_
 have HS:=Lib.hid (HS.out.grow u.below)
 have zs:=Nat.le_trans zs u.below.size
 clear j0 j1 j2 j3 j4 jz
 try clear zb
 try clear c0
 try clear c1
 try clear c2
 try clear c3
 try clear c4
 try clear c5
 generalize u.val=X at*
 clear u
 obtain⟨j0,j1,j2,j3,j4,_,jz⟩:=bM (HS.out.at _ (.tail _ HM.out))
 have HSA:=Lib.hid (HS.out.new (g:=X.heap.size) (cs:=#[.slice none 0 0]) (T:=30) rfl (by decide))
 clear HS
 have HS:=HSA
 clear HSA
 have h1:n.length=2:=HCN.out.2.1 trivial
 have C0:=Lib.hid (HAT.out 0 (by omega))
 have b0:=g.nb 0
 have c0:=ab HS.out.below C0.out
 have C1:=Lib.hid (HAT.out 1 (by omega))
 have b1:=g.nb 1
 have c1:=ab HS.out.below C1.out
 rw[Nat.add_zero]at c0
 rcases(by have h9:(m:Int)<2:=(by simpa [cD,aV]using hm);omega:m=0∨m=1)with rfl|rfl
 ·have hk:aW 1 l w t n 0=[btP 2 0 (n.getD 0 0),btP 2 (n.getD 1 0) t]:=by simp[aW]
  have hE:=HE.out
  rw[hk]at hE
  have O1:Hid (OKW l w t [btP 2 0 (n.getD 0 0)]):=Lib.hid ⟨by simpa using hE _ (.head _),by simp,by simp[aP,btP]⟩
  have O2:Hid (OKW l w t [btP 2 (n.getD 1 0) t]):=Lib.hid ⟨by simpa using hE _ (.tail _ (.head _)),by simp,by simp[aP,btP]⟩
  have ha: [btP 2 0 (n.getD 0 0),btP 2 (n.getD 1 0) t].map (fun e=>ch (aP l w t++e))=[wC l w t [btP 2 0 (n.getD 0 0)]]++[wC l w t [btP 2 (n.getD 1 0) t]]:=by simp[wC]
  have HR:=Lib.hid ((HES.out.symm.trans (congrArg (List.map fun e=>ch (aP l w t++e)) hk)).trans ha)
  clear hE hk ha HES
  rw[h1]at HM hc
  try rw[h1]
  clear h1
  have zb:=Nat.lt_of_lt_of_le zb0 HS.out.below.size
  clear g HE HAT HN C0
  generalize n.getD 0 0=x0 at*
  generalize n.getD 1 0=x1 at*
  go_wp2
  generalize X.alloc (.cells #[.slice none 0 0] 30)=Y at*
  clear j0 j1 j2 j3 j4 jz
  obtain⟨j0,j1,j2,j3,j4,_,jz⟩:=bM (HS.out.at _ (.tail _ (.tail _ HM.out)))
  obtain⟨s0,sf,sz⟩:=HS.out.box
  apply aj [] [0,1,2,3,4,5,6,7,8,9,10,11,12,13,14] 15 [16] [sv _,sv _,sv _,sv _,sv _,⟨PK (0) (btP 2 (0) (x0)),by first|exact aw _ _|exact ap _|exact ar _ _ _|exact aA _ _ _⟩,⟨aO [(btP 2 (0) (x0))],by first|exact aw _ _|exact ap _|exact ar _ _ _|exact aA _ _ _⟩,⟨gd (W.heap.size) 1 [wC l w t [btP 2 0 x0]],by first|exact aw _ _|exact ap _|exact ar _ _ _|exact aA _ _ _⟩,sv _,sv _,sv _,sv _,sv _,⟨PK (0) (btP 2 (x1) (t)),by first|exact aw _ _|exact ap _|exact ar _ _ _|exact aA _ _ _⟩,⟨aO [(btP 2 (x1) (t))],by first|exact aw _ _|exact ap _|exact ar _ _ _|exact aA _ _ _⟩] (by kernel_rfl) (by kernel_rfl)
  iterate 5 ((try go_frame);refine wkQ ?_)
  try go_frame
  refine wkU (fun u hR K hK=> ?_) (fun o5=> ?_)
  ·clear hR
   go_simp
   refine(fM _ _ _ (by omega)).mono ?_
   rintro e w9 ⟨r,rfl,hb9,hp9⟩
   exact hK _ _ hb9 (AY hp9 (Nat.zero_le _))
  try go_frame
  refine wkU (fun u hR K hK=> ?_) (fun o6=> ?_)
  ·have h5:(PK (0) (btP 2 (0) (x0))) o5 u.val:=hr hR 5
   clear hR
   obtain⟨a9,c9,rfl,hb9,hp9⟩:=iM h5
   go_simp
   exact hK _ _ hb9 hp9
  try go_frame
  refine wkU (fun u hR K hK=> ?_) (fun o7=> ?_)
  ·have h6:aO [(btP 2 (0) (x0))] o6 u.val:=hr hR 6
   clear hR
   go_simp
   refine(fL (B:=W.heap.size) O1.out (by have:=u.size;omega) h6).mono ?_
   rintro e w9 ⟨r,rfl,hb9,hp9⟩
   exact hK _ _ hb9 hp9
  iterate 5 ((try go_frame);refine wkQ ?_)
  try go_frame
  refine wkU (fun u hR K hK=> ?_) (fun o13=> ?_)
  ·clear hR
   go_simp
   refine(fM _ _ _ (by omega)).mono ?_
   rintro e w9 ⟨r,rfl,hb9,hp9⟩
   exact hK _ _ hb9 (AY hp9 (Nat.zero_le _))
  try go_frame
  refine wkU (fun u hR K hK=> ?_) (fun o14=> ?_)
  ·have h13:(PK (0) (btP 2 (x1) (t))) o13 u.val:=hr hR 13
   clear hR
   obtain⟨a9,c9,rfl,hb9,hp9⟩:=iM h13
   go_simp
   exact hK _ _ hb9 hp9
  try go_frame
  refine aI (fun u hR=> ?_)
  obtain⟨qa,qc,qs,rfl,hqo⟩:gd W.heap.size 1 [wC l w t [btP 2 0 x0]] o7 u.val:=hR 7 (by simp)
  have HSu:=Lib.hid ((HS.out.grow u.below).have ⟨qa,qc,qs,rfl,hqo⟩)
  have hp:aO [btP 2 x1 t] o14 u.val:=hR 14 (by simp)
  clear hR HS
  try clear s0 sf sz
  clear j0 j1 j2 j3 j4 jz
  try clear zb
  try clear c0
  try clear c1
  try clear c2
  try clear c3
  try clear c4
  try clear c5
  generalize u.val=Y at*
  clear u
  simp only[oas]
  go_wp2_with fail
  refine(bA (n:=2) O2.out (fun _ h=>(by cases h)) (Nat.le_succ _) (by simp) (by simp) HSu.out.last hp).mono ?_
  rintro e Z ⟨ra,rc,rfl,s0,sf,sz,HS⟩
  clear hp HSu
  go_wp2
  refine NoPanic.normal ?_
  have r0:=HS.out.box.1
  clear s0 sf sz
  generalize Z.setCell ⟨W.heap.size+1,0,none⟩ (.slice ra 2 rc)=Z2 at*
  go_wp2
  refine bodyPost_ret (v:= .agg #[.slice ra 2 rc]) (by simp[results,Tryz.results15,go_sem,r0]) rfl ⟨_,rfl,by rw[HR.out];exact HS.out.drop⟩
 ·have hk:aW 1 l w t n 1=[btP 2 (n.getD 0 0) (n.getD 1 0)]:=by simp[aW]
  have hE:=HE.out
  rw[hk]at hE
  have O1:Hid (OKW l w t [btP 2 (n.getD 0 0) (n.getD 1 0)]):=Lib.hid ⟨by simpa using hE _ (.head _),by simp,by simp[aP,btP]⟩
  have ha: [btP 2 (n.getD 0 0) (n.getD 1 0)].map (fun e=>ch (aP l w t++e))=[]++[wC l w t [btP 2 (n.getD 0 0) (n.getD 1 0)]]:=by simp[wC]
  have HR:Hid (ES=[]++[wC l w t [btP 2 (n.getD 0 0) (n.getD 1 0)]]):=Lib.hid (by rw[←HES.out,hk];exact ha)
  clear hE hk ha HES
  rw[h1]at HM hc
  try rw[h1]
  clear h1
  have zb:=Nat.lt_of_lt_of_le zb0 HS.out.below.size
  clear g HE HAT HN C0
  generalize n.getD 0 0=x0 at*
  generalize n.getD 1 0=x1 at*
  go_wp2
  generalize X.alloc (.cells #[.slice none 0 0] 30)=Y at*
  clear j0 j1 j2 j3 j4 jz
  obtain⟨j0,j1,j2,j3,j4,_,jz⟩:=bM (HS.out.at _ (.tail _ (.tail _ HM.out)))
  obtain⟨s0,sf,sz⟩:=HS.out.box
  apply aj [] [0,1,2,3,4,5,6,7,8,9] 10 [11] [sv _,sv _,sv _,sv _,sv _,sv _,sv _,sv _,⟨PK (0) (btP 2 (x0) (x1)),by first|exact aw _ _|exact ap _|exact ar _ _ _|exact aA _ _ _⟩,⟨aO [(btP 2 (x0) (x1))],by first|exact aw _ _|exact ap _|exact ar _ _ _|exact aA _ _ _⟩] (by kernel_rfl) (by kernel_rfl)
  iterate 8 ((try go_frame);refine wkQ ?_)
  try go_frame
  refine wkU (fun u hR K hK=> ?_) (fun o8=> ?_)
  ·clear hR
   go_simp
   refine(fM _ _ _ (by omega)).mono ?_
   rintro e w9 ⟨r,rfl,hb9,hp9⟩
   exact hK _ _ hb9 (AY hp9 (Nat.zero_le _))
  try go_frame
  refine wkU (fun u hR K hK=> ?_) (fun o9=> ?_)
  ·have h8:(PK (0) (btP 2 (x0) (x1))) o8 u.val:=hr hR 8
   clear hR
   obtain⟨a9,c9,rfl,hb9,hp9⟩:=iM h8
   go_simp
   exact hK _ _ hb9 hp9
  try go_frame
  refine aI (fun u hR=> ?_)
  have HSu:=Lib.hid (HS.out.grow u.below)
  have hp:aO [btP 2 x0 x1] o9 u.val:=hR 9 (by simp)
  clear hR HS
  try clear s0 sf sz
  clear j0 j1 j2 j3 j4 jz
  try clear zb
  try clear c0
  try clear c1
  try clear c2
  try clear c3
  try clear c4
  try clear c5
  generalize u.val=Y at*
  clear u
  simp only[oas]
  go_wp2_with fail
  refine(bA (n:=1) O1.out (fun _ h=>(by cases h)) (Nat.le_succ _) (by simp) (by simp) HSu.out.last hp).mono ?_
  rintro e Z ⟨ra,rc,rfl,s0,sf,sz,HS⟩
  clear hp HSu
  go_wp2
  refine NoPanic.normal ?_
  have r0:=HS.out.box.1
  clear s0 sf sz
  generalize Z.setCell ⟨W.heap.size+1,0,none⟩ (.slice ra 1 rc)=Z2 at*
  go_wp2
  refine bodyPost_ret (v:= .agg #[.slice ra 1 rc]) (by simp[results,Tryz.results15,go_sem,r0]) rfl ⟨_,rfl,by rw[HR.out];exact HS.out.drop⟩
end
end Go.Proofs.YtokhkhnofkcalaaGreatDoor
