/- texts: RF4. -/
import Derived.Test.YtokhkhnofkcalaaGreatDoorKZS25
namespace Go.Proofs.YtokhkhnofkcalaaGreatDoor
set_option maxHeartbeats 8000000
set_option linter.unusedSimpArgs false
set_option linter.unusedVariables false
section
open Go.RowKit Go.Shelf
set_option maxRecDepth 100000
attribute [local go_sem] Ext.cell Ext.frozen
theorem zsQ {P:Program} {ops:Array Oper} {S:World→Prop} {R:Nat→Value→World→Prop} {i:Nat} {l:List Nat} {a:Act} {o:Oper} {v:Value} {d:Nat} (h3:pZ P ops S R l (a.put (some d) v)) (ho:ops[i]? =some o:=by rfl) (hd:o.dst=some d:=by rfl) (hg:o.guard=none:=by rfl) (h1:∀w,S w→(execOp a.eval o).run P w= .ok (.value v) w) (h2:R i=IsV v:=by rfl):pZ P ops S R (i::l) a:=du ho hg ⟨v,h1,h2,hd▸h3⟩
theorem wu (l w t:Int) (nv:Value) (n:List Int) (m:Nat) (W:World) (hn:Ints W nv n) (g:Good 4 l w t n) (hm:(m:Int)<cD 4+aV 4 n):
  Calls Tryz.prog 15 #[vJ 4 l w t nv, .int .i64 m] W (SolK W l w t (aW 4 l w t n m)):=by
 obtain⟨hl,hw,ht⟩:=g.sz
 have HE:=Lib.hid (Cells.okE hl hw ht (bS g m hm).2)
 have HCN:=Lib.hid (Ba g.cnt g.kind)
 have hln:=g.len
 have hn1:1≤n.length:=by have:=HCN.out;omega
 have HN:=Lib.hid hn
 obtain⟨b,off,c,rfl,hc,zb0,hat⟩:=hn.at' (by omega)
 have HAT:=Lib.hid hat
 clear hat hn
 obtain⟨L,hs,hm,hlt⟩:=SI.start W #[.int .i64 4, .int .i64 l, .int .i64 w, .int .i64 t, .slice (some ⟨b,off,none⟩) n.length c]
 have HS:=Lib.hid hs
 have HM:=Lib.hid hm
 have HL:=Lib.hid hlt
 have zs:W.heap.size+2≤((W.alloc (.cells #[.int .i64 4, .int .i64 l, .int .i64 w, .int .i64 t, .slice (some ⟨b,off,none⟩) n.length c] 25)).alloc (.cells #[.slice none 0 0] 30)).heap.size:=by simp
 obtain⟨V,HV⟩:∃V,Hid ((W.alloc (.cells #[.int .i64 4, .int .i64 l, .int .i64 w, .int .i64 t, .slice (some ⟨b,off,none⟩) n.length c] 25)).alloc (.cells #[.slice none 0 0] 30)=V):=⟨_,Lib.hid rfl⟩
 rw[HV.out]at HS zs
 clear hs hm hlt
 obtain⟨j0,j1,j2,j3,j4,_,jz⟩:=bM (HS.out.at _ (.tail _ HM.out))
 have HL0:Hid (∀y∈([]:List (Nat×Array Value×TypeId)),y.1<W.heap.size+1):=Lib.hid (fun _ h=>by cases h)
 unfold SolK
 obtain⟨ES,HES⟩:∃ES,Hid ((aW 4 l w t n m).map (fun e=>ch (aP l w t++e))=ES):=⟨_,Lib.hid rfl⟩
 rw[HES.out]
 unfold vJ at*
 go_enter Tryz.func15,Tryz.ntmps15
 go_wp2
 rw[HV.out]
 clear HV
 refine wqf fun u=> ?_
 have HS:=Lib.hid (HS.out.grow u.below)
 have zs:=Nat.le_trans zs u.below.size
 clear j0 j1 j2 j3 j4 jz
 try clear zb
 try clear c0
 try clear c1
 try clear c2
 try clear c3
 try clear c4
 try clear c5
 generalize u.val=X at*
 clear u
 obtain⟨j0,j1,j2,j3,j4,_,jz⟩:=bM (HS.out.at _ (.tail _ HM.out))
 have HSA:=Lib.hid (HS.out.new (g:=X.heap.size) (cs:=#[.slice none 0 0]) (T:=30) rfl (by decide))
 clear HS
 have HS:=HSA
 clear HSA
 have h1:n.length=4:=HCN.out.2.2.2.2.1 trivial
 have C0:=Lib.hid (HAT.out 0 (by omega))
 have b0:=g.nb 0
 have c0:=ab HS.out.below C0.out
 have C1:=Lib.hid (HAT.out 1 (by omega))
 have b1:=g.nb 1
 have c1:=ab HS.out.below C1.out
 have C2:=Lib.hid (HAT.out 2 (by omega))
 have b2:=g.nb 2
 have c2:=ab HS.out.below C2.out
 have C3:=Lib.hid (HAT.out 3 (by omega))
 have b3:=g.nb 3
 have c3:=ab HS.out.below C3.out
 rw[Nat.add_zero]at c0
 rcases(by have h9:(m:Int)<2:=(by simpa [cD,aV]using hm);omega:m=0∨m=1)with rfl|rfl
 ·have hk:aW 4 l w t n 0=[btP 0 (l-n.getD 0 0) l++btP 2 (n.getD 2 0) (n.getD 3 0)]:=by simp[aW]
  have hE:=HE.out
  rw[hk]at hE
  have O1:Hid (OKW l w t [btP 0 (l-n.getD 0 0) l,btP 2 (n.getD 2 0) (n.getD 3 0)]):=Lib.hid ⟨by simpa using hE _ (.head _),by simp,by simp[aP,btP]⟩
  have ha: [btP 0 (l-n.getD 0 0) l++btP 2 (n.getD 2 0) (n.getD 3 0)].map (fun e=>ch (aP l w t++e))=[]++[wC l w t [btP 0 (l-n.getD 0 0) l,btP 2 (n.getD 2 0) (n.getD 3 0)]]:=by simp[wC]
  have HR:Hid (ES=[]++[wC l w t [btP 0 (l-n.getD 0 0) l,btP 2 (n.getD 2 0) (n.getD 3 0)]]):=Lib.hid (by rw[←HES.out,hk];exact ha)
  clear hE hk ha HES
  rw[h1]at HM hc
  try rw[h1]
  clear h1
  have zb:=Nat.lt_of_lt_of_le zb0 HS.out.below.size
  clear g HE HAT HN C0
  generalize n.getD 0 0=x0 at*
  generalize n.getD 1 0=x1 at*
  generalize n.getD 2 0=x2 at*
  generalize n.getD 3 0=x3 at*
  have f1:IntKind.i64.wrap (l-x0)=l-x0:=IntWalk.i64_in _ (by omega)
  go_wp2
  generalize X.alloc (.cells #[.slice none 0 0] 30)=Y at*
  clear j0 j1 j2 j3 j4 jz
  obtain⟨j0,j1,j2,j3,j4,_,jz⟩:=bM (HS.out.at _ (.tail _ (.tail _ HM.out)))
  obtain⟨s0,sf,sz⟩:=HS.out.box
  apply aj [] [0,1,2,3,4,5,6,7,8,9,10,11,12,13,14,15,16] 17 [18] [sv _,sv _,sv _,sv _,sv _,sv _,sv _,sv _,⟨PK (0) (btP 0 ((l-x0)) (l)),by first|exact aw _ _|exact ap _|exact ar _ _ _|exact aA _ _ _⟩,sv _,sv _,sv _,sv _,sv _,sv _,⟨PK (0) (btP 2 (x2) (x3)),by first|exact aw _ _|exact ap _|exact ar _ _ _|exact aA _ _ _⟩,⟨aO [(btP 0 ((l-x0)) (l)),(btP 2 (x2) (x3))],by first|exact aw _ _|exact ap _|exact ar _ _ _|exact aA _ _ _⟩] (by kernel_rfl) (by kernel_rfl)
  iterate 8 ((try go_frame);refine wkQ ?_)
  try go_frame
  refine wkU (fun u hR K hK=> ?_) (fun o8=> ?_)
  ·clear hR
   go_simp
   refine(kC _ _ _ (by omega)).mono ?_
   rintro e w9 ⟨r,rfl,hb9,hp9⟩
   exact hK _ _ hb9 (AY hp9 (Nat.zero_le _))
  iterate 6 ((try go_frame);refine wkQ ?_)
  try go_frame
  refine wkU (fun u hR K hK=> ?_) (fun o15=> ?_)
  ·clear hR
   go_simp
   refine(fM _ _ _ (by omega)).mono ?_
   rintro e w9 ⟨r,rfl,hb9,hp9⟩
   exact hK _ _ hb9 (AY hp9 (Nat.zero_le _))
  try go_frame
  refine wkU (fun u hR K hK=> ?_) (fun o16=> ?_)
  ·have h8:(PK (0) (btP 0 ((l-x0)) (l))) o8 u.val:=hr hR 8
   have h15:(PK (0) (btP 2 (x2) (x3))) o15 u.val:=hr hR 15
   clear hR
   obtain⟨a9,c9,a8,c8,rfl,rfl,hb9,hp9⟩:=fN h8 h15
   go_simp
   exact hK _ _ hb9 hp9
  try go_frame
  refine aI (fun u hR=> ?_)
  have HSu:=Lib.hid (HS.out.grow u.below)
  have hp:aO [btP 0 (l-x0) l,btP 2 x2 x3] o16 u.val:=hR 16 (by simp)
  clear hR HS
  try clear s0 sf sz
  clear j0 j1 j2 j3 j4 jz
  try clear zb
  try clear c0
  try clear c1
  try clear c2
  try clear c3
  try clear c4
  try clear c5
  generalize u.val=Y at*
  clear u
  simp only[oas]
  go_wp2_with fail
  refine(bA (n:=1) O1.out (fun _ h=>(by cases h)) (Nat.le_succ _) (by simp) (by simp) HSu.out.last hp).mono ?_
  rintro e Z ⟨ra,rc,rfl,s0,sf,sz,HS⟩
  clear hp HSu
  go_wp2
  refine NoPanic.normal ?_
  have r0:=HS.out.box.1
  clear s0 sf sz
  generalize Z.setCell ⟨W.heap.size+1,0,none⟩ (.slice ra 1 rc)=Z2 at*
  go_wp2
  refine bodyPost_ret (v:= .agg #[.slice ra 1 rc]) (by simp[results,Tryz.results15,go_sem,r0]) rfl ⟨_,rfl,by rw[HR.out];exact HS.out.drop⟩
 ·have hk:aW 4 l w t n 1=[btP 2 0 (n.getD 2 0),btP 2 (n.getD 3 0) t,btP 0 0 (l-n.getD 0 0-n.getD 1 0)++btP 2 (n.getD 2 0) (n.getD 3 0)]:=by simp[aW]
  have hE:=HE.out
  rw[hk]at hE
  have O1:Hid (OKW l w t [btP 2 0 (n.getD 2 0)]):=Lib.hid ⟨by simpa using hE _ (.head _),by simp,by simp[aP,btP]⟩
  have O2:Hid (OKW l w t [btP 2 (n.getD 3 0) t]):=Lib.hid ⟨by simpa using hE _ (.tail _ (.head _)),by simp,by simp[aP,btP]⟩
  have O3:Hid (OKW l w t [btP 0 0 (l-n.getD 0 0-n.getD 1 0),btP 2 (n.getD 2 0) (n.getD 3 0)]):=Lib.hid ⟨by simpa using hE _ (.tail _ (.tail _ (.head _))),by simp,by simp[aP,btP]⟩
  have ha: [btP 2 0 (n.getD 2 0),btP 2 (n.getD 3 0) t,btP 0 0 (l-n.getD 0 0-n.getD 1 0)++btP 2 (n.getD 2 0) (n.getD 3 0)].map (fun e=>ch (aP l w t++e))=[wC l w t [btP 2 0 (n.getD 2 0)]]++[wC l w t [btP 2 (n.getD 3 0) t]]++[wC l w t [btP 0 0 (l-n.getD 0 0-n.getD 1 0),btP 2 (n.getD 2 0) (n.getD 3 0)]]:=by simp[wC]
  have HR:=Lib.hid ((HES.out.symm.trans (congrArg (List.map fun e=>ch (aP l w t++e)) hk)).trans ha)
  clear hE hk ha HES
  have D0:Hid (W.cell? ⟨b,off,none⟩=some (.int .i64 (n.getD 0 0))):=Lib.hid (by simpa using C0.out)
  rw[h1]at HM hc
  try rw[h1]
  clear h1
  have zb:=Nat.lt_of_lt_of_le zb0 HS.out.below.size
  clear g HE HAT HN C0
  generalize n.getD 0 0=x0 at*
  generalize n.getD 1 0=x1 at*
  generalize n.getD 2 0=x2 at*
  generalize n.getD 3 0=x3 at*
  have f1:IntKind.i64.wrap (l-x0)=l-x0:=IntWalk.i64_in _ (by omega)
  have f2:IntKind.i64.wrap (l-x0-x1)=l-x0-x1:=IntWalk.i64_in _ (by omega)
  go_wp2
  generalize X.alloc (.cells #[.slice none 0 0] 30)=Y at*
  clear j0 j1 j2 j3 j4 jz
  obtain⟨j0,j1,j2,j3,j4,_,jz⟩:=bM (HS.out.at _ (.tail _ (.tail _ HM.out)))
  obtain⟨s0,sf,sz⟩:=HS.out.box
  apply bW [16,17,18,19,20,21,22,23,24,25,27,28,29,30,31,32] [0,1,2,3,4,5,6,7,8,9,10,11,12,13,14,16,17,18,19,20,21,22,23,24,25,27,28,29,30,31,32] 15 [26,33,34] 35 [36] [sv _,sv _,sv _,sv _,sv _,⟨PK (0) (btP 2 (0) (x2)),by first|exact aw _ _|exact ap _|exact ar _ _ _|exact aA _ _ _⟩,⟨aO [(btP 2 (0) (x2))],by first|exact aw _ _|exact ap _|exact ar _ _ _|exact aA _ _ _⟩,⟨gd (W.heap.size) 1 [wC l w t [btP 2 0 x2]],by first|exact aw _ _|exact ap _|exact ar _ _ _|exact aA _ _ _⟩,sv _,sv _,sv _,sv _,sv _,⟨PK (0) (btP 2 (x3) (t)),by first|exact aw _ _|exact ap _|exact ar _ _ _|exact aA _ _ _⟩,⟨aO [(btP 2 (x3) (t))],by first|exact aw _ _|exact ap _|exact ar _ _ _|exact aA _ _ _⟩,sv undef,sv _,sv _,sv _,sv _,sv _,sv _,sv _,sv _,sv _,sv _,sv undef,sv _,sv _,sv _,sv _,sv _,sv _] (fun w'=>∃css sv,SI W W.heap.size [(W.heap.size,#[.int .i64 4, .int .i64 l, .int .i64 w, .int .i64 t, .slice (some ⟨b,off,none⟩) 4 c],25)] [] css sv w') (by kernel_rfl) (by kernel_rfl) (by kernel_rfl) (fun u=>⟨_,_,(HS.out.grow u.below).sub (fun z hz=>by obtain rfl:z=_:=(by simpa using hz);exact .tail _ (.tail _ HM.out)) (fun _ h=>h)⟩)
  ·(try go_frame)
   iterate 16 ((try go_frame);refine zsQ ?_ (h1:=fun w9 h9=>by(obtain⟨_,_,h8⟩:=h9;obtain⟨k0,k1,k2,k3,k4,_,kz⟩:=bM (h8.at _ (.head _));have d0:=ab h8.below D0.out;have d1:=ab h8.below C1.out;have d2:=ab h8.below C2.out;have d3:=ab h8.below C3.out;have dz:=Nat.lt_of_lt_of_le zb0 h8.below.size;go_simp;first|rfl|(simp only[h9];rfl))))
   exact gR
  iterate 5 ((try go_frame);refine wkQ ?_)
  try go_frame
  refine wkU (fun u hR K hK=> ?_) (fun o5=> ?_)
  ·clear hR
   go_simp
   refine(fM _ _ _ (by omega)).mono ?_
   rintro e w9 ⟨r,rfl,hb9,hp9⟩
   exact hK _ _ hb9 (AY hp9 (Nat.zero_le _))
  try go_frame
  refine wkU (fun u hR K hK=> ?_) (fun o6=> ?_)
  ·have h5:(PK (0) (btP 2 (0) (x2))) o5 u.val:=hr hR 5
   clear hR
   obtain⟨a9,c9,rfl,hb9,hp9⟩:=iM h5
   go_simp
   exact hK _ _ hb9 hp9
  try go_frame
  refine wkU (fun u hR K hK=> ?_) (fun o7=> ?_)
  ·have h6:aO [(btP 2 (0) (x2))] o6 u.val:=hr hR 6
   clear hR
   go_simp
   refine(fL (B:=W.heap.size) O1.out (by have:=u.size;omega) h6).mono ?_
   rintro e w9 ⟨r,rfl,hb9,hp9⟩
   exact hK _ _ hb9 hp9
  iterate 5 ((try go_frame);refine wkQ ?_)
  try go_frame
  refine wkU (fun u hR K hK=> ?_) (fun o13=> ?_)
  ·clear hR
   go_simp
   refine(fM _ _ _ (by omega)).mono ?_
   rintro e w9 ⟨r,rfl,hb9,hp9⟩
   exact hK _ _ hb9 (AY hp9 (Nat.zero_le _))
  try go_frame
  refine wkU (fun u hR K hK=> ?_) (fun o14=> ?_)
  ·have h13:(PK (0) (btP 2 (x3) (t))) o13 u.val:=hr hR 13
   clear hR
   obtain⟨a9,c9,rfl,hb9,hp9⟩:=iM h13
   go_simp
   exact hK _ _ hb9 hp9
  iterate 16 ((try go_frame);refine wkQ ?_)
  try go_frame
  refine aI (fun u hR=> ?_)
  obtain⟨qa,qc,qs,rfl,hqo⟩:gd W.heap.size 1 [wC l w t [btP 2 0 x2]] o7 u.val:=hR 7 (by simp)
  have HSu:=Lib.hid ((HS.out.grow u.below).have ⟨qa,qc,qs,rfl,hqo⟩)
  have hp:aO [btP 2 x3 t] o14 u.val:=hR 14 (by simp)
  clear hR HS s0 sf sz c1 c2 c3
  clear j0 j1 j2 j3 j4 jz
  try clear zb
  try clear c0
  try clear c1
  try clear c2
  try clear c3
  try clear c4
  try clear c5
  generalize u.val=Y at*
  clear u
  simp only[oas]
  go_wp2_with fail
  refine(sD (n:=2) O2.out (by simp) (by simp) HSu.out hp).mono ?_
  rintro e Z ⟨ra,rc,rfl,hz⟩
  have HS:=Lib.hid hz
  clear hz hp HSu hqo
  go_wp2_with fail
  refine⟨⟨_,_,HS.out.sub (fun z hz=>by obtain rfl:z=_:=(by simpa using hz);exact .tail _ (.tail _ HM.out)) (fun _ h=>h)⟩, ?_⟩
  try simp only[oas]
  go_wp2_with fail
  refine(kC 0 (l-x0-x1) _ (by omega)).mono ?_
  rintro e Z1 ⟨p1,rfl,hb1,hp1⟩
  have HS1:=Lib.hid (HS.out.grow hb1)
  clear HS
  go_wp2_with fail
  refine⟨⟨_,_,HS1.out.sub (fun z hz=>by obtain rfl:z=_:=(by simpa using hz);exact .tail _ (.tail _ HM.out)) (fun _ h=>h)⟩, ?_⟩
  try simp only[oas]
  go_wp2_with fail
  refine(fM x2 x3 _ (by omega)).mono ?_
  rintro e Z2 ⟨p2,rfl,hb2,hp2⟩
  have HS2:=Lib.hid (HS1.out.grow hb2)
  have hq1:=au hp1 hb2
  clear HS1 hp1 hb1 hb2
  go_wp2_with fail
  refine⟨⟨_,_,HS2.out.sub (fun z hz=>by obtain rfl:z=_:=(by simpa using hz);exact .tail _ (.tail _ HM.out)) (fun _ h=>h)⟩, ?_⟩
  try simp only[oas]
  obtain⟨a9,c9,a8,c8,rfl,rfl,hb9,hp⟩:=fN hq1 hp2
  have HSu:=Lib.hid (HS2.out.grow hb9)
  clear HS2 hq1 hp2 hb9
  go_wp2_with fail
  refine⟨⟨_,_,HSu.out.sub (fun z hz=>by obtain rfl:z=_:=(by simpa using hz);exact .tail _ (.tail _ HM.out)) (fun _ h=>h)⟩, ?_⟩
  try simp only[oas]
  go_wp2_with fail
  refine(bA (n:=3) O3.out (fun _ h=>(by cases h)) (Nat.le_succ _) (by simp) (by simp) HSu.out.last hp).mono ?_
  rintro e Z ⟨ra,rc,rfl,s0,sf,sz,HS⟩
  clear hp HSu
  go_wp2
  refine NoPanic.normal ?_
  have r0:=HS.out.box.1
  clear s0 sf sz
  generalize Z.setCell ⟨W.heap.size+1,0,none⟩ (.slice ra 3 rc)=Z2 at*
  go_wp2
  refine bodyPost_ret (v:= .agg #[.slice ra 3 rc]) (by simp[results,Tryz.results15,go_sem,r0]) rfl ⟨_,rfl,by rw[HR.out];exact HS.out.drop⟩
end
end Go.Proofs.YtokhkhnofkcalaaGreatDoor
