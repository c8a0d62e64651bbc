/- texts: RK. -/
import Derived.Test.YtokhkhnofkcalaaGreatDoorKZS25
import Derived.Deep.DeepCutAuto
namespace Go.Proofs.YtokhkhnofkcalaaGreatDoor
set_option maxHeartbeats 8000000
set_option linter.unusedSimpArgs false
set_option linter.unusedVariables false
section
open Go.RowKit Go.Shelf
set_option maxRecDepth 100000
attribute [local go_sem] Ext.cell Ext.frozen
theorem wv (l w t:Int) (nv:Value) (n:List Int) (m:Nat) (W:World) (hn:Ints W nv n) (g:Good 5 l w t n) (hm:m=0):
  Calls Tryz.prog 41 #[vJ 5 l w t nv, .int .i64 m] W (SolK W l w t (aW 5 l w t n m)):=by
 obtain⟨hl,hw,ht⟩:=g.sz
 have hln:=g.len
 have hn3:3≤n.length:=by have:=(Ba g.cnt g.kind);omega
 have hr':bF l w n=true:=by simpa [cU]using g.right
 obtain⟨_,hs,h9⟩:=iu hr' hn3 hl.1
 clear h9
 have hnb:=fun i=>g.nb i
 have b0:=hnb 0
 have b1:=hnb 1
 have hE:=Cells.okE hl hw ht (bS g m (by subst hm;simp[cD,aV])).2
 have hk:aW 5 l w t n m=dB l n (n.length-2):=by simp[aW,hm]
 rw[hk]at hE ⊢
 obtain⟨acc,hacc⟩:∃acc:Nat→List (List Q4),acc=fun i=>(dB l n i).map (fun e=>ch (aP l w t++e)):=⟨_,rfl⟩
 have hE2:∀i,i<n.length-2→∀p∈aP l w t++[el l (n.getD 0 0) (n.getD (2+i) 0),em l (n.getD 0 0) (n.getD 1 0) (n.getD (2+i) 0)],cI p:=fun i hi=>hE _ (List.mem_map.2 ⟨i,List.mem_range.2 hi,rfl⟩)
 have HO:Hid (∀i,i<n.length-2→OKW l w t [[el l (n.getD 0 0) (n.getD (2+i) 0),em l (n.getD 0 0) (n.getD 1 0) (n.getD (2+i) 0)]]):=Lib.hid (fun i hi=>⟨by simpa using hE2 i hi,by simp,by simp[aP]⟩)
 have Hs:Hid (∀i,acc (i+1)=acc i++[wC l w t [[el l (n.getD 0 0) (n.getD (2+i) 0),em l (n.getD 0 0) (n.getD 1 0) (n.getD (2+i) 0)]]]):=Lib.hid (fun i=>by
  rw[hacc]
  simp only[lj]
  simp[wC])
 have H0:Hid (acc 0=[]):=Lib.hid (by rw[hacc];rfl)
 have Hl:Hid (∀i,(acc i).length≤i):=Lib.hid (fun i=>by rw[hacc];simp[dB])
 have Hn:Hid ((dB l n (n.length-2)).map (fun e=>ch (aP l w t++e))=acc (n.length-2)):=Lib.hid (by rw[hacc])
 unfold SolK
 rw[Hn.out]
 have hpb:=Lib.hid (fun i=>hnb (2+i))
 clear hE hk hacc g Hn hE2 hr' hnb
 unfold el em at*
 obtain⟨b,off,c,rfl,hc,zb0,hat⟩:=hn.at' (by omega)
 have C0:=Lib.hid (hat 0 (by omega))
 have C1:=Lib.hid (hat 1 (by omega))
 rw[Nat.add_zero]at C0
 obtain⟨q,hq⟩:∃q,n.length=q+2:=⟨n.length-2,by omega⟩
 have CP:Hid (∀i,i<q→W.cell? ⟨b,off+2+i,none⟩=some (.int .i64 (n.getD (2+i) 0))):=Lib.hid (fun i hi=>by rw[Nat.add_assoc];exact hat (2+i) (by omega))
 clear hat hn
 generalize n.getD 0 0=s at*
 generalize n.getD 1 0=x1 at*
 generalize n.length=M at*
 subst hq
 obtain⟨L,hs,hm,hlt⟩:=SI.start W #[.int .i64 5, .int .i64 l, .int .i64 w, .int .i64 t, .slice (some ⟨b,off,none⟩) (q+2) c]
 have HS:=Lib.hid hs
 have HM:=Lib.hid hm
 have HL:=Lib.hid hlt
 have zs:W.heap.size+2≤((W.alloc (.cells #[.int .i64 5, .int .i64 l, .int .i64 w, .int .i64 t, .slice (some ⟨b,off,none⟩) (q+2) c] 25)).alloc (.cells #[.slice none 0 0] 30)).heap.size:=by simp
 obtain⟨V,HV⟩:∃V,Hid ((W.alloc (.cells #[.int .i64 5, .int .i64 l, .int .i64 w, .int .i64 t, .slice (some ⟨b,off,none⟩) (q+2) c] 25)).alloc (.cells #[.slice none 0 0] 30)=V):=⟨_,Lib.hid rfl⟩
 rw[HV.out]at HS zs
 clear hs hm hlt
 obtain⟨j0,j1,j2,j3,j4,_,jz⟩:=bM (HS.out.at _ (.tail _ HM.out))
 have d2:(2:Int)≤(q+2:Nat):=by omega
 have c0:=ab HS.out.below C0.out
 have c1:=ab HS.out.below C1.out
 have zb:=Nat.lt_of_lt_of_le zb0 HS.out.below.size
 have wn:IntKind.i64.wrap (-s)= -s:=IntWalk.i64_in _ (by omega)
 unfold vJ at*
 go_enter Tryz.func41,Tryz.ntmps41
 go_wp2
 rw[HV.out]
 clear HV
 refine wqf fun u=> ?_
 have HS:=Lib.hid (HS.out.grow u.below)
 have zs:=Nat.le_trans zs u.below.size
 clear j0 j1 j2 j3 j4 jz
 try clear zb
 try clear c0
 try clear c1
 try clear c2
 try clear c3
 try clear c4
 try clear c5
 generalize u.val=X at*
 clear u
 have HS1:=Lib.hid (HS.out.new (cs:=#[.slice none 0 0]) (T:=30) rfl (by decide))
 obtain⟨LL,HLL⟩:∃LL,Hid ((W.heap.size+1,#[Value.slice none 0 0],30)::L=LL):=⟨_,Lib.hid rfl⟩
 have HG:Hid (∀y∈LL,y.1≠X.heap.size):=Lib.hid (fun y hy=>by
  rw[←HLL.out]at hy
  rcases List.mem_cons.1 hy with rfl|hy
  ·dsimp only;omega
  ·have:=HL.out y hy;omega)
 have HMJ:Hid (_∈LL):=Lib.hid (HLL.out▸List.Mem.tail _ HM.out)
 have HMR:Hid ((W.heap.size+1,#[Value.slice none 0 0],30)∈LL):=Lib.hid (HLL.out▸List.Mem.head _)
 rw[HLL.out]at HS1
 have hgW:W.heap.size≤X.heap.size:=by omega
 clear HS HLL HM HL
 have mm:(m:Int)=0:=by omega
 subst hm
 go_wp2
 generalize hY:X.alloc (.cells #[.slice none 0 0] 30)=Y at*
 generalize X.heap.size=g6 at*
 rw[←H0.out]at HS1
 go_loopw [10] (fun x wr=>∃i:Nat,i≤q∧x= .int .i64 i∧∃sv,Hid (SI W W.heap.size ((g6,#[sv],30)::LL) [] (acc i) sv wr)) (fun x _=>q+1-(intOf x).toNat)
 case atStart=>exact⟨0,by omega,rfl,_,HS1⟩
 case round=>
  clear HS1
  obtain⟨i,hi,rfl,sv,HS⟩:=hrel
  obtain⟨j0,j1,j2,j3,j4,_,jz⟩:=bM (HS.out.at _ (.tail _ HMJ.out))
  obtain⟨sa,sc,rfl⟩:=HS.out.shape
  obtain⟨s0,sf,sz⟩:=HS.out.box
  by_cases hlt:i<q
  ·have g1:(i:Int)<(q:Int):=by omega
   have e0:=ab HS.out.below (CP.out i hlt)
   have zb:=Nat.lt_of_lt_of_le zb0 HS.out.below.size
   have O:=Lib.hid (HO.out i (by omega))
   have hy0:=hpb.out i
   have Hsi:=Lib.hid (Hs.out i)
   have hla:=Hl.out i
   generalize n.getD (2+i) 0=y at*
   obtain⟨p1,hp1⟩:∃p1,p1=s*y:=⟨_,rfl⟩
   obtain⟨p2,hp2⟩:∃p2,p2=s*(y+x1):=⟨_,rfl⟩
   have m1:=aJ (show -8≤s by omega) hs.2 hy0.1 hy0.2
   have m2:=aJ (show -8≤s by omega) hs.2 (show -200000≤y+x1 by omega) (show y+x1≤200000 by omega)
   rw[←hp1]at O Hsi m1
   rw[←hp2]at O Hsi m2
   have f1:IntKind.i64.wrap (s*y)=p1:=by rw[hp1];exact IntWalk.i64_in _ (by omega)
   have f2:IntKind.i64.wrap (s*(y+x1))=p2:=by rw[hp2];exact IntWalk.i64_in _ (by omega)
   have f3:IntKind.i64.wrap (y+x1)=y+x1:=IntWalk.i64_in _ (by omega)
   have f4:IntKind.i64.wrap (l-p1)=l-p1:=IntWalk.i64_in _ (by omega)
   have f5:IntKind.i64.wrap (l+p2)=l+p2:=IntWalk.i64_in _ (by omega)
   clear hp1 hp2 m1 m2
   go_wp2
   apply aj [] [0,1,2,3,4,5,6,7,8,9,10,11,12,13,14,15,16,17,18,19,20,21,22,23,24,25,26] 27 [28] [sv _,sv _,sv _,sv _,sv _,sv _,sv _,sv _,sv _,sv _,sv _,sv _,sv _,sv _,sv _,sv _,sv _,sv _,sv _,sv _,sv _,sv _,sv _,sv _,sv _,⟨PK 0 [(1, -s,0,l-p1),(1,s,0,l+p2)],by first|exact aw _ _|exact ap _|exact ar _ _ _|exact aA _ _ _⟩,⟨aO [[(1, -s,0,l-p1),(1,s,0,l+p2)]],by first|exact aw _ _|exact ap _|exact ar _ _ _|exact aA _ _ _⟩] (by kernel_rfl) (by kernel_rfl)
   iterate 12 ((try go_frame);refine wkQ ?_)
   try go_frame
   refine wkV ?_
   apply ex3
   ·intro u K hK
    go_simp
    refine(cM _ _ _ _ _).mono ?_
    rintro e w9 ⟨rfl,hb9⟩
    exact hK _ hb9
   rfl
   iterate 11 ((try go_frame);refine wkQ ?_)
   try go_frame
   refine wkV ?_
   apply ex3
   ·intro u K hK
    go_simp
    refine(cM _ _ _ _ _).mono ?_
    rintro e w9 ⟨rfl,hb9⟩
    exact hK _ hb9
   rfl
   try go_frame
   refine wkU (fun u hR K hK=> ?_) (fun o25=> ?_)
   ·clear hR
    go_simp
    exact hK _ _ bel (AY (fl _ [(1, -s,0,l-p1),(1,s,0,l+p2)] _) (Nat.zero_le _))
   try go_frame
   refine wkU (fun u hR K hK=> ?_) (fun o26=> ?_)
   ·have h25:(PK 0 [(1, -s,0,l-p1),(1,s,0,l+p2)]) o25 u.val:=hr hR 25
    clear hR
    obtain⟨a9,c9,rfl,hb9,hp9⟩:=iM h25
    go_simp
    exact hK _ _ hb9 hp9
   try go_frame
   refine aI (fun u hR=> ?_)
   have hp:aO [[(1, -s,0,l-p1),(1,s,0,l+p2)]] o26 u.val:=hR 26 (by simp)
   have HSu:=Lib.hid (HS.out.grow u.below)
   clear hR HS s0 sf sz j0 j1 j2 j3 j4 jz e0 zb
   generalize u.val=Y at*
   clear u
   simp only[oas]
   go_wp2_with fail
   refine(bA (n:=(acc i).length+1) O.out HG.out hgW (by omega) rfl HSu.out hp).mono ?_
   rintro e Z ⟨ra,rc,rfl,s0,sf,sz,HS⟩
   clear hp HSu
   go_wp2
   refine NoPanic.normal ?_
   go_wp2
   go_roundw
   case rel=>exact⟨i+1,by omega,by go_num,_,Lib.hid (by rw[Hsi.out];exact HS.out)⟩
   case measure=>first|(simp[intOf];done)|(simp[intOf];omega)
  ·obtain rfl:i=q:=by omega
   have g1:¬(i:Int)<(i:Int):=by omega
   have HSR:=Lib.hid (HS.out.sub (L':=[(W.heap.size+1,#[Value.slice none 0 0],30)]) (fun z hz=>by
    obtain rfl:z=_:=by simpa using hz
    exact .tail _ HMR.out) (fun _ h=>h))
   obtain⟨r0,rf,rz⟩:=HSR.out.box
   clear HS
   go_wp2
   have HSP:=Lib.hid (HSR.out.put (.slice sa ((acc i).length) sc) (Nat.le_succ _) (by decide) (fun _ h=>(by cases h)))
   have r1:=HSP.out.box.1
   clear s0 sf sz r0 rf rz
   generalize World.setCell _ ⟨W.heap.size+1,0,none⟩ _=Z2 at*
   refine bodyPost_ret (v:= .agg #[.slice sa ((acc i).length) sc]) (by simp[results,Tryz.results41,go_sem,r1]) rfl ⟨_,rfl,HSP.out.drop⟩
theorem wB (l w t:Int) (nv:Value) (n:List Int) (m:Nat) (W:World) (hn:Ints W nv n) (g:Good 5 l w t n) (hm:m=1):
  Calls Tryz.prog 41 #[vJ 5 l w t nv, .int .i64 m] W (SolK W l w t (aW 5 l w t n m)):=by
 obtain⟨hl,hw,ht⟩:=g.sz
 have hln:=g.len
 have hn3:3≤n.length:=by have:=(Ba g.cnt g.kind);omega
 have hr':bF l w n=true:=by simpa [cU]using g.right
 obtain⟨_,hs,h9⟩:=iu hr' hn3 hl.1
 clear h9
 have hnb:=fun i=>g.nb i
 have b0:=hnb 0
 have b1:=hnb 1
 have hE:=Cells.okE hl hw ht (bS g m (by subst hm;simp[cD,aV])).2
 have hk:aW 5 l w t n m=eo l n (n.length-1):=by simp[aW,hm]
 rw[hk]at hE ⊢
 obtain⟨acc,hacc⟩:∃acc:Nat→List (List Q4),acc=fun i=>(eo l n i).map (fun e=>ch (aP l w t++e)):=⟨_,rfl⟩
 obtain⟨it,hit⟩:∃it:Nat→List Q4,it=fun i=>(if 0<i then [(-1, -(n.getD 0 0),0, -(l+n.getD 0 0*(n.getD (1+i) 0+n.getD 1 0)))]else [])++(if i<n.length-2 then [(-1,n.getD 0 0,0, -(l-n.getD 0 0*n.getD (2+i) 0))]else []):=⟨_,rfl⟩
 have hE2:∀i,i<n.length-1→∀p∈aP l w t++it i,cI p:=fun i hi=>hE _ (by rw[hit];exact List.mem_map.2 ⟨i,List.mem_range.2 hi,rfl⟩)
 have HO:Hid (∀i,i<n.length-1→OKW l w t [it i]):=Lib.hid (fun i hi=>⟨by simpa using hE2 i hi,by simp,by rw[hit];simp only;split<;>split<;>simp[aP]⟩)
 have Hs:Hid (∀i,acc (i+1)=acc i++[wC l w t [it i]]):=Lib.hid (fun i=>by
  rw[hacc,hit]
  simp only[jH]
  simp[wC])
 have H0:Hid (acc 0=[]):=Lib.hid (by rw[hacc];rfl)
 have Hl:Hid (∀i,(acc i).length≤i):=Lib.hid (fun i=>by rw[hacc];simp[eo])
 have Hn:Hid ((eo l n (n.length-1)).map (fun e=>ch (aP l w t++e))=acc (n.length-1)):=Lib.hid (by rw[hacc])
 have HK1:Hid (∀i,i<n.length-1→0<i→ -10000000≤l+n.getD 0 0*(n.getD (1+i) 0+n.getD 1 0)∧l+n.getD 0 0*(n.getD (1+i) 0+n.getD 1 0)≤10000000):=Lib.hid (fun i hi h0=>by
  have:=(hE2 i hi (-1, -(n.getD 0 0),0, -(l+n.getD 0 0*(n.getD (1+i) 0+n.getD 1 0))) (by rw[hit];simp[h0])).1.2.2.2
  simp only at this
  omega)
 have HK2:Hid (∀i,i<n.length-2→ -10000000≤l-n.getD 0 0*n.getD (2+i) 0∧l-n.getD 0 0*n.getD (2+i) 0≤10000000):=Lib.hid (fun i hi=>by
  have:=(hE2 i (by omega) (-1,n.getD 0 0,0, -(l-n.getD 0 0*n.getD (2+i) 0)) (by rw[hit];simp[hi])).1.2.2.2
  simp only at this
  omega)
 have Hit:=Lib.hid hit
 unfold SolK
 rw[Hn.out]
 have hpb:=Lib.hid (fun i=>hnb i)
 clear hE hk hacc g Hn hE2 hr' hnb hit
 obtain⟨i0,hi0,hz0,hz1,hz2⟩:=info_parts cY
 have Hi0:=Lib.hid (And.intro hi0 (And.intro hz0 (And.intro hz1 hz2)))
 clear hi0 hz0 hz1 hz2
 obtain⟨b,off,c,rfl,hc,zb0,hat⟩:=hn.at' (by omega)
 have C0:=Lib.hid (hat 0 (by omega))
 have C1:=Lib.hid (hat 1 (by omega))
 rw[Nat.add_zero]at C0
 obtain⟨q,hq⟩:∃q,n.length=q+2:=⟨n.length-2,by omega⟩
 have CP:Hid (∀i,i<q→W.cell? ⟨b,off+2+i,none⟩=some (.int .i64 (n.getD (2+i) 0))):=Lib.hid (fun i hi=>by rw[Nat.add_assoc];exact hat (2+i) (by omega))
 clear hat hn
 generalize n.getD 0 0=s at*
 generalize n.getD 1 0=x1 at*
 generalize n.length=M at*
 subst hq
 obtain⟨L,hs,hm,hlt⟩:=SI.start W #[.int .i64 5, .int .i64 l, .int .i64 w, .int .i64 t, .slice (some ⟨b,off,none⟩) (q+2) c]
 have HS:=Lib.hid hs
 have HM:=Lib.hid hm
 have HL:=Lib.hid hlt
 have zs:W.heap.size+2≤((W.alloc (.cells #[.int .i64 5, .int .i64 l, .int .i64 w, .int .i64 t, .slice (some ⟨b,off,none⟩) (q+2) c] 25)).alloc (.cells #[.slice none 0 0] 30)).heap.size:=by simp
 obtain⟨V,HV⟩:∃V,Hid ((W.alloc (.cells #[.int .i64 5, .int .i64 l, .int .i64 w, .int .i64 t, .slice (some ⟨b,off,none⟩) (q+2) c] 25)).alloc (.cells #[.slice none 0 0] 30)=V):=⟨_,Lib.hid rfl⟩
 rw[HV.out]at HS zs
 clear hs hm hlt
 obtain⟨j0,j1,j2,j3,j4,_,jz⟩:=bM (HS.out.at _ (.tail _ HM.out))
 have d2:(2:Int)≤(q+2:Nat):=by omega
 have c0:=ab HS.out.below C0.out
 have c1:=ab HS.out.below C1.out
 have zb:=Nat.lt_of_lt_of_le zb0 HS.out.below.size
 have wn:IntKind.i64.wrap (-s)= -s:=IntWalk.i64_in _ (by omega)
 unfold vJ at*
 go_enter Tryz.func41,Tryz.ntmps41
 go_wp2
 rw[HV.out]
 clear HV
 refine wqf fun u=> ?_
 have HS:=Lib.hid (HS.out.grow u.below)
 have zs:=Nat.le_trans zs u.below.size
 clear j0 j1 j2 j3 j4 jz
 try clear zb
 try clear c0
 try clear c1
 try clear c2
 try clear c3
 try clear c4
 try clear c5
 generalize u.val=X at*
 clear u
 have HS1:=Lib.hid (HS.out.new (cs:=#[.slice none 0 0]) (T:=30) rfl (by decide))
 obtain⟨LL,HLL⟩:∃LL,Hid ((W.heap.size+1,#[Value.slice none 0 0],30)::L=LL):=⟨_,Lib.hid rfl⟩
 have HG:Hid (∀y∈LL,y.1≠X.heap.size):=Lib.hid (fun y hy=>by
  rw[←HLL.out]at hy
  rcases List.mem_cons.1 hy with rfl|hy
  ·dsimp only;omega
  ·have:=HL.out y hy;omega)
 have HMJ:Hid (_∈LL):=Lib.hid (HLL.out▸List.Mem.tail _ HM.out)
 have HMR:Hid ((W.heap.size+1,#[Value.slice none 0 0],30)∈LL):=Lib.hid (HLL.out▸List.Mem.head _)
 rw[HLL.out]at HS1
 have hgW:W.heap.size≤X.heap.size:=by omega
 clear HS HLL HM HL
 have mm:(m:Int)=1:=by omega
 subst hm
 go_wp2
 generalize hY:X.alloc (.cells #[.slice none 0 0] 30)=Y at*
 generalize X.heap.size=g6 at*
 rw[←H0.out]at HS1
 go_loopw [11] (fun x wr=>∃i:Nat,i≤q+1∧x= .int .i64 i∧∃sv,Hid (SI W W.heap.size ((g6,#[sv],30)::LL) [] (acc i) sv wr)) (fun x _=>q+2-(intOf x).toNat)
 case atStart=>exact⟨0,by omega,rfl,_,HS1⟩
 case round=>
  clear HS1
  obtain⟨i,hi,rfl,sv,HS⟩:=hrel
  by_cases hlt:i≤q
  ·have g1:(i:Int)≤(q:Int):=by omega
   have O:=Lib.hid (HO.out i (by omega))
   have Hsi:=Lib.hid (Hs.out i)
   have hla:=Hl.out i
   obtain⟨A,HA⟩:∃A:List Q4,Hid (A=if 0<i then [(-1, -s,0, -(l+s*(n.getD (1+i) 0+x1)))]else []):=⟨_,Lib.hid rfl⟩
   obtain⟨A2,HA2⟩:∃A2:List Q4,Hid (A2=A++if i<q then [(-1,s,0, -(l-s*n.getD (2+i) 0))]else []):=⟨_,Lib.hid rfl⟩
   have hie:it i=A2:=by rw[Hit.out,HA2.out,HA.out];rfl
   rw[hie]at O Hsi
   have hAl:A.length≤1:=by rw[HA.out];split<;>simp
   have hzr:=HS.out.below
   clear hie
   go_upto_if 71 with fail
   go_cut [12] (fun s12 wx=>∃a c',s12= .slice a A.length c'∧Below wr.heap.size wr wx∧Hid (PK wr.heap.size A (.slice a A.length c') wx))
   case first=>
    by_cases h0:0<i
    ·have hA:A=[(-1, -s,0, -(l+s*(n.getD (1+i) 0+x1)))]:=by rw[HA.out,if_pos h0]
     subst hA
     have e0:=ab hzr (CP.out (i-1) (by omega))
     have hp0:=hpb.out (1+i)
     have hk1:=HK1.out i (by omega) h0
     rw[show 2+(i-1)=1+i by omega]at e0
     have zb:=Nat.lt_of_lt_of_le zb0 hzr.size
     generalize n.getD (1+i) 0=y at*
     obtain⟨p1,hp1⟩:∃p1,p1=s*(y+x1):=⟨_,rfl⟩
     have m1:=aJ (show -8≤s by omega) hs.2 (show -200000≤y+x1 by omega) (show y+x1≤200000 by omega)
     rw[←hp1]at m1 hk1
     have f1:wrap64 (s*(y+x1))=p1:=by rw[←hp1];unfold wrap64;omega
     have e9:=Lib.hid (show(-1, -s,0, -(l+p1))=((-1, -s,0, -(l+s*(y+x1))):Q4) by rw[hp1])
     clear hp1
     have g3:(0:Int)<(i:Int):=by omega
     have g4:(0:Int)≤(i:Int)-1:=by omega
     have g5:(i:Int)-1<(q:Int):=by omega
     have g6:((i:Int)-1).toNat=i-1:=by omega
     go_wp2_with fail
     refine(dh 1 s 0 (l+p1) _ (by omega) (by omega) (by omega) hk1).mono ?_
     rintro e w1 ⟨rfl,hb1⟩
     go_wp2_with (at_builtin;refine wpList_append_own _ rfl _ _ 65 rfl wr.heap.size 69 i0 (v4 (0,0,0,0)) 4 32 be Hi0.out.1 Hi0.out.2.1 Hi0.out.2.2.1 Hi0.out.2.2.2 rfl (by decide) _ 0 _ rfl (World.ownsRow_nil (w1.alloc (.cells #[.int .i64 (-1), .int .i64 (-s), .int .i64 0, .int .i64 (-(l+p1))] 69)) wr.heap.size 69 4) ⟨w1.heap.size,0,none⟩ 1 1 ([(-1, -s,0, -(l+p1))].flatMap aH) rfl rfl (fK (ai rfl)) ?c2 ?c3 ?c4 ?c5 ?_)
     case c2=>exact dl
     case c3=>unfold maxLen;omega
     case c4=>omega
     case c5=>exact Nat.le_trans (hb1).size (by simp)
     intro v5 w5 hown5 hg5 _
     have hb5:Below wr.heap.size wr w5:=((hb1).alloc (hb1).size _).grown hg5 (Nat.le_trans (hb1).size (by simp)) (fun z hz=>(((World.ownsRow_nil (w1.alloc (.cells #[.int .i64 (-1), .int .i64 (-s), .int .i64 0, .int .i64 (-(l+p1))] 69)) wr.heap.size 69 4)).lt z hz).1)
     obtain⟨va,vc,rfl⟩:=aT hown5
     go_wp2_with fail
     go_meet
     rw[e9.out]at hown5
     exact⟨_,_,rfl,hb5,Lib.hid hown5⟩
    ·have hA:A=[]:=by rw[HA.out,if_neg h0]
     subst hA
     have g3:¬(0:Int)<(i:Int):=by omega
     go_wp2_with fail
     go_meet
     exact⟨_,_,rfl,Below.refl _ _,Lib.hid (World.ownsRow_nil _ _ _ _)⟩
   case rest=>
    rename World=>X2
    obtain⟨aa,ac,rfl,hb2,HP⟩:=hcut
    go_upto_if 91 with fail
    go_cut [12] (fun s12 wx=>∃a c',s12= .slice a A2.length c'∧Below wr.heap.size wr wx∧Hid (PK wr.heap.size A2 (.slice a A2.length c') wx))
    case first=>
     by_cases h0:i<q
     ·have hA:A2=A++[(-1,s,0, -(l-s*n.getD (2+i) 0))]:=by rw[HA2.out,if_pos h0]
      subst hA
      have e0:=ab (ae hzr hb2) (CP.out i h0)
      have hp0:=hpb.out (2+i)
      have hk1:=HK2.out i (by omega)
      have zb:=Nat.lt_of_lt_of_le zb0 (ae hzr hb2).size
      generalize n.getD (2+i) 0=y at*
      obtain⟨p1,hp1⟩:∃p1,p1=s*y:=⟨_,rfl⟩
      have m1:=aJ (show -8≤s by omega) hs.2 hp0.1 hp0.2
      rw[←hp1]at m1 hk1
      have f1:wrap64 (s*y)=p1:=by rw[←hp1];unfold wrap64;omega
      have f2:wrap64 (-s)= -s:=by unfold wrap64;omega
      have e9:=Lib.hid (show(-1,s,0, -(l-p1))=((-1,s,0, -(l-s*y)):Q4) by rw[hp1])
      clear hp1
      have g3:(i:Int)<(q:Int):=by omega
      go_wp2_with fail
      refine(dh 1 (-s) 0 (l-p1) _ (by omega) (by omega) (by omega) hk1).mono ?_
      rintro e w1 ⟨rfl,hb1⟩
      have hb3:=ae hb2 hb1
      have hown1:w1.ownsRow wr.heap.size 69 4 (.slice aa A.length ac) A.length (A.flatMap aH):=au HP.out hb1
      have hown2:=hown1.alloc (.cells #[.int .i64 (-1), .int .i64 s, .int .i64 0, .int .i64 (-(l-p1))] 69)
      go_wp2_with (at_builtin;refine wpList_append_own _ rfl _ _ 65 rfl wr.heap.size 69 i0 (v4 (0,0,0,0)) 4 32 be Hi0.out.1 Hi0.out.2.1 Hi0.out.2.2.1 Hi0.out.2.2.2 rfl (by decide) _ A.length _ rfl hown2 ⟨w1.heap.size,0,none⟩ 1 1 ([(-1,s,0, -(l-p1))].flatMap aH) rfl rfl (fK (ai rfl)) ?c2 ?c3 ?c4 ?c5 ?_)
      case c2=>exact dl
      case c3=>unfold maxLen;omega
      case c4=>omega
      case c5=>exact Nat.le_trans (hb3).size (by simp)
      intro v5 w5 hown5 hg5 _
      have hb5:Below wr.heap.size wr w5:=((hb3).alloc (hb3).size _).grown hg5 (Nat.le_trans (hb3).size (by simp)) (fun z hz=>((hown2).lt z hz).1)
      obtain⟨va,vc,rfl⟩:=aT hown5
      go_wp2_with fail
      go_meet
      rw[e9.out]at hown5
      exact⟨va,vc,by simp,hb5,Lib.hid (by unfold PK;simpa [List.flatMap_append]using hown5)⟩
     ·have hA:A2=A:=by rw[HA2.out,if_neg h0,List.append_nil]
      subst hA
      have g3:¬(i:Int)<(q:Int):=by omega
      go_wp2_with fail
      go_meet
      exact⟨_,_,rfl,hb2,HP⟩
    case rest=>
     clear hb2 HP
     rename World=>X3
     obtain⟨ba,bc,rfl,hb2,HP⟩:=hcut
     have HS:=Lib.hid (HS.out.grow hb2)
     obtain⟨j0,j1,j2,j3,j4,_,jz⟩:=bM (HS.out.at _ (.tail _ HMJ.out))
     obtain⟨sa,sc,rfl⟩:=HS.out.shape
     obtain⟨s0,sf,sz⟩:=HS.out.box
     obtain⟨_,_,_,hbl,hpl⟩:=iM HP.out
     go_wp2_with fail
     refine(bA (n:=(acc i).length+1) O.out HG.out hgW (by omega) rfl (HS.out.grow hbl) hpl).mono ?_
     rintro e Z ⟨ra,rc,rfl,s0,sf,sz,HS⟩
     clear hbl hpl
     go_wp2
     go_roundw
     case rel=>exact⟨i+1,by omega,by go_num,_,Lib.hid (by rw[Hsi.out];exact HS.out)⟩
     case measure=>first|(simp[intOf];done)|(simp[intOf];omega)
  ·obtain rfl:i=q+1:=by omega
   have g1:¬((q+1:Nat):Int)≤(q:Int):=by omega
   obtain⟨sa,sc,rfl⟩:=HS.out.shape
   obtain⟨s0,sf,sz⟩:=HS.out.box
   have HSR:=Lib.hid (HS.out.sub (L':=[(W.heap.size+1,#[Value.slice none 0 0],30)]) (fun z hz=>by
    obtain rfl:z=_:=by simpa using hz
    exact .tail _ HMR.out) (fun _ h=>h))
   obtain⟨r0,rf,rz⟩:=HSR.out.box
   clear HS
   go_wp2
   have HSP:=Lib.hid (HSR.out.put (.slice sa ((acc (q+1)).length) sc) (Nat.le_succ _) (by decide) (fun _ h=>(by cases h)))
   have r1:=HSP.out.box.1
   clear s0 sf sz r0 rf rz
   generalize World.setCell _ ⟨W.heap.size+1,0,none⟩ _=Z2 at*
   refine bodyPost_ret (v:= .agg #[.slice sa ((acc (q+1)).length) sc]) (by simp[results,Tryz.results41,go_sem,r1]) rfl ⟨_,rfl,HSP.out.drop⟩
end
end Go.Proofs.YtokhkhnofkcalaaGreatDoor
