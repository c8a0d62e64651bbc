/- texts: RL. -/
import Derived.Test.YtokhkhnofkcalaaGreatDoorKZS25
import Derived.Deep.DeepCutAuto
namespace Go.Proofs.YtokhkhnofkcalaaGreatDoor
set_option maxHeartbeats 8000000
set_option linter.unusedSimpArgs false
set_option linter.unusedVariables false
section
open Go.RowKit Go.Shelf
set_option maxRecDepth 100000
attribute [local go_sem] Ext.cell Ext.frozen
theorem jM {w:World} {B n c:Nat} {p:List Q4} {a:Option Addr} (h:PK B p (.slice a n c) w) (h0:0<p.length) {v:Value} (hv:v= .slice a n c):∃ad,a=some ad:=by
 rcases h.2 with⟨_,h1⟩|⟨g,cap,cur,h1,_⟩
 ·omega
 ·cases h1
  exact⟨_,rfl⟩
theorem jN (l w t fr up:Int) (nv sv:Value) (n:List Int) (W0 W:World) (B:Nat) (L:List (Nat×Array Value×TypeId)) (css:List (List Q4)) (hsi:SI W0 B L [] css sv W) (hcl:css.length≤10) (hn:Ints W0 nv n) (g:Good 8 l w t n)
  (hfr: -1000000≤fr∧fr≤1000000) (hE:∀e∈ew w t fr up n (bo n),∀p∈aP l w t++e,cI p):
  Calls Tryz.prog 94 #[.agg #[sv],vJ 8 l w t nv, .int .i64 fr, .int .i64 up] W fun e w'=>∃r,e= .returned (.agg #[r])∧SI W0 B L [] (css++(ew w t fr up n (bo n)).map fun e=>ch (aP l w t++e)) r w':=by
 obtain⟨hl,hw,ht⟩:=g.sz
 have h8:=g.h8 rfl
 have hln:=g.len
 have hnb:=Lib.hid (fun i=>g.nb i)
 have hN8:6+2*bo n=n.length:=by unfold bo;omega
 have hN:aV 8 n=bo n:=by simp[aV,bo]
 have hL0:=fun W' h=>Lib.hid (mD 8 l w t nv n W' (hn.below (w':=W') h) (by omega) (fun _=>h8))
 rw[hN]at hL0
 have hO:Hid (∀i,i<bo n→∀e∈cL w t fr up (n.getD 1 0) (n.getD 2 0) (dw n i) (i+1==bo n) (n.getD (6+2*i) 0) (n.getD (7+2*i) 0),∀p∈aP l w t++e,cI p):=Lib.hid (fun i hi e he=>hE e (by
  unfold ew
  exact List.mem_flatMap.2 ⟨i,List.mem_range.2 hi,he⟩))
 obtain⟨acc,hacc⟩:∃acc:Nat→List (List Q4),acc=fun i=>css++(ew w t fr up n i).map (fun e=>ch (aP l w t++e)):=⟨_,rfl⟩
 have Hs:Hid (∀i,acc (i+1)=acc i++(cL w t fr up (n.getD 1 0) (n.getD 2 0) (dw n i) (i+1==bo n) (n.getD (6+2*i) 0) (n.getD (7+2*i) 0)).map (fun e=>ch (aP l w t++e))):=Lib.hid (fun i=>by
  rw[hacc]
  simp only[mE,List.map_append,List.append_assoc])
 have H0:Hid (acc 0=css):=Lib.hid (by rw[hacc];simp[ew])
 have Hl:Hid (∀i,i≤12→(acc i).length≤200):=Lib.hid (fun i hi=>by
  have h1:(acc i).length≤10+8*i:=by
   clear hi
   induction i with
   |zero=>rw[H0.out];omega
   |succ i ih=>
    rw[Hs.out,List.length_append,List.length_map]
    have:∀b:Bool,(cL w t fr up (n.getD 1 0) (n.getD 2 0) (dw n i) b (n.getD (6+2*i) 0) (n.getD (7+2*i) 0)).length≤8:=fun b=>by cases b<;>simp[cL]
    have:=this (i+1==bo n)
    omega
  omega)
 have Hn:Hid (css++(ew w t fr up n (bo n)).map (fun e=>ch (aP l w t++e))=acc (bo n)):=Lib.hid (by rw[hacc])
 rw[Hn.out]
 have Hpv:Hid (∀i,dw n (i+1)=n.getD (6+2*i) 0+n.getD 1 0):=Lib.hid (fun i=>by
  unfold dw
  rw[if_neg (by omega),show 4+2*(i+1)=6+2*i by omega])
 have Hp0:Hid (dw n 0=0):=Lib.hid rfl
 have Hpb:Hid (∀i, -200000≤dw n i∧dw n i≤200000):=Lib.hid (fun i=>by
  unfold dw
  have:=hnb.out 1
  have:=hnb.out (4+2*i)
  split<;>omega)
 clear hE g hacc Hn hN
 obtain⟨i0,hi0,hz0,hz1,hz2⟩:=info_parts cY
 have Hi0:=Lib.hid (And.intro hi0 (And.intro hz0 (And.intro hz1 hz2)))
 clear hi0 hz0 hz1 hz2
 obtain⟨b,off,c,rfl,hc,zb0,hat⟩:=hn.at' (by omega)
 have C1:=Lib.hid (hat 1 (by omega))
 have C2:=Lib.hid (hat 2 (by omega))
 have CP:Hid (∀i,i<n.length→W0.cell? ⟨b,off+i,none⟩=some (.int .i64 (n.getD i 0))):=Lib.hid hat
 have b1:=hnb.out 1
 have b2:=hnb.out 2
 have hNl:bo n≤12:=by omega
 clear hat hn
 generalize bo n=N at*
 generalize n.getD 1 0=r at*
 generalize n.getD 2 0=ex at*
 generalize n.length=M at*
 obtain⟨sa,sc,rfl⟩:=hsi.shape
 have hs3:=((hsi.new (g:=W.heap.size) (cs:=#[.slice sa css.length sc]) (T:=30) rfl (by decide)).new (g:=W.heap.size+1) (cs:=#[.int .i64 8, .int .i64 l, .int .i64 w, .int .i64 t, .slice (some ⟨b,off,none⟩) M c]) (T:=25) (by simp) (by decide)).new (g:=W.heap.size+1+1) (cs:=#[.slice none 0 0]) (T:=30) (by simp) (by decide)
 obtain⟨LL,HLL⟩:∃LL,Hid ([(W.heap.size+1+1,#[Value.slice none 0 0],30),(W.heap.size+1,#[.int .i64 8, .int .i64 l, .int .i64 w, .int .i64 t, .slice (some ⟨b,off,none⟩) M c],25)]++L=LL):=⟨_,Lib.hid rfl⟩
 have HLt:Hid (∀y∈L,y.1<W.heap.size):=Lib.hid (fun y hy=>ah (hsi.keep y hy).1)
 have HG:Hid (∀y∈LL,y.1≠W.heap.size):=Lib.hid (fun y hy=>by
  rw[←HLL.out]at hy
  simp only[List.mem_append,List.mem_cons,List.not_mem_nil,or_false]at hy
  rcases hy with(rfl|rfl)|hy
  ·dsimp only;omega
  ·dsimp only;omega
  ·have:=HLt.out y hy;omega)
 have HMJ:Hid ((W.heap.size+1,#[.int .i64 8, .int .i64 l, .int .i64 w, .int .i64 t, .slice (some ⟨b,off,none⟩) M c],25)∈LL):=Lib.hid (by rw[←HLL.out];simp)
 have HMR:Hid (∀z∈(W.heap.size+1+1,#[Value.slice none 0 0],30)::L,z∈LL):=Lib.hid (fun z hz=>by
  rw[←HLL.out]
  rcases List.mem_cons.1 hz with rfl|hz
  ·exact List.Mem.head _
  ·exact List.Mem.tail _ (List.Mem.tail _ hz))
 obtain⟨V,HV⟩:∃V,Hid (((W.alloc (.cells #[.slice sa css.length sc] 30)).alloc (.cells #[.int .i64 8, .int .i64 l, .int .i64 w, .int .i64 t, .slice (some ⟨b,off,none⟩) M c] 25)).alloc (.cells #[.slice none 0 0] 30)=V):=⟨_,Lib.hid rfl⟩
 rw[HV.out]at hs3
 have HS:=Lib.hid (hs3.sub (L':=(W.heap.size,#[.slice sa css.length sc],30)::LL) (fun z hz=>by
  rw[←HLL.out]at hz
  simp only[List.mem_append,List.mem_cons,List.not_mem_nil,or_false]at hz ⊢
  rcases hz with rfl|(rfl|rfl)|hz
  ·exact .inr (.inr (.inl rfl))
  ·exact .inl rfl
  ·exact .inr (.inl rfl)
  ·exact .inr (.inr (.inr hz))) (fun _ h=>h))
 have hgW:W0.heap.size≤W.heap.size:=hsi.below.size
 clear hs3 HLL hsi
 obtain⟨j0,j1,j2,j3,j4,_,jz⟩:=bM (HS.out.at _ (.tail _ HMJ.out))
 obtain⟨s0,sf,sz⟩:=HS.out.box
 have c1:=ab HS.out.below C1.out
 have c2:=ab HS.out.below C2.out
 have zb:=Nat.lt_of_lt_of_le zb0 HS.out.below.size
 have qM1:(1:Int)<(M:Int):=by omega
 have qM2:(2:Int)<(M:Int):=by omega
 unfold vJ at*
 go_enter Tryz.func94,Tryz.ntmps94
 go_wp2
 rw[HV.out]
 clear HV
 refine wqf fun u=> ?_
 have HS:=Lib.hid (HS.out.grow u.below)
 clear c1 c2 zb j0 j1 j2 j3 j4 jz s0 sf sz
 generalize u.val=X at*
 clear u
 obtain⟨j0,j1,j2,j3,j4,_,jz⟩:=bM (HS.out.at _ (.tail _ HMJ.out))
 obtain⟨s0,sf,sz⟩:=HS.out.box
 go_wp2_with fail
 refine((hL0 X HS.out.below).out).mono ?_
 rintro e X1 ⟨rfl,hbx⟩
 have HS:=Lib.hid (HS.out.grow hbx)
 clear hbx hL0 j0 j1 j2 j3 j4 jz s0 sf sz
 go_wp2_with fail
 refine(kC fr up _ (by omega)).mono ?_
 rintro e X2 ⟨rp,rfl,hbx,hpart⟩
 have hzx:=HS.out.below.size
 have HS:=Lib.hid ((HS.out.grow hbx).row (AY hpart hzx))
 obtain⟨pa,pc,rfl⟩:=aT hpart
 clear hbx hpart hzx
 go_wp2
 obtain⟨K0,HK0⟩:∃K,Hid (css.length=K):=⟨_,Lib.hid rfl⟩
 rw[HK0.out]at HS
 have hS0:Hid (SI W0 B ((W.heap.size,#[.slice sa K0 sc],30)::LL) [(.slice pa (btP 0 fr up).length pc,btP 0 fr up)] (acc 0) (.slice sa K0 sc) X2):=Lib.hid (by rw[H0.out];exact HS.out)
 go_loopw [13,14] (fun y x wr=>∃i:Nat,i≤N∧x= .int .i64 i∧y= .int .i64 (dw n i)∧∃sv,Hid (SI W0 B ((W.heap.size,#[sv],30)::LL) [(.slice pa (btP 0 fr up).length pc,btP 0 fr up)] (acc i) sv wr)) (fun _ x _=>N+1-(intOf x).toNat)
 case atStart=>exact⟨0,by omega,rfl,by rw[Hp0.out],_,hS0⟩
 case round=>
  clear hS0
  obtain⟨i,hi,rfl,rfl,sv,HS⟩:=hrel
  have hWr:=HS.out.below
  obtain⟨sa,sc,rfl⟩:=HS.out.shape
  by_cases hlt:i<N
  ·have g1:(i:Int)<(N:Int):=by omega
   have c1:=ab hWr C1.out
   have c2:=ab hWr C2.out
   have c3:=ab hWr (CP.out (6+2*i) (by omega))
   have c4:=ab hWr (CP.out (7+2*i) (by omega))
   have zb:=Nat.lt_of_lt_of_le zb0 hWr.size
   have hy:=hnb.out (6+2*i)
   have hz:=hnb.out (7+2*i)
   have hst:=Hpb.out i
   have hO':=hO.out i hlt
   have Hsi:=Lib.hid (Hs.out i)
   have Hpi:=Lib.hid (Hpv.out i)
   have hla:=Hl.out i (by omega)
   generalize dw n i=st at*
   generalize n.getD (6+2*i) 0=y at*
   generalize n.getD (7+2*i) 0=z at*
   have O1:Hid (OKW l w t [btP 0 fr up,btP 1 st (y-r)]):=Lib.hid ⟨by simpa using hO' (btP 0 fr up++btP 1 st (y-r)) (by simp[cL]),by simp,by simp[aP,btP]⟩
   have O2:Hid (i+1=N→OKW l w t [btP 0 fr up,btP 1 (y+r) w]):=Lib.hid (fun h=>⟨by simpa using hO' (btP 0 fr up++btP 1 (y+r) w) (by simp[cL,h]),by simp,by simp[aP,btP]⟩)
   have O3:Hid (OKW l w t [btP 0 fr up++btP 1 (y-r) (y+r),btP 2 0 (z-r)]):=Lib.hid ⟨by simpa using hO' (btP 0 fr up++btP 1 (y-r) (y+r)++btP 2 0 (z-r)) (by simp[cL]),by simp,by simp[aP,btP]⟩
   have O4:Hid (OKW l w t [btP 0 fr up++btP 1 (y-r) (y+r),btP 2 (z+r) t]):=Lib.hid ⟨by simpa using hO' (btP 0 fr up++btP 1 (y-r) (y+r)++btP 2 (z+r) t) (by simp[cL]),by simp,by simp[aP,btP]⟩
   have O5:Hid (∀q:Q4,btP 0 fr up++btP 1 (y-r) (y+r)++btP 2 (z-r) (z+r)++[q]∈cL w t fr up r ex st (i+1==N) y z→OKW l w t [btP 0 fr up++btP 1 (y-r) (y+r)++btP 2 (z-r) (z+r),[q]]):=Lib.hid (fun q h=>⟨by simpa using hO' _ h,by simp,by simp[aP,btP]⟩)
   have P1:=Lib.hid (O5.out (0, -1, -1, -(y+z+ex)) (by simp[cL]))
   have P2:=Lib.hid (O5.out (0, -1,1, -(y-z+ex)) (by simp[cL]))
   have P3:=Lib.hid (O5.out (0,1, -1, -(z-y+ex)) (by simp[cL]))
   have P4:=Lib.hid (O5.out (0,1,1,y+z-ex) (by simp[cL]))
   clear O5 hO'
   have Hsi2:Hid (acc (i+1)=acc i++[wC l w t [btP 0 fr up,btP 1 st (y-r)]]++(if i+1=N then [wC l w t [btP 0 fr up,btP 1 (y+r) w]]else [])++[wC l w t [btP 0 fr up++btP 1 (y-r) (y+r),btP 2 0 (z-r)]]++[wC l w t [btP 0 fr up++btP 1 (y-r) (y+r),btP 2 (z+r) t]]++
     [wC l w t [btP 0 fr up++btP 1 (y-r) (y+r)++btP 2 (z-r) (z+r),[(0, -1, -1, -(y+z+ex))]]]++[wC l w t [btP 0 fr up++btP 1 (y-r) (y+r)++btP 2 (z-r) (z+r),[(0, -1,1, -(y-z+ex))]]]++
     [wC l w t [btP 0 fr up++btP 1 (y-r) (y+r)++btP 2 (z-r) (z+r),[(0,1, -1, -(z-y+ex))]]]++[wC l w t [btP 0 fr up++btP 1 (y-r) (y+r)++btP 2 (z-r) (z+r),[(0,1,1,y+z-ex)]]]):=Lib.hid (by
    rw[Hsi.out]
    by_cases h:i+1=N<;>simp[h,cL,wC])
   clear Hsi
   obtain⟨md,Hmd⟩:∃md,Hid (btP 0 fr up++btP 1 (y-r) (y+r)=md):=⟨_,Lib.hid rfl⟩
   rw[Hmd.out]at O3 O4 P1 P2 P3 P4 Hsi2
   have hmd0:0<md.length:=by rw[←Hmd.out];simp[btP]
   have hmd6:md.length≤6:=by rw[←Hmd.out];simp[btP]
   generalize acc i=A at*
   obtain⟨k,hk⟩:∃k,A.length=k:=⟨_,rfl⟩
   rw[hk]at HS
   have t1:((6+2*(i:Int)).toNat)=6+2*i:=by omega
   have t2:((7+2*(i:Int)).toNat)=7+2*i:=by omega
   have q1:(0:Int)≤6+2*(i:Int):=by omega
   have q2:(0:Int)≤7+2*(i:Int):=by omega
   have q3:6+2*(i:Int)<(M:Int):=by omega
   have q4:7+2*(i:Int)<(M:Int):=by omega
   have p1:IntKind.i64.wrap (2*(i:Int))=2*(i:Int):=IntWalk.i64_in _ (by omega)
   have p2:IntKind.i64.wrap (6+2*(i:Int))=6+2*(i:Int):=IntWalk.i64_in _ (by omega)
   have p3:IntKind.i64.wrap (7+2*(i:Int))=7+2*(i:Int):=IntWalk.i64_in _ (by omega)
   obtain⟨j0,j1,j2,j3,j4,_,jz⟩:=bM (HS.out.at _ (.tail _ HMJ.out))
   obtain⟨s0,sf,sz⟩:=HS.out.box
   go_wp2
   refine wqf fun u=> ?_
   have HS:=Lib.hid (HS.out.grow u.below)
   clear c1 c2 c3 c4 zb hWr t1 t2 q1 q2 q3 q4 p1 p2 p3 j0 j1 j2 j3 j4 jz s0 sf sz
   generalize u.val=X at*
   clear u
   have f1:IntKind.i64.wrap (y-r)=y-r:=IntWalk.i64_in _ (by omega)
   have f2:IntKind.i64.wrap (y+r)=y+r:=IntWalk.i64_in _ (by omega)
   have f3:IntKind.i64.wrap (z-r)=z-r:=IntWalk.i64_in _ (by omega)
   have f4:IntKind.i64.wrap (z+r)=z+r:=IntWalk.i64_in _ (by omega)
   have f5:IntKind.i64.wrap (y+z)=y+z:=IntWalk.i64_in _ (by omega)
   have f6:IntKind.i64.wrap (y+z+ex)=y+z+ex:=IntWalk.i64_in _ (by omega)
   have f7:IntKind.i64.wrap (y-z)=y-z:=IntWalk.i64_in _ (by omega)
   have f8:IntKind.i64.wrap (y-z+ex)=y-z+ex:=IntWalk.i64_in _ (by omega)
   have f9:IntKind.i64.wrap (z-y)=z-y:=IntWalk.i64_in _ (by omega)
   have fa:IntKind.i64.wrap (z-y+ex)=z-y+ex:=IntWalk.i64_in _ (by omega)
   have fb:IntKind.i64.wrap (y+z-ex)=y+z-ex:=IntWalk.i64_in _ (by omega)
   obtain⟨j0,j1,j2,j3,j4,_,jz⟩:=bM (HS.out.at _ (.tail _ HMJ.out))
   obtain⟨s0,sf,sz⟩:=HS.out.box
   go_wp2
   apply aj [] [0,1,2,3,4,5,6,7,8] 9 [10] [sv _,sv _,sv _,sv _,sv _,sv _,sv _,⟨PK (0) (btP 1 (st) (y-r)),by first|exact aw _ _|exact ap _|exact ar _ _ _|exact aA _ _ _⟩,⟨aO [(btP 0 fr up),(btP 1 (st) (y-r))],by first|exact aw _ _|exact ap _|exact ar _ _ _|exact aA _ _ _⟩] (by kernel_rfl) (by kernel_rfl)
   iterate 7 ((try go_frame);refine wkQ ?_)
   try go_frame
   refine wkU (fun u hR K hK=> ?_) (fun o7=> ?_)
   ·clear hR
    go_simp
    refine(jJ _ _ _ (by omega)).mono ?_
    rintro e w9 ⟨r,rfl,hb9,hp9⟩
    exact hK _ _ hb9 (AY hp9 (Nat.zero_le _))
   try go_frame
   refine wkU (fun u hR K hK=> ?_) (fun o8=> ?_)
   ·have h7:(PK (0) (btP 1 (st) (y-r))) o7 u.val:=hr hR 7
    clear hR
    obtain⟨a9,c9,a8,c8,_,rfl,hb9,hp9⟩:=fN (au (HS.out.rows _ (.head _)) u.below) h7
    go_simp
    exact hK _ _ hb9 hp9
   try go_frame
   refine aI (fun u hR=> ?_)
   have hp:aO [btP 0 fr up,btP 1 st (y-r)] o8 u.val:=hR 8 (by simp)
   have HSu:=Lib.hid (HS.out.grow u.below)
   clear hR HS s0 sf sz j0 j1 j2 j3 j4 jz
   generalize u.val=Y at*
   clear u
   simp only[oas]
   go_wp2_with fail
   refine(bA (css:=A) (n:=k+1) O1.out HG.out hgW (by first|omega|(simp only[List.length_append,List.length_cons,List.length_nil];omega)) (by first|omega|(simp only[List.length_append,List.length_cons,List.length_nil];omega)) HSu.out hp).mono ?_
   rintro e Z ⟨ra,rc,rfl,s0,sf,sz,HS⟩
   clear hp HSu O1
   go_wp2
   refine NoPanic.normal ?_
   clear s0 sf sz
   generalize Z.setCell ⟨W.heap.size,0,none⟩ (.slice ra (k+1) rc)=Z2 at*
   obtain⟨D,HD⟩:∃D,Hid (A++[wC l w t [btP 0 fr up,btP 1 st (y-r)]]++(if i+1=N then [wC l w t [btP 0 fr up,btP 1 (y+r) w]]else [])=D):=⟨_,Lib.hid rfl⟩
   rw[HD.out]at Hsi2
   have hDl:D.length≤300:=by rw[←HD.out];split<;>simp<;>omega
   obtain⟨j0,j1,j2,j3,j4,_,jz⟩:=bM (HS.out.at _ (.tail _ HMJ.out))
   obtain⟨s0,sf,sz⟩:=HS.out.box
   go_upto_if 64 with fail
   go_cut [13] (fun s13 wx=>s13= .int .i64 st∧∃sv,Hid (SI W0 B ((W.heap.size,#[sv],30)::LL) [(.slice pa (btP 0 fr up).length pc,btP 0 fr up)] D sv wx))
   case first=>
    by_cases hlast:i+1=N
    ·rw[if_pos hlast]at HD
     have O2:=Lib.hid (O2.out hlast)
     have g3:(N:Int)-1=(i:Int):=by omega
     rw[g3]
     go_wp2
     apply aj [] [0,1,2,3,4,5,6,7,8,9,10] 11 [12] [sv _,sv _,sv _,sv _,sv _,sv _,sv _,sv _,sv _,⟨PK (0) (btP 1 ((y+r)) (w)),by first|exact aw _ _|exact ap _|exact ar _ _ _|exact aA _ _ _⟩,⟨aO [(btP 0 fr up),(btP 1 ((y+r)) (w))],by first|exact aw _ _|exact ap _|exact ar _ _ _|exact aA _ _ _⟩] (by kernel_rfl) (by kernel_rfl)
     iterate 9 ((try go_frame);refine wkQ ?_)
     try go_frame
     refine wkU (fun u hR K hK=> ?_) (fun o9=> ?_)
     ·clear hR
      go_simp
      refine(jJ _ _ _ (by omega)).mono ?_
      rintro e w9 ⟨r,rfl,hb9,hp9⟩
      exact hK _ _ hb9 (AY hp9 (Nat.zero_le _))
     try go_frame
     refine wkU (fun u hR K hK=> ?_) (fun o10=> ?_)
     ·have h9:(PK (0) (btP 1 ((y+r)) (w))) o9 u.val:=hr hR 9
      clear hR
      obtain⟨a9,c9,a8,c8,_,rfl,hb9,hp9⟩:=fN (au (HS.out.rows _ (.head _)) u.below) h9
      go_simp
      exact hK _ _ hb9 hp9
     try go_frame
     refine aI (fun u hR=> ?_)
     have hp:aO [btP 0 fr up,btP 1 (y+r) w] o10 u.val:=hR 10 (by simp)
     have HSu:=Lib.hid (HS.out.grow u.below)
     clear hR HS s0 sf sz j0 j1 j2 j3 j4 jz
     generalize u.val=Y at*
     clear u
     simp only[oas]
     go_wp2_with fail
     refine(bA (css:=A++[wC l w t [btP 0 fr up,btP 1 st (y-r)]]) (n:=k+1+1) O2.out HG.out hgW (by first|omega|(simp only[List.length_append,List.length_cons,List.length_nil];omega)) (by first|omega|(simp only[List.length_append,List.length_cons,List.length_nil];omega)) HSu.out hp).mono ?_
     rintro e Z ⟨ra,rc,rfl,s0,sf,sz,HS⟩
     clear hp HSu O2
     go_wp2
     refine NoPanic.normal ?_
     clear s0 sf sz
     generalize Z.setCell ⟨W.heap.size,0,none⟩ (.slice ra (k+1+1) rc)=Z2 at*
     rw[HD.out]at HS
     go_wp2_with fail
     go_meet
     exact⟨rfl,_,HS⟩
    ·rw[if_neg hlast,List.append_nil]at HD
     have g3:¬(i:Int)=(N:Int)-1:=by omega
     rw[HD.out]at HS
     go_wp2_with fail
     go_meet
     exact⟨rfl,_,HS⟩
   case rest=>
    clear HS HD j0 j1 j2 j3 j4 jz s0 sf sz O2
    rename World=>X3
    obtain⟨rfl,sv2,HS⟩:=hcut
    obtain⟨sa2,sc2,rfl⟩:=HS.out.shape
    obtain⟨k2,hk2⟩:∃k,D.length=k:=⟨_,rfl⟩
    rw[hk2]at HS
    obtain⟨⟨za,zm,zc,hze,hzl,hzn,hzu⟩,_⟩:=cN (HS.out.rows _ (.head _))
    rw[bh]at hzl
    cases hze
    obtain⟨ad,hza⟩:=jM (HS.out.rows _ (.head _)) (by first|assumption|(simp[btP];done)) rfl
    have hzm:(btP 0 fr up).length≤6:=by first|assumption|(simp[btP];done)
    have hm0:(X3.alloc (.cells #[] 69)).ownsRow X3.heap.size 69 4 (.slice (some ⟨X3.heap.size,0,none⟩) 0 0) 0 []:=World.ownsRow_made X3 #[] 0 (Nat.le_refl _) (Nat.zero_le _) rfl
    have hx0:Below X3.heap.size X3 (X3.alloc (.cells #[] 69)):=bel
    subst hza
    clear hzn hzl
    go_wp2_with (at_builtin;refine wpList_append_own _ rfl _ _ 65 rfl X3.heap.size 69 i0 (v4 (0,0,0,0)) 4 32 be Hi0.out.1 Hi0.out.2.1 Hi0.out.2.2.1 Hi0.out.2.2.2 rfl (by decide) _ 0 _ rfl hm0 ad _ _ ((btP 0 fr up).flatMap aH) rfl (bh _) (fun j x hj=>ab hx0 (hzu ad rfl j x hj)) dl (by unfold maxLen;omega) (by omega) hx0.size ?_)
    intro v5 w5 hown5 hg5 _
    have hb5:Below X3.heap.size X3 w5:=hx0.grown hg5 hx0.size (fun z hz=>(hm0.lt z hz).1)
    obtain⟨va,vc,rfl⟩:=aT hown5
    go_wp2_with fail
    refine(jJ (y-r) (y+r) _ (by omega)).mono ?_
    rintro e w6 ⟨r6,rfl,hb6,hq6⟩
    obtain⟨⟨xa,xm,xc,rfl,hxl,hxn,hxu⟩,_⟩:=cN hq6
    rw[bh]at hxl
    have hxm:xm=2:=by simp[btP]at hxl;omega
    subst hxm
    have hown6:=au hown5 hb6
    have hb16:=ae hb5 hb6
    obtain⟨ad2,hxa⟩:=jM hq6 (by simp[btP]) rfl
    subst hxa
    clear hxn hxl
    go_wp2_with (at_builtin;refine wpList_append_own _ rfl _ _ 65 rfl X3.heap.size 69 i0 (v4 (0,0,0,0)) 4 32 be Hi0.out.1 Hi0.out.2.1 Hi0.out.2.2.1 Hi0.out.2.2.2 rfl (by decide) _ _ _ rfl hown6 ad2 2 xc ((btP 1 (y-r) (y+r)).flatMap aH) rfl (bh _) (hxu ad2 rfl) dl (by unfold maxLen;omega) (by omega) hb16.size ?_)
    intro v7 w7 hown7 hg7 _
    have hb7:Below X3.heap.size X3 w7:=hb16.grown hg7 hb16.size (fun z hz=>(hown6.lt z hz).1)
    have hpm:PK W0.heap.size md v7 w7:=Hmd.out▸rI hown7 (by simp) (by simp) rfl HS.out.below.size
    have HS:=Lib.hid ((HS.out.grow hb7).row hpm)
    obtain⟨ma,mc,rfl⟩:=aT hpm
    clear hzu hzm hm0 hx0 hown5 hg5 hb5 hb6 hq6 hxu hown6 hb16 hown7 hg7 hb7 hpm
    go_wp2
    obtain⟨j0,j1,j2,j3,j4,_,jz⟩:=bM (HS.out.at _ (.tail _ HMJ.out))
    obtain⟨s0,sf,sz⟩:=HS.out.box
    apply aj [] [0,1,2,3,4,5,6,7] 8 [9] [sv _,sv _,sv _,sv _,sv _,sv _,⟨PK (0) (btP 2 (0) (z-r)),by first|exact aw _ _|exact ap _|exact ar _ _ _|exact aA _ _ _⟩,⟨aO [md,(btP 2 (0) (z-r))],by first|exact aw _ _|exact ap _|exact ar _ _ _|exact aA _ _ _⟩] (by kernel_rfl) (by kernel_rfl)
    iterate 6 ((try go_frame);refine wkQ ?_)
    try go_frame
    refine wkU (fun u hR K hK=> ?_) (fun o6=> ?_)
    ·clear hR
     go_simp
     refine(fM _ _ _ (by omega)).mono ?_
     rintro e w9 ⟨r,rfl,hb9,hp9⟩
     exact hK _ _ hb9 (AY hp9 (Nat.zero_le _))
    try go_frame
    refine wkU (fun u hR K hK=> ?_) (fun o7=> ?_)
    ·have h6:(PK (0) (btP 2 (0) (z-r))) o6 u.val:=hr hR 6
     clear hR
     obtain⟨a9,c9,a8,c8,_,rfl,hb9,hp9⟩:=fN (au (HS.out.rows _ (.head _)) u.below) h6
     go_simp
     exact hK _ _ hb9 hp9
    try go_frame
    refine aI (fun u hR=> ?_)
    have hp:aO [md,btP 2 0 (z-r)] o7 u.val:=hR 7 (by simp)
    have HSu:=Lib.hid (HS.out.grow u.below)
    clear hR HS s0 sf sz j0 j1 j2 j3 j4 jz
    generalize u.val=Y at*
    clear u
    simp only[oas]
    go_wp2_with fail
    refine(bA (css:=D) (n:=k2+1) O3.out HG.out hgW (by first|omega|(simp only[List.length_append,List.length_cons,List.length_nil];omega)) (by first|omega|(simp only[List.length_append,List.length_cons,List.length_nil];omega)) HSu.out hp).mono ?_
    rintro e Z ⟨ra,rc,rfl,s0,sf,sz,HS⟩
    clear hp HSu O3
    go_wp2
    refine NoPanic.normal ?_
    clear s0 sf sz
    generalize Z.setCell ⟨W.heap.size,0,none⟩ (.slice ra (k2+1) rc)=Z2 at*
    obtain⟨D1,HD1⟩:∃D1,Hid (D++[wC l w t [md,btP 2 0 (z-r)]]=D1):=⟨_,Lib.hid rfl⟩
    rw[HD1.out]at Hsi2 HS
    have hD1:D1.length=k2+1:=by rw[←HD1.out];simp;omega
    obtain⟨j0,j1,j2,j3,j4,_,jz⟩:=bM (HS.out.at _ (.tail _ HMJ.out))
    obtain⟨s0,sf,sz⟩:=HS.out.box
    go_wp2
    apply aj [] [0,1,2,3,4,5,6,7,8,9,10] 11 [12] [sv _,sv _,sv _,sv _,sv _,sv _,sv _,sv _,sv _,⟨PK (0) (btP 2 ((z+r)) (t)),by first|exact aw _ _|exact ap _|exact ar _ _ _|exact aA _ _ _⟩,⟨aO [md,(btP 2 ((z+r)) (t))],by first|exact aw _ _|exact ap _|exact ar _ _ _|exact aA _ _ _⟩] (by kernel_rfl) (by kernel_rfl)
    iterate 9 ((try go_frame);refine wkQ ?_)
    try go_frame
    refine wkU (fun u hR K hK=> ?_) (fun o9=> ?_)
    ·clear hR
     go_simp
     refine(fM _ _ _ (by omega)).mono ?_
     rintro e w9 ⟨r,rfl,hb9,hp9⟩
     exact hK _ _ hb9 (AY hp9 (Nat.zero_le _))
    try go_frame
    refine wkU (fun u hR K hK=> ?_) (fun o10=> ?_)
    ·have h9:(PK (0) (btP 2 ((z+r)) (t))) o9 u.val:=hr hR 9
     clear hR
     obtain⟨a9,c9,a8,c8,_,rfl,hb9,hp9⟩:=fN (au (HS.out.rows _ (.head _)) u.below) h9
     go_simp
     exact hK _ _ hb9 hp9
    try go_frame
    refine aI (fun u hR=> ?_)
    have hp:aO [md,btP 2 (z+r) t] o10 u.val:=hR 10 (by simp)
    have HSu:=Lib.hid (HS.out.grow u.below)
    clear hR HS s0 sf sz j0 j1 j2 j3 j4 jz
    generalize u.val=Y at*
    clear u
    simp only[oas]
    go_wp2_with fail
    refine(bA (css:=D1) (n:=k2+2) O4.out HG.out hgW (by first|omega|(simp only[List.length_append,List.length_cons,List.length_nil];omega)) (by first|omega|(simp only[List.length_append,List.length_cons,List.length_nil];omega)) HSu.out hp).mono ?_
    rintro e Z ⟨ra,rc,rfl,s0,sf,sz,HS⟩
    clear hp HSu O4
    go_wp2
    refine NoPanic.normal ?_
    clear s0 sf sz
    generalize Z.setCell ⟨W.heap.size,0,none⟩ (.slice ra (k2+2) rc)=Z2 at*
    obtain⟨D2,HD2⟩:∃D2,Hid (D1++[wC l w t [md,btP 2 (z+r) t]]=D2):=⟨_,Lib.hid rfl⟩
    rw[HD2.out]at Hsi2 HS
    have hD2:D2.length=k2+2:=by rw[←HD2.out];simp;omega
    obtain⟨⟨za,zm,zc,hze,hzl,hzn,hzu⟩,_⟩:=cN (HS.out.rows _ (.head _))
    rw[bh]at hzl
    cases hze
    obtain⟨ad,hza⟩:=jM (HS.out.rows _ (.head _)) (by first|assumption|(simp[btP];done)) rfl
    have hzm:(md).length≤6:=by first|assumption|(simp[btP];done)
    have hm0:(Z2.alloc (.cells #[] 69)).ownsRow Z2.heap.size 69 4 (.slice (some ⟨Z2.heap.size,0,none⟩) 0 0) 0 []:=World.ownsRow_made Z2 #[] 0 (Nat.le_refl _) (Nat.zero_le _) rfl
    have hx0:Below Z2.heap.size Z2 (Z2.alloc (.cells #[] 69)):=bel
    subst hza
    clear hzn hzl
    go_wp2_with (at_builtin;refine wpList_append_own _ rfl _ _ 65 rfl Z2.heap.size 69 i0 (v4 (0,0,0,0)) 4 32 be Hi0.out.1 Hi0.out.2.1 Hi0.out.2.2.1 Hi0.out.2.2.2 rfl (by decide) _ 0 _ rfl hm0 ad _ _ ((md).flatMap aH) rfl (bh _) (fun j x hj=>ab hx0 (hzu ad rfl j x hj)) dl (by unfold maxLen;omega) (by omega) hx0.size ?_)
    intro v5 w5 hown5 hg5 _
    have hb5:Below Z2.heap.size Z2 w5:=hx0.grown hg5 hx0.size (fun z hz=>(hm0.lt z hz).1)
    obtain⟨va,vc,rfl⟩:=aT hown5
    go_wp2_with fail
    refine(fM (z-r) (z+r) _ (by omega)).mono ?_
    rintro e w6 ⟨r6,rfl,hb6,hq6⟩
    obtain⟨⟨xa,xm,xc,rfl,hxl,hxn,hxu⟩,_⟩:=cN hq6
    rw[bh]at hxl
    have hxm:xm=2:=by simp[btP]at hxl;omega
    subst hxm
    have hown6:=au hown5 hb6
    have hb16:=ae hb5 hb6
    obtain⟨ad2,hxa⟩:=jM hq6 (by simp[btP]) rfl
    subst hxa
    clear hxn hxl
    go_wp2_with (at_builtin;refine wpList_append_own _ rfl _ _ 65 rfl Z2.heap.size 69 i0 (v4 (0,0,0,0)) 4 32 be Hi0.out.1 Hi0.out.2.1 Hi0.out.2.2.1 Hi0.out.2.2.2 rfl (by decide) _ _ _ rfl hown6 ad2 2 xc ((btP 2 (z-r) (z+r)).flatMap aH) rfl (bh _) (hxu ad2 rfl) dl (by unfold maxLen;omega) (by omega) hb16.size ?_)
    intro v7 w7 hown7 hg7 _
    have hb7:Below Z2.heap.size Z2 w7:=hb16.grown hg7 hb16.size (fun z hz=>(hown6.lt z hz).1)
    have hpm:PK W0.heap.size (md++btP 2 (z-r) (z+r)) v7 w7:=rI hown7 (by simp) (by simp) rfl HS.out.below.size
    have HS:=Lib.hid ((HS.out.grow hb7).row hpm)
    obtain⟨qa,qc,rfl⟩:=aT hpm
    clear hzu hzm hm0 hx0 hown5 hg5 hb5 hb6 hq6 hxu hown6 hb16 hown7 hg7 hb7 hpm
    obtain⟨sq,hsq⟩:∃sq,sq=md++btP 2 (z-r) (z+r):=⟨_,rfl⟩
    rw[←hsq]at HS Hsi2 P1 P2 P3 P4 ⊢
    clear hsq
    go_wp2
    obtain⟨j0,j1,j2,j3,j4,_,jz⟩:=bM (HS.out.at _ (.tail _ HMJ.out))
    obtain⟨s0,sf,sz⟩:=HS.out.box
    apply aj [] [0,1,2,3,4,5,6,7,8,9,10] 11 [12] [sv _,sv _,sv _,sv _,sv _,sv _,sv _,sv _,sv _,⟨PK 0 [(0, -1, -1, -(y+z+ex))],by first|exact aw _ _|exact ap _|exact ar _ _ _|exact aA _ _ _⟩,⟨aO [sq,[(0, -1, -1, -(y+z+ex))]],by first|exact aw _ _|exact ap _|exact ar _ _ _|exact aA _ _ _⟩] (by kernel_rfl) (by kernel_rfl)
    iterate 8 ((try go_frame);refine wkQ ?_)
    try go_frame
    refine wkV ?_
    apply ex3
    ·intro u K hK
     go_simp
     refine(dh 0 1 1 (y+z+ex) _ (by omega) (by omega) (by omega) (by omega)).mono ?_
     rintro e w9 ⟨rfl,hb9⟩
     exact hK _ hb9
    rfl
    try go_frame
    refine wkU (fun u hR K hK=> ?_) (fun o9=> ?_)
    ·clear hR
     go_simp
     exact hK _ _ bel (AY (fl _ [(0, -1, -1, -(y+z+ex))] _) (Nat.zero_le _))
    try go_frame
    refine wkU (fun u hR K hK=> ?_) (fun o10=> ?_)
    ·have h9:(PK 0 [(0, -1, -1, -(y+z+ex))]) o9 u.val:=hr hR 9
     clear hR
     obtain⟨a9,c9,a8,c8,_,rfl,hb9,hp9⟩:=fN (au (HS.out.rows _ (.head _)) u.below) h9
     go_simp
     exact hK _ _ hb9 hp9
    try go_frame
    refine aI (fun u hR=> ?_)
    have hp:aO [sq,[(0, -1, -1, -(y+z+ex))]] o10 u.val:=hR 10 (by simp)
    have HSu:=Lib.hid (HS.out.grow u.below)
    clear hR HS s0 sf sz j0 j1 j2 j3 j4 jz
    generalize u.val=Y at*
    clear u
    simp only[oas]
    go_wp2_with fail
    refine(bA (css:=D2) (n:=k2+3) P1.out HG.out hgW (by first|omega|(simp only[List.length_append,List.length_cons,List.length_nil];omega)) (by first|omega|(simp only[List.length_append,List.length_cons,List.length_nil];omega)) HSu.out hp).mono ?_
    rintro e Z ⟨ra,rc,rfl,s0,sf,sz,HS⟩
    clear hp HSu P1
    go_wp2
    refine NoPanic.normal ?_
    clear s0 sf sz
    generalize Z.setCell ⟨W.heap.size,0,none⟩ (.slice ra (k2+3) rc)=Z2 at*
    obtain⟨j0,j1,j2,j3,j4,_,jz⟩:=bM (HS.out.at _ (.tail _ HMJ.out))
    obtain⟨s0,sf,sz⟩:=HS.out.box
    go_wp2
    apply aj [] [0,1,2,3,4,5,6,7,8,9,10] 11 [12] [sv _,sv _,sv _,sv _,sv _,sv _,sv _,sv _,sv _,⟨PK 0 [(0, -1,1, -(y-z+ex))],by first|exact aw _ _|exact ap _|exact ar _ _ _|exact aA _ _ _⟩,⟨aO [sq,[(0, -1,1, -(y-z+ex))]],by first|exact aw _ _|exact ap _|exact ar _ _ _|exact aA _ _ _⟩] (by kernel_rfl) (by kernel_rfl)
    iterate 8 ((try go_frame);refine wkQ ?_)
    try go_frame
    refine wkV ?_
    apply ex3
    ·intro u K hK
     go_simp
     refine(dh 0 1 (-1) (y-z+ex) _ (by omega) (by omega) (by omega) (by omega)).mono ?_
     rintro e w9 ⟨rfl,hb9⟩
     exact hK _ hb9
    rfl
    try go_frame
    refine wkU (fun u hR K hK=> ?_) (fun o9=> ?_)
    ·clear hR
     go_simp
     exact hK _ _ bel (AY (fl _ [(0, -1,1, -(y-z+ex))] _) (Nat.zero_le _))
    try go_frame
    refine wkU (fun u hR K hK=> ?_) (fun o10=> ?_)
    ·have h9:(PK 0 [(0, -1,1, -(y-z+ex))]) o9 u.val:=hr hR 9
     clear hR
     obtain⟨a9,c9,a8,c8,_,rfl,hb9,hp9⟩:=fN (au (HS.out.rows _ (.head _)) u.below) h9
     go_simp
     exact hK _ _ hb9 hp9
    try go_frame
    refine aI (fun u hR=> ?_)
    have hp:aO [sq,[(0, -1,1, -(y-z+ex))]] o10 u.val:=hR 10 (by simp)
    have HSu:=Lib.hid (HS.out.grow u.below)
    clear hR HS s0 sf sz j0 j1 j2 j3 j4 jz
    generalize u.val=Y at*
    clear u
    simp only[oas]
    go_wp2_with fail
    refine(bA (css:=D2++[wC l w t [sq,[(0, -1, -1, -(y+z+ex))]]]) (n:=k2+4) P2.out HG.out hgW (by first|omega|(simp only[List.length_append,List.length_cons,List.length_nil];omega)) (by first|omega|(simp only[List.length_append,List.length_cons,List.length_nil];omega)) HSu.out hp).mono ?_
    rintro e Z ⟨ra,rc,rfl,s0,sf,sz,HS⟩
    clear hp HSu P2
    go_wp2
    refine NoPanic.normal ?_
    clear s0 sf sz
    generalize Z.setCell ⟨W.heap.size,0,none⟩ (.slice ra (k2+4) rc)=Z2 at*
    obtain⟨j0,j1,j2,j3,j4,_,jz⟩:=bM (HS.out.at _ (.tail _ HMJ.out))
    obtain⟨s0,sf,sz⟩:=HS.out.box
    go_wp2
    apply aj [] [0,1,2,3,4,5,6,7,8,9,10] 11 [12] [sv _,sv _,sv _,sv _,sv _,sv _,sv _,sv _,sv _,⟨PK 0 [(0,1, -1, -(z-y+ex))],by first|exact aw _ _|exact ap _|exact ar _ _ _|exact aA _ _ _⟩,⟨aO [sq,[(0,1, -1, -(z-y+ex))]],by first|exact aw _ _|exact ap _|exact ar _ _ _|exact aA _ _ _⟩] (by kernel_rfl) (by kernel_rfl)
    iterate 8 ((try go_frame);refine wkQ ?_)
    try go_frame
    refine wkV ?_
    apply ex3
    ·intro u K hK
     go_simp
     refine(dh 0 (-1) 1 (z-y+ex) _ (by omega) (by omega) (by omega) (by omega)).mono ?_
     rintro e w9 ⟨rfl,hb9⟩
     exact hK _ hb9
    rfl
    try go_frame
    refine wkU (fun u hR K hK=> ?_) (fun o9=> ?_)
    ·clear hR
     go_simp
     exact hK _ _ bel (AY (fl _ [(0,1, -1, -(z-y+ex))] _) (Nat.zero_le _))
    try go_frame
    refine wkU (fun u hR K hK=> ?_) (fun o10=> ?_)
    ·have h9:(PK 0 [(0,1, -1, -(z-y+ex))]) o9 u.val:=hr hR 9
     clear hR
     obtain⟨a9,c9,a8,c8,_,rfl,hb9,hp9⟩:=fN (au (HS.out.rows _ (.head _)) u.below) h9
     go_simp
     exact hK _ _ hb9 hp9
    try go_frame
    refine aI (fun u hR=> ?_)
    have hp:aO [sq,[(0,1, -1, -(z-y+ex))]] o10 u.val:=hR 10 (by simp)
    have HSu:=Lib.hid (HS.out.grow u.below)
    clear hR HS s0 sf sz j0 j1 j2 j3 j4 jz
    generalize u.val=Y at*
    clear u
    simp only[oas]
    go_wp2_with fail
    refine(bA (css:=D2++[wC l w t [sq,[(0, -1, -1, -(y+z+ex))]]]++[wC l w t [sq,[(0, -1,1, -(y-z+ex))]]]) (n:=k2+5) P3.out HG.out hgW (by first|omega|(simp only[List.length_append,List.length_cons,List.length_nil];omega)) (by first|omega|(simp only[List.length_append,List.length_cons,List.length_nil];omega)) HSu.out hp).mono ?_
    rintro e Z ⟨ra,rc,rfl,s0,sf,sz,HS⟩
    clear hp HSu P3
    go_wp2
    refine NoPanic.normal ?_
    clear s0 sf sz
    generalize Z.setCell ⟨W.heap.size,0,none⟩ (.slice ra (k2+5) rc)=Z2 at*
    obtain⟨j0,j1,j2,j3,j4,_,jz⟩:=bM (HS.out.at _ (.tail _ HMJ.out))
    obtain⟨s0,sf,sz⟩:=HS.out.box
    go_wp2
    apply aj [] [0,1,2,3,4,5,6,7,8,9,10] 11 [12] [sv _,sv _,sv _,sv _,sv _,sv _,sv _,sv _,sv _,⟨PK 0 [(0,1,1,y+z-ex)],by first|exact aw _ _|exact ap _|exact ar _ _ _|exact aA _ _ _⟩,⟨aO [sq,[(0,1,1,y+z-ex)]],by first|exact aw _ _|exact ap _|exact ar _ _ _|exact aA _ _ _⟩] (by kernel_rfl) (by kernel_rfl)
    iterate 8 ((try go_frame);refine wkQ ?_)
    try go_frame
    refine wkV ?_
    apply ex3
    ·intro u K hK
     go_simp
     refine(cM _ _ _ _ _).mono ?_
     rintro e w9 ⟨rfl,hb9⟩
     exact hK _ hb9
    rfl
    try go_frame
    refine wkU (fun u hR K hK=> ?_) (fun o9=> ?_)
    ·clear hR
     go_simp
     exact hK _ _ bel (AY (fl _ [(0,1,1,y+z-ex)] _) (Nat.zero_le _))
    try go_frame
    refine wkU (fun u hR K hK=> ?_) (fun o10=> ?_)
    ·have h9:(PK 0 [(0,1,1,y+z-ex)]) o9 u.val:=hr hR 9
     clear hR
     obtain⟨a9,c9,a8,c8,_,rfl,hb9,hp9⟩:=fN (au (HS.out.rows _ (.head _)) u.below) h9
     go_simp
     exact hK _ _ hb9 hp9
    try go_frame
    refine aI (fun u hR=> ?_)
    have hp:aO [sq,[(0,1,1,y+z-ex)]] o10 u.val:=hR 10 (by simp)
    have HSu:=Lib.hid (HS.out.grow u.below)
    clear hR HS s0 sf sz j0 j1 j2 j3 j4 jz
    generalize u.val=Y at*
    clear u
    simp only[oas]
    go_wp2_with fail
    refine(bA (css:=D2++[wC l w t [sq,[(0, -1, -1, -(y+z+ex))]]]++[wC l w t [sq,[(0, -1,1, -(y-z+ex))]]]++[wC l w t [sq,[(0,1, -1, -(z-y+ex))]]]) (n:=k2+6) P4.out HG.out hgW (by first|omega|(simp only[List.length_append,List.length_cons,List.length_nil];omega)) (by first|omega|(simp only[List.length_append,List.length_cons,List.length_nil];omega)) HSu.out hp).mono ?_
    rintro e Z ⟨ra,rc,rfl,s0,sf,sz,HS⟩
    clear hp HSu P4
    go_wp2
    refine NoPanic.normal ?_
    clear s0 sf sz
    generalize Z.setCell ⟨W.heap.size,0,none⟩ (.slice ra (k2+6) rc)=Z2 at*
    go_wp2
    go_roundw
    case rel=>exact⟨i+1,by omega,by go_num,by rw[Hpi.out],_,Lib.hid (by rw[Hsi2.out];exact HS.out.sub (fun _ h=>h) (fun z hz=>by
     obtain rfl:z=_:=by simpa using hz
     exact .tail _ (.tail _ (.head _))))⟩
    case measure=>first|(simp[intOf];done)|(simp[intOf];omega)
  ·obtain rfl:i=N:=by omega
   have g1:¬(i:Int)<(i:Int):=by omega
   have HSR:=Lib.hid (HS.out.sub (L':=(W.heap.size+1+1,#[Value.slice none 0 0],30)::L) (H':=[]) (fun z hz=> .tail _ (HMR.out z hz)) (fun _ h=>(by cases h)))
   obtain⟨s0,sf,sz⟩:=HS.out.box
   obtain⟨r0,rf,rz⟩:=HSR.out.box
   clear HS
   go_wp2
   have HSP:=Lib.hid (HSR.out.put (.slice sa (acc i).length sc) (by omega) (by decide) (fun y hy=>by have:=HLt.out y hy;omega))
   have r1:=HSP.out.box.1
   clear s0 sf sz r0 rf rz
   generalize World.setCell _ ⟨W.heap.size+1+1,0,none⟩ _=Z2 at*
   refine bodyPost_ret (v:= .agg #[.slice sa (acc i).length sc]) (by simp[results,Tryz.results94,go_sem,r1]) rfl ⟨_,rfl,HSP.out.sub (fun _ h=> .tail _ h) (fun _ h=>h)⟩
end
end Go.Proofs.YtokhkhnofkcalaaGreatDoor
