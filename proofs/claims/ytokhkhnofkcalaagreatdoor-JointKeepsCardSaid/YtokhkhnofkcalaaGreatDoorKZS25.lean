/- texts: W8 W9 WA WB WC WD RA. -/
import Derived.Test.YtokhkhnofkcalaaGreatDoorKZS24
namespace Go.Proofs.YtokhkhnofkcalaaGreatDoor
set_option maxHeartbeats 8000000
set_option linter.unusedSimpArgs false
set_option linter.unusedVariables false
section
open Go.RowKit Go.Shelf
attribute [local go_sem] Ext.cell Ext.frozen
theorem dh (a b c d:Int) (W:World) (ha: -10000000≤a∧a≤10000000) (hb: -10000000≤b∧b≤10000000) (hc: -10000000≤c∧c≤10000000) (hd: -10000000≤d∧d≤10000000):
  Calls Tryz.prog 42 #[.int .i64 a, .int .i64 b, .int .i64 c, .int .i64 d] W (Ret W (v4 (-a, -b, -c, -d))):=by
 have wa:IntKind.i64.wrap (-a)= -a:=IntWalk.i64_in _ (by omega)
 have wb:IntKind.i64.wrap (-b)= -b:=IntWalk.i64_in _ (by omega)
 have wc:IntKind.i64.wrap (-c)= -c:=IntWalk.i64_in _ (by omega)
 have wd:IntKind.i64.wrap (-d)= -d:=IntWalk.i64_in _ (by omega)
 go_enter Tryz.func42,Tryz.ntmps42
 go_wp2
 refine bodyPost_ret (v:=v4 (-a, -b, -c, -d)) (by simp[results,Tryz.results42,go_sem]) rfl ⟨rfl, ?_⟩
 exact bel
theorem cM (a b c d:Int) (W:World):
  Calls Tryz.prog 43 #[.int .i64 a, .int .i64 b, .int .i64 c, .int .i64 d] W (Ret W (v4 (a,b,c,d))):=by
 go_enter Tryz.func43,Tryz.ntmps43
 go_wp2
 refine bodyPost_ret (v:=v4 (a,b,c,d)) (by simp[results,Tryz.results43,go_sem]) rfl ⟨rfl, ?_⟩
 exact bel
def IsN (B:Nat) (ps:List Q4):Value→World→Prop:=fun v w=>∃g,v= .slice (some ⟨g,0,none⟩) ps.length ps.length∧B≤g∧w.heap[g]? =some (.cells (ps.flatMap aH).toArray 69 (0,0))
theorem zh (B:Nat) (ps:List Q4):dR (IsN B ps):=fun _ _ _ hb ⟨g,h1,h2,h3⟩=>⟨g,h1,h2,(hb.block g (ah h3)).trans h3⟩
theorem vY (a b:Int) (W:World) (ha: -10000000≤a∧a≤10000000):
  Calls Tryz.prog 40 #[.int .i64 a, .int .i64 b] W fun e w'=>∃v,e= .returned v∧Below W.heap.size W w'∧IsN W.heap.size (btP 0 a b) v w':=by
 have h1:=fun W'=>Lib.hid (dh 1 0 0 a W' (by omega) (by omega) (by omega) ha)
 have h2:=fun W'=>Lib.hid (cM 1 0 0 b W')
 go_enter Tryz.func40,Tryz.ntmps40
 go_wp2_with fail
 refine((h1 _).out).mono ?_
 rintro e w1 ⟨rfl,hb1⟩
 go_wp2_with fail
 refine((h2 _).out).mono ?_
 rintro e w2 ⟨rfl,hb2⟩
 have hb:=ae hb1 hb2
 go_wp2
 go_ret
 have hs:=hb.size
 exact⟨_,rfl,ae hb bel,_,rfl,hs,ai rfl⟩
theorem rG (a b:Int) (W:World) (ha: -10000000≤a∧a≤10000000):
  Calls Tryz.prog 38 #[.int .i64 a, .int .i64 b] W fun e w'=>∃v,e= .returned v∧Below W.heap.size W w'∧IsN W.heap.size (btP 1 a b) v w':=by
 have h1:=fun W'=>Lib.hid (dh 0 1 0 a W' (by omega) (by omega) (by omega) ha)
 have h2:=fun W'=>Lib.hid (cM 0 1 0 b W')
 go_enter Tryz.func38,Tryz.ntmps38
 go_wp2_with fail
 refine((h1 _).out).mono ?_
 rintro e w1 ⟨rfl,hb1⟩
 go_wp2_with fail
 refine((h2 _).out).mono ?_
 rintro e w2 ⟨rfl,hb2⟩
 have hb:=ae hb1 hb2
 go_wp2
 go_ret
 have hs:=hb.size
 exact⟨_,rfl,ae hb bel,_,rfl,hs,ai rfl⟩
theorem rH (a b:Int) (W:World) (ha: -10000000≤a∧a≤10000000):
  Calls Tryz.prog 37 #[.int .i64 a, .int .i64 b] W fun e w'=>∃v,e= .returned v∧Below W.heap.size W w'∧IsN W.heap.size (btP 2 a b) v w':=by
 have h1:=fun W'=>Lib.hid (dh 0 0 1 a W' (by omega) (by omega) (by omega) ha)
 have h2:=fun W'=>Lib.hid (cM 0 0 1 b W')
 go_enter Tryz.func37,Tryz.ntmps37
 go_wp2_with fail
 refine((h1 _).out).mono ?_
 rintro e w1 ⟨rfl,hb1⟩
 go_wp2_with fail
 refine((h2 _).out).mono ?_
 rintro e w2 ⟨rfl,hb2⟩
 have hb:=ae hb1 hb2
 go_wp2
 go_ret
 have hs:=hb.size
 exact⟨_,rfl,ae hb bel,_,rfl,hs,ai rfl⟩
end
section
open Go.RowKit Go.Shelf
set_option maxRecDepth 100000
attribute [local go_sem] Ext.cell Ext.frozen
theorem fK {w:World} {g:Nat} {ps:List Q4} {T:TypeId} (h:w.heap[g]? =some (.cells (ps.flatMap aH).toArray T (0,0))):∀j u,(ps.flatMap aH)[j]? =some u→w.cell? ((⟨g,0,none⟩:Addr).add j)=some u:=by
 intro j u hu
 rw[jY,ag h]
 simpa using hu
theorem dl {ps:List Q4}:∀v∈ps.flatMap aH,v.oneCell'=true:=by
 intro v hv
 obtain⟨x,_,h⟩:=List.mem_flatMap.1 hv
 simp[aH]at h
 rcases h with rfl|rfl|rfl|rfl<;>rfl
theorem vZ (l w t:Int) (W:World):
  Calls Tryz.prog 92 #[.agg #[.int .i64 l, .int .i64 w, .int .i64 t]] W fun e w'=>∃r,e= .returned r∧Below W.heap.size W w'∧w'.ownsRow W.heap.size 69 4 r (aP l w t).length ((aP l w t).flatMap aH):=by
 obtain⟨i0,hi0,hz0,hz1,hz2⟩:=info_parts cY
 have Hi0:=Lib.hid (And.intro hi0 (And.intro hz0 (And.intro hz1 hz2)))
 clear hi0 hz0 hz1 hz2
 have HX:=fun W'=>Lib.hid (vY 0 l W' (by omega))
 have HY:=fun W'=>Lib.hid (rG 0 w W' (by omega))
 have HZ:=fun W'=>Lib.hid (rH 0 t W' (by omega))
 have HBX:Hid (aP l w t=btP 0 0 l++btP 1 0 w++btP 2 0 t):=Lib.hid rfl
 rw[HBX.out]
 obtain⟨px,hpx⟩:∃px,px=btP 0 0 l:=⟨_,rfl⟩
 obtain⟨py,hpy⟩:∃py,py=btP 1 0 w:=⟨_,rfl⟩
 obtain⟨pz,hpz⟩:∃pz,pz=btP 2 0 t:=⟨_,rfl⟩
 have lx:px.length=2:=by rw[hpx];rfl
 have ly:py.length=2:=by rw[hpy];rfl
 have lz:pz.length=2:=by rw[hpz];rfl
 have ex:(px.flatMap aH).length=2*4:=by rw[bh,lx]
 have ey:(py.flatMap aH).length=2*4:=by rw[bh,ly]
 have ez:(pz.flatMap aH).length=2*4:=by rw[bh,lz]
 rw[←hpx]at HX ⊢
 rw[←hpy]at HY ⊢
 rw[←hpz]at HZ ⊢
 clear hpx hpy hpz HBX
 obtain⟨V,HV⟩:∃V,Hid (W.alloc (.cells #[.int .i64 l, .int .i64 w, .int .i64 t] 22)=V):=⟨_,Lib.hid rfl⟩
 have hV:Below W.heap.size W V:=by rw[←HV.out];exact bel
 have HB:Hid (V.heap[W.heap.size]? =some (.cells #[.int .i64 l, .int .i64 w, .int .i64 t] 22 (0,0))):=Lib.hid (by rw[←HV.out];exact ai rfl)
 obtain⟨b0,b1,b2,fb,zb⟩:=dQ HB.out
 go_enter Tryz.func92,Tryz.ntmps92
 go_wp2
 rw[HV.out]
 clear HV
 refine cX [0,1,2,3,4,5,6,7,8,9] 10 [11] (pick [IsV (.pointer (some ⟨W.heap.size,0,none⟩)),IsV (.int .i64 l),IsN V.heap.size px,IsV (.pointer (some ⟨W.heap.size,1,none⟩)),IsV (.int .i64 w),IsN V.heap.size py,IsO V.heap.size 4 (px++py),IsV (.pointer (some ⟨W.heap.size,2,none⟩)),IsV (.int .i64 t),IsN V.heap.size pz]) (by kernel_rfl) (by kernel_rfl) (Stabs.pick (by repeat(first|exact Stabs.nil|refine Stabs.cons (by first|exact dj _|exact zh _ _|exact fJ _ _ _) ?_))) ?_
 try go_frame
 refine wgS (fun w' hb' hR K hK=> ?_) (fun o0=> ?_)
 ·clear hR
  go_simp
  exact hK _ _ brf rfl
 try go_frame
 refine wgS (fun w' hb' hR K hK=> ?_) (fun o1=> ?_)
 ·obtain rfl:o0= .pointer (some ⟨W.heap.size,0,none⟩):=hr hR 0
  clear hR
  have cc:=ab hb' b0
  have hzz:=Nat.lt_of_lt_of_le zb hb'.size
  go_simp
  exact hK _ _ brf rfl
 try go_frame
 refine wgS (fun w' hb' hR K hK=> ?_) (fun o2=> ?_)
 ·obtain rfl:o1= .int .i64 l:=hr hR 1
  clear hR
  go_simp
  refine((HX _).out).mono ?_
  rintro e w9 ⟨r,rfl,hb9,g,rfl,hg,hh⟩
  exact hK _ _ hb9 ⟨g,rfl,Nat.le_trans hb'.size hg,hh⟩
 try go_frame
 refine wgS (fun w' hb' hR K hK=> ?_) (fun o3=> ?_)
 ·clear hR
  go_simp
  exact hK _ _ brf rfl
 try go_frame
 refine wgS (fun w' hb' hR K hK=> ?_) (fun o4=> ?_)
 ·obtain rfl:o3= .pointer (some ⟨W.heap.size,1,none⟩):=hr hR 3
  clear hR
  have cc:=ab hb' b1
  have hzz:=Nat.lt_of_lt_of_le zb hb'.size
  go_simp
  exact hK _ _ brf rfl
 try go_frame
 refine wgS (fun w' hb' hR K hK=> ?_) (fun o5=> ?_)
 ·obtain rfl:o4= .int .i64 w:=hr hR 4
  clear hR
  go_simp
  refine((HY _).out).mono ?_
  rintro e w9 ⟨r,rfl,hb9,g,rfl,hg,hh⟩
  exact hK _ _ hb9 ⟨g,rfl,Nat.le_trans hb'.size hg,hh⟩
 try go_frame
 refine wgS (fun w' hb' hR K hK=> ?_) (fun o6=> ?_)
 ·have h2:(IsN V.heap.size px) o2 w':=hr hR 2
  have h5:(IsN V.heap.size py) o5 w':=hr hR 5
  clear hR
  obtain⟨g2,rfl,_,hh2⟩:=h2
  obtain⟨g5,rfl,_,hh5⟩:=h5
  obtain⟨v9,w9,hrun,hown9,hb9⟩:=dM (P:=Tryz.prog) (w:=w') 65 65 69 i0 (v4 (0,0,0,0)) 4 32 be Hi0.out.1 Hi0.out.2.1 Hi0.out.2.2.1 Hi0.out.2.2.2 rfl (by decide) ⟨g2,0,none⟩ px.length px.length (px.flatMap aH) (bh px) (fK hh2) ⟨g5,0,none⟩ py.length py.length (py.flatMap aH) (bh py) (fK hh5) (by omega) (by unfold maxLen;omega) (by omega)
  exact cZ _ _ 65 rfl hrun (hK _ _ hb9 (by have h9:=AY hown9 hb'.size;rw[lx,ly, ←List.flatMap_append]at h9;exact h9))
 try go_frame
 refine wgS (fun w' hb' hR K hK=> ?_) (fun o7=> ?_)
 ·clear hR
  go_simp
  exact hK _ _ brf rfl
 try go_frame
 refine wgS (fun w' hb' hR K hK=> ?_) (fun o8=> ?_)
 ·obtain rfl:o7= .pointer (some ⟨W.heap.size,2,none⟩):=hr hR 7
  clear hR
  have cc:=ab hb' b2
  have hzz:=Nat.lt_of_lt_of_le zb hb'.size
  go_simp
  exact hK _ _ brf rfl
 try go_frame
 refine wgS (fun w' hb' hR K hK=> ?_) (fun o9=> ?_)
 ·obtain rfl:o8= .int .i64 t:=hr hR 8
  clear hR
  go_simp
  refine((HZ _).out).mono ?_
  rintro e w9 ⟨r,rfl,hb9,g,rfl,hg,hh⟩
  exact hK _ _ hb9 ⟨g,rfl,Nat.le_trans hb'.size hg,hh⟩
 try go_frame
 refine dE (fun w' hb' hR=> ?_)
 have ho6:w'.ownsRow V.heap.size 69 4 o6 4 ((px++py).flatMap aH):=hR 6 (by simp)
 have HO6:=Lib.hid ho6
 obtain⟨g9,rfl,_,hh9⟩:IsN V.heap.size pz o9 w':=hR 9 (by simp)
 have HH9:=Lib.hid hh9
 clear hR ho6 hh9
 rw[lz]
 simp only[oas]
 refine wpList_append_own _ rfl _ _ 65 rfl V.heap.size 69 i0 (v4 (0,0,0,0)) 4 32 be Hi0.out.1 Hi0.out.2.1 Hi0.out.2.2.1 Hi0.out.2.2.2 rfl (by decide) _ 4 _ rfl HO6.out ⟨g9,0,none⟩ 2 2 (pz.flatMap aH) rfl ez (fK HH9.out) ?c2 ?c3 ?c4 ?c5 ?_
 case c2=>exact dl
 case c3=>unfold maxLen;omega
 case c4=>omega
 case c5=>exact hb'.size
 intro v5 w5 hown5 hg5 _
 have hb5:Below V.heap.size V w5:=hb'.grown hg5 hb'.size (fun z hz=>(HO6.out.lt z hz).1)
 have HO5:=Lib.hid hown5
 clear hown5 hg5
 go_frame
 iterate 1 (refine wpList_step (fun K hK=> ?_);go_simp;refine hK _ _ ?_;clear hK K)
 refine NoPanic.normal ?_
 go_wp2
 go_ret
 have h9:=AY (base':=W.heap.size) HO5.out hV.size
 have hl9:(px++py++pz).length=6:=by simp;omega
 refine⟨_,rfl,ae hV hb5, ?_⟩
 rw[hl9]
 simpa [List.flatMap_append]using h9
def yE (T:TypeId) (w w':World):Prop:=∀(g:Nat) (c:Array Value) (t:TypeId),w.heap[g]? =some (Obj.cells c t (0,0))→t≠T→w'.heap[g]? =some (Obj.cells c t (0,0))
def IsA (B k:Nat) (ps:List Q4):Value→World→Prop:=fun u w=>∃v,u= .agg #[v]∧w.ownsRow B 69 4 v k (ps.flatMap aH)
theorem zt (B k:Nat) (ps:List Q4):dR (IsA B k ps):=fun _ _ _ hb ⟨g,h1,h2⟩=>⟨g,h1,au h2 hb⟩
def zv (B k:Nat) (ps:List Q4):Value→World→Prop:=fun u w=>∃g v,u= .slice (some ⟨g,0,none⟩) 1 1∧w.heap[g]? =some (.cells #[v] 67 (0,0))∧w.ownsRow B 69 4 v k (ps.flatMap aH)
theorem yi (B k:Nat) (ps:List Q4):dR (zv B k ps):=fun _ _ _ hb ⟨g,v,h1,h2,h3⟩=>⟨g,v,h1,(hb.block g (ah h2)).trans h2,au h3 hb⟩
theorem nC (k l w t:Int) (nv:Value) (B:Nat) (sv:Value) (vs:List Value) (css:List (List Q4)) (pv:Value) (pls:List (List Q4)) (W:World) (hB:B≤W.heap.size)
  (hs:W.ownsRow B 67 1 sv css.length vs) (hr:RowsV W B vs css) (hcn:css.length≤1000000) (hpn:pls.length≤64) (hp:Each W pv (PlanesV 0) pls)
  (hok:∀p∈aP l w t++pls.flatten,cI p) (hlen:(aP l w t++pls.flatten).length≤64):
  Calls Tryz.prog 36 #[.agg #[sv],vJ k l w t nv,pv] W fun e w'=>∃r vs',e= .returned (.agg #[r])∧Below B W w'∧
   w'.ownsRow B 67 1 r (css.length+1) vs'∧RowsV w' B vs' (css++[ch (aP l w t++pls.flatten)])∧yE 67 W w':=by
 obtain⟨i0,hi0,hz0,hz1,hz2⟩:=info_parts cY
 have Hi0:=Lib.hid (And.intro hi0 (And.intro hz0 (And.intro hz1 hz2)))
 obtain⟨i1,hi1,hy0,hy1,hy2⟩:=info_parts nt
 have Hi1:=Lib.hid (And.intro hi1 (And.intro hy0 (And.intro hy1 hy2)))
 clear hi0 hz0 hz1 hz2 hi1 hy0 hy1 hy2
 obtain⟨pa,n,pc,rfl,hn,_,hx⟩:=hp
 have HX:=Lib.hid hx
 have HBx:=fun W'=>Lib.hid (vZ l w t W')
 have HN:=fun v W' h=>Lib.hid (pW (aP l w t++pls.flatten) v W' hok hlen h)
 have Hacc:Hid (∀i (h:i<pls.length),aP l w t++(pls.take (i+1)).flatten=(aP l w t++(pls.take i).flatten)++pls[i]):=Lib.hid (fun i h=>by rw[List.take_succ_eq_append_getElem h,List.flatten_append];simp)
 have Hac0:Hid (aP l w t++(pls.take 0).flatten=aP l w t):=Lib.hid (by simp)
 have Hacn:Hid (aP l w t++(pls.take n).flatten=aP l w t++pls.flatten):=Lib.hid (by rw[←hn,List.take_length])
 have Hle:Hid (∀i,(aP l w t++(pls.take i).flatten).length≤64):=Lib.hid (fun i=>by
  have h1:(pls.take i).flatten.length≤pls.flatten.length:=by
   conv=>rhs;rw[←List.take_append_drop i pls]
   rw[List.flatten_append,List.length_append]
   omega
  rw[List.length_append]at hlen ⊢
  omega)
 obtain⟨acc,hacc⟩:∃acc:Nat→List Q4,acc=fun i=>aP l w t++(pls.take i).flatten:=⟨_,rfl⟩
 have Hacc':Hid (∀i (h:i<pls.length),acc (i+1)=acc i++pls[i]):=Lib.hid (by rw[hacc];exact Hacc.out)
 have Hac0':Hid (acc 0=aP l w t):=Lib.hid (by rw[hacc];exact Hac0.out)
 have Hacn':Hid (acc n=aP l w t++pls.flatten):=Lib.hid (by rw[hacc];exact Hacn.out)
 have Hle':Hid (∀i,(acc i).length≤64):=Lib.hid (by rw[hacc];exact Hle.out)
 clear Hacc Hac0 Hacn Hle hacc hok hlen hx
 generalize aP l w t++pls.flatten=P at*
 generalize ch P=res at*
 obtain⟨V,HV⟩:∃V,Hid (((W.alloc (.cells #[sv] 30)).alloc (.cells #[.int .i64 k, .int .i64 l, .int .i64 w, .int .i64 t,nv] 25)).alloc (.cells #[.slice none 0 0] 30)=V):=⟨_,Lib.hid rfl⟩
 have hV:Below W.heap.size W V:=by rw[←HV.out];exact bel
 have zV:W.heap.size+3≤V.heap.size:=by rw[←HV.out];simp
 have HA:Hid (V.heap[W.heap.size]? =some (.cells #[sv] 30 (0,0))):=Lib.hid (by rw[←HV.out];exact(aB (by simp;omega)).trans ((aB (by simp)).trans (ai rfl)))
 have HJ:Hid (V.heap[W.heap.size+1]? =some (.cells #[.int .i64 k, .int .i64 l, .int .i64 w, .int .i64 t,nv] 25 (0,0))):=Lib.hid (by rw[←HV.out];exact(aB (by simp)).trans (ai (by simp)))
 have HR:Hid (V.heap[W.heap.size+1+1]? =some (.cells #[.slice none 0 0] 30 (0,0))):=Lib.hid (by rw[←HV.out];exact ai (by simp))
 obtain⟨sa,sc,rfl⟩:=aT hs
 have HS:=Lib.hid (au hs hV)
 have HRw:=Lib.hid (hr.below hV)
 clear hs hr
 obtain⟨_,j1,j2,j3,_,_,jz⟩:=bM HJ.out
 go_enter Tryz.func36,Tryz.ntmps36
 simp only[vJ]
 go_wp2_with fail
 rw[HV.out]
 refine((HBx V).out).mono ?_
 rintro e W1 ⟨bv,rfl,hb1,hob⟩
 have HO1:=Lib.hid hob
 have HX1:Hid (0<n→∃b off,pa=some ⟨b,off,none⟩∧∀i (h:i<pls.length),∃u,V.cell? ⟨b,off+i,none⟩=some u∧PlanesV 0 V u pls[i]):=Lib.hid (fun h=>by
  obtain⟨b,off,ha,hi⟩:=HX.out h
  exact⟨b,off,ha,fun i h=>by obtain⟨u,hu,he⟩:=hi i h;exact⟨u,ab hV hu,he.below hV⟩⟩)
 clear hob HX HBx HV
 go_wp2
 go_loopw [7,8] (fun s x wr=>∃i:Nat,i≤n∧x= .int .i64 i∧Below V.heap.size V wr∧Hid (wr.ownsRow V.heap.size 69 4 s (acc i).length ((acc i).flatMap aH))) (fun _ x _=>n-(intOf x).toNat)
 case atStart=>exact⟨0,by omega,rfl,hb1,Lib.hid (by rw[Hac0'.out];exact HO1.out)⟩
 case round=>
  obtain⟨i,hi,rfl,hb,HO⟩:=hrel
  by_cases hlt:i<n
  ·have g1:(i:Int)<(n:Int):=by omega
   have g2:(0:Int)≤(i:Int):=by omega
   have hil:i<pls.length:=by omega
   obtain⟨b,off,rfl,hi4⟩:=HX1.out (by omega)
   obtain⟨u,hu,hpl⟩:=hi4 i hil
   have x0:=ab hb hu
   have zx:=World.block_lt_of_cell? wr _ x0
   simp only at zx
   have Hs:=Lib.hid (Hacc'.out i hil)
   have hl1:=Hle'.out i
   have hl2:=Hle'.out (i+1)
   rw[Hs.out,List.length_append]at hl2
   obtain⟨⟨ua,um,uc,rfl,hul,hun,huc⟩,_⟩:=hpl.below hb
   rw[bh]at hul
   have Huc:=Lib.hid huc
   generalize acc i=A at*
   generalize pls[i]=q at*
   clear hi4 hu hpl huc HX1
   obtain rfl:um=q.length:=by omega
   cases ua with
   |none=>
    obtain⟨hz1,rfl⟩:=hun rfl
    obtain rfl:q=[]:=List.length_eq_zero_iff.1 hz1
    go_wp2_with (at_builtin;refine wpList_append_own_none rfl _ _ 65 rfl V.heap.size 69 i0 4 be Hi0.out.1 _ _ _ rfl HO.out rfl ?_)
    go_wp2
    go_roundw
    case rel=>exact⟨i+1,by omega,by go_num,hb,Lib.hid (by rw[Hs.out,List.append_nil];exact HO.out)⟩
    case measure=>first|(simp[intOf];done)|(simp[intOf];omega)
   |some ad=>
    clear hun
    go_wp2_with (at_builtin;refine wpList_append_own _ rfl _ _ 65 rfl V.heap.size 69 i0 (v4 (0,0,0,0)) 4 32 be Hi0.out.1 Hi0.out.2.1 Hi0.out.2.2.1 Hi0.out.2.2.2 rfl (by decide) _ A.length _ rfl HO.out ad q.length uc (q.flatMap aH) rfl (bh q) (Huc.out ad rfl) ?c2 ?c3 ?c4 ?c5 ?_)
    case c2=>first|exact dl|(intro u a b c d _ h;simp[aH]at h;rcases h with rfl|rfl|rfl|rfl<;>rfl)
    case c3=>unfold maxLen;omega
    case c4=>omega
    case c5=>exact hb.size
    intro v5 w5 hown5 hg5 _
    have hb5:Below V.heap.size V w5:=hb.grown hg5 hb.size (fun z hz=>(HO.out.lt z hz).1)
    have HO5:=Lib.hid hown5
    clear hown5 hg5
    go_wp2
    go_roundw
    case rel=>exact⟨i+1,by omega,by go_num,hb5,Lib.hid (by rw[Hs.out];simpa [List.flatMap_append]using HO5.out)⟩
    case measure=>first|(simp[intOf];done)|(simp[intOf];omega)
  ·obtain rfl:i=n:=by omega
   have g1:¬(i:Int)<(i:Int):=by omega
   rw[Hacn'.out]at HO
   have HPs:=Lib.hid (dV HO.out)
   obtain⟨pa2,pm2,rfl⟩:=aT HO.out
   have HA6:=Lib.hid ((hb.block _ (ah HA.out)).trans HA.out)
   have HR6:=Lib.hid ((hb.block _ (ah HR.out)).trans HR.out)
   have HS6:=Lib.hid (au HS.out hb)
   have HRw6:=Lib.hid (HRw.out.below hb)
   have a0:=(ag HA6.out 0).trans rfl
   have za:=ah HA6.out
   simp only[List.getElem?_toArray,List.getElem?_cons_zero]at a0
   clear HX1 HO HA HR HS HRw Hacc' Hle' Hac0' Hacn'
   go_wp2
   refine cX [0,1,2,3,4,5] 6 [7,8] (pick [IsV (.pointer (some ⟨W.heap.size,0,none⟩)),IsV (.slice sa css.length sc),IsV (.slice pa2 P.length pm2),IsO wr.heap.size res.length res,IsA wr.heap.size res.length res,zv wr.heap.size res.length res]) (by kernel_rfl) (by kernel_rfl) (Stabs.pick (by repeat(first|exact Stabs.nil|refine Stabs.cons (by first|exact dj _|exact fJ _ _ _|exact zt _ _ _|exact yi _ _ _) ?_))) ?_
   try go_frame
   refine wgS (fun w' hb' hR K hK=> ?_) (fun o0=> ?_)
   ·clear hR
    go_simp
    exact hK _ _ brf rfl
   try go_frame
   refine wgS (fun w' hb' hR K hK=> ?_) (fun o1=> ?_)
   ·obtain rfl:o0= .pointer (some ⟨W.heap.size,0,none⟩):=hr hR 0
    clear hR
    have cc:=ab hb' a0
    have hzz:=Nat.lt_of_lt_of_le za hb'.size
    go_simp
    exact hK _ _ brf rfl
   try go_frame
   refine wgS (fun w' hb' hR K hK=> ?_) (fun o2=> ?_)
   ·clear hR
    go_simp
    exact hK _ _ brf rfl
   try go_frame
   refine wgS (fun w' hb' hR K hK=> ?_) (fun o3=> ?_)
   ·obtain rfl:o2= .slice pa2 P.length pm2:=hr hR 2
    clear hR
    go_simp
    refine((HN _ _ (HPs.out.below hb')).out).mono ?_
    rintro e w9 ⟨r,rfl,hb9,ho9⟩
    exact hK _ _ hb9 (AY ho9 hb'.size)
   try go_frame
   refine wgS (fun w' hb' hR K hK=> ?_) (fun o4=> ?_)
   ·have h3:(IsO wr.heap.size res.length res) o3 w':=hr hR 3
    clear hR
    obtain⟨a9,c9,rfl⟩:=aT h3
    have H3:=Lib.hid h3
    clear h3
    go_simp
    exact hK _ _ (Below.refl _ _) ⟨_,rfl,H3.out⟩
   try go_frame
   refine wgS (fun w' hb' hR K hK=> ?_) (fun o5=> ?_)
   ·have h4:(IsA wr.heap.size res.length res) o4 w':=hr hR 4
    clear hR
    obtain⟨v9,rfl,ho9⟩:=h4
    obtain⟨a9,c9,rfl⟩:=aT ho9
    have H4:=Lib.hid ho9
    clear ho9
    go_simp
    exact hK _ _ bel ⟨_,_,rfl,ai rfl,H4.out.alloc _⟩
   try go_frame
   refine dE (fun w' hb' hR=> ?_)
   obtain⟨g9,v9,rfl,hh9,ho9⟩:zv wr.heap.size res.length res o5 w':=hR 5 (by simp)
   obtain rfl:o1= .slice sa css.length sc:=hR 1 (by simp)
   have HH9:=Lib.hid hh9
   have HO9:=Lib.hid ho9
   have HA7:=Lib.hid ((hb'.block _ (ah HA6.out)).trans HA6.out)
   have HR7:=Lib.hid ((hb'.block _ (ah HR6.out)).trans HR6.out)
   have HS7:=Lib.hid (au HS6.out hb')
   have HRw7:=Lib.hid (HRw6.out.below hb')
   have hBw:B≤wr.heap.size:=by have:=hb.size;omega
   have hBw':B≤w'.heap.size:=Nat.le_trans hBw hb'.size
   have hsn:=HRw7.out.snoc (AY HO9.out hBw)
   have HSN:=Lib.hid hsn
   have hbW:Below W.heap.size W w':=ae hV (ae hb hb')
   have zWw:W.heap.size≤w'.heap.size:=hbW.size
   clear hR hh9 ho9 HA6 HR6 HS6 HRw6 HPs HN hsn
   simp only[oas]
   refine wpList_append_own _ rfl _ _ 28 rfl B 67 i1 (.agg #[.slice none 0 0]) 1 24 nu Hi1.out.1 Hi1.out.2.1 Hi1.out.2.2.1 Hi1.out.2.2.2 rfl (by decide) _ css.length vs rfl HS7.out ⟨g9,0,none⟩ 1 1 [v9] rfl rfl ?c1 ?c2 ?c3 ?c4 ?c5 ?_
   case c1=>
    intro jj uu hu
    rw[jY,ag HH9.out]
    simpa using hu
   case c2=>
    obtain⟨a9,c9,rfl⟩:=aT HO9.out
    intro v hv
    simp at hv
    subst hv
    rfl
   case c3=>unfold maxLen;omega
   case c4=>omega
   case c5=>exact hBw'
   intro v5 w5 hown5 hg5 _
   have hb5:Below B W w5:=(hbW.mono hB).grown hg5 hBw' (fun z hz=>(HS7.out.lt z hz).1)
   have HA5:=Lib.hid ((hg5.block _ (ah HA7.out) (fun e=>aG HS7.out HA7.out (by decide) e.symm)).trans HA7.out)
   have HR5:=Lib.hid ((hg5.block _ (ah HR7.out) (fun e=>aG HS7.out HR7.out (by decide) e.symm)).trans HR7.out)
   have HRw5:=Lib.hid (HSN.out.kept hg5 (fun g cs hr hc=>by obtain⟨c,t,h1,h2⟩:=jC HS7.out g cs hr hc;exact⟨c,t,h1,by rw[h2];decide⟩))
   have HK5:Hid (yE 67 W w5):=Lib.hid (fun g c t h ht=>by
    have h1:=(hbW.block g (ah h)).trans h
    exact(hg5.block _ (ah h1) (fun e=>aG HS7.out h1 (fun e=>ht e.symm) e.symm)).trans h1)
   obtain⟨va,vc,rfl⟩:=aT hown5
   have HO5:=Lib.hid hown5
   clear hown5 hg5 HA7 HR7 HS7 HRw7 HSN HH9 HO9
   go_frame
   have a5:=(ag HA5.out 0).trans rfl
   have af:=aC HA5.out 0
   have za5:=ah HA5.out
   have r5:=(ag HR5.out 0).trans rfl
   have rf:=aC HR5.out 0
   have zr5:=ah HR5.out
   simp only[List.getElem?_toArray,List.getElem?_cons_zero]at a5 r5
   iterate 2 (refine wpList_step (fun K hK=> ?_);go_simp;refine hK _ _ ?_;clear hK K)
   refine NoPanic.normal ?_
   go_wp2
   refine bodyPost_ret (v:= .agg #[.slice va (css.length+1) vc]) (by simp[results,Tryz.results36,go_sem,r5]) rfl ⟨_,vs++[v9],rfl, ?_, ?_, ?_, ?_⟩
   ·exact(hb5.setCell (by dsimp only;omega) _).setCell (by dsimp only;omega) _
   ·have h1:=aF HO5.out ⟨W.heap.size,0,none⟩ (.slice va (css.length+1) vc) (fun e=>aG HO5.out HA5.out (by decide) e.symm)
    exact aF h1 _ _ (fun e=>aG HO5.out HR5.out (by decide) e.symm)
   ·exact(HRw5.out.set HA5.out (by decide)).set ((Below.heap_setCell _ _ _ _ (by dsimp only;omega)).trans HR5.out) (by decide)
   ·intro g c t h ht
    have hg:=ah h
    exact(Below.heap_setCell _ _ _ _ (by dsimp only;omega)).trans ((Below.heap_setCell _ _ _ _ (by dsimp only;omega)).trans (HK5.out g c t h ht))
theorem sC {W:World} {b off:Nat} {xs:List Int} (h:IntsAt W b off xs) (i:Nat) (hi:i<xs.length):W.cell? ⟨b,off+i,none⟩=some (.int .i64 (xs.getD i 0)):=by
 rw[h i hi]
 simp[List.getD,List.getElem?_eq_getElem hi]
theorem jI {B:Nat} {ps:List Q4} {v:Value} {w:World} (h:IsN B ps v w) (hl:ps.length≤1000000):w.ownsRow B 69 4 v ps.length (ps.flatMap aH):=by
 obtain⟨g,rfl,hB,hh⟩:=h
 exact⟨by rw[bh], .inr ⟨g,ps.length,(ps.flatMap aH).toArray,rfl,hB,hh,Nat.le_refl _,by unfold maxLen;omega,by simp only[List.size_toArray];rw[bh],by rw[←bh ps];simp[List.take_of_length_le]⟩⟩
theorem tN (k l w t:Int) (nv:Value) (n:List Int) (i:Nat) (W:World) (hn:Ints W nv n) (hb:∀x∈n, -1000000≤x∧x≤1000000) (hi:7+2*i<n.length) (hi6:i≤1000000):
  Calls Tryz.prog 51 #[vJ k l w t nv, .int .i64 i] W fun e w'=>∃r,e= .returned r∧Below W.heap.size W w'∧w'.ownsRow W.heap.size 69 4 r 8 ((gE n i).flatMap aH):=by
 obtain⟨i0,hi0,hz0,hz1,hz2⟩:=info_parts cY
 have Hi0:=Lib.hid (And.intro hi0 (And.intro hz0 (And.intro hz1 hz2)))
 clear hi0 hz0 hz1 hz2
 obtain⟨a,m,c,rfl,hm,hmc,hx⟩:=hn
 obtain⟨b,off,rfl,hat⟩:=hx (by omega)
 have hg:∀j, -1000000≤n.getD j 0∧n.getD j 0≤1000000:=fun j=>by
  by_cases h:j<n.length
  ·simp only[List.getD,List.getElem?_eq_getElem h,Option.getD_some];exact hb _ (List.getElem_mem h)
  ·simp only[List.getD,List.getElem?_eq_none (Nat.le_of_not_lt h),Option.getD_none];omega
 have g1:=hg 1
 have g2:=hg 2
 have g3:=hg (6+2*i)
 have g4:=hg (7+2*i)
 have k1:=sC hat 1 (by omega)
 have k2:=sC hat 2 (by omega)
 have k3:=sC hat (6+2*i) (by omega)
 have k4:=sC hat (7+2*i) (by omega)
 have Hh:Hid (gE n i=btP 1 (n.getD (6+2*i) 0-n.getD 1 0) (n.getD (6+2*i) 0+n.getD 1 0)++btP 2 (n.getD (7+2*i) 0-n.getD 1 0) (n.getD (7+2*i) 0+n.getD 1 0)++
   [(0,1,1,n.getD (6+2*i) 0+n.getD (7+2*i) 0+n.getD 2 0),(0,1, -1,n.getD (6+2*i) 0-n.getD (7+2*i) 0+n.getD 2 0),(0, -1,1,n.getD (7+2*i) 0-n.getD (6+2*i) 0+n.getD 2 0),(0, -1, -1, -(n.getD (6+2*i) 0+n.getD (7+2*i) 0-n.getD 2 0))]):=Lib.hid rfl
 rw[Hh.out]
 clear Hh
 generalize n.getD 1 0=r at*
 generalize n.getD 2 0=e at*
 generalize n.getD (6+2*i) 0=y at*
 generalize n.getD (7+2*i) 0=z at*
 have hc1:7+2*i<m:=by omega
 clear hg hb hx hat hi
 obtain⟨V,HV⟩:∃V,Hid (W.alloc (.cells #[.int .i64 k, .int .i64 l, .int .i64 w, .int .i64 t, .slice (some ⟨b,off,none⟩) m c] 25)=V):=⟨_,Lib.hid rfl⟩
 have hV:Below W.heap.size W V:=by rw[←HV.out];exact bel
 have HJ:Hid (V.heap[W.heap.size]? =some (.cells #[.int .i64 k, .int .i64 l, .int .i64 w, .int .i64 t, .slice (some ⟨b,off,none⟩) m c] 25 (0,0))):=Lib.hid (by rw[←HV.out];exact ai rfl)
 have k1:=ab hV k1
 have k2:=ab hV k2
 have k3:=ab hV k3
 have k4:=ab hV k4
 have kz:=World.block_lt_of_cell? V _ k1
 obtain⟨_,_,_,_,j4,_,jz⟩:=bM HJ.out
 have t1:((6+2*(i:Int)).toNat)=6+2*i:=by omega
 have t2:((7+2*(i:Int)).toNat)=7+2*i:=by omega
 have q1:(0:Int)≤6+2*(i:Int):=by omega
 have q2:(0:Int)≤7+2*(i:Int):=by omega
 have q3:6+2*(i:Int)<(m:Int):=by omega
 have q4:7+2*(i:Int)<(m:Int):=by omega
 have q5:(1:Int)<(m:Int):=by omega
 have q6:(2:Int)<(m:Int):=by omega
 have p1:IntKind.i64.wrap (2*(i:Int))=2*(i:Int):=IntWalk.i64_in _ (by omega)
 have p2:IntKind.i64.wrap (6+2*(i:Int))=6+2*(i:Int):=IntWalk.i64_in _ (by omega)
 have p3:IntKind.i64.wrap (7+2*(i:Int))=7+2*(i:Int):=IntWalk.i64_in _ (by omega)
 simp only at kz
 simp only[vJ]
 go_enter Tryz.func51,Tryz.ntmps51
 go_wp2
 rw[HV.out]
 go_quiet (fail)
 go_wp2
 go_quiet (fail)
 go_wp2_with fail
 refine(rG (y-r) (y+r) _ (by omega)).mono ?_
 rintro e' w1 ⟨v1,rfl,hb1,hN1⟩
 have hw1:Below W.heap.size W w1:=ae (hV.drewN' _) hb1
 have HO1:=Lib.hid (AY (jI hN1 (by simp[btP])) (hV.drewN' _).size)
 clear hN1 hb1
 go_wp2_with fail
 refine(rH (z-r) (z+r) _ (by omega)).mono ?_
 rintro e' w2 ⟨v2,rfl,hb2,g2',rfl,hg2,hh2⟩
 have hw2:=ae hw1 hb2
 have HO2:=Lib.hid (au HO1.out hb2)
 have HH2:=Lib.hid hh2
 clear hh2 HO1 hw1 hb2 hg2
 go_wp2_with (at_builtin;refine wpList_append_own _ rfl _ _ 65 rfl W.heap.size 69 i0 (v4 (0,0,0,0)) 4 32 be Hi0.out.1 Hi0.out.2.1 Hi0.out.2.2.1 Hi0.out.2.2.2 rfl (by decide) _ 2 _ rfl HO2.out ⟨g2',0,none⟩ 2 2 ((btP 2 (z-r) (z+r)).flatMap aH) rfl rfl (fK HH2.out) ?c2 ?c3 ?c4 ?c5 ?_)
 case c2=>exact dl
 case c3=>unfold maxLen;omega
 case c4=>omega
 case c5=>exact hw2.size
 intro v3 w3 hown3 hg3 _
 have hw3:Below W.heap.size W w3:=hw2.grown hg3 hw2.size (fun z hz=>(HO2.out.lt z hz).1)
 have HO3:=Lib.hid hown3
 clear hown3 hg3 HO2 HH2 hw2
 go_wp2_with fail
 refine(cM 0 1 1 (y+z+e) _).mono ?_
 rintro e' w4 ⟨rfl,hb4⟩
 have hw4:=ae hw3 hb4
 have HO4:=Lib.hid (au HO3.out hb4)
 clear HO3 hw3 hb4
 go_wp2_with fail
 refine(cM 0 1 (-1) (y-z+e) _).mono ?_
 rintro e' w5 ⟨rfl,hb5⟩
 have hw5:=ae hw4 hb5
 have HO5:=Lib.hid (au HO4.out hb5)
 clear HO4 hw4 hb5
 go_wp2_with fail
 refine(cM 0 (-1) 1 (z-y+e) _).mono ?_
 rintro e' w6 ⟨rfl,hb6⟩
 have hw6:=ae hw5 hb6
 have HO6:=Lib.hid (au HO5.out hb6)
 clear HO5 hw5 hb6
 go_wp2_with fail
 refine(dh 0 1 1 (y+z-e) _ (by omega) (by omega) (by omega) (by omega)).mono ?_
 rintro e' w7 ⟨rfl,hb7⟩
 have hw7:=ae hw6 hb7
 have HO7:=Lib.hid (au HO6.out hb7)
 clear HO6 hw6 hb7
 go_wp2_with (at_builtin;refine wpList_append_own _ rfl _ _ 65 rfl W.heap.size 69 i0 (v4 (0,0,0,0)) 4 32 be Hi0.out.1 Hi0.out.2.1 Hi0.out.2.2.1 Hi0.out.2.2.2 rfl (by decide) _ 4 _ rfl (HO7.out.alloc _) ⟨w7.heap.size,0,none⟩ 4 4 (([(0,1,1,y+z+e),(0,1, -1,y-z+e),(0, -1,1,z-y+e),(0, -1, -1, -(y+z-e))]:List Q4).flatMap aH) rfl rfl (fK (ai rfl)) ?c2 ?c3 ?c4 ?c5 ?_)
 case c2=>exact dl
 case c3=>unfold maxLen;omega
 case c4=>omega
 case c5=>exact Nat.le_trans hw7.size (by simp)
 intro v8 w8 hown8 hg8 _
 have hw8:Below W.heap.size W w8:=(hw7.alloc hw7.size _).grown hg8 (Nat.le_trans hw7.size (by simp)) (fun z hz=>(HO7.out.lt z hz).1)
 go_wp2
 go_ret
 refine⟨_,rfl,hw8, ?_⟩
 simpa [List.flatMap_append]using hown8
end
section
open Go.RowKit Go.Shelf
attribute [local go_sem] Ext.cell Ext.frozen
theorem Cell.okE {l w t:Int} {c e:List Q4} (h:Cell l w t c e) (hl:1≤l∧l≤100000) (hw:1≤w∧w≤100000) (ht:1≤t∧t≤100000):∀p∈aP l w t++e,cI p:=fun p hp=>by
 rcases List.mem_append.1 hp with h1|h1
 ·exact rC hl hw ht p h1
 ·rcases h.sup p h1 with h2|h2
  ·exact h.ok p h2
  ·exact rC hl hw ht p h2
theorem Cells.okE {l w t:Int} (hl:1≤l∧l≤100000) (hw:1≤w∧w≤100000) (ht:1≤t∧t≤100000):∀{cs es:List (List Q4)},Cells l w t cs es→∀e∈es,∀p∈aP l w t++e,cI p
 | [],[],_=>fun _ h=>by simp at h
 |c::cs,e::es,h=>fun e' he=>by
  rcases List.mem_cons.1 he with rfl|he
  ·exact h.1.okE hl hw ht
  ·exact Cells.okE hl hw ht h.2 e' he
 | [],_::_,h=>h.elim
 |_::_,[],h=>h.elim
theorem tO {w w1:World} {T:TypeId} {g:Nat} (vs:List Value) (pls:List (List Q4)) (hlen:vs.length=pls.length) (h:∀i (h1:i<vs.length) (h2:i<pls.length),PlanesV 0 w vs[i] pls[i])
  (hb:Below w.heap.size w w1) (hg:w1.heap[g]? =some (.cells vs.toArray T (0,0))):Each w1 (.slice (some ⟨g,0,none⟩) vs.length vs.length) (PlanesV 0) pls:=
 ⟨_,_,_,rfl,hlen.symm,Nat.le_refl _,fun _=>⟨g,0,rfl,fun i hi=>⟨vs[i]'(by omega),by
  rw[Nat.zero_add,ag hg];simp[hlen▸hi],(h i (by omega) hi).below hb⟩⟩⟩
def aO (pls:List (List Q4)):Value→World→Prop:=fun v w=>Each w v (PlanesV 0) pls
theorem ap (pls:List (List Q4)):dR (aO pls):=fun _ _ _ hb h=>Each.below (fun _ _ _ _ hb h=>PlanesV.below h hb) h hb
theorem Aa {w:World} {a b c:Value} {p q r:List Q4} (h0:PlanesV 0 w a p) (h1:PlanesV 0 w b q) (h2:PlanesV 0 w c r):∀i (g1:i< [a,b,c].length) (g2:i< [p,q,r].length),PlanesV 0 w [a,b,c][i] [p,q,r][i]:=by
 intro i g1 g2
 rcases(by simp at g1;omega:i=0∨i=1∨i=2)with rfl|rfl|rfl
 ·exact h0
 ·exact h1
 ·exact h2
theorem two {w:World} {a b:Value} {p q:List Q4} (h0:PlanesV 0 w a p) (h1:PlanesV 0 w b q):∀i (g1:i< [a,b].length) (g2:i< [p,q].length),PlanesV 0 w [a,b][i] [p,q][i]:=by
 intro i g1 g2
 rcases(by simp at g1;omega:i=0∨i=1)with rfl|rfl
 ·exact h0
 ·exact h1
end
section
open Go.RowKit Go.Shelf
attribute [local go_sem] Ext.cell Ext.frozen
def PK (B:Nat) (p:List Q4):Value→World→Prop:=fun v w=>w.ownsRow B 69 4 v p.length (p.flatMap aH)
theorem aw (B:Nat) (p:List Q4):dR (PK B p):=fun _ _ _ hb h=>au h hb
theorem rI {w:World} {B C n m:Nat} {v:Value} {xs:List Value} {p q:List Q4} (h:w.ownsRow B 69 4 v (n+m) (xs++q.flatMap aH)) (hx:xs=p.flatMap aH) (hn:n=p.length) (hm:m=q.length) (hC:C≤B):PK C (p++q) v w:=by
 subst hx hn hm
 unfold PK
 rw[List.flatMap_append,List.length_append]
 exact AY h hC
structure SI (W:World) (B:Nat) (L:List (Nat×Array Value×TypeId)) (H:List (Value×List Q4)) (css:List (List Q4)) (sv:Value) (w:World):Prop where
 below:Below W.heap.size W w
 low:W.heap.size≤B
 base:B≤w.heap.size
 keep:∀x∈L,w.heap[x.1]? =some (.cells x.2.1 x.2.2 (0,0))∧x.2.2≠67
 rows:∀x∈H,PK W.heap.size x.2 x.1 w
 own:∃vs,w.ownsRow B 67 1 sv css.length vs∧RowsV w B vs css
section
variable {W:World} {B:Nat} {L L':List (Nat×Array Value×TypeId)} {H H':List (Value×List Q4)} {css:List (List Q4)} {sv:Value} {w0 w':World}
theorem SI.grow (h:SI W B L H css sv w0) (hb:Below w0.heap.size w0 w'):SI W B L H css sv w' where
 below:=ae h.below hb
 low:=h.low
 base:=Nat.le_trans h.base hb.size
 keep x hx:=⟨(hb.block _ (ah (h.keep x hx).1)).trans (h.keep x hx).1,(h.keep x hx).2⟩
 rows x hx:=au (h.rows x hx) hb
 own:=by
  obtain⟨vs,h1,h2⟩:=h.own
  exact⟨vs,au h1 hb,h2.below hb⟩
theorem SI.at (h:SI W B L H css sv w0) (x:Nat×Array Value×TypeId) (hx:x∈L):w0.heap[x.1]? =some (.cells x.2.1 x.2.2 (0,0)):=(h.keep x hx).1
theorem SI.box {g:Nat} {x:Value} {T:TypeId} (h:SI W B ((g,#[x],T)::L) H css sv w0):w0.cell? ⟨g,0,none⟩=some x∧w0.frozen? ⟨g,0,none⟩=false∧g<w0.heap.size:=by
 have hh:=h.at _ (.head _)
 exact⟨(ag hh 0).trans rfl,aC hh 0,ah hh⟩
theorem SI.shape (h:SI W B L H css sv w0):∃a c,sv= .slice a css.length c:=by
 obtain⟨vs,h1,_⟩:=h.own
 exact aT h1
theorem SI.shapeN (h:SI W B L H css sv w0):∃a n c,sv= .slice a n c:=by
 obtain⟨a,c,e⟩:=h.shape
 exact⟨a,_,c,e⟩
theorem SI.sub (h:SI W B L H css sv w0) (hs:∀x∈L',x∈L) (ht:∀x∈H',x∈H):SI W B L' H' css sv w0:=⟨h.below,h.low,h.base,fun x hx=>h.keep x (hs x hx),fun x hx=>h.rows x (ht x hx),h.own⟩
theorem SI.drop (h:SI W B L H css sv w0):SI W W.heap.size [] [] css sv w0:=⟨h.below,Nat.le_refl _,h.below.size,fun _ hx=>(by cases hx),fun _ hx=>(by cases hx),by
 obtain⟨vs,h1,h2⟩:=h.own
 exact⟨vs,AY h1 h.low,h2.mono h.low⟩⟩
theorem SI.base0 (h:SI W B L H [] (.slice none 0 0) w0):SI W w0.heap.size L H [] (.slice none 0 0) w0:=⟨h.below,Nat.le_trans h.low h.base,Nat.le_refl _,h.keep,h.rows,[],World.ownsRow_nil _ _ _ _,RowsV.nil⟩
theorem SI.zero (W:World):SI W W.heap.size [] [] [] (.slice none 0 0) W:=⟨Below.refl _ _,Nat.le_refl _,Nat.le_refl _,fun _ hx=>(by cases hx),fun _ hx=>(by cases hx),[],World.ownsRow_nil _ _ _ _,RowsV.nil⟩
theorem SI.add (h:SI W B L H css sv w0) {g:Nat} {cs:Array Value} {T:TypeId} (hg:w0.heap[g]? =some (.cells cs T (0,0))) (hT:T≠67):SI W B ((g,cs,T)::L) H css sv w0 where
 below:=h.below
 low:=h.low
 base:=h.base
 keep x hx:=by
  rcases List.mem_cons.1 hx with rfl|hx
  ·exact⟨hg,hT⟩
  ·exact h.keep x hx
 rows:=h.rows
 own:=h.own
theorem SI.new (h:SI W B L H css sv w0) {g:Nat} {cs:Array Value} {T:TypeId} (hg:g=w0.heap.size) (hT:T≠67):SI W B ((g,cs,T)::L) H css sv (w0.alloc (.cells cs T)):=
 (h.grow (Below.alloc (Below.refl _ _) (Nat.le_refl _) _)).add (ai hg) hT
theorem SI.row (h:SI W B L H css sv w0) {v:Value} {p:List Q4} (hp:PK W.heap.size p v w0):SI W B L ((v,p)::H) css sv w0 where
 below:=h.below
 low:=h.low
 base:=h.base
 keep:=h.keep
 rows x hx:=by
  rcases List.mem_cons.1 hx with rfl|hx
  ·exact hp
  ·exact h.rows x hx
 own:=h.own
theorem SI.put {T:TypeId} {g:Nat} {x:Value} (v:Value) (h:SI W B ((g,#[x],T)::L) H css sv w0) (hB:W.heap.size≤g) (hT:T≠69) (hL:∀y∈L,y.1≠g):SI W B ((g,#[v],T)::L) H css sv (w0.setCell ⟨g,0,none⟩ v):=by
 obtain⟨hg,hTc⟩:=h.keep _ (.head _)
 refine⟨h.below.setCell (by exact hB) _,h.low,by simpa using h.base,fun y hy=> ?_,fun y hy=>aF (h.rows y hy) _ _ (fun e=>aG (h.rows y hy) hg hT.symm e.symm), ?_⟩
 ·rcases List.mem_cons.1 hy with rfl|hy
  ·exact⟨br hg 0 v,hTc⟩
  ·exact⟨(Below.heap_setCell w0 ⟨g,0,none⟩ v _ (hL y hy)).trans (h.keep y (.tail _ hy)).1,(h.keep y (.tail _ hy)).2⟩
 ·obtain⟨vs,h1,h2⟩:=h.own
  exact⟨vs,aF h1 _ _ (fun e=>aG h1 hg hTc.symm e.symm),h2.set hg hT.symm⟩
end
theorem SI.start (W:World) (J:Array Value):∃L,SI W W.heap.size ((W.heap.size+1,#[.slice none 0 0],30)::L) [] [] (.slice none 0 0) ((W.alloc (.cells J 25)).alloc (.cells #[.slice none 0 0] 30))∧(W.heap.size,J,25)∈L∧∀y∈L,y.1<W.heap.size+1:=
 ⟨[(W.heap.size,J,25)],((SI.zero W).new rfl (by decide)).new (by simp) (by decide), .head _,fun y hy=>by
  obtain rfl:y=_:=by simpa using hy
  exact Nat.lt_succ_self _⟩
theorem SI.last {W:World} {B:Nat} {x y:Nat×Array Value×TypeId} {L:List (Nat×Array Value×TypeId)} {H:List (Value×List Q4)} {css:List (List Q4)} {sv:Value} {w:World} (h:SI W B (x::y::L) H css sv w):SI W B [y] H css sv w:=
 h.sub (fun z hz=>by
  obtain rfl:z=y:=by simpa using hz
  exact .tail _ (.head _)) (fun _ h=>h)
theorem nD {w w':World} {B g n sz:Nat} {e:TypeId} {v:Value} {xs:List Value} (h:w.ownsRow B e sz v n xs) (hg:w.grownBy w' (some g)) (hlt:g<B):w'.ownsRow B e sz v n xs:=
 ⟨h.1,h.2.imp id (fun⟨q,cap,cur,hv,hq,hh,r⟩=>⟨q,cap,cur,hv,hq,(hg.block _ (ah hh) (fun e=>by cases e;omega)).trans hh,r⟩)⟩
theorem SI.app {W:World} {B g:Nat} {L:List (Nat×Array Value×TypeId)} {H:List (Value×List Q4)} {css:List (List Q4)} {sv:Value} {w w':World} (h:SI W B L H css sv w) (hg:w.grownBy w' (some g)) (h1:W.heap.size≤g) (h2:g<B) (hL:∀y∈L,y.1≠g):SI W B L [] css sv w':=
 have hb:=h.below.grown hg h.below.size (fun z hz=>by cases hz;exact h1)
 ⟨hb,h.low,Nat.le_trans h.base hg.size,fun x hx=>⟨(hg.block _ (ah (h.keep x hx).1) (fun e=>hL x hx (by cases e;rfl))).trans (h.keep x hx).1,(h.keep x hx).2⟩,fun _ hx=>(by cases hx),by
  obtain⟨vs,q1,q2⟩:=h.own
  exact⟨vs,nD q1 hg h2,q2.1,fun i h3 h4=>nD (q2.2 i h3 h4) hg h2⟩⟩
theorem SI.join {W:World} {L:List (Nat×Array Value×TypeId)} {H:List (Value×List Q4)} {c0 css:List (List Q4)} {s0 r:Value} {X Z:World} (h:SI W W.heap.size L H c0 s0 X) (h2:SI X X.heap.size [] [] css r Z):SI W W.heap.size L H css r Z:=by
 have g:=h.grow h2.below
 obtain⟨vs,h3,h4⟩:=h2.own
 exact⟨g.below,g.low,g.base,g.keep,g.rows,vs,AY h3 h.base,h4.mono h.base⟩
theorem SI.one {W:World} {B:Nat} {x:Nat×Array Value×TypeId} {L:List (Nat×Array Value×TypeId)} {H:List (Value×List Q4)} {css:List (List Q4)} {sv:Value} {w:World} (h:SI W B (x::L) H css sv w):SI W B [x] H css sv w:=
 h.sub (fun z hz=>by
  obtain rfl:z=x:=by simpa using hz
  exact .head _) (fun _ h=>h)
def wC (l w t:Int) (pls:List (List Q4)):List Q4:=ch (aP l w t++pls.flatten)
def OKW (l w t:Int) (pls:List (List Q4)):Prop:=(∀p∈aP l w t++pls.flatten,cI p)∧pls.length≤64∧(aP l w t++pls.flatten).length≤64
theorem sD {W:World} {B:Nat} {L:List (Nat×Array Value×TypeId)} {H:List (Value×List Q4)} {css:List (List Q4)} {sv nv pv:Value} {w0:World} {k l w t:Int} {pls:List (List Q4)} {n:Nat} (hok:OKW l w t pls) (hc:css.length≤1000) (hn:css.length+1=n)
  (h:SI W B L H css sv w0) (hp:aO pls pv w0):
  Calls Tryz.prog 36 #[.agg #[sv],vJ k l w t nv,pv] w0 fun e Z=>∃a c,e= .returned (.agg #[.slice a n c])∧SI W B L H (css++[wC l w t pls]) (.slice a n c) Z:=by
 subst hn
 obtain⟨vs,h1,h2⟩:=h.own
 refine(nC k l w t nv B sv vs css pv pls w0 h.base h1 h2 (by omega) hok.2.1 hp hok.1 hok.2.2).mono ?_
 rintro e Z ⟨r,vs',rfl,hb,ho,hr,hk⟩
 obtain⟨a,c,rfl⟩:=aT ho
 exact⟨a,c,rfl,h.below.trans (hb.mono h.low),h.low,Nat.le_trans h.base hb.size,fun x hx=>⟨hk _ _ _ (h.keep x hx).1 (h.keep x hx).2,(h.keep x hx).2⟩,fun x hx=>by
   obtain⟨q1,q2⟩:=h.rows x hx
   exact⟨q1,q2.imp id (fun⟨g,cap,cur,hv,hg,hh,r⟩=>⟨g,cap,cur,hv,hg,hk _ _ _ hh (by decide),r⟩)⟩,vs',by simpa using ho,hr⟩
theorem bA {W:World} {B g:Nat} {L:List (Nat×Array Value×TypeId)} {H:List (Value×List Q4)} {css:List (List Q4)} {sv x nv pv:Value} {w0:World} {k l w t:Int} {pls:List (List Q4)} {n:Nat} (hok:OKW l w t pls) (hL:∀y∈L,y.1≠g) (hg:W.heap.size≤g) (hc:css.length≤1000) (hn:css.length+1=n)
  (h:SI W B ((g,#[x],30)::L) H css sv w0) (hp:aO pls pv w0):
  Calls Tryz.prog 36 #[.agg #[sv],vJ k l w t nv,pv] w0 fun e Z=>∃a c,e= .returned (.agg #[.slice a n c])∧Z.cell? ⟨g,0,none⟩=some x∧Z.frozen? ⟨g,0,none⟩=false∧g<Z.heap.size∧
   Hid (SI W B ((g,#[.slice a n c],30)::L) H (css++[wC l w t pls]) (.slice a n c) (Z.setCell ⟨g,0,none⟩ (.slice a n c))):=by
 refine(sD hok hc hn h hp).mono ?_
 rintro e Z ⟨a,c,rfl,hz⟩
 obtain⟨b1,b2,b3⟩:=hz.box
 exact⟨a,c,rfl,b1,b2,b3,Lib.hid (hz.put _ hg (by decide) hL)⟩
def SolK (W:World) (l w t:Int) (es:List (List Q4)):Ending→World→Prop:=fun e w'=>∃r,e= .returned (.agg #[r])∧SI W W.heap.size [] [] (es.map fun e=>ch (aP l w t++e)) r w'
def gd (B n:Nat) (css:List (List Q4)):Value→World→Prop:=fun x w=>∃a c vs,x= .agg #[.slice a n c]∧w.ownsRow B 67 1 (.slice a n c) css.length vs∧RowsV w B vs css
theorem aA (B n:Nat) (css:List (List Q4)):dR (gd B n css):=fun _ _ _ hb ⟨a,c,vs,h1,h2,h3⟩=>⟨a,c,vs,h1,au h2 hb,h3.below hb⟩
theorem fL {k l w t:Int} {nv pv:Value} {pls:List (List Q4)} {B:Nat} {w0:World} (hok:OKW l w t pls) (hB:B≤w0.heap.size) (hp:aO pls pv w0):
  Calls Tryz.prog 36 #[.agg #[.slice none 0 0],vJ k l w t nv,pv] w0 fun e w'=>∃x,e= .returned x∧Below w0.heap.size w0 w'∧gd B 1 [wC l w t pls] x w':=by
 refine(nC k l w t nv w0.heap.size (.slice none 0 0) [] [] pv pls w0 (Nat.le_refl _) (World.ownsRow_nil _ _ _ _) RowsV.nil (by simp) hok.2.1 hp hok.1 hok.2.2).mono ?_
 rintro e w' ⟨r,vs',rfl,hb,ho,hr,hk⟩
 obtain⟨a,c,rfl⟩:=aT ho
 exact⟨_,rfl,hb,a,c,vs',rfl,AY (by simpa using ho) hB,(show RowsV w' w0.heap.size vs' [wC l w t pls] by simpa [wC]using hr).mono hB⟩
theorem SolK.so {W w':World} {l w t:Int} {es:List (List Q4)} {e:Ending} {B n:Nat} {css:List (List Q4)} (h:SolK W l w t es e w') (hB:B≤W.heap.size) (hc:es.map (fun e=>ch (aP l w t++e))=css) (hn:css.length=n):∃x,e= .returned x∧Below W.heap.size W w'∧gd B n css x w':=by
 subst hn hc
 obtain⟨r,rfl,hz⟩:=h
 obtain⟨vs,h1,h2⟩:=hz.own
 obtain⟨a,c,rfl⟩:=aT h1
 exact⟨_,rfl,hz.below,a,c,vs,rfl,AY h1 hB,h2.mono hB⟩
theorem SI.have {W:World} {B:Nat} {L:List (Nat×Array Value×TypeId)} {H:List (Value×List Q4)} {css css':List (List Q4)} {sv v:Value} {w0:World} {n:Nat} (h:SI W B L H css sv w0) (hs:gd B n css' (.agg #[v]) w0):SI W B L H css' v w0:=by
 obtain⟨a,c,vs,e,h1,h2⟩:=hs
 cases e
 exact⟨h.below,h.low,h.base,h.keep,h.rows,vs,h1,h2⟩
def zD (W:World) (p:List Q4) (e:Ending) (w':World):Prop:=∃r,e= .returned r∧Below W.heap.size W w'∧PK W.heap.size p r w'
theorem kC (a b:Int) (W:World) (ha: -10000000≤a∧a≤10000000):Calls Tryz.prog 40 #[.int .i64 a, .int .i64 b] W (zD W (btP 0 a b)):=
 (vY a b W ha).mono fun _ _ ⟨v,h1,h2,h3⟩=>⟨v,h1,h2,jI h3 (by simp[btP])⟩
theorem jJ (a b:Int) (W:World) (ha: -10000000≤a∧a≤10000000):Calls Tryz.prog 38 #[.int .i64 a, .int .i64 b] W (zD W (btP 1 a b)):=
 (rG a b W ha).mono fun _ _ ⟨v,h1,h2,h3⟩=>⟨v,h1,h2,jI h3 (by simp[btP])⟩
theorem fM (a b:Int) (W:World) (ha: -10000000≤a∧a≤10000000):Calls Tryz.prog 37 #[.int .i64 a, .int .i64 b] W (zD W (btP 2 a b)):=
 (rH a b W ha).mono fun _ _ ⟨v,h1,h2,h3⟩=>⟨v,h1,h2,jI h3 (by simp[btP])⟩
theorem fl {w:World} (vs:Array Value) (ps:List Q4) (n:Nat) (h:vs=(ps.flatMap aH).toArray:=by rfl) (hn:n=ps.length:=by rfl) (hl:ps.length≤100:=by simp):
  PK w.heap.size ps (.slice (some ⟨w.heap.size,0,none⟩) n n) (w.alloc (.cells vs 69)):=by
 subst h hn
 exact jI ⟨_,rfl,Nat.le_refl _,ai rfl⟩ (by omega)
theorem npl {w:World} (vs:List Value) (pls:List (List Q4)) (hl:vs.length=pls.length) (h:∀i (h1:i<vs.length) (h2:i<pls.length),PlanesV 0 w vs[i] pls[i]):
  Below w.heap.size w (w.alloc (.cells vs.toArray 65))∧aO pls (.slice (some ⟨w.heap.size,0,none⟩) vs.length vs.length) (w.alloc (.cells vs.toArray 65)):=
 have hb:Below w.heap.size w (w.alloc (.cells vs.toArray 65)):=bel
 ⟨hb,tO vs pls hl h hb (ai rfl)⟩
theorem iM {w:World} {B:Nat} {v:Value} {p:List Q4} (h:PK B p v w):∃a c,v= .slice a p.length c∧Below w.heap.size w (w.alloc (.cells #[v] 65))∧aO [p] (.slice (some ⟨w.heap.size,0,none⟩) 1 1) (w.alloc (.cells #[v] 65)):=by
 obtain⟨a,c,hv⟩:=aT h
 exact⟨a,c,hv,npl [v] [p] rfl (fun i h1 _=>by
  obtain rfl:i=0:=by simpa using h1
  exact cN h)⟩
theorem fN {w:World} {B B':Nat} {v v':Value} {p p':List Q4} (h:PK B p v w) (h':PK B' p' v' w):∃a c a' c',v= .slice a p.length c∧v'= .slice a' p'.length c'∧Below w.heap.size w (w.alloc (.cells #[v,v'] 65))∧
  aO [p,p'] (.slice (some ⟨w.heap.size,0,none⟩) 2 2) (w.alloc (.cells #[v,v'] 65)):=by
 obtain⟨a,c,hv⟩:=aT h
 obtain⟨a',c',hv'⟩:=aT h'
 exact⟨a,c,a',c',hv,hv',npl [v,v'] [p,p'] rfl (two (cN h) (cN h'))⟩
theorem yj {w:World} {B B' C:Nat} {v v' u:Value} {p p' q:List Q4} (h:PK B p v w) (h':PK B' p' v' w) (g:PK C q u w):∃a c a' c' x y,v= .slice a p.length c∧v'= .slice a' p'.length c'∧u= .slice x q.length y∧Below w.heap.size w (w.alloc (.cells #[v,v',u] 65))∧
  aO [p,p',q] (.slice (some ⟨w.heap.size,0,none⟩) 3 3) (w.alloc (.cells #[v,v',u] 65)):=by
 obtain⟨a,c,hv⟩:=aT h
 obtain⟨a',c',hv'⟩:=aT h'
 obtain⟨x,y,hu⟩:=aT g
 exact⟨a,c,a',c',x,y,hv,hv',hu,npl [v,v',u] [p,p',q] rfl (Aa (cN h) (cN h') (cN g))⟩
section
variable {ops:Array Oper} {md:Region.Mode} {Q:Exit→Act→World→Prop} {R:Nat→Value→World→Prop} {w0:World} {zi:List Nat} {F:(Nat→Value)→Act→Prop} {i:Nat} {l:List Nat} {vals:Nat→Value} {a:Act} {o:Oper} {d:Nat}
end
end
end Go.Proofs.YtokhkhnofkcalaaGreatDoor
