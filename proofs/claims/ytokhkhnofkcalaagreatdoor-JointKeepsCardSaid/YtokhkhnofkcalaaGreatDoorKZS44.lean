/- texts: XP XQ J15 J16 J17 S1a Y1 Y6 Z0 Z1. -/
import Derived.Test.YtokhkhnofkcalaaGreatDoorKZS39
import Derived.Test.YtokhkhnofkcalaaGreatDoorKZS41
import Derived.Test.YtokhkhnofkcalaaGreatDoorKZS43
namespace Go.Proofs.YtokhkhnofkcalaaGreatDoor
set_option maxHeartbeats 8000000
set_option linter.unusedSimpArgs false
set_option linter.unusedVariables false
section
open Go.RowKit Go.Shelf
set_option maxRecDepth 100000
attribute [local go_sem] Ext.cell Ext.frozen
theorem ud (l w t:Int) (nv:Value) (n:List Int) (W:World) (hn:Ints W nv n) (hl:n.length=6) (hb:∀i, -100000≤n.getD i 0∧n.getD i 0≤100000) (hlb: -100000≤l∧l≤100000):
  Calls Tryz.prog 31 #[vJ 3 l w t nv] W (cW W (aR 3 l w n) (bR 3 l n)):=by
 have hc:=fun V (h:Below W.heap.size W V)=>Lib.hid (qk l w nv n V (hn.below h) hl hb hlb)
 generalize aR 3 l w n=ks at*
 generalize bR 3 l n=gs at*
 unfold vJ
 obtain⟨a,m,c,rfl,hm0,hc0,hx⟩:=id hn
 obtain⟨V,HV⟩:∃V,Hid ((W.alloc (.cells #[.int .i64 3, .int .i64 l, .int .i64 w, .int .i64 t, .slice a m c] 25)).alloc (.cells #[.slice none 0 0, .slice none 0 0] 75)=V):=⟨_,Lib.hid rfl⟩
 have hV:Below W.heap.size W V:=by rw[←HV.out];exact bel
 have HJ:Hid (V.heap[W.heap.size]? =some (.cells #[.int .i64 3, .int .i64 l, .int .i64 w, .int .i64 t, .slice a m c] 25 (0,0))):=by rw[←HV.out];exact Lib.hid ((aB (by simp)).trans (ai rfl))
 have HR:Hid (V.heap[W.heap.size+1]? =some (.cells #[.slice none 0 0, .slice none 0 0] 75 (0,0))):=by rw[←HV.out];exact Lib.hid (ai (by simp))
 have zV:W.heap.size+2≤V.heap.size:=by rw[←HV.out];simp
 have HF:=Lib.hid ((hc V hV).out)
 obtain⟨j0,j1,j2,j3,j4,_,jz⟩:=bM HJ.out
 clear hn hx
 go_enter Tryz.func31,Tryz.ntmps31
 go_wp2_with fail
 rw[HV.out]
 refine(HF.out).mono ?_
 rintro e w1 ⟨u,gv,rfl,hb1,hp,hg⟩
 have HP:=Lib.hid hp
 have HG:=Lib.hid hg
 obtain⟨ua,um,uc,rfl⟩:=et hp
 obtain⟨ga,gm,gc,rfl⟩:=dY hg
 have HR1:=Lib.hid ((hb1.block _ (ah HR.out)).trans HR.out)
 obtain⟨r0,r1,rf,rz⟩:=dC HR1.out
 have rf0:=rf 0
 have rf1:=rf 1
 clear hp hg rf j0 j1 j2 j3 j4 jz HJ HR HF
 go_wp2
 refine bodyPost_ret (v:= .agg #[.slice ua um uc, .slice ga gm gc]) (by simp[results,Tryz.results31,go_sem,r0,r1]) rfl ⟨_,rfl, ?_,_,_,rfl, ?_, ?_⟩
 ·exact((ae hV hb1).setCell (by simp) _).setCell (by simp) _
 ·exact((HP.out.far (by omega)).far (by omega)).mono (Nat.zero_le _)
 ·exact((HG.out.far (by omega)).far (by omega)).mono (Nat.zero_le _)
theorem ue (l w t:Int) (nv:Value) (n:List Int) (W:World) (hn:Ints W nv n) (hl:n.length=4) (hb:∀i, -100000≤n.getD i 0∧n.getD i 0≤100000) (hlb: -100000≤l∧l≤100000):
  Calls Tryz.prog 31 #[vJ 4 l w t nv] W (cW W (aR 4 l w n) (bR 4 l n)):=by
 have hc:=fun V (h:Below W.heap.size W V)=>Lib.hid (rO l w nv n V (hn.below h) hl hb hlb)
 generalize aR 4 l w n=ks at*
 generalize bR 4 l n=gs at*
 unfold vJ
 obtain⟨a,m,c,rfl,hm0,hc0,hx⟩:=id hn
 obtain⟨V,HV⟩:∃V,Hid ((W.alloc (.cells #[.int .i64 4, .int .i64 l, .int .i64 w, .int .i64 t, .slice a m c] 25)).alloc (.cells #[.slice none 0 0, .slice none 0 0] 75)=V):=⟨_,Lib.hid rfl⟩
 have hV:Below W.heap.size W V:=by rw[←HV.out];exact bel
 have HJ:Hid (V.heap[W.heap.size]? =some (.cells #[.int .i64 4, .int .i64 l, .int .i64 w, .int .i64 t, .slice a m c] 25 (0,0))):=by rw[←HV.out];exact Lib.hid ((aB (by simp)).trans (ai rfl))
 have HR:Hid (V.heap[W.heap.size+1]? =some (.cells #[.slice none 0 0, .slice none 0 0] 75 (0,0))):=by rw[←HV.out];exact Lib.hid (ai (by simp))
 have zV:W.heap.size+2≤V.heap.size:=by rw[←HV.out];simp
 have HF:=Lib.hid ((hc V hV).out)
 obtain⟨j0,j1,j2,j3,j4,_,jz⟩:=bM HJ.out
 clear hn hx
 go_enter Tryz.func31,Tryz.ntmps31
 go_wp2_with fail
 rw[HV.out]
 refine(HF.out).mono ?_
 rintro e w1 ⟨u,gv,rfl,hb1,hp,hg⟩
 have HP:=Lib.hid hp
 have HG:=Lib.hid hg
 obtain⟨ua,um,uc,rfl⟩:=et hp
 obtain⟨ga,gm,gc,rfl⟩:=dY hg
 have HR1:=Lib.hid ((hb1.block _ (ah HR.out)).trans HR.out)
 obtain⟨r0,r1,rf,rz⟩:=dC HR1.out
 have rf0:=rf 0
 have rf1:=rf 1
 clear hp hg rf j0 j1 j2 j3 j4 jz HJ HR HF
 go_wp2
 refine bodyPost_ret (v:= .agg #[.slice ua um uc, .slice ga gm gc]) (by simp[results,Tryz.results31,go_sem,r0,r1]) rfl ⟨_,rfl, ?_,_,_,rfl, ?_, ?_⟩
 ·exact((ae hV hb1).setCell (by simp) _).setCell (by simp) _
 ·exact((HP.out.far (by omega)).far (by omega)).mono (Nat.zero_le _)
 ·exact((HG.out.far (by omega)).far (by omega)).mono (Nat.zero_le _)
theorem rP (l w t:Int) (nv:Value) (n:List Int) (W:World) (hn:Ints W nv n) (hl:n.length=5) (hb:∀i, -100000≤n.getD i 0∧n.getD i 0≤100000):
  Calls Tryz.prog 31 #[vJ 10 l w t nv] W (cW W (aR 10 l w n) (bR 10 l n)):=by
 have hc:=fun V (h:Below W.heap.size W V)=>Lib.hid (ql l w nv n V (hn.below h) hl hb)
 generalize aR 10 l w n=ks at*
 generalize bR 10 l n=gs at*
 unfold vJ
 obtain⟨a,m,c,rfl,hm0,hc0,hx⟩:=id hn
 obtain⟨V,HV⟩:∃V,Hid ((W.alloc (.cells #[.int .i64 10, .int .i64 l, .int .i64 w, .int .i64 t, .slice a m c] 25)).alloc (.cells #[.slice none 0 0, .slice none 0 0] 75)=V):=⟨_,Lib.hid rfl⟩
 have hV:Below W.heap.size W V:=by rw[←HV.out];exact bel
 have HJ:Hid (V.heap[W.heap.size]? =some (.cells #[.int .i64 10, .int .i64 l, .int .i64 w, .int .i64 t, .slice a m c] 25 (0,0))):=by rw[←HV.out];exact Lib.hid ((aB (by simp)).trans (ai rfl))
 have HR:Hid (V.heap[W.heap.size+1]? =some (.cells #[.slice none 0 0, .slice none 0 0] 75 (0,0))):=by rw[←HV.out];exact Lib.hid (ai (by simp))
 have zV:W.heap.size+2≤V.heap.size:=by rw[←HV.out];simp
 have HF:=Lib.hid ((hc V hV).out)
 obtain⟨j0,j1,j2,j3,j4,_,jz⟩:=bM HJ.out
 clear hn hx
 go_enter Tryz.func31,Tryz.ntmps31
 go_wp2_with fail
 rw[HV.out]
 refine(HF.out).mono ?_
 rintro e w1 ⟨u,gv,rfl,hb1,hp,hg⟩
 have HP:=Lib.hid hp
 have HG:=Lib.hid hg
 obtain⟨ua,um,uc,rfl⟩:=et hp
 obtain⟨ga,gm,gc,rfl⟩:=dY hg
 have HR1:=Lib.hid ((hb1.block _ (ah HR.out)).trans HR.out)
 obtain⟨r0,r1,rf,rz⟩:=dC HR1.out
 have rf0:=rf 0
 have rf1:=rf 1
 clear hp hg rf j0 j1 j2 j3 j4 jz HJ HR HF
 go_wp2
 refine bodyPost_ret (v:= .agg #[.slice ua um uc, .slice ga gm gc]) (by simp[results,Tryz.results31,go_sem,r0,r1]) rfl ⟨_,rfl, ?_,_,_,rfl, ?_, ?_⟩
 ·exact((ae hV hb1).setCell (by simp) _).setCell (by simp) _
 ·exact((HP.out.far (by omega)).far (by omega)).mono (Nat.zero_le _)
 ·exact((HG.out.far (by omega)).far (by omega)).mono (Nat.zero_le _)
theorem uf (l w t:Int) (nv:Value) (n:List Int) (W:World) (hn:Ints W nv n) (hl:3≤n.length) (hln:n.length≤1000) (hb:∀i, -100000≤n.getD i 0∧n.getD i 0≤100000) (hlb: -100000≤l∧l≤100000) (hs: -1000≤n.getD 0 0∧n.getD 0 0≤1000):
  Calls Tryz.prog 31 #[vJ 5 l w t nv] W (cW W (aR 5 l w n) (bR 5 l n)):=by
 have hc:=fun V (h:Below W.heap.size W V)=>Lib.hid (Bs l w nv n V (hn.below h) hl hln hb hlb hs)
 generalize aR 5 l w n=ks at*
 generalize bR 5 l n=gs at*
 unfold vJ
 obtain⟨a,m,c,rfl,hm0,hc0,hx⟩:=id hn
 obtain⟨V,HV⟩:∃V,Hid ((W.alloc (.cells #[.int .i64 5, .int .i64 l, .int .i64 w, .int .i64 t, .slice a m c] 25)).alloc (.cells #[.slice none 0 0, .slice none 0 0] 75)=V):=⟨_,Lib.hid rfl⟩
 have hV:Below W.heap.size W V:=by rw[←HV.out];exact bel
 have HJ:Hid (V.heap[W.heap.size]? =some (.cells #[.int .i64 5, .int .i64 l, .int .i64 w, .int .i64 t, .slice a m c] 25 (0,0))):=by rw[←HV.out];exact Lib.hid ((aB (by simp)).trans (ai rfl))
 have HR:Hid (V.heap[W.heap.size+1]? =some (.cells #[.slice none 0 0, .slice none 0 0] 75 (0,0))):=by rw[←HV.out];exact Lib.hid (ai (by simp))
 have zV:W.heap.size+2≤V.heap.size:=by rw[←HV.out];simp
 have HF:=Lib.hid ((hc V hV).out)
 obtain⟨j0,j1,j2,j3,j4,_,jz⟩:=bM HJ.out
 clear hn hx
 go_enter Tryz.func31,Tryz.ntmps31
 go_wp2_with fail
 rw[HV.out]
 refine(HF.out).mono ?_
 rintro e w1 ⟨u,gv,rfl,hb1,hp,hg⟩
 have HP:=Lib.hid hp
 have HG:=Lib.hid hg
 obtain⟨ua,um,uc,rfl⟩:=et hp
 obtain⟨ga,gm,gc,rfl⟩:=dY hg
 have HR1:=Lib.hid ((hb1.block _ (ah HR.out)).trans HR.out)
 obtain⟨r0,r1,rf,rz⟩:=dC HR1.out
 have rf0:=rf 0
 have rf1:=rf 1
 clear hp hg rf j0 j1 j2 j3 j4 jz HJ HR HF
 go_wp2
 refine bodyPost_ret (v:= .agg #[.slice ua um uc, .slice ga gm gc]) (by simp[results,Tryz.results31,go_sem,r0,r1]) rfl ⟨_,rfl, ?_,_,_,rfl, ?_, ?_⟩
 ·exact((ae hV hb1).setCell (by simp) _).setCell (by simp) _
 ·exact((HP.out.far (by omega)).far (by omega)).mono (Nat.zero_le _)
 ·exact((HG.out.far (by omega)).far (by omega)).mono (Nat.zero_le _)
theorem ug (l w t:Int) (nv:Value) (n:List Int) (W:World) (hn:Ints W nv n) (h1:1≤n.length) (hln:n.length≤1000) (hb:∀i, -100000≤n.getD i 0∧n.getD i 0≤100000) (hwb: -100000≤w∧w≤100000):
  Calls Tryz.prog 31 #[vJ 7 l w t nv] W (cW W (aR 7 l w n) (bR 7 l n)):=by
 have hc:=fun V (h:Below W.heap.size W V)=>Lib.hid (oE l w nv n V (hn.below h) h1 hln hb hwb)
 generalize aR 7 l w n=ks at*
 generalize bR 7 l n=gs at*
 unfold vJ
 obtain⟨a,m,c,rfl,hm0,hc0,hx⟩:=id hn
 obtain⟨V,HV⟩:∃V,Hid ((W.alloc (.cells #[.int .i64 7, .int .i64 l, .int .i64 w, .int .i64 t, .slice a m c] 25)).alloc (.cells #[.slice none 0 0, .slice none 0 0] 75)=V):=⟨_,Lib.hid rfl⟩
 have hV:Below W.heap.size W V:=by rw[←HV.out];exact bel
 have HJ:Hid (V.heap[W.heap.size]? =some (.cells #[.int .i64 7, .int .i64 l, .int .i64 w, .int .i64 t, .slice a m c] 25 (0,0))):=by rw[←HV.out];exact Lib.hid ((aB (by simp)).trans (ai rfl))
 have HR:Hid (V.heap[W.heap.size+1]? =some (.cells #[.slice none 0 0, .slice none 0 0] 75 (0,0))):=by rw[←HV.out];exact Lib.hid (ai (by simp))
 have zV:W.heap.size+2≤V.heap.size:=by rw[←HV.out];simp
 have HF:=Lib.hid ((hc V hV).out)
 obtain⟨j0,j1,j2,j3,j4,_,jz⟩:=bM HJ.out
 clear hn hx
 go_enter Tryz.func31,Tryz.ntmps31
 go_wp2_with fail
 rw[HV.out]
 refine(HF.out).mono ?_
 rintro e w1 ⟨u,gv,rfl,hb1,hp,hg⟩
 have HP:=Lib.hid hp
 have HG:=Lib.hid hg
 obtain⟨ua,um,uc,rfl⟩:=et hp
 obtain⟨ga,gm,gc,rfl⟩:=dY hg
 have HR1:=Lib.hid ((hb1.block _ (ah HR.out)).trans HR.out)
 obtain⟨r0,r1,rf,rz⟩:=dC HR1.out
 have rf0:=rf 0
 have rf1:=rf 1
 clear hp hg rf j0 j1 j2 j3 j4 jz HJ HR HF
 go_wp2
 refine bodyPost_ret (v:= .agg #[.slice ua um uc, .slice ga gm gc]) (by simp[results,Tryz.results31,go_sem,r0,r1]) rfl ⟨_,rfl, ?_,_,_,rfl, ?_, ?_⟩
 ·exact((ae hV hb1).setCell (by simp) _).setCell (by simp) _
 ·exact((HP.out.far (by omega)).far (by omega)).mono (Nat.zero_le _)
 ·exact((HG.out.far (by omega)).far (by omega)).mono (Nat.zero_le _)
theorem uh (l w t:Int) (nv:Value) (n:List Int) (W:World) (hn:Ints W nv n) (hl:n.length=5) (hb:∀i, -100000≤n.getD i 0∧n.getD i 0≤100000):
  Calls Tryz.prog 31 #[vJ 9 l w t nv] W (cW W (aR 9 l w n) (bR 9 l n)):=by
 have hc:=fun V (h:Below W.heap.size W V)=>Lib.hid (ub l w nv n V (hn.below h) hl hb)
 generalize aR 9 l w n=ks at*
 generalize bR 9 l n=gs at*
 unfold vJ
 obtain⟨a,m,c,rfl,hm0,hc0,hx⟩:=id hn
 obtain⟨V,HV⟩:∃V,Hid ((W.alloc (.cells #[.int .i64 9, .int .i64 l, .int .i64 w, .int .i64 t, .slice a m c] 25)).alloc (.cells #[.slice none 0 0, .slice none 0 0] 75)=V):=⟨_,Lib.hid rfl⟩
 have hV:Below W.heap.size W V:=by rw[←HV.out];exact bel
 have HJ:Hid (V.heap[W.heap.size]? =some (.cells #[.int .i64 9, .int .i64 l, .int .i64 w, .int .i64 t, .slice a m c] 25 (0,0))):=by rw[←HV.out];exact Lib.hid ((aB (by simp)).trans (ai rfl))
 have HR:Hid (V.heap[W.heap.size+1]? =some (.cells #[.slice none 0 0, .slice none 0 0] 75 (0,0))):=by rw[←HV.out];exact Lib.hid (ai (by simp))
 have zV:W.heap.size+2≤V.heap.size:=by rw[←HV.out];simp
 have HF:=Lib.hid ((hc V hV).out)
 obtain⟨j0,j1,j2,j3,j4,_,jz⟩:=bM HJ.out
 clear hn hx
 go_enter Tryz.func31,Tryz.ntmps31
 go_wp2_with fail
 rw[HV.out]
 refine(HF.out).mono ?_
 rintro e w1 ⟨u,gv,rfl,hb1,hp,hg⟩
 have HP:=Lib.hid hp
 have HG:=Lib.hid hg
 obtain⟨ua,um,uc,rfl⟩:=et hp
 obtain⟨ga,gm,gc,rfl⟩:=dY hg
 have HR1:=Lib.hid ((hb1.block _ (ah HR.out)).trans HR.out)
 obtain⟨r0,r1,rf,rz⟩:=dC HR1.out
 have rf0:=rf 0
 have rf1:=rf 1
 clear hp hg rf j0 j1 j2 j3 j4 jz HJ HR HF
 go_wp2
 refine bodyPost_ret (v:= .agg #[.slice ua um uc, .slice ga gm gc]) (by simp[results,Tryz.results31,go_sem,r0,r1]) rfl ⟨_,rfl, ?_,_,_,rfl, ?_, ?_⟩
 ·exact((ae hV hb1).setCell (by simp) _).setCell (by simp) _
 ·exact((HP.out.far (by omega)).far (by omega)).mono (Nat.zero_le _)
 ·exact((HG.out.far (by omega)).far (by omega)).mono (Nat.zero_le _)
end
section
open Go.RowKit Go.Shelf
theorem oF (k l w t:Int) (nv:Value) (n:List Int) (W:World) (hn:Ints W nv n) (g:Good k l w t n)
  (h8:k=8→Calls Tryz.prog 31 #[vJ 8 l w t nv] W (cW W (aR 8 l w n) (bR 8 l n))):
  Calls Tryz.prog 31 #[vJ k l w t nv] W (cW W (aR k l w n) (bR k l n)):=by
 obtain⟨hl,hw,ht⟩:=g.sz
 have hr:=g.right
 have hc:=Ba g.cnt g.kind
 have hk:=g.kind
 have hb:=fun i=>g.nb i
 have hlen:=g.len
 rcases(by omega:k=0∨k=1∨k=2∨k=3∨k=4∨k=5∨k=6∨k=7∨k=8∨k=9∨k=10)with rfl|rfl|rfl|rfl|rfl|rfl|rfl|rfl|rfl|rfl|rfl
 ·have b0:=hb 0
  refine(ns l w t nv n W hn (by omega) (by omega)).mono ?_
  rintro e w' ⟨u,rfl,hb1,hp⟩
  have e1:aR 0 l w n=[[[axP 2 (-1) (-n.getD 0 0)]],[[axP 2 1 (n.getD 0 0)]]]:=rfl
  have e2:bR 0 l n=[]:=rfl
  rw[e1,e2]
  exact⟨_,rfl,hb1,_,_,rfl,hp.mono (Nat.zero_le _),iJ⟩
 ·exact tP l w t nv n W hn (by omega) hb
 ·exact tV l w t nv n W hn (by omega) hb
 ·exact ud l w t nv n W hn (by omega) hb (by omega)
 ·exact ue l w t nv n W hn (by omega) hb (by omega)
 ·have h3:3≤n.length:=by omega
  have hr':bF l w n=true:=by simpa [cU]using hr
  obtain⟨_,hs,_⟩:=iu hr' h3 hl.1
  exact uf l w t nv n W hn h3 (by omega) hb (by omega) (by omega)
 ·have b0:=hb 0
  have hm:1≤n.getD 1 0∧n.getD 1 0≤8:=by
   have h:=hr
   simp[cU,fH,bB, -List.getD_eq_getElem?_getD]at h
   omega
  have m1:=aJ (show -8≤n.getD 1 0 by omega) hm.2 b0.1 b0.2
  exact tW l w t nv n W hn (by omega) hb (by omega)
 ·exact ug l w t nv n W hn (by omega) (by omega) hb (by omega)
 ·exact h8 rfl
 ·exact uh l w t nv n W hn (by omega) hb
 ·exact rP l w t nv n W hn (by omega) hb
end
section
open Go.RowKit Go.Shelf
attribute [local go_sem] Ext.cell Ext.frozen
def mI (ce k member:Int) (n:List Int):Int:=if ce≠0 then ce else if member<0∨cD k+aV k n≤member then 6 else 0
theorem oG (k:Int):2≤cD k∧cD k≤3:=by unfold cD;split<;>omega
theorem kE (k:Int) (n:List Int):aV k n≤n.length+1:=by by_cases h:k=8<;>by_cases h9:k=9<;>simp[aV,h,h9]<;>omega
set_option maxRecDepth 100000 in
theorem fm (k l w t member ce:Int) (nv:Value) (n:List Int) (W:World) (hn:Ints W nv n) (hm:n.length≤1000000)
  (hc:∀W',Below W.heap.size W W'→Calls Tryz.prog 48 #[vJ k l w t nv] W' (Ret W' (.int .i64 ce))) (h8:ce=0→k=8→8≤n.length∧n.length % 2=0):
  Calls Tryz.prog 29 #[vJ k l w t nv, .int .i64 member] W (Ret W (.int .i64 (mI ce k member n))):=by
 have HL:=fun W' h h0=>Lib.hid (tp k l w t nv n W' (hn.below (w':=W') h) hm (h8 h0))
 have HM:=fun W'=>Lib.hid (pu k W')
 have hmb:=oG k
 have hlb:=kE k n
 have He:=Lib.hid (show mI ce k member n=if ce≠0 then ce else if member<0∨cD k+aV k n≤member then 6 else 0 from rfl)
 have Hc:=fun W' h=>Lib.hid (hc W' h)
 unfold vJ at*
 obtain⟨a,m,c,rfl,hm',hcc,hx⟩:=hn
 clear hc hx h8
 generalize mI ce k member n=res at*
 generalize cD k=mk at*
 generalize aV k n=lk at*
 have hlk:lk≤1000001:=by omega
 clear hlb hm hm'
 by_cases h0:ce=0
 ·subst h0
  have HL':=fun W' h=>HL W' h rfl
  clear HL
  rw[if_neg (by simp)]at He
  by_cases hneg:member<0
  ·rw[if_pos (Or.inl hneg)]at He
   clear HL'
   go_enter Tryz.func29,Tryz.ntmps29
   go_wp2_with fail
   refine((Hc _ bel).out).mono ?_
   rintro e w1 ⟨rfl,hb1⟩
   have hw1:=ae (show Below W.heap.size W (W.alloc (.cells #[.int .i64 k, .int .i64 l, .int .i64 w, .int .i64 t, .slice a m c] 25))from bel) hb1
   have c0:=ab hb1 ((aq rfl 0).trans rfl:_=some (.int .i64 k))
   have c4:=ab hb1 ((aq rfl 4).trans rfl:_=some (.slice a m c))
   have c1:=ab hb1 ((aq rfl 1).trans rfl:_=some (.int .i64 l))
   have c2:=ab hb1 ((aq rfl 2).trans rfl:_=some (.int .i64 w))
   have c3:=ab hb1 ((aq rfl 3).trans rfl:_=some (.int .i64 t))
   go_wp2
   refine wqf fun u=> ?_
   go_wp2
   go_ret
   exact⟨aK He.out.symm,ae hw1 u.below⟩
  ·by_cases hge:mk+lk≤member
   ·rw[if_pos (Or.inr hge)]at He
    go_enter Tryz.func29,Tryz.ntmps29
    go_wp2_with fail
    refine((Hc _ bel).out).mono ?_
    rintro e w1 ⟨rfl,hb1⟩
    have hw1:=ae (show Below W.heap.size W (W.alloc (.cells #[.int .i64 k, .int .i64 l, .int .i64 w, .int .i64 t, .slice a m c] 25))from bel) hb1
    have c0:=ab hb1 ((aq rfl 0).trans rfl:_=some (.int .i64 k))
    have c4:=ab hb1 ((aq rfl 4).trans rfl:_=some (.slice a m c))
    have c1:=ab hb1 ((aq rfl 1).trans rfl:_=some (.int .i64 l))
    have c2:=ab hb1 ((aq rfl 2).trans rfl:_=some (.int .i64 w))
    have c3:=ab hb1 ((aq rfl 3).trans rfl:_=some (.int .i64 t))
    have z1:=World.block_lt_of_cell? w1 _ c0
    simp only at z1
    go_wp2
    refine wqb ?_
    repeat(first|go_big_quiet_step ((first|(go_at_call 69;refine((HM _).out).mono ?_;rintro e w9 ⟨rfl,rfl⟩;exact⟨rfl,_,rfl⟩)|(go_at_call 70;exact aE ((HL' _ (ae hw1 (Ext.below _))).out))))|quiet_step ((first|(go_at_call 69;refine((HM _).out).mono ?_;rintro e w9 ⟨rfl,rfl⟩;exact⟨rfl,_,rfl⟩)|(go_at_call 70;exact aE ((HL' _ (ae hw1 (Ext.below _))).out)))))
    refine wqn fun u=> ?_
    go_wp2
    go_ret
    exact⟨aK He.out.symm,ae hw1 u.below⟩
   ·rw[if_neg (by omega)]at He
    go_enter Tryz.func29,Tryz.ntmps29
    go_wp2_with fail
    refine((Hc _ bel).out).mono ?_
    rintro e w1 ⟨rfl,hb1⟩
    have hw1:=ae (show Below W.heap.size W (W.alloc (.cells #[.int .i64 k, .int .i64 l, .int .i64 w, .int .i64 t, .slice a m c] 25))from bel) hb1
    have c0:=ab hb1 ((aq rfl 0).trans rfl:_=some (.int .i64 k))
    have c4:=ab hb1 ((aq rfl 4).trans rfl:_=some (.slice a m c))
    have c1:=ab hb1 ((aq rfl 1).trans rfl:_=some (.int .i64 l))
    have c2:=ab hb1 ((aq rfl 2).trans rfl:_=some (.int .i64 w))
    have c3:=ab hb1 ((aq rfl 3).trans rfl:_=some (.int .i64 t))
    have z1:=World.block_lt_of_cell? w1 _ c0
    simp only at z1
    go_wp2
    refine wqb ?_
    repeat(first|go_big_quiet_step ((first|(go_at_call 69;refine((HM _).out).mono ?_;rintro e w9 ⟨rfl,rfl⟩;exact⟨rfl,_,rfl⟩)|(go_at_call 70;exact aE ((HL' _ (ae hw1 (Ext.below _))).out))))|quiet_step ((first|(go_at_call 69;refine((HM _).out).mono ?_;rintro e w9 ⟨rfl,rfl⟩;exact⟨rfl,_,rfl⟩)|(go_at_call 70;exact aE ((HL' _ (ae hw1 (Ext.below _))).out)))))
    refine wqn fun u=> ?_
    go_wp2
    go_ret
    exact⟨aK He.out.symm,ae hw1 u.below⟩
 ·rw[if_pos h0]at He
  have hne:(ce !=0)=true:=by simpa using h0
  clear HL
  go_enter Tryz.func29,Tryz.ntmps29
  go_wp2_with fail
  refine((Hc _ bel).out).mono ?_
  rintro e w1 ⟨rfl,hb1⟩
  go_wp2
  go_ret
  exact⟨aK He.out.symm,ae bel hb1⟩
theorem yo {ps qs:List Q4} (k:Nat) (h1:k<ps.length) (h2:k<qs.length) (hne:ps[k]≠qs[k]):decide (ps=qs)=false:=decide_eq_false (fun e=>by subst e;exact hne rfl)
theorem wH {ps qs:List Q4} (h:ps.length≠qs.length):decide (ps=qs)=false:=decide_eq_false (fun e=>by subst e;exact h rfl)
theorem wI {ps qs:List Q4} (hl:ps.length=qs.length) (h:∀i (h1:i<ps.length) (h2:i<qs.length),ps[i]=qs[i]):decide (ps=qs)=true:=decide_eq_true (List.ext_getElem hl h)
set_option maxRecDepth 100000 in
theorem jP (pv qv:Value) (ps qs:List Q4) (w:World) (hp:Q4s w pv ps) (hq:Q4s w qv qs) (hl:ps.length≤1000000):
  Calls Tryz.prog 28 #[.agg #[pv], .agg #[qv]] w (Ret w (.bool (decide (ps=qs)))):=by
 obtain⟨a,n,c,rfl,hn,hc,hx⟩:=hp
 obtain⟨a',n',c',rfl,hn',hc',hx'⟩:=hq
 have HX:=Lib.hid hx
 have HX':=Lib.hid hx'
 have Hno:=Lib.hid (@yo ps qs)
 have Hln:=Lib.hid (@wH ps qs)
 have Hyes:=Lib.hid (@wI ps qs)
 generalize decide (ps=qs)=res at*
 clear hx hx'
 by_cases hnn:n=n'
 ·subst hnn
  have Hn:=Lib.hid hn
  have Hn':=Lib.hid hn'
  rw[hn]at hl
  clear hn hn' Hln
  go_enter Tryz.func28,Tryz.ntmps28
  go_wp2
  go_loopw [5] (fun i wr=>∃k:Nat,k≤n∧i= .int .i64 k∧Below w.heap.size w wr∧Hid (wr.heap[w.heap.size]? =some (.cells #[.slice a n c] 67 (0,0)))∧Hid (wr.heap[w.heap.size+1]? =some (.cells #[.slice a' n c'] 67 (0,0)))∧Hid (∀i (h1:i<ps.length) (h2:i<qs.length),i<k→ps[i]=qs[i])) (fun i _=>n-(intOf i).toNat)
  case atStart=>exact⟨0,by omega,rfl,bel,Lib.hid ((aB (by simp)).trans (ai rfl)),Lib.hid (ai (by simp)),Lib.hid (fun i _ _ h=>by omega)⟩
  case round=>
   obtain⟨k,hk,rfl,hb,HA,HB,Hz⟩:=hrel
   have b0:wr.cell? ⟨w.heap.size,0,none⟩=some (.slice a n c):=(ag HA.out 0).trans rfl
   have b1:wr.cell? ⟨w.heap.size+1,0,none⟩=some (.slice a' n c'):=(ag HB.out 0).trans rfl
   have zA:=ah HA.out
   have zB:=ah HB.out
   by_cases hlt:k<n
   ·obtain⟨b,off,rfl,hi⟩:=HX.out (by omega)
    obtain⟨b',off',rfl,hi'⟩:=HX'.out (by omega)
    have hk1:k<ps.length:=by have:=Hn.out;omega
    have hk2:k<qs.length:=by have:=Hn'.out;omega
    obtain⟨x1,x2,x3,x4⟩:=hi k hk1
    obtain⟨y1,y2,y3,y4⟩:=hi' k hk2
    have x1:=ab hb x1
    have x2:=ab hb x2
    have x3:=ab hb x3
    have x4:=ab hb x4
    have y1:=ab hb y1
    have y2:=ab hb y2
    have y3:=ab hb y3
    have y4:=ab hb y4
    have zx:=World.block_lt_of_cell? wr _ x1
    have zy:=World.block_lt_of_cell? wr _ y1
    simp only at zx zy
    have he:=fun W'=>nh ps[k] qs[k] W'
    have Hk:=Lib.hid (Hno.out k hk1 hk2)
    have Hz':Hid (ps[k]=qs[k]→∀i (h1:i<ps.length) (h2:i<qs.length),i<k+1→ps[i]=qs[i]):=Lib.hid (fun e i h1 h2 h=>by
     by_cases e':i=k
     ·subst e';exact e
     ·exact Hz.out i h1 h2 (by omega))
    generalize ps[k]=x at*
    generalize qs[k]=y at*
    obtain⟨xa,xb,xc,xd⟩:=x
    obtain⟨ya,yb,yc,yd⟩:=y
    simp only at x1 x2 x3 x4 y1 y2 y3 y4 he
    clear hi hi' hk1 hk2
    by_cases hxy:((xa,xb,xc,xd):Q4)=(ya,yb,yc,yd)
    ·have Hxy:=Lib.hid hxy
     have hd:=decide_eq_true hxy
     simp only[hd]at he
     clear hxy hd
     go_wp2
     refine wqf fun u=> ?_
     go_wp2
     go_roundw
     case rel=>exact⟨k+1,by omega,by go_num,ae hb u.below,Lib.hid ((u.below.block _ zA).trans HA.out),Lib.hid ((u.below.block _ zB).trans HB.out),Lib.hid (Hz'.out Hxy.out)⟩
     case measure=>simp[intOf];omega
    ·have Hxy:=Lib.hid hxy
     have hd:=decide_eq_false hxy
     simp only[hd]at he
     clear hxy hd
     go_wp2
     refine wqf fun u=> ?_
     go_wp2
     go_ret
     exact⟨ay (Hk.out Hxy.out).symm,ae hb u.below⟩
   ·have Hy:=Lib.hid (Hyes.out (by rw[Hn.out,Hn'.out]) (fun i h1 h2=>Hz.out i h1 h2 (by have:=Hn.out;omega)))
    go_wp2
    go_ret
    exact⟨ay Hy.out.symm,hb⟩
 ·have hne:(n:Int)≠(n':Int):=by omega
  have Hr:=Lib.hid (Hln.out (by omega))
  go_enter Tryz.func28,Tryz.ntmps28
  go_wp2
  go_ret
  exact⟨ay Hr.out.symm,bel⟩
end
section
open Go.RowKit Go.Shelf
attribute [local go_sem] Ext.cell Ext.frozen
set_option maxRecDepth 100000
def sE (ks:List (List (List Q4))):Value→World→Prop:=fun v w=>∃u a m c,v= .agg #[u, .slice a m c]∧PartsV 0 w u ks
theorem wJ (ks:List (List (List Q4))):dR (sE ks):=fun _ _ _ hb ⟨u,a,m,c,h,k⟩=>⟨u,a,m,c,h,PartsV.below k hb⟩
def zG (cs:List (List Q4)):Value→World→Prop:=fun v w=>∃b off u,v= .pointer (some ⟨b,off,none⟩)∧w.cell? ⟨b,off,none⟩=some u∧CellsV 0 w u cs
theorem yp (cs:List (List Q4)):dR (zG cs):=fun _ _ _ hb ⟨b,off,u,h,k,l⟩=>⟨b,off,u,h,ab hb k,l.below hb⟩
def IsS (B:Nat) (css:List (List Q4)):Value→World→Prop:=fun v w=>∃s vs,v= .agg #[s]∧w.ownsRow B 67 1 s css.length vs∧RowsV w B vs css
theorem zH (B:Nat) (css:List (List Q4)):dR (IsS B css):=fun _ _ _ hb ⟨s,vs,h,k,l⟩=>⟨s,vs,h,au k hb,l.below hb⟩
theorem qo (k l w t:Int) (member:Nat) (nv:Value) (n:List Int) (ks:List (List (List Q4))) (W:World) (hmem:member<ks.length)
  (hl: -1000000≤l∧l≤1000000) (hw: -1000000≤w∧w≤1000000) (ht: -1000000≤t∧t≤1000000) (hkn:ks.length≤1000000)
  (hcs:ks[member].length≤1000000) (hps:∀c∈ks[member],c.length≤1000) (hn:Ints W nv n)
  (hc:∀W',Below W.heap.size W W'→Calls Tryz.prog 29 #[vJ k l w t nv, .int .i64 member] W' (Ret W' (.int .i64 0)))
  (hp:∀W',Below W.heap.size W W'→Calls Tryz.prog 31 #[vJ k l w t nv] W' fun e w'=>∃v,e= .returned v∧Below W'.heap.size W' w'∧sE ks v w'):
  Calls Tryz.prog 8 #[vJ k l w t nv, .int .i64 member] W fun e w'=>∃s vs,e= .returned (.tuple #[.agg #[s], .int .i64 0])∧Below W.heap.size W w'∧
   w'.ownsRow W.heap.size 67 1 s ks[member].length vs∧RowsV w' W.heap.size vs (ks[member].map (dr l w t)):=by
 have Hc:=fun W' h=>Lib.hid (hc W' h)
 have Hp:=fun W' h=>Lib.hid (hp W' h)
 have HIB:=fun cv W' (h:CellsV 0 W' cv ks[member])=>Lib.hid (tu l w t cv ks[member] W' hl hw ht 0 h hcs hps)
 have HKS:Hid (∀w' v,PartsV 0 w' v ks→∃b off c,v= .slice (some ⟨b,off,none⟩) ks.length c∧∃u,w'.cell? ⟨b,off+member,none⟩=some u∧CellsV 0 w' u ks[member]):=Lib.hid (fun w' v h=>by
  obtain⟨⟨a,m,c,rfl,hm,hcc,hx⟩,_⟩:=h
  obtain⟨b,off,rfl,hi⟩:=hx (by omega)
  subst hm
  exact⟨b,off,c,rfl,hi member hmem⟩)
 generalize ks[member]=kc at*
 clear hc hp hcs hps
 unfold vJ at*
 obtain⟨a,m,c,rfl,hm',hcc,hx⟩:=hn
 clear hx hm'
 obtain⟨K,HK⟩:∃K,Hid (ks.length=K):=⟨_,Lib.hid rfl⟩
 have mK:(member:Int)<(K:Int):=by have:=HK.out;omega
 have m0:(0:Int)≤(member:Int):=by omega
 have hK6:K≤1000000:=by have:=HK.out;omega
 rw[HK.out]at HKS
 clear hmem hkn
 go_enter Tryz.func8,Tryz.ntmps8
 go_wp2_with fail
 refine((Hc _ bel).out).mono ?_
 rintro e w1 ⟨rfl,hb1⟩
 have hw1:=ae (show Below W.heap.size W ((W.alloc (.cells #[.int .i64 k, .int .i64 l, .int .i64 w, .int .i64 t, .slice a m c] 25)).alloc (.cells #[.slice none 0 0] 30))from bel) hb1
 have HJ:=Lib.hid ((hb1.block W.heap.size (by simp;omega)).trans ((aB (by simp)).trans (ai rfl)))
 have HR:=Lib.hid ((hb1.block (W.heap.size+1) (by simp)).trans (ai (by simp)))
 have c0:w1.cell? ⟨W.heap.size,0,none⟩=some (.int .i64 k):=(ag HJ.out 0).trans rfl
 have c1:w1.cell? ⟨W.heap.size,1,none⟩=some (.int .i64 l):=(ag HJ.out 1).trans rfl
 have c2:w1.cell? ⟨W.heap.size,2,none⟩=some (.int .i64 w):=(ag HJ.out 2).trans rfl
 have c3:w1.cell? ⟨W.heap.size,3,none⟩=some (.int .i64 t):=(ag HJ.out 3).trans rfl
 have c4:w1.cell? ⟨W.heap.size,4,none⟩=some (.slice a m c):=(ag HJ.out 4).trans rfl
 have zj:=ah HJ.out
 have zr:=ah HR.out
 clear Hc hb1 HJ
 go_wp2
 refine cX [0,1,2,3,4,5,6,7,8] 9 [10] (pick [
  IsV (.pointer (some ⟨W.heap.size,1,none⟩)),IsV (.agg #[.int .i64 l, .int .i64 w, .int .i64 t]),IsV (.agg #[.int .i64 k, .int .i64 l, .int .i64 w, .int .i64 t, .slice a m c]),sE ks,IsK 0 ks,
  IsV (.int .i64 member),zG kc,IsC 0 kc,IsS w1.heap.size (kc.map (dr l w t))]) (by kernel_rfl) (by kernel_rfl) (Stabs.pick (by repeat(first|exact Stabs.nil|refine Stabs.cons (by first|exact dj _|exact dy _ _|exact dA _ _|exact dK _ _|exact wJ _|exact yp _|exact zH _ _|exact fJ _ _ _) ?_))) ?_
 try go_frame
 refine aZ _ _ rfl rfl (by simp) (fun w' hb' hR K hK=> ?_) (fun v0=> ?_)
 ·clear hR
  have z:=hb'.size
  go_simp
  exact hK _ _ (Below.refl _ _) rfl
 try go_frame
 refine aZ _ _ rfl rfl (by simp) (fun w' hb' hR K hK=> ?_) (fun v1=> ?_)
 ·obtain rfl:v0=_:=hr hR 0
  have d1:=ab hb' c1
  have d2:=ab hb' c2
  have d3:=ab hb' c3
  have z:=hb'.size
  clear hR
  go_simp
  exact hK _ _ (Below.refl _ _) rfl
 try go_frame
 refine aZ _ _ rfl rfl (by simp) (fun w' hb' hR K hK=> ?_) (fun v2=> ?_)
 ·have d0:=ab hb' c0
  have d1:=ab hb' c1
  have d2:=ab hb' c2
  have d3:=ab hb' c3
  have d4:=ab hb' c4
  have z:=hb'.size
  clear hR
  go_simp
  exact hK _ _ (Below.refl _ _) rfl
 try go_frame
 refine aZ _ _ rfl rfl (by simp) (fun w' hb' hR K hK=> ?_) (fun v3=> ?_)
 ·obtain rfl:v2=_:=hr hR 2
  clear hR
  go_simp
  refine((Hp _ (ae hw1 hb')).out).mono ?_
  rintro e w1 ⟨v,rfl,hb1,hv⟩
  exact hK _ _ hb1 hv
 try go_frame
 refine aZ _ _ rfl rfl (by simp) (fun w' hb' hR K hK=> ?_) (fun v4=> ?_)
 ·obtain⟨u,pa,pm,pc,rfl,hpu⟩:sE ks v3 w':=hr hR 3
  have HPU:=Lib.hid hpu
  obtain⟨⟨ua,um,uc,rfl,_⟩,_⟩:=hpu
  clear hR
  go_simp
  exact hK _ _ (Below.refl _ _) HPU.out
 try go_frame
 refine aZ _ _ rfl rfl (by simp) (fun w' hb' hR K hK=> ?_) (fun v5=> ?_)
 ·clear hR
  go_simp
  exact hK _ _ (Below.refl _ _) rfl
 try go_frame
 refine aZ _ _ rfl rfl (by simp) (fun w' hb' hR K hK=> ?_) (fun v6=> ?_)
 ·have hpu:PartsV 0 w' v4 ks:=hr hR 4
  obtain rfl:v5=_:=hr hR 5
  obtain⟨b,off,uc,rfl,u,hu,hcu⟩:=HKS.out _ _ hpu
  have HCU:=Lib.hid hcu
  have HU:=Lib.hid hu
  clear hR hpu hcu hu
  go_simp
  exact hK _ _ (Below.refl _ _) ⟨_,_,_,rfl,HU.out,HCU.out⟩
 try go_frame
 refine aZ _ _ rfl rfl (by simp) (fun w' hb' hR K hK=> ?_) (fun v7=> ?_)
 ·obtain⟨b,off,u,rfl,hu,hcu⟩:zG kc v6 w':=hr hR 6
  have HCU:=Lib.hid hcu
  obtain⟨⟨ua,um,uc,rfl,_⟩,_⟩:=hcu
  have z:=World.block_lt_of_cell? w' _ hu
  simp only at z
  clear hR
  go_simp
  exact hK _ _ (Below.refl _ _) HCU.out
 try go_frame
 refine aZ _ _ rfl rfl (by simp) (fun w' hb' hR K hK=> ?_) (fun v8=> ?_)
 ·obtain rfl:v1=_:=hr hR 1
  have hcu:CellsV 0 w' v7 kc:=hr hR 7
  have HC9:=Lib.hid ((HIB _ _ hcu).out)
  have z:=Lib.hid hb'.size
  clear hR
  go_simp
  refine(HC9.out).mono ?_
  rintro e w1 ⟨v,vs,rfl,hb1,ho,hr⟩
  exact hK _ _ hb1 ⟨_,_,rfl,AY (by simpa using ho) z.out,hr.mono z.out⟩
 go_frame
 refine dE (fun w' hb' hR=> ?_)
 obtain⟨s,vs,rfl,ho,hrs⟩:IsS w1.heap.size (kc.map (dr l w t)) v8 w':=hR 8 (by simp)
 have HO:=Lib.hid ho
 have HS:=Lib.hid hrs
 obtain⟨sa,sc,rfl⟩:=aT ho
 have HR':Hid (w'.heap[W.heap.size+1]? =_):=Lib.hid ((hb'.block _ zr).trans HR.out)
 have r0:w'.cell? ⟨W.heap.size+1,0,none⟩=some (.slice none 0 0):=(ag HR'.out 0).trans rfl
 have rf:=aC HR'.out 0
 have zr':=ah HR'.out
 clear hR ho hrs
 simp only[oas]
 go_wp2
 refine NoPanic.normal ?_
 go_wp2
 refine bodyPost_ret (v:= .tuple #[.agg #[.slice sa (kc.map (dr l w t)).length sc], .int .i64 0]) (by simp[results,Tryz.results8,go_sem,r0]) rfl ⟨_,vs,rfl,(ae hw1 hb').setCell (by simp) _, ?_, ?_⟩
 ·have:=AY (aF HO.out ⟨W.heap.size+1,0,none⟩ (.slice sa (kc.map (dr l w t)).length sc) (fun e=>aG HO.out HR'.out (by decide) e.symm)) (base':=W.heap.size) hw1.size
  simpa using this
 ·exact(HS.out.set HR'.out (by decide)).mono hw1.size
end
section
open Go.RowKit Go.Shelf
def OkV (w:World) (v:Value):Prop:=re v∧∀b off m c,v= .slice (some ⟨b,off,none⟩) m c→∃cs,w.heap[b]? =some (.cells cs 3 (0,0))
theorem OkV.below {w w':World} {v:Value} (h:OkV w v) (hb:Below w.heap.size w w'):OkV w' v:=
 ⟨h.1,fun b off m c e=>by obtain⟨cs,hh⟩:=h.2 b off m c e;exact⟨cs,(hb.block _ (ah hh)).trans hh⟩⟩
end
section
open Go.RowKit Go.Shelf
set_option maxRecDepth 100000
attribute [local go_sem] Ext.cell Ext.frozen
def SolV (w:World) (v:Value) (css:List (List Q4)):Prop:=Each w v Q4s css
theorem SolV.below {w w':World} {v:Value} {css:List (List Q4)} (h:SolV w v css) (hb:Below w.heap.size w w'):SolV w' v css:=Each.below (fun _ _ _ _ hb h=>Q4s.below h hb) h hb
theorem qp {w:World} {B:Nat} {v:Value} {vs:List Value} {css:List (List Q4)} (h:w.ownsRow B 67 1 v css.length vs) (hr:RowsV w B vs css):SolV w v css:=by
 have hlen:=h.1
 rcases h.2 with⟨rfl,h0⟩|⟨g,cap,cur,rfl,hb,hh,hnc,hcm,hcs,htk⟩
 ·obtain rfl:css=[]:=List.length_eq_zero_iff.1 h0
  exact⟨none,0,0,rfl,rfl,Nat.le_refl _,fun h=>absurd h (by omega)⟩
 ·refine⟨_,_,_,rfl,rfl,hnc,fun _=>⟨g,0,rfl,fun i hi=> ?_⟩⟩
  have hiu:i<vs.length:=by omega
  refine⟨vs[i], ?_,dV (hr.2 i hiu hi)⟩
  rw[Nat.zero_add,ag hh]
  have e:vs[i]? =some vs[i]:=List.getElem?_eq_getElem hiu
  generalize vs[i]=ui at*
  rw[←htk,List.getElem?_take]at e
  split at e
  ·simpa using e
  ·cases e
theorem mJ (v v2:Value) (css:List (List Q4)) (w:World) (h1:SolV w v css) (h2:SolV w v2 css) (hl:∀c∈css,c.length≤1000000) (hcn:css.length≤1000000):
  Calls Tryz.prog 14 #[.agg #[v], .agg #[v2]] w (Ret w (.bool true)):=by
 obtain⟨a,n,c,rfl,hn,hc,hx⟩:=h1
 obtain⟨a',n',c',rfl,hn',hc',hx'⟩:=h2
 obtain rfl:n=n':=by omega
 have hn6:n≤1000000:=by omega
 have HX:=Lib.hid hx
 have HX':=Lib.hid hx'
 have Hn:=Lib.hid hn
 have HL:Hid (∀i (h:i<css.length),css[i].length≤1000000):=Lib.hid (fun i h=>hl _ (List.getElem_mem h))
 clear hx hx' hn hn' hl hcn
 go_enter Tryz.func14,Tryz.ntmps14
 go_wp2
 go_loopw [5] (fun i wr=>∃k:Nat,k≤n∧i= .int .i64 k∧Below w.heap.size w wr∧Hid (wr.heap[w.heap.size]? =some (.cells #[.slice a n c] 30 (0,0)))∧Hid (wr.heap[w.heap.size+1]? =some (.cells #[.slice a' n c'] 30 (0,0)))) (fun i _=>n-(intOf i).toNat)
 case atStart=>exact⟨0,by omega,rfl,bel,Lib.hid ((aB (by simp)).trans (ai rfl)),Lib.hid (ai (by simp))⟩
 case round=>
  obtain⟨k,hk,rfl,hb,HA,HB⟩:=hrel
  have b0:wr.cell? ⟨w.heap.size,0,none⟩=some (.slice a n c):=(ag HA.out 0).trans rfl
  have b1:wr.cell? ⟨w.heap.size+1,0,none⟩=some (.slice a' n c'):=(ag HB.out 0).trans rfl
  have zA:=ah HA.out
  have zB:=ah HB.out
  by_cases hlt:k<n
  ·obtain⟨b,off,rfl,hi⟩:=HX.out (by omega)
   obtain⟨b',off',rfl,hi'⟩:=HX'.out (by omega)
   have hk1:k<css.length:=by have:=Hn.out;omega
   obtain⟨u1,x1,p1⟩:=hi k hk1
   obtain⟨u2,x2,p2⟩:=hi' k hk1
   have x1:=ab hb x1
   have x2:=ab hb x2
   have zx:=World.block_lt_of_cell? wr _ x1
   have zy:=World.block_lt_of_cell? wr _ x2
   simp only at zx zy
   have HSC:∀W',Below wr.heap.size wr W'→Hid (Calls Tryz.prog 28 #[.agg #[u1], .agg #[u2]] W' (Ret W' (.bool true))):=fun W' h=>Lib.hid (by
    have:=jP u1 u2 css[k] css[k] W' ((p1.below hb).below h) ((p2.below hb).below h) (HL.out k hk1)
    simpa using this)
   obtain⟨a1,m1,c1,rfl, -⟩:=p1
   obtain⟨a2,m2,c2,rfl, -⟩:=p2
   have q1:(k:Int)<(n:Int):=by omega
   have q2:(0:Int)≤(k:Int):=by omega
   clear hi hi' hk1
   go_wp2
   refine wqb ?_
   repeat(first|go_big_quiet_step ((go_at_call 28;exact aE ((HSC _ (Ext.below _)).out)))|quiet_step ((go_at_call 28;exact aE ((HSC _ (Ext.below _)).out))))
   refine wqn fun u=> ?_
   go_wp2
   go_roundw
   case rel=>exact⟨k+1,by omega,by go_num,ae hb u.below,Lib.hid ((u.below.block _ zA).trans HA.out),Lib.hid ((u.below.block _ zB).trans HB.out)⟩
   case measure=>simp[intOf];omega
  ·have q1:¬(k:Int)<(n:Int):=by omega
   go_wp2
   go_ret
   exact⟨rfl,hb⟩
end
section
open Go.RowKit Go.Shelf
theorem Cells.short {l w t:Int}:∀{cs es:List (List Q4)},Cells l w t cs es→∀c∈cs,c.length≤10
 | [],[],_=>fun _ h=>by simp at h
 |c::cs,e::es,h=>fun c' hc=>by
  rcases List.mem_cons.1 hc with rfl|hc
  ·exact h.1.len
  ·exact Cells.short h.2 c' hc
 | [],_::_,h=>h.elim
 |_::_,[],h=>h.elim
def jQ (sp:List Q4) (r y:Int):List Q4:=[sp,btP 1 (y-r) (y+r)].flatten
def sqS (sp:List Q4) (r y z:Int):List Q4:=[jQ sp r y,btP 2 (z-r) (z+r)].flatten
def qq (sp:List Q4) (first:Bool) (s:Int):List Q4:=if first then sp else [sp,[geP 1 s]].flatten
def fw (sp:List Q4) (r e:Int) (first:Bool) (s:Int) (last:Bool) (y z:Int):List (List Q4):=
 [[qq sp first s,[leP 1 (y-r)]].flatten]++(if last then [[sp,[geP 1 (y+r)]].flatten]else [])++
 [[jQ sp r y,[leP 2 (z-r)]].flatten,[jQ sp r y,[geP 2 (z+r)]].flatten]++(kA e y z).map fun p=>[sqS sp r y z,[trP p]].flatten
theorem uj (f g r e:Int) (first:Bool) (s:Int) (last:Bool) (y z:Int):fw (btP 0 f g) r e first s last y z=iI f g r e first s last y z:=by
 unfold fw iI jQ sqS qq
 cases first<;>cases last<;>simp[jQ]
def hsY (hs:List (Int×Int)) (i:Nat):Int:=(hs.getD i (0,0)).1
def hsZ (hs:List (Int×Int)) (i:Nat):Int:=(hs.getD i (0,0)).2
def lu (hs:List (Int×Int)) (r:Int) (i:Nat):Int:=if i=0 then 0 else hsY hs (i-1)+r
def iU (sp:List Q4) (r e:Int) (hs:List (Int×Int)) (j:Nat):List (List Q4):=(List.range j).flatMap fun i=>fw sp r e (i==0) (lu hs r i) (i+1==hs.length) (hsY hs i) (hsZ hs i)
theorem gX (sp:List Q4) (r e:Int) (hs:List (Int×Int)) (j:Nat):iU sp r e hs (j+1)=iU sp r e hs j++fw sp r e (j==0) (lu hs r j) (j+1==hs.length) (hsY hs j) (hsZ hs j):=by
 simp[iU,List.range_succ]
theorem kF (sp:List Q4) (r e:Int) (hs:List (Int×Int)) (j:Nat):(iU sp r e hs j).length≤8*j:=by
 induction j with
 |zero=>simp[iU]
 |succ j ih=>
  rw[gX,List.length_append]
  have:∀f s l y z,(fw sp r e f s l y z).length≤8:=fun f s l y z=>by
   unfold fw kA
   cases l<;>simp
  have:=this (j==0) (lu hs r j) (j+1==hs.length) (hsY hs j) (hsZ hs j)
  omega
theorem nH (sp:List Q4) (r e:Int) (hs:List (Int×Int)) (j:Nat):0<(iU sp r e hs (j+1)).length:=by
 rw[gX,List.length_append]
 simp[fw]
 omega
theorem jh (n:List Int) (m i:Nat) (h:i<m):hsY (cG n m) i=n.getD (6+2*i) 0∧hsZ (cG n m) i=n.getD (7+2*i) 0:=by
 simp[hsY,hsZ,cG,List.getD_eq_getElem?_getD,List.getElem?_map,List.getElem?_range h]
theorem qr (f g:Int) (n:List Int) (j:Nat) (hj:j≤bo n):iU (btP 0 f g) (n.getD 1 0) (n.getD 2 0) (cG n (bo n)) j=Bb f g n j:=by
 induction j with
 |zero=>rfl
 |succ j ih=>
  rw[gX,qg,ih (by omega),uj,(jh n _ j (by omega)).1,(jh n _ j (by omega)).2,fR]
  have:lu (cG n (bo n)) (n.getD 1 0) j=dw n j:=by
   unfold lu dw
   by_cases h:j=0
   ·rw[if_pos h,if_pos h]
   ·rw[if_neg h,if_neg h,(jh n _ (j-1) (by omega)).1,show 6+2*(j-1)=4+2*j by omega]
  rw[this]
def Q2At (w:World) (b off:Nat) (hs:List (Int×Int)):Prop:=∀i,i<hs.length→w.cell? ⟨b,off+i*2,none⟩=some (.int .i64 (hsY hs i))∧w.cell? ⟨b,off+i*2+1,none⟩=some (.int .i64 (hsZ hs i))
theorem Q2At.below {w w':World} {b off:Nat} {hs:List (Int×Int)} (h:Q2At w b off hs) (hb:Below w.heap.size w w'):Q2At w' b off hs:=fun i hi=>⟨ab hb (h i hi).1,ab hb (h i hi).2⟩
theorem wK (x:Int×Int):(iL x).length=2:=rfl
theorem wL {w:World} {base:Nat} {T:TypeId} {v:Value} {hs:List (Int×Int)} (h:w.ownsRow base T 2 v hs.length (hs.flatMap iL)) (h0:0<hs.length):∃g cap,v= .slice (some ⟨g,0,none⟩) hs.length cap∧Q2At w g 0 hs:=by
 rcases h.2 with⟨rfl,h1⟩|⟨g,cap,cur,rfl,hb,hh,hc,hm,hcs,ht⟩
 ·omega
 ·refine⟨g,cap,rfl,fun i hi=> ?_⟩
  have key:∀j,j<2→w.cell? ⟨g,i*2+j,none⟩=(iL hs[i])[j]? :=fun j hj=>by
   rw[ag hh, ←eQ iL 2 wK hs i hi j hj, ←ht,List.getElem?_take_of_lt (by omega),Array.getElem?_toList]
  have e:hs.getD i (0,0)=hs[i]:=by simp[List.getD_eq_getElem?_getD,List.getElem?_eq_getElem hi]
  simp only[Nat.zero_add,hsY,hsZ,e]
  exact⟨key 0 (by omega),key 1 (by omega)⟩
theorem Ab {B:Nat} {ps:List Q4} {v:Value} {w:World} (h:PO B ps v w) (h0:0<ps.length):∃g cap,v= .slice (some ⟨g,0,none⟩) ps.length cap∧ps.length≤cap:=by
 rcases h.2 with⟨rfl,h1⟩|⟨g,cap,cur,rfl,hb,hh,hc,hm,hcs,ht⟩
 ·omega
 ·exact⟨g,cap,rfl,hc⟩
theorem Ac {B b off m c:Nat} {ps:List Q4} {w:World} (h:PO B ps (.slice (some ⟨b,off,none⟩) m c) w) (h0:0<ps.length):Q4At w b off ps:=by
 obtain⟨a,n,c',e,hn,hc,hx⟩:=dV h
 obtain⟨b',off',ha,hi⟩:=hx (by omega)
 injection e with e1
 rw[ha]at e1
 injection e1 with e2
 injection e2 with e3 e4
 subst e3
 subst e4
 exact hi
theorem PO.push {B B':Nat} {ps:List Q4} {v r:Value} {cr:List (List Q4)} {w w':World} (h:PO B ps v w) (hr:CO B' cr r w) (hg:w.grownBy w' r.ownBlock):PO B ps v w':=
 h.kept hg (by
  cases e1:v.ownBlock with
  |none=>exact .inl rfl
  |some g=>
   right
   intro e
   obtain⟨vs,ho,_⟩:=hr
   rcases ho.2 with⟨rfl,_⟩|⟨g',cap,cur,rfl,_,h2,_⟩
   ·cases e
   ·have:g'=g:=by simpa [Value.ownBlock]using e.symm
    subst this
    exact aG h h2 (by decide) e1)
structure RI (W:World) (hb:Nat) (y z:Int) (cs:List (List Q4)) (v:Value) (w:World):Prop where
 below:Below W.heap.size W w
 ge:W.heap.size≤hb
 blk:w.heap[hb]? =some (.cells #[.int .i64 y, .int .i64 z] 157 (0,0))
 co:CO W.heap.size cs v w
theorem RI.grow {W:World} {hb:Nat} {y z:Int} {cs:List (List Q4)} {v:Value} {w w':World} (h:RI W hb y z cs v w) (hw:Below w.heap.size w w'):RI W hb y z cs v w':=
 ⟨ae h.below hw,h.ge,(hw.block _ (ah h.blk)).trans h.blk,bU _ _ _ _ _ hw h.co⟩
theorem RI.push {W:World} {hb:Nat} {y z:Int} {cs cs':List (List Q4)} {v v':Value} {w w':World} (h:RI W hb y z cs v w) (hc:CO W.heap.size cs' v' w') (hg:w.grownBy w' v.ownBlock):RI W hb y z cs' v' w':=
 ⟨h.below.grown hg h.below.size (fun z hz=>(lq h.co z hz).1),h.ge,(hg.block _ (ah h.blk) (fg h.co h.blk (by decide))).trans h.blk,hc⟩
theorem sF {B g:Nat} {W:World} (p1 p2 p3 p4:Int) (hg:g=W.heap.size) (hB:B≤W.heap.size):PO B [(p1,p2,p3,p4)] (.slice (some ⟨g,0,none⟩) 1 1) (W.alloc (.cells #[.int .i64 p1, .int .i64 p2, .int .i64 p3, .int .i64 p4] 69)):=
 jO [(p1,p2,p3,p4)] hg hB
theorem lK (p1 p2 p3 p4:Int) (W:World):FO 0 [[(p1,p2,p3,p4)]] (.slice (some ⟨W.heap.size+1,0,none⟩) 1 1) ((W.alloc (.cells #[.int .i64 p1, .int .i64 p2, .int .i64 p3, .int .i64 p4] 69)).alloc (.cells #[.slice (some ⟨W.heap.size,0,none⟩) 1 1] 104)):=by
 have h:=bi (B:=0) (W:=W.alloc (.cells #[.int .i64 p1, .int .i64 p2, .int .i64 p3, .int .i64 p4] 69)) [.slice (some ⟨W.heap.size,0,none⟩) 1 1] [[(p1,p2,p3,p4)]] (Nat.zero_le _) ⟨sF p1 p2 p3 p4 rfl (Nat.zero_le _),trivial⟩ bel
 simpa using h
end
section
open Go.RowKit Go.Shelf
set_option maxRecDepth 100000
attribute [local go_sem] Ext.cell Ext.frozen
theorem wM (sp:List Q4) (r e:Int) (sv lv:Value) (B:Nat) (hs:List (Int×Int)) (W:World) (hsp:PO 0 sp sv W) (hl4:sp.length≤4) (hh:W.ownsRow B 157 2 lv hs.length (hs.flatMap iL)) (h1:1≤hs.length) (hn:hs.length≤1000)
  (hb:∀i, -100000≤hsY hs i∧hsY hs i≤100000∧ -100000≤hsZ hs i∧hsZ hs i≤100000) (hrb: -100000≤r∧r≤100000) (he: -100000≤e∧e≤100000):
  Calls Tryz.prog 124 #[sv,lv, .int .i64 r, .int .i64 e] W fun en w'=>∃v,en= .returned v∧Below W.heap.size W w'∧CO W.heap.size (iU sp r e hs hs.length) v w':=by
 obtain⟨g,cap,rfl,hat⟩:=wL hh (by omega)
 have HAt:=Lib.hid hat
 have HS:=Lib.hid hsp
 obtain⟨sa,sc,rfl⟩:=hsp.shape
 have Hs:=Lib.hid (gX sp r e hs)
 have HLn:=Lib.hid (kF sp r e hs)
 have HB:=Lib.hid hb
 obtain⟨N,HN⟩:∃N,Hid (hs.length=N):=⟨_,Lib.hid rfl⟩
 have HLi:=Lib.hid (show hs.length≤1000 from hn)
 have H0:Hid (iU sp r e hs 0=[]):=Lib.hid rfl
 simp only[HN.out]at Hs ⊢
 generalize iU sp r e hs=RS at*
 clear hat hh hb hsp
 rw[HN.out]at h1 hn
 go_enter Tryz.func124,Tryz.ntmps124
 go_wp2
 go_loopw [9,19] (fun s9 s19 wr=>∃i:Nat,i≤N∧s19= .int .i64 i∧Below W.heap.size W wr∧Hid (CO W.heap.size (RS i) s9 wr)) (fun _ s19 _=>N-(intOf s19).toNat)
 case atStart=>exact⟨0,by omega,rfl,Below.refl _ _,Lib.hid (by rw[H0.out];exact CO.nil)⟩
 case round=>
  obtain⟨i,hi,rfl,hbw,HO⟩:=hrel
  by_cases hlt:i<N
  ·obtain⟨c0,c1⟩:=HAt.out i (by have:=HN.out;omega)
   have c0:=ab hbw c0
   have c1:=ab hbw c1
   simp only[Nat.zero_add]at c0 c1
   have hy:=HB.out i
   have Hp:=Lib.hid (HB.out (i-1))
   have Hsi:=Lib.hid (Hs.out i)
   have HPc:Hid (0<i→W.cell? ⟨g,(i-1)*2,none⟩=some (.int .i64 (hsY hs (i-1)))):=Lib.hid (fun h=>by simpa only[Nat.zero_add]using(HAt.out (i-1) (by have:=HN.out;omega)).1)
   have HPS:Hid (0<i→lu hs r i=hsY hs (i-1)+r):=Lib.hid (fun h=>by unfold lu;rw[if_neg (by omega)])
   generalize hsY hs (i-1)=py at*
   generalize lu hs r i=ps at*
   generalize hsY hs i=y at*
   generalize hsZ hs i=z at*
   have zg:=World.block_lt_of_cell? wr _ c0
   simp only at zg
   have HLr:=Lib.hid (HLn.out i)
   obtain⟨oa,oc,rfl⟩:=HO.out.shape
   have g1:(i:Int)<(N:Int):=by omega
   have g2:(0:Int)≤(i:Int):=by omega
   have hz: -100000≤z∧z≤100000:=⟨hy.2.2.1,hy.2.2.2⟩
   have hy: -100000≤y∧y≤100000:=⟨hy.1,hy.2.1⟩
   obtain⟨X,HX⟩:∃X,Hid (wr.alloc (.cells #[.int .i64 y, .int .i64 z] 157)=X):=⟨_,Lib.hid rfl⟩
   have hbX:Below wr.heap.size wr X:=by rw[←HX.out];exact bel
   have HR:Hid (RI W wr.heap.size y z (RS i) (.slice oa (RS i).length oc) X):=Lib.hid ⟨ae hbw hbX,hbw.size,by rw[←HX.out];exact ai rfl,bU _ _ _ _ _ hbX HO.out⟩
   have Hb0:Hid (i=0→qq sp (i==0) ps=sp):=Lib.hid (fun h=>by subst h;rfl)
   have Hb1:Hid (0<i→qq sp (i==0) ps=[sp,[geP 1 ps]].flatten):=Lib.hid (fun h=>by rw[show(i==0)=false by simp;omega];rfl)
   have Hbl:Hid ((qq sp (i==0) ps).length≤5):=Lib.hid (by unfold qq;cases i==0<;>simp;all_goals omega)
   have Hbf:Hid (RS (i+1)=RS i++fw sp r e (i==0) ps (i+1==N) y z):=Hsi
   have HBA:Hid (∀last,fw sp r e (i==0) ps last y z=[[qq sp (i==0) ps,[leP 1 (y-r)]].flatten]++(if last then [[sp,[geP 1 (y+r)]].flatten]else [])++[[jQ sp r y,[leP 2 (z-r)]].flatten,[jQ sp r y,[geP 2 (z+r)]].flatten]++(kA e y z).map fun p=>[sqS sp r y z,[trP p]].flatten):=Lib.hid (fun _=>rfl)
   generalize qq sp (i==0) ps=bp at*
   clear Hsi
   go_upto_if 26 with fail
   rw[HX.out]
   go_cut [12] (fun s12 wx=>∃ba bc,s12= .slice ba bp.length bc∧Below X.heap.size X wx∧Hid (PO 0 bp (.slice ba bp.length bc) wx))
   case first=>
    by_cases h0:i=0
    ·have e0:=Hb0.out h0
     subst e0
     have g3:¬0<i:=by omega
     clear h0
     go_wp2_with fail
     go_meet
     exact⟨_,_,rfl,Below.refl _ _,Lib.hid (HS.out.below HR.out.below)⟩
    ·have g3:0<i:=by omega
     have cp:=ab HR.out.below (HPc.out g3)
     have zp:=World.block_lt_of_cell? X _ cp
     simp only at zp
     have eps:=HPS.out g3
     have bpy:=Hp.out
     have g4:(0:Int)≤(i:Int)-1:=by omega
     have g5:(i:Int)-1<(N:Int):=by omega
     have g6:((i:Int)-1).toNat=i-1:=by omega
     have e1:=fun W'=>Lib.hid (show Calls Tryz.prog 75 #[.int .i64 1, .int .i64 (py+r)] W' (Ret W' (v4 (geP 1 (py+r))))from bX 1 (py+r) W' (by omega) (by omega))
     have ebp:=Hb1.out g3
     rw[eps]at ebp
     generalize geP 1 (py+r)=q at*
     obtain⟨q1,q2,q3,q4⟩:=q
     have e9:=fun cv lv W' hc hl=>Lib.hid (bC cv sp lv [[(q1,q2,q3,q4)]] W' hc hl (by simp) (by simp) (by simp;omega))
     rw[←ebp]at e9
     clear ebp eps
     have HS2:=Lib.hid (HS.out.below HR.out.below)
     go_wp2_with fail
     refine((e1 _).out).mono ?_
     rintro en w3 ⟨rfl,hb3⟩
     obtain⟨Y,HY⟩:∃Y,Hid ((w3.alloc (.cells #[.int .i64 q1, .int .i64 q2, .int .i64 q3, .int .i64 q4] 69)).alloc (.cells #[.slice (some ⟨w3.heap.size,0,none⟩) 1 1] 104)=Y):=⟨_,Lib.hid rfl⟩
     have hbY:Below w3.heap.size w3 Y:=by rw[←HY.out];exact bel
     have HF:Hid (FO 0 [[(q1,q2,q3,q4)]] (.slice (some ⟨w3.heap.size+1,0,none⟩) 1 1) Y):=Lib.hid (by rw[←HY.out];exact lK _ _ _ _ _)
     have hb3Y:=ae hb3 hbY
     have H9:=Lib.hid ((e9 _ _ Y ((HS2.out.below hb3Y).planes.mono (Nat.zero_le _)) HF.out.2.cells).out)
     go_wp2_with fail
     rw[HY.out]
     refine(H9.out).mono ?_
     rintro en w5 ⟨v5,rfl,hb5,hp5⟩
     obtain⟨ra,rc,rfl⟩:=hp5.shape
     have hb35:=ae hb3Y hb5
     have HK5:=Lib.hid (hp5.mono (B':=W.heap.size) (by have:=HR.out.below.size;have:=hb3Y.size;omega))
     clear HF HY H9 hbY hp5 hb3 hb3Y hb5
     go_wp2_with fail
     go_meet
     exact⟨_,_,rfl,hb35,Lib.hid (HK5.out.mono (Nat.zero_le _))⟩
   case rest=>
    rename World=>X2
    obtain⟨ba,bc,rfl,hb2,HP⟩:=hcut
    have HR:=Lib.hid (HR.out.grow hb2)
    obtain⟨x0,x1,xf,xz⟩:=dC HR.out.blk
    have f1:=fun W'=>Lib.hid (show Calls Tryz.prog 76 #[.int .i64 1, .int .i64 (y-r)] W' (Ret W' (v4 (leP 1 (y-r))))from cR 1 (y-r) W' (by omega) (by omega))
    generalize leP 1 (y-r)=p at*
    obtain⟨p1,p2,p3,p4⟩:=p
    have f9:=fun cv lv W' hc hl=>Lib.hid (bC cv bp lv [[(p1,p2,p3,p4)]] W' hc hl (by simp) (by simp) (by have:=Hbl.out;simp;omega))
    generalize [bp,[(p1,p2,p3,p4)]].flatten=K1 at*
    go_wp2_with fail
    refine((f1 _).out).mono ?_
    rintro en w3 ⟨rfl,hb3⟩
    obtain⟨Y,HY⟩:∃Y,Hid ((w3.alloc (.cells #[.int .i64 p1, .int .i64 p2, .int .i64 p3, .int .i64 p4] 69)).alloc (.cells #[.slice (some ⟨w3.heap.size,0,none⟩) 1 1] 104)=Y):=⟨_,Lib.hid rfl⟩
    have hbY:Below w3.heap.size w3 Y:=by rw[←HY.out];exact bel
    have HF:Hid (FO 0 [[(p1,p2,p3,p4)]] (.slice (some ⟨w3.heap.size+1,0,none⟩) 1 1) Y):=Lib.hid (by rw[←HY.out];exact lK _ _ _ _ _)
    have hb3Y:=ae hb3 hbY
    have H9:=Lib.hid ((f9 _ _ Y ((HP.out.below hb3Y).planes.mono (Nat.zero_le _)) HF.out.2.cells).out)
    go_wp2_with fail
    rw[HY.out]
    refine(H9.out).mono ?_
    rintro en w5 ⟨v5,rfl,hb5,hp5⟩
    obtain⟨ra,rc,rfl⟩:=hp5.shape
    have hb35:=ae hb3Y hb5
    have HK5:=Lib.hid (hp5.mono (B':=W.heap.size) (by have:=HR.out.below.size;have:=hb3Y.size;omega))
    clear HF HY H9 hbY hp5 hb3 hb3Y hb5
    have HLx:=HLr
    have hbZ:Below w5.heap.size w5 (w5.alloc (.cells #[.slice ra (K1).length rc] 104)):=bel
    have HRZ:=Lib.hid (HR.out.grow (ae hb35 hbZ))
    have HG:Hid (FO W.heap.size [K1] (.slice (some ⟨w5.heap.size,0,none⟩) 1 1) (w5.alloc (.cells #[.slice ra (K1).length rc] 104))):=Lib.hid (bi [_] [_] (Nat.le_trans HR.out.below.size hb35.size) ⟨HK5.out,trivial⟩ hbZ)
    go_wp2_with (at_builtin;refine bE HRZ.out.co HG.out _ _ rfl rfl rfl rfl ?c1 ?c2 ?_)
    case c1=>have:=HLx.out;have:=HLr.out;simp;omega
    case c2=>exact HRZ.out.below.size
    intro v' w' hc' hg' _
    have HR:=Lib.hid (HRZ.out.push hc' hg')
    obtain⟨C1,HC1⟩:∃C1,Hid (RS i++[K1]=C1):=⟨_,Lib.hid rfl⟩
    rw[HC1.out]at hc' HR
    obtain⟨va,vc,rfl⟩:=hc'.shape
    have HL1:Hid (C1.length≤8*i+1):=Lib.hid (by rw[←HC1.out];have:=HLr.out;simp;omega)
    clear hc' hg' HRZ HG hbZ hb35 HK5 x0 x1 xf xz HP f1 f9 hb2
    obtain⟨C2,HC2⟩:∃C2,Hid (C1++(if(i+1==N)=true then [[sp,[geP 1 (y+r)]].flatten]else [])=C2):=⟨_,Lib.hid rfl⟩
    have HL2:Hid (C2.length≤8*i+2):=Lib.hid (by rw[←HC2.out];have:=HL1.out;cases i+1==N<;>simp<;>omega)
    go_upto_if 56 with fail
    go_cut [9] (fun s9 wx=>∃oa oc,s9= .slice oa C2.length oc∧Hid (RI W wr.heap.size y z C2 (.slice oa C2.length oc) wx))
    case first=>
     by_cases hL:i+1=N
     ·have gL:((i:Int)==(N:Int)-1)=true:=by simp;omega
      have hLb:(i+1==N)=true:=by simpa using hL
      have f1:=fun W'=>Lib.hid (show Calls Tryz.prog 75 #[.int .i64 1, .int .i64 (y+r)] W' (Ret W' (v4 (geP 1 (y+r))))from bX 1 (y+r) W' (by omega) (by omega))
      rw[hLb,if_pos rfl]at HC2
      generalize geP 1 (y+r)=p at*
      obtain⟨p1,p2,p3,p4⟩:=p
      have f9:=fun cv lv W' hc hl=>Lib.hid (bC cv sp lv [[(p1,p2,p3,p4)]] W' hc hl (by simp) (by simp) (by simp;omega))
      generalize [sp,[(p1,p2,p3,p4)]].flatten=K2 at*
      obtain⟨x0,x1,xf,xz⟩:=dC HR.out.blk
      have HS2:=Lib.hid (HS.out.below HR.out.below)
      have HLx:=HL1
      clear hL hLb
      go_wp2_with fail
      go_wp2_with fail
      refine((f1 _).out).mono ?_
      rintro en w3 ⟨rfl,hb3⟩
      obtain⟨Y,HY⟩:∃Y,Hid ((w3.alloc (.cells #[.int .i64 p1, .int .i64 p2, .int .i64 p3, .int .i64 p4] 69)).alloc (.cells #[.slice (some ⟨w3.heap.size,0,none⟩) 1 1] 104)=Y):=⟨_,Lib.hid rfl⟩
      have hbY:Below w3.heap.size w3 Y:=by rw[←HY.out];exact bel
      have HF:Hid (FO 0 [[(p1,p2,p3,p4)]] (.slice (some ⟨w3.heap.size+1,0,none⟩) 1 1) Y):=Lib.hid (by rw[←HY.out];exact lK _ _ _ _ _)
      have hb3Y:=ae hb3 hbY
      have H9:=Lib.hid ((f9 _ _ Y ((HS2.out.below hb3Y).planes.mono (Nat.zero_le _)) HF.out.2.cells).out)
      go_wp2_with fail
      rw[HY.out]
      refine(H9.out).mono ?_
      rintro en w5 ⟨v5,rfl,hb5,hp5⟩
      obtain⟨ra,rc,rfl⟩:=hp5.shape
      have hb35:=ae hb3Y hb5
      have HK5:=Lib.hid (hp5.mono (B':=W.heap.size) (by have:=HR.out.below.size;have:=hb3Y.size;omega))
      clear HF HY H9 hbY hp5 hb3 hb3Y hb5
      have hbZ:Below w5.heap.size w5 (w5.alloc (.cells #[.slice ra (K2).length rc] 104)):=bel
      have HRZ:=Lib.hid (HR.out.grow (ae hb35 hbZ))
      have HG:Hid (FO W.heap.size [K2] (.slice (some ⟨w5.heap.size,0,none⟩) 1 1) (w5.alloc (.cells #[.slice ra (K2).length rc] 104))):=Lib.hid (bi [_] [_] (Nat.le_trans HR.out.below.size hb35.size) ⟨HK5.out,trivial⟩ hbZ)
      go_wp2_with (at_builtin;refine bE HRZ.out.co HG.out _ _ rfl rfl rfl rfl ?c1 ?c2 ?_)
      case c1=>have:=HLx.out;have:=HLr.out;simp;omega
      case c2=>exact HRZ.out.below.size
      intro v' w' hc' hg' _
      rw[HC2.out]at hc'
      have HR:=Lib.hid (HRZ.out.push hc' hg')
      obtain⟨va2,vc2,rfl⟩:=hc'.shape
      go_wp2_with fail
      go_meet
      exact⟨_,_,rfl,HR⟩
     ·have gL:((i:Int)==(N:Int)-1)=false:=by simp;omega
      have hLb:(i+1==N)=false:=by simpa using hL
      rw[hLb,if_neg (by simp),List.append_nil]at HC2
      have e2:=HC2.out
      subst e2
      clear hL hLb
      go_wp2_with fail
      go_meet
      exact⟨_,_,rfl,HR⟩
    case rest=>
     rename World=>X3
     obtain⟨ta,tc,rfl,HR⟩:=hcut
     have HS3:=Lib.hid (HS.out.below HR.out.below)
     obtain⟨x0,x1,xf,xz⟩:=dC HR.out.blk
     have f1:=fun W'=>Lib.hid (show Calls Tryz.prog 72 #[.int .i64 1, .int .i64 (y-r), .int .i64 (y+r)] W' _ from bO 1 (y-r) (y+r) W' (by omega) (by omega) (by omega))
     have f2:=fun W'=>Lib.hid (show Calls Tryz.prog 72 #[.int .i64 2, .int .i64 (z-r), .int .i64 (z+r)] W' _ from bO 2 (z-r) (z+r) W' (by omega) (by omega) (by omega))
     have f3:=fun W'=>Lib.hid (show Calls Tryz.prog 76 #[.int .i64 2, .int .i64 (z-r)] W' (Ret W' (v4 (leP 2 (z-r))))from cR 2 (z-r) W' (by omega) (by omega))
     have f4:=fun W'=>Lib.hid (show Calls Tryz.prog 75 #[.int .i64 2, .int .i64 (z+r)] W' (Ret W' (v4 (geP 2 (z+r))))from bX 2 (z+r) W' (by omega) (by omega))
     have f5:=fun W'=>Lib.hid (nG y z r e W' (by omega) (by omega) (by omega) (by omega))
     have Hbf2:Hid (RS (i+1)=C2++[[jQ sp r y,[leP 2 (z-r)]].flatten,[jQ sp r y,[geP 2 (z+r)]].flatten]++(kA e y z).map fun p=>[sqS sp r y z,[trP p]].flatten):=Lib.hid (by
      rw[Hbf.out,HBA.out, ←HC2.out, ←HC1.out]
      simp only[List.append_assoc])
     have Hsq:Hid (sqS sp r y z=[jQ sp r y,btP 2 (z-r) (z+r)].flatten):=Lib.hid rfl
     have Hmd:Hid (jQ sp r y=[sp,btP 1 (y-r) (y+r)].flatten):=Lib.hid rfl
     have Hml:Hid ((jQ sp r y).length≤8∧(sqS sp r y z).length≤10):=Lib.hid (by simp[sqS,jQ,btP];omega)
     have Hcut:Hid (∀j,j<4→∃a b c d,(fY r e y z)[4+j]? =some (a,b,c,d)∧(kA e y z)[j]? =some (a,b,c,d)∧(-1≤a∧a≤1)∧(-1≤b∧b≤1)∧(-1≤c∧c≤1)∧ -1000000≤d∧d≤1000000):=Lib.hid (fun j hj=>by
      have:j=0∨j=1∨j=2∨j=3:=by omega
      rcases this with rfl|rfl|rfl|rfl<;>exact⟨_,_,_,_,rfl,rfl,by omega,by omega,by omega,by omega,by omega⟩)
     have H8l:Hid ((fY r e y z).length=8):=Lib.hid rfl
     have H4l:Hid ((kA e y z).length=4):=Lib.hid rfl
     have Hb1l:Hid ((btP 1 (y-r) (y+r)).length=2):=Lib.hid rfl
     have Hb2l:Hid ((btP 2 (z-r) (z+r)).length=2):=Lib.hid rfl
     clear Hs Hbf HBA Hb0 Hb1 HC1 HC2 HL1 Hp HPc HPS HAt HB HLn c0 c1 zg hbX HX HO Hbl
     generalize fY r e y z=shp at*
     generalize kA e y z=c4 at*
     generalize sqS sp r y z=sq at*
     generalize jQ sp r y=md at*
     generalize btP 1 (y-r) (y+r)=bt at*
     generalize btP 2 (z-r) (z+r)=bt2 at*
     generalize leP 2 (z-r)=p at*
     generalize geP 2 (z+r)=q at*
     obtain⟨p1,p2,p3,p4⟩:=p
     obtain⟨q1,q2,q3,q4⟩:=q
     have f9:=fun cv lv W' hc hl=>Lib.hid (bC cv sp lv [bt] W' hc hl (by simp) (by simp) (by have:=Hb1l.out;simp;omega))
     rw[←Hmd.out]at f9
     go_wp2_with fail
     refine((f1 _).out).mono ?_
     rintro en w3 ⟨v3,rfl,hb3,hp3⟩
     obtain⟨ya,yc,rfl⟩:=hp3.shape
     obtain⟨Y,HY⟩:∃Y,Hid (w3.alloc (.cells #[.slice ya bt.length yc] 104)=Y):=⟨_,Lib.hid rfl⟩
     have hbY:Below w3.heap.size w3 Y:=by rw[←HY.out];exact bel
     have HF:Hid (FO 0 [bt] (.slice (some ⟨w3.heap.size,0,none⟩) 1 1) Y):=Lib.hid (by rw[←HY.out];exact bi [_] [_] (Nat.zero_le _) ⟨hp3.mono (Nat.zero_le _),trivial⟩ bel)
     have hb3Y:=ae hb3 hbY
     clear hp3
     have H9:=Lib.hid ((f9 _ _ Y ((HS3.out.below hb3Y).planes.mono (Nat.zero_le _)) HF.out.2.cells).out)
     go_wp2_with fail
     rw[HY.out]
     refine(H9.out).mono ?_
     rintro en w5 ⟨v5,rfl,hb5,hp5⟩
     obtain⟨ra,rc,rfl⟩:=hp5.shape
     have hb35:=ae hb3Y hb5
     have HK5:=Lib.hid (hp5.mono (B':=W.heap.size) (by have:=HR.out.below.size;have:=hb3Y.size;omega))
     clear HF HY H9 hbY hp5 hb3 hb3Y hb5
     have HR:=Lib.hid (HR.out.grow hb35)
     go_wp2
     have HMD:=HK5
     clear HK5
     obtain⟨x0,x1,xf,xz⟩:=dC HR.out.blk
     have g3:=fun cv lv W' hc hl=>Lib.hid (bC cv md lv [[(p1,p2,p3,p4)]] W' hc hl (by simp) (by simp) (by have:=Hml.out;simp;omega))
     have g4:=fun cv lv W' hc hl=>Lib.hid (bC cv md lv [[(q1,q2,q3,q4)]] W' hc hl (by simp) (by simp) (by have:=Hml.out;simp;omega))
     generalize [md,[(p1,p2,p3,p4)]].flatten=K3 at*
     generalize [md,[(q1,q2,q3,q4)]].flatten=K4 at*
     have zW:=HR.out.below.size
     have k1:IntKind.i64.wrap (z-r)=z-r:=IntWalk.i64_in _ (by omega)
     have k2:IntKind.i64.wrap (z+r)=z+r:=IntWalk.i64_in _ (by omega)
     clear hb35
     apply bW [] [0,1,2,3,4,5,6,7,8,9,10,11,12,13,14,15,16,17,18,19] 20 [] 21 [] [sv _,sv _,sv _,sv _,sv _,sv _,sv _,sPO W.heap.size [(p1,p2,p3,p4)],sFO W.heap.size [[(p1,p2,p3,p4)]],sPO W.heap.size K3,sv _,sv _,sv _,sv _,sv _,sv _,sPO W.heap.size [(q1,q2,q3,q4)],sFO W.heap.size [[(q1,q2,q3,q4)]],sPO W.heap.size K4,sFO W.heap.size [K3,K4]] (fun _=>True) (by kernel_rfl) (by kernel_rfl) (by kernel_rfl) (fun _=>trivial)
     ·exact gR
     iterate 6 ((try go_frame);refine wkQ ?_)
     try go_frame
     refine wkV ?_
     apply ex3
     ·intro u K hK
      go_simp
      refine((f3 _).out).mono ?_
      rintro e w9 ⟨rfl,hb9⟩
      exact hK _ hb9
     rfl
     try go_frame
     refine wkU (fun u hR K hK=> ?_) (fun o7=> ?_)
     ·clear hR
      have zw:=u.size
      go_simp
      exact hK _ _ bel (cF [(p1,p2,p3,p4)] (by omega))
     try go_frame
     refine wkU (fun u hR K hK=> ?_) (fun o8=> ?_)
     ·have h7:(PO W.heap.size [(p1,p2,p3,p4)]) o7 u.val:=hr hR 7
      clear hR
      have zw:=u.size
      obtain⟨ya,yc,rfl⟩:=(h7).shape
      have H1:=Lib.hid h7
      clear h7
      go_simp
      exact hK _ _ bel (bi [_] [_] (by omega) ⟨H1.out,trivial⟩ bel)
     try go_frame
     refine wkU (fun u hR K hK=> ?_) (fun o9=> ?_)
     ·have h8:(FO W.heap.size [[(p1,p2,p3,p4)]]) o8 u.val:=hr hR 8
      clear hR
      go_simp
      refine((g3 _ _ _ ((HMD.out.planes.below u.below).mono (Nat.zero_le _)) (h8.2.cells.mono (Nat.zero_le _))).out).mono ?_
      rintro e w9 ⟨v9,rfl,hb9,hp9⟩
      exact hK _ _ hb9 (AY hp9 (by have:=u.size;omega))
     iterate 5 ((try go_frame);refine wkQ ?_)
     try go_frame
     refine wkV ?_
     apply ex3
     ·intro u K hK
      go_simp
      refine((f4 _).out).mono ?_
      rintro e w9 ⟨rfl,hb9⟩
      exact hK _ hb9
     rfl
     try go_frame
     refine wkU (fun u hR K hK=> ?_) (fun o16=> ?_)
     ·clear hR
      have zw:=u.size
      go_simp
      exact hK _ _ bel (cF [(q1,q2,q3,q4)] (by omega))
     try go_frame
     refine wkU (fun u hR K hK=> ?_) (fun o17=> ?_)
     ·have h16:(PO W.heap.size [(q1,q2,q3,q4)]) o16 u.val:=hr hR 16
      clear hR
      have zw:=u.size
      obtain⟨ya,yc,rfl⟩:=(h16).shape
      have H1:=Lib.hid h16
      clear h16
      go_simp
      exact hK _ _ bel (bi [_] [_] (by omega) ⟨H1.out,trivial⟩ bel)
     try go_frame
     refine wkU (fun u hR K hK=> ?_) (fun o18=> ?_)
     ·have h17:(FO W.heap.size [[(q1,q2,q3,q4)]]) o17 u.val:=hr hR 17
      clear hR
      go_simp
      refine((g4 _ _ _ ((HMD.out.planes.below u.below).mono (Nat.zero_le _)) (h17.2.cells.mono (Nat.zero_le _))).out).mono ?_
      rintro e w9 ⟨v9,rfl,hb9,hp9⟩
      exact hK _ _ hb9 (AY hp9 (by have:=u.size;omega))
     try go_frame
     refine wkU (fun u hR K hK=> ?_) (fun o19=> ?_)
     ·have h9:(PO W.heap.size K3) o9 u.val:=hr hR 9
      have h18:(PO W.heap.size K4) o18 u.val:=hr hR 18
      clear hR
      have zw:=u.size
      obtain⟨ya,yc,rfl⟩:=(h9).shape
      obtain⟨xa,xc,rfl⟩:=(h18).shape
      have H1:=Lib.hid h9
      have H2:=Lib.hid h18
      clear h9 h18
      go_simp
      exact hK _ _ bel (bi [_,_] [_,_] (by omega) ⟨H1.out,H2.out,trivial⟩ bel)
     try go_frame
     refine aI (fun u hR=> ?_)
     have HF:Hid (FO W.heap.size [K3,K4] o19 u.val):=Lib.hid (hR 19 (by simp))
     have HR1:=Lib.hid (HR.out.grow u.below)
     have HMD1:=Lib.hid (HMD.out.below u.below)
     clear hR HR HMD x0 x1 xf xz zW k1 k2
     generalize u.val=wx at*
     clear u
     simp only[oas]
     refine bE HR1.out.co HF.out _ _ rfl rfl rfl rfl (by have:=HL2.out;simp;omega) HR1.out.below.size fun v' w' hc' hg' _=> ?_
     have HR:=Lib.hid (HR1.out.push hc' hg')
     have HMD:=Lib.hid (HMD1.out.push HR1.out.co hg')
     obtain⟨C3,HC3⟩:∃C3,Hid (C2++[K3,K4]=C3):=⟨_,Lib.hid rfl⟩
     rw[HC3.out]at hc' HR Hbf2
     obtain⟨ua,uc,rfl⟩:=hc'.shape
     have HL3:Hid (C3.length≤8*i+4):=Lib.hid (by rw[←HC3.out];have:=HL2.out;simp;omega)
     refine⟨trivial, ?_⟩
     clear hc' hg' HR1 HMD1 HF HC3 f3 f4 g3 g4
     simp only[oas]
     go_wp2
     refine NoPanic.normal ?_
     obtain⟨x0,x1,xf,xz⟩:=dC HR.out.blk
     have f9:=fun cv lv W' hc hl=>Lib.hid (bC cv md lv [bt2] W' hc hl (by simp) (by simp) (by have:=Hb2l.out;have:=Hml.out;simp;omega))
     rw[←Hsq.out]at f9
     go_wp2_with fail
     go_wp2_with fail
     refine((f2 _).out).mono ?_
     rintro en w3 ⟨v3,rfl,hb3,hp3⟩
     obtain⟨ya,yc,rfl⟩:=hp3.shape
     obtain⟨Y,HY⟩:∃Y,Hid (w3.alloc (.cells #[.slice ya bt2.length yc] 104)=Y):=⟨_,Lib.hid rfl⟩
     have hbY:Below w3.heap.size w3 Y:=by rw[←HY.out];exact bel
     have HF:Hid (FO 0 [bt2] (.slice (some ⟨w3.heap.size,0,none⟩) 1 1) Y):=Lib.hid (by rw[←HY.out];exact bi [_] [_] (Nat.zero_le _) ⟨hp3.mono (Nat.zero_le _),trivial⟩ bel)
     have hb3Y:=ae hb3 hbY
     clear hp3
     have H9:=Lib.hid ((f9 _ _ Y ((HMD.out.below hb3Y).planes.mono (Nat.zero_le _)) HF.out.2.cells).out)
     go_wp2_with fail
     rw[HY.out]
     refine(H9.out).mono ?_
     rintro en w5 ⟨v5,rfl,hb5,hp5⟩
     obtain⟨ra,rc,rfl⟩:=hp5.shape
     have hb35:=ae hb3Y hb5
     have HK5:=Lib.hid (hp5.mono (B':=W.heap.size) (by have:=HR.out.below.size;have:=hb3Y.size;omega))
     clear HF HY H9 hbY hp5 hb3 hb3Y hb5
     have HR:=Lib.hid (HR.out.grow hb35)
     have HSQ:=HK5
     clear HK5 HMD f2 f9 x0 x1 xf xz
     obtain⟨x0,x1,xf,xz⟩:=dC HR.out.blk
     go_wp2_with fail
     refine((f5 _).out).mono ?_
     rintro en w7 ⟨v7,rfl,hb7,hp7⟩
     have HP8:=Lib.hid (hp7.mono (B':=W.heap.size) HR.out.below.size)
     obtain⟨g8,c8,e8,hc8⟩:=Ab hp7 (by rw[H8l.out];omega)
     rw[H8l.out]at e8 hc8
     subst e8
     have HR:=Lib.hid (HR.out.grow hb7)
     have HSQ:=Lib.hid (HSQ.out.below hb7)
     clear hp7 hb7 x0 x1 xf xz f5 hb35
     have gc8:c8≠4:=by omega
     go_wp2
     obtain⟨F,HF0,HFs,HF4,HFl⟩:∃F:Nat→List (List Q4),Hid (F 0=C3)∧Hid (∀j,j<4→∀a b c d,c4[j]? =some (a,b,c,d)→F (j+1)=F j++[[sq,[trP (a,b,c,d)]].flatten])∧Hid (F 4=RS (i+1))∧Hid (∀j,(F j).length≤8*i+8):=by
      refine⟨fun j=>C3++(c4.take j).map fun p=>[sq,[trP p]].flatten,Lib.hid (by simp),Lib.hid (fun j hj a b c d h=> ?_),Lib.hid ?_,Lib.hid (fun j=> ?_)⟩
      ·dsimp only
       rw[List.take_add_one,h]
       simp
      ·have h4:c4.take 4=c4:=List.take_of_length_le (Nat.le_of_eq H4l.out)
       dsimp only
       rw[Hbf2.out,h4]
      ·have:=HL3.out
       have:=H4l.out
       simp
       omega
     go_loopw [9,120] (fun s9 s120 wq=>∃j:Nat,j≤4∧s120= .int .i64 j∧(∃fa fc,s9= .slice fa (F j).length fc∧Hid (RI W wr.heap.size y z (F j) (.slice fa (F j).length fc) wq))∧Hid (PO W.heap.size sq (.slice ra sq.length rc) wq)∧Hid (PO W.heap.size shp (.slice (some ⟨g8,0,none⟩) 8 c8) wq)) (fun _ s120 _=>4-(intOf s120).toNat)
     case atStart=>exact⟨0,by omega,rfl,⟨_,_,by rw[HF0.out],by rw[HF0.out];exact HR⟩,HSQ,HP8⟩
     case round=>
      clear HR HSQ HP8
      rename World=>wq
      obtain⟨j,hj,rfl,⟨fa,fc,rfl,HR⟩,HSQ,HP8⟩:=hrel
      by_cases hjl:j<4
      ·obtain⟨a1,a2,a3,a4,hs1,hs2,ba1,ba2,ba3,ba4⟩:=Hcut.out j hjl
       have HFj:=Lib.hid (HFs.out j hjl a1 a2 a3 a4 hs2)
       have hq4:=Ac HP8.out (by rw[H8l.out];omega) (4+j) (by rw[H8l.out];omega)
       obtain⟨_,es⟩:=List.getElem?_eq_some_iff.1 hs1
       rw[es]at hq4
       simp only at hq4
       obtain⟨d0,d1,d2,d3⟩:=hq4
       have ea:0+(4+j)*4=16+j*4:=by omega
       rw[ea]at d0 d1 d2 d3
       have zd:=World.block_lt_of_cell? wq _ d0
       simp only at zd
       have f6:=fun W'=>Lib.hid (show Calls Tryz.prog 82 #[v4 (a1,a2,a3,a4)] W' (Ret W' (v4 (trP (a1,a2,a3,a4))))from eE a1 a2 a3 a4 W' (by omega) (by omega) (by omega) (by omega))
       generalize trP (a1,a2,a3,a4)=p at*
       obtain⟨p1,p2,p3,p4⟩:=p
       have f9:=fun cv lv W' hc hl=>Lib.hid (bC cv sq lv [[(p1,p2,p3,p4)]] W' hc hl (by simp) (by simp) (by have:=Hml.out;simp;omega))
       generalize [sq,[(p1,p2,p3,p4)]].flatten=K at*
       have j1:(j:Int)<4:=by omega
       have j2:(0:Int)≤(j:Int):=by omega
       have HLx:=Lib.hid (HFl.out j)
       have hbU:Below wq.heap.size wq (wq.alloc (.cells #[.int .i64 a1, .int .i64 a2, .int .i64 a3, .int .i64 a4] 69)):=bel
       have HR:=Lib.hid (HR.out.grow hbU)
       have HSQ:=Lib.hid (HSQ.out.below hbU)
       have HP8:=Lib.hid (HP8.out.below hbU)
       clear hs1 hs2 es ea hbU Hcut HFs HF0 HF4 Hbf2
       go_wp2_with fail
       refine((f6 _).out).mono ?_
       rintro en w3 ⟨rfl,hb3⟩
       obtain⟨Y,HY⟩:∃Y,Hid ((w3.alloc (.cells #[.int .i64 p1, .int .i64 p2, .int .i64 p3, .int .i64 p4] 69)).alloc (.cells #[.slice (some ⟨w3.heap.size,0,none⟩) 1 1] 104)=Y):=⟨_,Lib.hid rfl⟩
       have hbY:Below w3.heap.size w3 Y:=by rw[←HY.out];exact bel
       have HF:Hid (FO 0 [[(p1,p2,p3,p4)]] (.slice (some ⟨w3.heap.size+1,0,none⟩) 1 1) Y):=Lib.hid (by rw[←HY.out];exact lK _ _ _ _ _)
       have hb3Y:=ae hb3 hbY
       have H9:=Lib.hid ((f9 _ _ Y ((HSQ.out.below hb3Y).planes.mono (Nat.zero_le _)) HF.out.2.cells).out)
       go_wp2_with fail
       rw[HY.out]
       refine(H9.out).mono ?_
       rintro en w5 ⟨v5,rfl,hb5,hp5⟩
       obtain⟨ra,rc,rfl⟩:=hp5.shape
       have hb35:=ae hb3Y hb5
       have HK5:=Lib.hid (hp5.mono (B':=W.heap.size) (by have:=HR.out.below.size;have:=hb3Y.size;omega))
       clear HF HY H9 hbY hp5 hb3 hb3Y hb5
       have hbZ:Below w5.heap.size w5 (w5.alloc (.cells #[.slice ra (K).length rc] 104)):=bel
       have HRZ:=Lib.hid (HR.out.grow (ae hb35 hbZ))
       have HG:Hid (FO W.heap.size [K] (.slice (some ⟨w5.heap.size,0,none⟩) 1 1) (w5.alloc (.cells #[.slice ra (K).length rc] 104))):=Lib.hid (bi [_] [_] (Nat.le_trans HR.out.below.size hb35.size) ⟨HK5.out,trivial⟩ hbZ)
       go_wp2_with (at_builtin;refine bE HRZ.out.co HG.out _ _ rfl rfl rfl rfl ?c1 ?c2 ?_)
       case c1=>have:=HLx.out;have:=HLr.out;simp;omega
       case c2=>exact HRZ.out.below.size
       intro v' w' hc' hg' _
       rw[←HFj.out]at hc'
       have hwz:=ae hb35 hbZ
       have HSQ:=Lib.hid ((HSQ.out.below hwz).push HRZ.out.co hg')
       have HP8:=Lib.hid ((HP8.out.below hwz).push HRZ.out.co hg')
       have HR:=Lib.hid (HRZ.out.push hc' hg')
       obtain⟨fa2,fc2,rfl⟩:=hc'.shape
       clear hc' hg' HRZ HG hbZ hb35 HK5 hwz f6 f9 d0 d1 d2 d3 zd
       go_wp2
       go_roundw
       case rel=>exact⟨j+1,by omega,by go_num,⟨_,_,rfl,HR⟩,HSQ,HP8⟩
       case measure=>simp[intOf];omega
      ·obtain rfl:j=4:=by omega
       clear HFs HF0 Hcut HSQ HP8
       go_wp2
       go_roundw
       case rel=>exact⟨i+1,by omega,by go_num,HR.out.below,Lib.hid (by rw[←HF4.out];exact HR.out.co)⟩
       case measure=>simp[intOf];omega
  ·obtain rfl:i=N:=by omega
   obtain⟨oa,oc,rfl⟩:=HO.out.shape
   have g1:¬(i:Int)<(i:Int):=by omega
   go_wp2
   go_ret
   exact⟨_,rfl,hbw,HO.out⟩
end
end Go.Proofs.YtokhkhnofkcalaaGreatDoor
