/- texts: MB F0. -/
import Derived.Test.YtffbilcjhlncfaaGreatDoorDQS23
import Derived.Test.YtffbilcjhlncfaaGreatDoorDQS24
namespace Go.Proofs.YtffbilcjhlncfaaGreatDoor
set_option maxHeartbeats 8000000
set_option linter.all false
section
open Go.RowKit Go.Shelf Go.Lib
set_option maxRecDepth 100000
attribute [local go_sem] Ext.cell Ext.frozen
def KZ (p q:List (List Q4)) (d:Q3):Bool:=BT (p.map bp) (q.map bp) d
def blE (p q:List (List Q4)) (d:Q3):Int:=if Tv p=0 then(if Tv q=0 then mK d else Tv q)else Tv p
def ET (bs:List Bod):Value→World→Prop:=fun v w=>PartV w v bs
theorem EU (bs:List Bod):dR (ET bs):=fun _ _ _ hb h=>PartV.below h hb
theorem zZ {css:List (List Q4)} (h:Tv css=0):(∀c∈css,DC c)∧css.length≤100:=by
 unfold Tv at h
 split at h
 ·cases h
 ·refine⟨fun c hc=>Dl ?_,by omega⟩
  have key:∀l:List (List Q4),lr l=0→∀c∈l,bK c=0:=by
   intro l
   induction l with
   |nil=>intro _ c hc;cases hc
   |cons d l ih=>
    intro hl c hc
    unfold lr at hl
    split at hl
    ·rename_i hd
     rcases alsk.1 hc with rfl|hc
     ·exact hd
     ·exact ih hl c hc
    ·rename_i hd;exact absurd hl hd
  exact key css h c hc
theorem qer {css:List (List Q4)} (h:∀c∈css,DC c):∀b∈css.map bp,Ii b:=fun b hb=>by
 obtain⟨c,hc,rfl⟩:=altt.1 hb
 exact Ij (h c hc)
theorem CO (p q:List (List Q4)) (sv tv:Value) (x y z:Int) (W:World) (hp:∀c∈p,c.length≤1000000) (hq:∀c∈q,c.length≤1000000) (h1:SolV W sv p) (h2:SolV W tv q):
  Calls Tryz.prog 33 #[.agg #[sv], .agg #[tv],V3 x y z] W (Ret W (.tuple #[.bool (decide (blE p q (x,y,z)=0)&&KZ p q (x,y,z)), .int .i64 (blE p q (x,y,z))])):=by
 have HC1:=fun W' (h:Below W.heap.size W W')=>YJ (Rr p sv W' hp (SolV.below h1 h))
 have HC2:=fun W' (h:Below W.heap.size W W')=>YJ (Rr q tv W' hq (SolV.below h2 h))
 have HCW:=fun W'=>YJ (Ru x y z W')
 have HP1:=fun(h0:Tv p=0) W' (h:Below W.heap.size W W')=>YJ (BZ p sv W' (zZ h0).1 (qaD (zZ h0).2 (by decide)) (SolV.below h1 h))
 have HP2:=fun(h0:Tv q=0) W' (h:Below W.heap.size W W')=>YJ (BZ q tv W' (zZ h0).1 (qaD (zZ h0).2 (by decide)) (SolV.below h2 h))
 have HBk:=fun(h0:Tv p=0) (h3:Tv q=0) (h4:mK (x,y,z)=0) pv qv W' (k1:PartV W' pv (p.map bp)) (k2:PartV W' qv (q.map bp))=>YJ (CN (p.map bp) (q.map bp) pv qv (x,y,z) W' (qer (zZ h0).1) (qer (zZ h3).1) (BN h4) (by rw[qdo];exact qaD (zZ h0).2 (by decide)) (by rw[qdo];exact qaD (zZ h3).2 (by decide)) k1 k2)
 have He1:Hid (Tv p≠0→blE p q (x,y,z)=Tv p):=YJ (fun h=>by unfold blE;rw[if_neg h])
 have He2:Hid (Tv p=0→Tv q≠0→blE p q (x,y,z)=Tv q):=YJ (fun h h'=>by unfold blE;rw[if_pos h,if_neg h'])
 have He3:Hid (Tv p=0→Tv q=0→blE p q (x,y,z)=mK (x,y,z)):=YJ (fun h h'=>by unfold blE;rw[if_pos h,if_pos h'])
 have HbS:Hid (KZ p q (x,y,z)=BT (p.map bp) (q.map bp) (x,y,z)):=YJ rfl
 obtain⟨sa,sn,sc,rfl, -⟩:=h1
 obtain⟨ta,tn,tc,rfl, -⟩:=h2
 generalize p.map bp=PB at*
 generalize q.map bp=QB at*
 generalize BT PB QB (x,y,z)=bk at*
 rw[HbS.out]
 generalize blE p q (x,y,z)=be at*
 generalize mK (x,y,z)=we at*
 generalize Tv p=e1 at*
 generalize Tv q=e2 at*
 clear hp hq HbS
 obtain⟨V,HV⟩:∃V,Hid ((((W.alloc (.cells #[.slice sa sn sc] 75)).alloc (.cells #[.slice ta tn tc] 75)).alloc (.cells #[.int .i64 x, .int .i64 y, .int .i64 z] 58)).alloc (.cells #[.slice sa sn sc, .slice ta tn tc] 75)=V):=⟨_,YJ rfl⟩
 have hV:Below W.heap.size W V:=by rw[←HV.out];exact bel
 have HP:Hid (V.heap[W.heap.size]? =some (.cells #[.slice sa sn sc] 75 (0,0))):=YJ (by rw[←HV.out];exact(aB (by simp<;>omega)).trans ((aB (by simp<;>omega)).trans ((aB (by simp<;>omega)).trans (ai rfl))))
 have HQ:Hid (V.heap[W.heap.size+1]? =some (.cells #[.slice ta tn tc] 75 (0,0))):=YJ (by rw[←HV.out];exact(aB (by simp)).trans ((aB (by simp)).trans (ai (by simp))))
 have HW:Hid (V.heap[W.heap.size+2]? =some (.cells #[.int .i64 x, .int .i64 y, .int .i64 z] 58 (0,0))):=YJ (by rw[←HV.out];exact(aB (by simp)).trans (ai (by simp)))
 have HL:Hid (V.heap[W.heap.size+3]? =some (.cells #[.slice sa sn sc, .slice ta tn tc] 75 (0,0))):=YJ (by rw[←HV.out];exact ai (by simp))
 have hl0:V.cell? ⟨W.heap.size+3,0,none⟩=some (.slice sa sn sc):=(bq HL.out 0).trans rfl
 have hl1:V.cell? ⟨W.heap.size+3,1,none⟩=some (.slice ta tn tc):=(bq HL.out 1).trans rfl
 have hlz:=ah HL.out
 go_enter Tryz.func33,Tryz.ntmps33
 go_wp2
 try rw[HV.out]
 go_loopw [16] (fun i wr=>∃k:Int,0≤k∧k≤2∧i= .int .i64 k∧Below V.heap.size V wr∧Hid ((1≤k→e1=0)∧(2≤k→e2=0))) (fun i _=>2-(intOf i).toNat)
 case atStart=>exact⟨0,by omega,by omega,rfl,brf,YJ ⟨fun h=>by omega,fun h=>by omega⟩⟩
 case round=>
  obtain⟨k,hk0,hk,rfl,hb,Hk⟩:=hrel
  have hWr:Below W.heap.size W wr:=hV.trans (hb.mono hV.size)
  have r0:=ab hb hl0
  have r1:=ab hb hl1
  have rz:=qaG hlz hb.size
  rcases(by omega:k=0∨k=1∨k=2)with rfl|rfl|rfl
  ·have HC:=fun W' (h:Below wr.heap.size wr W')=>YJ ((HC1 W' (fB hWr h)).out)
   clear HC1 HC2
   go_wp2_with fail
   refine((HC _ bel).out).mono ?_
   rintro e w1 ⟨rfl,hb1⟩
   have hb2:Below wr.heap.size wr w1:=fB bel hb1
   clear HC r0 r1
   by_cases h0:e1=0
   ·subst h0
    go_wp2
    go_roundw
    case rel=>exact⟨1,by omega,by omega,rfl,hb.trans (hb2.mono hb.size),YJ ⟨fun _=>by trivial,fun h=>by omega⟩⟩
    first|decide|(simp[intOf];done)
   ·have h0':(e1 !=0)=true:=by simpa using h0
    have hbe:=He1.out h0
    subst hbe
    clear He2 He3 HP1 HP2 HBk
    go_wp2
    go_ret2
    refine⟨?_,fB hWr hb2⟩
    rw[qfZ h0]
    rfl
  ·have HC:=fun W' (h:Below wr.heap.size wr W')=>YJ ((HC2 W' (fB hWr h)).out)
   have hz1:=Hk.out.1 (by omega)
   subst hz1
   clear HC1 HC2
   go_wp2_with fail
   refine((HC _ bel).out).mono ?_
   rintro e w1 ⟨rfl,hb1⟩
   have hb2:Below wr.heap.size wr w1:=fB bel hb1
   clear HC r0 r1
   by_cases h0:e2=0
   ·subst h0
    go_wp2
    go_roundw
    case rel=>exact⟨2,by omega,by omega,rfl,hb.trans (hb2.mono hb.size),YJ ⟨fun _=>by trivial,fun _=>by trivial⟩⟩
    first|decide|(simp[intOf];done)
   ·have h0':(e2 !=0)=true:=by simpa using h0
    have hbe:=He2.out (by trivial) h0
    subst hbe
    clear He1 He3 HP1 HP2 HBk
    go_wp2
    go_ret2
    refine⟨?_,fB hWr hb2⟩
    rw[qfZ h0]
    rfl
  ·have hz1:=Hk.out.1 (by omega)
   have hz2:=Hk.out.2 (by omega)
   subst hz1
   subst hz2
   have hbe:=He3.out (by trivial) (by trivial)
   subst hbe
   have HPr:=YJ ((hb.block _ (ah HP.out)).trans HP.out)
   have HQr:=YJ ((hb.block _ (ah HQ.out)).trans HQ.out)
   have HWr:=YJ ((hb.block _ (ah HW.out)).trans HW.out)
   obtain⟨x0,x1,x2,xf,xz⟩:=NO HWr.out
   clear He1 He2 He3 HC1 HC2 r0 r1
   go_wp2_with fail
   refine((HCW _).out).mono ?_
   rintro e w1 ⟨rfl,hb1⟩
   have hw1:=fB hWr hb1
   have HP1':=YJ ((hb1.block _ (ah HPr.out)).trans HPr.out)
   have HQ1':=YJ ((hb1.block _ (ah HQr.out)).trans HQr.out)
   have HW1':=YJ ((hb1.block _ (ah HWr.out)).trans HWr.out)
   clear HCW x0 x1 x2 xf xz
   by_cases h0:be=0
   ·subst h0
    have HA1:=fun W' h=>YJ ((HP1 (by trivial) W' h).out)
    have HA2:=fun W' h=>YJ ((HP2 (by trivial) W' h).out)
    have HA3:=fun pv qv W' k1 k2=>YJ ((HBk (by trivial) (by trivial) (by trivial) pv qv W' k1 k2).out)
    obtain⟨x0,x1,x2,xf,xz⟩:=NO HW1'.out
    have p0:w1.cell? ⟨W.heap.size,0,none⟩=some (.slice sa sn sc):=(bq HP1'.out 0).trans rfl
    have q0:w1.cell? ⟨W.heap.size+1,0,none⟩=some (.slice ta tn tc):=(bq HQ1'.out 0).trans rfl
    have pz:=ah HP1'.out
    have qz:=ah HQ1'.out
    clear HP1 HP2 HBk
    go_wp2
    apply aj [] [0,1,2,3,4,5] 6 [7] [sv _,⟨ET PB,by first|exact EU _⟩,sv _,⟨ET QB,by first|exact EU _⟩,sv _,sv _] (by kernel_rfl) (by kernel_rfl)
    ((try go_frame);refine wkQ ?_)
    try go_frame
    refine wkU (fun u hR K hK=> ?_) (fun o1=> ?_)
    ·clear hR
     go_simp
     refine((HA1 _ (fB hw1 u.below)).out).mono ?_
     rintro e w9 ⟨v9,rfl,hb9,hp9,_⟩
     exact hK _ _ hb9 hp9
    ((try go_frame);refine wkQ ?_)
    try go_frame
    refine wkU (fun u hR K hK=> ?_) (fun o3=> ?_)
    ·clear hR
     go_simp
     refine((HA2 _ (fB hw1 u.below)).out).mono ?_
     rintro e w9 ⟨v9,rfl,hb9,hp9,_⟩
     exact hK _ _ hb9 hp9
    ((try go_frame);refine wkQ ?_)
    try go_frame
    refine wkR ?_
    apply ex3
    ·intro u hR K hK
     have h1:ET PB o1 u.val:=hr hR 1
     have h3:ET QB o3 u.val:=hr hR 3
     clear hR
     have K1:=YJ h1
     have K2:=YJ h3
     obtain⟨a1,n1,c1,rfl, -⟩:=h1
     obtain⟨a2,n2,c2,rfl, -⟩:=h3
     go_simp
     refine((HA3 _ _ _ K1.out K2.out).out).mono ?_
     rintro e w9 ⟨rfl,hb9⟩
     exact hK _ hb9
    rfl
    try go_frame
    refine aI (fun u hR=> ?_)
    have hbu:=fB hw1 u.below
    clear hR
    generalize u.val=w2 at*
    simp only[oas]
    go_wp2
    refine NoPanic.normal ?_
    go_wp2
    go_ret2
    exact⟨rfl,hbu⟩
   ·have h0':(be !=0)=true:=by simpa using h0
    clear HP1 HP2 HBk
    go_wp2
    go_ret2
    refine⟨?_,hw1⟩
    rw[qfZ h0]
    rfl
def ways26:List Q3:=[(-1, -1, -1),(-1, -1,0),(-1, -1,1),(-1,0, -1),(-1,0,0),(-1,0,1),(-1,1, -1),(-1,1,0),(-1,1,1),(0, -1, -1),(0, -1,0),(0, -1,1),(0,0, -1),(0,0,1),(0,1, -1),(0,1,0),(0,1,1),(1, -1, -1),(1, -1,0),(1, -1,1),(1,0, -1),(1,0,0),(1,0,1),(1,1, -1),(1,1,0),(1,1,1)]
theorem Ef:∀v∈ways26,(v.1= -1∨v.1=0∨v.1=1)∧(v.2.1= -1∨v.2.1=0∨v.2.1=1)∧(v.2.2= -1∨v.2.2=0∨v.2.2=1)∧¬(v.1=0∧v.2.1=0∧v.2.2=0):=by decide
end
end Go.Proofs.YtffbilcjhlncfaaGreatDoor
