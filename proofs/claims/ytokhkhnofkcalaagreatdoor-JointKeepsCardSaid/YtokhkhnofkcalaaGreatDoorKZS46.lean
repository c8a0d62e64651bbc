/- texts: Z4 RG RH. -/
import Derived.Test.YtokhkhnofkcalaaGreatDoorKZS45
import Derived.Test.YtokhkhnofkcalaaGreatDoorKZS36
namespace Go.Proofs.YtokhkhnofkcalaaGreatDoor
set_option maxHeartbeats 8000000
set_option linter.unusedSimpArgs false
set_option linter.unusedVariables false
section
open Go.RowKit Go.Shelf
attribute [local go_sem] Ext.cell Ext.frozen
theorem qu (k l w t:Int) (nv:Value) (n:List Int) (W:World) (hn:Ints W nv n) (g:Good k l w t n):
  Calls Tryz.prog 31 #[vJ k l w t nv] W (cW W (aR k l w n) (bR k l n)):=
 oF k l w t nv n W hn g (fun h=>by
  have h8:=g.h8 h
  have hlen:=g.len
  subst h
  exact un l w t nv n W hn h8.1 h8.2 (by omega) (fun i=>g.nb i))
theorem rT (l w t:Int) (c:List Q4):(dr l w t c).length≤c.length+6:=by
 unfold dr jB
 split
 ·unfold iS ii
  refine Nat.le_trans (eR _) ?_
  rw[nj]
  unfold iZ
  rw[List.length_map]
  refine Nat.le_trans (List.length_filter_le _ _) ?_
  refine Nat.le_trans (eR _) ?_
  simp[fU]
 ·simp
def wQ (css:List (List Q4)):Value→World→Prop:=fun v w=>∃s,v= .agg #[s]∧SolV w s css
theorem wR (css:List (List Q4)):dR (wQ css):=fun _ _ _ hb ⟨s,h1,h2⟩=>⟨s,h1,h2.below hb⟩
theorem Cells.lenE {l w t:Int}:∀{cs es:List (List Q4)},Cells l w t cs es→cs.length=es.length
 | [],[],_=>rfl
 |_::_,_::_,h=>by simp[Cells.lenE h.2]
 | [],_::_,h=>h.elim
 |_::_,[],h=>h.elim
theorem kG (w t f g:Int) (n:List Int):∀j,(ew w t f g n j).length≤8*j
 |0=>by simp[ew]
 |j+1=>by
  have:=kG w t f g n j
  rw[mE,List.length_append]
  have h2:∀b:Bool,∀s y z,(cL w t f g (n.getD 1 0) (n.getD 2 0) s b y z).length≤8:=fun b s y z=>by cases b<;>simp[cL]
  have:=h2 (j+1==bo n) (dw n j) (n.getD (6+2*j) 0) (n.getD (7+2*j) 0)
  omega
theorem BI {α:Type} {c:Prop} [Decidable c] {a b:List α} {m:Nat} (h1:a.length≤m) (h2:b.length≤m):(if c then a else b).length≤m:=by split<;>assumption
theorem rU (k l w t:Int) (n:List Int) (m:Nat) (hn:n.length≤1000):(aW k l w t n m).length≤1000000:=by
 have h1:=kG w t (n.getD 0 0) (n.getD 0 0+n.getD 3 0+n.getD 5 0) n (bo n)
 have h2:=kG w t (n.getD 0 0-n.getD 4 0-n.getD 5 0) (n.getD 0 0) n (bo n)
 have h3:bo n≤1000:=by unfold bo;omega
 have h4:∀j,(cK w n m j).length≤j:=fun j=>by
  unfold cK
  rw[List.length_map]
  exact Nat.le_trans (List.length_filter_le _ _) (by simp)
 have h5:=h4 (n.length+1)
 have h6:(dB l n (n.length-2)).length≤1000:=by simp[dB];omega
 have h7:(eo l n (n.length-1)).length≤1000:=by simp[eo];omega
 unfold aW
 generalize n.getD 0 0=x0 at*
 generalize n.getD 1 0=x1 at*
 generalize n.getD 2 0=x2 at*
 generalize n.getD 3 0=x3 at*
 generalize n.getD 4 0=x4 at*
 generalize n.getD 5 0=x5 at*
 repeat' apply BI
 all_goals (try simp[ej,iq,ir])
 all_goals (try simp at h1 h2)
 all_goals omega
theorem rV (k l w t:Int) (n:List Int) (m:Nat) (h0:ky k l w t n=0) (hme:mI 0 k m n=0):∃css:List (List Q4),(∀c∈css,c.length≤1000000)∧css.length≤1000000∧
  (∀nv W,Ints W nv n→Calls Tryz.prog 8 #[vJ k l w t nv, .int .i64 m] W fun e w'=>∃s,e= .returned (.tuple #[.agg #[s], .int .i64 0])∧Below W.heap.size W w'∧SolV w' s css)∧
  ∀nv W,Ints W nv n→Calls Tryz.prog 15 #[vJ k l w t nv, .int .i64 m] W fun e w'=>∃s,e= .returned (.agg #[s])∧Below W.heap.size W w'∧SolV w' s css:=by
 have g:=lJ h0
 obtain⟨hl,hw,ht⟩:=g.sz
 have hlen:=g.len
 have hm:(m:Int)<cD k+aV k n:=by
  unfold mI at hme
  rw[if_neg (by simp)]at hme
  by_cases h:(m:Int)<0∨cD k+aV k n≤m
  ·rw[if_pos h]at hme;simp at hme
  ·omega
 obtain⟨hkl,hc⟩:=bS g m (by omega)
 have hmk:m<(aR k l w n).length:=by omega
 have hgd:(aR k l w n).getD m []=(aR k l w n)[m]:=by simp[List.getD,List.getElem?_eq_getElem hmk]
 rw[hgd]at hc
 have he:=hc.eq hl hw ht
 have hrl:=rU k l w t n m (by omega)
 have hcl:=hc.lenE
 refine⟨(aW k l w t n m).map fun e=>ch (aP l w t++e),fun c h=> ?_, ?_,fun nv W hn=> ?_,fun nv W hn=> ?_⟩
 ·rw[←he]at h
  obtain⟨c',h1,rfl⟩:=List.mem_map.1 h
  have:=rT l w t c'
  have:=hc.short c' h1
  omega
 ·rw[List.length_map]
  exact hrl
 ·refine(qo k l w t m nv n (aR k l w n) W hmk (by omega) (by omega) (by omega) (by have:=oG k;have:=kE k n;omega) (by omega) (fun c h=>by have:=hc.short c h;omega) hn (fun W' hb=>by
   have:=fm k l w t m (ky k l w t n) nv n W' (hn.below hb) (by omega) (fun W2 h2=>nB k l w t nv n W2 ((hn.below hb).below h2) (by omega)) (fun e=>(lJ e).h8)
   rwa [h0,hme]at this) (fun W' hb=> ?_)).mono ?_
  ·refine(qu k l w t nv n W' (hn.below hb) g).mono ?_
   rintro e w' ⟨v,rfl,h2,u,gv,rfl,hu,hg⟩
   obtain⟨⟨a2,m2,c2,rfl,_,_,_⟩,_⟩:=id hg
   exact⟨_,rfl,h2,u,a2,m2,c2,rfl,hu⟩
  ·rintro e w' ⟨s,vs,rfl,hb,ho,hr⟩
   refine⟨s,rfl,hb, ?_⟩
   rw[←he]
   exact qp (by simpa using ho) hr
 ·refine(rM k l w t nv n m W hn g hm).mono ?_
  rintro e w' ⟨r,rfl,h⟩
  obtain⟨vs,ho,hr⟩:=h.own
  exact⟨r,rfl,h.below,qp (by simpa using ho) hr⟩
theorem nK (k l w t m ce:Int) (nv:Value) (n:List Int) (W:World) (hn:Ints W nv n) (hl:n.length≤1000000) (hce:mI (ky k l w t n) k m n=ce) (h0:ce≠0):
  Calls Tryz.prog 8 #[vJ k l w t nv, .int .i64 m] W (Ret W (.tuple #[.agg #[.slice none 0 0], .int .i64 ce])):=by
 have H1:=fun W' h=>Lib.hid (fm k l w t m (ky k l w t n) nv n W' (hn.below (w':=W') h) hl (fun W2 h2=>nB k l w t nv n W2 ((hn.below h).below h2) hl) (fun e=>(lJ e).h8))
 rw[hce]at H1
 have hne:(ce !=0)=true:=by simpa using h0
 obtain⟨a,q,c,rfl,_,_,_⟩:=hn
 clear hce hl
 unfold vJ at*
 obtain⟨V,HV⟩:∃V,Hid ((W.alloc (.cells #[.int .i64 k, .int .i64 l, .int .i64 w, .int .i64 t, .slice a q c] 25)).alloc (.cells #[.slice none 0 0] 30)=V):=⟨_,Lib.hid rfl⟩
 have hV:Below W.heap.size W V:=by rw[←HV.out];exact bel
 have HJ:Hid (V.heap[W.heap.size]? =some (.cells #[.int .i64 k, .int .i64 l, .int .i64 w, .int .i64 t, .slice a q c] 25 (0,0))):=by rw[←HV.out];exact Lib.hid ((aB (by simp)).trans (ai rfl))
 have HR:Hid (V.heap[W.heap.size+1]? =some (.cells #[.slice none 0 0] 30 (0,0))):=by rw[←HV.out];exact Lib.hid (ai (by simp))
 obtain⟨j0,j1,j2,j3,j4,_,jz⟩:=bM HJ.out
 go_enter Tryz.func8,Tryz.ntmps8
 go_wp2_with fail
 rw[HV.out]
 refine((H1 _ hV).out).mono ?_
 rintro e w1 ⟨rfl,hb1⟩
 have HR1:=Lib.hid ((hb1.block _ (ah HR.out)).trans HR.out)
 have r0:w1.cell? ⟨W.heap.size+1,0,none⟩=some (.slice none 0 0):=(ag HR1.out 0).trans rfl
 have rf:=aC HR1.out 0
 have zr:=ah HR1.out
 go_wp2
 refine bodyPost_ret (v:= .tuple #[.agg #[.slice none 0 0], .int .i64 ce]) (by simp[results,Tryz.results8,go_sem,r0]) rfl ⟨rfl,(ae hV hb1).setCell (by simp) _⟩
set_option maxRecDepth 100000 in
theorem mL (k l w t:Int) (nv:Value) (n:List Int) (m:Int) (W:World) (hn:Ints W nv n) (hnil:re nv) (_hi:(Lit.int .i64 m).wf=true) (htab:Lib.TabIs Tryz.prog W "internal/strconv.uint64pow10" .u64 Lib.pow10Tab):
  Calls Tryz.prog 3 #[vJ k l w t nv, .int .i64 m] W (Ret W (.bool true)):=by
 obtain⟨a,q,c,rfl,hlen,hc,hx⟩:=id hn
 obtain⟨V,HV⟩:∃V,Hid (W.alloc (.cells #[.int .i64 k, .int .i64 l, .int .i64 w, .int .i64 t, .slice a q c] 25)=V):=⟨_,Lib.hid rfl⟩
 have hV:Below W.heap.size W V:=by rw[←HV.out];exact bel
 have hA:=Lib.hid (uw V (kl htab hV))
 have hF:=fun W'=>Lib.hid (xA k l w t a q c W')
 have v0:V.cell? ⟨W.heap.size,0,none⟩=some (.int .i64 k):=by rw[←HV.out];exact(aq rfl 0).trans rfl
 have v1:V.cell? ⟨W.heap.size,1,none⟩=some (.int .i64 l):=by rw[←HV.out];exact(aq rfl 1).trans rfl
 have v2:V.cell? ⟨W.heap.size,2,none⟩=some (.int .i64 w):=by rw[←HV.out];exact(aq rfl 2).trans rfl
 have v3:V.cell? ⟨W.heap.size,3,none⟩=some (.int .i64 t):=by rw[←HV.out];exact(aq rfl 3).trans rfl
 have v4:V.cell? ⟨W.heap.size,4,none⟩=some (.slice a q c):=by rw[←HV.out];exact(aq rfl 4).trans rfl
 have zV:=World.block_lt_of_cell? V _ v0
 simp only at zV
 clear htab hx
 by_cases h30:q≤30
 ·rw[show decide (q≤30)=true from decide_eq_true h30]at hF
  have HC:=fun W' h=>Lib.hid (rB k l w t _ n W' (hn.below (w':=W') h) (by omega))
  have HK:=fun W' h=>Lib.hid (rg k l w t _ n W' (hn.below (w':=W') h) hnil (by omega))
  have HM:=fun W'=>Lib.hid (oo k W')
  have hmb:=oG k
  have hlb:=kE k n
  have HB:=fun W'=>Lib.hid (de m 0 (cD k+aV k n-1) W')
  by_cases h0:ky k l w t n=0
  ·have g:=lJ h0
   have HL:=fun W' h=>Lib.hid (mD k l w t _ n W' (hn.below (w':=W') h) (by omega) g.h8)
   by_cases hme:mI 0 k m n=0
   ·have hmr:0≤m∧m≤cD k+aV k n-1:=by
     unfold mI at hme
     rw[if_neg (by simp)]at hme
     by_cases h:m<0∨cD k+aV k n≤m
     ·rw[if_pos h]at hme;simp at hme
     ·omega
    obtain⟨css,hc1,hc2,hG1,hG2⟩:=rV k l w t n m.toNat h0 (by rw[show(m.toNat:Int)=m by omega];exact hme)
    rw[show(m.toNat:Int)=m by omega]at hG1 hG2
    have HG1:=fun r W' (h:Ints W' r n)=>Lib.hid (hG1 r W' h)
    have HG2:=fun W' h=>Lib.hid (hG2 _ W' (hn.below (w':=W') h))
    have HSS:=fun v v2 W' (h:SolV W' v css) (h2:SolV W' v2 css)=>Lib.hid (mJ v v2 css W' h h2 hc1 hc2)
    rw[h0]at HC
    rw[decide_eq_true hmr]at HB
    generalize cD k=mb at*
    generalize aV k n=ln at*
    clear hn hnil h0 g hme hG1 hG2 hc1 hc2
    unfold vJ at*
    go_enter Tryz.func3,Tryz.ntmps3
    go_wp2_with fail
    rw[HV.out]
    refine(hA.out).mono ?_
    rintro e w1 ⟨rfl,hb1⟩
    have d0:=ab hb1 v0
    have d1:=ab hb1 v1
    have d2:=ab hb1 v2
    have d3:=ab hb1 v3
    have d4:=ab hb1 v4
    have zd:=Nat.lt_of_lt_of_le zV (hb1).size
    go_wp2_with fail
    refine((hF _).out).mono ?_
    rintro e w2 ⟨rfl,hb2⟩
    have hb12:=ae hb1 hb2
    clear d0 d1 d2 d3 d4 zd
    have d0:=ab hb12 v0
    have d1:=ab hb12 v1
    have d2:=ab hb12 v2
    have d3:=ab hb12 v3
    have d4:=ab hb12 v4
    have zd:=Nat.lt_of_lt_of_le zV (hb12).size
    go_wp2_with fail
    refine((HK _ (ae hV hb12)).out).mono ?_
    rintro e w3 ⟨r,rfl,hb3,ho⟩
    have hI:=jy ho
    have hb13:=ae hb12 hb3
    clear d0 d1 d2 d3 d4 zd ho
    go_wp2_with fail
    refine((HG1 _ _ hI).out).mono ?_
    rintro e w4 ⟨s,rfl,hb4,hs⟩
    have HSs:=Lib.hid hs
    obtain⟨sa,sn,sc,rfl,_⟩:=hs
    have hb14:=ae hb13 hb4
    obtain⟨X,HX⟩:∃X,Hid (w4.alloc (.cells #[.slice sa sn sc] 30)=X):=⟨_,Lib.hid rfl⟩
    have hbX:Below w4.heap.size w4 X:=by rw[←HX.out];exact bel
    have HXb:Hid (X.heap[w4.heap.size]? =some (.cells #[.slice sa sn sc] 30 (0,0))):=Lib.hid (by rw[←HX.out];exact ai rfl)
    have hb1X:=ae hb14 hbX
    have d0:=ab hb14 v0
    have d1:=ab hb14 v1
    have d2:=ab hb14 v2
    have d3:=ab hb14 v3
    have d4:=ab hb14 v4
    have zd:=Nat.lt_of_lt_of_le zV (hb14).size
    go_wp2_with fail
    rw[HX.out]
    refine((HC X (ae hV hb1X)).out).mono ?_
    rintro e w5 ⟨rfl,hb5⟩
    have hb15:=ae hb1X hb5
    have HX5:=Lib.hid ((hb5.block _ (ah HXb.out)).trans HXb.out)
    clear d0 d1 d2 d3 d4 zd HX HC hI HXb
    have d0:=ab hb15 v0
    have d1:=ab hb15 v1
    have d2:=ab hb15 v2
    have d3:=ab hb15 v3
    have d4:=ab hb15 v4
    have zd:=Nat.lt_of_lt_of_le zV (hb15).size
    have hw15:=ae hV hb15
    have HS5:=Lib.hid (HSs.out.below (ae hbX hb5))
    clear HSs HG1
    go_wp2
    refine wqb ?_
    repeat(first|go_big_quiet_step ((first|(go_at_call 12;refine((HM _).out).mono ?_;rintro e w9 ⟨rfl,rfl⟩;exact⟨rfl,_,rfl⟩)|(go_at_call 13;exact aE ((HL _ (ae hw15 (Ext.below _))).out))|(go_at_call 11;refine((HB _).out).mono ?_;rintro e w9 ⟨rfl,rfl⟩;exact⟨rfl,_,rfl⟩)))|quiet_step ((first|(go_at_call 12;refine((HM _).out).mono ?_;rintro e w9 ⟨rfl,rfl⟩;exact⟨rfl,_,rfl⟩)|(go_at_call 13;exact aE ((HL _ (ae hw15 (Ext.below _))).out))|(go_at_call 11;refine((HB _).out).mono ?_;rintro e w9 ⟨rfl,rfl⟩;exact⟨rfl,_,rfl⟩))))
    refine wqn fun u=> ?_
    have hb16:Below V.heap.size V u.val:=ae hb15 u.below
    have hw16:=ae hV hb16
    have HSu:=Lib.hid (HS5.out.below u.below)
    have HXu:=Lib.hid ((u.below.block _ (ah HX5.out)).trans HX5.out)
    clear hw15 hb15 d0 d1 d2 d3 d4 zd HB HL HM HS5 HX5
    generalize u.val=w6 at*
    clear u
    have d0:=ab hb16 v0
    have d1:=ab hb16 v1
    have d2:=ab hb16 v2
    have d3:=ab hb16 v3
    have d4:=ab hb16 v4
    have zd:=Nat.lt_of_lt_of_le zV (hb16).size
    have x0:w6.cell? ⟨w4.heap.size,0,none⟩=some (.slice sa sn sc):=(ag HXu.out 0).trans rfl
    have zx:=ah HXu.out
    go_wp2
    apply aj [] [0,1,2,3,4,5,6,7,8] 9 [] [sv _,sv _,sv _,sv _,sv _,sv _,⟨wQ css,by exact wR _⟩,sv _,sv _] (by kernel_rfl) (by kernel_rfl)
    iterate 3 ((try go_frame);refine wkQ ?_)
    iterate 3 ((try go_frame);refine Ae rfl rfl (by simp) (by simp[Region.wanted,yielded]) ?_;apply ex3;(focus(intro u K hK;go_simp;exact hK _ brf));rfl)
    try go_frame
    refine Af rfl rfl (by simp) (by simp[Region.wanted,yielded]) (fun u hR K hK=> ?_) (fun o6=> ?_)
    ·clear hR
     go_simp
     refine((HG2 _ (ae hw16 u.below)).out).mono ?_
     rintro e w9 ⟨s9,rfl,hb9,hs9⟩
     exact hK _ _ hb9 ⟨_,rfl,hs9⟩
    try go_frame
    refine wkR ?_
    apply ex3
    ·intro u hR K hK
     have h6:wQ css o6 u.val:=hr hR 6
     clear hR
     obtain⟨s9,rfl,hs9⟩:=h6
     go_simp
     refine((HSS _ _ _ (HSu.out.below u.below) hs9).out).mono ?_
     rintro e w9 ⟨rfl,hb9⟩
     exact hK _ hb9
    rfl
    ((try go_frame);refine wkQ ?_)
    try go_frame
    refine aI (fun u hR=> ?_)
    clear hR
    have hbu:=ae hw16 u.below
    simp only[oas]
    go_wp2
    refine NoPanic.normal ?_
    go_wp2
    go_ret
    exact⟨ay (by simp),hbu⟩
   ·have hmr:¬(0≤m∧m≤cD k+aV k n-1)∧mI 0 k m n=6:=by
     unfold mI at hme ⊢
     rw[if_neg (by simp)]at hme ⊢
     by_cases h:m<0∨cD k+aV k n≤m
     ·rw[if_pos h];exact⟨by omega,rfl⟩
     ·rw[if_neg h]at hme;simp at hme
    have HG1:=fun r W' (h:Ints W' r n)=>Lib.hid (nK k l w t m 6 r n W' h (by omega) (by rw[h0];exact hmr.2) (by simp))
    rw[h0]at HC
    rw[decide_eq_false hmr.1]at HB
    generalize cD k=mb at*
    generalize aV k n=ln at*
    clear hn hnil h0 g hme hmr
    unfold vJ at*
    go_enter Tryz.func3,Tryz.ntmps3
    go_wp2_with fail
    rw[HV.out]
    refine(hA.out).mono ?_
    rintro e w1 ⟨rfl,hb1⟩
    have d0:=ab hb1 v0
    have d1:=ab hb1 v1
    have d2:=ab hb1 v2
    have d3:=ab hb1 v3
    have d4:=ab hb1 v4
    have zd:=Nat.lt_of_lt_of_le zV (hb1).size
    go_wp2_with fail
    refine((hF _).out).mono ?_
    rintro e w2 ⟨rfl,hb2⟩
    have hb12:=ae hb1 hb2
    clear d0 d1 d2 d3 d4 zd
    have d0:=ab hb12 v0
    have d1:=ab hb12 v1
    have d2:=ab hb12 v2
    have d3:=ab hb12 v3
    have d4:=ab hb12 v4
    have zd:=Nat.lt_of_lt_of_le zV (hb12).size
    go_wp2_with fail
    refine((HK _ (ae hV hb12)).out).mono ?_
    rintro e w3 ⟨r,rfl,hb3,ho⟩
    have hI:=jy ho
    have hb13:=ae hb12 hb3
    clear d0 d1 d2 d3 d4 zd ho
    go_wp2_with fail
    refine((HG1 _ _ hI).out).mono ?_
    rintro e w4 ⟨rfl,hb4⟩
    have hb14:=ae hb13 hb4
    obtain⟨X,HX⟩:∃X,Hid (w4.alloc (.cells #[.slice none 0 0] 30)=X):=⟨_,Lib.hid rfl⟩
    have hbX:Below w4.heap.size w4 X:=by rw[←HX.out];exact bel
    have HXb:Hid (X.heap[w4.heap.size]? =some (.cells #[.slice none 0 0] 30 (0,0))):=Lib.hid (by rw[←HX.out];exact ai rfl)
    have hb1X:=ae hb14 hbX
    have d0:=ab hb14 v0
    have d1:=ab hb14 v1
    have d2:=ab hb14 v2
    have d3:=ab hb14 v3
    have d4:=ab hb14 v4
    have zd:=Nat.lt_of_lt_of_le zV (hb14).size
    go_wp2_with fail
    rw[HX.out]
    refine((HC X (ae hV hb1X)).out).mono ?_
    rintro e w5 ⟨rfl,hb5⟩
    have hb15:=ae hb1X hb5
    have HX5:=Lib.hid ((hb5.block _ (ah HXb.out)).trans HXb.out)
    clear d0 d1 d2 d3 d4 zd HX HC hI HXb
    have d0:=ab hb15 v0
    have d1:=ab hb15 v1
    have d2:=ab hb15 v2
    have d3:=ab hb15 v3
    have d4:=ab hb15 v4
    have zd:=Nat.lt_of_lt_of_le zV (hb15).size
    have hw15:=ae hV hb15
    go_wp2
    refine wqb ?_
    repeat(first|go_big_quiet_step ((first|(go_at_call 12;refine((HM _).out).mono ?_;rintro e w9 ⟨rfl,rfl⟩;exact⟨rfl,_,rfl⟩)|(go_at_call 13;exact aE ((HL _ (ae hw15 (Ext.below _))).out))|(go_at_call 11;refine((HB _).out).mono ?_;rintro e w9 ⟨rfl,rfl⟩;exact⟨rfl,_,rfl⟩)))|quiet_step ((first|(go_at_call 12;refine((HM _).out).mono ?_;rintro e w9 ⟨rfl,rfl⟩;exact⟨rfl,_,rfl⟩)|(go_at_call 13;exact aE ((HL _ (ae hw15 (Ext.below _))).out))|(go_at_call 11;refine((HB _).out).mono ?_;rintro e w9 ⟨rfl,rfl⟩;exact⟨rfl,_,rfl⟩))))
    refine wqn fun u=> ?_
    have x0:u.val.cell? ⟨w4.heap.size,0,none⟩=some (.slice none 0 0):=ab u.below ((ag HX5.out 0).trans rfl)
    have zx:=Nat.lt_of_lt_of_le (ah HX5.out) u.below.size
    go_wp2
    go_ret
    exact⟨ay (by simp),ae hw15 u.below⟩
  ·have HG1:=fun r W' (h:Ints W' r n)=>Lib.hid (nK k l w t m (ky k l w t n) r n W' h (by omega) (by unfold mI;rw[if_pos h0]) h0)
   generalize ky k l w t n=ce at*
   have hne:(ce !=0)=true:=by simpa using h0
   have hne0:(ce==0)=false:=by simpa using h0
   clear hn hnil HB HM hmb hlb
   unfold vJ at*
   go_enter Tryz.func3,Tryz.ntmps3
   go_wp2_with fail
   rw[HV.out]
   refine(hA.out).mono ?_
   rintro e w1 ⟨rfl,hb1⟩
   have d0:=ab hb1 v0
   have d1:=ab hb1 v1
   have d2:=ab hb1 v2
   have d3:=ab hb1 v3
   have d4:=ab hb1 v4
   have zd:=Nat.lt_of_lt_of_le zV (hb1).size
   go_wp2_with fail
   refine((hF _).out).mono ?_
   rintro e w2 ⟨rfl,hb2⟩
   have hb12:=ae hb1 hb2
   clear d0 d1 d2 d3 d4 zd
   have d0:=ab hb12 v0
   have d1:=ab hb12 v1
   have d2:=ab hb12 v2
   have d3:=ab hb12 v3
   have d4:=ab hb12 v4
   have zd:=Nat.lt_of_lt_of_le zV (hb12).size
   go_wp2_with fail
   refine((HK _ (ae hV hb12)).out).mono ?_
   rintro e w3 ⟨r,rfl,hb3,ho⟩
   have hI:=jy ho
   have hb13:=ae hb12 hb3
   clear d0 d1 d2 d3 d4 zd ho
   go_wp2_with fail
   refine((HG1 _ _ hI).out).mono ?_
   rintro e w4 ⟨rfl,hb4⟩
   have hb14:=ae hb13 hb4
   obtain⟨X,HX⟩:∃X,Hid (w4.alloc (.cells #[.slice none 0 0] 30)=X):=⟨_,Lib.hid rfl⟩
   have hbX:Below w4.heap.size w4 X:=by rw[←HX.out];exact bel
   have HXb:Hid (X.heap[w4.heap.size]? =some (.cells #[.slice none 0 0] 30 (0,0))):=Lib.hid (by rw[←HX.out];exact ai rfl)
   have hb1X:=ae hb14 hbX
   have d0:=ab hb14 v0
   have d1:=ab hb14 v1
   have d2:=ab hb14 v2
   have d3:=ab hb14 v3
   have d4:=ab hb14 v4
   have zd:=Nat.lt_of_lt_of_le zV (hb14).size
   go_wp2_with fail
   rw[HX.out]
   refine((HC X (ae hV hb1X)).out).mono ?_
   rintro e w5 ⟨rfl,hb5⟩
   have hb15:=ae hb1X hb5
   have HX5:=Lib.hid ((hb5.block _ (ah HXb.out)).trans HXb.out)
   clear d0 d1 d2 d3 d4 zd HX HC hI HXb
   have d0:=ab hb15 v0
   have d1:=ab hb15 v1
   have d2:=ab hb15 v2
   have d3:=ab hb15 v3
   have d4:=ab hb15 v4
   have zd:=Nat.lt_of_lt_of_le zV (hb15).size
   have hw15:=ae hV hb15
   go_wp2
   refine wqf fun u=> ?_
   have x0:u.val.cell? ⟨w4.heap.size,0,none⟩=some (.slice none 0 0):=ab u.below ((ag HX5.out 0).trans rfl)
   have zx:=Nat.lt_of_lt_of_le (ah HX5.out) u.below.size
   go_wp2
   go_ret
   exact⟨ay (by simp),ae hw15 u.below⟩
 ·rw[show decide (q≤30)=false from decide_eq_false h30]at hF
  clear hn hnil
  unfold vJ at*
  go_enter Tryz.func3,Tryz.ntmps3
  go_wp2_with fail
  rw[HV.out]
  refine(hA.out).mono ?_
  rintro e w1 ⟨rfl,hb1⟩
  have d0:=ab hb1 v0
  have d1:=ab hb1 v1
  have d2:=ab hb1 v2
  have d3:=ab hb1 v3
  have d4:=ab hb1 v4
  have zd:=Nat.lt_of_lt_of_le zV (hb1).size
  go_wp2_with fail
  refine((hF _).out).mono ?_
  rintro e w2 ⟨rfl,hb2⟩
  go_wp2
  go_ret
  exact⟨rfl,ae hV (ae hb1 hb2)⟩
end
end Go.Proofs.YtokhkhnofkcalaaGreatDoor
