/- texts: MO BWB BWL O5 FO1 FO2. -/
import Derived.ArgAppend
import Derived.BigQuiet
import Derived.ChangeKeysEq
import Derived.Deep.AppendLies
import Derived.Deep.DeepAppendRoom
import Derived.Deep.DeepAppendWide
import Derived.Deep.DeepCutAuto
import Derived.Deep.QuietTactic
import Derived.Deep.RegionHeld
import Derived.Deep.RegionHeld3
import Derived.Deep.RegionHeldLaw
import Derived.DeepKeys4
import Derived.Laws.AppendOwnNone
import Derived.Laws.StructEq
import Derived.Lib.AppendIntMem
import Derived.Lib.AppendZerosOnto
import Derived.Lib.Hide
import Derived.Lib.ItoaLen
import Derived.Lib.SliceRun
import Derived.Lib.SlicesCompact
import Derived.LoopIn
import Derived.LoopNIn
import Derived.Maps.AppendAt
import Derived.Maps.OwnSet
import Derived.OwnWalkIn
import Derived.RangeFuncBound
import Derived.RangeFuncBox
import Derived.RangeFuncCalls
import Derived.RangeFuncFrom
import Derived.RangeFuncLeaves
import Derived.RangeFuncNested
import Derived.RangeFuncWrites
import Derived.Shelf.Abstract
import Derived.Shelf.Lays8
import Derived.Shelf.LaysM
import Derived.Shelf.RegionOpen
import Derived.Shelf.Small.Bits
import Derived.Shelf.Spec.TrailingZeros
import Derived.Shelf.Strconv.Itoa0
import Derived.Shelf.Strconv.Itoa1
import Derived.Shelf.Strconv.Itoa2
import Derived.Shelf.Strconv.Itoa3
import Derived.Shelf.Strings.Builder1
import Derived.Shelf.Strings.Builder2
import Derived.Shelf.Strings.Builder2Cap
import Derived.Shelf.Strings.BuilderCap
import Derived.Shelf.Strings.BuilderF
import Derived.Shelf.Strings.BuilderK
import Derived.Shelf.Strings.OnBuilder
import Derived.Sort.Grow
import Derived.StillTail
import Derived.TacticsInMore
import Derived.WalkKit
import Derived.WalkLawsBesides
import Derived.WalkSpells
import Derived.WideKeyEntry
import Derived.Test.YtoidbolmlckhnaaGreatDoorProg
import Derived.Test.YtoidbolmlckhnaaGreatDoorRows
import Derived.Test.YtoidbolmlckhnaaGreatDoorSort
import Derived.Test.YtoidbolmlckhnaaGreatDoorSES1
import Derived.Test.YtoidbolmlckhnaaGreatDoorSES2
import Derived.Test.YtoidbolmlckhnaaGreatDoorSES4
import Derived.Test.YtoidbolmlckhnaaGreatDoorSES5
import Derived.Test.YtoidbolmlckhnaaGreatDoorSES6
import Derived.Test.YtoidbolmlckhnaaGreatDoorSES7
import Derived.Test.YtoidbolmlckhnaaGreatDoorSES8
import Derived.Test.YtoidbolmlckhnaaGreatDoorSES9
import Derived.Test.YtoidbolmlckhnaaGreatDoorSES10
import Derived.Test.YtoidbolmlckhnaaGreatDoorSES11
import Derived.Test.YtoidbolmlckhnaaGreatDoorSES13
import Derived.Test.YtoidbolmlckhnaaGreatDoorSES15
import Derived.Test.YtoidbolmlckhnaaGreatDoorSES16
import Derived.Test.YtoidbolmlckhnaaGreatDoorSES17
import Derived.Test.YtoidbolmlckhnaaGreatDoorSES18
import Derived.Test.YtoidbolmlckhnaaGreatDoorSES19
import Derived.Test.YtoidbolmlckhnaaGreatDoorSES20
import Derived.Test.YtoidbolmlckhnaaGreatDoorSES21
import Derived.Test.YtoidbolmlckhnaaGreatDoorSES24
import Derived.Test.YtoidbolmlckhnaaGreatDoorSES25
import Derived.Test.YtoidbolmlckhnaaGreatDoorSES26
import Derived.Test.YtoidbolmlckhnaaGreatDoorSES29
import Derived.Test.YtoidbolmlckhnaaGreatDoorSES32
import Derived.Test.YtoidbolmlckhnaaGreatDoorSES33
import Derived.Test.YtoidbolmlckhnaaGreatDoorSES34
import Derived.Test.YtoidbolmlckhnaaGreatDoorSES35
import Derived.Test.YtoidbolmlckhnaaGreatDoorSES36
import Derived.Test.YtoidbolmlckhnaaGreatDoorSES37
import Derived.Test.YtoidbolmlckhnaaGreatDoorSES38
import Derived.Test.YtoidbolmlckhnaaGreatDoorSES39
import Derived.Test.YtoidbolmlckhnaaGreatDoorSES41
namespace Go.Proofs.YtoidbolmlckhnaaGreatDoor
set_option maxHeartbeats 8000000
set_option linter.unusedSimpArgs false
set_option linter.unusedVariables false
section
open Go.RowKit Go.Shelf Go.Lib
attribute [local go_sem] Ext.cell Ext.frozen
theorem rOpp4_any (x y z:Int) (W:World) (hx: -1≤x∧x≤1) (hy: -1≤y∧y≤1) (hz: -1≤z∧z≤1):Calls Tryz.prog 13 #[V3 x y z] W (Ret W (V3 (-x) (-y) (-z))):=by
 go_enter Tryz.func13,Tryz.ntmps13
 go_wp2
 refine bodyPost_ret (v:= .agg #[.int .i64 (-x), .int .i64 (-y), .int .i64 (-z)]) (by simp[results,Tryz.results13,go_sem]) rfl ⟨rfl, ?_⟩
 exact bel
end
section
open Go.RowKit Go.Shelf
attribute [local go_sem] Ext.cell Ext.frozen
def okWb (x y z:Int):Prop:=(-1≤x∧x≤1)∧(-1≤y∧y≤1)∧(-1≤z∧z≤1)
def slimC (c:List Q4):Prop:=bK c=0∧c.length≤8
theorem swin_len (ps:List Q4) (w:Q3) (x:Q4):(ps.flatMap (Rl w x)).length≤if 0<bj (nrm x) w then(bc ps w).length else 0:=by
 induction ps with
 |nil=>simp
 |cons y l ih=>
  rw[List.flatMap_cons,List.length_append]
  unfold bc at ih ⊢
  rw[List.filter_cons]
  unfold Rl at ih ⊢
  by_cases h1:0<bj (nrm x) w
  ·rw[if_pos h1]at ih ⊢
   by_cases h2:bj (nrm y) w<0
   ·rw[if_pos (decide_eq_true h2),List.length_cons]
    split
    ·simp only[List.length_singleton];omega
    ·simp only[List.length_nil];omega
   ·rw[if_neg (show ¬(decide (bj (nrm y) w<0)=true) by simpa using h2),if_neg (show ¬(0<bj (nrm x) w∧bj (nrm y) w<0∧nrm (kv x y w)≠(0,0,0))from fun h=>h2 h.2.1)]
    simp only[List.length_nil];omega
  ·rw[if_neg h1]at ih ⊢
   rw[if_neg (fun h=>h1 h.1)]
   simp only[List.length_nil];omega
theorem swRi_len (ps l:List Q4) (w:Q3):(l.flatMap fun x=>ps.flatMap (Rl w x)).length≤(cr l w).length*(bc ps w).length:=by
 induction l with
 |nil=>simp
 |cons x l ih=>
  rw[List.flatMap_cons,List.length_append]
  have h1:=swin_len ps w x
  unfold cr at ih ⊢
  rw[List.filter_cons]
  by_cases h:0<bj (nrm x) w
  ·rw[if_pos h]at h1
   rw[if_pos (decide_eq_true h),List.length_cons,Nat.add_mul,Nat.one_mul]
   omega
  ·rw[if_neg h]at h1
   rw[if_neg (by simpa using h)]
   omega
theorem fbR_len (ps:List Q4) (w:Q3):(cr ps w).length+(bc ps w).length≤ps.length:=by
 induction ps with
 |nil=>simp[cr,bc]
 |cons x l ih=>
  unfold cr bc at ih ⊢
  rw[List.filter_cons,List.filter_cons,List.length_cons]
  by_cases h:0<bj (nrm x) w
  ·rw[if_pos (decide_eq_true h),if_neg (by rw[decide_eq_true_eq];omega),List.length_cons];omega
  ·rw[if_neg (by simpa using h)]
   split
   ·rw[List.length_cons];omega
   ·omega
theorem sweptR_len (ps:List Q4) (w:Q3) (h:ps.length≤8):(TD ps w).length≤24:=by
 unfold TD TE
 rw[List.take_length,List.length_append]
 have h1:=swRi_len ps ps w
 have h2:=fbR_len ps w
 have h3:(IH ps w).length≤ps.length:=List.length_filter_le _ _
 generalize(cr ps w).length=f at*
 generalize(bc ps w).length=b at*
 have h4:f*b≤16:=by
  have hf:f≤8:=by omega
  have hb:b≤8-f:=by omega
  have:f*b≤f*(8-f):=Nat.mul_le_mul_left f hb
  have h5:∀f,f≤8→f*(8-f)≤16:=by decide
  have:=h5 f hf
  omega
 omega
theorem refN_okP {c:List Q4} (h:∀p∈c,cI p):(∀p∈ch c,bI p)∧(ch c).length≤c.length:=by
 refine⟨fun q hq=> ?_, ?_⟩
 ·obtain⟨p,hp,rfl⟩:=(SH c h q).1 hq
  exact xJ p (h p (List.mem_filter.1 hp).1).1
 ·rw[xF c h]
  unfold iS Sp
  have h1:=WW (iP (iZ (aS c) c))
  have h2:(iP (iZ (aS c) c)).length=(iZ (aS c) c).length:=by unfold iP;simp
  have h3:=sk (aS c) c c.length
  rw[List.take_length]at h3
  omega
theorem sweptR_okW {ps:List Q4} {x y z:Int} (h:∀p∈ps,bI p) (hw:okWb x y z):∀q∈TD ps (x,y,z),okW q:=by
 intro q hq
 unfold TD at hq
 rcases List.mem_append.1 hq with hq|hq
 ·exact DW (h q (List.mem_filter.1 hq).1)
 ·obtain⟨a,ha,b,hb, -, -, -,rfl⟩:=mem_swpRi.1 hq
  exact Je _ (Jf a b (x,y,z) (h a ha) (h b hb) hw)
theorem look_ok {c d:List Q4} {x y z:Int} (hc:slimC c) (hd:slimC d) (hw:okWb x y z):(∀p∈TD (ch c) (x,y,z)++ch d,okW p)∧(TD (ch c) (x,y,z)++ch d).length≤32:=by
 have oc:=refN_okP (qV hc.1)
 have od:=refN_okP (qV hd.1)
 refine⟨fun p hp=> ?_, ?_⟩
 ·rcases List.mem_append.1 hp with hp|hp
  ·exact sweptR_okW oc.1 hw p hp
  ·exact DW (od.1 p hp)
 ·have h1:=sweptR_len (ch c) (x,y,z) (Nat.le_trans oc.2 hc.2)
  have:=hd.2
  rw[List.length_append]
  omega
end
section
open Go.RowKit Go.Shelf
set_option maxRecDepth 100000
attribute [local go_sem] Ext.cell Ext.frozen
theorem rCheckTwo_any (p q:List (List Q4)) (sv tv:Value) (W:World) (hp:∀c∈p,c.length≤1000000) (hq:∀c∈q,c.length≤1000000) (h1:SolV W sv p) (h2:SolV W tv q):
  Calls Tryz.prog 10 #[.agg #[sv], .agg #[tv]] W (Ret W (.int .i64 (kw p q))):=by
 have H1:=fun W' (h:Below W.heap.size W W')=>YJ (PO p sv W' hp (SolV.below h1 h))
 have H2:=fun W' (h:Below W.heap.size W W')=>YJ (PO q tv W' hq (SolV.below h2 h))
 have He1:Hid (Tv p≠0→kw p q=Tv p):=YJ (fun h=>by unfold kw;rw[if_neg h])
 have He2:Hid (Tv p=0→kw p q=Tv q):=YJ (fun h=>by unfold kw;rw[if_pos h])
 obtain⟨sa,sn,sc,rfl, -⟩:=h1
 obtain⟨ta,tn,tc,rfl, -⟩:=h2
 clear hp hq
 generalize kw p q=ce at*
 generalize Tv p=e1 at*
 generalize Tv q=e2 at*
 obtain⟨V,HV⟩:∃V,Hid ((W.alloc (.cells #[.slice sa sn sc] 24)).alloc (.cells #[.slice ta tn tc] 24)=V):=⟨_,YJ rfl⟩
 have hV:Below W.heap.size W V:=by rw[←HV.out];exact bel
 have HB:Hid (V.heap[W.heap.size+1]? =some (.cells #[.slice ta tn tc] 24 (0,0))):=YJ (by rw[←HV.out];exact ai (by simp))
 go_enter Tryz.func10,Tryz.ntmps10
 go_wp2_with fail
 try rw[HV.out]
 refine((H1 _ hV).out).mono ?_
 rintro e w1 ⟨rfl,hb1⟩
 have hw1:=fB hV hb1
 have hB1:=(hb1.block _ (ah HB.out)).trans HB.out
 have b0:w1.cell? ⟨W.heap.size+1,0,none⟩=some (.slice ta tn tc):=(ag hB1 0).trans rfl
 have bz:=ah hB1
 clear H1 hB1
 by_cases h0:e1=0
 ·subst h0
  obtain rfl:=He2.out (by first|rfl|trivial)
  have H2':=YJ ((H2 w1 hw1).out)
  clear He1 He2 H2
  go_wp2_with fail
  refine(H2'.out).mono ?_
  rintro e w2 ⟨rfl,hb2⟩
  clear H2'
  go_wp2
  go_ret
  exact⟨by first|rfl|trivial,fB hw1 hb2⟩
 ·have h0':(e1 !=0)=true:=by simpa using h0
  obtain rfl:=He1.out h0
  clear He1 He2 H2
  go_wp2
  go_ret
  exact⟨by first|rfl|trivial,hw1⟩
end
section
open Go.RowKit
def movP (b:Q3) (p:Q4):Q4:=(p.1,p.2.1,p.2.2.1,p.2.2.2+bj (nrm p) b)
def mul3 (t:Int) (w:Q3):Q3:=(t*w.1,t*w.2.1,t*w.2.2)
theorem slk_movP (p:Q4) (b x:Q3) (W:Int):slk (movP b p) x W=slk p (x.1-W*b.1,x.2.1-W*b.2.1,x.2.2-W*b.2.2) W:=by
 unfold slk movP bj nrm
 simp only
 grind
theorem hit_moved {c d:List Q4} {w:Q3} {t:Int} (ht:0≤t) (h:Ins (c.map (movP (mul3 t w))++d)):Hit c d w:=by
 obtain⟨o,W,hW,hs⟩:=h
 refine⟨(o.1-W*(t*w.1),o.2.1-W*(t*w.2.1),o.2.2-W*(t*w.2.2)),W,W*t,hW,Int.mul_nonneg (by omega) ht,fun p hp=> ?_, ?_⟩
 ·have:=hs (movP (mul3 t w) p) (List.mem_append_left _ (List.mem_map_of_mem hp))
  rw[slk_movP]at this
  exact this
 ·have e:go3 (o.1-W*(t*w.1),o.2.1-W*(t*w.2.1),o.2.2-W*(t*w.2.2)) w (W*t)=o:=by
   obtain⟨a,b,c⟩:=o
   unfold go3
   simp only[Prod.mk.injEq]
   refine⟨?_, ?_, ?_⟩<;>grind
  rw[e]
  exact fun p hp=>hs p (List.mem_append_right _ hp)
theorem clash_moved {p q:List (List Q4)} (hp:∀c∈p,bK c=0) (hq:∀c∈q,bK c=0) {w:Q3} (hw:w≠(0,0,0)) {t:Int} (ht:0≤t) (h:Oh (p.map (·.map (movP (mul3 t w)))) q=true):BT (p.map bp) (q.map bp) w=true:=by
 unfold Oh at h
 rw[List.any_eq_true]at h
 obtain⟨c',hc',h⟩:=h
 obtain⟨c,hc,rfl⟩:=List.mem_map.1 hc'
 rw[List.any_eq_true]at h
 obtain⟨d,hd,h⟩:=h
 unfold rcl at h
 rw[Ql ((FF (hq d hd)).1.mono (fun p hp=>List.mem_append_right _ hp))]at h
 unfold BT
 rw[List.any_map,List.any_eq_true]
 refine⟨c,hc, ?_⟩
 show((q.map bp).any fun b=>eS (bp c) b w)=true
 rw[List.any_map,List.any_eq_true]
 exact⟨d,hd,(DA (FG (hp c hc)) (FG (hq d hd)) hw).2 (hit_moved ht h)⟩
end
section
open Go.RowKit Go.Shelf Go.Lib
set_option maxRecDepth 100000
attribute [local go_sem] Ext.cell Ext.frozen
def okV (b:Q3):Prop:=(-6≤b.1∧b.1≤6)∧(-6≤b.2.1∧b.2.1≤6)∧(-6≤b.2.2∧b.2.2≤6)
theorem rFar_in (x y z:Int) (W:World) (h:okV (x,y,z)):Calls Tryz.prog 47 #[V3 x y z] W (Ret W (.bool false)):=by
 obtain⟨hx,hy,hz⟩:=h
 simp only at hx hy hz
 have HWi:=fun n (h:decide ((-600000:Int)≤n∧n≤600000)=true) W'=>YJ (ba h W')
 obtain⟨V,HV⟩:∃V,Hid (W.alloc (.cells #[.int .i64 x, .int .i64 y, .int .i64 z] 37)=V):=⟨_,YJ rfl⟩
 have hV:Below W.heap.size W V:=by rw[←HV.out];exact bel
 have HB:Hid (V.heap[W.heap.size]? =some (.cells #[.int .i64 x, .int .i64 y, .int .i64 z] 37 (0,0))):=YJ (by rw[←HV.out];exact ai rfl)
 go_enter Tryz.func47,Tryz.ntmps47
 go_wp2
 try rw[HV.out]
 go_loopw [3] (fun i wr=>∃k:Int,0≤k∧k≤3∧i= .int .i64 k∧wr=V) (fun i _=>3-(intOf i).toNat)
 case atStart=>exact⟨0,by omega,by omega,rfl,rfl⟩
 case round=>
  obtain⟨k,h0,h3,rfl,rfl⟩:=hrel
  obtain⟨x0,x1,x2,xf,xz⟩:=NO HB.out
  rcases(by omega:k=0∨k=1∨k=2∨k=3)with rfl|rfl|rfl|rfl
  ·have HC:=YJ (HWi x (by rw[decide_eq_true_eq];omega) wr).out
   go_wp2_with fail
   refine(HC.out).mono ?_
   rintro e w1 ⟨rfl,rfl⟩
   clear HC
   go_wp2
   go_roundw
   case rel=>exact⟨1,by omega,by omega,rfl,by first|rfl|trivial⟩
   case measure=>first|decide|(simp[intOf];done)
  ·have HC:=YJ (HWi y (by rw[decide_eq_true_eq];omega) wr).out
   go_wp2_with fail
   refine(HC.out).mono ?_
   rintro e w1 ⟨rfl,rfl⟩
   clear HC
   go_wp2
   go_roundw
   case rel=>exact⟨2,by omega,by omega,rfl,by first|rfl|trivial⟩
   case measure=>first|decide|(simp[intOf];done)
  ·have HC:=YJ (HWi z (by rw[decide_eq_true_eq];omega) wr).out
   go_wp2_with fail
   refine(HC.out).mono ?_
   rintro e w1 ⟨rfl,rfl⟩
   clear HC
   go_wp2
   go_roundw
   case rel=>exact⟨3,by omega,by omega,rfl,by first|rfl|trivial⟩
   case measure=>first|decide|(simp[intOf];done)
  ·go_wp2
   go_ret
   exact⟨by first|rfl|trivial,hV⟩
def MovP (css:List (List Q4)) (b:Q3) (W:World) (e:Ending) (w':World):Prop:=∃a n c d,e= .returned (.tuple #[.agg #[.slice a n c], .int .i64 d])∧Below W.heap.size W w'∧(d=0→SolV w' (.slice a n c) (css.map (·.map (movP b)))∧∀c∈css.map (·.map (movP b)),∀p∈c,bI p)
theorem mv_bd {p:Q4} {b:Q3} (hp:bI p) (hb:okV b): -144≤bj (nrm p) b∧bj (nrm p) b≤144:=by
 obtain⟨h1,h2,h3,h4⟩:=hp
 obtain⟨k1,k2,k3⟩:=hb
 unfold bj nrm
 simp only
 have e1:=aJ h1.1 h1.2 k1.1 k1.2
 have e2:=aJ h2.1 h2.2 k2.1 k2.2
 have e3:=aJ h3.1 h3.2 k3.1 k3.2
 omega
end
section
open Go.RowKit Go.Shelf Go.Lib
set_option maxRecDepth 100000
attribute [local go_sem] Ext.cell Ext.frozen
def movC (b:Q3) (c:List Q4):List Q4:=c.map (movP b)
theorem movC_len (b:Q3) (c:List Q4):(movC b c).length=c.length:=List.length_map _
theorem movC_succ {b:Q3} {c:List Q4} {j:Nat} (h:j<c.length):(movC b c).take (j+1)=(movC b c).take j++[movP b c[j]]:=by
 unfold movC
 rw[List.take_succ_eq_append_getElem (by rw[List.length_map];exact h),List.getElem_map]
theorem movS_succ {b:Q3} {css:List (List Q4)} {k:Nat} (h:k<css.length):(css.map (movC b)).take (k+1)=(css.map (movC b)).take k++[movC b css[k]]:=by
 rw[List.take_succ_eq_append_getElem (by rw[List.length_map];exact h),List.getElem_map]
theorem all_snoc {α:Type} {P:α→Prop} {l:List α} {x:α} (h:∀y∈l,P y) (hx:P x):∀y∈l++[x],P y:=fun y hy=>by
 rcases List.mem_append.1 hy with h1|h1
 ·exact h y h1
 ·rw[List.mem_singleton.1 h1];exact hx
theorem rMove_any (css:List (List Q4)) (sv:Value) (x y z:Int) (W:World) (hl:css.length≤1000) (hL:∀c∈css,DC c) (hv:okV (x,y,z)) (h:SolV W sv css):
  Calls Tryz.prog 14 #[.agg #[sv],V3 x y z] W (MovP css (x,y,z) W):=by
 obtain⟨i0,hi0,hz0,hz1,hz2⟩:=info_parts cY
 have Hi0:=YJ (And.intro hi0 (And.intro hz0 (And.intro hz1 hz2)))
 obtain⟨i1,hj0,hy0,hy1,hy2⟩:=info_parts nt
 have Hi1:=YJ (And.intro hj0 (And.intro hy0 (And.intro hy1 hy2)))
 clear hi0 hz0 hz1 hz2 hj0 hy0 hy1 hy2
 have HFar:=fun W'=>YJ (rFar_in x y z W' hv)
 have HBd:=fun p (h:bI p)=>YJ (mv_bd h hv)
 have HDt:=fun p W' (h:bI p)=>YJ (show Calls Tryz.prog 48 #[V3 p.1 p.2.1 p.2.2.1,V3 x y z] W' (Ret W' (.int .i64 (bj (nrm p) (x,y,z))))from pG p.1 p.2.1 p.2.2.1 x y z W' h.1 h.2.1 h.2.2.1 (by have:=hv.1;simp only at this;omega) (by have:=hv.2.1;simp only at this;omega) (by have:=hv.2.2;simp only at this;omega))
 have HNr:=fun a b c d W'=>YJ (NN a b c d W')
 have HWi:=fun n b (h:decide ((-10000000:Int)≤n∧n≤10000000)=b) W'=>YJ (ba h W')
 have HPt:=fun c v W' (h1:∀p∈c,bI p) (h2:c.length≤64) (h3:Q4s W' v c)=>YJ (WH c v W' h1 h2 h3)
 have HRm:=fun(q:Q4) W' (h:fD q)=>YJ (PN q.1 q.2.1 q.2.2.1 q.2.2.2 W' ⟨by have:=h.2.2.2;omega,by have:=h.2.2.2;omega⟩)
 have HCo:=fun c (h:∀p∈c,bI p)=>YJ (fun q (hq:q∈ct c)=>tE h q hq)
 have HRl:=fun c (h:c.length≤16)=>YJ (show(ct c).length≤1000000 from Nat.le_trans (Qc (Nat.le_trans h (by decide))) (by decide))
 have HS1:=fun k (h:k<css.length)=>YJ (@movS_succ (x,y,z) css k h)
 have HS2:=fun c j (h:j<c.length)=>YJ (@movC_succ (x,y,z) c j h)
 have HLk:=fun k (h:k<css.length)=>YJ (hL _ (List.getElem_mem h))
 have HMd:=fun p=>YJ (show movP (x,y,z) p=(p.1,p.2.1,p.2.2.1,p.2.2.2+bj (nrm p) (x,y,z))from rfl)
 have HMe:=YJ (show css.map (·.map (movP (x,y,z)))=css.map (movC (x,y,z))from rfl)
 obtain⟨sa,n,sc,rfl,hn, -,hx⟩:=h
 have HX:=YJ hx
 have HN:=YJ hn
 have hn1:n≤1000:=by omega
 have HTn:Hid ((css.map (movC (x,y,z))).take n=css.map (movC (x,y,z))):=YJ (by rw[←hn, ←List.length_map (f:=movC (x,y,z)),List.take_length])
 have HTl:Hid ((css.map (movC (x,y,z))).length=n):=YJ (by rw[List.length_map,hn])
 clear hx hn hl hL hv
 obtain⟨BV,HBV⟩:∃BV:Q3,Hid ((x,y,z)=BV):=⟨_,YJ rfl⟩
 rw[HBV.out]at HS1 HS2 HMd HMe HTn HTl HBd HDt ⊢
 obtain⟨V,HV⟩:∃V,Hid (((W.alloc (.cells #[.slice sa n sc] 24)).alloc (.cells #[.int .i64 x, .int .i64 y, .int .i64 z] 37)).alloc (.cells #[.slice none 0 0] 24)=V):=⟨_,YJ rfl⟩
 have hV:Below W.heap.size W V:=by rw[←HV.out];exact bel
 have zV:V.heap.size=W.heap.size+3:=by rw[←HV.out];simp
 have BA:Hid (V.heap[W.heap.size]? =some (.cells #[.slice sa n sc] 24 (0,0))):=YJ (by rw[←HV.out];exact(aB (by simp<;>omega)).trans ((aB (by simp)).trans (ai rfl)))
 have BY:Hid (V.heap[W.heap.size+1]? =some (.cells #[.int .i64 x, .int .i64 y, .int .i64 z] 37 (0,0))):=YJ (by rw[←HV.out];exact(aB (by simp)).trans (ai (by simp)))
 have BR:Hid (V.heap[W.heap.size+2]? =some (.cells #[.slice none 0 0] 24 (0,0))):=YJ (by rw[←HV.out];exact ai (by simp))
 obtain⟨y0,y1,y2,yf,yz⟩:=NO BY.out
 go_enter Tryz.func14,Tryz.ntmps14
 go_wp2_with fail
 try rw[HV.out]
 refine((HFar _).out).mono ?_
 rintro e w1 ⟨rfl,hb1⟩
 have hw1:=fB hV hb1
 have z1:W.heap.size+3≤w1.heap.size:=by have:=hb1.size;omega
 have HA1:=YJ ((hb1.block _ (ah BA.out)).trans BA.out)
 have HY1:=YJ ((hb1.block _ (ah BY.out)).trans BY.out)
 have HR1:=YJ ((hb1.block _ (ah BR.out)).trans BR.out)
 clear HFar BA BY BR y0 y1 y2 yf yz hb1 HV zV hV
 go_wp2
 go_loopw [7] (fun x wr=>∃k:Nat,k≤n∧x= .int .i64 k∧Below w1.heap.size w1 wr∧w1.heap.size+1≤wr.heap.size∧∃s vs,Hid (wr.heap[w1.heap.size]? =some (.cells #[s] 24 (0,0)))∧Hid (wr.ownsRow (w1.heap.size+1) 89 1 s k vs)∧Hid (RowsV wr (w1.heap.size+1) vs ((css.map (movC BV)).take k))∧Hid (∀c∈(css.map (movC BV)).take k,∀p∈c,bI p)) (fun x _=>n-(intOf x).toNat)
 case atStart=>exact⟨0,by omega,rfl,bel,by simp, .slice none 0 0,[],YJ (ai rfl),YJ (World.ownsRow_nil _ _ _ _),YJ (by rw[List.take_zero];exact RowsV.nil),YJ (by rw[List.take_zero];exact fun c hc=>by cases hc)⟩
 case round=>
  obtain⟨k,hk,rfl,hb,zr,s,vs,HG,HO,HRv,HOk⟩:=hrel
  have HAr:=YJ ((hb.block _ (ah HA1.out)).trans HA1.out)
  have HYr:=YJ ((hb.block _ (ah HY1.out)).trans HY1.out)
  have HRr:=YJ ((hb.block _ (ah HR1.out)).trans HR1.out)
  have hwr:=fB hw1 hb
  have a0:wr.cell? ⟨W.heap.size,0,none⟩=some (.slice sa n sc):=(ag HAr.out 0).trans rfl
  have az:=ah HAr.out
  by_cases hlt:k<n
  ·have g1:(k:Int)<(n:Int):=by omega
   have g2:(0:Int)≤(k:Int):=by omega
   have hil:k<css.length:=by have:=HN.out;omega
   obtain⟨b,off,rfl,hi4⟩:=HX.out (by omega)
   obtain⟨pv,e0,hs⟩:=hi4 k hil
   have e0:=ab hwr e0
   have ze:=World.block_lt_of_cell? wr _ e0
   simp only at ze
   obtain⟨pa,pn,pc,rfl,hpn, -,hpx⟩:=hs.below hwr
   have HLc:=YJ (HLk k hil).out
   have hpn16:pn≤16:=by have:=HLc.out.2.2;omega
   have HSk:=YJ (HS1 k hil).out
   have HPn:=YJ hpn
   have HPx:=YJ hpx
   clear hi4 hs HX HS1 HLk hpn hpx
   generalize css[k]=c at*
   have HS2c:=fun j (h:j<c.length)=>YJ (HS2 c j h).out
   have HTc:Hid ((movC BV c).take pn=movC BV c):=YJ (by rw[←HPn.out, ←movC_len BV c,List.take_length])
   have HMl:Hid ((movC BV c).length=pn):=YJ (by rw[movC_len,HPn.out])
   obtain⟨sad,scap,rfl⟩:=aT HO.out
   have HAq:=HAr
   have HYq:=HYr
   have HRq:=HRr
   obtain⟨wq,rfl⟩:∃wq:World,wq=wr:=⟨_,rfl⟩
   have zg:wq.heap.size<(wq.alloc (.cells #[.slice none 0 0] 89)).heap.size:=by simp
   go_wp2
   go_loopw [9] (fun i wr=>∃j:Nat,j≤pn∧i= .int .i64 j∧Below wq.heap.size wq wr∧wq.heap.size+1≤wr.heap.size∧∃s',Hid (wr.heap[wq.heap.size]? =some (.cells #[s'] 89 (0,0)))∧Hid (wr.ownsRow (wq.heap.size+1) 99 4 s' ((movC BV c).take j).length (((movC BV c).take j).flatMap aH))∧Hid (∀p∈(movC BV c).take j,bI p)) (fun i _=>pn-(intOf i).toNat)
   case atStart=>exact⟨0,by omega,rfl,bel,by simp, .slice none 0 0,YJ (ai rfl),YJ (by rw[List.take_zero];exact World.ownsRow_nil _ _ _ _),YJ (by rw[List.take_zero];exact fun c hc=>by cases hc)⟩
   case round=>
    obtain⟨j,hj,rfl,hbw,zw,s',HC,HP,HPk⟩:=hrel
    have HAw:=YJ ((hbw.block _ (ah HAq.out)).trans HAq.out)
    have HYw:=YJ ((hbw.block _ (ah HYq.out)).trans HYq.out)
    have HRw:=YJ ((hbw.block _ (ah HRq.out)).trans HRq.out)
    have a0:wr.cell? ⟨W.heap.size,0,none⟩=some (.slice (some ⟨b,off,none⟩) n sc):=(ag HAw.out 0).trans rfl
    have az:=ah HAw.out
    have e0:=ab hbw e0
    have ze:=World.block_lt_of_cell? wr _ e0
    simp only at ze
    have hww:=fB hwr hbw
    by_cases hjp:j<pn
    ·have g3:(j:Int)<(pn:Int):=by omega
     have g4:(0:Int)≤(j:Int):=by omega
     have hjl:j<c.length:=by have:=HPn.out;omega
     obtain⟨pb,poff,rfl,hpx⟩:=HPx.out (by omega)
     obtain⟨p0,p1,p2,p3⟩:=(hpx.below hbw) j hjl
     have zp:=World.block_lt_of_cell? wr _ p0
     simp only at zp
     have hok:=HLc.out.1 _ (List.getElem_mem hjl)
     have HBj:=(HBd c[j] hok).out
     have HDj:=fun W'=>YJ (HDt c[j] W' hok).out
     have HSj:=YJ (HS2c j hjl).out
     rw[(HMd c[j]).out]at HSj
     clear hpx HPx HS2c HBd HDt
     generalize c[j]=pp at*
     obtain⟨pp0,pp1,pp2,pp3⟩:=pp
     simp only at p0 p1 p2 p3 HDj HSj
     obtain⟨dd,Hdd⟩:∃dd,Hid (bj (nrm (pp0,pp1,pp2,pp3)) BV=dd):=⟨_,YJ rfl⟩
     rw[Hdd.out]at HBj HSj HDj
     have hp3:=hok.2.2.2
     simp only at hp3
     have q1:IntKind.i64.wrap (pp3+dd)=pp3+dd:=IntWalk.i64_in _ (by omega)
     obtain⟨X,HXx⟩:∃X,Hid (wr.alloc (.cells #[.int .i64 pp0, .int .i64 pp1, .int .i64 pp2, .int .i64 pp3] 99)=X):=⟨_,YJ rfl⟩
     have hbX:Below wr.heap.size wr X:=by rw[←HXx.out];exact bel
     have HPX:Hid (X.heap[wr.heap.size]? =some (.cells #[.int .i64 pp0, .int .i64 pp1, .int .i64 pp2, .int .i64 pp3] 99 (0,0))):=YJ (by rw[←HXx.out];exact ai rfl)
     have HYX:=YJ ((hbX.block _ (ah HYw.out)).trans HYw.out)
     go_wp2
     try rw[HXx.out]
     have x0:X.cell? ⟨wr.heap.size,0,none⟩=some (.int .i64 pp0):=(ag HPX.out 0).trans rfl
     have x1:X.cell? ⟨wr.heap.size,1,none⟩=some (.int .i64 pp1):=(ag HPX.out 1).trans rfl
     have x2:X.cell? ⟨wr.heap.size,2,none⟩=some (.int .i64 pp2):=(ag HPX.out 2).trans rfl
     have x3:X.cell? ⟨wr.heap.size,3,none⟩=some (.int .i64 pp3):=(ag HPX.out 3).trans rfl
     have xz:=ah HPX.out
     have xf:=aC HPX.out
     obtain⟨y0,y1,y2,yf,yz⟩:=NO HYX.out
     apply aj [] [0,1,2,3,4,5,6,7] 8 [] [sv _,sv _,sv _,sv _,sv _,sv _,sv _,sv _] (by kernel_rfl) (by kernel_rfl)
     iterate 3 ((try go_frame);refine wkQ ?_)
     try go_frame
     refine wkV ?_
     apply ex3
     ·intro u K hK
      go_simp
      refine((HNr _ _ _ _ _).out).mono ?_
      rintro e w9 ⟨rfl,hb9⟩
      exact hK _ hb9
     rfl
     ((try go_frame);refine wkQ ?_)
     try go_frame
     refine wkV ?_
     apply ex3
     ·intro u K hK
      go_simp
      refine((HDj _).out).mono ?_
      rintro e w9 ⟨rfl,hb9⟩
      exact hK _ hb9
     rfl
     iterate 2 ((try go_frame);refine wkQ ?_)
     try go_frame
     refine aI (fun u hR=> ?_)
     have hbu:=u.below
     have HP5:=(hbu.block _ (ah HPX.out)).trans HPX.out
     have hb5:Below wr.heap.size wr u.val:=hbX.trans (hbu.mono hbX.size)
     clear hR x0 x1 x2 x3 xz xf y0 y1 y2 yf yz HPX HYX hbX HXx HDj HNr hbu
     generalize u.val=w5 at*
     clear u
     obtain⟨Y,HY⟩:∃Y,Hid (w5.setCell ⟨wr.heap.size,3,none⟩ (.int .i64 (pp3+dd))=Y):=⟨_,YJ rfl⟩
     have HPY:Hid (Y.heap[wr.heap.size]? =some (.cells #[.int .i64 pp0, .int .i64 pp1, .int .i64 pp2, .int .i64 (pp3+dd)] 99 (0,0))):=YJ (by rw[←HY.out];exact Tu HP5 3 (.int .i64 (pp3+dd)))
     have hbY:Below wr.heap.size wr Y:=by rw[←HY.out];exact hb5.setCell (p:=⟨wr.heap.size,3,none⟩) (Nat.le_refl _) _
     have q0:w5.cell? ⟨wr.heap.size,3,none⟩=some (.int .i64 pp3):=(ag HP5 3).trans rfl
     have qz:=ah HP5
     have qf:=aC HP5
     simp only[oas]
     go_wp2
     refine NoPanic.normal ?_
     rw[HY.out]
     clear q0 qz qf HP5 HY hb5
     have x3:Y.cell? ⟨wr.heap.size,3,none⟩=some (.int .i64 (pp3+dd)):=(ag HPY.out 3).trans rfl
     have xz:=ah HPY.out
     by_cases hin: -10000000≤pp3+dd∧pp3+dd≤10000000
     ·have HW:=YJ (HWi (pp3+dd) true (by rw[decide_eq_true_eq];exact hin) Y).out
      have HCY:=YJ ((hbY.block _ (ah HC.out)).trans HC.out)
      have HOY:=YJ (au HP.out hbY)
      have hbqY:=hbw.trans (hbY.mono hbw.size)
      clear HWi HC HP
      go_wp2_with fail
      refine(HW.out).mono ?_
      rintro e Y ⟨rfl,rfl⟩
      clear HW
      obtain⟨sa',sc',rfl⟩:=aT HOY.out
      have hPl:((movC BV c).take j).length≤16:=by rw[List.length_take];omega
      have c0:Y.cell? ⟨wq.heap.size,0,none⟩=some (.slice sa' ((movC BV c).take j).length sc'):=(ag HCY.out 0).trans rfl
      have cz:=ah HCY.out
      have x0:Y.cell? ⟨wr.heap.size,0,none⟩=some (.int .i64 pp0):=(ag HPY.out 0).trans rfl
      have x1:Y.cell? ⟨wr.heap.size,1,none⟩=some (.int .i64 pp1):=(ag HPY.out 1).trans rfl
      have x2:Y.cell? ⟨wr.heap.size,2,none⟩=some (.int .i64 pp2):=(ag HPY.out 2).trans rfl
      have zY:=hbY.size
      have HPk2:Hid (∀p∈(movC BV c).take j++[(pp0,pp1,pp2,pp3+dd)],bI p):=YJ (all_snoc HPk.out ⟨hok.1,hok.2.1,hok.2.2.1,hin⟩)
      obtain⟨T2,HT2⟩:∃T2,Hid ((movC BV c).take (j+1)=T2):=⟨_,YJ rfl⟩
      rw[HT2.out]at HSj
      clear HPk
      generalize(movC BV c).take j=T1 at*
      obtain⟨Z,HZ⟩:∃Z,Hid (Y.alloc (.cells #[.int .i64 pp0, .int .i64 pp1, .int .i64 pp2, .int .i64 (pp3+dd)] 99)=Z):=⟨_,YJ rfl⟩
      have hbZ:Below Y.heap.size Y Z:=by rw[←HZ.out];exact bel
      have HOZ:=YJ (au HOY.out hbZ)
      have HNZ:Hid (Z.heap[Y.heap.size]? =some (.cells #[.int .i64 pp0, .int .i64 pp1, .int .i64 pp2, .int .i64 (pp3+dd)] 99 (0,0))):=YJ (by rw[←HZ.out];exact ai rfl)
      have HCZ:=YJ ((hbZ.block _ (ah HCY.out)).trans HCY.out)
      go_wp2_with (at_builtin;(try rw[HZ.out]);refine wpList_append_own _ rfl _ _ 87 rfl (wq.heap.size+1) 99 i0 (v4 (0,0,0,0)) 4 32 Oc Hi0.out.1 Hi0.out.2.1 Hi0.out.2.2.1 Hi0.out.2.2.2 rfl (by decide) _ _ _ rfl HOZ.out ⟨Y.heap.size,0,none⟩ 1 1 [.int .i64 pp0, .int .i64 pp1, .int .i64 pp2, .int .i64 (pp3+dd)] rfl rfl ?c1 ?c2 ?c3 ?c4 ?c5 ?_)
      case c1=>
       intro jj u hu
       rw[jY,ag HNZ.out]
       simpa using hu
      case c2=>
       intro u hu
       simp at hu
       rcases hu with rfl|rfl|rfl|rfl<;>rfl
      case c3=>unfold maxLen;omega
      case c4=>omega
      case c5=>have:=hbZ.size;omega
      intro v6 w6 hown6 hg6 _
      have hb6:Below wq.heap.size wq w6:=(hbqY.trans (hbZ.mono (Nat.le_trans hbw.size zY))).grown hg6 (by have:=hbZ.size;have:=hbw.size;omega) (fun z hz=>by have:=(HOZ.out.lt z hz).1;omega)
      have HC6:=(hg6.block _ (ah HCZ.out) (fun e=>aG HOZ.out HCZ.out (by decide) e.symm)).trans HCZ.out
      have HO6:=YJ hown6
      have z6:wq.heap.size+1≤w6.heap.size:=by have:=hg6.size;have:=hbZ.size;omega
      clear hown6 hg6 HOZ HNZ HCZ HZ x0 x1 x2 x3 xz c0 cz HCY HOY HPY
      have c0:w6.cell? ⟨wq.heap.size,0,none⟩=some (.slice sa' T1.length sc'):=(ag HC6 0).trans rfl
      have cz:=ah HC6
      have cf:=aC HC6
      obtain⟨va6,vc6,rfl⟩:=aT HO6.out
      go_wp2
      go_roundw
      case rel=>exact⟨j+1,by omega,by go_num,hb6.setCell (p:=⟨wq.heap.size,0,none⟩) (Nat.le_refl _) _,by simpa using z6,_,YJ (Tu HC6 0 _),YJ (by rw[HT2.out,HSj.out,List.length_append,List.flatMap_append];exact PR HO6.out HC6 (by decide)),YJ (by rw[HT2.out,HSj.out];exact HPk2.out)⟩
      case measure=>first|(simp[intOf];done)|(simp[intOf];omega)
     ·have HW:=YJ (HWi (pp3+dd) false (by rw[decide_eq_false_iff_not];exact hin) Y).out
      have HRY:=(hbY.block _ (ah HRw.out)).trans HRw.out
      have r0:Y.cell? ⟨W.heap.size+2,0,none⟩=some (.slice none 0 0):=(ag HRY 0).trans rfl
      have rz:=ah HRY
      have rf:=aC HRY
      have hwY:Below W.heap.size W Y:=hww.trans (hbY.mono hww.size)
      clear HWi HC HP
      go_wp2_with fail
      refine(HW.out).mono ?_
      rintro e Y ⟨rfl,rfl⟩
      clear HW
      go_wp2
      refine bodyPost_ret (v:= .tuple #[.agg #[.slice none 0 0], .int .i64 2]) (by simp[results,Tryz.results14,go_sem,r0,rz]) rfl ⟨none,0,0,2,rfl, ?_,fun h=>absurd h (by decide)⟩
      first|exact hwY|exact(hwY).setCell (by show _≤W.heap.size+2;omega) _
    ·obtain rfl:j=pn:=by omega
     rw[HTc.out]at HP HPk
     have Hlt:=YJ (fun z hz=>(HO.out.lt z hz).2)
     have HGw:=YJ ((hbw.block _ (ah HG.out)).trans HG.out)
     have HOw:=YJ (au HO.out hbw)
     have HVw:=YJ ((HRv.out.below hbw).snoc (AY HP.out (show w1.heap.size+1≤wq.heap.size+1 by omega)))
     rw[←HSk.out]at HVw
     have HOk2:Hid (∀c∈(css.map (movC BV)).take (k+1),∀p∈c,bI p):=YJ (by rw[HSk.out];exact all_snoc HOk.out HPk.out)
     have hmc:(movC BV c).length≤16:=by rw[HMl.out];omega
     obtain⟨wi,rfl⟩:∃wi:World,wi=wr:=⟨_,rfl⟩
     clear HTc HMl HLc HS2c HPx HBd HDt HNr HWi HSk HG HO HRv HOk HAq HYq HAr HYr HRr HPn
     generalize movC BV c=mc at*
     obtain⟨sa',sc',rfl⟩:=aT HP.out
     have g0:wi.cell? ⟨w1.heap.size,0,none⟩=some (.slice sad k scap):=(ag HGw.out 0).trans rfl
     have gz:=ah HGw.out
     have c0:wi.cell? ⟨wq.heap.size,0,none⟩=some (.slice sa' mc.length sc'):=(ag HC.out 0).trans rfl
     have cz:=ah HC.out
     obtain⟨Z,HZ⟩:∃Z,Hid (wi.alloc (.cells #[.slice sa' mc.length sc'] 89)=Z):=⟨_,YJ rfl⟩
     have hbZ:Below wi.heap.size wi Z:=by rw[←HZ.out];exact bel
     have HOZ:=YJ (au HOw.out hbZ)
     have HVZ:=YJ (HVw.out.below hbZ)
     have HPZ:=YJ (au HP.out hbZ)
     have HNZ:Hid (Z.heap[wi.heap.size]? =some (.cells #[.slice sa' mc.length sc'] 89 (0,0))):=YJ (by rw[←HZ.out];exact ai rfl)
     have HCZ:=YJ ((hbZ.block _ (ah HC.out)).trans HC.out)
     have HGZ:=YJ ((hbZ.block _ (ah HGw.out)).trans HGw.out)
     have hbqZ:Below w1.heap.size w1 Z:=fB hb (fB hbw hbZ)
     have zZ:=hbZ.size
     go_wp2_with (at_builtin;(try rw[HZ.out]);refine fq _ rfl _ _ 22 rfl (w1.heap.size+1) 89 i1 (.agg #[.slice none 0 0]) 1 24 nu Hi1.out.1 Hi1.out.2.1 Hi1.out.2.2.1 Hi1.out.2.2.2 rfl (by decide) _ k vs rfl HOZ.out ⟨wi.heap.size,0,none⟩ 1 1 [.slice sa' mc.length sc'] rfl rfl ?c1 ?c2 ?c3 ?c4 ?c5 ?_)
     case c1=>
      intro jj u hu
      rw[jY,ag HNZ.out]
      simpa using hu
     case c2=>
      intro u hu
      simp at hu
      subst hu
      rfl
     case c3=>unfold maxLen;omega
     case c4=>omega
     case c5=>omega
     intro v6 w6 hown6 hg6 _
     have hb6:Below w1.heap.size w1 w6:=hbqZ.grown hg6 (by omega) (fun z hz=>by have:=(HOZ.out.lt z hz).1;omega)
     have HG6:=YJ ((hg6.block _ (ah HGZ.out) (fun e=>aG HOZ.out HGZ.out (by decide) e.symm)).trans HGZ.out)
     have hty:∀T,89≠T→∀g cs,(Value.slice sad k scap).ownBlock=some g→Z.heap[g]? =some cs→∃c t,cs= .cells c t (0,0)∧t≠T:=fun T hT g cs h1 h2=>by obtain⟨c,t,h3,h4⟩:=jC HOZ.out g cs h1 h2;exact⟨c,t,h3,by rw[h4];exact hT⟩
     have HV6:=YJ (HVZ.out.kept hg6 (hty _ (by decide)))
     have HP6:=YJ (Qu HPZ.out hg6 (hty _ (by decide)))
     have z6:=hg6.size
     obtain⟨va6,vc6,rfl⟩:=aT hown6
     obtain⟨Y6,HY6⟩:∃Y6,Hid (w6.setCell ⟨w1.heap.size,0,none⟩ (.slice va6 (k+1) vc6)=Y6):=⟨_,YJ rfl⟩
     have HGY:=YJ (Tu HG6.out 0 (.slice va6 (k+1) vc6))
     have HOY:=YJ (PR (i:=0) (u:= .slice va6 (k+1) vc6) hown6 HG6.out (by decide))
     have HVY:=YJ (HV6.out.set (i:=0) (u:= .slice va6 (k+1) vc6) HG6.out (by decide))
     have HPY:=YJ (PR (i:=0) (u:= .slice va6 (k+1) vc6) HP6.out HG6.out (by decide))
     have hbY:Below w1.heap.size w1 (w6.setCell ⟨w1.heap.size,0,none⟩ (.slice va6 (k+1) vc6)):=hb6.setCell (p:=⟨w1.heap.size,0,none⟩) (Nat.le_refl _) _
     have zY:w1.heap.size+1≤(w6.setCell ⟨w1.heap.size,0,none⟩ (.slice va6 (k+1) vc6)).heap.size:=by simp;omega
     rw[HY6.out]at HGY HOY HVY HPY hbY zY
     have HC6:=YJ ((hg6.block _ (ah HCZ.out) (fun e=>by have:=Hlt.out _ e.symm;omega)).trans HCZ.out)
     have g0:w6.cell? ⟨w1.heap.size,0,none⟩=some (.slice sad k scap):=(ag HG6.out 0).trans rfl
     have gz:=ah HG6.out
     have gf:=aC HG6.out
     have c0:w6.cell? ⟨wq.heap.size,0,none⟩=some (.slice sa' mc.length sc'):=(ag HC6.out 0).trans rfl
     have cz:=ah HC6.out
     have hqw:w1.heap.size≠wq.heap.size:=by omega
     have HPn:=YJ (HPt mc _ Y6 HPk.out (by omega) (dV HPY.out)).out
     have HCn:=(HCo mc HPk.out)
     have hRl:=(HRl mc hmc).out
     clear hown6 hg6 hty HOZ HVZ HPZ HNZ HCZ HGZ HV6 HP6 HPt HZ HPY HC HP HPk HGw HOw HVw HCo HRl
     go_wp2_with fail
     rw[HY6.out]
     refine(HPn.out).mono ?_
     rintro e w7 ⟨r,rfl,hb7,ho7⟩
     have hq7:=dV ho7
     generalize ct mc=pts at*
     obtain⟨ra,rn,rc,rfl,hrn, -,hrx⟩:=hq7
     have HRx:=YJ hrx
     have HRn:=YJ hrn
     rw[hrn]at hRl
     have hb17:=hbY.trans (hb7.mono (by omega))
     have z7:=hb7.size
     have HG7:=YJ ((hb7.block _ (ah HGY.out)).trans HGY.out)
     have HO7:=YJ (au HOY.out hb7)
     have HV7:=YJ (HVY.out.below hb7)
     clear ho7 hrx hrn HPn g0 gz gf c0 cz hqw HG6 HC6 HGY HOY HVY HY6 hb7 hbY
     go_wp2
     go_loopw [12] (fun i wr=>∃q:Nat,q≤rn∧i= .int .i64 q∧Below w7.heap.size w7 wr) (fun i _=>rn-(intOf i).toNat)
     case atStart=>exact⟨0,by omega,rfl,Below.refl _ _⟩
     case round=>
      obtain⟨q,hq,rfl,hb7⟩:=hrel
      have hb1r:=hb17.trans (hb7.mono (by omega))
      by_cases hqr:q<rn
      ·have g3:(q:Int)<(rn:Int):=by omega
       have g4:(0:Int)≤(q:Int):=by omega
       have hql:q<pts.length:=by have:=HRn.out;omega
       obtain⟨rb,roff,rfl,hrx⟩:=HRx.out (by omega)
       obtain⟨r0,r1,r2,r3⟩:=(hrx.below hb7) q hql
       have zr0:=World.block_lt_of_cell? wr _ r0
       simp only at zr0
       have HIq:=YJ (HRm pts[q] wr (HCn.out _ (List.getElem_mem hql))).out
       clear hrx HRx HRm HCn
       generalize pts[q]=cq at*
       obtain⟨cq0,cq1,cq2,cq3⟩:=cq
       simp only at r0 r1 r2 r3 HIq
       generalize lw (cq0,cq1,cq2,cq3)=ib at*
       go_wp2_with fail
       refine(HIq.out).mono ?_
       rintro e w9 ⟨rfl,hb9⟩
       clear HIq r0 r1 r2 r3 zr0
       cases ib with
       |true=>
        go_wp2
        go_roundw
        case rel=>exact⟨q+1,by omega,by go_num,fB hb7 hb9⟩
        case measure=>first|(simp[intOf];done)|(simp[intOf];omega)
       |false=>
        have hb19:Below w1.heap.size w1 w9:=hb1r.trans (hb9.mono hb1r.size)
        have HR9:=(hb19.block _ (ah HR1.out)).trans HR1.out
        have r0:w9.cell? ⟨W.heap.size+2,0,none⟩=some (.slice none 0 0):=(ag HR9 0).trans rfl
        have rz:=ah HR9
        have rf:=aC HR9
        have hw9:=fB hw1 hb19
        go_wp2
        refine bodyPost_ret (v:= .tuple #[.agg #[.slice none 0 0], .int .i64 2]) (by simp[results,Tryz.results14,go_sem,r0,rz]) rfl ⟨none,0,0,2,rfl, ?_,fun h=>absurd h (by decide)⟩
        first|exact hw9|exact(hw9).setCell (by show _≤W.heap.size+2;omega) _
      ·obtain rfl:q=rn:=by omega
       have z9:=hb7.size
       have HGf:=YJ ((hb7.block _ (ah HG7.out)).trans HG7.out)
       have HOf:=YJ (au HO7.out hb7)
       have HVf:=YJ (HV7.out.below hb7)
       clear HRx HRm HCn HG7 HO7 HV7
       go_wp2
       go_roundw
       case rel=>exact⟨k+1,by omega,by go_num,hb1r,by omega,_,_,HGf,HOf,HVf,HOk2⟩
       case measure=>first|(simp[intOf];done)|(simp[intOf];omega)
  ·obtain rfl:k=n:=by omega
   rw[HTn.out]at HRv HOk
   obtain⟨sad,scap,rfl⟩:=aT HO.out
   have g0:wr.cell? ⟨w1.heap.size,0,none⟩=some (.slice sad k scap):=(ag HG.out 0).trans rfl
   have gz:=ah HG.out
   have r0:wr.cell? ⟨W.heap.size+2,0,none⟩=some (.slice none 0 0):=(ag HRr.out 0).trans rfl
   have rz:=ah HRr.out
   have rf:=aC HRr.out
   have hne:w1.heap.size≠W.heap.size+2:=by omega
   clear HX HS1 HS2 HLk HBd HDt HNr HWi HPt HRm HCo HRl
   go_wp2
   refine bodyPost_ret (v:= .tuple #[.agg #[.slice sad k scap], .int .i64 0]) (by simp[results,Tryz.results14,go_sem,r0,rz]) rfl ⟨sad,k,scap,0,rfl,hwr.setCell (p:=⟨W.heap.size+2,0,none⟩) (by show _≤W.heap.size+2;omega) _,fun _=> ?_⟩
   rw[HMe.out]
   refine⟨qp (B:=w1.heap.size+1) ?_ (HRv.out.set HRr.out (by decide)),HOk.out⟩
   rw[HTl.out]
   exact PR HO.out HRr.out (by decide)
end
end Go.Proofs.YtoidbolmlckhnaaGreatDoor
