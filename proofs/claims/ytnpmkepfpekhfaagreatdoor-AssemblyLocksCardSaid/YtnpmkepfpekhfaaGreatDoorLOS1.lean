/- texts: C2 O11 F6 MN BWB FG1 FG2 FG3 FG4 FG5 FG6 FG7 FGB O14 O16. -/
import Derived.ArgAppend
import Derived.BigQuiet
import Derived.ChangeKeysEq
import Derived.Deep.AppendLies
import Derived.Deep.DeepAppendRoom
import Derived.Deep.DeepAppendWide
import Derived.Deep.DeepCutAuto
import Derived.Deep.QuietTactic
import Derived.Deep.RegionHeld
import Derived.Deep.RegionHeld3
import Derived.Deep.RegionHeldLaw
import Derived.DeepKeys4
import Derived.Ground.Names2Prog
import Derived.Ground.SlgnProg
import Derived.Laws.AppendOwnNone
import Derived.Laws.StructEq
import Derived.Lib.AppendIntMem
import Derived.Lib.AppendZerosOnto
import Derived.Lib.Hide
import Derived.Lib.ItoaLen
import Derived.Lib.SliceRun
import Derived.Lib.SlicesCompact
import Derived.LoopIn
import Derived.LoopNIn
import Derived.Maps.AppendAt
import Derived.Maps.OwnSet
import Derived.OwnWalkIn
import Derived.RangeFuncBound
import Derived.RangeFuncBox
import Derived.RangeFuncCalls
import Derived.RangeFuncFrom
import Derived.RangeFuncLeaves
import Derived.RangeFuncNested
import Derived.RangeFuncWrites
import Derived.Shelf.Abstract
import Derived.Shelf.Lays8
import Derived.Shelf.LaysM
import Derived.Shelf.RegionOpen
import Derived.Shelf.Slices.Clone
import Derived.Shelf.SlicesE.Clone
import Derived.Shelf.Small.Bits
import Derived.Shelf.Spec.TrailingZeros
import Derived.Shelf.Strconv.Itoa0
import Derived.Shelf.Strconv.Itoa1
import Derived.Shelf.Strconv.Itoa2
import Derived.Shelf.Strconv.Itoa3
import Derived.Shelf.Strings.Builder1
import Derived.Shelf.Strings.Builder2
import Derived.Shelf.Strings.OnBuilder
import Derived.Sort.Grow
import Derived.StillTail
import Derived.TacticsInMore
import Derived.WalkKit
import Derived.WalkLawsBesides
import Derived.WalkSpells
import Derived.WideKeyEntry
import Derived.Test.YtnpmkepfpekhfaaGreatDoorProg
import Derived.Test.YtnpmkepfpekhfaaGreatDoorRows
import Derived.Test.YtnpmkepfpekhfaaGreatDoorSort
import Derived.Test.YtnpmkepfpekhfaaGreatDoorSIS1
import Derived.Test.YtnpmkepfpekhfaaGreatDoorSIS2
import Derived.Test.YtnpmkepfpekhfaaGreatDoorSIS4
import Derived.Test.YtnpmkepfpekhfaaGreatDoorSIS5
import Derived.Test.YtnpmkepfpekhfaaGreatDoorSIS7
import Derived.Test.YtnpmkepfpekhfaaGreatDoorSIS8
import Derived.Test.YtnpmkepfpekhfaaGreatDoorSIS9
import Derived.Test.YtnpmkepfpekhfaaGreatDoorSIS10
import Derived.Test.YtnpmkepfpekhfaaGreatDoorSIS13
import Derived.Test.YtnpmkepfpekhfaaGreatDoorSIS14
import Derived.Test.YtnpmkepfpekhfaaGreatDoorSIS15
import Derived.Test.YtnpmkepfpekhfaaGreatDoorSIS16
import Derived.Test.YtnpmkepfpekhfaaGreatDoorSIS18
import Derived.Test.YtnpmkepfpekhfaaGreatDoorSIS19
import Derived.Test.YtnpmkepfpekhfaaGreatDoorSIS20
import Derived.Test.YtnpmkepfpekhfaaGreatDoorSIS21
import Derived.Test.YtnpmkepfpekhfaaGreatDoorSIS22
import Derived.Test.YtnpmkepfpekhfaaGreatDoorSIS23
import Derived.Test.YtnpmkepfpekhfaaGreatDoorSIS24
import Derived.Test.YtnpmkepfpekhfaaGreatDoorSIS25
import Derived.Test.YtnpmkepfpekhfaaGreatDoorSIS26
import Derived.Test.YtnpmkepfpekhfaaGreatDoorSIS27
import Derived.Test.YtnpmkepfpekhfaaGreatDoorSIS28
import Derived.Test.YtnpmkepfpekhfaaGreatDoorSIS30
import Derived.Test.YtnpmkepfpekhfaaGreatDoorSIS31
import Derived.Test.YtnpmkepfpekhfaaGreatDoorSIS32
import Derived.Test.YtnpmkepfpekhfaaGreatDoorSIS33
import Derived.Test.YtnpmkepfpekhfaaGreatDoorSIS35
import Derived.Test.YtnpmkepfpekhfaaGreatDoorSIS37
import Derived.Test.YtnpmkepfpekhfaaGreatDoorSIS38
namespace Go.Proofs.YtnpmkepfpekhfaaGreatDoor
set_option maxHeartbeats 8000000
set_option linter.all false
section
open Go.RowKit Go.Shelf
attribute [local go_sem] Ext.cell Ext.frozen
set_option maxRecDepth 100000 in
theorem CopyInts_any (v:Value) (xs:List Int) (W:World) (hx:Ints W v xs) (hnil:MW v) (hm:xs.length*8≤140737488355328):
  Calls Tryz.prog 27 #[v] W fun e w'=>∃r,e= .returned r∧Below W.heap.size W w'∧w'.ownsRow W.heap.size 3 1 r xs.length (xs.map (Value.int .i64)):=by
 obtain⟨i0,hi0,hz0,hz1,hz2⟩:=info_parts iE
 have Hi0:=YJ (And.intro hi0 (And.intro hz0 (And.intro hz1 hz2)))
 clear hi0 hz0 hz1 hz2
 obtain⟨a,m,c,rfl,hl,hc,hx⟩:=hx
 have hmade:(W.alloc (.cells #[] 3)).ownsRow W.heap.size 3 1 (.slice (some ⟨W.heap.size,0,none⟩) 0 0) 0 []:=World.ownsRow_made W #[] 0 (qaA _) (Nat.zero_le _) rfl
 have Hm:=YJ hmade
 clear hmade
 cases a with
 |none=>
  obtain⟨rfl,rfl⟩:=hnil m c rfl
  obtain rfl:xs=[]:=alto.1 hl
  clear hx hnil hl
  go_enter Tryz.func27,Tryz.ntmps27
  go_wp2_with (at_builtin;refine wpList_append_own_none rfl _ _ 49 rfl W.heap.size 3 i0 1 Pw Hi0.out.1 _ 0 [] rfl Hm.out rfl ?_)
  go_ret
  exact⟨_,rfl,bel,Hm.out⟩
 |some ad=>
  have HN:Hid (∀j u,(xs.map (Value.int .i64))[j]? =some u→(W.alloc (.cells #[] 3)).cell? (ad.add j)=some u):=YJ (fun j u hu=>by
   have hj:j<xs.length:=by
    have:=(List.getElem?_eq_some_iff.1 hu).1
    simpa using this
   obtain⟨b,off,e,hi⟩:=hx (by omega)
   cases e
   rw[vp]
   refine ab (show Below W.heap.size W _ from bel) ?_
   rw[hi j hj]
   simpa [hj]using hu)
  clear hx hnil
  go_enter Tryz.func27,Tryz.ntmps27
  go_wp2_with (at_builtin;refine wpList_append_own _ rfl _ _ 49 rfl W.heap.size 3 i0 (.int .i64 0) 1 8 Pw Hi0.out.1 Hi0.out.2.1 Hi0.out.2.2.1 Hi0.out.2.2.2 rfl (by decide) _ 0 [] rfl Hm.out ad m c (xs.map (Value.int .i64)) rfl ?c0 HN.out ?c2 ?c3 ?c4 ?c5 ?_)
  case c0=>simp[hl]
  case c2=>intro u hu;simp at hu;obtain⟨_,_,rfl⟩:=hu;rfl
  case c3=>unfold maxLen;omega
  case c4=>omega
  case c5=>simp
  intro v' w2 hown2 hg2 _
  have hb2:Below W.heap.size W w2:=Below.grown (show Below W.heap.size W (W.alloc (.cells #[] 3))from bel) hg2 (by simp) (fun q hq=>(Hm.out.lt q hq).1)
  have HO:=YJ hown2
  clear hown2 hg2
  go_wp2
  go_ret
  exact⟨_,rfl,hb2,by have:=HO.out;simpa [hl]using this⟩
end
section
open Go.RowKit
theorem setF_bit (l:List Int) (k:Nat):(nr l).testBit k=true↔∃x∈l,x.toNat=k:=by
 unfold nr
 have key:∀(l:List Int) (s:Nat),(l.foldl (fun s n=>s |||2 ^ n.toNat) s).testBit k=true↔s.testBit k=true∨∃x∈l,x.toNat=k:=by
  intro l
  induction l with
  |nil=>intro s;simp
  |cons x l ih=>
   intro s
   rw[List.foldl_cons,ih,Nat.testBit_or,Nat.testBit_two_pow]
   simp only[Bool.or_eq_true,decide_eq_true_eq,alsk,exists_eq_or_imp,or_assoc]
 rw[key]
 simp
end
section
open Go.RowKit Go.Shelf
attribute [local go_sem] Oper.semAt_some
def filS (p:Q3→Bool) (pre:List On):List Q3:=(pre.map Subtype.val).filter p
theorem filS_hit (p:Q3→Bool) (pre:List On) {x:On} (h:p x.1=true):filS p (pre++[x])=filS p pre++[x.1]:=by simp[filS,h]
theorem filS_len (p:Q3→Bool) (pre:List On):(filS p pre).length≤pre.length:=by
 unfold filS
 exact qaD (qdz _ _) (by simp)
end
section
open Go.RowKit Go.Shelf Go.Lib
section
attribute [local go_sem] Oper.semAt_some
set_option maxRecDepth 100000 in
theorem appendSeq_any (W:World):
  Calls Tryz.prog 143 #[.slice none 0 0, .func (.func 95) #[] #[]] W (Lj W ways26):=by
 obtain⟨i0,hi0,hz0,hz1,hz2⟩:=info_parts Fh
 have Hi0:=YJ (And.intro hi0 (And.intro hz0 (And.intro hz1 hz2)))
 clear hi0 hz0 hz1 hz2
 have HR:Hid (∀xs:List On,xs.map Subtype.val=ways26→filS (fun _=>true) xs=ways26):=YJ (fun xs h=>by unfold filS;rw[h];rfl)
 have HT:=YJ (fun(pre:List On) (x:On)=>filS_hit (fun _=>true) pre (x:=x) rfl)
 have HLn:=fun pre=>YJ (filS_len (fun _=>true) pre)
 refine(callsIn_wide (n:=6)).1 ?_
 refine callsIn_of_wp_marks Tryz.func143 rfl trivial ?_ rfl
 simp only[Tryz.ntmps143,List.size_toArray,qdn,List.length_nil,Nat.reduceAdd,Nat.reduceSub,Array.replicate_succ,Array.replicate_zero,List.push_toArray,List.append_toArray,List.nil_append,List.cons_append]
 gi_wp2
 obtain⟨W0,HW0⟩:∃W0,Hid (W.alloc (.cells #[.slice none 0 0] 33)=W0):=⟨_,YJ rfl⟩
 have hB0:Below W.heap.size W W0:=by rw[←HW0.out];exact bel
 have HO0:Boxed W0 W.heap.size 33 (.slice none 0 0):=by rw[←HW0.out];exact ai rfl
 have hsz:W0.heap.size=W.heap.size+1:=by rw[←HW0.out];simp
 rw[HW0.out]
 clear HW0
 generalize(fun _:Q3=>true)=fBq at*
 refine wpIn_rangeFunc_ownH rfl (by omega) (gf:=95) (lb:=#[]) rfl trivial (enters_of Tryz.func95 (by kernel_rfl) rfl)
  (Dt (6-1) (by omega) W.heap.size W0) belowK_t (belowK_b (by omega)) (brf) (fun _=>rfl)
  (fun pre X=>(∃v,Boxed X W.heap.size 33 v∧X.ownsRow W.heap.size 36 3 v (filS fBq pre).length ((filS fBq pre).flatMap TZ)∧True)∧Below W.heap.size W X)
  (fun _ _ _=>False)
  (OwnFrom.and (Own.from (holdsRow_own W.heap.size W.heap.size 33 36 3 (fun pre=>(filS fBq pre).length) (fun pre=>(filS fBq pre).flatMap TZ) (fun _ _=>True)) _) (ownFrom_below (qaA _) (by omega)))
  (fun _ _ _ _ _ hs _ _=>hs)
  ⟨⟨_,HO0,qds _ _ _ _,trivial⟩,hB0⟩
  (fun x a' X=>∃Bx,W.heap.size<Bx∧X.heap[Bx]? =some (.cells #[.int .i64 x.1.1, .int .i64 x.1.2.1, .int .i64 x.1.2.2] 36 (0,0))∧a'={tmps:=#[.slice none 0 0, .func (.func 95) #[] #[], .pointer (some ⟨W.heap.size,0,none⟩),undef, .slice none 0 0, .pointer (some ⟨Bx,0,none⟩), .func (.func 95) #[] #[],vW x.1,undef,undef,undef,undef,undef],defers:=[]})
  (fun x a' _ X Y row hs hg hr=>by obtain⟨Bx,h1,h2,h3⟩:=hs;exact⟨Bx,h1,Ck Bx (fun(_:Unit)=>#[.int .i64 x.1.1, .int .i64 x.1.2.1, .int .i64 x.1.2.2]) 36 () X Y row h2 hg (fun r e=>(hr r e).2),h3⟩)
  ?assign ?body ?done ?stop
 case assign=>
  rintro L pre x X K ⟨⟨v,hv,hrow,_⟩,hB⟩ hK
  obtain⟨⟨x0,x1,x2⟩,hx⟩:=x
  have hlt:=hv.lt
  simp only[vW]
  gi_wp2
  exact hK _ _ ((KeepsOthers.alloc _ _).from _) ((Below.refl _ X).alloc hB.size _) ⟨⟨v,hv.alloc _,hrow.alloc _,trivial⟩,hB.alloc hB.size _⟩ ⟨X.heap.size,by omega,ai rfl,rfl⟩
 case body=>
  rintro L pre x a' X hl ⟨r,hr⟩ ⟨⟨v,hv,hrow,_⟩,hB⟩ ⟨Bx,hBx,hX,rfl⟩ hlt
  obtain⟨⟨x0,x1,x2⟩,hx⟩:=x
  simp only at hX
  obtain⟨xc0,xc1,xc2,xf,xz⟩:=NO hX
  have co:=hv.cell
  have hHT:=YJ (HT.out pre ⟨(x0,x1,x2),hx⟩)
  gi_wp2_with (gi_at_builtin;refine wpListIn_append_own _ rfl _ _ 33 rfl W.heap.size 36 i0 (vW (0,0,0)) 3 24 Cm Hi0.out.1 Hi0.out.2.1 Hi0.out.2.2.1 Hi0.out.2.2.2 rfl (by decide) _ _ _ rfl (hrow.alloc _) ⟨X.heap.size,0,none⟩ 1 1 (TZ (x0,x1,x2)) rfl rfl (fun jj uu hu=>by rw[jY,aq rfl jj];simpa [TZ]using hu) (fun u hu=>by simp[TZ]at hu;rcases hu with rfl|rfl|rfl<;>rfl) (by have:=(HLn pre).out;unfold maxLen;omega) (by have:=(HLn pre).out;omega) (by have:=hB.size;simp;omega) ?_;intro v' w3 hown' hgrow _;obtain⟨g',cap',rfl⟩:=ownsRow_succ hown';obtain⟨hv3,hv4,hr4,hk4,hb4⟩:=hv.appended (by decide) hrow hB.size (by omega) hown' hgrow;have co3:=hv3.cell;have cf3:=hv3.frozen;clear xc0 xc1 xc2 xf xz co)
  have hr5:=hr4
  have hfin:(w3.setCell ⟨W.heap.size,0,none⟩ (.slice (some ⟨g',0,none⟩) ((filS fBq pre).length+1) cap')).ownsRow W.heap.size 36 3 (.slice (some ⟨g',0,none⟩) ((filS fBq pre).length+1) cap') (filS fBq (pre++[⟨(x0,x1,x2),hx⟩])).length ((filS fBq (pre++[⟨(x0,x1,x2),hx⟩])).flatMap TZ):=by rw[hHT.out];simpa using hr4
  first|exact⟨hk4.from _,hb4,⟨_,hv4,hfin,trivial⟩,hB.trans hb4⟩|exact⟨hk4.from _,hb4,⟨_,hv4,hfin⟩,hB.trans hb4⟩
 case done=>
  rintro D ys X hD hys ⟨⟨v,hv,hrow,_⟩,hB⟩ hK
  have co:=hv.cell
  gi_wp2
  refine⟨by simp, .inl ⟨_,_,rfl,run_takeDeferred hK, ?_⟩⟩
  refine⟨_,results_tmp rfl _ _ _,v,rfl,hB.trans (belowK_b (w:=W) (qaA _) X D _ _ (by omega) hK rfl rfl), ?_⟩
  rw[←HR.out ys hys]
  exact ownsRow_putObj hrow _ hK rfl
 case stop=>
  rintro D c' pre X _ _ h _
  exact h.elim
end
section
attribute [local go_sem] Ext.cell Ext.frozen
theorem collect_any (W:World):Calls Tryz.prog 106 #[.func (.func 95) #[] #[]] W (Lj W ways26):=by
 have HA:=fun W'=>YJ (appendSeq_any W')
 go_enter Tryz.func106,Tryz.ntmps106
 go_wp2_with fail
 refine((HA _).out).mono ?_
 rintro e w1 ⟨v,rfl,hb,ho⟩
 go_wp2
 go_ret
 exact⟨v,rfl,hb,ho⟩
theorem aWays_any (W:World):Calls Tryz.prog 71 #[] W (Lj W ways26):=by
 have HE:=fun W'=>YJ (GM W')
 have HA:=fun W'=>YJ (collect_any W')
 go_enter Tryz.func71,Tryz.ntmps71
 go_wp2_with fail
 refine((HE _).out).mono ?_
 rintro e w1 ⟨rfl,rfl⟩
 go_wp2_with fail
 refine((HA _).out).mono ?_
 rintro e w1 ⟨v,rfl,hb,ho⟩
 go_wp2
 go_ret
 exact⟨v,rfl,hb,ho⟩
end
end
section
open Go.RowKit Go.Shelf
set_option maxRecDepth 100000
attribute [local go_sem] Ext.cell Ext.frozen
def SwQ (L:List Q4) (W:World) (e:Ending) (w':World):Prop:=∃v,e= .returned v∧Below W.heap.size W w'∧w'.ownsRow W.heap.size 196 4 v L.length (L.flatMap aH)
def okWb (x y z:Int):Prop:=(-1≤x∧x≤1)∧(-1≤y∧y≤1)∧(-1≤z∧z≤1)
def slimC (c:List Q4):Prop:=bK c=0∧c.length≤8
theorem swin_len (ps:List Q4) (w:Q3) (x:Q4):(ps.flatMap (Rl w x)).length≤if 0<bj (nrm x) w then(bc ps w).length else 0:=by
 induction ps with
 |nil=>simp
 |cons y l ih=>
  rw[List.flatMap_cons,qaE]
  unfold bc at ih ⊢
  rw[List.filter_cons]
  unfold Rl at ih ⊢
  by_cases h1:0<bj (nrm x) w
  ·rw[if_pos h1]at ih ⊢
   by_cases h2:bj (nrm y) w<0
   ·rw[if_pos (decide_eq_true h2),qdn]
    split
    ·simp only[List.length_singleton];omega
    ·simp only[List.length_nil];omega
   ·rw[if_neg (show ¬(decide (bj (nrm y) w<0)=true) by simpa using h2),if_neg (show ¬(0<bj (nrm x) w∧bj (nrm y) w<0∧nrm (kv x y w)≠(0,0,0))from fun h=>h2 h.2.1)]
    simp only[List.length_nil];omega
  ·rw[if_neg h1]at ih ⊢
   rw[if_neg (fun h=>h1 h.1)]
   simp only[List.length_nil];omega
theorem swRi_len (ps l:List Q4) (w:Q3):(l.flatMap fun x=>ps.flatMap (Rl w x)).length≤(cr l w).length*(bc ps w).length:=by
 induction l with
 |nil=>simp
 |cons x l ih=>
  rw[List.flatMap_cons,qaE]
  have h1:=swin_len ps w x
  unfold cr at ih ⊢
  rw[List.filter_cons]
  by_cases h:0<bj (nrm x) w
  ·rw[if_pos h]at h1
   rw[if_pos (decide_eq_true h),qdn,Nat.add_mul,Nat.one_mul]
   omega
  ·rw[if_neg h]at h1
   rw[if_neg (by simpa using h)]
   omega
theorem fbR_len (ps:List Q4) (w:Q3):(cr ps w).length+(bc ps w).length≤ps.length:=by
 induction ps with
 |nil=>simp[cr,bc]
 |cons x l ih=>
  unfold cr bc at ih ⊢
  rw[List.filter_cons,List.filter_cons,qdn]
  by_cases h:0<bj (nrm x) w
  ·rw[if_pos (decide_eq_true h),if_neg (by rw[decide_eq_true_eq];omega),qdn];omega
  ·rw[if_neg (by simpa using h)]
   split
   ·rw[qdn];omega
   ·omega
theorem sweptR_len (ps:List Q4) (w:Q3) (h:ps.length≤8):(TD ps w).length≤24:=by
 unfold TD TE
 rw[List.take_length,qaE]
 have h1:=swRi_len ps ps w
 have h2:=fbR_len ps w
 have h3:(IH ps w).length≤ps.length:=qdz _ _
 generalize(cr ps w).length=f at*
 generalize(bc ps w).length=b at*
 have h4:f*b≤16:=by
  have hf:f≤8:=by omega
  have hb:b≤8-f:=by omega
  have:f*b≤f*(8-f):=Nat.mul_le_mul_left f hb
  have h5:∀f,f≤8→f*(8-f)≤16:=by decide
  have:=h5 f hf
  omega
 omega
theorem refN_okP {c:List Q4} (h:∀p∈c,cI p):(∀p∈ch c,bI p)∧(ch c).length≤c.length:=by
 refine⟨fun q hq=> ?_, ?_⟩
 ·obtain⟨p,hp,rfl⟩:=(SH c h q).1 hq
  exact xJ p (h p (alsm.1 hp).1).1
 ·rw[xF c h]
  unfold iS Sp
  have h1:=WW (iP (iZ (aS c) c))
  have h2:(iP (iZ (aS c) c)).length=(iZ (aS c) c).length:=by unfold iP;simp
  have h3:=sk (aS c) c c.length
  rw[List.take_length]at h3
  omega
theorem sweptR_okW {ps:List Q4} {x y z:Int} (h:∀p∈ps,bI p) (hw:okWb x y z):∀q∈TD ps (x,y,z),okW q:=by
 intro q hq
 unfold TD at hq
 rcases altl.1 hq with hq|hq
 ·exact DW (h q (alsm.1 hq).1)
 ·obtain⟨a,ha,b,hb, -, -, -,rfl⟩:=mem_swpRi.1 hq
  exact Je _ (Jf a b (x,y,z) (h a ha) (h b hb) hw)
theorem look_ok {c d:List Q4} {x y z:Int} (hc:slimC c) (hd:slimC d) (hw:okWb x y z):(∀p∈TD (ch c) (x,y,z)++ch d,okW p)∧(TD (ch c) (x,y,z)++ch d).length≤32:=by
 have oc:=refN_okP (qV hc.1)
 have od:=refN_okP (qV hd.1)
 refine⟨fun p hp=> ?_, ?_⟩
 ·rcases altl.1 hp with hp|hp
  ·exact sweptR_okW oc.1 hw p hp
  ·exact DW (od.1 p hp)
 ·have h1:=sweptR_len (ch c) (x,y,z) (qaD oc.2 hc.2)
  have:=hd.2
  rw[qaE]
  omega
theorem sweptR_pos {c:List Q4} {w:Q3} (h:bK c=0) (hw:w≠(0,0,0)):0<(TD (ch c) w).length:=by
 obtain⟨p,hp,h0⟩:=(Rv h).2.2.1 (Dy w) (fun h=>hw (by rw[←Dz w,h];rfl))
 have h1:bj (nrm p) w≤0:=by unfold bj Dy at h0;unfold bj;grind
 unfold TD
 rw[qaE]
 have:0<(IH (ch c) w).length:=List.length_pos_of_mem (alsm.2 ⟨hp,decide_eq_true h1⟩)
 omega
theorem refPts_okX {ps:List Q4} (h:∀p∈ps,okW p):∀c∈ct ps,okX c:=fun c hc=>by
 have hr:=((mc ps).2 c).1 hc
 obtain⟨p,hp,q,hq,r,hr',h0,e⟩:=YN (qaA _) hr
 have:=De p q r (h p hp) (h q hq) (h r hr') (by simpa [okB]using h0)
 unfold lD at this
 rw[if_neg h0]at this
 rw[e]
 exact this
theorem rbk_hitB {p q:List (List Q4)} {w:Q3} {i k:Nat} (hi:i<p.length) (hk:k<q.length) (h:rbk p[i] q[k] w=true):SG p q w=true:=by
 unfold SG
 rw[List.any_eq_true]
 exact⟨p[i],qaB hi,by rw[List.any_eq_true];exact⟨q[k],qaB hk,h⟩⟩
theorem rbk_noB {p q:List (List Q4)} {w:Q3} (h:∀i k (hi:i<p.length) (hk:k<q.length),rbk p[i] q[k] w=false):SG p q w=false:=by
 unfold SG
 rw[List.any_eq_false]
 intro c hc
 obtain⟨i,hi,rfl⟩:=qaJ hc
 rw[Bool.not_eq_true,List.any_eq_false]
 intro d hd
 obtain⟨k,hk,rfl⟩:=qaJ hd
 rw[h i k hi hk]
 simp
def IsAgP (L:List Q4):Value→World→Prop:=fun v w=>∃x,v= .agg #[x]∧Q4s w x L
theorem stab_agp (L:List Q4):dR (IsAgP L):=fun _ _ _ hb ⟨x,h1,h2⟩=>⟨x,h1,Q4s.below h2 hb⟩
theorem rBlocked_any (HSw:∀(ps:List Q4) (pv:Value) (x y z:Int) (W:World),(∀p∈ps,bI p)→ps.length≤16→okWb x y z→Q4s W pv ps→Calls Tryz.prog 103 #[.agg #[pv],V3 x y z] W (SwQ (TD ps (x,y,z)) W))
  (p q:List (List Q4)) (sv tv:Value) (x y z:Int) (W:World) (hp:∀c∈p,slimC c) (hq:∀c∈q,slimC c) (hpl:p.length≤100) (hql:q.length≤100) (hw:okWb x y z) (hw0:((x,y,z):Q3)≠(0,0,0)) (h1:SolV W sv p) (h2:SolV W tv q):
  Calls Tryz.prog 60 #[.agg #[sv], .agg #[tv],V3 x y z] W (Ret W (.bool (SG p q (x,y,z)))):=by
 obtain⟨i0,hi0,hz0,hz1,hz2⟩:=info_parts cY
 have Hi0:=YJ (And.intro hi0 (And.intro hz0 (And.intro hz1 hz2)))
 clear hi0 hz0 hz1 hz2
 obtain⟨sa,sn,sc,rfl,hsn, -,hsx⟩:=h1
 obtain⟨ta,tn,tc,rfl,htn, -,htx⟩:=h2
 obtain⟨V,HV⟩:∃V,Hid (((W.alloc (.cells #[.slice sa sn sc] 81)).alloc (.cells #[.slice ta tn tc] 81)).alloc (.cells #[.int .i64 x, .int .i64 y, .int .i64 z] 36)=V):=⟨_,YJ rfl⟩
 have hV:Below W.heap.size W V:=by rw[←HV.out];exact bel
 have HA:Hid (V.heap[W.heap.size]? =some (.cells #[.slice sa sn sc] 81 (0,0))):=YJ (by rw[←HV.out];exact(aB (by simp<;>omega)).trans ((aB (by simp)).trans (ai rfl)))
 have HB:Hid (V.heap[W.heap.size+1]? =some (.cells #[.slice ta tn tc] 81 (0,0))):=YJ (by rw[←HV.out];exact(aB (by simp)).trans (ai (by simp)))
 have HW:Hid (V.heap[W.heap.size+2]? =some (.cells #[.int .i64 x, .int .i64 y, .int .i64 z] 36 (0,0))):=YJ (by rw[←HV.out];exact ai (by simp))
 have HX:=YJ hsx
 have HY:=YJ htx
 have Hn:=YJ hsn
 have Hm:=YJ htn
 have hxl:sn≤100:=by omega
 have hyl:tn≤100:=by omega
 have HCa:=fun i (h:i<p.length)=>YJ (hp _ (qaB h))
 have HCb:=fun i (h:i<q.length)=>YJ (hq _ (qaB h))
 have Hhit:=fun i k (hi:i<p.length) (hk:k<q.length)=>YJ (@rbk_hitB p q (x,y,z) i k hi hk)
 have Hno:=YJ (@rbk_noB p q (x,y,z))
 have HWb:=YJ hw
 have HSw':=YJ HSw
 clear hsx htx hsn htn hp hq hpl hql hw HSw
 generalize SG p q (x,y,z)=res at*
 go_enter Tryz.func60,Tryz.ntmps60
 go_wp2
 try rw[HV.out]
 go_loopw [7] (fun i wr=>∃k:Nat,k≤sn∧i= .int .i64 k∧Below V.heap.size V wr∧Hid (∀i j (hi:i<p.length) (hj:j<q.length),i<k→rbk p[i] q[j] (x,y,z)=false)) (fun i _=>sn-(intOf i).toNat)
 case atStart=>exact⟨0,by omega,rfl,brf,YJ (fun i j _ _ h=>by omega)⟩
 case round=>
  obtain⟨k,hk,rfl,hb,Hd⟩:=hrel
  have hAr:=(hb.block _ (ah HA.out)).trans HA.out
  have a0:wr.cell? ⟨W.heap.size,0,none⟩=some (.slice sa sn sc):=(ag hAr 0).trans rfl
  have az:=ah hAr
  obtain⟨w0,w1,w2,wf,wz⟩:=NO ((hb.block _ (ah HW.out)).trans HW.out)
  clear hAr
  by_cases hlt:k<sn
  ·have g1:(k:Int)<(sn:Int):=by omega
   have g2:(0:Int)≤(k:Int):=by omega
   have hil:k<p.length:=by have:=Hn.out;omega
   obtain⟨b0,off,rfl,hi4⟩:=HX.out (by omega)
   obtain⟨pv,e0,hq⟩:=hi4 k hil
   have e0:=ab (fB hV hb) e0
   have ze:=qaC wr _ e0
   simp only at ze
   have hsl:=(HCa k hil).out
   have okc:=qV hsl.1
   have okr:=refN_okP okc
   have HNr:=fun W' (hW':Below wr.heap.size wr W')=>YJ (pW p[k] pv W' okc (qaD hsl.2 (by decide)) ((hq.below (fB hV hb)).below hW'))
   have HSk:=fun v W' (hv:Q4s W' v (ch p[k]))=>YJ (HSw'.out (ch p[k]) v x y z W' okr.1 (qaD okr.2 (qaD hsl.2 (by decide))) HWb.out hv)
   obtain⟨pa,pn,pc,rfl, -⟩:=hq
   have HSl:=YJ hsl
   clear hi4 hsl okc okr
   unfold SwQ at HSk
   generalize hSS:TD (ch p[k]) (x,y,z)=SS at HSk
   have HSS:=YJ hSS
   clear hSS
   go_wp2
   apply aj [] [0,1,2,3,4,5,6,7,8,9] 10 [] [sv _,sv _,sv _,sv _,sv _,sv _,⟨OA wr.heap.size (ch p[k]),by first|exact Ox _|exact Pt _ _|exact stab_agp _⟩,⟨IsAgP (ch p[k]),by first|exact Ox _|exact Pt _ _|exact stab_agp _⟩,sv _,⟨OA wr.heap.size SS,by first|exact Ox _|exact Pt _ _|exact stab_agp _⟩] (by kernel_rfl) (by kernel_rfl)
   iterate 6 ((try go_frame);refine wkQ ?_)
   try go_frame
   refine wkU (fun u hR K hK=> ?_) (fun o6=> ?_)
   ·clear hR
    go_simp
    refine((HNr _ u.below).out).mono ?_
    rintro e w9 ⟨v9,rfl,hb9,ho9⟩
    exact hK _ _ hb9 (AY ho9 u.below.size)
   try go_frame
   refine wkU (fun u hR K hK=> ?_) (fun o7=> ?_)
   ·have h6:(OA wr.heap.size (ch p[k])) o6 u.val:=hr hR 6
    clear hR
    have H9:=YJ h6
    obtain⟨a9,c9,rfl⟩:=aT h6
    clear h6
    go_simp
    exact hK _ _ (brf) ⟨_,rfl,dV H9.out⟩
   ((try go_frame);refine wkQ ?_)
   try go_frame
   refine wkU (fun u hR K hK=> ?_) (fun o9=> ?_)
   ·have h7:IsAgP (ch p[k]) o7 u.val:=hr hR 7
    clear hR
    obtain⟨x9,rfl,hx9⟩:=h7
    go_simp
    refine((HSk _ _ hx9).out).mono ?_
    rintro e w9 ⟨v9,rfl,hb9,ho9⟩
    exact hK _ _ hb9 (AY ho9 u.below.size)
   try go_frame
   refine aI (fun u hR=> ?_)
   have ho:OA wr.heap.size SS o9 u.val:=hR 9 (by simp)
   have HO:=YJ ho
   have hbu:=u.below
   clear hR HNr HSk a0 az w0 w1 w2 wf wz e0 ze
   have hSS0:0<SS.length:=by rw[←HSS.out];exact sweptR_pos HSl.out.1 hw0
   rcases id ho.2 with⟨_,hz⟩|⟨gs,oc,_,heo,_⟩
   ·omega
   subst heo
   clear ho
   generalize u.val=wq at*
   clear u
   simp only[oas]
   go_wp2
   refine NoPanic.normal ?_
   have hbV:=fB hb hbu
   go_wp2
   go_loopw [9] (fun jv wr=>∃j:Nat,j≤tn∧jv= .int .i64 j∧Below wq.heap.size wq wr∧Hid (∀m (hm:m<q.length),m<j→rbk p[k] q[m] (x,y,z)=false)) (fun jv _=>tn-(intOf jv).toNat)
   case atStart=>exact⟨0,by omega,rfl,brf,YJ (fun m _ h=>by omega)⟩
   case round=>
    have zq:=hbu.size
    obtain⟨wp0,hwp⟩:∃n0,n0=wr.heap.size:=⟨_,rfl⟩
    obtain⟨j,hj,rfl,hbj,Hdj⟩:=hrel
    have hbVj:=fB hbV hbj
    have hBr:=(hbVj.block _ (ah HB.out)).trans HB.out
    have b1:wr.cell? ⟨W.heap.size+1,0,none⟩=some (.slice ta tn tc):=(ag hBr 0).trans rfl
    have bz:=ah hBr
    clear hBr hwp wp0 zq
    by_cases hlj:j<tn
    ·have g3:(j:Int)<(tn:Int):=by omega
     have g4:(0:Int)≤(j:Int):=by omega
     have hjl:j<q.length:=by have:=Hm.out;omega
     obtain⟨b2,off2,rfl,hi5⟩:=HY.out (by omega)
     obtain⟨qv,f0,hr⟩:=hi5 j hjl
     have f0:=ab (fB hV hbVj) f0
     have zf:=qaC wr _ f0
     simp only at zf
     have hsd:=(HCb j hjl).out
     have okd:=qV hsd.1
     have HNd:=fun W' (hW':Below wr.heap.size wr W')=>YJ (pW q[j] qv W' okd (qaD hsd.2 (by decide)) ((hr.below (fB hV hbVj)).below hW'))
     have HOj:=YJ (au HO.out hbj)
     have hLk:=look_ok HSl.out hsd HWb.out
     rw[HSS.out]at hLk
     have hrl:0<(ch q[j]).length:=by
      obtain⟨o1,ho1, -⟩:=(Rv hsd.1).2.2.1 (1,0,0) (by simp)
      exact List.length_pos_of_mem ho1
     have HCl:Hid (rbk p[k] q[j] (x,y,z)=(SS++ch q[j]).all (gM (ct (SS++ch q[j])))):=YJ (by unfold rbk;rw[HSS.out])
     have HP:=fun v W' (h:Q4s W' v (SS++ch q[j]))=>YJ (SB (SS++ch q[j]) v W' hLk.1 (qaD hLk.2 (by decide)) h)
     have hpl:(ct (SS++ch q[j])).length≤300000:=Qc (qaD hLk.2 (by decide))
     have HI:=fun v cv W' (h:Q4s W' v (SS++ch q[j])) (h':Q4s W' cv (ct (SS++ch q[j])))=>YJ (SC (SS++ch q[j]) (ct (SS++ch q[j])) v cv W' hLk.1 (refPts_okX hLk.1) (qaD hLk.2 (by decide)) (by omega) h h')
     have hln:(SS++ch q[j]).length≤32:=hLk.2
     have Hh:=YJ ((Hhit k j hil hjl).out)
     have Hst:Hid (rbk p[k] q[j] (x,y,z)=false→∀m (hm:m<q.length),m<j+1→rbk p[k] q[m] (x,y,z)=false):=YJ (fun h m hm hmj=>by
      by_cases e:m=j
      ·subst e;exact h
      ·exact Hdj.out m hm (by omega))
     obtain⟨qa,qn,qc,rfl, -⟩:=hr
     rw[←HCl.out]at HI
     rw[qaE]at hln
     clear hi5 hsd okd HX HY Hhit Hno Hd Hdj HCa HCb HO HSl HSS HCl hLk HSw' HWb
     generalize rbk p[k] q[j] (x,y,z)=cl at*
     generalize hRD:ch q[j]=RD at*
     clear hRD
     generalize hcor:ct (SS++RD)=cor at*
     clear hcor
     go_wp2
     apply aj [] [0,1,2,3,4,5,6,7,8,9] 10 [11] [⟨QE wr.heap.size,by first|exact Ox _|exact Pt _ _|exact stab_agp _⟩,sv _,⟨OA wr.heap.size SS,by first|exact Ox _|exact Pt _ _|exact stab_agp _⟩,sv _,sv _,sv _,sv _,sv _,sv _,⟨OA wr.heap.size RD,by first|exact Ox _|exact Pt _ _|exact stab_agp _⟩] (by kernel_rfl) (by kernel_rfl)
     try go_frame
     refine wkU (fun u hR K hK=> ?_) (fun o0=> ?_)
     ·clear hR
      have zz:=u.below.size
      go_simp
      exact hK _ _ bel ⟨_,rfl,zz,ai rfl⟩
     ((try go_frame);refine wkQ ?_)
     try go_frame
     refine wkU (fun u hR K hK=> ?_) (fun o2=> ?_)
     ·have h0:QE wr.heap.size o0 u.val:=hr hR 0
      clear hR
      obtain⟨gm,rfl,hgm,hgl⟩:=h0
      have hOu:=au HOj.out u.below
      obtain⟨v9,w9,hrun,hown9,hb9⟩:=dM (P:=Tryz.prog) (w:=u.val) 165 165 196 i0 (v4 (0,0,0,0)) 4 32 Oc Hi0.out.1 Hi0.out.2.1 Hi0.out.2.2.1 Hi0.out.2.2.2 rfl (by decide) ⟨gm,0,none⟩ 0 0 [] rfl (fun _ _ h=>by simp at h) ⟨gs,0,none⟩ SS.length oc (SS.flatMap aH) (by rw[bh]) (World.ownsRow.cells hOu rfl) (by omega) (by unfold maxLen;omega) (by omega)
      exact cZ _ _ 165 rfl hrun (hK _ _ hb9 (show OA wr.heap.size SS v9 w9 from by have h9:=AY hown9 u.below.size;simp only[Nat.zero_add,List.nil_append]at h9;exact h9))
     iterate 6 ((try go_frame);refine wkQ ?_)
     try go_frame
     refine wkU (fun u hR K hK=> ?_) (fun o9=> ?_)
     ·clear hR
      go_simp
      refine((HNd _ u.below).out).mono ?_
      rintro e w9 ⟨v9,rfl,hb9,ho9⟩
      exact hK _ _ hb9 (AY ho9 u.below.size)
     try go_frame
     refine aI (fun u hR=> ?_)
     have h2:OA wr.heap.size SS o2 u.val:=hR 2 (by simp)
     have h9:OA wr.heap.size RD o9 u.val:=hR 9 (by simp)
     rcases id h9.2 with⟨_,hz⟩|⟨gd,cd,_,hed,_⟩
     ·omega
     subst hed
     have hbu2:=u.below
     have hs9:=World.ownsRow.cells h9 rfl
     clear hR b1 bz f0 zf HNd h9
     generalize u.val=w5 at*
     clear u
     simp only[oas]
     refine bn h2 hbu2 hbu2.size rfl hs9 _ _ rfl rfl rfl rfl (by omega) fun v6 w6 hown6 hb6=> ?_
     have HQ6:=YJ (dV hown6)
     obtain⟨va,vc,rfl⟩:=aT hown6
     generalize(SS++RD).length=nn at*
     clear h2 hs9 hown6 hbu2
     have HP6:=YJ ((HP _ w6 HQ6.out).out)
     clear HP HOj
     iterate 1 (refine wpList_step (fun K hK=> ?_);go_simp;refine hK _ _ ?_;clear hK K)
     refine NoPanic.normal ?_
     go_wp2_with fail
     refine HP6.out.mono ?_
     rintro e w7 ⟨cv,rfl,hb7,hc7⟩
     have HC7:=YJ (dV hc7)
     have HI7:=YJ ((HI _ cv w7 (HQ6.out.below hb7) HC7.out).out)
     obtain⟨ca,cc,rfl⟩:=aT hc7
     have hb67:=fB hb6 hb7
     clear HI hc7 HP6 HQ6 HC7
     generalize cor.length=cn at*
     go_wp2_with fail
     refine HI7.out.mono ?_
     rintro e w8 ⟨rfl,hb8⟩
     have hb68:=fB hb67 hb8
     cases cl with
     |true=>
      obtain rfl:=Hh.out rfl
      have hw8:=fB (fB hV hbVj) hb68
      clear HI7 Hh Hst
      go_wp2
      go_ret
      exact⟨ay (by simp),hw8⟩
     |false=>
      have HF:=YJ (Hst.out rfl)
      clear HI7 Hh Hst
      go_wp2
      go_roundw
      case rel=>exact⟨j+1,by omega,by go_num,fB hbj hb68,HF⟩
      case measure=>simp[intOf];try omega
    ·obtain rfl:j=tn:=by omega
     have Hd2:Hid (∀i j (hi:i<p.length) (hj:j<q.length),i<k+1→rbk p[i] q[j] (x,y,z)=false):=YJ (fun i m hi hm h=>by
      by_cases e:i=k
      ·subst e;exact Hdj.out m hm (by have:=Hm.out;omega)
      ·exact Hd.out i m hi hm (by omega))
     clear HX HY Hhit Hno HCa HCb HO HSl HSS HSw'
     go_wp2
     go_roundw
     case rel=>exact⟨k+1,by omega,by go_num,hbVj,Hd2⟩
     case measure=>simp[intOf];try omega
  ·obtain rfl:k=sn:=by omega
   have hT:=Hno.out (fun i j hi hj=>Hd.out i j hi hj (by have:=Hn.out;omega))
   subst hT
   have hw4:Below W.heap.size W wr:=fB hV hb
   clear HX HY Hhit Hno Hd HCa HCb HSw' HWb
   go_wp2
   go_ret
   exact⟨ay (by simp),hw4⟩
end
section
open Go.RowKit Go.Shelf Go.Lib
attribute [local go_sem] Ext.cell Ext.frozen
theorem has_t {xs:List Int} {x:Int} {k:Nat} (h:k<xs.length) (e:xs[k]=x):xs.contains x=true:=by
 rw[List.contains_iff_mem, ←e];exact qaB h
theorem has_f {xs:List Int} {x:Int} (h:∀k (h:k<xs.length),xs[k]≠x):xs.contains x=false:=by
 rw[Bool.eq_false_iff]
 intro hc
 obtain⟨k,hk,e⟩:=qaJ (List.contains_iff_mem.1 hc)
 exact h k hk e
theorem has_any (v:Value) (xs:List Int) (x:Int) (W:World) (hm:xs.length≤1000000) (hx:Ints W v xs):
  Calls Tryz.prog 68 #[v, .int .i64 x] W (fun e w'=>e= .returned (.bool (xs.contains x))∧w'=W):=by
 have HT:=fun k (h:k<xs.length)=>YJ (@has_t xs x k h)
 have HF:=YJ (@has_f xs x)
 obtain⟨a,n,c,rfl,hn,_,hi⟩:=hx
 have HX:=YJ hi
 have HN:=YJ hn
 clear hi hn
 generalize xs.contains x=res at*
 go_enter Tryz.func68,Tryz.ntmps68
 go_wp2
 go_loopw [5] (fun i wr=>wr=W∧∃k:Nat,k≤n∧i= .int .i64 k∧Hid (∀j (h:j<xs.length),j<k→xs[j]≠x)) (fun i _=>n-(intOf i).toNat)
 case atStart=>exact⟨rfl,0,by omega,rfl,YJ (fun j _ h=>by omega)⟩
 case round=>
  obtain⟨rfl,k,hk,rfl,Hd⟩:=hrel
  by_cases hlt:k<n
  ·have g1:(k:Int)<(n:Int):=by omega
   have g2:(0:Int)≤(k:Int):=by omega
   have hil:k<xs.length:=by have:=HN.out;omega
   obtain⟨b,off,rfl,hi4⟩:=HX.out (by omega)
   have e0:=hi4 k hil
   have ze:=qaC wr _ e0
   simp only at ze
   have HK:=YJ (HT k hil).out
   have Hst:Hid (xs[k]≠x→∀j (h:j<xs.length),j<k+1→xs[j]≠x):=YJ (fun h j hj hji=>by
    by_cases e:j=k
    ·subst e;exact h
    ·exact Hd.out j hj (by omega))
   clear HX HT HF hi4 Hd
   generalize xs[k]=y at*
   by_cases hy:y=x
   ·have hr:=HK.out hy
    subst hr hy
    go_wp2
    go_ret
    exact⟨by first|rfl|trivial,rfl⟩
   ·have hyb:(y==x)=false:=by simpa using hy
    go_wp2
    go_roundw
    case rel=>exact⟨by first|rfl|trivial,k+1,by omega,by go_num,YJ (Hst.out hy)⟩
    case measure=>simp[intOf];try omega
  ·obtain rfl:k=n:=by omega
   have hr:=HF.out (fun j h=>Hd.out j h (by have:=HN.out;omega))
   subst hr
   clear HX HT HF Hd
   go_wp2
   go_ret
   exact⟨by first|rfl|trivial,rfl⟩
def nI (l:List Nat):List Int:=l.map fun n:Nat=>(n:Int)
theorem nI_len (l:List Nat):(nI l).length=l.length:=qdo _
theorem nI_vals (l:List Nat):(nI l).map (Value.int .i64)=l.map iV:=by unfold nI;rw[List.map_map];rfl
theorem lst_ints {w:World} {B:Nat} {v:Value} {l:List Nat} (h:w.ownsRow B 3 1 v l.length (l.map iV)):Ints w v (nI l):=jy (T:=3) (base:=B) (by rw[nI_len,nI_vals];exact h)
end
section
open Go.RowKit Go.Shelf Go.Lib
set_option maxRecDepth 100000
attribute [local go_sem] Ext.cell Ext.frozen
def RowsP {α:Type} (P:Value→α→Prop) (vs:List Value) (l:List α):Prop:=vs.length=l.length∧∀i (h1:i<vs.length) (h2:i<l.length),P vs[i] l[i]
theorem RowsP.nil {α:Type} {P:Value→α→Prop}:RowsP P [] []:=⟨rfl,fun i h=>by simp at h⟩
theorem RowsP.snoc {α:Type} {P:Value→α→Prop} {vs:List Value} {l:List α} {v:Value} {s:α} (h:RowsP P vs l) (hv:P v s):RowsP P (vs++[v]) (l++[s]):=by
 refine⟨by simp[h.1],fun i h1 h2=> ?_⟩
 by_cases hi:i<vs.length
 ·have hc:i<l.length:=by rw[←h.1];exact hi
  rw[List.getElem_append_left hi,List.getElem_append_left hc]
  exact h.2 i hi hc
 ·have he:i=vs.length:=by simp at h1;omega
  subst he
  have:=h.1
  simp only[List.getElem_append_right (qaA _),Nat.sub_self,qdt]
  rw[List.getElem_append_right (by omega)]
  simp only[this,Nat.sub_self,qdt]
  exact hv
theorem RowsP.imp {α:Type} {P Q:Value→α→Prop} {vs:List Value} {l:List α} (hi:∀v a,P v a→Q v a) (h:RowsP P vs l):RowsP Q vs l:=⟨h.1,fun i h1 h2=>hi _ _ (h.2 i h1 h2)⟩
theorem each_own {α:Type} {E:World→Value→α→Prop} {w:World} {B n:Nat} {T:TypeId} {v:Value} {vs:List Value} {l:List α} (h:w.ownsRow B T 1 v n vs) (hn:n=l.length) (hr:RowsP (E w) vs l):Each w v E l:=by
 subst hn
 have hlen:=h.1
 have hX:=h.2
 rcases hX with⟨rfl,h0⟩|⟨g,cap,cur,rfl,hb,hh,hnc,hcm,hcs,htk⟩
 ·exact⟨none,0,0,rfl,h0,qaA _,fun h=>absurd h (by omega)⟩
 ·refine⟨_,_,_,rfl,rfl,hnc,fun _=>⟨g,0,rfl,fun i hi=> ?_⟩⟩
  have hi2:i<vs.length:=by omega
  refine⟨vs[i], ?_,hr.2 i hi2 hi⟩
  have h3:=(World.ownsRow.cells h rfl) i vs[i] (by simp[hi2])
  simpa [jY]using h3
def OwnI (B:Nat) (w:World) (v:Value) (l:List Nat):Prop:=w.ownsRow B 3 1 v l.length (l.map iV)
theorem OwnI.below {B:Nat} {w w':World} {v:Value} {l:List Nat} (h:OwnI B w v l) (hb:Below w.heap.size w w'):OwnI B w' v l:=au h hb
theorem OwnI.mono {B B':Nat} {w:World} {v:Value} {l:List Nat} (h:OwnI B w v l) (hb:B'≤B):OwnI B' w v l:=AY h hb
theorem OwnI.ints {B:Nat} {w:World} {v:Value} {l:List Nat} (h:OwnI B w v l):Ints w v (nI l):=lst_ints h
theorem OwnI.kept {B:Nat} {w w':World} {v:Value} {l:List Nat} {row:Option Nat} {T:TypeId} (hT:T≠3) (h:OwnI B w v l) (hg:w.grownBy w' row) (hne:∀g cs,row=some g→w.heap[g]? =some cs→∃c t,cs= .cells c t (0,0)∧t=T):OwnI B w' v l:=
 Qu h hg (fun g cs k1 k2=>by obtain⟨c,t,h3,h4⟩:=hne g cs k1 k2;exact⟨c,t,h3,by rw[h4];exact hT⟩)
def OwnG (B:Nat) (w:World) (v:Value) (g:List (List Nat)):Prop:=∃vs,w.ownsRow B 49 1 v g.length vs∧RowsP (OwnI B w) vs g
theorem OwnG.below {B:Nat} {w w':World} {v:Value} {g:List (List Nat)} (h:OwnG B w v g) (hb:Below w.heap.size w w'):OwnG B w' v g:=by
 obtain⟨vs,h1,h2⟩:=h
 exact⟨vs,au h1 hb,h2.imp fun _ _ h=>h.below hb⟩
theorem OwnG.mono {B B':Nat} {w:World} {v:Value} {g:List (List Nat)} (h:OwnG B w v g) (hb:B'≤B):OwnG B' w v g:=by
 obtain⟨vs,h1,h2⟩:=h
 exact⟨vs,AY h1 hb,h2.imp fun _ _ h=>h.mono hb⟩
theorem OwnG.kept {B:Nat} {w w':World} {v:Value} {g:List (List Nat)} {row:Option Nat} {T:TypeId} (hT:T≠3) (hT2:T≠49) (h:OwnG B w v g) (hg:w.grownBy w' row) (hne:∀g cs,row=some g→w.heap[g]? =some cs→∃c t,cs= .cells c t (0,0)∧t=T):OwnG B w' v g:=by
 obtain⟨vs,h1,h2⟩:=h
 exact⟨vs,Qu h1 hg (fun g cs k1 k2=>by obtain⟨c,t,h3,h4⟩:=hne g cs k1 k2;exact⟨c,t,h3,by rw[h4];exact hT2⟩),h2.imp fun _ _ h=>h.kept hT hg hne⟩
def NatV (w:World) (v:Value) (l:List Nat):Prop:=Ints w v (nI l)
def GrfV (w:World) (v:Value) (g:List (List Nat)):Prop:=Each w v NatV g
def GsV (w:World) (v:Value) (gs:List (List (List Nat))):Prop:=Each w v GrfV gs
theorem NatV.below {w w':World} {v:Value} {l:List Nat} (h:NatV w v l) (hb:Below w.heap.size w w'):NatV w' v l:=Ints.below h hb
theorem GrfV.below {w w':World} {v:Value} {g:List (List Nat)} (h:GrfV w v g) (hb:Below w.heap.size w w'):GrfV w' v g:=Each.below (fun _ _ _ _ hb h=>NatV.below h hb) h hb
theorem GsV.below {w w':World} {v:Value} {gs:List (List (List Nat))} (h:GsV w v gs) (hb:Below w.heap.size w w'):GsV w' v gs:=Each.below (fun _ _ _ _ hb h=>GrfV.below h hb) h hb
theorem OwnG.grf {B:Nat} {w:World} {v:Value} {g:List (List Nat)} (h:OwnG B w v g):GrfV w v g:=by
 obtain⟨vs,h1,h2⟩:=h
 exact each_own h1 rfl (h2.imp fun _ _ h=>h.ints)
def GrO (g:List (List Nat)) (W:World) (e:Ending) (w':World):Prop:=∃v,e= .returned v∧Below W.heap.size W w'∧OwnG W.heap.size w' v g
theorem info_ints:(Tryz.prog.info? 49).map (fun i=>(i.zero,i.size,i.bytes))=some (some (.slice none 0 0),1,24):=by kernel_rfl
theorem und_intss:Tryz.prog.underlying 37=some (.slice 49):=by kernel_rfl
def rgphs (l:List (List (List Q4))) (w:Q3):List (List Nat):=(List.range l.length).map (UQ l w)
theorem rgphs_len (l:List (List (List Q4))) (w:Q3):(rgphs l w).length=l.length:=by unfold rgphs;simp
theorem rgphs_succ {l:List (List (List Q4))} {w:Q3} {k:Nat} (h:k<l.length):(rgphs l w).take (k+1)=(rgphs l w).take k++[UQ l w k]:=by
 rw[qaI (by rw[rgphs_len];exact h)]
 congr 2
 unfold rgphs
 simp
def rgrow (l:List (List (List Q4))) (w:Q3) (i k:Nat):List Nat:=(List.range k).filter fun k=>decide (k≠i)&&SG (l.getD i []) (l.getD k []) w
theorem rgrow_succ {l:List (List (List Q4))} {w:Q3} {i k:Nat} (hi:i<l.length) (hk:k<l.length):rgrow l w i (k+1)=if(decide (k≠i)&&SG l[i] l[k] w)=true then rgrow l w i k++[k]else rgrow l w i k:=by
 unfold rgrow
 rw[List.range_succ,List.filter_append,List.filter_cons]
 have e1:l.getD i []=l[i]:=by simp[List.getD,hi]
 have e2:l.getD k []=l[k]:=by simp[List.getD,hk]
 rw[e1,e2]
 split<;>simp
theorem rgrow_len (l:List (List (List Q4))) (w:Q3) (i k:Nat):(rgrow l w i k).length≤k:=qaD (qdz _ _) (by simp)
theorem rGraph_any (l:List (List (List Q4))) (lv:Value) (x y z:Int) (W:World) (hl:l.length≤1000) (hL:∀s∈l,s.length≤100∧∀c∈s,slimC c) (hw:okWb x y z) (hw0:((x,y,z):Q3)≠(0,0,0)) (h:SolsV W lv l):
  Calls Tryz.prog 20 #[lv,V3 x y z] W (GrO (rgphs l (x,y,z)) W):=by
 obtain⟨i0,hi0,hz0,hz1,hz2⟩:=info_parts In
 have Hi0:=YJ (And.intro hi0 (And.intro hz0 (And.intro hz1 hz2)))
 obtain⟨i1,hj0,hy0,hy1,hy2⟩:=info_parts info_ints
 have Hi1:=YJ (And.intro hj0 (And.intro hy0 (And.intro hy1 hy2)))
 clear hi0 hz0 hz1 hz2 hj0 hy0 hy1 hy2
 obtain⟨V,HV⟩:∃V,Hid (W.alloc (.cells #[.int .i64 x, .int .i64 y, .int .i64 z] 36)=V):=⟨_,YJ rfl⟩
 have hV:Below W.heap.size W V:=by rw[←HV.out];exact bel
 have zV:W.heap.size≤V.heap.size:=hV.size
 have HW:Hid (V.heap[W.heap.size]? =some (.cells #[.int .i64 x, .int .i64 y, .int .i64 z] 36 (0,0))):=YJ (by rw[←HV.out];exact ai rfl)
 have HB:=fun i k (hi:i<l.length) (hk:k<l.length) sv tv W' (k1:SolV W' sv l[i]) (k2:SolV W' tv l[k])=>YJ (rBlocked_any (fun ps pv x y z W h1 h2 h3 h4=>Tf ps pv x y z W h1 h2 h3.1 h3.2.1 h3.2.2 h4) l[i] l[k] sv tv x y z W' (hL _ (qaB hi)).2 (hL _ (qaB hk)).2 (hL _ (qaB hi)).1 (hL _ (qaB hk)).1 hw hw0 k1 k2)
 have HS1:=fun k (h:k<l.length)=>YJ (@rgphs_succ l (x,y,z) k h)
 have HS2:=fun i k (hi:i<l.length) (h:k<l.length)=>YJ (@rgrow_succ l (x,y,z) i k hi h)
 have HLn:=fun i k=>YJ (rgrow_len l (x,y,z) i k)
 obtain⟨la,n,lc,rfl,hn, -,hx⟩:=h
 have HX:=YJ hx
 have HN:=YJ hn
 have hn1:n≤1000:=by omega
 have HE:Hid ((rgphs l (x,y,z)).take n=rgphs l (x,y,z)):=YJ (by rw[←hn, ←rgphs_len l (x,y,z),List.take_length])
 have HEl:Hid ((rgphs l (x,y,z)).length=n):=YJ (by rw[rgphs_len,hn])
 have HRg:Hid (∀i,rgrow l (x,y,z) i n=UQ l (x,y,z) i):=YJ (fun i=>by unfold rgrow UQ;rw[hn])
 clear hx hn hl hL hw hw0
 go_enter Tryz.func20,Tryz.ntmps20
 go_wp2
 try rw[HV.out]
 go_loopw [5,6] (fun s ix wr=>∃k:Nat,k≤n∧ix= .int .i64 k∧Below V.heap.size V wr∧∃vs,Hid (wr.ownsRow V.heap.size 49 1 s k vs)∧Hid (RowsP (OwnI V.heap.size wr) vs ((rgphs l (x,y,z)).take k))) (fun _ ix _=>n-(intOf ix).toNat)
 case atStart=>exact⟨0,by omega,rfl,brf,[],YJ (qds _ _ _ _),YJ (by rw[qdu];exact RowsP.nil)⟩
 case round=>
  obtain⟨i,hi,rfl,hb,vs,HO,HR⟩:=hrel
  obtain⟨oa,oc,rfl⟩:=aT HO.out
  by_cases hlt:i<n
  ·have g1:(i:Int)<(n:Int):=by omega
   have g2:(0:Int)≤(i:Int):=by omega
   have hil:i<l.length:=by have:=HN.out;omega
   have HSi:=YJ (HS1 i hil).out
   have HS2i:=fun k (h:k<l.length)=>YJ (HS2 i k hil h).out
   have HBi:=fun k (h:k<l.length) sv tv W' k1 k2=>YJ (HB i k hil h sv tv W' k1 k2).out
   have hbV:=fB hV hb
   obtain⟨b,off,rfl,hi4⟩:=HX.out (by omega)
   have HX4:=YJ hi4
   clear hi4 HX HS1 HS2 HB
   obtain⟨wo,rfl⟩:∃wo:World,wo=wr:=⟨_,rfl⟩
   go_wp2
   go_loopw [7,8] (fun r iy wr=>∃k:Nat,k≤n∧iy= .int .i64 k∧Below wo.heap.size wo wr∧Hid (wr.ownsRow wo.heap.size 3 1 r (rgrow l (x,y,z) i k).length ((rgrow l (x,y,z) i k).map iV))) (fun _ iy _=>n-(intOf iy).toNat)
   case atStart=>exact⟨0,by omega,rfl,brf,YJ (qds _ _ _ _)⟩
   case round=>
    obtain⟨k,hk,rfl,hbw,HP⟩:=hrel
    obtain⟨ra,rc,rfl⟩:=aT HP.out
    by_cases hkn:k<n
    ·have g3:(k:Int)<(n:Int):=by omega
     have g4:(0:Int)≤(k:Int):=by omega
     have hkl:k<l.length:=by have:=HN.out;omega
     have HS2k:=YJ (HS2i k hkl).out
     have hPl:(rgrow l (x,y,z) i k).length≤1000:=qaD (HLn i k).out (by omega)
     by_cases hki:k=i
     ·have HS2':rgrow l (x,y,z) i (k+1)=rgrow l (x,y,z) i k:=by rw[HS2k.out,if_neg (by simp[hki])]
      have gk:((k:Int)!=(i:Int))=false:=by simp[hki]
      clear HS2k HS2i HBi HX4 HLn
      generalize rgrow l (x,y,z) i k=P at*
      go_wp2
      refine wqf fun u=> ?_
      go_wp2
      go_roundw
      case rel=>exact⟨k+1,by omega,by go_num,fB hbw u.below,YJ (by rw[HS2'];exact au HP.out u.below)⟩
      case measure=>simp[intOf];try omega
     ·have gk:((k:Int)!=(i:Int))=true:=by simp;omega
      obtain⟨sv,e0,hs⟩:=HX4.out i hil
      obtain⟨tv,e1,ht⟩:=HX4.out k hkl
      have hbVw:=fB hbV hbw
      have e0:=ab hbVw e0
      have e1:=ab hbVw e1
      have ze:=qaC wr _ e0
      have ze1:=qaC wr _ e1
      simp only at ze ze1
      obtain⟨w0,w1,w2,wf,wz⟩:=NO ((hbw.block _ (qaG (ah HW.out) hb.size)).trans ((hb.block _ (ah HW.out)).trans HW.out))
      have HC:=fun W' (h':Below W.heap.size W W')=>YJ (HBi k hkl sv tv W' (hs.below h') (ht.below h')).out
      clear hs ht HX4 HBi HS2i HLn
      generalize SG l[i] l[k] (x,y,z)=cb at*
      generalize rgrow l (x,y,z) i k=P at*
      go_wp2
      refine wqb ?_
      repeat(first|go_big_quiet_step ((go_at_call 60;exact aE ((HC _ (fB hbVw (Ext.below _))).out)))|quiet_step ((go_at_call 60;exact aE ((HC _ (fB hbVw (Ext.below _))).out))))
      refine wqn fun u=> ?_
      clear HC e0 e1 ze ze1 w0 w1 w2 wf wz
      have hbu:=fB hbw u.below
      have HPu:=YJ (au HP.out u.below)
      generalize u.val=w5 at*
      clear u HP
      cases cb with
      |true=>
       have HS2':rgrow l (x,y,z) i (k+1)=P++[k]:=by rw[HS2k.out,if_pos (by simp[hki])]
       clear HS2k
       go_wp2_with (at_builtin;refine wpList_append_own _ rfl _ _ 49 rfl wo.heap.size 3 i0 (.int .i64 0) 1 8 Io Hi0.out.1 Hi0.out.2.1 Hi0.out.2.2.1 Hi0.out.2.2.2 rfl (by decide) _ P.length _ rfl ((HPu).out.alloc _) ⟨_,0,none⟩ 1 1 [.int .i64 k] rfl rfl ?c1 ?c2 ?c3 ?c4 ?c5 ?_)
       case c1=>
        intro jj uu hu
        rw[jY,aq (by simp) jj]
        simpa using hu
       case c2=>intro v hv;simp at hv;subst hv;rfl
       case c3=>unfold maxLen;omega
       case c4=>omega
       case c5=>simp;have:=(hbu).size;omega
       intro v' w4 hown4 hg4 hu4
       have hb4:Below wo.heap.size wo w4:=((hbu).alloc (hbu).size _).grown hg4 (by simp;have:=(hbu).size;omega) (fun z hz=>by have:=((HPu).out.lt z hz).1;omega)
       have HO4:Hid (w4.ownsRow wo.heap.size 3 1 v' (rgrow l (x,y,z) i (k+1)).length ((rgrow l (x,y,z) i (k+1)).map iV)):=YJ (by rw[show rgrow l (x,y,z) i (k+1)=P++[k]from HS2',qaE,List.map_append];exact hown4)
       clear hown4 hg4 hu4
       obtain⟨va,vc,rfl⟩:=aT HO4.out
       clear HPu
       go_wp2
       go_roundw
       case rel=>exact⟨k+1,by omega,by go_num,hb4,HO4⟩
       case measure=>simp[intOf];try omega
      |false=>
       have HS2':rgrow l (x,y,z) i (k+1)=P:=by rw[HS2k.out,if_neg (by simp)]
       go_wp2
       go_roundw
       case rel=>exact⟨k+1,by omega,by go_num,hbu,YJ (by rw[HS2'];exact HPu.out)⟩
       case measure=>simp[intOf];try omega
    ·obtain rfl:k=n:=by omega
     have HPn:Hid (OwnI wo.heap.size wr (.slice ra (rgrow l (x,y,z) i k).length rc) (UQ l (x,y,z) i)):=YJ (by rw[←HRg.out i];exact HP.out)
     have HO1:=YJ (au HO.out hbw)
     have HR1:=YJ (HR.out.imp fun _ _ h=>h.below hbw)
     have hb1:=fB hb hbw
     have zwr:=hb.size
     clear HS2i HBi HX4 HLn HP HO HR
     generalize(rgrow l (x,y,z) i k).length=rn at*
     generalize UQ l (x,y,z) i=rl at*
     have hbx:Below wr.heap.size wr (wr.alloc (.cells #[.slice ra rn rc] 49)):=bel
     have HOx:=YJ (au HO1.out hbx)
     have HNx:Hid ((wr.alloc (.cells #[.slice ra rn rc] 49)).heap[wr.heap.size]? =some (.cells #[.slice ra rn rc] 49 (0,0))):=YJ (ai rfl)
     have HRx:Hid (RowsP (OwnI V.heap.size (wr.alloc (.cells #[.slice ra rn rc] 49))) (vs++[.slice ra rn rc]) ((rgphs l (x,y,z)).take (i+1))):=YJ (by
      rw[HSi.out]
      exact RowsP.snoc (HR1.out.imp fun _ _ h=>h.below hbx) ((HPn.out.mono zwr).below hbx))
     have zw1:=hb1.size
     clear HO1 HR1 HPn
     go_wp2_with (at_builtin;refine fq _ rfl _ _ 37 rfl V.heap.size 49 i1 (.slice none 0 0) 1 24 und_intss Hi1.out.1 Hi1.out.2.1 Hi1.out.2.2.1 Hi1.out.2.2.2 rfl (by decide) _ i vs rfl HOx.out ⟨wr.heap.size,0,none⟩ 1 1 [.slice ra rn rc] rfl rfl ?c1 ?c2 ?c3 ?c4 ?c5 ?_)
     case c1=>
      intro j u hu
      rw[jY,ag HNx.out]
      simpa using hu
     case c2=>
      intro u hu
      simp at hu
      subst hu
      rfl
     case c3=>unfold maxLen;omega
     case c4=>omega
     case c5=>simp;omega
     intro v' w4 hown4 hg4 _
     have hb4:Below V.heap.size V w4:=(fB hb1 hbx).grown hg4 (by simp;omega) (fun z hz=>(HOx.out.lt z hz).1)
     have HR4:Hid (RowsP (OwnI V.heap.size w4) (vs++[.slice ra rn rc]) ((rgphs l (x,y,z)).take (i+1))):=YJ (HRx.out.imp fun _ _ h=>h.kept (T:=49) (by decide) hg4 (jC HOx.out))
     have HO4:=YJ hown4
     clear hown4 hg4 HOx HNx HRx hbx
     go_wp2
     go_roundw
     case rel=>exact⟨i+1,by omega,by go_num,hb4,_,HO4,HR4⟩
     case measure=>simp[intOf];try omega
  ·obtain rfl:i=n:=by omega
   have HRn:=HR
   rw[HE.out]at HRn
   clear HX HS1 HS2 HB HR
   go_wp2
   go_ret
   refine⟨_,rfl,fB hV hb,vs, ?_,HRn.out.imp fun _ _ h=>h.mono zV⟩
   rw[HEl.out]
   exact AY HO.out zV
end
section
open Go.RowKit Go.Shelf Go.Lib
attribute [local go_sem] Ext.cell Ext.frozen
def gE (g:List (List Nat)) (j k:Nat):Bool:=(g.getD j []).contains k
theorem nI_get {l:List Nat} {i:Nat} (h:i<l.length):(nI l)[i]'(by rw[nI_len];exact h)=(l[i]:Int):=by unfold nI;simp
theorem NatV.at {w:World} {v:Value} {l:List Nat} (h:NatV w v l):∃a n c,v= .slice a n c∧l.length=n∧(0<n→∃b off,a=some ⟨b,off,none⟩∧∀i (h:i<l.length),w.cell? ⟨b,off+i,none⟩=some (.int .i64 (l[i]:Nat))):=by
 obtain⟨a,n,c,rfl,hn,_,hi⟩:=h
 rw[nI_len]at hn
 refine⟨a,n,c,rfl,hn,fun h0=> ?_⟩
 obtain⟨b,off,rfl,hx⟩:=hi h0
 exact⟨b,off,rfl,fun i h=>by have:=hx i (by rw[nI_len];exact h);rwa [nI_get h]at this⟩
end
section
open Go.RowKit Go.Shelf Go.Lib
attribute [local go_sem] Ext.cell Ext.frozen
theorem BfsI.lt {E:Nat→Nat→Bool} {grp:List Nat} {n i G:Nat} {acc:List Nat} (h:BfsI E grp n i acc) (hn:n<G) (hg:∀y∈grp,y<G):∀y∈acc,y<G:=fun y hy=>by
 have:=h.rch y hy
 cases this with
 |base=>exact hn
 |step _ _ g=>exact hg _ g
end
section
open Go.RowKit Go.Shelf Go.Lib
set_option maxRecDepth 100000
attribute [local go_sem] Ext.cell Ext.frozen
def OwnGs (B:Nat) (w:World) (v:Value) (gs:List (List (List Nat))):Prop:=∃vs,w.ownsRow B 37 1 v gs.length vs∧RowsP (OwnG B w) vs gs
theorem OwnGs.below {B:Nat} {w w':World} {v:Value} {g:List (List (List Nat))} (h:OwnGs B w v g) (hb:Below w.heap.size w w'):OwnGs B w' v g:=by
 obtain⟨vs,h1,h2⟩:=h
 exact⟨vs,au h1 hb,h2.imp fun _ _ h=>h.below hb⟩
theorem OwnGs.gs {B:Nat} {w:World} {v:Value} {g:List (List (List Nat))} (h:OwnGs B w v g):GsV w v g:=by
 obtain⟨vs,h1,h2⟩:=h
 exact each_own h1 rfl (h2.imp fun _ _ h=>h.grf)
def GsO (g:List (List (List Nat))) (W:World) (e:Ending) (w':World):Prop:=∃v,e= .returned v∧Below W.heap.size W w'∧OwnGs W.heap.size w' v g
theorem info_intss:(Tryz.prog.info? 37).map (fun i=>(i.zero,i.size,i.bytes))=some (some (.slice none 0 0),1,24):=by kernel_rfl
theorem und_intsss:Tryz.prog.underlying 31=some (.slice 37):=by kernel_rfl
def rgss (l:List (List (List Q4))):List (List (List Nat)):=ways26.map (rgphs l)
theorem rgss_len (l:List (List (List Q4))):(rgss l).length=26:=by unfold rgss;rw[qdo];rfl
theorem rgss_succ {l:List (List (List Q4))} {k:Nat} (h:k<ways26.length):(rgss l).take (k+1)=(rgss l).take k++[rgphs l ways26[k]]:=by
 unfold rgss
 rw[qaI (by rw[qdo];exact h),qdB]
theorem rGraphs_any (l:List (List (List Q4))) (lv:Value) (W:World) (hl:l.length≤1000) (hL:∀s∈l,s.length≤100∧∀c∈s,slimC c) (h:SolsV W lv l):
  Calls Tryz.prog 15 #[lv] W (GsO (rgss l) W):=by
 obtain⟨i1,hj0,hy0,hy1,hy2⟩:=info_parts info_intss
 have Hi1:=YJ (And.intro hj0 (And.intro hy0 (And.intro hy1 hy2)))
 clear hj0 hy0 hy1 hy2
 have HWy:=fun W'=>YJ (Gm W')
 have HGr:=fun k (hk:k<ways26.length) W' (hb:Below W.heap.size W W')=>YJ (rGraph_any l lv ways26[k].1 ways26[k].2.1 ways26[k].2.2 W' hl hL (by have:=Ef _ (qaB hk);unfold okWb;omega) (by
  have:=Ef _ (qaB hk)
  intro e
  injection e with e1 e2
  injection e2 with e2 e3
  omega) (h.below hb))
 have HS:=fun k (hk:k<ways26.length)=>YJ (@rgss_succ l k hk)
 have HEl:=YJ (rgss_len l)
 have HE:Hid ((rgss l).take 26=rgss l):=YJ (by rw[←rgss_len l,List.take_length])
 obtain⟨la,n,lc,rfl, -⟩:=h
 have H26:Hid (ways26.length=26):=YJ rfl
 clear hl hL
 generalize rgss l=GS at*
 generalize ways26=WS at*
 go_enter Tryz.func15,Tryz.ntmps15
 go_wp2_with fail
 refine((HWy _).out).mono ?_
 rintro e w1 ⟨wv,rfl,hb1,ho1⟩
 have hw1:Below W.heap.size W w1:=by first|exact hb1|exact fB bel hb1
 have hq:=qcv ho1
 rw[H26.out]at ho1
 obtain⟨wa,wn,wc,rfl,hwn, -,hwx⟩:=hq
 have hwn':wn=26:=by rw[←hwn];exact H26.out
 subst hwn'
 have HX:=YJ hwx
 clear HWy ho1 hb1 hwx hwn
 go_wp2
 go_loopw [3,5] (fun s x wr=>∃k:Nat,k≤26∧x= .int .i64 k∧Below w1.heap.size w1 wr∧∃vs,Hid (wr.ownsRow w1.heap.size 37 1 s k vs)∧Hid (RowsP (OwnG w1.heap.size wr) vs (GS.take k))) (fun _ x _=>26-(intOf x).toNat)
 case atStart=>exact⟨0,by omega,rfl,brf,[],YJ (qds _ _ _ _),YJ (by rw[qdu];exact RowsP.nil)⟩
 case round=>
  obtain⟨k,hk,rfl,hb,vs,HO,HR⟩:=hrel
  obtain⟨oa,oc,rfl⟩:=aT HO.out
  by_cases hlt:k<26
  ·have g1:(k:Int)<26:=by omega
   have g2:(0:Int)≤(k:Int):=by omega
   have hkl:k<WS.length:=by rw[H26.out];exact hlt
   obtain⟨b,off,rfl,hi⟩:=HX.out (by omega)
   obtain⟨c0,c1',c2'⟩:=(hi.below hb) k hkl
   have HSk:=YJ (HS k hkl).out
   have HC:=YJ (HGr k hkl wr (fB hw1 hb)).out
   clear HS HGr HX hi
   generalize WS[k]=u at*
   obtain⟨x,y,z⟩:=u
   simp only at c0 c1' c2'
   have z1:=qaC wr _ c0
   simp only at z1
   go_wp2_with fail
   refine(HC.out).mono ?_
   rintro e w2 ⟨v,rfl,hb2,hg2⟩
   obtain⟨a9,c9,rfl⟩:∃a c,v= .slice a (rgphs l (x,y,z)).length c:=by obtain⟨_,h,_⟩:=hg2;exact aT h
   clear HC c0 c1' c2' z1
   have HO1:=YJ (au HO.out hb2)
   have HR1:=YJ (HR.out.imp fun _ _ h=>h.below hb2)
   have hbw2:=fB hb hb2
   have HG2:=YJ (hg2.mono hb.size)
   clear HO HR hg2
   generalize(rgphs l (x,y,z)).length=rn at*
   generalize rgphs l (x,y,z)=rg at*
   have hbx:Below w2.heap.size w2 (w2.alloc (.cells #[.slice a9 rn c9] 37)):=bel
   have HOx:=YJ (au HO1.out hbx)
   have HNx:Hid ((w2.alloc (.cells #[.slice a9 rn c9] 37)).heap[w2.heap.size]? =some (.cells #[.slice a9 rn c9] 37 (0,0))):=YJ (ai rfl)
   have HRx:Hid (RowsP (OwnG w1.heap.size (w2.alloc (.cells #[.slice a9 rn c9] 37))) (vs++[.slice a9 rn c9]) (GS.take (k+1))):=YJ (by
    rw[HSk.out]
    exact RowsP.snoc (HR1.out.imp fun _ _ h=>h.below hbx) (HG2.out.below hbx))
   have zw1:=hbw2.size
   clear HO1 HR1 HG2
   go_wp2_with (at_builtin;refine fq _ rfl _ _ 31 rfl w1.heap.size 37 i1 (.slice none 0 0) 1 24 und_intsss Hi1.out.1 Hi1.out.2.1 Hi1.out.2.2.1 Hi1.out.2.2.2 rfl (by decide) _ k vs rfl HOx.out ⟨w2.heap.size,0,none⟩ 1 1 [.slice a9 rn c9] rfl rfl ?c1 ?c2 ?c3 ?c4 ?c5 ?_)
   case c1=>
    intro j u hu
    rw[jY,ag HNx.out]
    simpa using hu
   case c2=>
    intro u hu
    simp at hu
    subst hu
    rfl
   case c3=>unfold maxLen;omega
   case c4=>omega
   case c5=>simp;omega
   intro v' w4 hown4 hg4 _
   have hb4:Below w1.heap.size w1 w4:=(fB hbw2 hbx).grown hg4 (by simp;omega) (fun z hz=>(HOx.out.lt z hz).1)
   have HR4:Hid (RowsP (OwnG w1.heap.size w4) (vs++[.slice a9 rn c9]) (GS.take (k+1))):=YJ (HRx.out.imp fun _ _ h=>h.kept (T:=37) (by decide) (by decide) hg4 (jC HOx.out))
   have HO4:=YJ hown4
   clear hown4 hg4 HOx HNx HRx hbx
   go_wp2
   go_roundw
   case rel=>exact⟨k+1,by omega,by go_num,hb4,_,HO4,HR4⟩
   case measure=>simp[intOf];try omega
  ·obtain rfl:k=26:=by omega
   have HRn:=HR
   rw[HE.out]at HRn
   clear HX HS HGr HR
   go_wp2
   go_ret
   refine⟨_,rfl,fB hw1 hb,vs, ?_,HRn.out.imp fun _ _ h=>h.mono hw1.size⟩
   rw[HEl.out]
   exact AY HO.out hw1.size
end
section
open Go.RowKit Go.Shelf Go.Lib
attribute [local go_sem] Ext.cell Ext.frozen
theorem gE_rE (l:List (List (List Q4))) (w:Q3):gE (rgphs l w)=rE l w:=by
 funext j k
 unfold gE rE
 congr 1
 unfold rgphs
 by_cases hj:j<l.length
 ·simp[List.getD,hj]
 ·have e:l.getD j []=[]:=by simp[List.getD,hj]
  unfold UQ
  rw[e]
  simp[List.getD,hj,SG]
end
section
open Go.RowKit Go.Shelf Go.Lib
set_option maxRecDepth 100000
attribute [local go_sem] Ext.cell Ext.frozen
theorem rSetErr_any (xs:List Int) (v:Value) (m:Nat) (W:World) (hm:m≤1000) (hl:xs.length≤1000000) (hv:Ints W v xs):
  Calls Tryz.prog 37 #[.int .i64 m,v] W (Ret W (.int .i64 (gh xs m))):=by
 have H6:=fun k (h:k<xs.length)=>YJ (@Kc xs m k h)
 have H9:=fun h0 k (h:k<xs.length) (h1:1≤k)=>YJ (@Kd xs m k h0 h h1)
 have H0:=YJ (@Ke xs m)
 have HWi:=fun n b (h:decide ((0:Int)≤n∧n≤(m:Int)-1)=b) W'=>YJ (ba h W')
 obtain⟨a,n,c,rfl,hn,_,hi⟩:=hv
 have HX:=YJ hi
 have HN:=YJ hn
 have q5:IntKind.i64.wrap ((m:Int)-1)=(m:Int)-1:=IntWalk.i64_in _ (by omega)
 clear hi hn
 generalize gh xs m=res at*
 go_enter Tryz.func37,Tryz.ntmps37
 go_wp2
 go_loopw [5] (fun x wr=>∃k:Nat,k≤n∧x= .int .i64 k∧Below W.heap.size W wr∧Hid (∀j (h:j<xs.length),j<k→0≤xs[j]∧xs[j]<m)) (fun x _=>n-(intOf x).toNat)
 case atStart=>exact⟨0,by omega,rfl,bel,YJ (fun j _ h=>by omega)⟩
 case round=>
  obtain⟨k,hk,rfl,hb,Hd⟩:=hrel
  by_cases hlt:k<n
  ·have g1:(k:Int)<(n:Int):=by omega
   have g2:(0:Int)≤(k:Int):=by omega
   have hil:k<xs.length:=by have:=HN.out;omega
   obtain⟨b,off,rfl,hi4⟩:=HX.out (by omega)
   have e0:=ab hb (hi4 k hil)
   have ze:=qaC wr _ e0
   simp only at ze
   have HK:=YJ (H6 k hil).out
   have Hst:Hid (0≤xs[k]∧xs[k]<m→∀j (h:j<xs.length),j<k+1→0≤xs[j]∧xs[j]<m):=YJ (fun h j hj hji=>by
    by_cases e:j=k
    ·subst e;exact h
    ·exact Hd.out j hj (by omega))
   clear HX H6 H9 H0 hi4 Hd
   generalize xs[k]=y at*
   by_cases y0:0≤y∧y<m
   ·have HC:=YJ (HWi y true (by rw[decide_eq_true_eq];omega) wr).out
    clear HWi
    go_wp2_with fail
    refine(HC.out).mono ?_
    rintro e w1 ⟨rfl,rfl⟩
    clear HC
    go_wp2
    go_roundw
    case rel=>exact⟨k+1,by omega,by go_num,hb,YJ (Hst.out y0)⟩
    case measure=>simp[intOf];try omega
   ·have HC:=YJ (HWi y false (by rw[decide_eq_false_iff_not];omega) wr).out
    have hr:=HK.out (by omega)
    subst hr
    clear HWi
    go_wp2_with fail
    refine(HC.out).mono ?_
    rintro e w1 ⟨rfl,rfl⟩
    clear HC
    go_wp2
    go_ret
    exact⟨by first|rfl|trivial,hb⟩
  ·obtain rfl:k=n:=by omega
   have Hd2:Hid (∀j (h:j<xs.length),0≤xs[j]∧xs[j]<m):=YJ (fun j h=>Hd.out j h (by have:=HN.out;omega))
   have H9b:=fun k (h:k<xs.length) (h1:1≤k)=>YJ (H9 Hd2.out k h h1).out
   have H0b:=YJ (H0.out Hd2.out)
   clear H6 H9 H0 Hd Hd2
   go_wp2
   go_loopw [6] (fun x ww=>∃i:Nat,1≤i∧i≤k+1∧x= .int .i64 i∧Below W.heap.size W ww∧Hid (∀j (h:j<xs.length),j<i→1≤j→xs[j-1]'(by omega)<xs[j])) (fun x _=>k+1-(intOf x).toNat)
   case atStart=>exact⟨1,by omega,by omega,rfl,hb,YJ (fun j _ h h1=>by omega)⟩
   case round=>
    obtain⟨i,hi1,hik,rfl,hbw,Hd⟩:=hrel
    by_cases hin:i<k
    ·have g1:(i:Int)<(k:Int):=by omega
     have g2:(0:Int)≤(i:Int):=by omega
     have g3:(0:Int)≤(i:Int)-1:=by omega
     have hil:i<xs.length:=by have:=HN.out;omega
     obtain⟨b,off,rfl,hi4⟩:=HX.out (by omega)
     have e0:=ab hbw (hi4 i hil)
     have e1:=ab hbw (hi4 (i-1) (by omega))
     have ez:((i:Int)-1).toNat=i-1:=by omega
     have ez2:(i:Int)-1=((i-1:Nat):Int):=by omega
     have g5:i-1<k:=by omega
     have g6:(i:Int)-1<(k:Int):=by omega
     have ze:=qaC _ _ e0
     have bw2:=fun(u:Ext _)=>fB hbw u.below
     simp only at ze
     have HK:=YJ (H9b i hil hi1).out
     have Hst:Hid (xs[i-1]'(by omega)<xs[i]→∀j (h:j<xs.length),j<i+1→1≤j→xs[j-1]'(by omega)<xs[j]):=YJ (fun h j hj hji h1=>by
      by_cases e:j=i
      ·subst e;exact h
      ·exact Hd.out j hj (by omega) h1)
     clear HX H9b H0b hi4 Hd HWi q5
     generalize xs[i]=y at*
     generalize xs[i-1]'(by omega)=z at*
     by_cases hyz:y≤z
     ·have hr:=HK.out hyz
      subst hr
      go_wp2
      have q5:IntKind.i64.wrap ((i-1:Nat):Int)=((i-1:Nat):Int):=IntWalk.i64_in _ (by have:=HN.out;omega)
      refine px (C:=fun w'=>∃u:Ext _,w'=u.val) [] [0,1,2,3,4,5,6,7,8] 9 [] (by kernel_rfl) (by kernel_rfl) ⟨Ext.drew,rfl⟩ ?_
      simp only[oas]
      repeat(refine zd (fun K' hK'=> ?_);go_simp;refine hK' _ ?_;clear hK' K')
      refine lG ?_
      repeat(first|go_big_quiet_step (fail)|quiet_step (fail))
      refine wpQuiet_nil ?_
      rintro _ ⟨u,rfl⟩
      have hbu:=bw2 u
      iterate 1 (refine wpList_step (fun K hK=> ?_);go_simp;refine hK _ _ ?_;clear hK K)
      refine NoPanic.normal ?_
      go_wp2
      go_ret
      exact⟨by first|rfl|trivial,hbu⟩
     ·go_wp2
      have q5:IntKind.i64.wrap ((i-1:Nat):Int)=((i-1:Nat):Int):=IntWalk.i64_in _ (by have:=HN.out;omega)
      refine px (C:=fun w'=>∃u:Ext _,w'=u.val) [] [0,1,2,3,4,5,6,7,8] 9 [] (by kernel_rfl) (by kernel_rfl) ⟨Ext.drew,rfl⟩ ?_
      simp only[oas]
      repeat(refine zd (fun K' hK'=> ?_);go_simp;refine hK' _ ?_;clear hK' K')
      refine lG ?_
      repeat(first|go_big_quiet_step (fail)|quiet_step (fail))
      refine wpQuiet_nil ?_
      rintro _ ⟨u,rfl⟩
      have hbu:=bw2 u
      iterate 1 (refine wpList_step (fun K hK=> ?_);go_simp;refine hK _ _ ?_;clear hK K)
      refine NoPanic.normal ?_
      go_wp2
      go_roundw
      case rel=>exact⟨i+1,by omega,by omega,by go_num,hbu,YJ (Hst.out (by omega))⟩
      case measure=>simp[intOf];try omega
    ·have g1:¬(i:Int)<(k:Int):=by omega
     have hr:=H0b.out (fun j h h1=>Hd.out j h (by have:=HN.out;omega) h1)
     subst hr
     go_wp2
     go_ret
     exact⟨by first|rfl|trivial,hbw⟩
def SplA (w:World) (b off:Nat) (s:Spl):Prop:=∃gv ov,w.cell? ⟨b,off,none⟩=some gv∧w.cell? ⟨b,off+1,none⟩=some ov∧w.cell? ⟨b,off+2,none⟩=some (.int .i64 s.2.2.1)∧w.cell? ⟨b,off+3,none⟩=some (.int .i64 s.2.2.2.1)∧w.cell? ⟨b,off+4,none⟩=some (.int .i64 s.2.2.2.2)∧Ints w gv s.1∧Ints w ov s.2.1
theorem SplA.below {w w':World} {b off:Nat} {s:Spl} (h:SplA w b off s) (hb:Below w.heap.size w w'):SplA w' b off s:=by
 obtain⟨gv,ov,h1,h2,h3,h4,h5,h6,h7⟩:=h
 exact⟨gv,ov,ab hb h1,ab hb h2,ab hb h3,ab hb h4,ab hb h5,h6.below hb,h7.below hb⟩
end
section
open Go.RowKit Go.Shelf Go.Lib
attribute [local go_sem] Ext.cell Ext.frozen
def psB (l:List (List (List Q4))):List (List Bod):=l.map (·.map bp)
theorem psB_len (l:List (List (List Q4))):(psB l).length=l.length:=qdo _
theorem scene_any {l:List (List (List Q4))} {lv:Value} (W:World) (h0:eB l=0) (h:SolsV W lv l):Calls Tryz.prog 47 #[lv] W (ScP (psB l) W):=
 Fe l lv W (fun s hs=>⟨(zZ ((sq h0).2 s hs)).1,qaD (zZ ((sq h0).2 s hs)).2 (by decide)⟩) (qaD (sq h0).1 (by decide)) h
theorem sgraph_any {l:List (List (List Q4))} {v:Q3} (h0:eB l=0) (hv:v∈ways26) (sb mb m0:Nat) (D:DataW Value) (pv:Value) (W:World) (hm:m0≤1000) (k1:W.heap[sb]? =some (.cells #[pv, .map (some mb)] 171 (0,0))) (k2:MapS W mb m0 D (eM (psB l))) (k3:PtsV W pv (psB l)):
  Calls Tryz.prog 49 #[.pointer (some ⟨sb,0,none⟩),vW v] W (GrP mb m0 (eM (psB l)) v W):=
 Iu m0 D (psB l) v sb mb pv W hv (fun p hp=>by
  obtain⟨s,hs,rfl⟩:=altt.1 hp
  have:=zZ ((sq h0).2 s hs)
  exact⟨Dm this.1,by rw[qdo];exact qaD this.2 (by decide)⟩) (by rw[psB_len];exact(sq h0).1) k1 k2 hm (KE h0 v hv) k3
theorem map_new {W:World} {mb:Nat} {Gf:Q3→List Nat} (k:OwM W mb 0 (.map [])):MapS W mb 0 (.map []) Gf:=⟨k,fun v _ hh=>by simp[Maps.has]at hh⟩
theorem gphB_len (l:List (List (List Q4))) (v:Q3):(eM (psB l) v).length=l.length:=by simp[eM,psB]
theorem gphB_lt {l:List (List (List Q4))} (h0:eB l=0) (v:Q3):∀x∈eM (psB l) v,x<4096:=fun x hx=>by
 obtain⟨i,_,rfl⟩:=altt.1 hx
 exact Ei _ _ _ _ (by rw[psB_len];exact(sq h0).1)
end
section
open Go.RowKit
theorem one_lt12 {n:Nat} (h:n<12):2 ^ n<4096:=Nat.pow_lt_pow_right (by decide) h
theorem way_ne {v:Q3} (h:v∈ways26):v≠(0,0,0):=by
 intro e
 subst e
 revert h
 decide
end
section
open Go.RowKit
def getI (l:List Int) (i:Nat):Int:=l.getD i 0
def chkA (G:List Nat) (cl:Nat) (wk:List Int) (i:Nat):Bool:=
 (decide (0≤getI wk i∧getI wk i<G.length)&&cl.testBit (getI wk i).toNat)&&(decide (0≤getI wk ((i+1) % wk.length)∧getI wk ((i+1) % wk.length)<G.length)&&(G.getD (getI wk i).toNat 0).testBit (getI wk ((i+1) % wk.length)).toNat)
def closedA (G:List Nat) (cl:Nat) (wk:List Int):Bool:=(List.range wk.length).all (chkA G cl wk)&&(nr wk==cl)
def chkR (E:Nat→Nat→Bool) (cs wk:List Int) (i:Nat):Bool:=cs.contains (getI wk i)&&(decide (0≤getI wk ((i+1) % wk.length))&&E (getI wk i).toNat (getI wk ((i+1) % wk.length)).toNat)
def closedR (E:Nat→Nat→Bool) (cs wk:List Int):Bool:=(cs.all fun x=>wk.contains x)&&(List.range wk.length).all (chkR E cs wk)
theorem mem_setF {cs:List Int} {n:Int} (h:gh cs n=0) {x:Int} (hx:0≤x):(nr cs).testBit x.toNat=true↔x∈cs:=by
 rw[setF_bit]
 constructor
 ·rintro⟨y,hy,e⟩
  have:=DO h y hy
  have:y=x:=by omega
  rw[←this]
  exact hy
 ·intro h
  exact⟨x,h,rfl⟩
theorem closed_eq {G:List Nat} {E:Nat→Nat→Bool} (hE:∀j k,E j k=true↔Vf G j k) {cs:List Int} (h:gh cs G.length=0) (wk:List Int):closedA G (nr cs) wk=closedR E cs wk:=by
 rw[Bool.eq_iff_iff]
 unfold closedA closedR
 rw[qaF,qaF,alsi,alsi,alsi,beq_iff_eq]
 constructor
 ·rintro⟨h1,h2⟩
  refine⟨fun x hx=> ?_,fun i hi=> ?_⟩
  ·have hx0:=(DO h x hx).1
   have hb:=(mem_setF h hx0).2 hx
   rw[←h2,setF_bit]at hb
   obtain⟨y,hy,e⟩:=hb
   have hk:∃i,∃hi:i<wk.length,wk[i]=y:=qaJ hy
   obtain⟨i,hi,rfl⟩:=hk
   have hc:=h1 i (by simpa using hi)
   unfold chkA at hc
   simp only[qaF,decide_eq_true_eq]at hc
   have hg:getI wk i=wk[i]:=by unfold getI;simp[List.getD,hi]
   rw[hg]at hc
   have:wk[i]=x:=by omega
   rw[←this,List.contains_iff_mem]
   exact hy
  ·have hc:=h1 i hi
   unfold chkA at hc
   simp only[qaF,decide_eq_true_eq]at hc
   obtain⟨⟨⟨a1,a2⟩,a3⟩,⟨b1,b2⟩,b3⟩:=hc
   unfold chkR
   rw[qaF]
   exact⟨by simpa using(mem_setF h a1).1 a3,by rw[decide_eq_true b1,Bool.true_and];exact(hE _ _).2 b3⟩
 ·rintro⟨h1,h2⟩
  have hin:∀i,i<wk.length→getI wk i∈cs:=fun i hi=>by
   have:=h2 i (by simpa using hi)
   unfold chkR at this
   rw[qaF]at this
   simpa using this.1
  refine⟨fun i hi=> ?_, ?_⟩
  ·have hi':i<wk.length:=by simpa using hi
   have hm:=hin i hi'
   have hn:=hin ((i+1) % wk.length) (Nat.mod_lt _ (by omega))
   have h3:=h2 i hi
   unfold chkR at h3
   rw[qaF]at h3
   have o1:=DO h _ hm
   have o2:=DO h _ hn
   unfold chkA
   simp only[qaF,decide_eq_true_eq]
   exact⟨⟨⟨o1.1,o1.2⟩,(mem_setF h o1.1).2 hm⟩,⟨o2.1,o2.2⟩,(hE _ _).1 (by have:=h3.2;rw[qaF]at this;exact this.2)⟩
  ·apply Nat.eq_of_testBit_eq
   intro k
   rw[Bool.eq_iff_iff,setF_bit,setF_bit]
   constructor
   ·rintro⟨x,hx,e⟩
    obtain⟨i,hi,rfl⟩:=qaJ hx
    have:=hin i hi
    unfold getI at this
    simp only[List.getD,List.getElem?_eq_getElem hi,Option.getD_some]at this
    exact⟨_,this,e⟩
   ·rintro⟨x,hx,e⟩
    have:=h1 x hx
    exact⟨x,by simpa using this,e⟩
def lkF (ok:Nat→List Int→Bool):Nat→List (List Int)→Int
 |_,[]=>0
 |i,w::r=>if 200<w.length then 8 else if ok i w=true then lkF ok (i+1) r else 26
theorem lkF_congr {ok ok':Nat→List Int→Bool}:∀(ws:List (List Int)) (i m:Nat),i+ws.length=m→(∀k w,k<m→ok k w=ok' k w)→lkF ok i ws=lkF ok' i ws
 | [],_,_,_,_=>rfl
 |w::r,i,m,e,h=>by
  unfold lkF
  rw[h i w (by simp at e;omega),lkF_congr r (i+1) m (by simp at e;omega) h]
def okA (ps:List (List Bod)) (cl:Nat) (i:Nat) (w:List Int):Bool:=closedA (eM ps (ways26.getD i (0,0,0))) cl w
def okR (l:List (List (List Q4))) (cs:List Int) (i:Nat) (w:List Int):Bool:=closedR (gE (rgphs l (ways26.getD i (0,0,0)))) cs w
def lkE (l:List (List (List Q4))) (cs:List Int) (ws:List (List Int)) (ok:Nat→List Int→Bool):Int:=
 if gh cs l.length≠0 then gh cs l.length else if cs.length<2∨ws.length≠26 then 10 else lkF ok 0 ws
theorem lkE_eq {l:List (List (List Q4))} (h:eB l=0) (cs:List Int) (ws:List (List Int)):lkE l cs ws (okA (psB l) (nr cs))=lkE l cs ws (okR l cs):=by
 unfold lkE
 by_cases h1:gh cs l.length=0
 ·have e:¬(gh cs l.length≠0):=by simpa using h1
  simp only[if_neg e]
  by_cases h2:cs.length<2∨ws.length≠26
  ·simp only[if_pos h2]
  ·simp only[if_neg h2]
   refine lkF_congr ws 0 26 (by omega) fun k w hk=> ?_
   have hk':k<ways26.length:=hk
   have hm:ways26.getD k (0,0,0)∈ways26:=by
    rw[show ways26.getD k (0,0,0)=ways26[k] by simp[List.getD,hk']]
    exact qaB hk'
   unfold okA okR
   rw[gE_rE]
   exact closed_eq (Wz h (way_ne hm)) (by rw[show l.map (·.map bp)=psB l from rfl,gphB_len];exact h1) w
 ·have e:gh cs l.length≠0:=h1
  simp only[if_pos e]
end
end Go.Proofs.YtnpmkepfpekhfaaGreatDoor
