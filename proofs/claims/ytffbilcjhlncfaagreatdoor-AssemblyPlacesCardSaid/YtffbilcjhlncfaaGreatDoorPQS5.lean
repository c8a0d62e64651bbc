/- texts: E0 E1 E2 PLF E5 E6 E8 E7 PCF. -/
import Derived.ArgAppend
import Derived.BigQuiet
import Derived.ChangeKeysEq
import Derived.Deep.AppendLies
import Derived.Deep.DeepAppendRoom
import Derived.Deep.DeepAppendWide
import Derived.Deep.DeepCutAuto
import Derived.Deep.QuietTactic
import Derived.Deep.RegionHeld
import Derived.Deep.RegionHeld3
import Derived.Deep.RegionHeldLaw
import Derived.Deep.Slices
import Derived.Deep.Strs
import Derived.DeepKeys4
import Derived.JoinedOf
import Derived.KernelRfl
import Derived.LaidMore
import Derived.Laws.AppendOwnNone
import Derived.Laws.StructEq
import Derived.Lib.AppendIntMem
import Derived.Lib.AppendZerosOnto
import Derived.Lib.Hide
import Derived.Lib.ItoaLen
import Derived.Lib.LaidTab
import Derived.Lib.SliceRun
import Derived.Lib.SlicesCompact
import Derived.Lib.SmallJoins
import Derived.LoopIn
import Derived.LoopNIn
import Derived.Maps.AppendAt
import Derived.Maps.OwnSet
import Derived.OpenShut
import Derived.OwnWalkIn
import Derived.ProofKit
import Derived.RangeFuncBound
import Derived.RangeFuncBox
import Derived.RangeFuncCalls
import Derived.RangeFuncFrom
import Derived.RangeFuncLeaves
import Derived.RangeFuncNested
import Derived.RangeFuncWrites
import Derived.SevenTiedAt
import Derived.Shelf.Abstract
import Derived.Shelf.Lays8
import Derived.Shelf.LaysM
import Derived.Shelf.RegionOpen
import Derived.Shelf.Slices.Turned
import Derived.Shelf.Small.Bits
import Derived.Shelf.Small.Strs
import Derived.Shelf.Spec.TrailingZeros
import Derived.Shelf.Strconv.Itoa0
import Derived.Shelf.Strconv.Itoa1
import Derived.Shelf.Strconv.Itoa2
import Derived.Shelf.Strconv.Itoa3
import Derived.Shelf.Strings.Builder1
import Derived.Shelf.Strings.Builder2
import Derived.Shelf.Strings.Builder2Cap
import Derived.Shelf.Strings.BuilderCap
import Derived.Shelf.Strings.BuilderF
import Derived.Shelf.Strings.BuilderK
import Derived.Shelf.Strings.Count
import Derived.Shelf.Strings.OnBuilder
import Derived.Shelf.Strings.Search1
import Derived.Shelf.Strings.Search2
import Derived.Shelf.Strings.Search3
import Derived.Shelf.Strings.Shaped
import Derived.Shelf.Unicode.DecodeSlow
import Derived.Sort.Grow
import Derived.StillTail
import Derived.Stop.Joined
import Derived.Stop.LaidErr
import Derived.TacticsInMore
import Derived.WalkKit
import Derived.WalkLawsBesides
import Derived.WalkSpells
import Derived.WideKeyEntry
import Derived.Test.YtffbilcjhlncfaaGreatDoorProg
import Derived.Test.YtffbilcjhlncfaaGreatDoorRows
import Derived.Test.YtffbilcjhlncfaaGreatDoorSort
import Derived.Test.YtffbilcjhlncfaaGreatDoorTie
import Derived.Test.YtffbilcjhlncfaaGreatDoorDQS1
import Derived.Test.YtffbilcjhlncfaaGreatDoorDQS4
import Derived.Test.YtffbilcjhlncfaaGreatDoorDQS6
import Derived.Test.YtffbilcjhlncfaaGreatDoorDQS7
import Derived.Test.YtffbilcjhlncfaaGreatDoorDQS8
import Derived.Test.YtffbilcjhlncfaaGreatDoorDQS9
import Derived.Test.YtffbilcjhlncfaaGreatDoorDQS10
import Derived.Test.YtffbilcjhlncfaaGreatDoorDQS14
import Derived.Test.YtffbilcjhlncfaaGreatDoorDQS16
import Derived.Test.YtffbilcjhlncfaaGreatDoorDQS17
import Derived.Test.YtffbilcjhlncfaaGreatDoorDQS19
import Derived.Test.YtffbilcjhlncfaaGreatDoorDQS20
import Derived.Test.YtffbilcjhlncfaaGreatDoorDQS22
import Derived.Test.YtffbilcjhlncfaaGreatDoorDQS23
import Derived.Test.YtffbilcjhlncfaaGreatDoorDQS24
import Derived.Test.YtffbilcjhlncfaaGreatDoorDQS26
import Derived.Test.YtffbilcjhlncfaaGreatDoorDQS29
import Derived.Test.YtffbilcjhlncfaaGreatDoorDQS30
import Derived.Test.YtffbilcjhlncfaaGreatDoorDQS31
import Derived.Test.YtffbilcjhlncfaaGreatDoorDQS32
import Derived.Test.YtffbilcjhlncfaaGreatDoorDQS34
import Derived.Test.YtffbilcjhlncfaaGreatDoorPQS4
namespace Go.Proofs.YtffbilcjhlncfaaGreatDoor
set_option maxHeartbeats 8000000
set_option linter.all false
section
open Go.ChangeShapes Go.WideShapes Go.ChangeAt Go.WideMaps Go.WideElems Go.RowKit
set_option maxRecDepth 100000
theorem own:ownKnob Tryz.prog.godebug=none:=by kernel_rfl
def laid3:List (String×DataW Unit):=[("math/bits.deBruijn32tab",Rows.laid_math_bits_deBruijn32tab),("math/bits.deBruijn64tab",Rows.laid_math_bits_deBruijn64tab),("internal/strconv.uint64pow10",Rows.laid_internal_strconv_uint64pow10)]
theorem door_met (os:Os) (args:Array Value):laidMetH Tryz.prog laid3 ((World.doorLaid Tryz.prog 400 os).forCall (fun _ _=>0) ⟨#[],args,[]⟩).memory:=
 laidMetH_of_parts3 (fuel:=8) (laidMet_of_run' 8 (by kernel_rfl) (by kernel_rfl)) (by kernel_rfl) (by kernel_rfl)
theorem und_bool:Tryz.prog.underlying 4=some .bool:=by kernel_rfl
theorem tab_of_laid {W:World} (h:laidMetH Tryz.prog laid3 W):Lib.TabIs Tryz.prog W "internal/strconv.uint64pow10" .u64 Lib.pow10Tab:=by
 rw[MakeChecks.laidMetH_plain _ _ _ (by kernel_rfl)]at h
 exact Lib.tabIs_of_head (rest:=[]) (g:=5) (t:=327) (e:=244) (n:=20) (by kernel_rfl) (by kernel_rfl) (by kernel_rfl) (by kernel_rfl) (by kernel_rfl) (by kernel_rfl) h.tail.tail
theorem post_law {H:Type} {enc:TypeId×Value→H} {f:Func} {s:ChangeSpec} {W W':World} {args:Array Value} {ds:List (DataW H)} {before:List MemPlace}
  (hW:DataW.Whole enc Tryz.prog f.params.toList s.vars false W args.toList ds [] before) (hv:s.vars=[]) (hb:Below W.heap.size W W') (hr:f.resultTypes=#[4])
  (hfn:s.fn H (ds++[])={results:=[.lit (.bool true)],args:=ds})
  (hargs:DataW.TrodAll enc Tryz.prog W' 0 (fun b=>decide (b<W.heap.size)) true f.params.toList args.toList ds before):
  s.post enc Tryz.prog f false true false false W args (.bool true) W':=by
 refine⟨ds,[],before,[],before,[],hW, ?_,by rw[hfn];exact hargs,by rw[hv,hfn];first|rfl|trivial|exact⟨rfl,rfl⟩,hb.frame _,fun h=>by cases h⟩
 rw[hfn,hr]
 exact trodAll_mk1 (shut_bool und_bool _)
end
section
open Go.ChangeShapes Go.WideShapes Go.ChangeAt Go.WideMaps Go.WideElems Go.RowKit
theorem cells_arr3:Tryz.prog.cellsOf 37=3:=by kernel_rfl
theorem open_intsV {H:Type} {enc:TypeId×Value→H} {W:World} {fuel:Nat} {v:Value} {y:DataW H×List MemPlace} (h:DataW.trod enc Tryz.prog W 0 (fun _=>true) true fuel 34 [v]=some y):
  ∃n:List Int,Ints W v n∧n.length≤maxLen∧(∀x∈n,(Lit.int .i64 x).wf=true)∧MW v∧(y.1= .nil∨∃sp,y.1= .slice (lits .i64 n) sp):=by
 rcases open_ints Pw eJ fx h with⟨hcs,hx⟩|⟨a,len,cap,zs,hcs,_,hl,hm,hz,hx,hcell,hwz⟩
 ·simp only[List.cons.injEq,and_true]at hcs
  subst hcs
  exact⟨[],⟨none,0,0,rfl,rfl,qaA _,fun h=>by omega⟩,by simp,(fun _ h=>by cases h),(fun m c e=>by cases e;exact⟨rfl,rfl⟩),Or.inl (by rw[hx])⟩
 ·simp only[List.cons.injEq,and_true]at hcs
  subst hcs
  simp only[if_true]at hz
  refine⟨zs.take len,⟨some a,len,cap,rfl,by simp;omega,hl,fun h0=> ?_⟩,by simp;omega,fun x hx=>hwz x (List.mem_of_mem_take hx),(fun m c e=>by cases e),Or.inr ⟨_,by rw[hx]⟩⟩
  obtain⟨b,off,spot⟩:=a
  have hspot:spot=none:=by simpa [Addr.add]using World.cell?_spot (hcell 0 (by omega))
  subst hspot
  refine⟨b,off,rfl,fun i hi=> ?_⟩
  have hi':i<len:=by simp at hi;omega
  have:=hcell i (by omega)
  rw[vp]at this
  rw[this]
  simp[List.getD,(by omega:i<zs.length)]
end
section
open Go.ChangeShapes Go.WideShapes Go.ChangeAt Go.WideMaps Go.WideElems Go.RowKit
set_option maxRecDepth 100000
theorem laidOut:laidOutB Tryz.prog=true:=by kernel_rfl
def wf3 (a b c:Int):Prop:=(Lit.int .i64 a).wf=true∧(Lit.int .i64 b).wf=true∧(Lit.int .i64 c).wf=true
theorem trod_arr3 {H:Type} {enc:TypeId×Value→H} {W:World} {fuel:Nat} {c0 c1 c2:Value} {y:DataW H×List MemPlace} (h:DataW.trod enc Tryz.prog W 0 (fun _=>true) true fuel 37 [c0,c1,c2]=some y):
  ∃a b c,c0= .int .i64 a∧c1= .int .i64 b∧c2= .int .i64 c∧wf3 a b c:=by
 obtain⟨xs,q,_,_,_,hl,hel⟩:=DataW.trod_array oN h
 have e0:=hel 0 (by omega)
 have e1:=hel 1 (by omega)
 have e2:=hel 2 (by omega)
 simp[fx]at e0 e1 e2
 rw[List.getElem?_eq_getElem (by omega)]at e0 e1 e2
 obtain⟨a0,ha0,_,w0⟩:=DataW.trod_int eJ e0
 obtain⟨a1,ha1,_,w1⟩:=DataW.trod_int eJ e1
 obtain⟨a2,ha2,_,w2⟩:=DataW.trod_int eJ e2
 simp only[List.cons.injEq,and_true]at ha0 ha1 ha2
 exact⟨a0,a1,a2,ha0,ha1,ha2,w0,w1,w2⟩
theorem okWide_arr {P:Program} {W:World} {r:Reach} {b0:Nat} {t e:TypeId} {n:Nat} {v:Value} (ht:P.underlying t=some (.array n e)) (h:Value.okWide P W r b0 t v):∃cs,v= .agg cs∧cs.size=P.cellsOf t:=by
 unfold Value.okWide at h
 rw[ht]at h
 cases v<;>simp_all
theorem open_arr3 {H:Type} {enc:TypeId×Value→H} {W:World} {base:Nat} {v:Value} {d:DataW H} {p:List MemPlace}
  (hv:Value.okWide Tryz.prog W .any base 37 v) (h:DataW.Trod enc Tryz.prog W 0 (fun _=>true) true 37 v d p):∃a b c,v= .agg #[.int .i64 a, .int .i64 b, .int .i64 c]∧wf3 a b c:=by
 obtain⟨cs,rfl,hsz⟩:=okWide_arr oN hv
 obtain⟨c0,c1,c2,rfl⟩:=Go.Joins.array3 (hsz.trans cells_arr3)
 obtain⟨fuel,hf⟩:=h
 simp[Value.cells]at hf
 obtain⟨a,b,c,rfl,rfl,rfl,hw⟩:=trod_arr3 hf
 exact⟨a,b,c,rfl,hw⟩
end
section
open Go.RowKit Go.Shelf Go.Lib
set_option maxRecDepth 100000
attribute [local go_sem] Ext.cell Ext.frozen
def IsSsA (l:List (List (List Q4))):Value→World→Prop:=fun v w=>SolsV w v l
theorem stab_ssA (l:List (List (List Q4))):dR (IsSsA l):=fun _ _ _ hb h=>SolsV.below h hb
def IsInA (xs:List Int):Value→World→Prop:=fun v w=>Ints w v xs
theorem stab_inA (xs:List Int):dR (IsInA xs):=fun _ _ _ hb h=>h.below hb
theorem atA_is (l:List (List (List Q4))) (xs:List Int) (b:Q3) {n:Nat} (hn:l.length=n):(eB l≠0→atA l xs b=(false,eB l))∧(eB l=0→gh xs n≠0→atA l xs b=(false,gh xs n))∧(eB l=0→gh xs n=0→atA l xs b=(fitA l b (xs.map Int.toNat)&& !hitR l b (xs.map Int.toNat),mvE (fitA l b (xs.map Int.toNat)))):=by
 subst hn
 unfold atA
 refine⟨fun h=>by rw[if_pos h],fun h k=>by rw[if_neg (by simpa using h),if_pos k],fun h k=> ?_⟩
 rw[if_neg (by simpa using h),if_neg (by simpa using k)]
 cases hf:fitA l b (xs.map Int.toNat)with
 |false=>rfl
 |true=>
  rw[hit_eq (sq h).2 hf]
  rfl
theorem AssemblyPlaces_any (l:List (List (List Q4))) (lv:Value) (xs:List Int) (nv:Value) (x y z:Int) (W:World) (hl:l.length≤maxLen) (hL:∀s∈l,s.length≤maxLen∧∀c∈s,c.length≤maxLen) (h:SolsV W lv l) (hxm:xs.length≤maxLen) (hn:Ints W nv xs) (hnil:MW nv) (_:wf3 x y z) (ht:Lib.TabIs Tryz.prog W "internal/strconv.uint64pow10" .u64 Lib.pow10Tab∧TabAt 3 Lib.deBruijn64tab W):
  Calls Tryz.prog 4 #[lv,nv, .agg #[.int .i64 x, .int .i64 y, .int .i64 z]] W (Ret W (.bool true)):=by
 obtain⟨V,HV⟩:∃V,Hid (W.alloc (.cells #[.int .i64 x, .int .i64 y, .int .i64 z] 37)=V):=⟨_,YJ rfl⟩
 have hV:Below W.heap.size W V:=by rw[←HV.out];exact bel
 have HB0:Hid (V.heap[W.heap.size]? =some (.cells #[.int .i64 x, .int .i64 y, .int .i64 z] 37 (0,0))):=YJ (by rw[←HV.out];exact ai rfl)
 have HA:=YJ (Gv V (vk ht.1 hV) (nz ht.2 hV))
 have HF:=fun W' (hb:Below W.heap.size W W')=>YJ (fewL_any l lv W' hl (fun s hs=>(hL s hs).1) (SolsV.below h hb))
 have HC:=fun(hf:fewL l=true) W' (hb:Below W.heap.size W W')=>YJ (CopySolids_any l lv W' (qaD (fewL_len hf).1 (by decide)) (fun s hs=>⟨qaD ((fewL_len hf).2 s hs).1 (by decide),fun c hc=>qaD (((fewL_len hf).2 s hs).2 c hc) (by decide)⟩) (SolsV.below h hb))
 have HCi:=fun(hx:xs.length≤20) W' (hb:Below W.heap.size W W')=>YJ (CopyInts_any nv xs W' (hn.below hb) hnil (by omega))
 have HK:=fun(hf:fewL l=true) (hx:xs.length≤20) v v2 W' (hb:Below W.heap.size W W') (hv:SolsV W' v l) (hv2:Ints W' v2 xs)=>YJ (At_any l v xs v2 x y z W' (fun s hs c hc=>qaD (((fewL_len hf).2 s hs).2 c hc) (by decide)) hx hv hv2)
 have HR:=fun(hf:fewL l=true) W' (hb:Below W.heap.size W W')=>YJ (PP l lv W' (fun s hs c hc=>qaD (((fewL_len hf).2 s hs).2 c hc) (by decide)) (SolsV.below h hb))
 rw[←QG]at HR
 have HSe:=fun(hf:fewL l=true) (hx:xs.length≤20) W' (hb:Below W.heap.size W W')=>YJ (rSetErr_any xs nv l.length W' (qaD (fewL_len hf).1 (by decide)) (by omega) (hn.below hb))
 have HRa:=fun(hx:xs.length≤20) (h0:eB l=0) (h9:gh xs l.length=0) W' (hb:Below W.heap.size W W')=>YJ (rAt_any l lv (xs.map Int.toNat) nv x y z W' (sq h0).1 (sq h0).2 (by rw[qdo];exact hx) (fun n hn'=>by
  obtain⟨y,hy,rfl⟩:=altt.1 hn'
  have:=DO h9 y hy
  omega) (SolsV.below h hb) (by
  show Ints W' nv (nI (xs.map Int.toNat))
  rw[nI_toNat (fun y hy=>(DO h9 y hy).1)]
  exact hn.below hb))
 have Hlv:Hid (∃a n c,lv= .slice a n c∧l.length=n):=YJ (by obtain⟨a,n,c,rfl,hn,_⟩:=h;exact⟨a,n,c,rfl,hn⟩)
 have Hnv:Hid (∃a n c,nv= .slice a n c∧xs.length=n):=YJ (by obtain⟨a,n,c,rfl,hn',_⟩:=hn;exact⟨a,n,c,rfl,hn'⟩)
 obtain⟨la,ln,lc,rfl,hln⟩:=Hlv.out
 obtain⟨na,nn,nc,rfl,hnn⟩:=Hnv.out
 obtain⟨i1,i2,i3⟩:=atA_is l xs (x,y,z) hln
 have H1:=YJ i1
 have H2:=YJ i2
 have H3:=YJ i3
 rw[hnn]at HCi HK HSe HRa hxm
 rw[hln]at HSe HRa
 have Hnn:=YJ hnn
 clear h hl hL ht Hlv Hnv hn hnil hnn hln hxm i1 i2 i3
 obtain⟨aA,HaA⟩:∃aA,Hid (atA l xs (x,y,z)=aA):=⟨_,YJ rfl⟩
 rw[HaA.out]at H1 H2 H3 HK
 clear HaA
 generalize fitA l (x,y,z) (xs.map Int.toNat)=ft at*
 generalize hitR l (x,y,z) (xs.map Int.toNat)=ht at*
 generalize fewL l=fl at*
 generalize eB l=ae at*
 generalize gh xs ln=se at*
 go_enter Tryz.func4,Tryz.ntmps4
 go_wp2_with fail
 try rw[HV.out]
 refine(HA.out).mono ?_
 rintro e w1 ⟨rfl,hb1⟩
 have hw1:=fB hV hb1
 have HB1:=YJ ((hb1.block _ (ah HB0.out)).trans HB0.out)
 clear HA HV hV HB0 hb1
 go_wp2_with fail
 refine((HF _ hw1).out).mono ?_
 rintro e w2 ⟨rfl,hb2⟩
 have hw2:=fB hw1 hb2
 have HB2:=YJ ((hb2.block _ (ah HB1.out)).trans HB1.out)
 clear HF HB1
 cases fl with
 |false=>
  clear HC HCi HK HR HSe HRa H1 H2 H3
  go_wp2
  go_ret
  exact⟨ay (by simp),hw2⟩
 |true=>
  by_cases hx20:nn≤20
  ·have g1:¬(20:Int)<(nn:Int):=by omega
   have HC':=fun W' hb=>YJ ((HC (by trivial) W' hb).out)
   have HCi':=fun W' hb=>YJ (HCi hx20 W' hb).out
   have HK':=fun v v2 W' hb k1 k2=>YJ (HK (by trivial) hx20 v v2 W' hb k1 k2).out
   have HR':=fun W' hb=>YJ (HR (by trivial) W' hb).out
   have HSe':=fun W' hb=>YJ (HSe (by trivial) hx20 W' hb).out
   have HRa':=fun h0 h9 W' hb=>YJ (HRa hx20 h0 h9 W' hb).out
   clear HC HCi HK HR HSe HRa
   obtain⟨x0,x1,x2,xf,xz⟩:=NO HB2.out
   obtain⟨aBq,aD⟩:=aA
   simp only at HK'
   go_wp2
   apply aj [9] [0,1,2,3,4,5,6,7,8,9] 10 [] [sv _,⟨IsSsA l,by first|exact stab_ssA _|exact stab_inA _⟩,sv _,⟨IsInA xs,by first|exact stab_ssA _|exact stab_inA _⟩,sv _,sv _,sv _,sv _,sv _,sv _] (by kernel_rfl) (by kernel_rfl)
   ((try go_frame);refine wkQ ?_)
   try go_frame
   refine wkU (fun u hR K hK=> ?_) (fun o1=> ?_)
   ·clear hR
    go_simp
    refine((HC' _ (fB hw2 u.below)).out).mono ?_
    rintro e w9 ⟨v9,rfl,hb9,hv9⟩
    exact hK _ _ hb9 hv9
   ((try go_frame);refine wkQ ?_)
   try go_frame
   refine wkU (fun u hR K hK=> ?_) (fun o3=> ?_)
   ·clear hR
    go_simp
    refine((HCi' _ (fB hw2 u.below)).out).mono ?_
    rintro e w9 ⟨v9,rfl,hb9,ho9⟩
    exact hK _ _ hb9 (jy (by rw[Hnn.out];exact ho9))
   ((try go_frame);refine wkQ ?_)
   try go_frame
   refine MM rfl rfl (by simp) rfl rfl ?_
   apply ex3
   ·intro u hR K hK
    have h1:IsSsA l o1 u.val:=hr hR 1
    have h3:IsInA xs o3 u.val:=hr hR 3
    clear hR
    go_simp
    refine((HK' _ _ _ (fB hw2 u.below) h1 h3).out).mono ?_
    rintro e w9 ⟨rfl,hb9⟩
    exact hK _ hb9
   rfl
   iterate 3 ((try go_frame);refine wkQ ?_)
   try go_frame
   refine wkz rfl rfl rfl rfl ?_
   apply Exists.intro
   apply And.intro
   ·intro w9
    go_simp
    try rfl
   refine⟨rfl, ?_⟩
   try go_frame
   refine aI (fun u hR=> ?_)
   have hw5:=fB hw2 u.below
   have HB5:=YJ ((u.below.block _ (ah HB2.out)).trans HB2.out)
   clear hR x0 x1 x2 xf xz HB2 HC' HCi' HK'
   generalize u.val=w5 at*
   clear u
   simp only[oas]
   go_wp2
   refine NoPanic.normal ?_
   go_wp2_with fail
   refine((HR' _ hw5).out).mono ?_
   rintro e w6 ⟨rfl,hb6⟩
   have hw6:=fB hw5 hb6
   have HB6:=YJ ((hb6.block _ (ah HB5.out)).trans HB5.out)
   clear HR' HB5
   by_cases hae:ae=0
   ·subst hae
    have H2':=YJ (H2.out (by trivial))
    have H3':=YJ (H3.out (by trivial))
    have HRb:=fun h9 W' hb=>YJ (HRa' (by trivial) h9 W' hb).out
    clear H1 H2 H3 HRa'
    go_wp2_with fail
    refine((HSe' _ hw6).out).mono ?_
    rintro e w7 ⟨rfl,hb7⟩
    have hw7:=fB hw6 hb7
    have HB7:=YJ ((hb7.block _ (ah HB6.out)).trans HB6.out)
    clear HSe' HB6
    by_cases hse:se=0
    ·subst hse
     have hd:=H3'.out (by trivial)
     cases hd
     have HR7:=YJ (HRb (by trivial) w7 hw7).out
     obtain⟨x0,x1,x2,xf,xz⟩:=NO HB7.out
     clear H2' H3' HRb
     go_wp2_with fail
     refine(HR7.out).mono ?_
     rintro e w8 ⟨rfl,hb8⟩
     have hw8:=fB hw7 hb8
     clear HR7 x0 x1 x2 xf xz HB7
     generalize mvE ft=me at*
     generalize(ft&& !ht)=mb at*
     cases mb with
     |false=>
      go_wp2
      go_ret
      exact⟨ay (by simp),hw8⟩
     |true=>
      go_wp2
      go_ret
      exact⟨ay (by simp),hw8⟩
    ·have hse':(se==0)=false:=by simpa using hse
     have hd:=H2'.out hse
     cases hd
     clear H2' H3' HRb
     go_wp2
     go_ret
     exact⟨ay (by simp),hw7⟩
   ·have hae':(ae==0)=false:=by simpa using hae
    have hd:=H1.out hae
    cases hd
    clear H1 H2 H3 HRa' HSe'
    go_wp2
    go_ret
    exact⟨ay (by simp),hw6⟩
  ·have g1:(20:Int)<(nn:Int):=by omega
   clear HC HCi HK HR HSe HRa H1 H2 H3
   go_wp2
   go_ret
   exact⟨ay (by simp),hw2⟩
end
section
open Go.ChangeShapes Go.WideShapes Go.ChangeAt Go.WideMaps Go.WideElems Go.RowKit
set_option maxRecDepth 100000
theorem und_planesE:Tryz.prog.underlying 162=some (.slice 190):=by kernel_rfl
theorem und_cellsE:Tryz.prog.underlying 73=some (.slice 164):=by kernel_rfl
theorem cells_planeE:Tryz.prog.cellsOf 190=4:=by kernel_rfl
theorem cells_planesE:Tryz.prog.cellsOf 162=1:=by kernel_rfl
theorem cells_cellE:Tryz.prog.cellsOf 164=1:=by kernel_rfl
theorem cells_cellsE:Tryz.prog.cellsOf 73=1:=by kernel_rfl
theorem cells_solidE:Tryz.prog.cellsOf 75=1:=by kernel_rfl
theorem addOE (b off j:Nat):(⟨b,off,none⟩:Addr).add j=⟨b,off+j,none⟩:=by
 unfold Addr.add
 by_cases h:j=0<;>simp[h]
theorem trod_plane {H:Type} {enc:TypeId×Value→H} {W:World} {fuel:Nat} {c0 c1 c2 c3:Value} {y:DataW H×List MemPlace} (h:DataW.trod enc Tryz.prog W 0 (fun _=>true) true fuel 190 [c0,c1,c2,c3]=some y):
  ∃p:Q4,c0= .int .i64 p.1∧c1= .int .i64 p.2.1∧c2= .int .i64 p.2.2.1∧c3= .int .i64 p.2.2.2:=by
 obtain⟨y0,y1,y2,y3,m,hx,_,h0,h1,h2,h3⟩:=Go.Joins.trod_struct4 Tryz.underlying190 h
 simp[fx]at h0 h1 h2 h3
 obtain⟨a0,ha0,_,w0⟩:=DataW.trod_int eJ h0
 obtain⟨a1,ha1,_,w1⟩:=DataW.trod_int eJ h1
 obtain⟨a2,ha2,_,w2⟩:=DataW.trod_int eJ h2
 obtain⟨a3,ha3,_,w3⟩:=DataW.trod_int eJ h3
 simp only[List.cons.injEq,and_true]at ha0 ha1 ha2 ha3
 exact⟨(a0,a1,a2,a3),ha0,ha1,ha2,ha3⟩
theorem open_planesV {H:Type} {enc:TypeId×Value→H} {W:World} {fuel:Nat} {v:Value} {y:DataW H×List MemPlace} (h:DataW.trod enc Tryz.prog W 0 (fun _=>true) true fuel 162 [v]=some y):
  ∃ps:List Q4,Q4s W v ps∧ps.length≤maxLen:=by
 rcases Deep.open_slice und_planesE h with⟨hcs,hx⟩|⟨a,len,cap,m,n,D,Pl,hcs,_,hl,hm,hmm,hx,hel⟩
 ·simp only[List.cons.injEq,and_true]at hcs
  subst hcs
  exact⟨[],⟨none,0,0,rfl,rfl,qaA _,fun h=>absurd h (by omega)⟩,by simp⟩
 ·simp only[List.cons.injEq,and_true]at hcs
  subst hcs
  simp only[if_true]at hmm
  rw[cells_planeE]at hel
  obtain⟨F,hF⟩:=Deep.choose_lt (α:=Q4) (n:=len) (p:=fun i q=>W.cell? (a.add (i*4))=some (.int .i64 q.1)∧W.cell? (a.add (i*4+1))=some (.int .i64 q.2.1)∧W.cell? (a.add (i*4+2))=some (.int .i64 q.2.2.1)∧W.cell? (a.add (i*4+3))=some (.int .i64 q.2.2.2)) (fun i hi=>by
   obtain⟨cs',k1,k2⟩:=hel i (by omega)
   obtain⟨_,hlen,hc⟩:=World.cells?_some k1
   match cs',hlen,k2,hc with
   | [c0,c1,c2,c3],_,k2,hc=>
    obtain⟨p,rfl,rfl,rfl,rfl⟩:=trod_plane k2
    have e0:=hc 0 (by omega)
    have e1:=hc 1 (by omega)
    have e2:=hc 2 (by omega)
    have e3:=hc 3 (by omega)
    rw[Deep.add_add]at e0 e1 e2 e3
    exact⟨p,e0,e1,e2,e3⟩)
  refine⟨(List.range len).map F,⟨some a,len,cap,rfl,by simp,hl,fun h0=> ?_⟩,by simp;omega⟩
  obtain⟨b,off,spot⟩:=a
  have hspot:spot=none:=by simpa [Addr.add]using World.cell?_spot (hF 0 h0).1
  subst hspot
  refine⟨b,off,rfl,fun i hi=> ?_⟩
  obtain⟨e0,e1,e2,e3⟩:=hF i (by simpa using hi)
  rw[addOE]at e0 e1 e2 e3
  simp only[qdB,qdD]
  exact⟨e0,e1,e2,e3⟩
theorem open_each {H:Type} {enc:TypeId×Value→H} {W:World} {fuel:Nat} {v:Value} {y:DataW H×List MemPlace} {t e:TypeId} {α:Type} [Inhabited α] (E:World→Value→α→Prop) (Q:α→Prop) (ht:Tryz.prog.underlying t=some (.slice e)) (hc:Tryz.prog.cellsOf e=1)
  (hE:∀n u z,DataW.trod enc Tryz.prog W 0 (fun _=>true) true n e [u]=some z→∃c,E W u c∧Q c) (h:DataW.trod enc Tryz.prog W 0 (fun _=>true) true fuel t [v]=some y):
  ∃cs:List α,Each W v E cs∧cs.length≤maxLen∧∀c∈cs,Q c:=by
 rcases Deep.open_slice1 ht hc h with⟨hcs,hx⟩|⟨a,len,cap,m,n,V,D,Pl,hcs,_,hl,hm,hmm,hx,hel⟩
 ·simp only[List.cons.injEq,and_true]at hcs
  subst hcs
  exact⟨[],⟨none,0,0,rfl,rfl,qaA _,fun h=>absurd h (by omega)⟩,by simp,fun _ h=>by cases h⟩
 ·simp only[List.cons.injEq,and_true]at hcs
  subst hcs
  simp only[if_true]at hmm
  obtain⟨F,hF⟩:=Deep.choose_lt (α:=α) (n:=len) (p:=fun i q=>W.cell? (a.add i)=some (V i)∧E W (V i) q∧Q q) (fun i hi=>by
   obtain⟨k1,k2⟩:=hel i (by omega)
   obtain⟨c,k3,k4⟩:=hE _ _ _ k2
   exact⟨c,k1,k3,k4⟩)
  refine⟨(List.range len).map F,⟨some a,len,cap,rfl,by simp,hl,fun h0=> ?_⟩,by simp;omega,fun c hc=> ?_⟩
  ·obtain⟨b,off,spot⟩:=a
   have hspot:spot=none:=by simpa [Addr.add]using World.cell?_spot (hF 0 h0).1
   subst hspot
   refine⟨b,off,rfl,fun i hi=> ?_⟩
   obtain⟨e0,e1,e2⟩:=hF i (by simpa using hi)
   rw[addOE]at e0
   simp only[qdB,qdD]
   exact⟨V i,e0,e1⟩
  ·obtain⟨i,hi,rfl⟩:=altt.1 hc
   exact(hF i (by simpa using hi)).2.2
def LenS (css:List (List Q4)):Prop:=css.length≤maxLen∧∀c∈css,c.length≤maxLen
theorem open_solidV {H:Type} {enc:TypeId×Value→H} {W:World} {fuel:Nat} {v:Value} {y:DataW H×List MemPlace} (h:DataW.trod enc Tryz.prog W 0 (fun _=>true) true fuel 73 [v]=some y):
  ∃css,SolV W v css∧LenS css:=by
 obtain⟨css,h1,h2,h3⟩:=open_each (α:=List Q4) Q4s (fun c=>c.length≤maxLen) und_cellsE cells_cellE (fun n u z hz=>by
  obtain⟨y0,m,hx,_,h0⟩:=trod_struct1 Tryz.underlying164 hz
  simp[cells_planesE]at h0
  exact open_planesV h0) h
 exact⟨css,h1,h2,h3⟩
end
section
open Go.ChangeShapes Go.WideShapes Go.ChangeAt Go.WideMaps Go.WideElems Go.RowKit
set_option maxRecDepth 100000
theorem und_solidsE:Tryz.prog.underlying 22=some (.slice 75):=by kernel_rfl
theorem open_solids {H:Type} {enc:TypeId×Value→H} {W:World} {base:Nat} {v:Value} {d:DataW H} {p:List MemPlace}
  (hv:Value.okWide Tryz.prog W .any base 22 v) (h:DataW.Trod enc Tryz.prog W 0 (fun _=>true) true 22 v d p):∃l:List (List (List Q4)),SolsV W v l∧l.length≤maxLen∧∀s∈l,LenS s:=by
 obtain⟨a,len,cap,rfl⟩:=okWide_slice und_solidsE hv
 obtain⟨fuel,hf⟩:=h
 simp only[Value.cells]at hf
 exact open_each (α:=List (List Q4)) SolV LenS und_solidsE cells_solidE (fun n u z hz=>by
  obtain⟨y0,m,hx,_,h0⟩:=trod_struct1 Tryz.underlying75 hz
  simp[cells_cellsE]at h0
  exact open_solidV h0) hf
end
section
open Go.ChangeShapes Go.WideShapes Go.ChangeAt Go.WideMaps Go.WideElems Go.RowKit
set_option maxRecDepth 100000
theorem open_numbers {H:Type} {enc:TypeId×Value→H} {W:World} {base:Nat} {v:Value} {d:DataW H} {p:List MemPlace}
  (hv:Value.okWide Tryz.prog W .any base 34 v) (h:DataW.Trod enc Tryz.prog W 0 (fun _=>true) true 34 v d p):∃n:List Int,Ints W v n∧MW v∧n.length≤maxLen:=by
 obtain⟨a,len,cap,rfl⟩:=okWide_slice Pw hv
 obtain⟨fuel,hf⟩:=h
 simp only[Value.cells]at hf
 obtain⟨n,h1,h2,_,h3,_⟩:=open_intsV hf
 exact⟨n,h1,h3,h2⟩
end
section
open Go.ChangeShapes Go.WideShapes Go.ChangeAt Go.WideMaps Go.WideElems Go.RowKit
theorem tabs_laid {W:World} (h:laidMetH Tryz.prog laid3 W):Lib.TabIs Tryz.prog W "internal/strconv.uint64pow10" .u64 Lib.pow10Tab∧TabAt 3 Lib.deBruijn64tab W:=by
 refine⟨tab_of_laid h, ?_⟩
 rw[MakeChecks.laidMetH_plain _ _ _ (by kernel_rfl)]at h
 have h2:Lib.TabIs Tryz.prog W "math/bits.deBruijn64tab" .u8 (Lib.deBruijn64tab.map fun n:Nat=>(n:Int)):=Lib.tabIs_of_head (rest:=[("internal/strconv.uint64pow10",Rows.laid_internal_strconv_uint64pow10)]) (g:=3) (t:=316) (e:=5) (n:=64) (by kernel_rfl) (by kernel_rfl) (by kernel_rfl) (by kernel_rfl) (by kernel_rfl) (by kernel_rfl) h.tail
 intro j hj
 have h3:=h2.cell (g:=3) (by kernel_rfl) j (by simpa using hj)
 rw[h3]
 simp[List.getD,hj]
end
section
open Go
set_option maxRecDepth 100000
theorem zassemblyPlaces1:(Rows.assemblyPlacesRow.wf (OpenSpec.ofChange Rows.assemblyPlacesSpec):Bool)=true:=by kernel_rfl
theorem zassemblyPlaces2:(laidOutB Tryz.prog:Bool)=true:=by kernel_rfl
theorem zassemblyPlaces3:(mapsRowed Tryz.prog:Bool)=true:=by kernel_rfl
theorem zassemblyPlaces4:(Tryz.f4.params.all (Tryz.prog.readableRec ·):Bool)=true:=by kernel_rfl
theorem zassemblyPlaces5:(namedTie Tryz.prog Rows.assemblyPlacesRow.named Rows.assemblyPlacesSpec.vars:Bool)=true:=by kernel_rfl
theorem zassemblyPlaces6:((Rows.assemblyPlacesRow.stops==[]):Bool)=true:=by kernel_rfl
theorem zassemblyPlaces7:((Tryz.prog.stops==[]):Bool)=true:=by kernel_rfl
theorem zassemblyPlaces8:((Rows.assemblyPlacesRow.knobs==[]):Bool)=true:=by kernel_rfl
theorem zassemblyPlaces9:((Tryz.prog.stopKnobs==[]):Bool)=true:=by kernel_rfl
theorem zassemblyPlaces10:((Rows.assemblyPlacesRow.inPlace==Tryz.prog.inPlace 4):Bool)=true:=by kernel_rfl
theorem zassemblyPlaces11:((Rows.assemblyPlacesRow.unfollowed==Tryz.prog.unfollowed 4):Bool)=true:=by kernel_rfl
theorem zassemblyPlaces12:((Rows.assemblyPlacesRow.recurses==Tryz.prog.recurses 4):Bool)=true:=by kernel_rfl
theorem zassemblyPlaces13:((Rows.assemblyPlacesRow.named==Tryz.prog.varsNamed 4):Bool)=true:=by kernel_rfl
theorem zassemblyPlaces14:((Rows.assemblyPlacesRow.maps==(Tryz.f4.params.toList++Rows.assemblyPlacesSpec.plain.varTypes Tryz.prog).any (Tryz.prog.mapsRec ·)):Bool)=true:=by kernel_rfl
theorem zassemblyPlaces15:((Rows.assemblyPlacesRow.ifaces==(Tryz.f4.params.toList++Rows.assemblyPlacesSpec.plain.varTypes Tryz.prog).any (Tryz.prog.ifacesRec ·)):Bool)=true:=by kernel_rfl
theorem zassemblyPlaces16:((Rows.assemblyPlacesRow.mapsOut==Tryz.prog.mapsAmong Tryz.f4.resultTypes.toList):Bool)=true:=by kernel_rfl
theorem zassemblyPlaces17:((Rows.assemblyPlacesRow.loops==(Tryz.f4.params.toList++Rows.assemblyPlacesSpec.plain.varTypes Tryz.prog).any (Tryz.prog.loopsFrom ·)):Bool)=true:=by kernel_rfl
theorem zassemblyPlaces18:((Rows.assemblyPlacesRow.wideKeys==(Tryz.f4.params.toList++Rows.assemblyPlacesSpec.plain.varTypes Tryz.prog++Tryz.f4.resultTypes.toList).any (Tryz.prog.wideKeysFrom ·)):Bool)=true:=by kernel_rfl
theorem zassemblyPlaces19:(Rows.assemblyPlacesSpec.vars.all (Tryz.prog.varReadable ·):Bool)=true:=by kernel_rfl
theorem zassemblyPlaces20:(Tryz.f4.resultTypes.all (fun t=>Tryz.prog.readableRec t&&decide (t<Tryz.prog.types.size)):Bool)=true:=by kernel_rfl
theorem zassemblyPlaces21:((Rows.assemblyPlacesRow.ifacesOut==Tryz.f4.resultTypes.toList.any (Tryz.prog.ifacesRec ·)):Bool)=true:=by kernel_rfl
theorem zassemblyPlaces22:((Rows.assemblyPlacesRow.loopsOut==Tryz.f4.resultTypes.toList.any (Tryz.prog.loopsFrom ·)):Bool)=true:=by kernel_rfl
theorem zassemblyPlaces23:((Rows.assemblyPlacesRow.plainKeys==Tryz.prog.plainKeys):Bool)=true:=by kernel_rfl
theorem zassemblyPlaces24:(Rows.assemblyPlacesRow.shortTexts.isNone:Bool)=true:=by kernel_rfl
theorem zassemblyPlaces25:(Tryz.prog.stopsHeard:Bool)=true:=by kernel_rfl
theorem zassemblyPlaces26:(Tryz.prog.mayEnter:Bool)=true:=by kernel_rfl
theorem zassemblyPlaces27:((Rows.assemblyPlacesRow.lifted==Tryz.prog.liftsFinal):Bool)=true:=by kernel_rfl
theorem zassemblyPlaces28:((Tryz.prog.make==some Rows.assemblyPlacesRow.make):Bool)=true:=by kernel_rfl
theorem zassemblyPlaces29:((Rows.assemblyPlacesRow.kinds==(if Rows.assemblyPlacesRow.domain.isEmpty then []else Tryz.f4.params.toList.map fun t=>match Tryz.prog.underlying t with|some (.int k)=>some k|_=>none)):Bool)=true:=by kernel_rfl
theorem zassemblyPlaces30:((Rows.assemblyPlacesRow.pinned==Rows.assemblyPlacesRow.pinnedBy):Bool)=true:=by kernel_rfl
theorem zassemblyPlaces31:((Rows.assemblyPlacesRow.veiled==(Tryz.f4.params.toList++Rows.assemblyPlacesSpec.plain.varTypes Tryz.prog++Tryz.f4.resultTypes.toList).any (Tryz.prog.veiledRec ·)):Bool)=true:=by kernel_rfl
theorem zassemblyPlaces32:(Rows.assemblyPlacesRow.veiledFits Tryz.prog Tryz.f4.params.toList (Tryz.f4.params.toList++Rows.assemblyPlacesSpec.plain.varTypes Tryz.prog++Tryz.f4.resultTypes.toList):Bool)=true:=by kernel_rfl
theorem zassemblyPlacesA {a b:Bool} (h:a=true) (k:b=true):(a&&b)=true:=by rw[h,k];rfl
theorem assemblyPlaces_closed:joinedFacts Tryz.prog 4 Tryz.f4 Rows.assemblyPlacesSpec Rows.assemblyPlacesRow=true:=by
 unfold joinedFacts
 exact zassemblyPlacesA (zassemblyPlacesA (zassemblyPlacesA (zassemblyPlacesA (zassemblyPlacesA (zassemblyPlacesA (zassemblyPlacesA (zassemblyPlacesA (zassemblyPlacesA (zassemblyPlacesA (zassemblyPlacesA (zassemblyPlacesA (zassemblyPlacesA (zassemblyPlacesA (zassemblyPlacesA (zassemblyPlacesA (zassemblyPlacesA (zassemblyPlacesA (zassemblyPlacesA (zassemblyPlacesA (zassemblyPlacesA (zassemblyPlacesA (zassemblyPlacesA (zassemblyPlacesA (zassemblyPlacesA (zassemblyPlacesA (zassemblyPlacesA (zassemblyPlacesA (zassemblyPlacesA (zassemblyPlacesA (zassemblyPlacesA zassemblyPlaces1 zassemblyPlaces2) zassemblyPlaces3) zassemblyPlaces4) zassemblyPlaces5) zassemblyPlaces6) zassemblyPlaces7) zassemblyPlaces8) zassemblyPlaces9) zassemblyPlaces10) zassemblyPlaces11) zassemblyPlaces12) zassemblyPlaces13) zassemblyPlaces14) zassemblyPlaces15) zassemblyPlaces16) zassemblyPlaces17) zassemblyPlaces18) zassemblyPlaces19) zassemblyPlaces20) zassemblyPlaces21) zassemblyPlaces22) zassemblyPlaces23) zassemblyPlaces24) zassemblyPlaces25) zassemblyPlaces26) zassemblyPlaces27) zassemblyPlaces28) zassemblyPlaces29) zassemblyPlaces30) zassemblyPlaces31) zassemblyPlaces32
end
end Go.Proofs.YtffbilcjhlncfaaGreatDoor
