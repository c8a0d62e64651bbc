/- texts: E0 E2 E3 E5 E7 OPF. -/
import Derived.ArgAppend
import Derived.BigQuiet
import Derived.ChangeKeysEq
import Derived.Deep.DeepAppendWide
import Derived.Deep.QuietTactic
import Derived.Deep.RegionHeld3
import Derived.Deep.Slices
import Derived.Deep.Strs
import Derived.JoinedOf
import Derived.KernelRfl
import Derived.LaidMore
import Derived.Laws.AppendOwnNone
import Derived.Laws.StructEq
import Derived.Lib.AppendIntMem
import Derived.Lib.AppendZerosOnto
import Derived.Lib.Hide
import Derived.Lib.ItoaLen
import Derived.Lib.LaidTab
import Derived.Lib.SliceRun
import Derived.Lib.SlicesCompact
import Derived.Lib.SmallJoins
import Derived.OpenShut
import Derived.ProofKit
import Derived.SevenTiedAt
import Derived.Shelf.Lays8
import Derived.Shelf.LaysM
import Derived.Shelf.Small.Bits
import Derived.Shelf.Spec.TrailingZeros
import Derived.Shelf.Strconv.Itoa0
import Derived.Shelf.Strconv.Itoa1
import Derived.Shelf.Strconv.Itoa2
import Derived.Shelf.Strconv.Itoa3
import Derived.Shelf.Strings.Builder1
import Derived.Shelf.Strings.Builder2
import Derived.Shelf.Strings.Builder2Cap
import Derived.Shelf.Strings.BuilderCap
import Derived.Shelf.Strings.BuilderF
import Derived.Shelf.Strings.BuilderK
import Derived.Shelf.Strings.OnBuilder
import Derived.Sort.Grow
import Derived.StillTail
import Derived.Stop.Joined
import Derived.Stop.LaidErr
import Derived.WalkKit
import Derived.WalkLawsBesides
import Derived.WalkSpells
import Derived.Test.YtoidbolmlckhnaaGreatDoorProg
import Derived.Test.YtoidbolmlckhnaaGreatDoorRows
import Derived.Test.YtoidbolmlckhnaaGreatDoorSort
import Derived.Test.YtoidbolmlckhnaaGreatDoorTie
import Derived.Test.YtoidbolmlckhnaaGreatDoorSES1
import Derived.Test.YtoidbolmlckhnaaGreatDoorSES6
import Derived.Test.YtoidbolmlckhnaaGreatDoorSES7
import Derived.Test.YtoidbolmlckhnaaGreatDoorSES9
import Derived.Test.YtoidbolmlckhnaaGreatDoorSES10
import Derived.Test.YtoidbolmlckhnaaGreatDoorSES15
import Derived.Test.YtoidbolmlckhnaaGreatDoorSES18
import Derived.Test.YtoidbolmlckhnaaGreatDoorSES21
import Derived.Test.YtoidbolmlckhnaaGreatDoorSES24
import Derived.Test.YtoidbolmlckhnaaGreatDoorSES25
import Derived.Test.YtoidbolmlckhnaaGreatDoorSES26
import Derived.Test.YtoidbolmlckhnaaGreatDoorSES34
import Derived.Test.YtoidbolmlckhnaaGreatDoorSES35
import Derived.Test.YtoidbolmlckhnaaGreatDoorOQS2
namespace Go.Proofs.YtoidbolmlckhnaaGreatDoor
set_option maxHeartbeats 8000000
set_option linter.unusedSimpArgs false
set_option linter.unusedVariables false
section
open Go.ChangeShapes Go.WideShapes Go.ChangeAt Go.WideMaps Go.WideElems Go.RowKit
set_option maxRecDepth 100000
theorem own:ownKnob Tryz.prog.godebug=none:=by kernel_rfl
def laid3:List (String×DataW Unit):=[("math/bits.deBruijn32tab",Rows.laid_math_bits_deBruijn32tab),("math/bits.deBruijn64tab",Rows.laid_math_bits_deBruijn64tab),("internal/strconv.uint64pow10",Rows.laid_internal_strconv_uint64pow10)]
theorem door_met (os:Os) (args:Array Value):laidMetH Tryz.prog laid3 ((World.doorLaid Tryz.prog 400 os).forCall (fun _ _=>0) ⟨#[],args,[]⟩).memory:=
 laidMetH_of_parts3 (fuel:=8) (laidMet_of_run' 8 (by kernel_rfl) (by kernel_rfl)) (by kernel_rfl) (by kernel_rfl)
theorem und_bool:Tryz.prog.underlying 4=some .bool:=by kernel_rfl
theorem tab_of_laid {W:World} (h:laidMetH Tryz.prog laid3 W):Lib.TabIs Tryz.prog W "internal/strconv.uint64pow10" .u64 Lib.pow10Tab:=by
 rw[MakeChecks.laidMetH_plain _ _ _ (by kernel_rfl)]at h
 exact Lib.tabIs_of_head (rest:=[]) (g:=2) (t:=261) (e:=209) (n:=20) (by kernel_rfl) (by kernel_rfl) (by kernel_rfl) (by kernel_rfl) (by kernel_rfl) (by kernel_rfl) h.tail.tail
theorem post_law {H:Type} {enc:TypeId×Value→H} {f:Func} {s:ChangeSpec} {W W':World} {args:Array Value} {ds:List (DataW H)} {before:List MemPlace}
  (hW:DataW.Whole enc Tryz.prog f.params.toList s.vars false W args.toList ds [] before) (hv:s.vars=[]) (hb:Below W.heap.size W W') (hr:f.resultTypes=#[4])
  (hfn:s.fn H (ds++[])={results:=[.lit (.bool true)],args:=ds})
  (hargs:DataW.TrodAll enc Tryz.prog W' 0 (fun b=>decide (b<W.heap.size)) true f.params.toList args.toList ds before):
  s.post enc Tryz.prog f false true false false W args (.bool true) W':=by
 refine⟨ds,[],before,[],before,[],hW, ?_,by rw[hfn];exact hargs,by rw[hv,hfn];first|rfl|trivial|exact⟨rfl,rfl⟩,hb.frame _,fun h=>by cases h⟩
 rw[hfn,hr]
 exact trodAll_mk1 (shut_bool und_bool _)
end
section
open Go.ChangeShapes Go.WideShapes Go.ChangeAt Go.WideMaps Go.WideElems Go.RowKit
theorem laidOut:laidOutB Tryz.prog=true:=by kernel_rfl
def wf3 (a b c:Int):Prop:=(Lit.int .i64 a).wf=true∧(Lit.int .i64 b).wf=true∧(Lit.int .i64 c).wf=true
end
section
open Go.ChangeShapes Go.WideShapes Go.ChangeAt Go.WideMaps Go.WideElems Go.RowKit
set_option maxRecDepth 100000
theorem cells_way:Tryz.prog.cellsOf 26=3:=by kernel_rfl
theorem open_way {H:Type} {enc:TypeId×Value→H} {W:World} {base:Nat} {v:Value} {d:DataW H} {p:List MemPlace}
  (hv:Value.okWide Tryz.prog W .any base 26 v) (h:DataW.Trod enc Tryz.prog W 0 (fun _=>true) true 26 v d p):∃a b c,v= .agg #[.int .i64 a, .int .i64 b, .int .i64 c]∧wf3 a b c:=by
 obtain⟨cs,rfl,hsz⟩:=okWide_struct Tryz.underlying26 hv
 obtain⟨c0,c1,c2,rfl⟩:=Go.Joins.array3 (hsz.trans cells_way)
 obtain⟨fuel,hf⟩:=h
 obtain⟨y0,y1,y2,m,hx,_,h0,h1,h2⟩:=Deep.trod_struct3 Tryz.underlying26 hf
 simp[Value.cells,fx]at h0 h1 h2
 obtain⟨a0,ha0,_,w0⟩:=DataW.trod_int eJ h0
 obtain⟨a1,ha1,_,w1⟩:=DataW.trod_int eJ h1
 obtain⟨a2,ha2,_,w2⟩:=DataW.trod_int eJ h2
 simp only[List.cons.injEq,and_true]at ha0 ha1 ha2
 subst ha0 ha1 ha2
 exact⟨a0,a1,a2,rfl,w0,w1,w2⟩
end
section
open Go.ChangeShapes Go.WideShapes Go.ChangeAt Go.WideMaps Go.WideElems Go.RowKit
set_option maxRecDepth 100000
theorem und_planesE:Tryz.prog.underlying 87=some (.slice 99):=by kernel_rfl
theorem und_cellsE:Tryz.prog.underlying 22=some (.slice 89):=by kernel_rfl
theorem cells_planeE:Tryz.prog.cellsOf 99=4:=by kernel_rfl
theorem cells_planesE:Tryz.prog.cellsOf 87=1:=by kernel_rfl
theorem cells_cellE:Tryz.prog.cellsOf 89=1:=by kernel_rfl
theorem cells_cellsE:Tryz.prog.cellsOf 22=1:=by kernel_rfl
theorem cells_solidE:Tryz.prog.cellsOf 24=1:=by kernel_rfl
theorem addOE (b off j:Nat):(⟨b,off,none⟩:Addr).add j=⟨b,off+j,none⟩:=by
 unfold Addr.add
 by_cases h:j=0<;>simp[h]
theorem trod_plane {H:Type} {enc:TypeId×Value→H} {W:World} {fuel:Nat} {c0 c1 c2 c3:Value} {y:DataW H×List MemPlace} (h:DataW.trod enc Tryz.prog W 0 (fun _=>true) true fuel 99 [c0,c1,c2,c3]=some y):
  ∃p:Q4,c0= .int .i64 p.1∧c1= .int .i64 p.2.1∧c2= .int .i64 p.2.2.1∧c3= .int .i64 p.2.2.2:=by
 obtain⟨y0,y1,y2,y3,m,hx,_,h0,h1,h2,h3⟩:=Go.Joins.trod_struct4 Tryz.underlying99 h
 simp[fx]at h0 h1 h2 h3
 obtain⟨a0,ha0,_,w0⟩:=DataW.trod_int eJ h0
 obtain⟨a1,ha1,_,w1⟩:=DataW.trod_int eJ h1
 obtain⟨a2,ha2,_,w2⟩:=DataW.trod_int eJ h2
 obtain⟨a3,ha3,_,w3⟩:=DataW.trod_int eJ h3
 simp only[List.cons.injEq,and_true]at ha0 ha1 ha2 ha3
 exact⟨(a0,a1,a2,a3),ha0,ha1,ha2,ha3⟩
theorem open_planesV {H:Type} {enc:TypeId×Value→H} {W:World} {fuel:Nat} {v:Value} {y:DataW H×List MemPlace} (h:DataW.trod enc Tryz.prog W 0 (fun _=>true) true fuel 87 [v]=some y):
  ∃ps:List Q4,Q4s W v ps∧ps.length≤maxLen:=by
 rcases Deep.open_slice und_planesE h with⟨hcs,hx⟩|⟨a,len,cap,m,n,D,Pl,hcs,_,hl,hm,hmm,hx,hel⟩
 ·simp only[List.cons.injEq,and_true]at hcs
  subst hcs
  exact⟨[],⟨none,0,0,rfl,rfl,Nat.le_refl _,fun h=>absurd h (by omega)⟩,by simp⟩
 ·simp only[List.cons.injEq,and_true]at hcs
  subst hcs
  simp only[if_true]at hmm
  rw[cells_planeE]at hel
  obtain⟨F,hF⟩:=Deep.choose_lt (α:=Q4) (n:=len) (p:=fun i q=>W.cell? (a.add (i*4))=some (.int .i64 q.1)∧W.cell? (a.add (i*4+1))=some (.int .i64 q.2.1)∧W.cell? (a.add (i*4+2))=some (.int .i64 q.2.2.1)∧W.cell? (a.add (i*4+3))=some (.int .i64 q.2.2.2)) (fun i hi=>by
   obtain⟨cs',k1,k2⟩:=hel i (by omega)
   obtain⟨_,hlen,hc⟩:=World.cells?_some k1
   match cs',hlen,k2,hc with
   | [c0,c1,c2,c3],_,k2,hc=>
    obtain⟨p,rfl,rfl,rfl,rfl⟩:=trod_plane k2
    have e0:=hc 0 (by omega)
    have e1:=hc 1 (by omega)
    have e2:=hc 2 (by omega)
    have e3:=hc 3 (by omega)
    rw[Deep.add_add]at e0 e1 e2 e3
    exact⟨p,e0,e1,e2,e3⟩)
  refine⟨(List.range len).map F,⟨some a,len,cap,rfl,by simp,hl,fun h0=> ?_⟩,by simp;omega⟩
  obtain⟨b,off,spot⟩:=a
  have hspot:spot=none:=by simpa [Addr.add]using World.cell?_spot (hF 0 h0).1
  subst hspot
  refine⟨b,off,rfl,fun i hi=> ?_⟩
  obtain⟨e0,e1,e2,e3⟩:=hF i (by simpa using hi)
  rw[addOE]at e0 e1 e2 e3
  simp only[List.getElem_map,List.getElem_range]
  exact⟨e0,e1,e2,e3⟩
theorem open_each {H:Type} {enc:TypeId×Value→H} {W:World} {fuel:Nat} {v:Value} {y:DataW H×List MemPlace} {t e:TypeId} {α:Type} [Inhabited α] (E:World→Value→α→Prop) (Q:α→Prop) (ht:Tryz.prog.underlying t=some (.slice e)) (hc:Tryz.prog.cellsOf e=1)
  (hE:∀n u z,DataW.trod enc Tryz.prog W 0 (fun _=>true) true n e [u]=some z→∃c,E W u c∧Q c) (h:DataW.trod enc Tryz.prog W 0 (fun _=>true) true fuel t [v]=some y):
  ∃cs:List α,Each W v E cs∧cs.length≤maxLen∧∀c∈cs,Q c:=by
 rcases Deep.open_slice1 ht hc h with⟨hcs,hx⟩|⟨a,len,cap,m,n,V,D,Pl,hcs,_,hl,hm,hmm,hx,hel⟩
 ·simp only[List.cons.injEq,and_true]at hcs
  subst hcs
  exact⟨[],⟨none,0,0,rfl,rfl,Nat.le_refl _,fun h=>absurd h (by omega)⟩,by simp,fun _ h=>by cases h⟩
 ·simp only[List.cons.injEq,and_true]at hcs
  subst hcs
  simp only[if_true]at hmm
  obtain⟨F,hF⟩:=Deep.choose_lt (α:=α) (n:=len) (p:=fun i q=>W.cell? (a.add i)=some (V i)∧E W (V i) q∧Q q) (fun i hi=>by
   obtain⟨k1,k2⟩:=hel i (by omega)
   obtain⟨c,k3,k4⟩:=hE _ _ _ k2
   exact⟨c,k1,k3,k4⟩)
  refine⟨(List.range len).map F,⟨some a,len,cap,rfl,by simp,hl,fun h0=> ?_⟩,by simp;omega,fun c hc=> ?_⟩
  ·obtain⟨b,off,spot⟩:=a
   have hspot:spot=none:=by simpa [Addr.add]using World.cell?_spot (hF 0 h0).1
   subst hspot
   refine⟨b,off,rfl,fun i hi=> ?_⟩
   obtain⟨e0,e1,e2⟩:=hF i (by simpa using hi)
   rw[addOE]at e0
   simp only[List.getElem_map,List.getElem_range]
   exact⟨V i,e0,e1⟩
  ·obtain⟨i,hi,rfl⟩:=List.mem_map.1 hc
   exact(hF i (by simpa using hi)).2.2
def LenS (css:List (List Q4)):Prop:=css.length≤maxLen∧∀c∈css,c.length≤maxLen
theorem open_solidV {H:Type} {enc:TypeId×Value→H} {W:World} {fuel:Nat} {v:Value} {y:DataW H×List MemPlace} (h:DataW.trod enc Tryz.prog W 0 (fun _=>true) true fuel 22 [v]=some y):
  ∃css,SolV W v css∧LenS css:=by
 obtain⟨css,h1,h2,h3⟩:=open_each (α:=List Q4) Q4s (fun c=>c.length≤maxLen) und_cellsE cells_cellE (fun n u z hz=>by
  obtain⟨y0,m,hx,_,h0⟩:=trod_struct1 Tryz.underlying89 hz
  simp[cells_planesE]at h0
  exact open_planesV h0) h
 exact⟨css,h1,h2,h3⟩
theorem open_solid {H:Type} {enc:TypeId×Value→H} {W:World} {base:Nat} {v:Value} {d:DataW H} {p:List MemPlace}
  (hv:Value.okWide Tryz.prog W .any base 24 v) (h:DataW.Trod enc Tryz.prog W 0 (fun _=>true) true 24 v d p):∃sv css,v= .agg #[sv]∧SolV W sv css∧LenS css:=by
 obtain⟨cs,rfl,hsz⟩:=okWide_struct Tryz.underlying24 hv
 obtain⟨c0,rfl⟩:∃c0,cs=#[c0]:=by
  rw[cells_solidE]at hsz
  obtain⟨l⟩:=cs
  match l,hsz with
  | [c0],_=>exact⟨c0,rfl⟩
 obtain⟨fuel,hf⟩:=h
 obtain⟨y0,m,hx,_,h0⟩:=trod_struct1 Tryz.underlying24 hf
 simp[Value.cells,cells_cellsE]at h0
 obtain⟨css,h1,h2⟩:=open_solidV h0
 exact⟨c0,css,rfl,h1,h2⟩
end
section
open Go.ChangeShapes Go.WideShapes Go.ChangeAt Go.WideMaps Go.WideElems Go.RowKit
theorem tabs_laid {W:World} (h:laidMetH Tryz.prog laid3 W):Lib.TabIs Tryz.prog W "internal/strconv.uint64pow10" .u64 Lib.pow10Tab∧TabAt 1 Lib.deBruijn64tab W:=by
 refine⟨tab_of_laid h, ?_⟩
 rw[MakeChecks.laidMetH_plain _ _ _ (by kernel_rfl)]at h
 have h2:Lib.TabIs Tryz.prog W "math/bits.deBruijn64tab" .u8 (Lib.deBruijn64tab.map fun n:Nat=>(n:Int)):=Lib.tabIs_of_head (rest:=[("internal/strconv.uint64pow10",Rows.laid_internal_strconv_uint64pow10)]) (g:=1) (t:=240) (e:=5) (n:=64) (by kernel_rfl) (by kernel_rfl) (by kernel_rfl) (by kernel_rfl) (by kernel_rfl) (by kernel_rfl) h.tail
 intro j hj
 have h3:=h2.cell (g:=1) (by kernel_rfl) j (by simpa using hj)
 rw[h3]
 simp[List.getD,hj]
end
section
open Go
set_option maxRecDepth 100000
theorem zassemblyOpposite1:(Rows.assemblyOppositeRow.wf (OpenSpec.ofChange Rows.assemblyOppositeSpec):Bool)=true:=by kernel_rfl
theorem zassemblyOpposite2:(laidOutB Tryz.prog:Bool)=true:=by kernel_rfl
theorem zassemblyOpposite3:(mapsRowed Tryz.prog:Bool)=true:=by kernel_rfl
theorem zassemblyOpposite4:(Tryz.f3.params.all (Tryz.prog.readableRec ·):Bool)=true:=by kernel_rfl
theorem zassemblyOpposite5:(namedTie Tryz.prog Rows.assemblyOppositeRow.named Rows.assemblyOppositeSpec.vars:Bool)=true:=by kernel_rfl
theorem zassemblyOpposite6:((Rows.assemblyOppositeRow.stops==[]):Bool)=true:=by kernel_rfl
theorem zassemblyOpposite7:((Tryz.prog.stops==[]):Bool)=true:=by kernel_rfl
theorem zassemblyOpposite8:((Rows.assemblyOppositeRow.knobs==[]):Bool)=true:=by kernel_rfl
theorem zassemblyOpposite9:((Tryz.prog.stopKnobs==[]):Bool)=true:=by kernel_rfl
theorem zassemblyOpposite10:((Rows.assemblyOppositeRow.inPlace==Tryz.prog.inPlace 3):Bool)=true:=by kernel_rfl
theorem zassemblyOpposite11:((Rows.assemblyOppositeRow.unfollowed==Tryz.prog.unfollowed 3):Bool)=true:=by kernel_rfl
theorem zassemblyOpposite12:((Rows.assemblyOppositeRow.recurses==Tryz.prog.recurses 3):Bool)=true:=by kernel_rfl
theorem zassemblyOpposite13:((Rows.assemblyOppositeRow.named==Tryz.prog.varsNamed 3):Bool)=true:=by kernel_rfl
theorem zassemblyOpposite14:((Rows.assemblyOppositeRow.maps==(Tryz.f3.params.toList++Rows.assemblyOppositeSpec.plain.varTypes Tryz.prog).any (Tryz.prog.mapsRec ·)):Bool)=true:=by kernel_rfl
theorem zassemblyOpposite15:((Rows.assemblyOppositeRow.ifaces==(Tryz.f3.params.toList++Rows.assemblyOppositeSpec.plain.varTypes Tryz.prog).any (Tryz.prog.ifacesRec ·)):Bool)=true:=by kernel_rfl
theorem zassemblyOpposite16:((Rows.assemblyOppositeRow.mapsOut==Tryz.prog.mapsAmong Tryz.f3.resultTypes.toList):Bool)=true:=by kernel_rfl
theorem zassemblyOpposite17:((Rows.assemblyOppositeRow.loops==(Tryz.f3.params.toList++Rows.assemblyOppositeSpec.plain.varTypes Tryz.prog).any (Tryz.prog.loopsFrom ·)):Bool)=true:=by kernel_rfl
theorem zassemblyOpposite18:((Rows.assemblyOppositeRow.wideKeys==(Tryz.f3.params.toList++Rows.assemblyOppositeSpec.plain.varTypes Tryz.prog++Tryz.f3.resultTypes.toList).any (Tryz.prog.wideKeysFrom ·)):Bool)=true:=by kernel_rfl
theorem zassemblyOpposite19:(Rows.assemblyOppositeSpec.vars.all (Tryz.prog.varReadable ·):Bool)=true:=by kernel_rfl
theorem zassemblyOpposite20:(Tryz.f3.resultTypes.all (fun t=>Tryz.prog.readableRec t&&decide (t<Tryz.prog.types.size)):Bool)=true:=by kernel_rfl
theorem zassemblyOpposite21:((Rows.assemblyOppositeRow.ifacesOut==Tryz.f3.resultTypes.toList.any (Tryz.prog.ifacesRec ·)):Bool)=true:=by kernel_rfl
theorem zassemblyOpposite22:((Rows.assemblyOppositeRow.loopsOut==Tryz.f3.resultTypes.toList.any (Tryz.prog.loopsFrom ·)):Bool)=true:=by kernel_rfl
theorem zassemblyOpposite23:((Rows.assemblyOppositeRow.plainKeys==Tryz.prog.plainKeys):Bool)=true:=by kernel_rfl
theorem zassemblyOpposite24:(Rows.assemblyOppositeRow.shortTexts.isNone:Bool)=true:=by kernel_rfl
theorem zassemblyOpposite25:(Tryz.prog.stopsHeard:Bool)=true:=by kernel_rfl
theorem zassemblyOpposite26:(Tryz.prog.mayEnter:Bool)=true:=by kernel_rfl
theorem zassemblyOpposite27:((Rows.assemblyOppositeRow.lifted==Tryz.prog.liftsFinal):Bool)=true:=by kernel_rfl
theorem zassemblyOpposite28:((Tryz.prog.make==some Rows.assemblyOppositeRow.make):Bool)=true:=by kernel_rfl
theorem zassemblyOpposite29:((Rows.assemblyOppositeRow.kinds==(if Rows.assemblyOppositeRow.domain.isEmpty then []else Tryz.f3.params.toList.map fun t=>match Tryz.prog.underlying t with|some (.int k)=>some k|_=>none)):Bool)=true:=by kernel_rfl
theorem zassemblyOpposite30:((Rows.assemblyOppositeRow.pinned==Rows.assemblyOppositeRow.pinnedBy):Bool)=true:=by kernel_rfl
theorem zassemblyOpposite31:((Rows.assemblyOppositeRow.veiled==(Tryz.f3.params.toList++Rows.assemblyOppositeSpec.plain.varTypes Tryz.prog++Tryz.f3.resultTypes.toList).any (Tryz.prog.veiledRec ·)):Bool)=true:=by kernel_rfl
theorem zassemblyOpposite32:(Rows.assemblyOppositeRow.veiledFits Tryz.prog Tryz.f3.params.toList (Tryz.f3.params.toList++Rows.assemblyOppositeSpec.plain.varTypes Tryz.prog++Tryz.f3.resultTypes.toList):Bool)=true:=by kernel_rfl
theorem zassemblyOppositeA {a b:Bool} (h:a=true) (k:b=true):(a&&b)=true:=by rw[h,k];rfl
theorem assemblyOpposite_closed:joinedFacts Tryz.prog 3 Tryz.f3 Rows.assemblyOppositeSpec Rows.assemblyOppositeRow=true:=by
 unfold joinedFacts
 exact zassemblyOppositeA (zassemblyOppositeA (zassemblyOppositeA (zassemblyOppositeA (zassemblyOppositeA (zassemblyOppositeA (zassemblyOppositeA (zassemblyOppositeA (zassemblyOppositeA (zassemblyOppositeA (zassemblyOppositeA (zassemblyOppositeA (zassemblyOppositeA (zassemblyOppositeA (zassemblyOppositeA (zassemblyOppositeA (zassemblyOppositeA (zassemblyOppositeA (zassemblyOppositeA (zassemblyOppositeA (zassemblyOppositeA (zassemblyOppositeA (zassemblyOppositeA (zassemblyOppositeA (zassemblyOppositeA (zassemblyOppositeA (zassemblyOppositeA (zassemblyOppositeA (zassemblyOppositeA (zassemblyOppositeA (zassemblyOppositeA zassemblyOpposite1 zassemblyOpposite2) zassemblyOpposite3) zassemblyOpposite4) zassemblyOpposite5) zassemblyOpposite6) zassemblyOpposite7) zassemblyOpposite8) zassemblyOpposite9) zassemblyOpposite10) zassemblyOpposite11) zassemblyOpposite12) zassemblyOpposite13) zassemblyOpposite14) zassemblyOpposite15) zassemblyOpposite16) zassemblyOpposite17) zassemblyOpposite18) zassemblyOpposite19) zassemblyOpposite20) zassemblyOpposite21) zassemblyOpposite22) zassemblyOpposite23) zassemblyOpposite24) zassemblyOpposite25) zassemblyOpposite26) zassemblyOpposite27) zassemblyOpposite28) zassemblyOpposite29) zassemblyOpposite30) zassemblyOpposite31) zassemblyOpposite32
end
end Go.Proofs.YtoidbolmlckhnaaGreatDoor
