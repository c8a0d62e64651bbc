/- texts: E0 E2 E5 E6 E7 FRF. -/
import Derived.ArgAppend
import Derived.BigQuiet
import Derived.ChangeKeysEq
import Derived.Deep.AppendLies
import Derived.Deep.DeepAppendWide
import Derived.Deep.DeepCutAuto
import Derived.Deep.QuietTactic
import Derived.Deep.RegionHeld3
import Derived.Deep.RegionHeldLaw
import Derived.Deep.Slices
import Derived.Deep.Strs
import Derived.Ground.Names2Prog
import Derived.Ground.SlgnProg
import Derived.JoinedOf
import Derived.KernelRfl
import Derived.LaidMore
import Derived.Laws.AppendOwnNone
import Derived.Laws.StructEq
import Derived.Lib.AppendIntMem
import Derived.Lib.AppendZerosOnto
import Derived.Lib.Hide
import Derived.Lib.ItoaLen
import Derived.Lib.LaidTab
import Derived.Lib.SliceRun
import Derived.Lib.SlicesCompact
import Derived.Lib.SmallJoins
import Derived.OpenShut
import Derived.ProofKit
import Derived.SevenTiedAt
import Derived.Shelf.Lays8
import Derived.Shelf.LaysM
import Derived.Shelf.Slices.Clone
import Derived.Shelf.SlicesE.Clone
import Derived.Shelf.Small.Bits
import Derived.Shelf.Spec.TrailingZeros
import Derived.Shelf.Strconv.Itoa0
import Derived.Shelf.Strconv.Itoa1
import Derived.Shelf.Strconv.Itoa2
import Derived.Shelf.Strconv.Itoa3
import Derived.Shelf.Strings.Builder1
import Derived.Shelf.Strings.Builder2
import Derived.Shelf.Strings.OnBuilder
import Derived.Sort.Grow
import Derived.StillTail
import Derived.Stop.Joined
import Derived.Stop.LaidErr
import Derived.WalkKit
import Derived.WalkLawsBesides
import Derived.WalkSpells
import Derived.Test.YtnpmkepfpekhfaaGreatDoorProg
import Derived.Test.YtnpmkepfpekhfaaGreatDoorRows
import Derived.Test.YtnpmkepfpekhfaaGreatDoorSort
import Derived.Test.YtnpmkepfpekhfaaGreatDoorTie
import Derived.Test.YtnpmkepfpekhfaaGreatDoorGGS1
import Derived.Test.YtnpmkepfpekhfaaGreatDoorGGS6
import Derived.Test.YtnpmkepfpekhfaaGreatDoorGGS7
import Derived.Test.YtnpmkepfpekhfaaGreatDoorGGS9
import Derived.Test.YtnpmkepfpekhfaaGreatDoorGGS15
import Derived.Test.YtnpmkepfpekhfaaGreatDoorGGS18
import Derived.Test.YtnpmkepfpekhfaaGreatDoorGGS21
import Derived.Test.YtnpmkepfpekhfaaGreatDoorGGS24
import Derived.Test.YtnpmkepfpekhfaaGreatDoorGGS25
import Derived.Test.YtnpmkepfpekhfaaGreatDoorGGS26
import Derived.Test.YtnpmkepfpekhfaaGreatDoorGGS32
import Derived.Test.YtnpmkepfpekhfaaGreatDoorFQS2
namespace Go.Proofs.YtnpmkepfpekhfaaGreatDoor
set_option maxHeartbeats 8000000
set_option linter.all false
section
open Go.ChangeShapes Go.WideShapes Go.ChangeAt Go.WideMaps Go.WideElems Go.RowKit
set_option maxRecDepth 100000
theorem own:ownKnob Tryz.prog.godebug=none:=by kernel_rfl
def laid3:List (String×DataW Unit):=[("math/bits.deBruijn32tab",Rows.laid_math_bits_deBruijn32tab),("math/bits.deBruijn64tab",Rows.laid_math_bits_deBruijn64tab),("internal/strconv.uint64pow10",Rows.laid_internal_strconv_uint64pow10)]
theorem door_met (os:Os) (args:Array Value):laidMetH Tryz.prog laid3 ((World.doorLaid Tryz.prog 400 os).forCall (fun _ _=>0) ⟨#[],args,[]⟩).memory:=
 laidMetH_of_parts3 (fuel:=8) (laidMet_of_run' 8 (by kernel_rfl) (by kernel_rfl)) (by kernel_rfl) (by kernel_rfl)
theorem und_bool:Tryz.prog.underlying 4=some .bool:=by kernel_rfl
theorem tab_of_laid {W:World} (h:laidMetH Tryz.prog laid3 W):Lib.TabIs Tryz.prog W "internal/strconv.uint64pow10" .u64 Lib.pow10Tab:=by
 rw[MakeChecks.laidMetH_plain _ _ _ (by kernel_rfl)]at h
 exact Lib.tabIs_of_head (rest:=[]) (g:=2) (t:=297) (e:=210) (n:=20) (by kernel_rfl) (by kernel_rfl) (by kernel_rfl) (by kernel_rfl) (by kernel_rfl) (by kernel_rfl) h.tail.tail
theorem post_law {H:Type} {enc:TypeId×Value→H} {f:Func} {s:ChangeSpec} {W W':World} {args:Array Value} {ds:List (DataW H)} {before:List MemPlace}
  (hW:DataW.Whole enc Tryz.prog f.params.toList s.vars false W args.toList ds [] before) (hv:s.vars=[]) (hb:Below W.heap.size W W') (hr:f.resultTypes=#[4])
  (hfn:s.fn H (ds++[])={results:=[.lit (.bool true)],args:=ds})
  (hargs:DataW.TrodAll enc Tryz.prog W' 0 (fun b=>decide (b<W.heap.size)) true f.params.toList args.toList ds before):
  s.post enc Tryz.prog f false true false false W args (.bool true) W':=by
 refine⟨ds,[],before,[],before,[],hW, ?_,by rw[hfn];exact hargs,by rw[hv,hfn];first|rfl|trivial|exact⟨rfl,rfl⟩,hb.frame _,fun h=>by cases h⟩
 rw[hfn,hr]
 exact trodAll_mk1 (shut_bool und_bool _)
end
section
open Go.ChangeShapes Go.WideShapes Go.ChangeAt Go.WideMaps Go.WideElems Go.RowKit
theorem laidOut:laidOutB Tryz.prog=true:=by kernel_rfl
end
section
open Go.ChangeShapes Go.WideShapes Go.ChangeAt Go.WideMaps Go.WideElems Go.RowKit
set_option maxRecDepth 100000
theorem und_planesE:Tryz.prog.underlying 165=some (.slice 196):=by kernel_rfl
theorem und_cellsE:Tryz.prog.underlying 79=some (.slice 167):=by kernel_rfl
theorem cells_planeE:Tryz.prog.cellsOf 196=4:=by kernel_rfl
theorem cells_planesE:Tryz.prog.cellsOf 165=1:=by kernel_rfl
theorem cells_cellE:Tryz.prog.cellsOf 167=1:=by kernel_rfl
theorem cells_cellsE:Tryz.prog.cellsOf 79=1:=by kernel_rfl
theorem cells_solidE:Tryz.prog.cellsOf 81=1:=by kernel_rfl
theorem addOE (b off j:Nat):(⟨b,off,none⟩:Addr).add j=⟨b,off+j,none⟩:=by
 unfold Addr.add
 by_cases h:j=0<;>simp[h]
theorem trod_plane {H:Type} {enc:TypeId×Value→H} {W:World} {fuel:Nat} {c0 c1 c2 c3:Value} {y:DataW H×List MemPlace} (h:DataW.trod enc Tryz.prog W 0 (fun _=>true) true fuel 196 [c0,c1,c2,c3]=some y):
  ∃p:Q4,c0= .int .i64 p.1∧c1= .int .i64 p.2.1∧c2= .int .i64 p.2.2.1∧c3= .int .i64 p.2.2.2:=by
 obtain⟨y0,y1,y2,y3,m,hx,_,h0,h1,h2,h3⟩:=Go.Joins.trod_struct4 Tryz.underlying196 h
 simp[fx]at h0 h1 h2 h3
 obtain⟨a0,ha0,_,w0⟩:=DataW.trod_int eJ h0
 obtain⟨a1,ha1,_,w1⟩:=DataW.trod_int eJ h1
 obtain⟨a2,ha2,_,w2⟩:=DataW.trod_int eJ h2
 obtain⟨a3,ha3,_,w3⟩:=DataW.trod_int eJ h3
 simp only[List.cons.injEq,and_true]at ha0 ha1 ha2 ha3
 exact⟨(a0,a1,a2,a3),ha0,ha1,ha2,ha3⟩
theorem open_planesV {H:Type} {enc:TypeId×Value→H} {W:World} {fuel:Nat} {v:Value} {y:DataW H×List MemPlace} (h:DataW.trod enc Tryz.prog W 0 (fun _=>true) true fuel 165 [v]=some y):
  ∃ps:List Q4,Q4s W v ps∧ps.length≤maxLen:=by
 rcases Deep.open_slice und_planesE h with⟨hcs,hx⟩|⟨a,len,cap,m,n,D,Pl,hcs,_,hl,hm,hmm,hx,hel⟩
 ·simp only[List.cons.injEq,and_true]at hcs
  subst hcs
  exact⟨[],⟨none,0,0,rfl,rfl,qaA _,fun h=>absurd h (by omega)⟩,by simp⟩
 ·simp only[List.cons.injEq,and_true]at hcs
  subst hcs
  simp only[if_true]at hmm
  rw[cells_planeE]at hel
  obtain⟨F,hF⟩:=Deep.choose_lt (α:=Q4) (n:=len) (p:=fun i q=>W.cell? (a.add (i*4))=some (.int .i64 q.1)∧W.cell? (a.add (i*4+1))=some (.int .i64 q.2.1)∧W.cell? (a.add (i*4+2))=some (.int .i64 q.2.2.1)∧W.cell? (a.add (i*4+3))=some (.int .i64 q.2.2.2)) (fun i hi=>by
   obtain⟨cs',k1,k2⟩:=hel i (by omega)
   obtain⟨_,hlen,hc⟩:=World.cells?_some k1
   match cs',hlen,k2,hc with
   | [c0,c1,c2,c3],_,k2,hc=>
    obtain⟨p,rfl,rfl,rfl,rfl⟩:=trod_plane k2
    have e0:=hc 0 (by omega)
    have e1:=hc 1 (by omega)
    have e2:=hc 2 (by omega)
    have e3:=hc 3 (by omega)
    rw[Deep.add_add]at e0 e1 e2 e3
    exact⟨p,e0,e1,e2,e3⟩)
  refine⟨(List.range len).map F,⟨some a,len,cap,rfl,by simp,hl,fun h0=> ?_⟩,by simp;omega⟩
  obtain⟨b,off,spot⟩:=a
  have hspot:spot=none:=by simpa [Addr.add]using World.cell?_spot (hF 0 h0).1
  subst hspot
  refine⟨b,off,rfl,fun i hi=> ?_⟩
  obtain⟨e0,e1,e2,e3⟩:=hF i (by simpa using hi)
  rw[addOE]at e0 e1 e2 e3
  simp only[List.getElem_map,List.getElem_range]
  exact⟨e0,e1,e2,e3⟩
theorem open_each {H:Type} {enc:TypeId×Value→H} {W:World} {fuel:Nat} {v:Value} {y:DataW H×List MemPlace} {t e:TypeId} {α:Type} [Inhabited α] (E:World→Value→α→Prop) (Q:α→Prop) (ht:Tryz.prog.underlying t=some (.slice e)) (hc:Tryz.prog.cellsOf e=1)
  (hE:∀n u z,DataW.trod enc Tryz.prog W 0 (fun _=>true) true n e [u]=some z→∃c,E W u c∧Q c) (h:DataW.trod enc Tryz.prog W 0 (fun _=>true) true fuel t [v]=some y):
  ∃cs:List α,Each W v E cs∧cs.length≤maxLen∧∀c∈cs,Q c:=by
 rcases Deep.open_slice1 ht hc h with⟨hcs,hx⟩|⟨a,len,cap,m,n,V,D,Pl,hcs,_,hl,hm,hmm,hx,hel⟩
 ·simp only[List.cons.injEq,and_true]at hcs
  subst hcs
  exact⟨[],⟨none,0,0,rfl,rfl,qaA _,fun h=>absurd h (by omega)⟩,by simp,fun _ h=>by cases h⟩
 ·simp only[List.cons.injEq,and_true]at hcs
  subst hcs
  simp only[if_true]at hmm
  obtain⟨F,hF⟩:=Deep.choose_lt (α:=α) (n:=len) (p:=fun i q=>W.cell? (a.add i)=some (V i)∧E W (V i) q∧Q q) (fun i hi=>by
   obtain⟨k1,k2⟩:=hel i (by omega)
   obtain⟨c,k3,k4⟩:=hE _ _ _ k2
   exact⟨c,k1,k3,k4⟩)
  refine⟨(List.range len).map F,⟨some a,len,cap,rfl,by simp,hl,fun h0=> ?_⟩,by simp;omega,fun c hc=> ?_⟩
  ·obtain⟨b,off,spot⟩:=a
   have hspot:spot=none:=by simpa [Addr.add]using World.cell?_spot (hF 0 h0).1
   subst hspot
   refine⟨b,off,rfl,fun i hi=> ?_⟩
   obtain⟨e0,e1,e2⟩:=hF i (by simpa using hi)
   rw[addOE]at e0
   simp only[List.getElem_map,List.getElem_range]
   exact⟨V i,e0,e1⟩
  ·obtain⟨i,hi,rfl⟩:=List.mem_map.1 hc
   exact(hF i (by simpa using hi)).2.2
def LenS (css:List (List Q4)):Prop:=css.length≤maxLen∧∀c∈css,c.length≤maxLen
theorem open_solidV {H:Type} {enc:TypeId×Value→H} {W:World} {fuel:Nat} {v:Value} {y:DataW H×List MemPlace} (h:DataW.trod enc Tryz.prog W 0 (fun _=>true) true fuel 79 [v]=some y):
  ∃css,SolV W v css∧LenS css:=by
 obtain⟨css,h1,h2,h3⟩:=open_each (α:=List Q4) Q4s (fun c=>c.length≤maxLen) und_cellsE cells_cellE (fun n u z hz=>by
  obtain⟨y0,m,hx,_,h0⟩:=trod_struct1 Tryz.underlying167 hz
  simp[cells_planesE]at h0
  exact open_planesV h0) h
 exact⟨css,h1,h2,h3⟩
end
section
open Go.ChangeShapes Go.WideShapes Go.ChangeAt Go.WideMaps Go.WideElems Go.RowKit
set_option maxRecDepth 100000
theorem und_solidsE:Tryz.prog.underlying 22=some (.slice 81):=by kernel_rfl
theorem open_solids {H:Type} {enc:TypeId×Value→H} {W:World} {base:Nat} {v:Value} {d:DataW H} {p:List MemPlace}
  (hv:Value.okWide Tryz.prog W .any base 22 v) (h:DataW.Trod enc Tryz.prog W 0 (fun _=>true) true 22 v d p):∃l:List (List (List Q4)),SolsV W v l∧l.length≤maxLen∧∀s∈l,LenS s:=by
 obtain⟨a,len,cap,rfl⟩:=okWide_slice und_solidsE hv
 obtain⟨fuel,hf⟩:=h
 simp only[Value.cells]at hf
 exact open_each (α:=List (List Q4)) SolV LenS und_solidsE cells_solidE (fun n u z hz=>by
  obtain⟨y0,m,hx,_,h0⟩:=trod_struct1 Tryz.underlying81 hz
  simp[cells_cellsE]at h0
  exact open_solidV h0) hf
end
section
open Go.ChangeShapes Go.WideShapes Go.ChangeAt Go.WideMaps Go.WideElems Go.RowKit
theorem tabs_laid {W:World} (h:laidMetH Tryz.prog laid3 W):Lib.TabIs Tryz.prog W "internal/strconv.uint64pow10" .u64 Lib.pow10Tab∧TabAt 1 Lib.deBruijn64tab W:=by
 refine⟨tab_of_laid h, ?_⟩
 rw[MakeChecks.laidMetH_plain _ _ _ (by kernel_rfl)]at h
 have h2:Lib.TabIs Tryz.prog W "math/bits.deBruijn64tab" .u8 (Lib.deBruijn64tab.map fun n:Nat=>(n:Int)):=Lib.tabIs_of_head (rest:=[("internal/strconv.uint64pow10",Rows.laid_internal_strconv_uint64pow10)]) (g:=1) (t:=262) (e:=5) (n:=64) (by kernel_rfl) (by kernel_rfl) (by kernel_rfl) (by kernel_rfl) (by kernel_rfl) (by kernel_rfl) h.tail
 intro j hj
 have h3:=h2.cell (g:=1) (by kernel_rfl) j (by simpa using hj)
 rw[h3]
 simp[List.getD,hj]
end
section
open Go
set_option maxRecDepth 100000
theorem zassemblyFree1:(Rows.assemblyFreeRow.wf (OpenSpec.ofChange Rows.assemblyFreeSpec):Bool)=true:=by kernel_rfl
theorem zassemblyFree2:(laidOutB Tryz.prog:Bool)=true:=by kernel_rfl
theorem zassemblyFree3:(mapsRowed Tryz.prog:Bool)=true:=by kernel_rfl
theorem zassemblyFree4:(Tryz.f3.params.all (Tryz.prog.readableRec ·):Bool)=true:=by kernel_rfl
theorem zassemblyFree5:(namedTie Tryz.prog Rows.assemblyFreeRow.named Rows.assemblyFreeSpec.vars:Bool)=true:=by kernel_rfl
theorem zassemblyFree6:((Rows.assemblyFreeRow.stops==[]):Bool)=true:=by kernel_rfl
theorem zassemblyFree7:((Tryz.prog.stops==[]):Bool)=true:=by kernel_rfl
theorem zassemblyFree8:((Rows.assemblyFreeRow.knobs==[]):Bool)=true:=by kernel_rfl
theorem zassemblyFree9:((Tryz.prog.stopKnobs==[]):Bool)=true:=by kernel_rfl
theorem zassemblyFree10:((Rows.assemblyFreeRow.inPlace==Tryz.prog.inPlace 3):Bool)=true:=by kernel_rfl
theorem zassemblyFree11:((Rows.assemblyFreeRow.unfollowed==Tryz.prog.unfollowed 3):Bool)=true:=by kernel_rfl
theorem zassemblyFree12:((Rows.assemblyFreeRow.recurses==Tryz.prog.recurses 3):Bool)=true:=by kernel_rfl
theorem zassemblyFree13:((Rows.assemblyFreeRow.named==Tryz.prog.varsNamed 3):Bool)=true:=by kernel_rfl
theorem zassemblyFree14:((Rows.assemblyFreeRow.maps==(Tryz.f3.params.toList++Rows.assemblyFreeSpec.plain.varTypes Tryz.prog).any (Tryz.prog.mapsRec ·)):Bool)=true:=by kernel_rfl
theorem zassemblyFree15:((Rows.assemblyFreeRow.ifaces==(Tryz.f3.params.toList++Rows.assemblyFreeSpec.plain.varTypes Tryz.prog).any (Tryz.prog.ifacesRec ·)):Bool)=true:=by kernel_rfl
theorem zassemblyFree16:((Rows.assemblyFreeRow.mapsOut==Tryz.prog.mapsAmong Tryz.f3.resultTypes.toList):Bool)=true:=by kernel_rfl
theorem zassemblyFree17:((Rows.assemblyFreeRow.loops==(Tryz.f3.params.toList++Rows.assemblyFreeSpec.plain.varTypes Tryz.prog).any (Tryz.prog.loopsFrom ·)):Bool)=true:=by kernel_rfl
theorem zassemblyFree18:((Rows.assemblyFreeRow.wideKeys==(Tryz.f3.params.toList++Rows.assemblyFreeSpec.plain.varTypes Tryz.prog++Tryz.f3.resultTypes.toList).any (Tryz.prog.wideKeysFrom ·)):Bool)=true:=by kernel_rfl
theorem zassemblyFree19:(Rows.assemblyFreeSpec.vars.all (Tryz.prog.varReadable ·):Bool)=true:=by kernel_rfl
theorem zassemblyFree20:(Tryz.f3.resultTypes.all (fun t=>Tryz.prog.readableRec t&&decide (t<Tryz.prog.types.size)):Bool)=true:=by kernel_rfl
theorem zassemblyFree21:((Rows.assemblyFreeRow.ifacesOut==Tryz.f3.resultTypes.toList.any (Tryz.prog.ifacesRec ·)):Bool)=true:=by kernel_rfl
theorem zassemblyFree22:((Rows.assemblyFreeRow.loopsOut==Tryz.f3.resultTypes.toList.any (Tryz.prog.loopsFrom ·)):Bool)=true:=by kernel_rfl
theorem zassemblyFree23:((Rows.assemblyFreeRow.plainKeys==Tryz.prog.plainKeys):Bool)=true:=by kernel_rfl
theorem zassemblyFree24:(Rows.assemblyFreeRow.shortTexts.isNone:Bool)=true:=by kernel_rfl
theorem zassemblyFree25:(Tryz.prog.stopsHeard:Bool)=true:=by kernel_rfl
theorem zassemblyFree26:(Tryz.prog.mayEnter:Bool)=true:=by kernel_rfl
theorem zassemblyFree27:((Rows.assemblyFreeRow.lifted==Tryz.prog.liftsFinal):Bool)=true:=by kernel_rfl
theorem zassemblyFree28:((Tryz.prog.make==some Rows.assemblyFreeRow.make):Bool)=true:=by kernel_rfl
theorem zassemblyFree29:((Rows.assemblyFreeRow.kinds==(if Rows.assemblyFreeRow.domain.isEmpty then []else Tryz.f3.params.toList.map fun t=>match Tryz.prog.underlying t with|some (.int k)=>some k|_=>none)):Bool)=true:=by kernel_rfl
theorem zassemblyFree30:((Rows.assemblyFreeRow.pinned==Rows.assemblyFreeRow.pinnedBy):Bool)=true:=by kernel_rfl
theorem zassemblyFree31:((Rows.assemblyFreeRow.veiled==(Tryz.f3.params.toList++Rows.assemblyFreeSpec.plain.varTypes Tryz.prog++Tryz.f3.resultTypes.toList).any (Tryz.prog.veiledRec ·)):Bool)=true:=by kernel_rfl
theorem zassemblyFree32:(Rows.assemblyFreeRow.veiledFits Tryz.prog Tryz.f3.params.toList (Tryz.f3.params.toList++Rows.assemblyFreeSpec.plain.varTypes Tryz.prog++Tryz.f3.resultTypes.toList):Bool)=true:=by kernel_rfl
theorem zassemblyFreeA {a b:Bool} (h:a=true) (k:b=true):(a&&b)=true:=by rw[h,k];rfl
theorem assemblyFree_closed:joinedFacts Tryz.prog 3 Tryz.f3 Rows.assemblyFreeSpec Rows.assemblyFreeRow=true:=by
 unfold joinedFacts
 exact zassemblyFreeA (zassemblyFreeA (zassemblyFreeA (zassemblyFreeA (zassemblyFreeA (zassemblyFreeA (zassemblyFreeA (zassemblyFreeA (zassemblyFreeA (zassemblyFreeA (zassemblyFreeA (zassemblyFreeA (zassemblyFreeA (zassemblyFreeA (zassemblyFreeA (zassemblyFreeA (zassemblyFreeA (zassemblyFreeA (zassemblyFreeA (zassemblyFreeA (zassemblyFreeA (zassemblyFreeA (zassemblyFreeA (zassemblyFreeA (zassemblyFreeA (zassemblyFreeA (zassemblyFreeA (zassemblyFreeA (zassemblyFreeA (zassemblyFreeA (zassemblyFreeA zassemblyFree1 zassemblyFree2) zassemblyFree3) zassemblyFree4) zassemblyFree5) zassemblyFree6) zassemblyFree7) zassemblyFree8) zassemblyFree9) zassemblyFree10) zassemblyFree11) zassemblyFree12) zassemblyFree13) zassemblyFree14) zassemblyFree15) zassemblyFree16) zassemblyFree17) zassemblyFree18) zassemblyFree19) zassemblyFree20) zassemblyFree21) zassemblyFree22) zassemblyFree23) zassemblyFree24) zassemblyFree25) zassemblyFree26) zassemblyFree27) zassemblyFree28) zassemblyFree29) zassemblyFree30) zassemblyFree31) zassemblyFree32
end
end Go.Proofs.YtnpmkepfpekhfaaGreatDoor
