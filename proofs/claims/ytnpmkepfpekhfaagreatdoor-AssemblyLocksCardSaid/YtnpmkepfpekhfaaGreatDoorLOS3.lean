/- texts: E0 E1 E2 E5 E6 E9 E7 LKF. -/
import Derived.ArgAppend
import Derived.BigQuiet
import Derived.ChangeKeysEq
import Derived.Deep.AppendLies
import Derived.Deep.DeepAppendRoom
import Derived.Deep.DeepAppendWide
import Derived.Deep.DeepCutAuto
import Derived.Deep.QuietTactic
import Derived.Deep.RegionHeld
import Derived.Deep.RegionHeld3
import Derived.Deep.RegionHeldLaw
import Derived.Deep.Slices
import Derived.Deep.Strs
import Derived.DeepKeys4
import Derived.Ground.Names2Prog
import Derived.Ground.SlgnProg
import Derived.JoinedOf
import Derived.KernelRfl
import Derived.LaidMore
import Derived.Laws.AppendOwnNone
import Derived.Laws.StructEq
import Derived.Lib.AppendIntMem
import Derived.Lib.AppendZerosOnto
import Derived.Lib.Hide
import Derived.Lib.ItoaLen
import Derived.Lib.LaidTab
import Derived.Lib.SliceRun
import Derived.Lib.SlicesCompact
import Derived.Lib.SmallJoins
import Derived.LoopIn
import Derived.LoopNIn
import Derived.Maps.AppendAt
import Derived.Maps.OwnSet
import Derived.OpenShut
import Derived.OwnWalkIn
import Derived.ProofKit
import Derived.RangeFuncBound
import Derived.RangeFuncBox
import Derived.RangeFuncCalls
import Derived.RangeFuncFrom
import Derived.RangeFuncLeaves
import Derived.RangeFuncNested
import Derived.RangeFuncWrites
import Derived.SevenTiedAt
import Derived.Shelf.Abstract
import Derived.Shelf.Lays8
import Derived.Shelf.LaysM
import Derived.Shelf.RegionOpen
import Derived.Shelf.Slices.Clone
import Derived.Shelf.SlicesE.Clone
import Derived.Shelf.Small.Bits
import Derived.Shelf.Spec.TrailingZeros
import Derived.Shelf.Strconv.Itoa0
import Derived.Shelf.Strconv.Itoa1
import Derived.Shelf.Strconv.Itoa2
import Derived.Shelf.Strconv.Itoa3
import Derived.Shelf.Strings.Builder1
import Derived.Shelf.Strings.Builder2
import Derived.Shelf.Strings.OnBuilder
import Derived.Sort.Grow
import Derived.StillTail
import Derived.Stop.Joined
import Derived.Stop.LaidErr
import Derived.TacticsInMore
import Derived.WalkKit
import Derived.WalkLawsBesides
import Derived.WalkSpells
import Derived.WideKeyEntry
import Derived.Test.YtnpmkepfpekhfaaGreatDoorProg
import Derived.Test.YtnpmkepfpekhfaaGreatDoorRows
import Derived.Test.YtnpmkepfpekhfaaGreatDoorSort
import Derived.Test.YtnpmkepfpekhfaaGreatDoorTie
import Derived.Test.YtnpmkepfpekhfaaGreatDoorSIS1
import Derived.Test.YtnpmkepfpekhfaaGreatDoorSIS6
import Derived.Test.YtnpmkepfpekhfaaGreatDoorSIS7
import Derived.Test.YtnpmkepfpekhfaaGreatDoorSIS9
import Derived.Test.YtnpmkepfpekhfaaGreatDoorSIS16
import Derived.Test.YtnpmkepfpekhfaaGreatDoorSIS18
import Derived.Test.YtnpmkepfpekhfaaGreatDoorSIS19
import Derived.Test.YtnpmkepfpekhfaaGreatDoorSIS21
import Derived.Test.YtnpmkepfpekhfaaGreatDoorSIS22
import Derived.Test.YtnpmkepfpekhfaaGreatDoorSIS25
import Derived.Test.YtnpmkepfpekhfaaGreatDoorSIS30
import Derived.Test.YtnpmkepfpekhfaaGreatDoorLOS2
namespace Go.Proofs.YtnpmkepfpekhfaaGreatDoor
set_option maxHeartbeats 8000000
set_option linter.all false
section
open Go.ChangeShapes Go.WideShapes Go.ChangeAt Go.WideMaps Go.WideElems Go.RowKit
set_option maxRecDepth 100000
theorem own:ownKnob Tryz.prog.godebug=none:=by kernel_rfl
def laid3:List (String×DataW Unit):=[("math/bits.deBruijn32tab",Rows.laid_math_bits_deBruijn32tab),("math/bits.deBruijn64tab",Rows.laid_math_bits_deBruijn64tab),("internal/strconv.uint64pow10",Rows.laid_internal_strconv_uint64pow10)]
theorem door_met (os:Os) (args:Array Value):laidMetH Tryz.prog laid3 ((World.doorLaid Tryz.prog 400 os).forCall (fun _ _=>0) ⟨#[],args,[]⟩).memory:=
 laidMetH_of_parts3 (fuel:=8) (laidMet_of_run' 8 (by kernel_rfl) (by kernel_rfl)) (by kernel_rfl) (by kernel_rfl)
theorem und_bool:Tryz.prog.underlying 4=some .bool:=by kernel_rfl
theorem tab_of_laid {W:World} (h:laidMetH Tryz.prog laid3 W):Lib.TabIs Tryz.prog W "internal/strconv.uint64pow10" .u64 Lib.pow10Tab:=by
 rw[MakeChecks.laidMetH_plain _ _ _ (by kernel_rfl)]at h
 exact Lib.tabIs_of_head (rest:=[]) (g:=2) (t:=297) (e:=210) (n:=20) (by kernel_rfl) (by kernel_rfl) (by kernel_rfl) (by kernel_rfl) (by kernel_rfl) (by kernel_rfl) h.tail.tail
theorem post_law {H:Type} {enc:TypeId×Value→H} {f:Func} {s:ChangeSpec} {W W':World} {args:Array Value} {ds:List (DataW H)} {before:List MemPlace}
  (hW:DataW.Whole enc Tryz.prog f.params.toList s.vars false W args.toList ds [] before) (hv:s.vars=[]) (hb:Below W.heap.size W W') (hr:f.resultTypes=#[4])
  (hfn:s.fn H (ds++[])={results:=[.lit (.bool true)],args:=ds})
  (hargs:DataW.TrodAll enc Tryz.prog W' 0 (fun b=>decide (b<W.heap.size)) true f.params.toList args.toList ds before):
  s.post enc Tryz.prog f false true false false W args (.bool true) W':=by
 refine⟨ds,[],before,[],before,[],hW, ?_,by rw[hfn];exact hargs,by rw[hv,hfn];first|rfl|trivial|exact⟨rfl,rfl⟩,hb.frame _,fun h=>by cases h⟩
 rw[hfn,hr]
 exact trodAll_mk1 (shut_bool und_bool _)
end
section
open Go.ChangeShapes Go.WideShapes Go.ChangeAt Go.WideMaps Go.WideElems Go.RowKit
theorem open_intsV {H:Type} {enc:TypeId×Value→H} {W:World} {fuel:Nat} {v:Value} {y:DataW H×List MemPlace} (h:DataW.trod enc Tryz.prog W 0 (fun _=>true) true fuel 49 [v]=some y):
  ∃n:List Int,Ints W v n∧n.length≤maxLen∧(∀x∈n,(Lit.int .i64 x).wf=true)∧MW v∧(y.1= .nil∨∃sp,y.1= .slice (lits .i64 n) sp):=by
 rcases open_ints Pw eJ fx h with⟨hcs,hx⟩|⟨a,len,cap,zs,hcs,_,hl,hm,hz,hx,hcell,hwz⟩
 ·simp only[List.cons.injEq,and_true]at hcs
  subst hcs
  exact⟨[],⟨none,0,0,rfl,rfl,qaA _,fun h=>by omega⟩,by simp,(fun _ h=>by cases h),(fun m c e=>by cases e;exact⟨rfl,rfl⟩),Or.inl (by rw[hx])⟩
 ·simp only[List.cons.injEq,and_true]at hcs
  subst hcs
  simp only[if_true]at hz
  refine⟨zs.take len,⟨some a,len,cap,rfl,by simp;omega,hl,fun h0=> ?_⟩,by simp;omega,fun x hx=>hwz x (List.mem_of_mem_take hx),(fun m c e=>by cases e),Or.inr ⟨_,by rw[hx]⟩⟩
  obtain⟨b,off,spot⟩:=a
  have hspot:spot=none:=by simpa [Addr.add]using World.cell?_spot (hcell 0 (by omega))
  subst hspot
  refine⟨b,off,rfl,fun i hi=> ?_⟩
  have hi':i<len:=by simp at hi;omega
  have:=hcell i (by omega)
  rw[vp]at this
  rw[this]
  simp[List.getD,(by omega:i<zs.length)]
end
section
open Go.ChangeShapes Go.WideShapes Go.ChangeAt Go.WideMaps Go.WideElems Go.RowKit
theorem laidOut:laidOutB Tryz.prog=true:=by kernel_rfl
end
section
open Go.ChangeShapes Go.WideShapes Go.ChangeAt Go.WideMaps Go.WideElems Go.RowKit
set_option maxRecDepth 100000
theorem und_planesE:Tryz.prog.underlying 165=some (.slice 196):=by kernel_rfl
theorem und_cellsE:Tryz.prog.underlying 79=some (.slice 167):=by kernel_rfl
theorem cells_planeE:Tryz.prog.cellsOf 196=4:=by kernel_rfl
theorem cells_planesE:Tryz.prog.cellsOf 165=1:=by kernel_rfl
theorem cells_cellE:Tryz.prog.cellsOf 167=1:=by kernel_rfl
theorem cells_cellsE:Tryz.prog.cellsOf 79=1:=by kernel_rfl
theorem cells_solidE:Tryz.prog.cellsOf 81=1:=by kernel_rfl
theorem addOE (b off j:Nat):(⟨b,off,none⟩:Addr).add j=⟨b,off+j,none⟩:=by
 unfold Addr.add
 by_cases h:j=0<;>simp[h]
theorem trod_plane {H:Type} {enc:TypeId×Value→H} {W:World} {fuel:Nat} {c0 c1 c2 c3:Value} {y:DataW H×List MemPlace} (h:DataW.trod enc Tryz.prog W 0 (fun _=>true) true fuel 196 [c0,c1,c2,c3]=some y):
  ∃p:Q4,c0= .int .i64 p.1∧c1= .int .i64 p.2.1∧c2= .int .i64 p.2.2.1∧c3= .int .i64 p.2.2.2:=by
 obtain⟨y0,y1,y2,y3,m,hx,_,h0,h1,h2,h3⟩:=Go.Joins.trod_struct4 Tryz.underlying196 h
 simp[fx]at h0 h1 h2 h3
 obtain⟨a0,ha0,_,w0⟩:=DataW.trod_int eJ h0
 obtain⟨a1,ha1,_,w1⟩:=DataW.trod_int eJ h1
 obtain⟨a2,ha2,_,w2⟩:=DataW.trod_int eJ h2
 obtain⟨a3,ha3,_,w3⟩:=DataW.trod_int eJ h3
 simp only[List.cons.injEq,and_true]at ha0 ha1 ha2 ha3
 exact⟨(a0,a1,a2,a3),ha0,ha1,ha2,ha3⟩
theorem open_planesV {H:Type} {enc:TypeId×Value→H} {W:World} {fuel:Nat} {v:Value} {y:DataW H×List MemPlace} (h:DataW.trod enc Tryz.prog W 0 (fun _=>true) true fuel 165 [v]=some y):
  ∃ps:List Q4,Q4s W v ps∧ps.length≤maxLen:=by
 rcases Deep.open_slice und_planesE h with⟨hcs,hx⟩|⟨a,len,cap,m,n,D,Pl,hcs,_,hl,hm,hmm,hx,hel⟩
 ·simp only[List.cons.injEq,and_true]at hcs
  subst hcs
  exact⟨[],⟨none,0,0,rfl,rfl,qaA _,fun h=>absurd h (by omega)⟩,by simp⟩
 ·simp only[List.cons.injEq,and_true]at hcs
  subst hcs
  simp only[if_true]at hmm
  rw[cells_planeE]at hel
  obtain⟨F,hF⟩:=Deep.choose_lt (α:=Q4) (n:=len) (p:=fun i q=>W.cell? (a.add (i*4))=some (.int .i64 q.1)∧W.cell? (a.add (i*4+1))=some (.int .i64 q.2.1)∧W.cell? (a.add (i*4+2))=some (.int .i64 q.2.2.1)∧W.cell? (a.add (i*4+3))=some (.int .i64 q.2.2.2)) (fun i hi=>by
   obtain⟨cs',k1,k2⟩:=hel i (by omega)
   obtain⟨_,hlen,hc⟩:=World.cells?_some k1
   match cs',hlen,k2,hc with
   | [c0,c1,c2,c3],_,k2,hc=>
    obtain⟨p,rfl,rfl,rfl,rfl⟩:=trod_plane k2
    have e0:=hc 0 (by omega)
    have e1:=hc 1 (by omega)
    have e2:=hc 2 (by omega)
    have e3:=hc 3 (by omega)
    rw[Deep.add_add]at e0 e1 e2 e3
    exact⟨p,e0,e1,e2,e3⟩)
  refine⟨(List.range len).map F,⟨some a,len,cap,rfl,by simp,hl,fun h0=> ?_⟩,by simp;omega⟩
  obtain⟨b,off,spot⟩:=a
  have hspot:spot=none:=by simpa [Addr.add]using World.cell?_spot (hF 0 h0).1
  subst hspot
  refine⟨b,off,rfl,fun i hi=> ?_⟩
  obtain⟨e0,e1,e2,e3⟩:=hF i (by simpa using hi)
  rw[addOE]at e0 e1 e2 e3
  simp only[qdB,qdD]
  exact⟨e0,e1,e2,e3⟩
theorem open_each {H:Type} {enc:TypeId×Value→H} {W:World} {fuel:Nat} {v:Value} {y:DataW H×List MemPlace} {t e:TypeId} {α:Type} [Inhabited α] (E:World→Value→α→Prop) (Q:α→Prop) (ht:Tryz.prog.underlying t=some (.slice e)) (hc:Tryz.prog.cellsOf e=1)
  (hE:∀n u z,DataW.trod enc Tryz.prog W 0 (fun _=>true) true n e [u]=some z→∃c,E W u c∧Q c) (h:DataW.trod enc Tryz.prog W 0 (fun _=>true) true fuel t [v]=some y):
  ∃cs:List α,Each W v E cs∧cs.length≤maxLen∧∀c∈cs,Q c:=by
 rcases Deep.open_slice1 ht hc h with⟨hcs,hx⟩|⟨a,len,cap,m,n,V,D,Pl,hcs,_,hl,hm,hmm,hx,hel⟩
 ·simp only[List.cons.injEq,and_true]at hcs
  subst hcs
  exact⟨[],⟨none,0,0,rfl,rfl,qaA _,fun h=>absurd h (by omega)⟩,by simp,fun _ h=>by cases h⟩
 ·simp only[List.cons.injEq,and_true]at hcs
  subst hcs
  simp only[if_true]at hmm
  obtain⟨F,hF⟩:=Deep.choose_lt (α:=α) (n:=len) (p:=fun i q=>W.cell? (a.add i)=some (V i)∧E W (V i) q∧Q q) (fun i hi=>by
   obtain⟨k1,k2⟩:=hel i (by omega)
   obtain⟨c,k3,k4⟩:=hE _ _ _ k2
   exact⟨c,k1,k3,k4⟩)
  refine⟨(List.range len).map F,⟨some a,len,cap,rfl,by simp,hl,fun h0=> ?_⟩,by simp;omega,fun c hc=> ?_⟩
  ·obtain⟨b,off,spot⟩:=a
   have hspot:spot=none:=by simpa [Addr.add]using World.cell?_spot (hF 0 h0).1
   subst hspot
   refine⟨b,off,rfl,fun i hi=> ?_⟩
   obtain⟨e0,e1,e2⟩:=hF i (by simpa using hi)
   rw[addOE]at e0
   simp only[qdB,qdD]
   exact⟨V i,e0,e1⟩
  ·obtain⟨i,hi,rfl⟩:=altt.1 hc
   exact(hF i (by simpa using hi)).2.2
def LenS (css:List (List Q4)):Prop:=css.length≤maxLen∧∀c∈css,c.length≤maxLen
theorem open_solidV {H:Type} {enc:TypeId×Value→H} {W:World} {fuel:Nat} {v:Value} {y:DataW H×List MemPlace} (h:DataW.trod enc Tryz.prog W 0 (fun _=>true) true fuel 79 [v]=some y):
  ∃css,SolV W v css∧LenS css:=by
 obtain⟨css,h1,h2,h3⟩:=open_each (α:=List Q4) Q4s (fun c=>c.length≤maxLen) und_cellsE cells_cellE (fun n u z hz=>by
  obtain⟨y0,m,hx,_,h0⟩:=trod_struct1 Tryz.underlying167 hz
  simp[cells_planesE]at h0
  exact open_planesV h0) h
 exact⟨css,h1,h2,h3⟩
end
section
open Go.ChangeShapes Go.WideShapes Go.ChangeAt Go.WideMaps Go.WideElems Go.RowKit
set_option maxRecDepth 100000
theorem und_solidsE:Tryz.prog.underlying 22=some (.slice 81):=by kernel_rfl
theorem open_solids {H:Type} {enc:TypeId×Value→H} {W:World} {base:Nat} {v:Value} {d:DataW H} {p:List MemPlace}
  (hv:Value.okWide Tryz.prog W .any base 22 v) (h:DataW.Trod enc Tryz.prog W 0 (fun _=>true) true 22 v d p):∃l:List (List (List Q4)),SolsV W v l∧l.length≤maxLen∧∀s∈l,LenS s:=by
 obtain⟨a,len,cap,rfl⟩:=okWide_slice und_solidsE hv
 obtain⟨fuel,hf⟩:=h
 simp only[Value.cells]at hf
 exact open_each (α:=List (List Q4)) SolV LenS und_solidsE cells_solidE (fun n u z hz=>by
  obtain⟨y0,m,hx,_,h0⟩:=trod_struct1 Tryz.underlying81 hz
  simp[cells_cellsE]at h0
  exact open_solidV h0) hf
end
section
open Go.ChangeShapes Go.WideShapes Go.ChangeAt Go.WideMaps Go.WideElems Go.RowKit
set_option maxRecDepth 100000
theorem und_intssE:Tryz.prog.underlying 37=some (.slice 49):=by kernel_rfl
theorem cells_intsE:Tryz.prog.cellsOf 49=1:=by kernel_rfl
theorem cells_intssE:Tryz.prog.cellsOf 37=1:=by kernel_rfl
theorem cells_lockedE:Tryz.prog.cellsOf 53=2:=by kernel_rfl
theorem open_locked {H:Type} {enc:TypeId×Value→H} {W:World} {base:Nat} {v:Value} {d:DataW H} {p:List MemPlace}
  (hv:Value.okWide Tryz.prog W .any base 53 v) (h:DataW.Trod enc Tryz.prog W 0 (fun _=>true) true 53 v d p):∃cs ws cv wv,v= .agg #[cv,wv]∧cs.length≤maxLen∧WkV W cv cs∧ws.length≤maxLen∧Each W wv WkV ws∧∀w∈ws,w.length≤maxLen:=by
 obtain⟨cs,rfl,hsz⟩:=okWide_struct Tryz.underlying53 hv
 rw[cells_lockedE]at hsz
 obtain⟨c0,c1,rfl⟩:=Go.Joins.array2 hsz
 obtain⟨fuel,hf⟩:=h
 obtain⟨y0,y1,m,hx,_,h0,h1⟩:=trod_struct2 Tryz.underlying53 hf
 simp[Value.cells,cells_intsE,cells_intssE]at h0 h1
 obtain⟨n,k1,k2,_,k3,_⟩:=open_intsV h0
 obtain⟨ws,k4,k5,k6⟩:=open_each (α:=List Int) WkV (fun c=>c.length≤maxLen) und_intssE cells_intsE (fun n u z hz=>by
  obtain⟨n,k1,k2,_,k3,_⟩:=open_intsV hz
  exact⟨n,⟨k1,k3⟩,k2⟩) h1
 exact⟨n,ws,c0,c1,rfl,k2,⟨k1,k3⟩,k5,k4,k6⟩
end
section
open Go.ChangeShapes Go.WideShapes Go.ChangeAt Go.WideMaps Go.WideElems Go.RowKit
theorem tabs_laid {W:World} (h:laidMetH Tryz.prog laid3 W):Lib.TabIs Tryz.prog W "internal/strconv.uint64pow10" .u64 Lib.pow10Tab∧TabAt 1 Lib.deBruijn64tab W:=by
 refine⟨tab_of_laid h, ?_⟩
 rw[MakeChecks.laidMetH_plain _ _ _ (by kernel_rfl)]at h
 have h2:Lib.TabIs Tryz.prog W "math/bits.deBruijn64tab" .u8 (Lib.deBruijn64tab.map fun n:Nat=>(n:Int)):=Lib.tabIs_of_head (rest:=[("internal/strconv.uint64pow10",Rows.laid_internal_strconv_uint64pow10)]) (g:=1) (t:=262) (e:=5) (n:=64) (by kernel_rfl) (by kernel_rfl) (by kernel_rfl) (by kernel_rfl) (by kernel_rfl) (by kernel_rfl) h.tail
 intro j hj
 have h3:=h2.cell (g:=1) (by kernel_rfl) j (by simpa using hj)
 rw[h3]
 simp[List.getD,hj]
end
section
open Go
set_option maxRecDepth 100000
theorem zassemblyLocks1:(Rows.assemblyLocksRow.wf (OpenSpec.ofChange Rows.assemblyLocksSpec):Bool)=true:=by kernel_rfl
theorem zassemblyLocks2:(laidOutB Tryz.prog:Bool)=true:=by kernel_rfl
theorem zassemblyLocks3:(mapsRowed Tryz.prog:Bool)=true:=by kernel_rfl
theorem zassemblyLocks4:(Tryz.f6.params.all (Tryz.prog.readableRec ·):Bool)=true:=by kernel_rfl
theorem zassemblyLocks5:(namedTie Tryz.prog Rows.assemblyLocksRow.named Rows.assemblyLocksSpec.vars:Bool)=true:=by kernel_rfl
theorem zassemblyLocks6:((Rows.assemblyLocksRow.stops==[]):Bool)=true:=by kernel_rfl
theorem zassemblyLocks7:((Tryz.prog.stops==[]):Bool)=true:=by kernel_rfl
theorem zassemblyLocks8:((Rows.assemblyLocksRow.knobs==[]):Bool)=true:=by kernel_rfl
theorem zassemblyLocks9:((Tryz.prog.stopKnobs==[]):Bool)=true:=by kernel_rfl
theorem zassemblyLocks10:((Rows.assemblyLocksRow.inPlace==Tryz.prog.inPlace 6):Bool)=true:=by kernel_rfl
theorem zassemblyLocks11:((Rows.assemblyLocksRow.unfollowed==Tryz.prog.unfollowed 6):Bool)=true:=by kernel_rfl
theorem zassemblyLocks12:((Rows.assemblyLocksRow.recurses==Tryz.prog.recurses 6):Bool)=true:=by kernel_rfl
theorem zassemblyLocks13:((Rows.assemblyLocksRow.named==Tryz.prog.varsNamed 6):Bool)=true:=by kernel_rfl
theorem zassemblyLocks14:((Rows.assemblyLocksRow.maps==(Tryz.f6.params.toList++Rows.assemblyLocksSpec.plain.varTypes Tryz.prog).any (Tryz.prog.mapsRec ·)):Bool)=true:=by kernel_rfl
theorem zassemblyLocks15:((Rows.assemblyLocksRow.ifaces==(Tryz.f6.params.toList++Rows.assemblyLocksSpec.plain.varTypes Tryz.prog).any (Tryz.prog.ifacesRec ·)):Bool)=true:=by kernel_rfl
theorem zassemblyLocks16:((Rows.assemblyLocksRow.mapsOut==Tryz.prog.mapsAmong Tryz.f6.resultTypes.toList):Bool)=true:=by kernel_rfl
theorem zassemblyLocks17:((Rows.assemblyLocksRow.loops==(Tryz.f6.params.toList++Rows.assemblyLocksSpec.plain.varTypes Tryz.prog).any (Tryz.prog.loopsFrom ·)):Bool)=true:=by kernel_rfl
theorem zassemblyLocks18:((Rows.assemblyLocksRow.wideKeys==(Tryz.f6.params.toList++Rows.assemblyLocksSpec.plain.varTypes Tryz.prog++Tryz.f6.resultTypes.toList).any (Tryz.prog.wideKeysFrom ·)):Bool)=true:=by kernel_rfl
theorem zassemblyLocks19:(Rows.assemblyLocksSpec.vars.all (Tryz.prog.varReadable ·):Bool)=true:=by kernel_rfl
theorem zassemblyLocks20:(Tryz.f6.resultTypes.all (fun t=>Tryz.prog.readableRec t&&decide (t<Tryz.prog.types.size)):Bool)=true:=by kernel_rfl
theorem zassemblyLocks21:((Rows.assemblyLocksRow.ifacesOut==Tryz.f6.resultTypes.toList.any (Tryz.prog.ifacesRec ·)):Bool)=true:=by kernel_rfl
theorem zassemblyLocks22:((Rows.assemblyLocksRow.loopsOut==Tryz.f6.resultTypes.toList.any (Tryz.prog.loopsFrom ·)):Bool)=true:=by kernel_rfl
theorem zassemblyLocks23:((Rows.assemblyLocksRow.plainKeys==Tryz.prog.plainKeys):Bool)=true:=by kernel_rfl
theorem zassemblyLocks24:(Rows.assemblyLocksRow.shortTexts.isNone:Bool)=true:=by kernel_rfl
theorem zassemblyLocks25:(Tryz.prog.stopsHeard:Bool)=true:=by kernel_rfl
theorem zassemblyLocks26:(Tryz.prog.mayEnter:Bool)=true:=by kernel_rfl
theorem zassemblyLocks27:((Rows.assemblyLocksRow.lifted==Tryz.prog.liftsFinal):Bool)=true:=by kernel_rfl
theorem zassemblyLocks28:((Tryz.prog.make==some Rows.assemblyLocksRow.make):Bool)=true:=by kernel_rfl
theorem zassemblyLocks29:((Rows.assemblyLocksRow.kinds==(if Rows.assemblyLocksRow.domain.isEmpty then []else Tryz.f6.params.toList.map fun t=>match Tryz.prog.underlying t with|some (.int k)=>some k|_=>none)):Bool)=true:=by kernel_rfl
theorem zassemblyLocks30:((Rows.assemblyLocksRow.pinned==Rows.assemblyLocksRow.pinnedBy):Bool)=true:=by kernel_rfl
theorem zassemblyLocks31:((Rows.assemblyLocksRow.veiled==(Tryz.f6.params.toList++Rows.assemblyLocksSpec.plain.varTypes Tryz.prog++Tryz.f6.resultTypes.toList).any (Tryz.prog.veiledRec ·)):Bool)=true:=by kernel_rfl
theorem zassemblyLocks32:(Rows.assemblyLocksRow.veiledFits Tryz.prog Tryz.f6.params.toList (Tryz.f6.params.toList++Rows.assemblyLocksSpec.plain.varTypes Tryz.prog++Tryz.f6.resultTypes.toList):Bool)=true:=by kernel_rfl
theorem zassemblyLocksA {a b:Bool} (h:a=true) (k:b=true):(a&&b)=true:=by rw[h,k];rfl
theorem assemblyLocks_closed:joinedFacts Tryz.prog 6 Tryz.f6 Rows.assemblyLocksSpec Rows.assemblyLocksRow=true:=by
 unfold joinedFacts
 exact zassemblyLocksA (zassemblyLocksA (zassemblyLocksA (zassemblyLocksA (zassemblyLocksA (zassemblyLocksA (zassemblyLocksA (zassemblyLocksA (zassemblyLocksA (zassemblyLocksA (zassemblyLocksA (zassemblyLocksA (zassemblyLocksA (zassemblyLocksA (zassemblyLocksA (zassemblyLocksA (zassemblyLocksA (zassemblyLocksA (zassemblyLocksA (zassemblyLocksA (zassemblyLocksA (zassemblyLocksA (zassemblyLocksA (zassemblyLocksA (zassemblyLocksA (zassemblyLocksA (zassemblyLocksA (zassemblyLocksA (zassemblyLocksA (zassemblyLocksA (zassemblyLocksA zassemblyLocks1 zassemblyLocks2) zassemblyLocks3) zassemblyLocks4) zassemblyLocks5) zassemblyLocks6) zassemblyLocks7) zassemblyLocks8) zassemblyLocks9) zassemblyLocks10) zassemblyLocks11) zassemblyLocks12) zassemblyLocks13) zassemblyLocks14) zassemblyLocks15) zassemblyLocks16) zassemblyLocks17) zassemblyLocks18) zassemblyLocks19) zassemblyLocks20) zassemblyLocks21) zassemblyLocks22) zassemblyLocks23) zassemblyLocks24) zassemblyLocks25) zassemblyLocks26) zassemblyLocks27) zassemblyLocks28) zassemblyLocks29) zassemblyLocks30) zassemblyLocks31) zassemblyLocks32
end
end Go.Proofs.YtnpmkepfpekhfaaGreatDoor
