/- THE LAW AssemblyOpposite HOLDS: for every two solids and every way, blocking in a way is blocking of the other in the opposite way, and what overlaps, or does when moved, is blocked. Conditions: those of the given card (the listed tables as the program's text lays them). -/
import Derived.ArgAppend
import Derived.BigQuiet
import Derived.ChangeKeysEq
import Derived.Deep.AppendLies
import Derived.Deep.DeepAppendRoom
import Derived.Deep.DeepAppendWide
import Derived.Deep.DeepCutAuto
import Derived.Deep.QuietTactic
import Derived.Deep.RegionHeld
import Derived.Deep.RegionHeld3
import Derived.Deep.RegionHeldLaw
import Derived.Deep.Slices
import Derived.Deep.Strs
import Derived.DeepKeys4
import Derived.JoinedOf
import Derived.KernelRfl
import Derived.LaidMore
import Derived.Laws.AppendOwnNone
import Derived.Laws.StructEq
import Derived.Lib.AppendIntMem
import Derived.Lib.AppendZerosOnto
import Derived.Lib.Hide
import Derived.Lib.ItoaLen
import Derived.Lib.LaidTab
import Derived.Lib.SliceRun
import Derived.Lib.SlicesCompact
import Derived.Lib.SmallJoins
import Derived.LoopIn
import Derived.LoopNIn
import Derived.Maps.AppendAt
import Derived.Maps.OwnSet
import Derived.OpenShut
import Derived.OwnWalkIn
import Derived.ProofKit
import Derived.RangeFuncBound
import Derived.RangeFuncBox
import Derived.RangeFuncCalls
import Derived.RangeFuncFrom
import Derived.RangeFuncLeaves
import Derived.RangeFuncNested
import Derived.RangeFuncWrites
import Derived.SevenTiedAt
import Derived.Shelf.Abstract
import Derived.Shelf.Lays8
import Derived.Shelf.LaysM
import Derived.Shelf.RegionOpen
import Derived.Shelf.Small.Bits
import Derived.Shelf.Spec.TrailingZeros
import Derived.Shelf.Strconv.Itoa0
import Derived.Shelf.Strconv.Itoa1
import Derived.Shelf.Strconv.Itoa2
import Derived.Shelf.Strconv.Itoa3
import Derived.Shelf.Strings.Builder1
import Derived.Shelf.Strings.Builder2
import Derived.Shelf.Strings.Builder2Cap
import Derived.Shelf.Strings.BuilderCap
import Derived.Shelf.Strings.BuilderF
import Derived.Shelf.Strings.BuilderK
import Derived.Shelf.Strings.OnBuilder
import Derived.Sort.Grow
import Derived.StillTail
import Derived.Stop.Joined
import Derived.Stop.LaidErr
import Derived.TacticsInMore
import Derived.WalkKit
import Derived.WalkLawsBesides
import Derived.WalkSpells
import Derived.WideKeyEntry
import Derived.Test.YtoidbolmlckhnaaGreatDoorCards
import Derived.Test.YtoidbolmlckhnaaGreatDoorProg
import Derived.Test.YtoidbolmlckhnaaGreatDoorRows
import Derived.Test.YtoidbolmlckhnaaGreatDoorSort
import Derived.Test.YtoidbolmlckhnaaGreatDoorTie
import Derived.Test.YtoidbolmlckhnaaGreatDoorSES1
import Derived.Test.YtoidbolmlckhnaaGreatDoorSES14
import Derived.Test.YtoidbolmlckhnaaGreatDoorSES15
import Derived.Test.YtoidbolmlckhnaaGreatDoorSES18
import Derived.Test.YtoidbolmlckhnaaGreatDoorSES19
import Derived.Test.YtoidbolmlckhnaaGreatDoorSES20
import Derived.Test.YtoidbolmlckhnaaGreatDoorSES21
import Derived.Test.YtoidbolmlckhnaaGreatDoorSES26
import Derived.Test.YtoidbolmlckhnaaGreatDoorSES33
import Derived.Test.YtoidbolmlckhnaaGreatDoorSES34
import Derived.Test.YtoidbolmlckhnaaGreatDoorSES35
import Derived.Test.YtoidbolmlckhnaaGreatDoorSES36
import Derived.Test.YtoidbolmlckhnaaGreatDoorSES39
import Derived.Test.YtoidbolmlckhnaaGreatDoorOQS3
namespace Go.Proofs.YtoidbolmlckhnaaGreatDoor
open Go.ChangeShapes Go.WideShapes Go.ChangeAt Go.WideMaps Go.WideElems Go.RowKit

set_option maxRecDepth 100000 in
theorem assemblyOpposite_lifted (os:Os) (started:os.Started) (H:Type) (enc:TypeId×Value→H):
    ReturnsInHanded {} Tryz.checked os 3 .any (fun w args=>(Rows.assemblyOppositeSpec.pre enc Tryz.prog Tryz.f3 [] false w args∧laidMetH Tryz.prog laid3 w)∧sizedMet enc Tryz.prog Tryz.f3 (OpenSpec.ofChange Rows.assemblyOppositeSpec) false w args)
      (Rows.assemblyOppositeSpec.post enc Tryz.prog Tryz.f3 false true false false):=by
  refine returnsInHanded_of_change_and (C:=Tryz.checked) (X:=fun w _=>laidMetH Tryz.prog laid3 w) (fun _ _ _ hh h=>h.of_heap hh) own started (by kernel_rfl) Tryz.func3
    (ChangeSpec.witness_shaped (enc:=enc) (C:=Tryz.checked) (os:=os) (X:=fun w _=>laidMetH Tryz.prog laid3 w) false (World.doorLaid Tryz.prog 400 os) #[.agg #[.slice none 0 0], .agg #[.slice none 0 0], .agg #[.int .i64 0, .int .i64 0, .int .i64 0]] 8 rfl (World.shaped_of_RefB (by kernel_rfl) (by kernel_rfl)) (by kernel_rfl) (by kernel_rfl) (by kernel_rfl) (door_met os _)) ?_
  intro W base args ds gs before hval0 hW _ _ hL _
  have hval:∀(j:Nat) t v,Tryz.f3.params[j]? =some t→args[j]? =some v→Value.okWide Tryz.prog W .any base t v:=hval0
  have hW':=hW
  obtain⟨p,q,hA0,hV,rfl,hfz,hnd⟩:=hW
  have hA:DataW.TrodAll enc Tryz.prog W 0 (fun _=>true) true Tryz.f3.params.toList args.toList ds p:=hA0
  rw[Tryz.params3]at hA hval
  obtain⟨v0,v1,v2,d0,d1,d2,p0,p1,p2,rfl,rfl,rfl,h0,h1,h2⟩:=trodAll_three hA
  obtain⟨rfl,rfl⟩:=trodVars_none hV
  have h0k:=h0
  have h1k:=h1
  have h2k:=h2
  obtain⟨sv0,s0,rfl,hs0,hL0⟩:=open_solid (hval 0 24 v0 rfl rfl) h0
  obtain⟨sv1,s1,rfl,hs1,hL1⟩:=open_solid (hval 1 24 v1 rfl rfl) h1
  obtain⟨a2,b2,c2,rfl,_⟩:=open_way (hval 2 26 v2 rfl rfl) h2
  simp only[List.append_nil]at hW'
  have hlt0:∀x∈p0,x.block<W.heap.size:=fun x hx=>by simpa using hW'.lt x (by simp[hx])
  have hlt1:∀x∈p1,x.block<W.heap.size:=fun x hx=>by simpa using hW'.lt x (by simp[hx])
  have hlt2:∀x∈p2,x.block<W.heap.size:=fun x hx=>by simpa using hW'.lt x (by simp[hx])
  refine(AssemblyOpposite_any s0 sv0 s1 sv1 a2 b2 c2 W hL0 hs0 hL1 hs1  (tabs_laid hL)).mono fun e W' ⟨he,hb⟩=> ?_
  subst he
  refine⟨_,rfl,post_law hW' rfl hb (by kernel_rfl) rfl ?_⟩
  rw[Tryz.params3]
  rw[List.append_assoc]
  exact trodAll_mk3 (Below.trod laidOut (by kernel_rfl) (of_decide_eq_true (by kernel_rfl)) h0k hb hlt0) (Below.trod laidOut (by kernel_rfl) (of_decide_eq_true (by kernel_rfl)) h1k hb hlt1) (Below.trod laidOut (by kernel_rfl) (of_decide_eq_true (by kernel_rfl)) h2k hb hlt2)

theorem assemblyOpposite_fn:Tryz.pinned.checked.prog.funcNamed Rows.assemblyOppositeRow.func=some 3:=by kernel_rfl
theorem assemblyOpposite_c1:Rows.assemblyOppositeRow.wfByText (OpenSpec.ofChange Rows.assemblyOppositeSpec)=true:=by kernel_rfl
theorem assemblyOpposite_c2:Tryz.pinned.checked.prog.mainIs=some (Rows.assemblyOppositeCard.stood.harness.1,Rows.assemblyOppositeCard.stood.harness.2.toList):=by kernel_rfl
theorem assemblyOpposite_c3:false=Tryz.pinned.checked.prog.looks []:=by kernel_rfl
theorem assemblyOpposite_c4:([24,24,26].all fun u=> !Tryz.prog.wantsStandIn u)=true:=by kernel_rfl
theorem assemblyOpposite_c5:false=Rows.assemblyOppositeRow.goesBy Tryz.pinned.checked.prog:=by kernel_rfl
theorem assemblyOpposite_row:Rows.AssemblyOppositeSaid:=
  OpenClaim.holds_of_wide 3 Tryz.f3 rfl rfl rfl rfl rfl rfl rfl ⟨rfl,rfl,rfl,rfl,rfl⟩ rfl rfl rfl rfl rfl assemblyOpposite_fn Tryz.func3 assemblyOpposite_closed
    (of_decide_eq_true (by kernel_rfl)) (by unfold Func.isWrapper;first|(rw[if_pos (by decide+kernel)];kernel_rfl)|(rw[if_neg (by decide+kernel)];exact⟨rfl,rfl⟩))
    (fun os started H enc _=>assemblyOpposite_lifted os started H enc)

theorem AssemblyOpposite_holds:Rows.AssemblyOppositeCardSaid:=
  Claim7.holds_tied_plain_at .later [] [.data, .data, .data] true Rows.assemblyOppositeCard.stood.harness false
    assemblyOpposite_row (fun _ h=>by cases h) assemblyOpposite_c1 (fun _ h=>by cases h) assemblyOpposite_row_tie rfl ⟨rfl,rfl⟩ assemblyOpposite_c2 rfl
    (fun f fn hf hfn=>by
      obtain rfl:f=3:=Option.some.inj (assemblyOpposite_fn.symm.trans hf) |>.symm
      obtain rfl:fn=Tryz.f3:=(Option.some.inj (Tryz.func3.symm.trans hfn)).symm
      exact⟨assemblyOpposite_c3,fun j t ht=>by
        rw[Tryz.params3]at ht
        have hm:t∈[24,24,26]:=by simpa using Array.mem_of_getElem? ht
        have hall:=assemblyOpposite_c4
        exact(show Tryz.prog.wantsStandIn t=false by simpa using List.all_eq_true.1 hall t hm)⟩)
    assemblyOpposite_c5
#print axioms AssemblyOpposite_holds
end Go.Proofs.YtoidbolmlckhnaaGreatDoor
