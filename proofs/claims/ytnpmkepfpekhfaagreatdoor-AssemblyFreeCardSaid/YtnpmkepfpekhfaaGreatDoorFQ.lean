/- THE LAW AssemblyFree HOLDS: for every list of parts, the ways in which each part moves out alone, or the error, are as specified. Conditions: those of the given card (the listed tables as the program's text lays them). -/
import Derived.ArgAppend
import Derived.BigQuiet
import Derived.ChangeKeysEq
import Derived.Deep.AppendLies
import Derived.Deep.DeepAppendRoom
import Derived.Deep.DeepAppendWide
import Derived.Deep.DeepCutAuto
import Derived.Deep.QuietTactic
import Derived.Deep.RegionHeld
import Derived.Deep.RegionHeld3
import Derived.Deep.RegionHeldLaw
import Derived.Deep.Slices
import Derived.Deep.Strs
import Derived.DeepKeys4
import Derived.Ground.Names2Prog
import Derived.Ground.SlgnProg
import Derived.JoinedOf
import Derived.KernelRfl
import Derived.LaidMore
import Derived.Laws.AppendOwnNone
import Derived.Laws.StructEq
import Derived.Lib.AppendIntMem
import Derived.Lib.AppendZerosOnto
import Derived.Lib.Hide
import Derived.Lib.ItoaLen
import Derived.Lib.LaidTab
import Derived.Lib.SliceRun
import Derived.Lib.SlicesCompact
import Derived.Lib.SmallJoins
import Derived.LoopIn
import Derived.LoopNIn
import Derived.Maps.AppendAt
import Derived.Maps.OwnIn
import Derived.Maps.OwnSet
import Derived.OpenShut
import Derived.OwnWalkIn
import Derived.ProofKit
import Derived.RangeFuncBound
import Derived.RangeFuncBox
import Derived.RangeFuncCalls
import Derived.RangeFuncFrom
import Derived.RangeFuncLeaves
import Derived.RangeFuncNested
import Derived.RangeFuncWrites
import Derived.SevenTiedAt
import Derived.Shelf.Abstract
import Derived.Shelf.Lays8
import Derived.Shelf.LaysM
import Derived.Shelf.RegionOpen
import Derived.Shelf.Slices.Clone
import Derived.Shelf.SlicesE.Clone
import Derived.Shelf.Small.Bits
import Derived.Shelf.Spec.TrailingZeros
import Derived.Shelf.Strconv.Itoa0
import Derived.Shelf.Strconv.Itoa1
import Derived.Shelf.Strconv.Itoa2
import Derived.Shelf.Strconv.Itoa3
import Derived.Shelf.Strings.Builder1
import Derived.Shelf.Strings.Builder2
import Derived.Shelf.Strings.OnBuilder
import Derived.Sort.Grow
import Derived.StillTail
import Derived.Stop.Joined
import Derived.Stop.LaidErr
import Derived.TacticsInMore
import Derived.WalkKit
import Derived.WalkLawsBesides
import Derived.WalkSpells
import Derived.WideKeyEntry
import Derived.Test.YtnpmkepfpekhfaaGreatDoorCards
import Derived.Test.YtnpmkepfpekhfaaGreatDoorProg
import Derived.Test.YtnpmkepfpekhfaaGreatDoorRows
import Derived.Test.YtnpmkepfpekhfaaGreatDoorSort
import Derived.Test.YtnpmkepfpekhfaaGreatDoorTie
import Derived.Test.YtnpmkepfpekhfaaGreatDoorGGS1
import Derived.Test.YtnpmkepfpekhfaaGreatDoorGGS14
import Derived.Test.YtnpmkepfpekhfaaGreatDoorGGS15
import Derived.Test.YtnpmkepfpekhfaaGreatDoorGGS18
import Derived.Test.YtnpmkepfpekhfaaGreatDoorGGS19
import Derived.Test.YtnpmkepfpekhfaaGreatDoorGGS20
import Derived.Test.YtnpmkepfpekhfaaGreatDoorGGS26
import Derived.Test.YtnpmkepfpekhfaaGreatDoorGGS33
import Derived.Test.YtnpmkepfpekhfaaGreatDoorGGS34
import Derived.Test.YtnpmkepfpekhfaaGreatDoorGGS35
import Derived.Test.YtnpmkepfpekhfaaGreatDoorGGS36
import Derived.Test.YtnpmkepfpekhfaaGreatDoorGGS39
import Derived.Test.YtnpmkepfpekhfaaGreatDoorFQS3
namespace Go.Proofs.YtnpmkepfpekhfaaGreatDoor
open Go.ChangeShapes Go.WideShapes Go.ChangeAt Go.WideMaps Go.WideElems Go.RowKit

set_option maxRecDepth 100000 in
theorem assemblyFree_lifted (os:Os) (started:os.Started) (H:Type) (enc:TypeId×Value→H):
    ReturnsInHanded {} Tryz.checked os 3 .any (fun w args=>(Rows.assemblyFreeSpec.pre enc Tryz.prog Tryz.f3 [] false w args∧laidMetH Tryz.prog laid3 w)∧sizedMet enc Tryz.prog Tryz.f3 (OpenSpec.ofChange Rows.assemblyFreeSpec) false w args)
      (Rows.assemblyFreeSpec.post enc Tryz.prog Tryz.f3 false true false false):=by
  refine returnsInHanded_of_change_and (C:=Tryz.checked) (X:=fun w _=>laidMetH Tryz.prog laid3 w) (fun _ _ _ hh h=>h.of_heap hh) own started (by kernel_rfl) Tryz.func3
    (ChangeSpec.witness_shaped (enc:=enc) (C:=Tryz.checked) (os:=os) (X:=fun w _=>laidMetH Tryz.prog laid3 w) false (World.doorLaid Tryz.prog 400 os) #[.slice none 0 0] 8 rfl (World.shaped_of_RefB (by kernel_rfl) (by kernel_rfl)) (by kernel_rfl) (by kernel_rfl) (by kernel_rfl) (door_met os _)) ?_
  intro W base args ds gs before hval0 hW _ _ hL _
  have hval:∀(j:Nat) t v,Tryz.f3.params[j]? =some t→args[j]? =some v→Value.okWide Tryz.prog W .any base t v:=hval0
  have hW':=hW
  obtain⟨p,q,hA0,hV,rfl,hfz,hnd⟩:=hW
  have hA:DataW.TrodAll enc Tryz.prog W 0 (fun _=>true) true Tryz.f3.params.toList args.toList ds p:=hA0
  rw[Tryz.params3]at hA hval
  obtain⟨v0,d0,rfl,rfl,h0⟩:=trodAll_one hA
  obtain⟨rfl,rfl⟩:=trodVars_none hV
  have h0k:=h0
  obtain⟨l0,hs0,hl0,hL0⟩:=open_solids (hval 0 22 v0 rfl rfl) h0
  simp only[List.append_nil]at hW'
  have hlt0:∀x∈p,x.block<W.heap.size:=fun x hx=>by simpa using hW'.lt x hx
  refine(AssemblyFree_any l0 v0 W hl0 hL0 hs0 (tabs_laid hL)).mono fun e W' ⟨he,hb⟩=> ?_
  subst he
  refine⟨_,rfl,post_law hW' rfl hb (by kernel_rfl) rfl ?_⟩
  rw[Tryz.params3]
  exact trodAll_mk1 (Below.trod laidOut (by kernel_rfl) (of_decide_eq_true (by kernel_rfl)) h0k hb hlt0)

theorem assemblyFree_fn:Tryz.pinned.checked.prog.funcNamed Rows.assemblyFreeRow.func=some 3:=by kernel_rfl
theorem assemblyFree_c1:Rows.assemblyFreeRow.wfByText (OpenSpec.ofChange Rows.assemblyFreeSpec)=true:=by kernel_rfl
theorem assemblyFree_c2:Tryz.pinned.checked.prog.mainIs=some (Rows.assemblyFreeCard.stood.harness.1,Rows.assemblyFreeCard.stood.harness.2.toList):=by kernel_rfl
theorem assemblyFree_c3:false=Tryz.pinned.checked.prog.looks []:=by kernel_rfl
theorem assemblyFree_c4:([22].all fun u=> !Tryz.prog.wantsStandIn u)=true:=by kernel_rfl
theorem assemblyFree_c5:false=Rows.assemblyFreeRow.goesBy Tryz.pinned.checked.prog:=by kernel_rfl
theorem assemblyFree_row:Rows.AssemblyFreeSaid:=
  OpenClaim.holds_of_wide 3 Tryz.f3 rfl rfl rfl rfl rfl rfl rfl ⟨rfl,rfl,rfl,rfl,rfl⟩ rfl rfl rfl rfl rfl assemblyFree_fn Tryz.func3 assemblyFree_closed
    (of_decide_eq_true (by kernel_rfl)) (by unfold Func.isWrapper;first|(rw[if_pos (by decide+kernel)];kernel_rfl)|(rw[if_neg (by decide+kernel)];exact⟨rfl,rfl⟩))
    (fun os started H enc _=>assemblyFree_lifted os started H enc)

theorem AssemblyFree_holds:Rows.AssemblyFreeCardSaid:=
  Claim7.holds_tied_plain_at .later [] [.data, .data, .data] true Rows.assemblyFreeCard.stood.harness false
    assemblyFree_row (fun _ h=>by cases h) assemblyFree_c1 (fun _ h=>by cases h) assemblyFree_row_tie rfl ⟨rfl,rfl⟩ assemblyFree_c2 rfl
    (fun f fn hf hfn=>by
      obtain rfl:f=3:=Option.some.inj (assemblyFree_fn.symm.trans hf) |>.symm
      obtain rfl:fn=Tryz.f3:=(Option.some.inj (Tryz.func3.symm.trans hfn)).symm
      exact⟨assemblyFree_c3,fun j t ht=>by
        rw[Tryz.params3]at ht
        have hm:t∈[22]:=by simpa using Array.mem_of_getElem? ht
        have hall:=assemblyFree_c4
        exact(show Tryz.prog.wantsStandIn t=false by simpa using List.all_eq_true.1 hall t hm)⟩)
    assemblyFree_c5
#print axioms AssemblyFree_holds
end Go.Proofs.YtnpmkepfpekhfaaGreatDoor
