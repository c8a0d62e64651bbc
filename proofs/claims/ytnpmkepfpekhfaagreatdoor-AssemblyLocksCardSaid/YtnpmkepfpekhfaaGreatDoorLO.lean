/- THE LAW AssemblyLocks HOLDS: for every list of parts and every locked cluster, CheckLocked answers as the reference does. Conditions: those of the given card (the listed tables as the program's text lays them). -/
import Derived.ArgAppend
import Derived.BigQuiet
import Derived.ChangeKeysEq
import Derived.Deep.AppendLies
import Derived.Deep.DeepAppendRoom
import Derived.Deep.DeepAppendWide
import Derived.Deep.DeepCutAuto
import Derived.Deep.QuietTactic
import Derived.Deep.RegionHeld
import Derived.Deep.RegionHeld3
import Derived.Deep.RegionHeldLaw
import Derived.Deep.Slices
import Derived.Deep.Strs
import Derived.DeepKeys4
import Derived.Ground.Names2Prog
import Derived.Ground.SlgnProg
import Derived.JoinedOf
import Derived.KernelRfl
import Derived.LaidMore
import Derived.Laws.AppendOwnNone
import Derived.Laws.StructEq
import Derived.Lib.AppendIntMem
import Derived.Lib.AppendZerosOnto
import Derived.Lib.Hide
import Derived.Lib.ItoaLen
import Derived.Lib.LaidTab
import Derived.Lib.SliceRun
import Derived.Lib.SlicesCompact
import Derived.Lib.SmallJoins
import Derived.LoopIn
import Derived.LoopNIn
import Derived.Maps.AppendAt
import Derived.Maps.OwnSet
import Derived.OpenShut
import Derived.OwnWalkIn
import Derived.ProofKit
import Derived.RangeFuncBound
import Derived.RangeFuncBox
import Derived.RangeFuncCalls
import Derived.RangeFuncFrom
import Derived.RangeFuncLeaves
import Derived.RangeFuncNested
import Derived.RangeFuncWrites
import Derived.SevenTiedAt
import Derived.Shelf.Abstract
import Derived.Shelf.Lays8
import Derived.Shelf.LaysM
import Derived.Shelf.RegionOpen
import Derived.Shelf.Slices.Clone
import Derived.Shelf.SlicesE.Clone
import Derived.Shelf.Small.Bits
import Derived.Shelf.Spec.TrailingZeros
import Derived.Shelf.Strconv.Itoa0
import Derived.Shelf.Strconv.Itoa1
import Derived.Shelf.Strconv.Itoa2
import Derived.Shelf.Strconv.Itoa3
import Derived.Shelf.Strings.Builder1
import Derived.Shelf.Strings.Builder2
import Derived.Shelf.Strings.OnBuilder
import Derived.Sort.Grow
import Derived.StillTail
import Derived.Stop.Joined
import Derived.Stop.LaidErr
import Derived.TacticsInMore
import Derived.WalkKit
import Derived.WalkLawsBesides
import Derived.WalkSpells
import Derived.WideKeyEntry
import Derived.Test.YtnpmkepfpekhfaaGreatDoorCards
import Derived.Test.YtnpmkepfpekhfaaGreatDoorProg
import Derived.Test.YtnpmkepfpekhfaaGreatDoorRows
import Derived.Test.YtnpmkepfpekhfaaGreatDoorSort
import Derived.Test.YtnpmkepfpekhfaaGreatDoorTie
import Derived.Test.YtnpmkepfpekhfaaGreatDoorSIS1
import Derived.Test.YtnpmkepfpekhfaaGreatDoorSIS15
import Derived.Test.YtnpmkepfpekhfaaGreatDoorSIS16
import Derived.Test.YtnpmkepfpekhfaaGreatDoorSIS19
import Derived.Test.YtnpmkepfpekhfaaGreatDoorSIS20
import Derived.Test.YtnpmkepfpekhfaaGreatDoorSIS21
import Derived.Test.YtnpmkepfpekhfaaGreatDoorSIS25
import Derived.Test.YtnpmkepfpekhfaaGreatDoorSIS31
import Derived.Test.YtnpmkepfpekhfaaGreatDoorSIS32
import Derived.Test.YtnpmkepfpekhfaaGreatDoorSIS33
import Derived.Test.YtnpmkepfpekhfaaGreatDoorSIS35
import Derived.Test.YtnpmkepfpekhfaaGreatDoorSIS38
import Derived.Test.YtnpmkepfpekhfaaGreatDoorLOS3
namespace Go.Proofs.YtnpmkepfpekhfaaGreatDoor
open Go.ChangeShapes Go.WideShapes Go.ChangeAt Go.WideMaps Go.WideElems Go.RowKit

set_option maxRecDepth 100000 in
theorem assemblyLocks_lifted (os:Os) (started:os.Started) (H:Type) (enc:TypeId×Value→H):
    ReturnsInHanded {} Tryz.checked os 6 .any (fun w args=>(Rows.assemblyLocksSpec.pre enc Tryz.prog Tryz.f6 [] false w args∧laidMetH Tryz.prog laid3 w)∧sizedMet enc Tryz.prog Tryz.f6 (OpenSpec.ofChange Rows.assemblyLocksSpec) false w args)
      (Rows.assemblyLocksSpec.post enc Tryz.prog Tryz.f6 false true false false):=by
  refine returnsInHanded_of_change_and (C:=Tryz.checked) (X:=fun w _=>laidMetH Tryz.prog laid3 w) (fun _ _ _ hh h=>h.of_heap hh) own started (by kernel_rfl) Tryz.func6
    (ChangeSpec.witness_shaped (enc:=enc) (C:=Tryz.checked) (os:=os) (X:=fun w _=>laidMetH Tryz.prog laid3 w) false (World.doorLaid Tryz.prog 400 os) #[.slice none 0 0, .agg #[.slice none 0 0, .slice none 0 0]] 8 rfl (World.shaped_of_RefB (by kernel_rfl) (by kernel_rfl)) (by kernel_rfl) (by kernel_rfl) (by kernel_rfl) (door_met os _)) ?_
  intro W base args ds gs before hval0 hW _ _ hL _
  have hval:∀(j:Nat) t v,Tryz.f6.params[j]? =some t→args[j]? =some v→Value.okWide Tryz.prog W .any base t v:=hval0
  have hW':=hW
  obtain⟨p,q,hA0,hV,rfl,hfz,hnd⟩:=hW
  have hA:DataW.TrodAll enc Tryz.prog W 0 (fun _=>true) true Tryz.f6.params.toList args.toList ds p:=hA0
  rw[Tryz.params6]at hA hval
  obtain⟨v0,v1,d0,d1,p0,p1,rfl,rfl,rfl,h0,h1⟩:=trodAll_two hA
  obtain⟨rfl,rfl⟩:=trodVars_none hV
  have h0k:=h0
  have h1k:=h1
  obtain⟨l0,hs0,hl0,hL0⟩:=open_solids (hval 0 22 v0 rfl rfl) h0
  obtain⟨cs1,ws1,cv1,wv1,rfl,hcm1,hc1,hwm1,hw1,hww1⟩:=open_locked (hval 1 53 v1 rfl rfl) h1
  simp only[List.append_nil]at hW'
  have hlt0:∀x∈p0,x.block<W.heap.size:=fun x hx=>by simpa using hW'.lt x (by simp[hx])
  have hlt1:∀x∈p1,x.block<W.heap.size:=fun x hx=>by simpa using hW'.lt x (by simp[hx])
  refine(AssemblyLocks_any l0 v0 cs1 ws1 cv1 wv1 W hl0 hL0 hs0 hcm1 hc1 hwm1 hw1 hww1 (tabs_laid hL)).mono fun e W' ⟨he,hb⟩=> ?_
  subst he
  refine⟨_,rfl,post_law hW' rfl hb (by kernel_rfl) rfl ?_⟩
  rw[Tryz.params6]
  exact trodAll_mk2 (Below.trod laidOut (by kernel_rfl) (of_decide_eq_true (by kernel_rfl)) h0k hb hlt0) (Below.trod laidOut (by kernel_rfl) (of_decide_eq_true (by kernel_rfl)) h1k hb hlt1)

theorem assemblyLocks_fn:Tryz.pinned.checked.prog.funcNamed Rows.assemblyLocksRow.func=some 6:=by kernel_rfl
theorem assemblyLocks_c1:Rows.assemblyLocksRow.wfByText (OpenSpec.ofChange Rows.assemblyLocksSpec)=true:=by kernel_rfl
theorem assemblyLocks_c2:Tryz.pinned.checked.prog.mainIs=some (Rows.assemblyLocksCard.stood.harness.1,Rows.assemblyLocksCard.stood.harness.2.toList):=by kernel_rfl
theorem assemblyLocks_c3:false=Tryz.pinned.checked.prog.looks []:=by kernel_rfl
theorem assemblyLocks_c4:([22,53].all fun u=> !Tryz.prog.wantsStandIn u)=true:=by kernel_rfl
theorem assemblyLocks_c5:false=Rows.assemblyLocksRow.goesBy Tryz.pinned.checked.prog:=by kernel_rfl
theorem assemblyLocks_row:Rows.AssemblyLocksSaid:=
  OpenClaim.holds_of_wide 6 Tryz.f6 rfl rfl rfl rfl rfl rfl rfl ⟨rfl,rfl,rfl,rfl,rfl⟩ rfl rfl rfl rfl rfl assemblyLocks_fn Tryz.func6 assemblyLocks_closed
    (of_decide_eq_true (by kernel_rfl)) (by unfold Func.isWrapper;first|(rw[if_pos (by decide+kernel)];kernel_rfl)|(rw[if_neg (by decide+kernel)];exact⟨rfl,rfl⟩))
    (fun os started H enc _=>assemblyLocks_lifted os started H enc)

theorem AssemblyLocks_holds:Rows.AssemblyLocksCardSaid:=
  Claim7.holds_tied_plain_at .later [] [.data, .data, .data] true Rows.assemblyLocksCard.stood.harness false
    assemblyLocks_row (fun _ h=>by cases h) assemblyLocks_c1 (fun _ h=>by cases h) assemblyLocks_row_tie rfl ⟨rfl,rfl⟩ assemblyLocks_c2 rfl
    (fun f fn hf hfn=>by
      obtain rfl:f=6:=Option.some.inj (assemblyLocks_fn.symm.trans hf) |>.symm
      obtain rfl:fn=Tryz.f6:=(Option.some.inj (Tryz.func6.symm.trans hfn)).symm
      exact⟨assemblyLocks_c3,fun j t ht=>by
        rw[Tryz.params6]at ht
        have hm:t∈[22,53]:=by simpa using Array.mem_of_getElem? ht
        have hall:=assemblyLocks_c4
        exact(show Tryz.prog.wantsStandIn t=false by simpa using List.all_eq_true.1 hall t hm)⟩)
    assemblyLocks_c5
#print axioms AssemblyLocks_holds
end Go.Proofs.YtnpmkepfpekhfaaGreatDoor
