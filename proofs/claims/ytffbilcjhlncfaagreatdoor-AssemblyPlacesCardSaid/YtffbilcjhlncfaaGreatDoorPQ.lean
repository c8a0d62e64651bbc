/- THE LAW AssemblyPlaces HOLDS: for every list of parts, every set and every vector, At answers as the reference does Conditions: those of the given card (the listed tables as the program's text lays them). -/
import Derived.ArgAppend
import Derived.BigQuiet
import Derived.ChangeKeysEq
import Derived.Deep.AppendLies
import Derived.Deep.DeepAppendRoom
import Derived.Deep.DeepAppendWide
import Derived.Deep.DeepCutAuto
import Derived.Deep.QuietTactic
import Derived.Deep.RegionHeld
import Derived.Deep.RegionHeld3
import Derived.Deep.RegionHeldLaw
import Derived.Deep.Slices
import Derived.Deep.Strs
import Derived.DeepKeys4
import Derived.JoinedOf
import Derived.KernelRfl
import Derived.LaidMore
import Derived.Laws.AppendOwnNone
import Derived.Laws.StructEq
import Derived.Lib.AppendIntMem
import Derived.Lib.AppendZerosOnto
import Derived.Lib.Hide
import Derived.Lib.ItoaLen
import Derived.Lib.LaidTab
import Derived.Lib.SliceRun
import Derived.Lib.SlicesCompact
import Derived.Lib.SmallJoins
import Derived.LoopIn
import Derived.LoopNIn
import Derived.Maps.AppendAt
import Derived.Maps.OwnSet
import Derived.OpenShut
import Derived.OwnWalkIn
import Derived.ProofKit
import Derived.RangeFuncBound
import Derived.RangeFuncBox
import Derived.RangeFuncCalls
import Derived.RangeFuncFrom
import Derived.RangeFuncLeaves
import Derived.RangeFuncNested
import Derived.RangeFuncWrites
import Derived.SevenTiedAt
import Derived.Shelf.Abstract
import Derived.Shelf.Lays8
import Derived.Shelf.LaysM
import Derived.Shelf.RegionOpen
import Derived.Shelf.Slices.Turned
import Derived.Shelf.Small.Bits
import Derived.Shelf.Small.Strs
import Derived.Shelf.Spec.TrailingZeros
import Derived.Shelf.Strconv.Itoa0
import Derived.Shelf.Strconv.Itoa1
import Derived.Shelf.Strconv.Itoa2
import Derived.Shelf.Strconv.Itoa3
import Derived.Shelf.Strings.Builder1
import Derived.Shelf.Strings.Builder2
import Derived.Shelf.Strings.Builder2Cap
import Derived.Shelf.Strings.BuilderCap
import Derived.Shelf.Strings.BuilderF
import Derived.Shelf.Strings.BuilderK
import Derived.Shelf.Strings.Count
import Derived.Shelf.Strings.OnBuilder
import Derived.Shelf.Strings.Search1
import Derived.Shelf.Strings.Search2
import Derived.Shelf.Strings.Search3
import Derived.Shelf.Strings.Shaped
import Derived.Shelf.Unicode.DecodeSlow
import Derived.Sort.Grow
import Derived.StillTail
import Derived.Stop.Joined
import Derived.Stop.LaidErr
import Derived.TacticsInMore
import Derived.WalkKit
import Derived.WalkLawsBesides
import Derived.WalkSpells
import Derived.WideKeyEntry
import Derived.Test.YtffbilcjhlncfaaGreatDoorCards
import Derived.Test.YtffbilcjhlncfaaGreatDoorProg
import Derived.Test.YtffbilcjhlncfaaGreatDoorRows
import Derived.Test.YtffbilcjhlncfaaGreatDoorSort
import Derived.Test.YtffbilcjhlncfaaGreatDoorTie
import Derived.Test.YtffbilcjhlncfaaGreatDoorDQS1
import Derived.Test.YtffbilcjhlncfaaGreatDoorDQS14
import Derived.Test.YtffbilcjhlncfaaGreatDoorDQS17
import Derived.Test.YtffbilcjhlncfaaGreatDoorDQS18
import Derived.Test.YtffbilcjhlncfaaGreatDoorDQS19
import Derived.Test.YtffbilcjhlncfaaGreatDoorDQS20
import Derived.Test.YtffbilcjhlncfaaGreatDoorDQS23
import Derived.Test.YtffbilcjhlncfaaGreatDoorDQS30
import Derived.Test.YtffbilcjhlncfaaGreatDoorDQS31
import Derived.Test.YtffbilcjhlncfaaGreatDoorDQS32
import Derived.Test.YtffbilcjhlncfaaGreatDoorDQS33
import Derived.Test.YtffbilcjhlncfaaGreatDoorDQS34
import Derived.Test.YtffbilcjhlncfaaGreatDoorPQS5
namespace Go.Proofs.YtffbilcjhlncfaaGreatDoor
open Go.ChangeShapes Go.WideShapes Go.ChangeAt Go.WideMaps Go.WideElems Go.RowKit

set_option maxRecDepth 100000 in
theorem assemblyPlaces_lifted (os:Os) (started:os.Started) (H:Type) (enc:TypeId×Value→H):
    ReturnsInHanded {} Tryz.checked os 4 .any (fun w args=>(Rows.assemblyPlacesSpec.pre enc Tryz.prog Tryz.f4 [] false w args∧laidMetH Tryz.prog laid3 w)∧sizedMet enc Tryz.prog Tryz.f4 (OpenSpec.ofChange Rows.assemblyPlacesSpec) false w args)
      (Rows.assemblyPlacesSpec.post enc Tryz.prog Tryz.f4 false true false false):=by
  refine returnsInHanded_of_change_and (C:=Tryz.checked) (X:=fun w _=>laidMetH Tryz.prog laid3 w) (fun _ _ _ hh h=>h.of_heap hh) own started (by kernel_rfl) Tryz.func4
    (ChangeSpec.witness_shaped (enc:=enc) (C:=Tryz.checked) (os:=os) (X:=fun w _=>laidMetH Tryz.prog laid3 w) false (World.doorLaid Tryz.prog 400 os) #[.slice none 0 0, .slice none 0 0, .agg #[.int .i64 0, .int .i64 0, .int .i64 0]] 8 rfl (World.shaped_of_RefB (by kernel_rfl) (by kernel_rfl)) (by kernel_rfl) (by kernel_rfl) (by kernel_rfl) (door_met os _)) ?_
  intro W base args ds gs before hval0 hW _ _ hL _
  have hval:∀(j:Nat) t v,Tryz.f4.params[j]? =some t→args[j]? =some v→Value.okWide Tryz.prog W .any base t v:=hval0
  have hW':=hW
  obtain⟨p,q,hA0,hV,rfl,hfz,hnd⟩:=hW
  have hA:DataW.TrodAll enc Tryz.prog W 0 (fun _=>true) true Tryz.f4.params.toList args.toList ds p:=hA0
  rw[Tryz.params4]at hA hval
  obtain⟨v0,v1,v2,d0,d1,d2,p0,p1,p2,rfl,rfl,rfl,h0,h1,h2⟩:=trodAll_three hA
  obtain⟨rfl,rfl⟩:=trodVars_none hV
  have h0k:=h0
  have h1k:=h1
  have h2k:=h2
  obtain⟨l0,hs0,hl0,hL0⟩:=open_solids (hval 0 22 v0 rfl rfl) h0
  obtain⟨n1,hn1,hnil1,hx1⟩:=open_numbers (hval 1 34 v1 rfl rfl) h1
  obtain⟨a2,b2,c2,rfl,ha2⟩:=open_arr3 (hval 2 37 v2 rfl rfl) h2
  simp only[List.append_nil]at hW'
  have hlt0:∀x∈p0,x.block<W.heap.size:=fun x hx=>by simpa using hW'.lt x (by simp[hx])
  have hlt1:∀x∈p1,x.block<W.heap.size:=fun x hx=>by simpa using hW'.lt x (by simp[hx])
  have hlt2:∀x∈p2,x.block<W.heap.size:=fun x hx=>by simpa using hW'.lt x (by simp[hx])
  refine(AssemblyPlaces_any l0 v0 n1 v1 a2 b2 c2 W hl0 hL0 hs0 hx1 hn1 hnil1 ha2 (tabs_laid hL)).mono fun e W' ⟨he,hb⟩=> ?_
  subst he
  refine⟨_,rfl,post_law hW' rfl hb (by kernel_rfl) rfl ?_⟩
  rw[Tryz.params4]
  rw[List.append_assoc]
  exact trodAll_mk3 (Below.trod laidOut (by kernel_rfl) (of_decide_eq_true (by kernel_rfl)) h0k hb hlt0) (Below.trod laidOut (by kernel_rfl) (of_decide_eq_true (by kernel_rfl)) h1k hb hlt1) (Below.trod laidOut (by kernel_rfl) (of_decide_eq_true (by kernel_rfl)) h2k hb hlt2)

theorem assemblyPlaces_fn:Tryz.pinned.checked.prog.funcNamed Rows.assemblyPlacesRow.func=some 4:=by kernel_rfl
theorem assemblyPlaces_c1:Rows.assemblyPlacesRow.wfByText (OpenSpec.ofChange Rows.assemblyPlacesSpec)=true:=by kernel_rfl
theorem assemblyPlaces_c2:Tryz.pinned.checked.prog.mainIs=some (Rows.assemblyPlacesCard.stood.harness.1,Rows.assemblyPlacesCard.stood.harness.2.toList):=by kernel_rfl
theorem assemblyPlaces_c3:true=Tryz.pinned.checked.prog.looks []:=by kernel_rfl
theorem assemblyPlaces_c4:([22,34,37].all fun u=> !Tryz.prog.wantsStandIn u)=true:=by kernel_rfl
theorem assemblyPlaces_c5:false=Rows.assemblyPlacesRow.goesBy Tryz.pinned.checked.prog:=by kernel_rfl
theorem assemblyPlaces_row:Rows.AssemblyPlacesSaid:=
  OpenClaim.holds_of_wide 4 Tryz.f4 rfl rfl rfl rfl rfl rfl rfl ⟨rfl,rfl,rfl,rfl,rfl⟩ rfl rfl rfl rfl rfl assemblyPlaces_fn Tryz.func4 assemblyPlaces_closed
    (of_decide_eq_true (by kernel_rfl)) (by unfold Func.isWrapper;first|(rw[if_pos (by decide+kernel)];kernel_rfl)|(rw[if_neg (by decide+kernel)];exact⟨rfl,rfl⟩))
    (fun os started H enc _=>assemblyPlaces_lifted os started H enc)

theorem AssemblyPlaces_holds:Rows.AssemblyPlacesCardSaid:=
  Claim7.holds_tied_plain_at .later [] [.data, .data, .data] true Rows.assemblyPlacesCard.stood.harness true
    assemblyPlaces_row (fun _ h=>by cases h) assemblyPlaces_c1 (fun _ h=>by cases h) assemblyPlaces_row_tie rfl ⟨rfl,rfl⟩ assemblyPlaces_c2 rfl
    (fun f fn hf hfn=>by
      obtain rfl:f=4:=Option.some.inj (assemblyPlaces_fn.symm.trans hf) |>.symm
      obtain rfl:fn=Tryz.f4:=(Option.some.inj (Tryz.func4.symm.trans hfn)).symm
      exact⟨assemblyPlaces_c3,fun j t ht=>by
        rw[Tryz.params4]at ht
        have hm:t∈[22,34,37]:=by simpa using Array.mem_of_getElem? ht
        have hall:=assemblyPlaces_c4
        exact(show Tryz.prog.wantsStandIn t=false by simpa using List.all_eq_true.1 hall t hm)⟩)
    assemblyPlaces_c5
#print axioms AssemblyPlaces_holds
end Go.Proofs.YtffbilcjhlncfaaGreatDoor
