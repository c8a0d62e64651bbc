/- THE LAW AssemblyBlocks HOLDS: for every two solids and every way, whether the one is blocked by the other, or the error, is as specified. Conditions: those of the given card (the listed tables as the program's text lays them). -/
import Derived.Test.YtleamcmbhioedaaGreatDoorBKS43
import Derived.Test.YtleamcmbhioedaaGreatDoorBKS46
import Derived.Test.YtleamcmbhioedaaGreatDoorBKS47
import Derived.Test.YtleamcmbhioedaaGreatDoorCards
import Derived.Test.YtleamcmbhioedaaGreatDoorBKS48
namespace Go.Proofs.YtleamcmbhioedaaGreatDoor
open Go.ChangeShapes Go.WideShapes Go.ChangeAt Go.WideMaps Go.WideElems Go.RowKit

set_option maxRecDepth 100000 in
theorem Rn (os:Os) (started:os.Started) (H:Type) (enc:TypeId×Value→H):
    ReturnsInHanded {} Tryz.checked os 4 .any (fun w args=>(Rows.assemblyBlocksSpec.pre enc Tryz.prog Tryz.f4 [] false w args∧laidMetH Tryz.prog qw w)∧sizedMet enc Tryz.prog Tryz.f4 (OpenSpec.ofChange Rows.assemblyBlocksSpec) false w args)
      (Rows.assemblyBlocksSpec.post enc Tryz.prog Tryz.f4 false true false false):=by
  refine returnsInHanded_of_change_and (C:=Tryz.checked) (X:=fun w _=>laidMetH Tryz.prog qw w) (fun _ _ _ hh h=>h.of_heap hh) own started (by kernel_rfl) Tryz.func4
    (ChangeSpec.witness_shaped (enc:=enc) (C:=Tryz.checked) (os:=os) (X:=fun w _=>laidMetH Tryz.prog qw w) false (World.doorLaid Tryz.prog 400 os) #[.agg #[.slice none 0 0], .agg #[.slice none 0 0], .agg #[.int .i64 0, .int .i64 0, .int .i64 0]] 8 rfl (World.shaped_of_RefB (by kernel_rfl) (by kernel_rfl)) (by kernel_rfl) (by kernel_rfl) (by kernel_rfl) (wS os _)) ?_
  intro W base args ds gs before hval0 hW _ _ hL _
  have hval:∀(j:Nat) t v,Tryz.f4.params[j]? =some t→args[j]? =some v→Value.okWide Tryz.prog W .any base t v:=hval0
  have hW':=hW
  obtain⟨p,q,hA0,hV,rfl,hfz,hnd⟩:=hW
  have hA:DataW.TrodAll enc Tryz.prog W 0 (fun _=>true) true Tryz.f4.params.toList args.toList ds p:=hA0
  rw[Tryz.params4]at hA hval
  obtain⟨v0,v1,v2,d0,d1,d2,p0,p1,p2,rfl,rfl,rfl,h0,h1,h2⟩:=trodAll_three hA
  obtain⟨rfl,rfl⟩:=trodVars_none hV
  have h0k:=h0
  have h1k:=h1
  have h2k:=h2
  obtain⟨sv0,s0,rfl,hs0,hL0⟩:=Sm (hval 0 31 v0 rfl rfl) h0
  obtain⟨sv1,s1,rfl,hs1,hL1⟩:=Sm (hval 1 31 v1 rfl rfl) h1
  obtain⟨a2,b2,c2,rfl,_⟩:=KG (hval 2 33 v2 rfl rfl) h2
  simp only[List.append_nil]at hW'
  have hlt0:∀x∈p0,x.block<W.heap.size:=fun x hx=>by simpa using hW'.lt x (by simp[hx])
  have hlt1:∀x∈p1,x.block<W.heap.size:=fun x hx=>by simpa using hW'.lt x (by simp[hx])
  have hlt2:∀x∈p2,x.block<W.heap.size:=fun x hx=>by simpa using hW'.lt x (by simp[hx])
  refine(Rs s0 s1 sv0 sv1 a2 b2 c2 W hL0.1 hL1.1 hs0 hs1 (Qw hL)).mono fun e W' ⟨he,hb⟩=> ?_
  subst he
  refine⟨_,rfl,wU hW' rfl hb (by kernel_rfl) rfl ?_⟩
  rw[Tryz.params4]
  rw[List.append_assoc]
  exact trodAll_mk3 (Below.trod sG (by kernel_rfl) (of_decide_eq_true (by kernel_rfl)) h0k hb hlt0) (Below.trod sG (by kernel_rfl) (of_decide_eq_true (by kernel_rfl)) h1k hb hlt1) (Below.trod sG (by kernel_rfl) (of_decide_eq_true (by kernel_rfl)) h2k hb hlt2)

theorem assemblyBlocks_fn:Tryz.pinned.checked.prog.funcNamed Rows.assemblyBlocksRow.func=some 4:=by kernel_rfl
theorem RU:Rows.assemblyBlocksRow.wfByText (OpenSpec.ofChange Rows.assemblyBlocksSpec)=true:=by kernel_rfl
theorem RW:Tryz.pinned.checked.prog.mainIs=some (Rows.assemblyBlocksCard.stood.harness.1,Rows.assemblyBlocksCard.stood.harness.2.toList):=by kernel_rfl
theorem RX:false=Tryz.pinned.checked.prog.looks []:=by kernel_rfl
theorem RY:([31,31,33].all fun u=> !Tryz.prog.wantsStandIn u)=true:=by kernel_rfl
theorem RZ:false=Rows.assemblyBlocksRow.goesBy Tryz.pinned.checked.prog:=by kernel_rfl
theorem Rt:Rows.AssemblyBlocksSaid:=
  OpenClaim.holds_of_wide 4 Tryz.f4 rfl rfl rfl rfl rfl rfl rfl ⟨rfl,rfl,rfl,rfl,rfl⟩ rfl rfl rfl rfl rfl assemblyBlocks_fn Tryz.func4 Rm
    (of_decide_eq_true (by kernel_rfl)) (by unfold Func.isWrapper;first|(rw[if_pos (by decide+kernel)];kernel_rfl)|(rw[if_neg (by decide+kernel)];exact⟨rfl,rfl⟩))
    (fun os started H enc _=>Rn os started H enc)

theorem AssemblyBlocks_holds:Rows.AssemblyBlocksCardSaid:=
  Claim7.holds_tied_plain_at .later [] [.data, .data, .data] true Rows.assemblyBlocksCard.stood.harness false
    Rt (fun _ h=>by cases h) RU (fun _ h=>by cases h) assemblyBlocks_row_tie rfl ⟨rfl,rfl⟩ RW rfl
    (fun f fn hf hfn=>by
      obtain rfl:f=4:=Option.some.inj (assemblyBlocks_fn.symm.trans hf) |>.symm
      obtain rfl:fn=Tryz.f4:=(Option.some.inj (Tryz.func4.symm.trans hfn)).symm
      exact⟨RX,fun j t ht=>by
        rw[Tryz.params4]at ht
        have hm:t∈[31,31,33]:=by simpa using Array.mem_of_getElem? ht
        have hall:=RY
        exact(show Tryz.prog.wantsStandIn t=false by simpa using List.all_eq_true.1 hall t hm)⟩)
    RZ
#print axioms AssemblyBlocks_holds
end Go.Proofs.YtleamcmbhioedaaGreatDoor
