/- THE LAW AssemblyDepths HOLDS: for every list of parts and every number of a part, Depth answers as the reference does Conditions: those of the given card (the listed tables as the program's text lays them). -/
import Derived.Test.YtffbilcjhlncfaaGreatDoorDQS41
import Derived.Test.YtffbilcjhlncfaaGreatDoorDQS45
import Derived.Test.YtffbilcjhlncfaaGreatDoorDQS46
import Derived.Test.YtffbilcjhlncfaaGreatDoorCards
import Derived.Test.YtffbilcjhlncfaaGreatDoorDQS47
namespace Go.Proofs.YtffbilcjhlncfaaGreatDoor
open Go.ChangeShapes Go.WideShapes Go.ChangeAt Go.WideMaps Go.WideElems Go.RowKit

set_option maxRecDepth 100000 in
theorem qgw (os:Os) (started:os.Started) (H:Type) (enc:TypeId×Value→H):
    ReturnsInHanded {} Tryz.checked os 3 .any (fun w args=>(Rows.assemblyDepthsSpec.pre enc Tryz.prog Tryz.f3 [] false w args∧laidMetH Tryz.prog qw w)∧sizedMet enc Tryz.prog Tryz.f3 (OpenSpec.ofChange Rows.assemblyDepthsSpec) false w args)
      (Rows.assemblyDepthsSpec.post enc Tryz.prog Tryz.f3 false true false false):=by
  refine returnsInHanded_of_change_and (C:=Tryz.checked) (X:=fun w _=>laidMetH Tryz.prog qw w) (fun _ _ _ hh h=>h.of_heap hh) own started (by kernel_rfl) Tryz.func3
    (ChangeSpec.witness_shaped (enc:=enc) (C:=Tryz.checked) (os:=os) (X:=fun w _=>laidMetH Tryz.prog qw w) false (World.doorLaid Tryz.prog 400 os) #[.slice none 0 0, .int .i64 0] 8 rfl (World.shaped_of_RefB (by kernel_rfl) (by kernel_rfl)) (by kernel_rfl) (by kernel_rfl) (by kernel_rfl) (wS os _)) ?_
  intro W base args ds gs before hval0 hW _ _ hL _
  have hval:∀(j:Nat) t v,Tryz.f3.params[j]? =some t→args[j]? =some v→Value.okWide Tryz.prog W .any base t v:=hval0
  have hW':=hW
  obtain⟨p,q,hA0,hV,rfl,hfz,hnd⟩:=hW
  have hA:DataW.TrodAll enc Tryz.prog W 0 (fun _=>true) true Tryz.f3.params.toList args.toList ds p:=hA0
  rw[Tryz.params3]at hA hval
  obtain⟨v0,v1,d0,d1,p0,p1,rfl,rfl,rfl,h0,h1⟩:=trodAll_two hA
  obtain⟨rfl,rfl⟩:=trodVars_none hV
  have h0k:=h0
  have h1k:=h1
  obtain⟨l0,hs0,hl0,hL0⟩:=Qa (hval 0 22 v0 rfl rfl) h0
  obtain⟨i1,rfl,_,_,hi1⟩:=open_int eJ (hval 1 3 v1 rfl rfl) h1
  simp only[List.append_nil]at hW'
  have hlt0:∀x∈p0,x.block<W.heap.size:=fun x hx=>by simpa using hW'.lt x (by simp[hx])
  have hlt1:∀x∈p1,x.block<W.heap.size:=fun x hx=>by simpa using hW'.lt x (by simp[hx])
  refine(qgA l0 v0 i1 W hl0 hL0 hs0 hi1 (Qw hL)).mono fun e W' ⟨he,hb⟩=> ?_
  subst he
  refine⟨_,rfl,wU hW' rfl hb (by kernel_rfl) rfl ?_⟩
  rw[Tryz.params3]
  exact trodAll_mk2 (Below.trod sG (by kernel_rfl) (of_decide_eq_true (by kernel_rfl)) h0k hb hlt0) (Below.trod sG (by kernel_rfl) (of_decide_eq_true (by kernel_rfl)) h1k hb hlt1)

theorem assemblyDepths_fn:Tryz.pinned.checked.prog.funcNamed Rows.assemblyDepthsRow.func=some 3:=by kernel_rfl
theorem qhb:Rows.assemblyDepthsRow.wfByText (OpenSpec.ofChange Rows.assemblyDepthsSpec)=true:=by kernel_rfl
theorem qhc:Tryz.pinned.checked.prog.mainIs=some (Rows.assemblyDepthsCard.stood.harness.1,Rows.assemblyDepthsCard.stood.harness.2.toList):=by kernel_rfl
theorem qhd:true=Tryz.pinned.checked.prog.looks []:=by kernel_rfl
theorem qhe:([22,3].all fun u=> !Tryz.prog.wantsStandIn u)=true:=by kernel_rfl
theorem qhf:false=Rows.assemblyDepthsRow.goesBy Tryz.pinned.checked.prog:=by kernel_rfl
theorem qgB:Rows.AssemblyDepthsSaid:=
  OpenClaim.holds_of_wide 3 Tryz.f3 rfl rfl rfl rfl rfl rfl rfl ⟨rfl,rfl,rfl,rfl,rfl⟩ rfl rfl rfl rfl rfl assemblyDepths_fn Tryz.func3 qgv
    (of_decide_eq_true (by kernel_rfl)) (by unfold Func.isWrapper;first|(rw[if_pos (by decide+kernel)];kernel_rfl)|(rw[if_neg (by decide+kernel)];exact⟨rfl,rfl⟩))
    (fun os started H enc _=>qgw os started H enc)

theorem AssemblyDepths_holds:Rows.AssemblyDepthsCardSaid:=
  Claim7.holds_tied_plain_at .later [] [.data, .data, .data] true Rows.assemblyDepthsCard.stood.harness true
    qgB (fun _ h=>by cases h) qhb (fun _ h=>by cases h) assemblyDepths_row_tie rfl ⟨rfl,rfl⟩ qhc rfl
    (fun f fn hf hfn=>by
      obtain rfl:f=3:=Option.some.inj (assemblyDepths_fn.symm.trans hf) |>.symm
      obtain rfl:fn=Tryz.f3:=(Option.some.inj (Tryz.func3.symm.trans hfn)).symm
      exact⟨qhd,fun j t ht=>by
        rw[Tryz.params3]at ht
        have hm:t∈[22,3]:=by simpa using Array.mem_of_getElem? ht
        have hall:=qhe
        exact(show Tryz.prog.wantsStandIn t=false by simpa using List.all_eq_true.1 hall t hm)⟩)
    qhf
#print axioms AssemblyDepths_holds
end Go.Proofs.YtffbilcjhlncfaaGreatDoor
