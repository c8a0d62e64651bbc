/- THE LAW AssemblyAccepts HOLDS: for every list of parts and every list of splits, CheckPlan and Manual answer as the reference does. Conditions: those of the given card (the listed tables as the program's text lays them). -/
import Derived.Test.YtnpmkepfpekhfaaGreatDoorAQS43
import Derived.Test.YtnpmkepfpekhfaaGreatDoorAQS49
import Derived.Test.YtnpmkepfpekhfaaGreatDoorCards
import Derived.Test.YtnpmkepfpekhfaaGreatDoorAQS50
namespace Go.Proofs.YtnpmkepfpekhfaaGreatDoor
open Go.ChangeShapes Go.WideShapes Go.ChangeAt Go.WideMaps Go.WideElems Go.RowKit

set_option maxRecDepth 100000 in
theorem qdJ (os:Os) (started:os.Started) (H:Type) (enc:TypeId×Value→H):
    ReturnsInHanded {} Tryz.checked os 7 .any (fun w args=>(Rows.assemblyAcceptsSpec.pre enc Tryz.prog Tryz.f7 [] false w args∧laidMetH Tryz.prog qw w)∧sizedMet enc Tryz.prog Tryz.f7 (OpenSpec.ofChange Rows.assemblyAcceptsSpec) false w args)
      (Rows.assemblyAcceptsSpec.post enc Tryz.prog Tryz.f7 false true false false):=by
  refine returnsInHanded_of_change_and (C:=Tryz.checked) (X:=fun w _=>laidMetH Tryz.prog qw w) (fun _ _ _ hh h=>h.of_heap hh) own started (by kernel_rfl) Tryz.func7
    (ChangeSpec.witness_shaped (enc:=enc) (C:=Tryz.checked) (os:=os) (X:=fun w _=>laidMetH Tryz.prog qw w) false (World.doorLaid Tryz.prog 400 os) #[.slice none 0 0, .slice none 0 0] 8 rfl (World.shaped_of_RefB (by kernel_rfl) (by kernel_rfl)) (by kernel_rfl) (by kernel_rfl) (by kernel_rfl) (wS os _)) ?_
  intro W base args ds gs before hval0 hW _ _ hL _
  have hval:∀(j:Nat) t v,Tryz.f7.params[j]? =some t→args[j]? =some v→Value.okWide Tryz.prog W .any base t v:=hval0
  have hW':=hW
  obtain⟨p,q,hA0,hV,rfl,hfz,hnd⟩:=hW
  have hA:DataW.TrodAll enc Tryz.prog W 0 (fun _=>true) true Tryz.f7.params.toList args.toList ds p:=hA0
  rw[Tryz.params7]at hA hval
  obtain⟨v0,v1,d0,d1,p0,p1,rfl,rfl,rfl,h0,h1⟩:=trodAll_two hA
  obtain⟨rfl,rfl⟩:=trodVars_none hV
  have h0k:=h0
  have h1k:=h1
  obtain⟨l0,hs0,hl0,hL0⟩:=Qa (hval 0 22 v0 rfl rfl) h0
  obtain⟨sp1,hps1,hpl1,hpL1⟩:=qeU (hval 1 58 v1 rfl rfl) h1
  simp only[List.append_nil]at hW'
  have hlt0:∀x∈p0,x.block<W.heap.size:=fun x hx=>by simpa using hW'.lt x (by simp[hx])
  have hlt1:∀x∈p1,x.block<W.heap.size:=fun x hx=>by simpa using hW'.lt x (by simp[hx])
  refine(qdL l0 v0 sp1 v1 W hl0 hL0 hs0 hpl1 hpL1 hps1 (Qw hL)).mono fun e W' ⟨he,hb⟩=> ?_
  subst he
  refine⟨_,rfl,wU hW' rfl hb (by kernel_rfl) rfl ?_⟩
  rw[Tryz.params7]
  exact trodAll_mk2 (Below.trod sG (by kernel_rfl) (of_decide_eq_true (by kernel_rfl)) h0k hb hlt0) (Below.trod sG (by kernel_rfl) (of_decide_eq_true (by kernel_rfl)) h1k hb hlt1)

theorem assemblyAccepts_fn:Tryz.pinned.checked.prog.funcNamed Rows.assemblyAcceptsRow.func=some 7:=by kernel_rfl
theorem qem:Rows.assemblyAcceptsRow.wfByText (OpenSpec.ofChange Rows.assemblyAcceptsSpec)=true:=by kernel_rfl
theorem qen:Tryz.pinned.checked.prog.mainIs=some (Rows.assemblyAcceptsCard.stood.harness.1,Rows.assemblyAcceptsCard.stood.harness.2.toList):=by kernel_rfl
theorem qeo:false=Tryz.pinned.checked.prog.looks []:=by kernel_rfl
theorem qep:([22,58].all fun u=> !Tryz.prog.wantsStandIn u)=true:=by kernel_rfl
theorem qeq:false=Rows.assemblyAcceptsRow.goesBy Tryz.pinned.checked.prog:=by kernel_rfl
theorem qdM:Rows.AssemblyAcceptsSaid:=
  OpenClaim.holds_of_wide 7 Tryz.f7 rfl rfl rfl rfl rfl rfl rfl ⟨rfl,rfl,rfl,rfl,rfl⟩ rfl rfl rfl rfl rfl assemblyAccepts_fn Tryz.func7 qdI
    (of_decide_eq_true (by kernel_rfl)) (by unfold Func.isWrapper;first|(rw[if_pos (by decide+kernel)];kernel_rfl)|(rw[if_neg (by decide+kernel)];exact⟨rfl,rfl⟩))
    (fun os started H enc _=>qdJ os started H enc)

theorem AssemblyAccepts_holds:Rows.AssemblyAcceptsCardSaid:=
  Claim7.holds_tied_plain_at .later [] [.data, .data, .data] true Rows.assemblyAcceptsCard.stood.harness false
    qdM (fun _ h=>by cases h) qem (fun _ h=>by cases h) assemblyAccepts_row_tie rfl ⟨rfl,rfl⟩ qen rfl
    (fun f fn hf hfn=>by
      obtain rfl:f=7:=Option.some.inj (assemblyAccepts_fn.symm.trans hf) |>.symm
      obtain rfl:fn=Tryz.f7:=(Option.some.inj (Tryz.func7.symm.trans hfn)).symm
      exact⟨qeo,fun j t ht=>by
        rw[Tryz.params7]at ht
        have hm:t∈[22,58]:=by simpa using Array.mem_of_getElem? ht
        have hall:=qep
        exact(show Tryz.prog.wantsStandIn t=false by simpa using List.all_eq_true.1 hall t hm)⟩)
    qeq
#print axioms AssemblyAccepts_holds
end Go.Proofs.YtnpmkepfpekhfaaGreatDoor
