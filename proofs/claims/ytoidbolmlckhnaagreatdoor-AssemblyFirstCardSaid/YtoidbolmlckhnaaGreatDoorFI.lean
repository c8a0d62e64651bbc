/- THE LAW AssemblyFirst HOLDS: for every list of parts and every list of numbers, the first split of the group, or the error, is as specified. Conditions: those of the given card (the listed tables as the program's text lays them). -/
import Derived.Test.YtoidbolmlckhnaaGreatDoorFIS44
import Derived.Test.YtoidbolmlckhnaaGreatDoorFIS49
import Derived.Test.YtoidbolmlckhnaaGreatDoorFIS50
import Derived.Test.YtoidbolmlckhnaaGreatDoorCards
import Derived.Test.YtoidbolmlckhnaaGreatDoorFIS51
namespace Go.Proofs.YtoidbolmlckhnaaGreatDoor
open Go.ChangeShapes Go.WideShapes Go.ChangeAt Go.WideMaps Go.WideElems Go.RowKit

set_option maxRecDepth 100000 in
theorem Uc (os:Os) (started:os.Started) (H:Type) (enc:TypeId×Value→H):
    ReturnsInHanded {} Tryz.checked os 4 .any (fun w args=>(Rows.assemblyFirstSpec.pre enc Tryz.prog Tryz.f4 [] false w args∧laidMetH Tryz.prog qw w)∧sizedMet enc Tryz.prog Tryz.f4 (OpenSpec.ofChange Rows.assemblyFirstSpec) false w args)
      (Rows.assemblyFirstSpec.post enc Tryz.prog Tryz.f4 false true false false):=by
  refine returnsInHanded_of_change_and (C:=Tryz.checked) (X:=fun w _=>laidMetH Tryz.prog qw w) (fun _ _ _ hh h=>h.of_heap hh) own started (by kernel_rfl) Tryz.func4
    (ChangeSpec.witness_shaped (enc:=enc) (C:=Tryz.checked) (os:=os) (X:=fun w _=>laidMetH Tryz.prog qw w) false (World.doorLaid Tryz.prog 400 os) #[.slice none 0 0, .slice none 0 0] 8 rfl (World.shaped_of_RefB (by kernel_rfl) (by kernel_rfl)) (by kernel_rfl) (by kernel_rfl) (by kernel_rfl) (wS os _)) ?_
  intro W base args ds gs before hval0 hW _ _ hL _
  have hval:∀(j:Nat) t v,Tryz.f4.params[j]? =some t→args[j]? =some v→Value.okWide Tryz.prog W .any base t v:=hval0
  have hW':=hW
  obtain⟨p,q,hA0,hV,rfl,hfz,hnd⟩:=hW
  have hA:DataW.TrodAll enc Tryz.prog W 0 (fun _=>true) true Tryz.f4.params.toList args.toList ds p:=hA0
  rw[Tryz.params4]at hA hval
  obtain⟨v0,v1,d0,d1,p0,p1,rfl,rfl,rfl,h0,h1⟩:=trodAll_two hA
  obtain⟨rfl,rfl⟩:=trodVars_none hV
  have h0k:=h0
  have h1k:=h1
  obtain⟨l0,hs0,hl0,hL0⟩:=Qa (hval 0 44 v0 rfl rfl) h0
  obtain⟨n1,hn1,hnil1,hx1⟩:=Vp (hval 1 45 v1 rfl rfl) h1
  simp only[List.append_nil]at hW'
  have hlt0:∀x∈p0,x.block<W.heap.size:=fun x hx=>by simpa using hW'.lt x (by simp[hx])
  have hlt1:∀x∈p1,x.block<W.heap.size:=fun x hx=>by simpa using hW'.lt x (by simp[hx])
  refine(Uk l0 v0 n1 v1 W hl0 hL0 hs0 hx1 hn1 hnil1 (Qw hL)).mono fun e W' ⟨he,hb⟩=> ?_
  subst he
  refine⟨_,rfl,wU hW' rfl hb (by kernel_rfl) rfl ?_⟩
  rw[Tryz.params4]
  exact trodAll_mk2 (Below.trod sG (by kernel_rfl) (of_decide_eq_true (by kernel_rfl)) h0k hb hlt0) (Below.trod sG (by kernel_rfl) (of_decide_eq_true (by kernel_rfl)) h1k hb hlt1)

theorem assemblyFirst_fn:Tryz.pinned.checked.prog.funcNamed Rows.assemblyFirstRow.func=some 4:=by kernel_rfl
theorem UK:Rows.assemblyFirstRow.wfByText (OpenSpec.ofChange Rows.assemblyFirstSpec)=true:=by kernel_rfl
theorem UL:Tryz.pinned.checked.prog.mainIs=some (Rows.assemblyFirstCard.stood.harness.1,Rows.assemblyFirstCard.stood.harness.2.toList):=by kernel_rfl
theorem UM:false=Tryz.pinned.checked.prog.looks []:=by kernel_rfl
theorem UN:([44,45].all fun u=> !Tryz.prog.wantsStandIn u)=true:=by kernel_rfl
theorem UO:false=Rows.assemblyFirstRow.goesBy Tryz.pinned.checked.prog:=by kernel_rfl
theorem Ul:Rows.AssemblyFirstSaid:=
  OpenClaim.holds_of_wide 4 Tryz.f4 rfl rfl rfl rfl rfl rfl rfl ⟨rfl,rfl,rfl,rfl,rfl⟩ rfl rfl rfl rfl rfl assemblyFirst_fn Tryz.func4 Ub
    (of_decide_eq_true (by kernel_rfl)) (by unfold Func.isWrapper;first|(rw[if_pos (by decide+kernel)];kernel_rfl)|(rw[if_neg (by decide+kernel)];exact⟨rfl,rfl⟩))
    (fun os started H enc _=>Uc os started H enc)

theorem AssemblyFirst_holds:Rows.AssemblyFirstCardSaid:=
  Claim7.holds_tied_plain_at .later [] [.data, .data, .data] true Rows.assemblyFirstCard.stood.harness false
    Ul (fun _ h=>by cases h) UK (fun _ h=>by cases h) assemblyFirst_row_tie rfl ⟨rfl,rfl⟩ UL rfl
    (fun f fn hf hfn=>by
      obtain rfl:f=4:=Option.some.inj (assemblyFirst_fn.symm.trans hf) |>.symm
      obtain rfl:fn=Tryz.f4:=(Option.some.inj (Tryz.func4.symm.trans hfn)).symm
      exact⟨UM,fun j t ht=>by
        rw[Tryz.params4]at ht
        have hm:t∈[44,45]:=by simpa using Array.mem_of_getElem? ht
        have hall:=UN
        exact(show Tryz.prog.wantsStandIn t=false by simpa using List.all_eq_true.1 hall t hm)⟩)
    UO
#print axioms AssemblyFirst_holds
end Go.Proofs.YtoidbolmlckhnaaGreatDoor
