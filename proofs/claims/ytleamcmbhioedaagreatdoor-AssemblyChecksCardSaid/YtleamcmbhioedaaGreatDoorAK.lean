/- THE LAW AssemblyChecks HOLDS: for every list of parts, whether it is valid is as specified. Conditions: those of the given card (the listed tables as the program's text lays them). -/
import Derived.Test.YtleamcmbhioedaaGreatDoorAKS45
import Derived.Test.YtleamcmbhioedaaGreatDoorAKS49
import Derived.Test.YtleamcmbhioedaaGreatDoorAKS50
import Derived.Test.YtleamcmbhioedaaGreatDoorCards
import Derived.Test.YtleamcmbhioedaaGreatDoorAKS51
namespace Go.Proofs.YtleamcmbhioedaaGreatDoor
open Go.ChangeShapes Go.WideShapes Go.ChangeAt Go.WideMaps Go.WideElems Go.RowKit

set_option maxRecDepth 100000 in
theorem Og (os:Os) (started:os.Started) (H:Type) (enc:TypeId×Value→H):
    ReturnsInHanded {} Tryz.checked os 3 .any (fun w args=>(Rows.assemblyChecksSpec.pre enc Tryz.prog Tryz.f3 [] false w args∧laidMetH Tryz.prog qw w)∧sizedMet enc Tryz.prog Tryz.f3 (OpenSpec.ofChange Rows.assemblyChecksSpec) false w args)
      (Rows.assemblyChecksSpec.post enc Tryz.prog Tryz.f3 false true false false):=by
  refine returnsInHanded_of_change_and (C:=Tryz.checked) (X:=fun w _=>laidMetH Tryz.prog qw w) (fun _ _ _ hh h=>h.of_heap hh) own started (by kernel_rfl) Tryz.func3
    (ChangeSpec.witness_shaped (enc:=enc) (C:=Tryz.checked) (os:=os) (X:=fun w _=>laidMetH Tryz.prog qw w) false (World.doorLaid Tryz.prog 400 os) #[.slice none 0 0] 8 rfl (World.shaped_of_RefB (by kernel_rfl) (by kernel_rfl)) (by kernel_rfl) (by kernel_rfl) (by kernel_rfl) (wS os _)) ?_
  intro W base args ds gs before hval0 hW _ _ hL _
  have hval:∀(j:Nat) t v,Tryz.f3.params[j]? =some t→args[j]? =some v→Value.okWide Tryz.prog W .any base t v:=hval0
  have hW':=hW
  obtain⟨p,q,hA0,hV,rfl,hfz,hnd⟩:=hW
  have hA:DataW.TrodAll enc Tryz.prog W 0 (fun _=>true) true Tryz.f3.params.toList args.toList ds p:=hA0
  rw[Tryz.params3]at hA hval
  obtain⟨v0,d0,rfl,rfl,h0⟩:=trodAll_one hA
  obtain⟨rfl,rfl⟩:=trodVars_none hV
  have h0k:=h0
  obtain⟨l0,hs0,hl0,hL0⟩:=Qa (hval 0 22 v0 rfl rfl) h0
  simp only[List.append_nil]at hW'
  have hlt0:∀x∈p,x.block<W.heap.size:=fun x hx=>by simpa using hW'.lt x hx
  refine(Oq l0 v0 W hl0 hL0 hs0 (Qw hL)).mono fun e W' ⟨he,hb⟩=> ?_
  subst he
  refine⟨_,rfl,wU hW' rfl hb (by kernel_rfl) rfl ?_⟩
  rw[Tryz.params3]
  exact trodAll_mk1 (Below.trod sG (by kernel_rfl) (of_decide_eq_true (by kernel_rfl)) h0k hb hlt0)

theorem assemblyChecks_fn:Tryz.pinned.checked.prog.funcNamed Rows.assemblyChecksRow.func=some 3:=by kernel_rfl
theorem OY:Rows.assemblyChecksRow.wfByText (OpenSpec.ofChange Rows.assemblyChecksSpec)=true:=by kernel_rfl
theorem OZ:Tryz.pinned.checked.prog.mainIs=some (Rows.assemblyChecksCard.stood.harness.1,Rows.assemblyChecksCard.stood.harness.2.toList):=by kernel_rfl
theorem Pa:false=Tryz.pinned.checked.prog.looks []:=by kernel_rfl
theorem Pb:([22].all fun u=> !Tryz.prog.wantsStandIn u)=true:=by kernel_rfl
theorem Pc:false=Rows.assemblyChecksRow.goesBy Tryz.pinned.checked.prog:=by kernel_rfl
theorem Ot:Rows.AssemblyChecksSaid:=
  OpenClaim.holds_of_wide 3 Tryz.f3 rfl rfl rfl rfl rfl rfl rfl ⟨rfl,rfl,rfl,rfl,rfl⟩ rfl rfl rfl rfl rfl assemblyChecks_fn Tryz.func3 Of
    (of_decide_eq_true (by kernel_rfl)) (by unfold Func.isWrapper;first|(rw[if_pos (by decide+kernel)];kernel_rfl)|(rw[if_neg (by decide+kernel)];exact⟨rfl,rfl⟩))
    (fun os started H enc _=>Og os started H enc)

theorem AssemblyChecks_holds:Rows.AssemblyChecksCardSaid:=
  Claim7.holds_tied_plain_at .later [] [.data, .data, .data] true Rows.assemblyChecksCard.stood.harness false
    Ot (fun _ h=>by cases h) OY (fun _ h=>by cases h) assemblyChecks_row_tie rfl ⟨rfl,rfl⟩ OZ rfl
    (fun f fn hf hfn=>by
      obtain rfl:f=3:=Option.some.inj (assemblyChecks_fn.symm.trans hf) |>.symm
      obtain rfl:fn=Tryz.f3:=(Option.some.inj (Tryz.func3.symm.trans hfn)).symm
      exact⟨Pa,fun j t ht=>by
        rw[Tryz.params3]at ht
        have hm:t∈[22]:=by simpa using Array.mem_of_getElem? ht
        have hall:=Pb
        exact(show Tryz.prog.wantsStandIn t=false by simpa using List.all_eq_true.1 hall t hm)⟩)
    Pc
#print axioms AssemblyChecks_holds
end Go.Proofs.YtleamcmbhioedaaGreatDoor
