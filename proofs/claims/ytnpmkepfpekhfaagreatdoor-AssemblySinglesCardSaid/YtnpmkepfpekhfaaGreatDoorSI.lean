/- THE LAW AssemblySingles HOLDS: for every list of parts, Single gives back a plan of single parts that is accepted, or ErrNone, just as there is one, or the error of the parts. Conditions: those of the given card (the listed tables as the program's text lays them). -/
import Derived.Test.YtnpmkepfpekhfaaGreatDoorSIS40
import Derived.Test.YtnpmkepfpekhfaaGreatDoorSIS44
import Derived.Test.YtnpmkepfpekhfaaGreatDoorSIS45
import Derived.Test.YtnpmkepfpekhfaaGreatDoorCards
import Derived.Test.YtnpmkepfpekhfaaGreatDoorSIS46
namespace Go.Proofs.YtnpmkepfpekhfaaGreatDoor
open Go.ChangeShapes Go.WideShapes Go.ChangeAt Go.WideMaps Go.WideElems Go.RowKit

set_option maxRecDepth 100000 in
theorem qaN (os:Os) (started:os.Started) (H:Type) (enc:TypeId×Value→H):
    ReturnsInHanded {} Tryz.checked os 9 .any (fun w args=>(Rows.assemblySinglesSpec.pre enc Tryz.prog Tryz.f9 [] false w args∧laidMetH Tryz.prog qw w)∧sizedMet enc Tryz.prog Tryz.f9 (OpenSpec.ofChange Rows.assemblySinglesSpec) false w args)
      (Rows.assemblySinglesSpec.post enc Tryz.prog Tryz.f9 false true false false):=by
  refine returnsInHanded_of_change_and (C:=Tryz.checked) (X:=fun w _=>laidMetH Tryz.prog qw w) (fun _ _ _ hh h=>h.of_heap hh) own started (by kernel_rfl) Tryz.func9
    (ChangeSpec.witness_shaped (enc:=enc) (C:=Tryz.checked) (os:=os) (X:=fun w _=>laidMetH Tryz.prog qw w) false (World.doorLaid Tryz.prog 400 os) #[.slice none 0 0] 8 rfl (World.shaped_of_RefB (by kernel_rfl) (by kernel_rfl)) (by kernel_rfl) (by kernel_rfl) (by kernel_rfl) (wS os _)) ?_
  intro W base args ds gs before hval0 hW _ _ hL _
  have hval:∀(j:Nat) t v,Tryz.f9.params[j]? =some t→args[j]? =some v→Value.okWide Tryz.prog W .any base t v:=hval0
  have hW':=hW
  obtain⟨p,q,hA0,hV,rfl,hfz,hnd⟩:=hW
  have hA:DataW.TrodAll enc Tryz.prog W 0 (fun _=>true) true Tryz.f9.params.toList args.toList ds p:=hA0
  rw[Tryz.params9]at hA hval
  obtain⟨v0,d0,rfl,rfl,h0⟩:=trodAll_one hA
  obtain⟨rfl,rfl⟩:=trodVars_none hV
  have h0k:=h0
  obtain⟨l0,hs0,hl0,hL0⟩:=Qa (hval 0 22 v0 rfl rfl) h0
  simp only[List.append_nil]at hW'
  have hlt0:∀x∈p,x.block<W.heap.size:=fun x hx=>by simpa using hW'.lt x hx
  refine(qaT l0 v0 W hl0 hL0 hs0 (Qw hL)).mono fun e W' ⟨he,hb⟩=> ?_
  subst he
  refine⟨_,rfl,wU hW' rfl hb (by kernel_rfl) rfl ?_⟩
  rw[Tryz.params9]
  exact trodAll_mk1 (Below.trod sG (by kernel_rfl) (of_decide_eq_true (by kernel_rfl)) h0k hb hlt0)

theorem assemblySingles_fn:Tryz.pinned.checked.prog.funcNamed Rows.assemblySinglesRow.func=some 9:=by kernel_rfl
theorem qbt:Rows.assemblySinglesRow.wfByText (OpenSpec.ofChange Rows.assemblySinglesSpec)=true:=by kernel_rfl
theorem qbu:Tryz.pinned.checked.prog.mainIs=some (Rows.assemblySinglesCard.stood.harness.1,Rows.assemblySinglesCard.stood.harness.2.toList):=by kernel_rfl
theorem qbv:false=Tryz.pinned.checked.prog.looks []:=by kernel_rfl
theorem qbw:([22].all fun u=> !Tryz.prog.wantsStandIn u)=true:=by kernel_rfl
theorem qbx:false=Rows.assemblySinglesRow.goesBy Tryz.pinned.checked.prog:=by kernel_rfl
theorem qaU:Rows.AssemblySinglesSaid:=
  OpenClaim.holds_of_wide 9 Tryz.f9 rfl rfl rfl rfl rfl rfl rfl ⟨rfl,rfl,rfl,rfl,rfl⟩ rfl rfl rfl rfl rfl assemblySingles_fn Tryz.func9 qaM
    (of_decide_eq_true (by kernel_rfl)) (by unfold Func.isWrapper;first|(rw[if_pos (by decide+kernel)];kernel_rfl)|(rw[if_neg (by decide+kernel)];exact⟨rfl,rfl⟩))
    (fun os started H enc _=>qaN os started H enc)

theorem AssemblySingles_holds:Rows.AssemblySinglesCardSaid:=
  Claim7.holds_tied_plain_at .later [] [.data, .data, .data] true Rows.assemblySinglesCard.stood.harness false
    qaU (fun _ h=>by cases h) qbt (fun _ h=>by cases h) assemblySingles_row_tie rfl ⟨rfl,rfl⟩ qbu rfl
    (fun f fn hf hfn=>by
      obtain rfl:f=9:=Option.some.inj (assemblySingles_fn.symm.trans hf) |>.symm
      obtain rfl:fn=Tryz.f9:=(Option.some.inj (Tryz.func9.symm.trans hfn)).symm
      exact⟨qbv,fun j t ht=>by
        rw[Tryz.params9]at ht
        have hm:t∈[22]:=by simpa using Array.mem_of_getElem? ht
        have hall:=qbw
        exact(show Tryz.prog.wantsStandIn t=false by simpa using List.all_eq_true.1 hall t hm)⟩)
    qbx
#print axioms AssemblySingles_holds
end Go.Proofs.YtnpmkepfpekhfaaGreatDoor
