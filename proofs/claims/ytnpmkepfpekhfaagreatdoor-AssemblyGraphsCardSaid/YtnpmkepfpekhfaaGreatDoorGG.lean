/- THE LAW AssemblyGraphs HOLDS: for every list of parts and every way, what blocks each part, and the clusters of the way, or the errors, are as specified. Conditions: those of the given card (the listed tables as the program's text lays them). -/
import Derived.Test.YtnpmkepfpekhfaaGreatDoorGGS44
import Derived.Test.YtnpmkepfpekhfaaGreatDoorGGS48
import Derived.Test.YtnpmkepfpekhfaaGreatDoorGGS49
import Derived.Test.YtnpmkepfpekhfaaGreatDoorCards
import Derived.Test.YtnpmkepfpekhfaaGreatDoorGGS50
namespace Go.Proofs.YtnpmkepfpekhfaaGreatDoor
open Go.ChangeShapes Go.WideShapes Go.ChangeAt Go.WideMaps Go.WideElems Go.RowKit

set_option maxRecDepth 100000 in
theorem pp (os:Os) (started:os.Started) (H:Type) (enc:TypeId×Value→H):
    ReturnsInHanded {} Tryz.checked os 4 .any (fun w args=>(Rows.assemblyGraphsSpec.pre enc Tryz.prog Tryz.f4 [] false w args∧laidMetH Tryz.prog qw w)∧sizedMet enc Tryz.prog Tryz.f4 (OpenSpec.ofChange Rows.assemblyGraphsSpec) false w args)
      (Rows.assemblyGraphsSpec.post enc Tryz.prog Tryz.f4 false true false false):=by
  refine returnsInHanded_of_change_and (C:=Tryz.checked) (X:=fun w _=>laidMetH Tryz.prog qw w) (fun _ _ _ hh h=>h.of_heap hh) own started (by kernel_rfl) Tryz.func4
    (ChangeSpec.witness_shaped (enc:=enc) (C:=Tryz.checked) (os:=os) (X:=fun w _=>laidMetH Tryz.prog qw w) false (World.doorLaid Tryz.prog 400 os) #[.slice none 0 0, .agg #[.int .i64 0, .int .i64 0, .int .i64 0]] 8 rfl (World.shaped_of_RefB (by kernel_rfl) (by kernel_rfl)) (by kernel_rfl) (by kernel_rfl) (by kernel_rfl) (wS os _)) ?_
  intro W base args ds gs before hval0 hW _ _ hL _
  have hval:∀(j:Nat) t v,Tryz.f4.params[j]? =some t→args[j]? =some v→Value.okWide Tryz.prog W .any base t v:=hval0
  have hW':=hW
  obtain⟨p,q,hA0,hV,rfl,hfz,hnd⟩:=hW
  have hA:DataW.TrodAll enc Tryz.prog W 0 (fun _=>true) true Tryz.f4.params.toList args.toList ds p:=hA0
  rw[Tryz.params4]at hA hval
  obtain⟨v0,v1,d0,d1,p0,p1,rfl,rfl,rfl,h0,h1⟩:=trodAll_two hA
  obtain⟨rfl,rfl⟩:=trodVars_none hV
  have h0k:=h0
  have h1k:=h1
  obtain⟨l0,hs0,hl0,hL0⟩:=Qa (hval 0 22 v0 rfl rfl) h0
  obtain⟨a1,b1,c1,rfl,_⟩:=KG (hval 1 36 v1 rfl rfl) h1
  simp only[List.append_nil]at hW'
  have hlt0:∀x∈p0,x.block<W.heap.size:=fun x hx=>by simpa using hW'.lt x (by simp[hx])
  have hlt1:∀x∈p1,x.block<W.heap.size:=fun x hx=>by simpa using hW'.lt x (by simp[hx])
  refine(Zg l0 v0 a1 b1 c1 W hl0 hL0 hs0  (Qw hL)).mono fun e W' ⟨he,hb⟩=> ?_
  subst he
  refine⟨_,rfl,wU hW' rfl hb (by kernel_rfl) rfl ?_⟩
  rw[Tryz.params4]
  exact trodAll_mk2 (Below.trod sG (by kernel_rfl) (of_decide_eq_true (by kernel_rfl)) h0k hb hlt0) (Below.trod sG (by kernel_rfl) (of_decide_eq_true (by kernel_rfl)) h1k hb hlt1)

theorem assemblyGraphs_fn:Tryz.pinned.checked.prog.funcNamed Rows.assemblyGraphsRow.func=some 4:=by kernel_rfl
theorem ZG:Rows.assemblyGraphsRow.wfByText (OpenSpec.ofChange Rows.assemblyGraphsSpec)=true:=by kernel_rfl
theorem ZH:Tryz.pinned.checked.prog.mainIs=some (Rows.assemblyGraphsCard.stood.harness.1,Rows.assemblyGraphsCard.stood.harness.2.toList):=by kernel_rfl
theorem ZI:false=Tryz.pinned.checked.prog.looks []:=by kernel_rfl
theorem ZJ:([22,36].all fun u=> !Tryz.prog.wantsStandIn u)=true:=by kernel_rfl
theorem ZK:false=Rows.assemblyGraphsRow.goesBy Tryz.pinned.checked.prog:=by kernel_rfl
theorem Zh:Rows.AssemblyGraphsSaid:=
  OpenClaim.holds_of_wide 4 Tryz.f4 rfl rfl rfl rfl rfl rfl rfl ⟨rfl,rfl,rfl,rfl,rfl⟩ rfl rfl rfl rfl rfl assemblyGraphs_fn Tryz.func4 my
    (of_decide_eq_true (by kernel_rfl)) (by unfold Func.isWrapper;first|(rw[if_pos (by decide+kernel)];kernel_rfl)|(rw[if_neg (by decide+kernel)];exact⟨rfl,rfl⟩))
    (fun os started H enc _=>pp os started H enc)

theorem AssemblyGraphs_holds:Rows.AssemblyGraphsCardSaid:=
  Claim7.holds_tied_plain_at .later [] [.data, .data, .data] true Rows.assemblyGraphsCard.stood.harness false
    Zh (fun _ h=>by cases h) ZG (fun _ h=>by cases h) assemblyGraphs_row_tie rfl ⟨rfl,rfl⟩ ZH rfl
    (fun f fn hf hfn=>by
      obtain rfl:f=4:=Option.some.inj (assemblyGraphs_fn.symm.trans hf) |>.symm
      obtain rfl:fn=Tryz.f4:=(Option.some.inj (Tryz.func4.symm.trans hfn)).symm
      exact⟨ZI,fun j t ht=>by
        rw[Tryz.params4]at ht
        have hm:t∈[22,36]:=by simpa using Array.mem_of_getElem? ht
        have hall:=ZJ
        exact(show Tryz.prog.wantsStandIn t=false by simpa using List.all_eq_true.1 hall t hm)⟩)
    ZK
#print axioms AssemblyGraphs_holds
end Go.Proofs.YtnpmkepfpekhfaaGreatDoor
