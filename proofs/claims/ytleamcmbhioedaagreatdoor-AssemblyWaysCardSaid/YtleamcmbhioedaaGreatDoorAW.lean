/- THE LAW AssemblyWays HOLDS: for every way, the list of all ways, the opposite way, or the error, are as specified. Conditions: those of the given card (the listed tables as the program's text lays them). -/
import Derived.Test.YtleamcmbhioedaaGreatDoorAWS36
import Derived.Test.YtleamcmbhioedaaGreatDoorAWS38
import Derived.Test.YtleamcmbhioedaaGreatDoorCards
import Derived.Test.YtleamcmbhioedaaGreatDoorAWS39
namespace Go.Proofs.YtleamcmbhioedaaGreatDoor
open Go.ChangeShapes Go.WideShapes Go.ChangeAt Go.WideMaps Go.WideElems Go.RowKit

theorem DG {W:World} (h:laidMetH Tryz.prog qw W):TabAt 1 Lib.deBruijn64tab W:=by
  rw[MakeChecks.laidMetH_plain _ _ _ (by kernel_rfl)]at h
  have h2:Lib.TabIs Tryz.prog W "math/bits.deBruijn64tab" .u8 (Lib.deBruijn64tab.map fun n:Nat=>(n:Int)):=Lib.tabIs_of_head (rest:=[("internal/strconv.uint64pow10",Rows.laid_internal_strconv_uint64pow10)]) (g:=1) (t:=232) (e:=5) (n:=64) (by kernel_rfl) (by kernel_rfl) (by kernel_rfl) (by kernel_rfl) (by kernel_rfl) (by kernel_rfl) h.tail
  intro j hj
  have h3:=h2.cell (g:=1) (by kernel_rfl) j (by simpa using hj)
  rw[h3]
  simp[List.getD,hj]
set_option maxRecDepth 100000 in
theorem FH (os:Os) (started:os.Started) (H:Type) (enc:TypeId×Value→H):
    ReturnsInHanded {} Tryz.checked os 5 .any (fun w args=>(Rows.assemblyWaysSpec.pre enc Tryz.prog Tryz.f5 [] false w args∧laidMetH Tryz.prog qw w)∧sizedMet enc Tryz.prog Tryz.f5 (OpenSpec.ofChange Rows.assemblyWaysSpec) false w args)
      (Rows.assemblyWaysSpec.post enc Tryz.prog Tryz.f5 false true false false):=by
  refine returnsInHanded_of_change_and (C:=Tryz.checked) (X:=fun w _=>laidMetH Tryz.prog qw w) (fun _ _ _ hh h=>h.of_heap hh) own started (by kernel_rfl) Tryz.func5
    (ChangeSpec.witness_shaped (enc:=enc) (C:=Tryz.checked) (os:=os) (X:=fun w _=>laidMetH Tryz.prog qw w) false (World.doorLaid Tryz.prog 400 os) #[.agg #[.int .i64 0, .int .i64 0, .int .i64 0]] 8 rfl (World.shaped_of_RefB (by kernel_rfl) (by kernel_rfl)) (by kernel_rfl) (by kernel_rfl) (by kernel_rfl) (wS os _)) ?_
  intro W base args ds gs before hval0 hW _ _ hL _
  have hval:∀(j:Nat) t v,Tryz.f5.params[j]? =some t→args[j]? =some v→Value.okWide Tryz.prog W .any base t v:=hval0
  have hW':=hW
  obtain⟨p,q,hA0,hV,rfl,hfz,hnd⟩:=hW
  have hA:DataW.TrodAll enc Tryz.prog W 0 (fun _=>true) true Tryz.f5.params.toList args.toList ds p:=hA0
  rw[Tryz.params5]at hA hval
  obtain⟨v0,d0,rfl,rfl,h0⟩:=trodAll_one hA
  obtain⟨rfl,rfl⟩:=trodVars_none hV
  have h0k:=h0
  obtain⟨a0,b0,c0,rfl,_⟩:=KG (hval 0 33 v0 rfl rfl) h0
  simp only[List.append_nil]at hW'
  have hlt0:∀x∈p,x.block<W.heap.size:=fun x hx=>by simpa using hW'.lt x hx
  refine(CH a0 b0 c0 W ⟨qx hL,DG hL⟩).mono fun e W' ⟨he,hb⟩=> ?_
  subst he
  refine⟨_,rfl,wU hW' rfl hb (by kernel_rfl) rfl ?_⟩
  rw[Tryz.params5]
  exact trodAll_mk1 (Below.trod sG (by kernel_rfl) (of_decide_eq_true (by kernel_rfl)) h0k hb hlt0)

theorem assemblyWays_fn:Tryz.pinned.checked.prog.funcNamed Rows.assemblyWaysRow.func=some 5:=by kernel_rfl
theorem IQ:Rows.assemblyWaysRow.wfByText (OpenSpec.ofChange Rows.assemblyWaysSpec)=true:=by kernel_rfl
theorem IR:Tryz.pinned.checked.prog.mainIs=some (Rows.assemblyWaysCard.stood.harness.1,Rows.assemblyWaysCard.stood.harness.2.toList):=by kernel_rfl
theorem IS:false=Tryz.pinned.checked.prog.looks []:=by kernel_rfl
theorem IT:([33].all fun u=> !Tryz.prog.wantsStandIn u)=true:=by kernel_rfl
theorem IU:false=Rows.assemblyWaysRow.goesBy Tryz.pinned.checked.prog:=by kernel_rfl
theorem Nf:Rows.AssemblyWaysSaid:=
  OpenClaim.holds_of_wide 5 Tryz.f5 rfl rfl rfl rfl rfl rfl rfl ⟨rfl,rfl,rfl,rfl,rfl⟩ rfl rfl rfl rfl rfl assemblyWays_fn Tryz.func5 Nd
    (of_decide_eq_true (by kernel_rfl)) (by unfold Func.isWrapper;first|(rw[if_pos (by decide+kernel)];kernel_rfl)|(rw[if_neg (by decide+kernel)];exact⟨rfl,rfl⟩))
    (fun os started H enc _=>FH os started H enc)

theorem AssemblyWays_holds:Rows.AssemblyWaysCardSaid:=
  Claim7.holds_tied_plain_at .later [] [.data, .data, .data] true Rows.assemblyWaysCard.stood.harness false
    Nf (fun _ h=>by cases h) IQ (fun _ h=>by cases h) assemblyWays_row_tie rfl ⟨rfl,rfl⟩ IR rfl
    (fun f fn hf hfn=>by
      obtain rfl:f=5:=Option.some.inj (assemblyWays_fn.symm.trans hf) |>.symm
      obtain rfl:fn=Tryz.f5:=(Option.some.inj (Tryz.func5.symm.trans hfn)).symm
      exact⟨IS,fun j t ht=>by
        rw[Tryz.params5]at ht
        have hm:t∈[33]:=by simpa using Array.mem_of_getElem? ht
        have hall:=IT
        exact(show Tryz.prog.wantsStandIn t=false by simpa using List.all_eq_true.1 hall t hm)⟩)
    IU
#print axioms AssemblyWays_holds
end Go.Proofs.YtleamcmbhioedaaGreatDoor
