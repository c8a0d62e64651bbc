/- THE LAW AssemblySets HOLDS: for every list of parts, every list of numbers and every way, whether the set moves out, and what a part carries, or the errors, are as specified. Conditions: those of the given card (the listed tables as the program's text lays them). -/
import Derived.Test.YtoidbolmlckhnaaGreatDoorSES44
import Derived.Test.YtoidbolmlckhnaaGreatDoorSES49
import Derived.Test.YtoidbolmlckhnaaGreatDoorSES50
import Derived.Test.YtoidbolmlckhnaaGreatDoorCards
import Derived.Test.YtoidbolmlckhnaaGreatDoorSES51
namespace Go.Proofs.YtoidbolmlckhnaaGreatDoor
open Go.ChangeShapes Go.WideShapes Go.ChangeAt Go.WideMaps Go.WideElems Go.RowKit

set_option maxRecDepth 100000 in
theorem WO (os:Os) (started:os.Started) (H:Type) (enc:TypeId×Value→H):
    ReturnsInHanded {} Tryz.checked os 6 .any (fun w args=>(Rows.assemblySetsSpec.pre enc Tryz.prog Tryz.f6 [] false w args∧laidMetH Tryz.prog qw w)∧sizedMet enc Tryz.prog Tryz.f6 (OpenSpec.ofChange Rows.assemblySetsSpec) false w args)
      (Rows.assemblySetsSpec.post enc Tryz.prog Tryz.f6 false true false false):=by
  refine returnsInHanded_of_change_and (C:=Tryz.checked) (X:=fun w _=>laidMetH Tryz.prog qw w) (fun _ _ _ hh h=>h.of_heap hh) own started (by kernel_rfl) Tryz.func6
    (ChangeSpec.witness_shaped (enc:=enc) (C:=Tryz.checked) (os:=os) (X:=fun w _=>laidMetH Tryz.prog qw w) false (World.doorLaid Tryz.prog 400 os) #[.slice none 0 0, .slice none 0 0, .agg #[.int .i64 0, .int .i64 0, .int .i64 0]] 8 rfl (World.shaped_of_RefB (by kernel_rfl) (by kernel_rfl)) (by kernel_rfl) (by kernel_rfl) (by kernel_rfl) (wS os _)) ?_
  intro W base args ds gs before hval0 hW _ _ hL _
  have hval:∀(j:Nat) t v,Tryz.f6.params[j]? =some t→args[j]? =some v→Value.okWide Tryz.prog W .any base t v:=hval0
  have hW':=hW
  obtain⟨p,q,hA0,hV,rfl,hfz,hnd⟩:=hW
  have hA:DataW.TrodAll enc Tryz.prog W 0 (fun _=>true) true Tryz.f6.params.toList args.toList ds p:=hA0
  rw[Tryz.params6]at hA hval
  obtain⟨v0,v1,v2,d0,d1,d2,p0,p1,p2,rfl,rfl,rfl,h0,h1,h2⟩:=trodAll_three hA
  obtain⟨rfl,rfl⟩:=trodVars_none hV
  have h0k:=h0
  have h1k:=h1
  have h2k:=h2
  obtain⟨l0,hs0,hl0,hL0⟩:=Qa (hval 0 44 v0 rfl rfl) h0
  obtain⟨n1,hn1,hnil1,hx1⟩:=Vp (hval 1 45 v1 rfl rfl) h1
  obtain⟨a2,b2,c2,rfl,_⟩:=KG (hval 2 26 v2 rfl rfl) h2
  simp only[List.append_nil]at hW'
  have hlt0:∀x∈p0,x.block<W.heap.size:=fun x hx=>by simpa using hW'.lt x (by simp[hx])
  have hlt1:∀x∈p1,x.block<W.heap.size:=fun x hx=>by simpa using hW'.lt x (by simp[hx])
  have hlt2:∀x∈p2,x.block<W.heap.size:=fun x hx=>by simpa using hW'.lt x (by simp[hx])
  refine(WU l0 v0 n1 v1 a2 b2 c2 W hl0 hL0 hs0 hx1 hn1 hnil1  (Qw hL)).mono fun e W' ⟨he,hb⟩=> ?_
  subst he
  refine⟨_,rfl,wU hW' rfl hb (by kernel_rfl) rfl ?_⟩
  rw[Tryz.params6]
  rw[List.append_assoc]
  exact trodAll_mk3 (Below.trod sG (by kernel_rfl) (of_decide_eq_true (by kernel_rfl)) h0k hb hlt0) (Below.trod sG (by kernel_rfl) (of_decide_eq_true (by kernel_rfl)) h1k hb hlt1) (Below.trod sG (by kernel_rfl) (of_decide_eq_true (by kernel_rfl)) h2k hb hlt2)

theorem assemblySets_fn:Tryz.pinned.checked.prog.funcNamed Rows.assemblySetsRow.func=some 6:=by kernel_rfl
theorem Xw:Rows.assemblySetsRow.wfByText (OpenSpec.ofChange Rows.assemblySetsSpec)=true:=by kernel_rfl
theorem Xx:Tryz.pinned.checked.prog.mainIs=some (Rows.assemblySetsCard.stood.harness.1,Rows.assemblySetsCard.stood.harness.2.toList):=by kernel_rfl
theorem Xy:false=Tryz.pinned.checked.prog.looks []:=by kernel_rfl
theorem Xz:([44,45,26].all fun u=> !Tryz.prog.wantsStandIn u)=true:=by kernel_rfl
theorem XA:false=Rows.assemblySetsRow.goesBy Tryz.pinned.checked.prog:=by kernel_rfl
theorem WV:Rows.AssemblySetsSaid:=
  OpenClaim.holds_of_wide 6 Tryz.f6 rfl rfl rfl rfl rfl rfl rfl ⟨rfl,rfl,rfl,rfl,rfl⟩ rfl rfl rfl rfl rfl assemblySets_fn Tryz.func6 WN
    (of_decide_eq_true (by kernel_rfl)) (by unfold Func.isWrapper;first|(rw[if_pos (by decide+kernel)];kernel_rfl)|(rw[if_neg (by decide+kernel)];exact⟨rfl,rfl⟩))
    (fun os started H enc _=>WO os started H enc)

theorem AssemblySets_holds:Rows.AssemblySetsCardSaid:=
  Claim7.holds_tied_plain_at .later [] [.data, .data, .data] true Rows.assemblySetsCard.stood.harness false
    WV (fun _ h=>by cases h) Xw (fun _ h=>by cases h) assemblySets_row_tie rfl ⟨rfl,rfl⟩ Xx rfl
    (fun f fn hf hfn=>by
      obtain rfl:f=6:=Option.some.inj (assemblySets_fn.symm.trans hf) |>.symm
      obtain rfl:fn=Tryz.f6:=(Option.some.inj (Tryz.func6.symm.trans hfn)).symm
      exact⟨Xy,fun j t ht=>by
        rw[Tryz.params6]at ht
        have hm:t∈[44,45,26]:=by simpa using Array.mem_of_getElem? ht
        have hall:=Xz
        exact(show Tryz.prog.wantsStandIn t=false by simpa using List.all_eq_true.1 hall t hm)⟩)
    XA
#print axioms AssemblySets_holds
end Go.Proofs.YtoidbolmlckhnaaGreatDoor
