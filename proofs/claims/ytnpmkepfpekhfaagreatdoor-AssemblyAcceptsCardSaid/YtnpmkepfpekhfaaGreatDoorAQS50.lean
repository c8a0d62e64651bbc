/- texts: APF. -/
import Derived.Test.YtnpmkepfpekhfaaGreatDoorRows
import Derived.JoinedOf
import Derived.KernelRfl
namespace Go.Proofs.YtnpmkepfpekhfaaGreatDoor
set_option maxHeartbeats 8000000
set_option linter.all false
section
open Go
set_option maxRecDepth 100000
theorem qeu:(Rows.assemblyAcceptsRow.wf (OpenSpec.ofChange Rows.assemblyAcceptsSpec):Bool)=true:=by kernel_rfl
theorem qev:(laidOutB Tryz.prog:Bool)=true:=by kernel_rfl
theorem qew:(mapsRowed Tryz.prog:Bool)=true:=by kernel_rfl
theorem qex:(Tryz.f7.params.all (Tryz.prog.readableRec ·):Bool)=true:=by kernel_rfl
theorem qey:(namedTie Tryz.prog Rows.assemblyAcceptsRow.named Rows.assemblyAcceptsSpec.vars:Bool)=true:=by kernel_rfl
theorem qez:((Rows.assemblyAcceptsRow.stops==[]):Bool)=true:=by kernel_rfl
theorem qeA:((Tryz.prog.stops==[]):Bool)=true:=by kernel_rfl
theorem qeB:((Rows.assemblyAcceptsRow.knobs==[]):Bool)=true:=by kernel_rfl
theorem qeC:((Tryz.prog.stopKnobs==[]):Bool)=true:=by kernel_rfl
theorem qdP:((Rows.assemblyAcceptsRow.inPlace==Tryz.prog.inPlace 7):Bool)=true:=by kernel_rfl
theorem qdQ:((Rows.assemblyAcceptsRow.unfollowed==Tryz.prog.unfollowed 7):Bool)=true:=by kernel_rfl
theorem qdR:((Rows.assemblyAcceptsRow.recurses==Tryz.prog.recurses 7):Bool)=true:=by kernel_rfl
theorem qdS:((Rows.assemblyAcceptsRow.named==Tryz.prog.varsNamed 7):Bool)=true:=by kernel_rfl
theorem qdT:((Rows.assemblyAcceptsRow.maps==(Tryz.f7.params.toList++Rows.assemblyAcceptsSpec.plain.varTypes Tryz.prog).any (Tryz.prog.mapsRec ·)):Bool)=true:=by kernel_rfl
theorem qdU:((Rows.assemblyAcceptsRow.ifaces==(Tryz.f7.params.toList++Rows.assemblyAcceptsSpec.plain.varTypes Tryz.prog).any (Tryz.prog.ifacesRec ·)):Bool)=true:=by kernel_rfl
theorem qdV:((Rows.assemblyAcceptsRow.mapsOut==Tryz.prog.mapsAmong Tryz.f7.resultTypes.toList):Bool)=true:=by kernel_rfl
theorem qdW:((Rows.assemblyAcceptsRow.loops==(Tryz.f7.params.toList++Rows.assemblyAcceptsSpec.plain.varTypes Tryz.prog).any (Tryz.prog.loopsFrom ·)):Bool)=true:=by kernel_rfl
theorem qdX:((Rows.assemblyAcceptsRow.wideKeys==(Tryz.f7.params.toList++Rows.assemblyAcceptsSpec.plain.varTypes Tryz.prog++Tryz.f7.resultTypes.toList).any (Tryz.prog.wideKeysFrom ·)):Bool)=true:=by kernel_rfl
theorem qdY:(Rows.assemblyAcceptsSpec.vars.all (Tryz.prog.varReadable ·):Bool)=true:=by kernel_rfl
theorem qdZ:(Tryz.f7.resultTypes.all (fun t=>Tryz.prog.readableRec t&&decide (t<Tryz.prog.types.size)):Bool)=true:=by kernel_rfl
theorem qea:((Rows.assemblyAcceptsRow.ifacesOut==Tryz.f7.resultTypes.toList.any (Tryz.prog.ifacesRec ·)):Bool)=true:=by kernel_rfl
theorem qeb:((Rows.assemblyAcceptsRow.loopsOut==Tryz.f7.resultTypes.toList.any (Tryz.prog.loopsFrom ·)):Bool)=true:=by kernel_rfl
theorem qec:((Rows.assemblyAcceptsRow.plainKeys==Tryz.prog.plainKeys):Bool)=true:=by kernel_rfl
theorem qed:(Rows.assemblyAcceptsRow.shortTexts.isNone:Bool)=true:=by kernel_rfl
theorem qee:(Tryz.prog.stopsHeard:Bool)=true:=by kernel_rfl
theorem qef:(Tryz.prog.mayEnter:Bool)=true:=by kernel_rfl
theorem qeg:((Rows.assemblyAcceptsRow.lifted==Tryz.prog.liftsFinal):Bool)=true:=by kernel_rfl
theorem qeh:((Tryz.prog.make==some Rows.assemblyAcceptsRow.make):Bool)=true:=by kernel_rfl
theorem qei:((Rows.assemblyAcceptsRow.kinds==(if Rows.assemblyAcceptsRow.domain.isEmpty then []else Tryz.f7.params.toList.map fun t=>match Tryz.prog.underlying t with|some (.int k)=>some k|_=>none)):Bool)=true:=by kernel_rfl
theorem qej:((Rows.assemblyAcceptsRow.pinned==Rows.assemblyAcceptsRow.pinnedBy):Bool)=true:=by kernel_rfl
theorem qek:((Rows.assemblyAcceptsRow.veiled==(Tryz.f7.params.toList++Rows.assemblyAcceptsSpec.plain.varTypes Tryz.prog++Tryz.f7.resultTypes.toList).any (Tryz.prog.veiledRec ·)):Bool)=true:=by kernel_rfl
theorem qel:(Rows.assemblyAcceptsRow.veiledFits Tryz.prog Tryz.f7.params.toList (Tryz.f7.params.toList++Rows.assemblyAcceptsSpec.plain.varTypes Tryz.prog++Tryz.f7.resultTypes.toList):Bool)=true:=by kernel_rfl
theorem ko {a b:Bool} (h:a=true) (k:b=true):(a&&b)=true:=by rw[h,k];rfl
theorem qdI:joinedFacts Tryz.prog 7 Tryz.f7 Rows.assemblyAcceptsSpec Rows.assemblyAcceptsRow=true:=by
 unfold joinedFacts
 exact ko (ko (ko (ko (ko (ko (ko (ko (ko (ko (ko (ko (ko (ko (ko (ko (ko (ko (ko (ko (ko (ko (ko (ko (ko (ko (ko (ko (ko (ko (ko qeu qev) qew) qex) qey) qez) qeA) qeB) qeC) qdP) qdQ) qdR) qdS) qdT) qdU) qdV) qdW) qdX) qdY) qdZ) qea) qeb) qec) qed) qee) qef) qeg) qeh) qei) qej) qek) qel
end
end Go.Proofs.YtnpmkepfpekhfaaGreatDoor
