/- texts: DPF. -/
import Derived.Test.YtffbilcjhlncfaaGreatDoorRows
import Derived.JoinedOf
import Derived.KernelRfl
namespace Go.Proofs.YtffbilcjhlncfaaGreatDoor
set_option maxHeartbeats 8000000
set_option linter.all false
section
open Go
set_option maxRecDepth 100000
theorem qhj:(Rows.assemblyDepthsRow.wf (OpenSpec.ofChange Rows.assemblyDepthsSpec):Bool)=true:=by kernel_rfl
theorem qhk:(laidOutB Tryz.prog:Bool)=true:=by kernel_rfl
theorem qhl:(mapsRowed Tryz.prog:Bool)=true:=by kernel_rfl
theorem qhm:(Tryz.f3.params.all (Tryz.prog.readableRec ·):Bool)=true:=by kernel_rfl
theorem qhn:(namedTie Tryz.prog Rows.assemblyDepthsRow.named Rows.assemblyDepthsSpec.vars:Bool)=true:=by kernel_rfl
theorem qho:((Rows.assemblyDepthsRow.stops==[]):Bool)=true:=by kernel_rfl
theorem qhp:((Tryz.prog.stops==[]):Bool)=true:=by kernel_rfl
theorem qhq:((Rows.assemblyDepthsRow.knobs==[]):Bool)=true:=by kernel_rfl
theorem qhr:((Tryz.prog.stopKnobs==[]):Bool)=true:=by kernel_rfl
theorem qgE:((Rows.assemblyDepthsRow.inPlace==Tryz.prog.inPlace 3):Bool)=true:=by kernel_rfl
theorem qgF:((Rows.assemblyDepthsRow.unfollowed==Tryz.prog.unfollowed 3):Bool)=true:=by kernel_rfl
theorem qgG:((Rows.assemblyDepthsRow.recurses==Tryz.prog.recurses 3):Bool)=true:=by kernel_rfl
theorem qgH:((Rows.assemblyDepthsRow.named==Tryz.prog.varsNamed 3):Bool)=true:=by kernel_rfl
theorem qgI:((Rows.assemblyDepthsRow.maps==(Tryz.f3.params.toList++Rows.assemblyDepthsSpec.plain.varTypes Tryz.prog).any (Tryz.prog.mapsRec ·)):Bool)=true:=by kernel_rfl
theorem qgJ:((Rows.assemblyDepthsRow.ifaces==(Tryz.f3.params.toList++Rows.assemblyDepthsSpec.plain.varTypes Tryz.prog).any (Tryz.prog.ifacesRec ·)):Bool)=true:=by kernel_rfl
theorem qgK:((Rows.assemblyDepthsRow.mapsOut==Tryz.prog.mapsAmong Tryz.f3.resultTypes.toList):Bool)=true:=by kernel_rfl
theorem qgL:((Rows.assemblyDepthsRow.loops==(Tryz.f3.params.toList++Rows.assemblyDepthsSpec.plain.varTypes Tryz.prog).any (Tryz.prog.loopsFrom ·)):Bool)=true:=by kernel_rfl
theorem qgM:((Rows.assemblyDepthsRow.wideKeys==(Tryz.f3.params.toList++Rows.assemblyDepthsSpec.plain.varTypes Tryz.prog++Tryz.f3.resultTypes.toList).any (Tryz.prog.wideKeysFrom ·)):Bool)=true:=by kernel_rfl
theorem qgN:(Rows.assemblyDepthsSpec.vars.all (Tryz.prog.varReadable ·):Bool)=true:=by kernel_rfl
theorem qgO:(Tryz.f3.resultTypes.all (fun t=>Tryz.prog.readableRec t&&decide (t<Tryz.prog.types.size)):Bool)=true:=by kernel_rfl
theorem qgP:((Rows.assemblyDepthsRow.ifacesOut==Tryz.f3.resultTypes.toList.any (Tryz.prog.ifacesRec ·)):Bool)=true:=by kernel_rfl
theorem qgQ:((Rows.assemblyDepthsRow.loopsOut==Tryz.f3.resultTypes.toList.any (Tryz.prog.loopsFrom ·)):Bool)=true:=by kernel_rfl
theorem qgR:((Rows.assemblyDepthsRow.plainKeys==Tryz.prog.plainKeys):Bool)=true:=by kernel_rfl
theorem qgS:(Rows.assemblyDepthsRow.shortTexts.isNone:Bool)=true:=by kernel_rfl
theorem qgT:(Tryz.prog.stopsHeard:Bool)=true:=by kernel_rfl
theorem qgU:(Tryz.prog.mayEnter:Bool)=true:=by kernel_rfl
theorem qgV:((Rows.assemblyDepthsRow.lifted==Tryz.prog.liftsFinal):Bool)=true:=by kernel_rfl
theorem qgW:((Tryz.prog.make==some Rows.assemblyDepthsRow.make):Bool)=true:=by kernel_rfl
theorem qgX:((Rows.assemblyDepthsRow.kinds==(if Rows.assemblyDepthsRow.domain.isEmpty then []else Tryz.f3.params.toList.map fun t=>match Tryz.prog.underlying t with|some (.int k)=>some k|_=>none)):Bool)=true:=by kernel_rfl
theorem qgY:((Rows.assemblyDepthsRow.pinned==Rows.assemblyDepthsRow.pinnedBy):Bool)=true:=by kernel_rfl
theorem qgZ:((Rows.assemblyDepthsRow.veiled==(Tryz.f3.params.toList++Rows.assemblyDepthsSpec.plain.varTypes Tryz.prog++Tryz.f3.resultTypes.toList).any (Tryz.prog.veiledRec ·)):Bool)=true:=by kernel_rfl
theorem qha:(Rows.assemblyDepthsRow.veiledFits Tryz.prog Tryz.f3.params.toList (Tryz.f3.params.toList++Rows.assemblyDepthsSpec.plain.varTypes Tryz.prog++Tryz.f3.resultTypes.toList):Bool)=true:=by kernel_rfl
theorem eG {a b:Bool} (h:a=true) (k:b=true):(a&&b)=true:=by rw[h,k];rfl
theorem qgv:joinedFacts Tryz.prog 3 Tryz.f3 Rows.assemblyDepthsSpec Rows.assemblyDepthsRow=true:=by
 unfold joinedFacts
 exact eG (eG (eG (eG (eG (eG (eG (eG (eG (eG (eG (eG (eG (eG (eG (eG (eG (eG (eG (eG (eG (eG (eG (eG (eG (eG (eG (eG (eG (eG (eG qhj qhk) qhl) qhm) qhn) qho) qhp) qhq) qhr) qgE) qgF) qgG) qgH) qgI) qgJ) qgK) qgL) qgM) qgN) qgO) qgP) qgQ) qgR) qgS) qgT) qgU) qgV) qgW) qgX) qgY) qgZ) qha
end
end Go.Proofs.YtffbilcjhlncfaaGreatDoor
