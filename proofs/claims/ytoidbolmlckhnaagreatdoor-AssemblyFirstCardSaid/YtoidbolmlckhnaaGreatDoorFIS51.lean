/- texts: FIF. -/
import Derived.Test.YtoidbolmlckhnaaGreatDoorRows
import Derived.JoinedOf
import Derived.KernelRfl
namespace Go.Proofs.YtoidbolmlckhnaaGreatDoor
set_option maxHeartbeats 8000000
set_option linter.unusedSimpArgs false
set_option linter.unusedVariables false
section
open Go
set_option maxRecDepth 100000
theorem US:(Rows.assemblyFirstRow.wf (OpenSpec.ofChange Rows.assemblyFirstSpec):Bool)=true:=by kernel_rfl
theorem UT:(laidOutB Tryz.prog:Bool)=true:=by kernel_rfl
theorem UU:(mapsRowed Tryz.prog:Bool)=true:=by kernel_rfl
theorem UV:(Tryz.f4.params.all (Tryz.prog.readableRec ·):Bool)=true:=by kernel_rfl
theorem UW:(namedTie Tryz.prog Rows.assemblyFirstRow.named Rows.assemblyFirstSpec.vars:Bool)=true:=by kernel_rfl
theorem UX:((Rows.assemblyFirstRow.stops==[]):Bool)=true:=by kernel_rfl
theorem UY:((Tryz.prog.stops==[]):Bool)=true:=by kernel_rfl
theorem UZ:((Rows.assemblyFirstRow.knobs==[]):Bool)=true:=by kernel_rfl
theorem Va:((Tryz.prog.stopKnobs==[]):Bool)=true:=by kernel_rfl
theorem Un:((Rows.assemblyFirstRow.inPlace==Tryz.prog.inPlace 4):Bool)=true:=by kernel_rfl
theorem Uo:((Rows.assemblyFirstRow.unfollowed==Tryz.prog.unfollowed 4):Bool)=true:=by kernel_rfl
theorem Up:((Rows.assemblyFirstRow.recurses==Tryz.prog.recurses 4):Bool)=true:=by kernel_rfl
theorem Uq:((Rows.assemblyFirstRow.named==Tryz.prog.varsNamed 4):Bool)=true:=by kernel_rfl
theorem Ur:((Rows.assemblyFirstRow.maps==(Tryz.f4.params.toList++Rows.assemblyFirstSpec.plain.varTypes Tryz.prog).any (Tryz.prog.mapsRec ·)):Bool)=true:=by kernel_rfl
theorem Us:((Rows.assemblyFirstRow.ifaces==(Tryz.f4.params.toList++Rows.assemblyFirstSpec.plain.varTypes Tryz.prog).any (Tryz.prog.ifacesRec ·)):Bool)=true:=by kernel_rfl
theorem Ut:((Rows.assemblyFirstRow.mapsOut==Tryz.prog.mapsAmong Tryz.f4.resultTypes.toList):Bool)=true:=by kernel_rfl
theorem Uu:((Rows.assemblyFirstRow.loops==(Tryz.f4.params.toList++Rows.assemblyFirstSpec.plain.varTypes Tryz.prog).any (Tryz.prog.loopsFrom ·)):Bool)=true:=by kernel_rfl
theorem Uv:((Rows.assemblyFirstRow.wideKeys==(Tryz.f4.params.toList++Rows.assemblyFirstSpec.plain.varTypes Tryz.prog++Tryz.f4.resultTypes.toList).any (Tryz.prog.wideKeysFrom ·)):Bool)=true:=by kernel_rfl
theorem Uw:(Rows.assemblyFirstSpec.vars.all (Tryz.prog.varReadable ·):Bool)=true:=by kernel_rfl
theorem Ux:(Tryz.f4.resultTypes.all (fun t=>Tryz.prog.readableRec t&&decide (t<Tryz.prog.types.size)):Bool)=true:=by kernel_rfl
theorem Uy:((Rows.assemblyFirstRow.ifacesOut==Tryz.f4.resultTypes.toList.any (Tryz.prog.ifacesRec ·)):Bool)=true:=by kernel_rfl
theorem Uz:((Rows.assemblyFirstRow.loopsOut==Tryz.f4.resultTypes.toList.any (Tryz.prog.loopsFrom ·)):Bool)=true:=by kernel_rfl
theorem UA:((Rows.assemblyFirstRow.plainKeys==Tryz.prog.plainKeys):Bool)=true:=by kernel_rfl
theorem UB:(Rows.assemblyFirstRow.shortTexts.isNone:Bool)=true:=by kernel_rfl
theorem UC:(Tryz.prog.stopsHeard:Bool)=true:=by kernel_rfl
theorem UD:(Tryz.prog.mayEnter:Bool)=true:=by kernel_rfl
theorem UE:((Rows.assemblyFirstRow.lifted==Tryz.prog.liftsFinal):Bool)=true:=by kernel_rfl
theorem UF:((Tryz.prog.make==some Rows.assemblyFirstRow.make):Bool)=true:=by kernel_rfl
theorem UG:((Rows.assemblyFirstRow.kinds==(if Rows.assemblyFirstRow.domain.isEmpty then []else Tryz.f4.params.toList.map fun t=>match Tryz.prog.underlying t with|some (.int k)=>some k|_=>none)):Bool)=true:=by kernel_rfl
theorem UH:((Rows.assemblyFirstRow.pinned==Rows.assemblyFirstRow.pinnedBy):Bool)=true:=by kernel_rfl
theorem UI:((Rows.assemblyFirstRow.veiled==(Tryz.f4.params.toList++Rows.assemblyFirstSpec.plain.varTypes Tryz.prog++Tryz.f4.resultTypes.toList).any (Tryz.prog.veiledRec ·)):Bool)=true:=by kernel_rfl
theorem UJ:(Rows.assemblyFirstRow.veiledFits Tryz.prog Tryz.f4.params.toList (Tryz.f4.params.toList++Rows.assemblyFirstSpec.plain.varTypes Tryz.prog++Tryz.f4.resultTypes.toList):Bool)=true:=by kernel_rfl
theorem br {a b:Bool} (h:a=true) (k:b=true):(a&&b)=true:=by rw[h,k];rfl
theorem Ub:joinedFacts Tryz.prog 4 Tryz.f4 Rows.assemblyFirstSpec Rows.assemblyFirstRow=true:=by
 unfold joinedFacts
 exact br (br (br (br (br (br (br (br (br (br (br (br (br (br (br (br (br (br (br (br (br (br (br (br (br (br (br (br (br (br (br US UT) UU) UV) UW) UX) UY) UZ) Va) Un) Uo) Up) Uq) Ur) Us) Ut) Uu) Uv) Uw) Ux) Uy) Uz) UA) UB) UC) UD) UE) UF) UG) UH) UI) UJ
end
end Go.Proofs.YtoidbolmlckhnaaGreatDoor
