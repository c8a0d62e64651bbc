/- texts: BWF. -/
import Derived.Test.YtleamcmbhioedaaGreatDoorRows
import Derived.JoinedOf
import Derived.KernelRfl
namespace Go.Proofs.YtleamcmbhioedaaGreatDoor
set_option maxHeartbeats 8000000
set_option linter.unusedSimpArgs false
set_option linter.unusedVariables false
section
open Go
set_option maxRecDepth 100000
theorem Sa:(Rows.assemblyBlocksRow.wf (OpenSpec.ofChange Rows.assemblyBlocksSpec):Bool)=true:=by kernel_rfl
theorem Sb:(laidOutB Tryz.prog:Bool)=true:=by kernel_rfl
theorem Sc:(mapsRowed Tryz.prog:Bool)=true:=by kernel_rfl
theorem Sd:(Tryz.f4.params.all (Tryz.prog.readableRec ·):Bool)=true:=by kernel_rfl
theorem Se:(namedTie Tryz.prog Rows.assemblyBlocksRow.named Rows.assemblyBlocksSpec.vars:Bool)=true:=by kernel_rfl
theorem Sf:((Rows.assemblyBlocksRow.stops==[]):Bool)=true:=by kernel_rfl
theorem Sh:((Tryz.prog.stops==[]):Bool)=true:=by kernel_rfl
theorem Si:((Rows.assemblyBlocksRow.knobs==[]):Bool)=true:=by kernel_rfl
theorem Sj:((Tryz.prog.stopKnobs==[]):Bool)=true:=by kernel_rfl
theorem Rw:((Rows.assemblyBlocksRow.inPlace==Tryz.prog.inPlace 4):Bool)=true:=by kernel_rfl
theorem Rx:((Rows.assemblyBlocksRow.unfollowed==Tryz.prog.unfollowed 4):Bool)=true:=by kernel_rfl
theorem Ry:((Rows.assemblyBlocksRow.recurses==Tryz.prog.recurses 4):Bool)=true:=by kernel_rfl
theorem Rz:((Rows.assemblyBlocksRow.named==Tryz.prog.varsNamed 4):Bool)=true:=by kernel_rfl
theorem RA:((Rows.assemblyBlocksRow.maps==(Tryz.f4.params.toList++Rows.assemblyBlocksSpec.plain.varTypes Tryz.prog).any (Tryz.prog.mapsRec ·)):Bool)=true:=by kernel_rfl
theorem RB:((Rows.assemblyBlocksRow.ifaces==(Tryz.f4.params.toList++Rows.assemblyBlocksSpec.plain.varTypes Tryz.prog).any (Tryz.prog.ifacesRec ·)):Bool)=true:=by kernel_rfl
theorem RC:((Rows.assemblyBlocksRow.mapsOut==Tryz.prog.mapsAmong Tryz.f4.resultTypes.toList):Bool)=true:=by kernel_rfl
theorem RE:((Rows.assemblyBlocksRow.loops==(Tryz.f4.params.toList++Rows.assemblyBlocksSpec.plain.varTypes Tryz.prog).any (Tryz.prog.loopsFrom ·)):Bool)=true:=by kernel_rfl
theorem RF:((Rows.assemblyBlocksRow.wideKeys==(Tryz.f4.params.toList++Rows.assemblyBlocksSpec.plain.varTypes Tryz.prog++Tryz.f4.resultTypes.toList).any (Tryz.prog.wideKeysFrom ·)):Bool)=true:=by kernel_rfl
theorem RG:(Rows.assemblyBlocksSpec.vars.all (Tryz.prog.varReadable ·):Bool)=true:=by kernel_rfl
theorem RH:(Tryz.f4.resultTypes.all (fun t=>Tryz.prog.readableRec t&&decide (t<Tryz.prog.types.size)):Bool)=true:=by kernel_rfl
theorem RI:((Rows.assemblyBlocksRow.ifacesOut==Tryz.f4.resultTypes.toList.any (Tryz.prog.ifacesRec ·)):Bool)=true:=by kernel_rfl
theorem RJ:((Rows.assemblyBlocksRow.loopsOut==Tryz.f4.resultTypes.toList.any (Tryz.prog.loopsFrom ·)):Bool)=true:=by kernel_rfl
theorem RK:((Rows.assemblyBlocksRow.plainKeys==Tryz.prog.plainKeys):Bool)=true:=by kernel_rfl
theorem RL:(Rows.assemblyBlocksRow.shortTexts.isNone:Bool)=true:=by kernel_rfl
theorem RM:(Tryz.prog.stopsHeard:Bool)=true:=by kernel_rfl
theorem RN:(Tryz.prog.mayEnter:Bool)=true:=by kernel_rfl
theorem RO:((Rows.assemblyBlocksRow.lifted==Tryz.prog.liftsFinal):Bool)=true:=by kernel_rfl
theorem RP:((Tryz.prog.make==some Rows.assemblyBlocksRow.make):Bool)=true:=by kernel_rfl
theorem RQ:((Rows.assemblyBlocksRow.kinds==(if Rows.assemblyBlocksRow.domain.isEmpty then []else Tryz.f4.params.toList.map fun t=>match Tryz.prog.underlying t with|some (.int k)=>some k|_=>none)):Bool)=true:=by kernel_rfl
theorem RR:((Rows.assemblyBlocksRow.pinned==Rows.assemblyBlocksRow.pinnedBy):Bool)=true:=by kernel_rfl
theorem RS:((Rows.assemblyBlocksRow.veiled==(Tryz.f4.params.toList++Rows.assemblyBlocksSpec.plain.varTypes Tryz.prog++Tryz.f4.resultTypes.toList).any (Tryz.prog.veiledRec ·)):Bool)=true:=by kernel_rfl
theorem RT:(Rows.assemblyBlocksRow.veiledFits Tryz.prog Tryz.f4.params.toList (Tryz.f4.params.toList++Rows.assemblyBlocksSpec.plain.varTypes Tryz.prog++Tryz.f4.resultTypes.toList):Bool)=true:=by kernel_rfl
theorem ae {a b:Bool} (h:a=true) (k:b=true):(a&&b)=true:=by rw[h,k];rfl
theorem Rm:joinedFacts Tryz.prog 4 Tryz.f4 Rows.assemblyBlocksSpec Rows.assemblyBlocksRow=true:=by
 unfold joinedFacts
 exact ae (ae (ae (ae (ae (ae (ae (ae (ae (ae (ae (ae (ae (ae (ae (ae (ae (ae (ae (ae (ae (ae (ae (ae (ae (ae (ae (ae (ae (ae (ae Sa Sb) Sc) Sd) Se) Sf) Sh) Si) Sj) Rw) Rx) Ry) Rz) RA) RB) RC) RE) RF) RG) RH) RI) RJ) RK) RL) RM) RN) RO) RP) RQ) RR) RS) RT
end
end Go.Proofs.YtleamcmbhioedaaGreatDoor
