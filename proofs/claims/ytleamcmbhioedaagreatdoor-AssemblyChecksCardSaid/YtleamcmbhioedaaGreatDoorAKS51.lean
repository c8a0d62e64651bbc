/- texts: ACF. -/
import Derived.Test.YtleamcmbhioedaaGreatDoorRows
import Derived.JoinedOf
import Derived.KernelRfl
namespace Go.Proofs.YtleamcmbhioedaaGreatDoor
set_option maxHeartbeats 8000000
set_option linter.unusedSimpArgs false
set_option linter.unusedVariables false
section
open Go
set_option maxRecDepth 100000
theorem Pf:(Rows.assemblyChecksRow.wf (OpenSpec.ofChange Rows.assemblyChecksSpec):Bool)=true:=by kernel_rfl
theorem Pg:(laidOutB Tryz.prog:Bool)=true:=by kernel_rfl
theorem Ph:(mapsRowed Tryz.prog:Bool)=true:=by kernel_rfl
theorem Pi:(Tryz.f3.params.all (Tryz.prog.readableRec ·):Bool)=true:=by kernel_rfl
theorem Pj:(namedTie Tryz.prog Rows.assemblyChecksRow.named Rows.assemblyChecksSpec.vars:Bool)=true:=by kernel_rfl
theorem Pk:((Rows.assemblyChecksRow.stops==[]):Bool)=true:=by kernel_rfl
theorem Pm:((Tryz.prog.stops==[]):Bool)=true:=by kernel_rfl
theorem Pn:((Rows.assemblyChecksRow.knobs==[]):Bool)=true:=by kernel_rfl
theorem Po:((Tryz.prog.stopKnobs==[]):Bool)=true:=by kernel_rfl
theorem Oz:((Rows.assemblyChecksRow.inPlace==Tryz.prog.inPlace 3):Bool)=true:=by kernel_rfl
theorem OB:((Rows.assemblyChecksRow.unfollowed==Tryz.prog.unfollowed 3):Bool)=true:=by kernel_rfl
theorem OD:((Rows.assemblyChecksRow.recurses==Tryz.prog.recurses 3):Bool)=true:=by kernel_rfl
theorem OE:((Rows.assemblyChecksRow.named==Tryz.prog.varsNamed 3):Bool)=true:=by kernel_rfl
theorem OF:((Rows.assemblyChecksRow.maps==(Tryz.f3.params.toList++Rows.assemblyChecksSpec.plain.varTypes Tryz.prog).any (Tryz.prog.mapsRec ·)):Bool)=true:=by kernel_rfl
theorem OG:((Rows.assemblyChecksRow.ifaces==(Tryz.f3.params.toList++Rows.assemblyChecksSpec.plain.varTypes Tryz.prog).any (Tryz.prog.ifacesRec ·)):Bool)=true:=by kernel_rfl
theorem OH:((Rows.assemblyChecksRow.mapsOut==Tryz.prog.mapsAmong Tryz.f3.resultTypes.toList):Bool)=true:=by kernel_rfl
theorem OI:((Rows.assemblyChecksRow.loops==(Tryz.f3.params.toList++Rows.assemblyChecksSpec.plain.varTypes Tryz.prog).any (Tryz.prog.loopsFrom ·)):Bool)=true:=by kernel_rfl
theorem OJ:((Rows.assemblyChecksRow.wideKeys==(Tryz.f3.params.toList++Rows.assemblyChecksSpec.plain.varTypes Tryz.prog++Tryz.f3.resultTypes.toList).any (Tryz.prog.wideKeysFrom ·)):Bool)=true:=by kernel_rfl
theorem OK:(Rows.assemblyChecksSpec.vars.all (Tryz.prog.varReadable ·):Bool)=true:=by kernel_rfl
theorem OL:(Tryz.f3.resultTypes.all (fun t=>Tryz.prog.readableRec t&&decide (t<Tryz.prog.types.size)):Bool)=true:=by kernel_rfl
theorem OM:((Rows.assemblyChecksRow.ifacesOut==Tryz.f3.resultTypes.toList.any (Tryz.prog.ifacesRec ·)):Bool)=true:=by kernel_rfl
theorem ON:((Rows.assemblyChecksRow.loopsOut==Tryz.f3.resultTypes.toList.any (Tryz.prog.loopsFrom ·)):Bool)=true:=by kernel_rfl
theorem OO:((Rows.assemblyChecksRow.plainKeys==Tryz.prog.plainKeys):Bool)=true:=by kernel_rfl
theorem OP:(Rows.assemblyChecksRow.shortTexts.isNone:Bool)=true:=by kernel_rfl
theorem OQ:(Tryz.prog.stopsHeard:Bool)=true:=by kernel_rfl
theorem OR:(Tryz.prog.mayEnter:Bool)=true:=by kernel_rfl
theorem OS:((Rows.assemblyChecksRow.lifted==Tryz.prog.liftsFinal):Bool)=true:=by kernel_rfl
theorem OT:((Tryz.prog.make==some Rows.assemblyChecksRow.make):Bool)=true:=by kernel_rfl
theorem OU:((Rows.assemblyChecksRow.kinds==(if Rows.assemblyChecksRow.domain.isEmpty then []else Tryz.f3.params.toList.map fun t=>match Tryz.prog.underlying t with|some (.int k)=>some k|_=>none)):Bool)=true:=by kernel_rfl
theorem OV:((Rows.assemblyChecksRow.pinned==Rows.assemblyChecksRow.pinnedBy):Bool)=true:=by kernel_rfl
theorem OW:((Rows.assemblyChecksRow.veiled==(Tryz.f3.params.toList++Rows.assemblyChecksSpec.plain.varTypes Tryz.prog++Tryz.f3.resultTypes.toList).any (Tryz.prog.veiledRec ·)):Bool)=true:=by kernel_rfl
theorem OX:(Rows.assemblyChecksRow.veiledFits Tryz.prog Tryz.f3.params.toList (Tryz.f3.params.toList++Rows.assemblyChecksSpec.plain.varTypes Tryz.prog++Tryz.f3.resultTypes.toList):Bool)=true:=by kernel_rfl
theorem NM {a b:Bool} (h:a=true) (k:b=true):(a&&b)=true:=by rw[h,k];rfl
theorem Of:joinedFacts Tryz.prog 3 Tryz.f3 Rows.assemblyChecksSpec Rows.assemblyChecksRow=true:=by
 unfold joinedFacts
 exact NM (NM (NM (NM (NM (NM (NM (NM (NM (NM (NM (NM (NM (NM (NM (NM (NM (NM (NM (NM (NM (NM (NM (NM (NM (NM (NM (NM (NM (NM (NM Pf Pg) Ph) Pi) Pj) Pk) Pm) Pn) Po) Oz) OB) OD) OE) OF) OG) OH) OI) OJ) OK) OL) OM) ON) OO) OP) OQ) OR) OS) OT) OU) OV) OW) OX
end
end Go.Proofs.YtleamcmbhioedaaGreatDoor
