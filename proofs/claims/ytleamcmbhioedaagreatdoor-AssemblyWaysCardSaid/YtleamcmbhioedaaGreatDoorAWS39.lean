/- texts: MWf. -/
import Derived.Test.YtleamcmbhioedaaGreatDoorRows
import Derived.JoinedOf
import Derived.KernelRfl
namespace Go.Proofs.YtleamcmbhioedaaGreatDoor
set_option maxHeartbeats 8000000
set_option linter.unusedSimpArgs false
set_option linter.unusedVariables false
section
open Go
set_option maxRecDepth 100000
theorem ND:(Rows.assemblyWaysRow.wf (OpenSpec.ofChange Rows.assemblyWaysSpec):Bool)=true:=by kernel_rfl
theorem NE:(laidOutB Tryz.prog:Bool)=true:=by kernel_rfl
theorem NF:(mapsRowed Tryz.prog:Bool)=true:=by kernel_rfl
theorem NG:(Tryz.f5.params.all (Tryz.prog.readableRec ·):Bool)=true:=by kernel_rfl
theorem NH:(namedTie Tryz.prog Rows.assemblyWaysRow.named Rows.assemblyWaysSpec.vars:Bool)=true:=by kernel_rfl
theorem NI:((Rows.assemblyWaysRow.stops==[]):Bool)=true:=by kernel_rfl
theorem NJ:((Tryz.prog.stops==[]):Bool)=true:=by kernel_rfl
theorem NK:((Rows.assemblyWaysRow.knobs==[]):Bool)=true:=by kernel_rfl
theorem NL:((Tryz.prog.stopKnobs==[]):Bool)=true:=by kernel_rfl
theorem Ng:((Rows.assemblyWaysRow.inPlace==Tryz.prog.inPlace 5):Bool)=true:=by kernel_rfl
theorem Nh:((Rows.assemblyWaysRow.unfollowed==Tryz.prog.unfollowed 5):Bool)=true:=by kernel_rfl
theorem Ni:((Rows.assemblyWaysRow.recurses==Tryz.prog.recurses 5):Bool)=true:=by kernel_rfl
theorem Nj:((Rows.assemblyWaysRow.named==Tryz.prog.varsNamed 5):Bool)=true:=by kernel_rfl
theorem Nk:((Rows.assemblyWaysRow.maps==(Tryz.f5.params.toList++Rows.assemblyWaysSpec.plain.varTypes Tryz.prog).any (Tryz.prog.mapsRec ·)):Bool)=true:=by kernel_rfl
theorem Nl:((Rows.assemblyWaysRow.ifaces==(Tryz.f5.params.toList++Rows.assemblyWaysSpec.plain.varTypes Tryz.prog).any (Tryz.prog.ifacesRec ·)):Bool)=true:=by kernel_rfl
theorem Nm:((Rows.assemblyWaysRow.mapsOut==Tryz.prog.mapsAmong Tryz.f5.resultTypes.toList):Bool)=true:=by kernel_rfl
theorem Nn:((Rows.assemblyWaysRow.loops==(Tryz.f5.params.toList++Rows.assemblyWaysSpec.plain.varTypes Tryz.prog).any (Tryz.prog.loopsFrom ·)):Bool)=true:=by kernel_rfl
theorem No:((Rows.assemblyWaysRow.wideKeys==(Tryz.f5.params.toList++Rows.assemblyWaysSpec.plain.varTypes Tryz.prog++Tryz.f5.resultTypes.toList).any (Tryz.prog.wideKeysFrom ·)):Bool)=true:=by kernel_rfl
theorem Np:(Rows.assemblyWaysSpec.vars.all (Tryz.prog.varReadable ·):Bool)=true:=by kernel_rfl
theorem Nq:(Tryz.f5.resultTypes.all (fun t=>Tryz.prog.readableRec t&&decide (t<Tryz.prog.types.size)):Bool)=true:=by kernel_rfl
theorem Nr:((Rows.assemblyWaysRow.ifacesOut==Tryz.f5.resultTypes.toList.any (Tryz.prog.ifacesRec ·)):Bool)=true:=by kernel_rfl
theorem Ns:((Rows.assemblyWaysRow.loopsOut==Tryz.f5.resultTypes.toList.any (Tryz.prog.loopsFrom ·)):Bool)=true:=by kernel_rfl
theorem Nt:((Rows.assemblyWaysRow.plainKeys==Tryz.prog.plainKeys):Bool)=true:=by kernel_rfl
theorem Nu:(Rows.assemblyWaysRow.shortTexts.isNone:Bool)=true:=by kernel_rfl
theorem Nv:(Tryz.prog.stopsHeard:Bool)=true:=by kernel_rfl
theorem Nw:(Tryz.prog.mayEnter:Bool)=true:=by kernel_rfl
theorem Nx:((Rows.assemblyWaysRow.lifted==Tryz.prog.liftsFinal):Bool)=true:=by kernel_rfl
theorem Ny:((Tryz.prog.make==some Rows.assemblyWaysRow.make):Bool)=true:=by kernel_rfl
theorem Nz:((Rows.assemblyWaysRow.kinds==(if Rows.assemblyWaysRow.domain.isEmpty then []else Tryz.f5.params.toList.map fun t=>match Tryz.prog.underlying t with|some (.int k)=>some k|_=>none)):Bool)=true:=by kernel_rfl
theorem NA:((Rows.assemblyWaysRow.pinned==Rows.assemblyWaysRow.pinnedBy):Bool)=true:=by kernel_rfl
theorem NB:((Rows.assemblyWaysRow.veiled==(Tryz.f5.params.toList++Rows.assemblyWaysSpec.plain.varTypes Tryz.prog++Tryz.f5.resultTypes.toList).any (Tryz.prog.veiledRec ·)):Bool)=true:=by kernel_rfl
theorem NC:(Rows.assemblyWaysRow.veiledFits Tryz.prog Tryz.f5.params.toList (Tryz.f5.params.toList++Rows.assemblyWaysSpec.plain.varTypes Tryz.prog++Tryz.f5.resultTypes.toList):Bool)=true:=by kernel_rfl
theorem Nc {a b:Bool} (h:a=true) (k:b=true):(a&&b)=true:=by rw[h,k];rfl
theorem Nd:joinedFacts Tryz.prog 5 Tryz.f5 Rows.assemblyWaysSpec Rows.assemblyWaysRow=true:=by
 unfold joinedFacts
 exact Nc (Nc (Nc (Nc (Nc (Nc (Nc (Nc (Nc (Nc (Nc (Nc (Nc (Nc (Nc (Nc (Nc (Nc (Nc (Nc (Nc (Nc (Nc (Nc (Nc (Nc (Nc (Nc (Nc (Nc (Nc ND NE) NF) NG) NH) NI) NJ) NK) NL) Ng) Nh) Ni) Nj) Nk) Nl) Nm) Nn) No) Np) Nq) Nr) Ns) Nt) Nu) Nv) Nw) Nx) Ny) Nz) NA) NB) NC
end
end Go.Proofs.YtleamcmbhioedaaGreatDoor
