/- texts: GRF. -/
import Derived.Test.YtnpmkepfpekhfaaGreatDoorRows
import Derived.JoinedOf
import Derived.KernelRfl
namespace Go.Proofs.YtnpmkepfpekhfaaGreatDoor
set_option maxHeartbeats 8000000
set_option linter.all false
section
open Go
set_option maxRecDepth 100000
theorem ZL:(Rows.assemblyGraphsRow.wf (OpenSpec.ofChange Rows.assemblyGraphsSpec):Bool)=true:=by kernel_rfl
theorem ZM:(laidOutB Tryz.prog:Bool)=true:=by kernel_rfl
theorem ZN:(mapsRowed Tryz.prog:Bool)=true:=by kernel_rfl
theorem ZO:(Tryz.f4.params.all (Tryz.prog.readableRec ·):Bool)=true:=by kernel_rfl
theorem ZP:(namedTie Tryz.prog Rows.assemblyGraphsRow.named Rows.assemblyGraphsSpec.vars:Bool)=true:=by kernel_rfl
theorem ZQ:((Rows.assemblyGraphsRow.stops==[]):Bool)=true:=by kernel_rfl
theorem ZR:((Tryz.prog.stops==[]):Bool)=true:=by kernel_rfl
theorem ZS:((Rows.assemblyGraphsRow.knobs==[]):Bool)=true:=by kernel_rfl
theorem ZT:((Tryz.prog.stopKnobs==[]):Bool)=true:=by kernel_rfl
theorem Zj:((Rows.assemblyGraphsRow.inPlace==Tryz.prog.inPlace 4):Bool)=true:=by kernel_rfl
theorem Zk:((Rows.assemblyGraphsRow.unfollowed==Tryz.prog.unfollowed 4):Bool)=true:=by kernel_rfl
theorem Zl:((Rows.assemblyGraphsRow.recurses==Tryz.prog.recurses 4):Bool)=true:=by kernel_rfl
theorem Zm:((Rows.assemblyGraphsRow.named==Tryz.prog.varsNamed 4):Bool)=true:=by kernel_rfl
theorem Zn:((Rows.assemblyGraphsRow.maps==(Tryz.f4.params.toList++Rows.assemblyGraphsSpec.plain.varTypes Tryz.prog).any (Tryz.prog.mapsRec ·)):Bool)=true:=by kernel_rfl
theorem Zo:((Rows.assemblyGraphsRow.ifaces==(Tryz.f4.params.toList++Rows.assemblyGraphsSpec.plain.varTypes Tryz.prog).any (Tryz.prog.ifacesRec ·)):Bool)=true:=by kernel_rfl
theorem Zp:((Rows.assemblyGraphsRow.mapsOut==Tryz.prog.mapsAmong Tryz.f4.resultTypes.toList):Bool)=true:=by kernel_rfl
theorem Zq:((Rows.assemblyGraphsRow.loops==(Tryz.f4.params.toList++Rows.assemblyGraphsSpec.plain.varTypes Tryz.prog).any (Tryz.prog.loopsFrom ·)):Bool)=true:=by kernel_rfl
theorem Zr:((Rows.assemblyGraphsRow.wideKeys==(Tryz.f4.params.toList++Rows.assemblyGraphsSpec.plain.varTypes Tryz.prog++Tryz.f4.resultTypes.toList).any (Tryz.prog.wideKeysFrom ·)):Bool)=true:=by kernel_rfl
theorem Zs:(Rows.assemblyGraphsSpec.vars.all (Tryz.prog.varReadable ·):Bool)=true:=by kernel_rfl
theorem Zt:(Tryz.f4.resultTypes.all (fun t=>Tryz.prog.readableRec t&&decide (t<Tryz.prog.types.size)):Bool)=true:=by kernel_rfl
theorem Zu:((Rows.assemblyGraphsRow.ifacesOut==Tryz.f4.resultTypes.toList.any (Tryz.prog.ifacesRec ·)):Bool)=true:=by kernel_rfl
theorem Zv:((Rows.assemblyGraphsRow.loopsOut==Tryz.f4.resultTypes.toList.any (Tryz.prog.loopsFrom ·)):Bool)=true:=by kernel_rfl
theorem Zw:((Rows.assemblyGraphsRow.plainKeys==Tryz.prog.plainKeys):Bool)=true:=by kernel_rfl
theorem Zx:(Rows.assemblyGraphsRow.shortTexts.isNone:Bool)=true:=by kernel_rfl
theorem Zy:(Tryz.prog.stopsHeard:Bool)=true:=by kernel_rfl
theorem Zz:(Tryz.prog.mayEnter:Bool)=true:=by kernel_rfl
theorem ZA:((Rows.assemblyGraphsRow.lifted==Tryz.prog.liftsFinal):Bool)=true:=by kernel_rfl
theorem ZB:((Tryz.prog.make==some Rows.assemblyGraphsRow.make):Bool)=true:=by kernel_rfl
theorem ZC:((Rows.assemblyGraphsRow.kinds==(if Rows.assemblyGraphsRow.domain.isEmpty then []else Tryz.f4.params.toList.map fun t=>match Tryz.prog.underlying t with|some (.int k)=>some k|_=>none)):Bool)=true:=by kernel_rfl
theorem ZD:((Rows.assemblyGraphsRow.pinned==Rows.assemblyGraphsRow.pinnedBy):Bool)=true:=by kernel_rfl
theorem ZE:((Rows.assemblyGraphsRow.veiled==(Tryz.f4.params.toList++Rows.assemblyGraphsSpec.plain.varTypes Tryz.prog++Tryz.f4.resultTypes.toList).any (Tryz.prog.veiledRec ·)):Bool)=true:=by kernel_rfl
theorem ZF:(Rows.assemblyGraphsRow.veiledFits Tryz.prog Tryz.f4.params.toList (Tryz.f4.params.toList++Rows.assemblyGraphsSpec.plain.varTypes Tryz.prog++Tryz.f4.resultTypes.toList):Bool)=true:=by kernel_rfl
theorem cq {a b:Bool} (h:a=true) (k:b=true):(a&&b)=true:=by rw[h,k];rfl
theorem my:joinedFacts Tryz.prog 4 Tryz.f4 Rows.assemblyGraphsSpec Rows.assemblyGraphsRow=true:=by
 unfold joinedFacts
 exact cq (cq (cq (cq (cq (cq (cq (cq (cq (cq (cq (cq (cq (cq (cq (cq (cq (cq (cq (cq (cq (cq (cq (cq (cq (cq (cq (cq (cq (cq (cq ZL ZM) ZN) ZO) ZP) ZQ) ZR) ZS) ZT) Zj) Zk) Zl) Zm) Zn) Zo) Zp) Zq) Zr) Zs) Zt) Zu) Zv) Zw) Zx) Zy) Zz) ZA) ZB) ZC) ZD) ZE) ZF
end
end Go.Proofs.YtnpmkepfpekhfaaGreatDoor
