/- texts: RI. -/
import Derived.Test.YtokhkhnofkcalaaGreatDoorRows
import Derived.JoinedOf
import Derived.KernelRfl
namespace Go.Proofs.YtokhkhnofkcalaaGreatDoor
set_option maxHeartbeats 8000000
set_option linter.unusedSimpArgs false
set_option linter.unusedVariables false
section
open Go
set_option maxRecDepth 100000
theorem ri1:(Rows.jointKeepsRow.wf (OpenSpec.ofChange Rows.jointKeepsSpec):Bool)=true:=by kernel_rfl
theorem ri2:(laidOutB Tryz.prog:Bool)=true:=by kernel_rfl
theorem ri3:(mapsRowed Tryz.prog:Bool)=true:=by kernel_rfl
theorem ri4:(Tryz.f3.params.all (Tryz.prog.readableRec ·):Bool)=true:=by kernel_rfl
theorem ri5:(namedTie Tryz.prog Rows.jointKeepsRow.named Rows.jointKeepsSpec.vars:Bool)=true:=by kernel_rfl
theorem ri6:((Rows.jointKeepsRow.stops==[]):Bool)=true:=by kernel_rfl
theorem ri7:((Tryz.prog.stops==[]):Bool)=true:=by kernel_rfl
theorem ri8:((Rows.jointKeepsRow.knobs==[]):Bool)=true:=by kernel_rfl
theorem ri9:((Tryz.prog.stopKnobs==[]):Bool)=true:=by kernel_rfl
theorem AB:((Rows.jointKeepsRow.inPlace==Tryz.prog.inPlace 3):Bool)=true:=by kernel_rfl
theorem AC:((Rows.jointKeepsRow.unfollowed==Tryz.prog.unfollowed 3):Bool)=true:=by kernel_rfl
theorem AD:((Rows.jointKeepsRow.recurses==Tryz.prog.recurses 3):Bool)=true:=by kernel_rfl
theorem AE:((Rows.jointKeepsRow.named==Tryz.prog.varsNamed 3):Bool)=true:=by kernel_rfl
theorem AF:((Rows.jointKeepsRow.maps==(Tryz.f3.params.toList++Rows.jointKeepsSpec.plain.varTypes Tryz.prog).any (Tryz.prog.mapsRec ·)):Bool)=true:=by kernel_rfl
theorem AG:((Rows.jointKeepsRow.ifaces==(Tryz.f3.params.toList++Rows.jointKeepsSpec.plain.varTypes Tryz.prog).any (Tryz.prog.ifacesRec ·)):Bool)=true:=by kernel_rfl
theorem AH:((Rows.jointKeepsRow.mapsOut==Tryz.prog.mapsAmong Tryz.f3.resultTypes.toList):Bool)=true:=by kernel_rfl
theorem AI:((Rows.jointKeepsRow.loops==(Tryz.f3.params.toList++Rows.jointKeepsSpec.plain.varTypes Tryz.prog).any (Tryz.prog.loopsFrom ·)):Bool)=true:=by kernel_rfl
theorem AJ:((Rows.jointKeepsRow.wideKeys==(Tryz.f3.params.toList++Rows.jointKeepsSpec.plain.varTypes Tryz.prog++Tryz.f3.resultTypes.toList).any (Tryz.prog.wideKeysFrom ·)):Bool)=true:=by kernel_rfl
theorem AK:(Rows.jointKeepsSpec.vars.all (Tryz.prog.varReadable ·):Bool)=true:=by kernel_rfl
theorem AL:(Tryz.f3.resultTypes.all (fun t=>Tryz.prog.readableRec t&&decide (t<Tryz.prog.types.size)):Bool)=true:=by kernel_rfl
theorem AM:((Rows.jointKeepsRow.ifacesOut==Tryz.f3.resultTypes.toList.any (Tryz.prog.ifacesRec ·)):Bool)=true:=by kernel_rfl
theorem AN:((Rows.jointKeepsRow.loopsOut==Tryz.f3.resultTypes.toList.any (Tryz.prog.loopsFrom ·)):Bool)=true:=by kernel_rfl
theorem AO:((Rows.jointKeepsRow.plainKeys==Tryz.prog.plainKeys):Bool)=true:=by kernel_rfl
theorem AP:(Rows.jointKeepsRow.shortTexts.isNone:Bool)=true:=by kernel_rfl
theorem AQ:(Tryz.prog.stopsHeard:Bool)=true:=by kernel_rfl
theorem AR:(Tryz.prog.mayEnter:Bool)=true:=by kernel_rfl
theorem AS:((Rows.jointKeepsRow.lifted==Tryz.prog.liftsFinal):Bool)=true:=by kernel_rfl
theorem AT:((Tryz.prog.make==some Rows.jointKeepsRow.make):Bool)=true:=by kernel_rfl
theorem AU:((Rows.jointKeepsRow.kinds==(if Rows.jointKeepsRow.domain.isEmpty then []else Tryz.f3.params.toList.map fun t=>match Tryz.prog.underlying t with|some (.int k)=>some k|_=>none)):Bool)=true:=by kernel_rfl
theorem AV:((Rows.jointKeepsRow.pinned==Rows.jointKeepsRow.pinnedBy):Bool)=true:=by kernel_rfl
theorem AW:((Rows.jointKeepsRow.veiled==(Tryz.f3.params.toList++Rows.jointKeepsSpec.plain.varTypes Tryz.prog++Tryz.f3.resultTypes.toList).any (Tryz.prog.veiledRec ·)):Bool)=true:=by kernel_rfl
theorem AX:(Rows.jointKeepsRow.veiledFits Tryz.prog Tryz.f3.params.toList (Tryz.f3.params.toList++Rows.jointKeepsSpec.plain.varTypes Tryz.prog++Tryz.f3.resultTypes.toList):Bool)=true:=by kernel_rfl
theorem riA {a b:Bool} (h:a=true) (k:b=true):(a&&b)=true:=by rw[h,k];rfl
theorem jS:joinedFacts Tryz.prog 3 Tryz.f3 Rows.jointKeepsSpec Rows.jointKeepsRow=true:=by
 unfold joinedFacts
 exact riA (riA (riA (riA (riA (riA (riA (riA (riA (riA (riA (riA (riA (riA (riA (riA (riA (riA (riA (riA (riA (riA (riA (riA (riA (riA (riA (riA (riA (riA (riA ri1 ri2) ri3) ri4) ri5) ri6) ri7) ri8) ri9) AB) AC) AD) AE) AF) AG) AH) AI) AJ) AK) AL) AM) AN) AO) AP) AQ) AR) AS) AT) AU) AV) AW) AX
end
end Go.Proofs.YtokhkhnofkcalaaGreatDoor
