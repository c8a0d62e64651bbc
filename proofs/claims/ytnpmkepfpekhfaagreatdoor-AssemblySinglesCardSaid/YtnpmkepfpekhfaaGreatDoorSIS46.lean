/- texts: SIF. -/
import Derived.Test.YtnpmkepfpekhfaaGreatDoorRows
import Derived.JoinedOf
import Derived.KernelRfl
namespace Go.Proofs.YtnpmkepfpekhfaaGreatDoor
set_option maxHeartbeats 8000000
set_option linter.all false
section
open Go
set_option maxRecDepth 100000
theorem qbB:(Rows.assemblySinglesRow.wf (OpenSpec.ofChange Rows.assemblySinglesSpec):Bool)=true:=by kernel_rfl
theorem qbC:(laidOutB Tryz.prog:Bool)=true:=by kernel_rfl
theorem qbD:(mapsRowed Tryz.prog:Bool)=true:=by kernel_rfl
theorem qbE:(Tryz.f9.params.all (Tryz.prog.readableRec ·):Bool)=true:=by kernel_rfl
theorem qbF:(namedTie Tryz.prog Rows.assemblySinglesRow.named Rows.assemblySinglesSpec.vars:Bool)=true:=by kernel_rfl
theorem qbG:((Rows.assemblySinglesRow.stops==[]):Bool)=true:=by kernel_rfl
theorem qbH:((Tryz.prog.stops==[]):Bool)=true:=by kernel_rfl
theorem qbI:((Rows.assemblySinglesRow.knobs==[]):Bool)=true:=by kernel_rfl
theorem qbJ:((Tryz.prog.stopKnobs==[]):Bool)=true:=by kernel_rfl
theorem qaW:((Rows.assemblySinglesRow.inPlace==Tryz.prog.inPlace 9):Bool)=true:=by kernel_rfl
theorem qaX:((Rows.assemblySinglesRow.unfollowed==Tryz.prog.unfollowed 9):Bool)=true:=by kernel_rfl
theorem qaY:((Rows.assemblySinglesRow.recurses==Tryz.prog.recurses 9):Bool)=true:=by kernel_rfl
theorem qaZ:((Rows.assemblySinglesRow.named==Tryz.prog.varsNamed 9):Bool)=true:=by kernel_rfl
theorem qba:((Rows.assemblySinglesRow.maps==(Tryz.f9.params.toList++Rows.assemblySinglesSpec.plain.varTypes Tryz.prog).any (Tryz.prog.mapsRec ·)):Bool)=true:=by kernel_rfl
theorem qbb:((Rows.assemblySinglesRow.ifaces==(Tryz.f9.params.toList++Rows.assemblySinglesSpec.plain.varTypes Tryz.prog).any (Tryz.prog.ifacesRec ·)):Bool)=true:=by kernel_rfl
theorem qbc:((Rows.assemblySinglesRow.mapsOut==Tryz.prog.mapsAmong Tryz.f9.resultTypes.toList):Bool)=true:=by kernel_rfl
theorem qbd:((Rows.assemblySinglesRow.loops==(Tryz.f9.params.toList++Rows.assemblySinglesSpec.plain.varTypes Tryz.prog).any (Tryz.prog.loopsFrom ·)):Bool)=true:=by kernel_rfl
theorem qbe:((Rows.assemblySinglesRow.wideKeys==(Tryz.f9.params.toList++Rows.assemblySinglesSpec.plain.varTypes Tryz.prog++Tryz.f9.resultTypes.toList).any (Tryz.prog.wideKeysFrom ·)):Bool)=true:=by kernel_rfl
theorem qbf:(Rows.assemblySinglesSpec.vars.all (Tryz.prog.varReadable ·):Bool)=true:=by kernel_rfl
theorem qbg:(Tryz.f9.resultTypes.all (fun t=>Tryz.prog.readableRec t&&decide (t<Tryz.prog.types.size)):Bool)=true:=by kernel_rfl
theorem qbh:((Rows.assemblySinglesRow.ifacesOut==Tryz.f9.resultTypes.toList.any (Tryz.prog.ifacesRec ·)):Bool)=true:=by kernel_rfl
theorem qbi:((Rows.assemblySinglesRow.loopsOut==Tryz.f9.resultTypes.toList.any (Tryz.prog.loopsFrom ·)):Bool)=true:=by kernel_rfl
theorem qbj:((Rows.assemblySinglesRow.plainKeys==Tryz.prog.plainKeys):Bool)=true:=by kernel_rfl
theorem qbk:(Rows.assemblySinglesRow.shortTexts.isNone:Bool)=true:=by kernel_rfl
theorem qbl:(Tryz.prog.stopsHeard:Bool)=true:=by kernel_rfl
theorem qbm:(Tryz.prog.mayEnter:Bool)=true:=by kernel_rfl
theorem qbn:((Rows.assemblySinglesRow.lifted==Tryz.prog.liftsFinal):Bool)=true:=by kernel_rfl
theorem qbo:((Tryz.prog.make==some Rows.assemblySinglesRow.make):Bool)=true:=by kernel_rfl
theorem qbp:((Rows.assemblySinglesRow.kinds==(if Rows.assemblySinglesRow.domain.isEmpty then []else Tryz.f9.params.toList.map fun t=>match Tryz.prog.underlying t with|some (.int k)=>some k|_=>none)):Bool)=true:=by kernel_rfl
theorem qbq:((Rows.assemblySinglesRow.pinned==Rows.assemblySinglesRow.pinnedBy):Bool)=true:=by kernel_rfl
theorem qbr:((Rows.assemblySinglesRow.veiled==(Tryz.f9.params.toList++Rows.assemblySinglesSpec.plain.varTypes Tryz.prog++Tryz.f9.resultTypes.toList).any (Tryz.prog.veiledRec ·)):Bool)=true:=by kernel_rfl
theorem qbs:(Rows.assemblySinglesRow.veiledFits Tryz.prog Tryz.f9.params.toList (Tryz.f9.params.toList++Rows.assemblySinglesSpec.plain.varTypes Tryz.prog++Tryz.f9.resultTypes.toList):Bool)=true:=by kernel_rfl
theorem ll {a b:Bool} (h:a=true) (k:b=true):(a&&b)=true:=by rw[h,k];rfl
theorem qaM:joinedFacts Tryz.prog 9 Tryz.f9 Rows.assemblySinglesSpec Rows.assemblySinglesRow=true:=by
 unfold joinedFacts
 exact ll (ll (ll (ll (ll (ll (ll (ll (ll (ll (ll (ll (ll (ll (ll (ll (ll (ll (ll (ll (ll (ll (ll (ll (ll (ll (ll (ll (ll (ll (ll qbB qbC) qbD) qbE) qbF) qbG) qbH) qbI) qbJ) qaW) qaX) qaY) qaZ) qba) qbb) qbc) qbd) qbe) qbf) qbg) qbh) qbi) qbj) qbk) qbl) qbm) qbn) qbo) qbp) qbq) qbr) qbs
end
end Go.Proofs.YtnpmkepfpekhfaaGreatDoor
