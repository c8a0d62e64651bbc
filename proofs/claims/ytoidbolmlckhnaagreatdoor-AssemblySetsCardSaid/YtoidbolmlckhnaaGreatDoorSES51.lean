/- texts: SEF. -/
import Derived.Test.YtoidbolmlckhnaaGreatDoorRows
import Derived.JoinedOf
import Derived.KernelRfl
namespace Go.Proofs.YtoidbolmlckhnaaGreatDoor
set_option maxHeartbeats 8000000
set_option linter.unusedSimpArgs false
set_option linter.unusedVariables false
section
open Go
set_option maxRecDepth 100000
theorem XD:(Rows.assemblySetsRow.wf (OpenSpec.ofChange Rows.assemblySetsSpec):Bool)=true:=by kernel_rfl
theorem XE:(laidOutB Tryz.prog:Bool)=true:=by kernel_rfl
theorem XF:(mapsRowed Tryz.prog:Bool)=true:=by kernel_rfl
theorem XG:(Tryz.f6.params.all (Tryz.prog.readableRec ·):Bool)=true:=by kernel_rfl
theorem XH:(namedTie Tryz.prog Rows.assemblySetsRow.named Rows.assemblySetsSpec.vars:Bool)=true:=by kernel_rfl
theorem XI:((Rows.assemblySetsRow.stops==[]):Bool)=true:=by kernel_rfl
theorem XJ:((Tryz.prog.stops==[]):Bool)=true:=by kernel_rfl
theorem XK:((Rows.assemblySetsRow.knobs==[]):Bool)=true:=by kernel_rfl
theorem XL:((Tryz.prog.stopKnobs==[]):Bool)=true:=by kernel_rfl
theorem WZ:((Rows.assemblySetsRow.inPlace==Tryz.prog.inPlace 6):Bool)=true:=by kernel_rfl
theorem Xa:((Rows.assemblySetsRow.unfollowed==Tryz.prog.unfollowed 6):Bool)=true:=by kernel_rfl
theorem Xb:((Rows.assemblySetsRow.recurses==Tryz.prog.recurses 6):Bool)=true:=by kernel_rfl
theorem Xc:((Rows.assemblySetsRow.named==Tryz.prog.varsNamed 6):Bool)=true:=by kernel_rfl
theorem Xd:((Rows.assemblySetsRow.maps==(Tryz.f6.params.toList++Rows.assemblySetsSpec.plain.varTypes Tryz.prog).any (Tryz.prog.mapsRec ·)):Bool)=true:=by kernel_rfl
theorem Xe:((Rows.assemblySetsRow.ifaces==(Tryz.f6.params.toList++Rows.assemblySetsSpec.plain.varTypes Tryz.prog).any (Tryz.prog.ifacesRec ·)):Bool)=true:=by kernel_rfl
theorem Xf:((Rows.assemblySetsRow.mapsOut==Tryz.prog.mapsAmong Tryz.f6.resultTypes.toList):Bool)=true:=by kernel_rfl
theorem Xg:((Rows.assemblySetsRow.loops==(Tryz.f6.params.toList++Rows.assemblySetsSpec.plain.varTypes Tryz.prog).any (Tryz.prog.loopsFrom ·)):Bool)=true:=by kernel_rfl
theorem Xh:((Rows.assemblySetsRow.wideKeys==(Tryz.f6.params.toList++Rows.assemblySetsSpec.plain.varTypes Tryz.prog++Tryz.f6.resultTypes.toList).any (Tryz.prog.wideKeysFrom ·)):Bool)=true:=by kernel_rfl
theorem Xi:(Rows.assemblySetsSpec.vars.all (Tryz.prog.varReadable ·):Bool)=true:=by kernel_rfl
theorem Xj:(Tryz.f6.resultTypes.all (fun t=>Tryz.prog.readableRec t&&decide (t<Tryz.prog.types.size)):Bool)=true:=by kernel_rfl
theorem Xk:((Rows.assemblySetsRow.ifacesOut==Tryz.f6.resultTypes.toList.any (Tryz.prog.ifacesRec ·)):Bool)=true:=by kernel_rfl
theorem Xl:((Rows.assemblySetsRow.loopsOut==Tryz.f6.resultTypes.toList.any (Tryz.prog.loopsFrom ·)):Bool)=true:=by kernel_rfl
theorem Xm:((Rows.assemblySetsRow.plainKeys==Tryz.prog.plainKeys):Bool)=true:=by kernel_rfl
theorem Xn:(Rows.assemblySetsRow.shortTexts.isNone:Bool)=true:=by kernel_rfl
theorem Xo:(Tryz.prog.stopsHeard:Bool)=true:=by kernel_rfl
theorem Xp:(Tryz.prog.mayEnter:Bool)=true:=by kernel_rfl
theorem Xq:((Rows.assemblySetsRow.lifted==Tryz.prog.liftsFinal):Bool)=true:=by kernel_rfl
theorem Xr:((Tryz.prog.make==some Rows.assemblySetsRow.make):Bool)=true:=by kernel_rfl
theorem Xs:((Rows.assemblySetsRow.kinds==(if Rows.assemblySetsRow.domain.isEmpty then []else Tryz.f6.params.toList.map fun t=>match Tryz.prog.underlying t with|some (.int k)=>some k|_=>none)):Bool)=true:=by kernel_rfl
theorem Xt:((Rows.assemblySetsRow.pinned==Rows.assemblySetsRow.pinnedBy):Bool)=true:=by kernel_rfl
theorem Xu:((Rows.assemblySetsRow.veiled==(Tryz.f6.params.toList++Rows.assemblySetsSpec.plain.varTypes Tryz.prog++Tryz.f6.resultTypes.toList).any (Tryz.prog.veiledRec ·)):Bool)=true:=by kernel_rfl
theorem Xv:(Rows.assemblySetsRow.veiledFits Tryz.prog Tryz.f6.params.toList (Tryz.f6.params.toList++Rows.assemblySetsSpec.plain.varTypes Tryz.prog++Tryz.f6.resultTypes.toList):Bool)=true:=by kernel_rfl
theorem fe {a b:Bool} (h:a=true) (k:b=true):(a&&b)=true:=by rw[h,k];rfl
theorem WN:joinedFacts Tryz.prog 6 Tryz.f6 Rows.assemblySetsSpec Rows.assemblySetsRow=true:=by
 unfold joinedFacts
 exact fe (fe (fe (fe (fe (fe (fe (fe (fe (fe (fe (fe (fe (fe (fe (fe (fe (fe (fe (fe (fe (fe (fe (fe (fe (fe (fe (fe (fe (fe (fe XD XE) XF) XG) XH) XI) XJ) XK) XL) WZ) Xa) Xb) Xc) Xd) Xe) Xf) Xg) Xh) Xi) Xj) Xk) Xl) Xm) Xn) Xo) Xp) Xq) Xr) Xs) Xt) Xu) Xv
end
end Go.Proofs.YtoidbolmlckhnaaGreatDoor
