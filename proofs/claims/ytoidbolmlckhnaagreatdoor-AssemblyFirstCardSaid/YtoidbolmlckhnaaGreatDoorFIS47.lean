/- texts: E2. -/
import Derived.Test.YtoidbolmlckhnaaGreatDoorFIS46
import Derived.Lib.SmallJoins
namespace Go.Proofs.YtoidbolmlckhnaaGreatDoor
set_option maxHeartbeats 8000000
set_option linter.unusedSimpArgs false
set_option linter.unusedVariables false
section
open Go.ChangeShapes Go.WideShapes Go.ChangeAt Go.WideMaps Go.WideElems Go.RowKit
theorem sG:laidOutB Tryz.prog=true:=by kernel_rfl
end
end Go.Proofs.YtoidbolmlckhnaaGreatDoor
