/- texts: E2. -/
import Derived.Test.YtffbilcjhlncfaaGreatDoorDQS42
import Derived.Deep.Strs
import Derived.Lib.SmallJoins
namespace Go.Proofs.YtffbilcjhlncfaaGreatDoor
set_option maxHeartbeats 8000000
set_option linter.all false
section
open Go.ChangeShapes Go.WideShapes Go.ChangeAt Go.WideMaps Go.WideElems Go.RowKit
theorem sG:laidOutB Tryz.prog=true:=by kernel_rfl
end
end Go.Proofs.YtffbilcjhlncfaaGreatDoor
