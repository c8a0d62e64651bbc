/- texts: Ap. -/
import Derived.Test.YtleamcmbhioedaaGreatDoorAWS9
import Derived.ArgAppend
import Derived.Deep.DeepAppendWide
namespace Go.Proofs.YtleamcmbhioedaaGreatDoor
set_option maxHeartbeats 8000000
set_option linter.unusedSimpArgs false
set_option linter.unusedVariables false
section
open Go.RowKit
theorem append_nil {P:Program} {w:World} (t ty e:TypeId) (i:TypeInfo) (ht:P.underlying t=some (.slice e)) (hi:P.info? e=some i) (b:Addr) (ao:Option Addr) (c:Nat):
  (Builtin.append_ #[t,t] ty #[.slice (some b) 0 0, .slice ao 0 c]).run P w= .ok (.slice (some b) 0 0) w:=by
 cases ao<;>simp[Builtin.append_,run_underlying ht,sizeOf,typeInfo,hi,Builtin.lenOf,Builtin.firstCells,loadCells,loadCellsFrom,storeCells]
end
end Go.Proofs.YtleamcmbhioedaaGreatDoor
