/- texts: E7. -/
import Derived.Test.YtffbilcjhlncfaaGreatDoorDQS42
namespace Go.Proofs.YtffbilcjhlncfaaGreatDoor
set_option maxHeartbeats 8000000
set_option linter.all false
section
open Go.ChangeShapes Go.WideShapes Go.ChangeAt Go.WideMaps Go.WideElems Go.RowKit
theorem Qw {W:World} (h:laidMetH Tryz.prog qw W):Lib.TabIs Tryz.prog W "internal/strconv.uint64pow10" .u64 Lib.pow10Tab∧TabAt 3 Lib.deBruijn64tab W:=by
 refine⟨qx h, ?_⟩
 rw[MakeChecks.laidMetH_plain _ _ _ (by kernel_rfl)]at h
 have h2:Lib.TabIs Tryz.prog W "math/bits.deBruijn64tab" .u8 (Lib.deBruijn64tab.map fun n:Nat=>(n:Int)):=Lib.tabIs_of_head (rest:=[("internal/strconv.uint64pow10",Rows.laid_internal_strconv_uint64pow10)]) (g:=3) (t:=316) (e:=5) (n:=64) (by kernel_rfl) (by kernel_rfl) (by kernel_rfl) (by kernel_rfl) (by kernel_rfl) (by kernel_rfl) h.tail
 intro j hj
 have h3:=h2.cell (g:=3) (by kernel_rfl) j (by simpa using hj)
 rw[h3]
 simp[List.getD,hj]
end
end Go.Proofs.YtffbilcjhlncfaaGreatDoor
