/- texts: E0. -/
import Derived.Test.YtffbilcjhlncfaaGreatDoorTie
import Derived.Test.YtffbilcjhlncfaaGreatDoorDQS31
import Derived.ProofKit
import Derived.LaidMore
import Derived.OpenShut
import Derived.Stop.Joined
import Derived.Stop.LaidErr
import Derived.Lib.LaidTab
import Derived.SevenTiedAt
namespace Go.Proofs.YtffbilcjhlncfaaGreatDoor
set_option maxHeartbeats 8000000
set_option linter.all false
section
open Go.ChangeShapes Go.WideShapes Go.ChangeAt Go.WideMaps Go.WideElems Go.RowKit
set_option maxRecDepth 100000
theorem own:ownKnob Tryz.prog.godebug=none:=by kernel_rfl
def qw:List (String×DataW Unit):=[("math/bits.deBruijn32tab",Rows.laid_math_bits_deBruijn32tab),("math/bits.deBruijn64tab",Rows.laid_math_bits_deBruijn64tab),("internal/strconv.uint64pow10",Rows.laid_internal_strconv_uint64pow10)]
theorem wS (os:Os) (args:Array Value):laidMetH Tryz.prog qw ((World.doorLaid Tryz.prog 400 os).forCall (fun _ _=>0) ⟨#[],args,[]⟩).memory:=
 laidMetH_of_parts3 (fuel:=8) (laidMet_of_run' 8 (by kernel_rfl) (by kernel_rfl)) (by kernel_rfl) (by kernel_rfl)
theorem wT:Tryz.prog.underlying 4=some .bool:=by kernel_rfl
theorem qx {W:World} (h:laidMetH Tryz.prog qw W):Lib.TabIs Tryz.prog W "internal/strconv.uint64pow10" .u64 Lib.pow10Tab:=by
 rw[MakeChecks.laidMetH_plain _ _ _ (by kernel_rfl)]at h
 exact Lib.tabIs_of_head (rest:=[]) (g:=5) (t:=327) (e:=244) (n:=20) (by kernel_rfl) (by kernel_rfl) (by kernel_rfl) (by kernel_rfl) (by kernel_rfl) (by kernel_rfl) h.tail.tail
theorem wU {H:Type} {enc:TypeId×Value→H} {f:Func} {s:ChangeSpec} {W W':World} {args:Array Value} {ds:List (DataW H)} {before:List MemPlace}
  (hW:DataW.Whole enc Tryz.prog f.params.toList s.vars false W args.toList ds [] before) (hv:s.vars=[]) (hb:Below W.heap.size W W') (hr:f.resultTypes=#[4])
  (hfn:s.fn H (ds++[])={results:=[.lit (.bool true)],args:=ds})
  (hargs:DataW.TrodAll enc Tryz.prog W' 0 (fun b=>decide (b<W.heap.size)) true f.params.toList args.toList ds before):
  s.post enc Tryz.prog f false true false false W args (.bool true) W':=by
 refine⟨ds,[],before,[],before,[],hW, ?_,by rw[hfn];exact hargs,by rw[hv,hfn];first|rfl|trivial|exact⟨rfl,rfl⟩,hb.frame _,fun h=>by cases h⟩
 rw[hfn,hr]
 exact trodAll_mk1 (shut_bool wT _)
end
end Go.Proofs.YtffbilcjhlncfaaGreatDoor
