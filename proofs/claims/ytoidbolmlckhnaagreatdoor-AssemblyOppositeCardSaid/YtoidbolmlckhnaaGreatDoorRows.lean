/-
  NARROWER THAN 'FOR EVERY INPUT', by the rows' own cells (each row's printed sentence says how): AssemblyOpposite: laid · AssemblyFirst: laid · AssemblyFree: laid · AssemblySets: laid · AssemblyGraphs: laid.
  DERIVED. THE GIVEN ROWS OF THIS SEAT. 5 by the template 'for every input the law returns true; each argument reads behind the call as it read before'; 0 by the template 'total and deterministic' (their statements: YtoidbolmlckhnaaGreatDoorTotals.lean).
  GIVEN WITH THE SEED: the statements are not yours to turn. If you find one false, say at which input.
  Laid BY PROGRAM, IN A SANDBOX (cutbox-rows.mjs): the forced cells as the released guide's own fill.sh prints them over the translation 55dc9ffe81ab6d2a… (all of the seat's roots in one cut). By AI agents, Wed Nov 11 2026. No macro, syntax, notation, axiom, sorry.
-/
import Derived.Test.YtoidbolmlckhnaaGreatDoorChecked
import GoSem.Claim
import GoSem.ClaimJoined
import GoSem.ClaimMapViews
import Derived.JoinedTies
import Derived.KernelRfl
namespace Go.Proofs.YtoidbolmlckhnaaGreatDoor
/- THE CELL 'sum', in the pinned program and in every row, IS THE sha256 OF THE DUMP (.gsa) THAT YtoidbolmlckhnaaGreatDoorProg.lean LOADS. Nothing in Lean hashes anything: it is a label: what it is worth is what the hold of that sum in a sandbox is worth. -/
noncomputable def Tryz.pinned : Pinned := { name := "ytoidbolmlckhnaagreatdoor", sum := "55dc9ffe81ab6d2a2815bdac8c86f7f4a9889f45e733d4902cf5e000f9a90575", checked := Tryz.checked }
namespace Rows
def none {H : Type} : Left H := { results := [], args := [] }

/- WHAT THE LISTED PACKAGE-LEVEL VARIABLES READ AS WHEN THE CALL BEGINS. Each datum BY PROGRAM (the guide's laid-datum.mjs) off the statement by which the dump's own 'gosem.cut.vars' lays the variable. In a bare row this is a premise. The card (YtoidbolmlckhnaaGreatDoorCards.lean) ties it to the program's text. -/
def laid_math_bits_deBruijn32tab {H : Type} : DataW H := .agg [.lit (.int .u8 0), .lit (.int .u8 1), .lit (.int .u8 28), .lit (.int .u8 2), .lit (.int .u8 29), .lit (.int .u8 14), .lit (.int .u8 24), .lit (.int .u8 3), .lit (.int .u8 30), .lit (.int .u8 22), .lit (.int .u8 20), .lit (.int .u8 15), .lit (.int .u8 25), .lit (.int .u8 17), .lit (.int .u8 4), .lit (.int .u8 8), .lit (.int .u8 31), .lit (.int .u8 27), .lit (.int .u8 13), .lit (.int .u8 23), .lit (.int .u8 21), .lit (.int .u8 19), .lit (.int .u8 16), .lit (.int .u8 7), .lit (.int .u8 26), .lit (.int .u8 12), .lit (.int .u8 18), .lit (.int .u8 6), .lit (.int .u8 11), .lit (.int .u8 5), .lit (.int .u8 10), .lit (.int .u8 9)]
def laid_math_bits_deBruijn64tab {H : Type} : DataW H := .agg [.lit (.int .u8 0), .lit (.int .u8 1), .lit (.int .u8 56), .lit (.int .u8 2), .lit (.int .u8 57), .lit (.int .u8 49), .lit (.int .u8 28), .lit (.int .u8 3), .lit (.int .u8 61), .lit (.int .u8 58), .lit (.int .u8 42), .lit (.int .u8 50), .lit (.int .u8 38), .lit (.int .u8 29), .lit (.int .u8 17), .lit (.int .u8 4), .lit (.int .u8 62), .lit (.int .u8 47), .lit (.int .u8 59), .lit (.int .u8 36), .lit (.int .u8 45), .lit (.int .u8 43), .lit (.int .u8 51), .lit (.int .u8 22), .lit (.int .u8 53), .lit (.int .u8 39), .lit (.int .u8 33), .lit (.int .u8 30), .lit (.int .u8 24), .lit (.int .u8 18), .lit (.int .u8 12), .lit (.int .u8 5), .lit (.int .u8 63), .lit (.int .u8 55), .lit (.int .u8 48), .lit (.int .u8 27), .lit (.int .u8 60), .lit (.int .u8 41), .lit (.int .u8 37), .lit (.int .u8 16), .lit (.int .u8 46), .lit (.int .u8 35), .lit (.int .u8 44), .lit (.int .u8 21), .lit (.int .u8 52), .lit (.int .u8 32), .lit (.int .u8 23), .lit (.int .u8 11), .lit (.int .u8 54), .lit (.int .u8 26), .lit (.int .u8 40), .lit (.int .u8 15), .lit (.int .u8 34), .lit (.int .u8 20), .lit (.int .u8 31), .lit (.int .u8 10), .lit (.int .u8 25), .lit (.int .u8 14), .lit (.int .u8 19), .lit (.int .u8 9), .lit (.int .u8 13), .lit (.int .u8 8), .lit (.int .u8 7), .lit (.int .u8 6)]
def laid_internal_strconv_uint64pow10 {H : Type} : DataW H := .agg [.lit (.int .u64 1), .lit (.int .u64 10), .lit (.int .u64 100), .lit (.int .u64 1000), .lit (.int .u64 10000), .lit (.int .u64 100000), .lit (.int .u64 1000000), .lit (.int .u64 10000000), .lit (.int .u64 100000000), .lit (.int .u64 1000000000), .lit (.int .u64 10000000000), .lit (.int .u64 100000000000), .lit (.int .u64 1000000000000), .lit (.int .u64 10000000000000), .lit (.int .u64 100000000000000), .lit (.int .u64 1000000000000000), .lit (.int .u64 10000000000000000), .lit (.int .u64 100000000000000000), .lit (.int .u64 1000000000000000000), .lit (.int .u64 10000000000000000000)]

/-- 'spokeshavelaw04.AssemblyOpposite': WHATEVER THE INPUT: true; the input reads as it did. -/
def assemblyOppositeSpec : ChangeSpec := { name := "assemblyOpposite", fn := fun _ => fun
  | [d1, d2, d3] => { results := [.lit (.bool true)], args := [d1, d2, d3] }
  | _ => none }
def assemblyOppositeRow : OpenClaim := { program := "ytoidbolmlckhnaagreatdoor", sum := "55dc9ffe81ab6d2a2815bdac8c86f7f4a9889f45e733d4902cf5e000f9a90575", func := "spokeshave/spokeshavelaw04.AssemblyOpposite", spec := "assemblyOpposite", inPlace := ["internal/abi.NoEscape", "internal/bytealg.MakeNoZero"], unfollowed := true, recurses := true, named := ["math/bits.deBruijn32tab", "math/bits.deBruijn64tab", "internal/strconv.uint64pow10"], plainKeys := false, apart := false, laid := [("math/bits.deBruijn32tab", laid_math_bits_deBruijn32tab), ("math/bits.deBruijn64tab", laid_math_bits_deBruijn64tab), ("internal/strconv.uint64pow10", laid_internal_strconv_uint64pow10)] }
def AssemblyOppositeSaid : Prop := assemblyOppositeRow.holds Tryz.pinned (OpenSpec.ofChange assemblyOppositeSpec)

/-- ITS FALSE NEIGHBOUR: 'it returns false'. Refute it at one input. -/
def assemblyOppositeWrong : ChangeSpec := { name := "assemblyOpposite", fn := fun _ => fun
  | [d1, d2, d3] => { results := [.lit (.bool false)], args := [d1, d2, d3] }
  | _ => none }
def AssemblyOppositeWrongFalsely : Prop := assemblyOppositeRow.holds Tryz.pinned (OpenSpec.ofChange assemblyOppositeWrong)

/-- 'spokeshavelaw04.AssemblyFirst': WHATEVER THE INPUT: true; the input reads as it did. -/
def assemblyFirstSpec : ChangeSpec := { name := "assemblyFirst", fn := fun _ => fun
  | [d1, d2] => { results := [.lit (.bool true)], args := [d1, d2] }
  | _ => none }
def assemblyFirstRow : OpenClaim := { program := "ytoidbolmlckhnaagreatdoor", sum := "55dc9ffe81ab6d2a2815bdac8c86f7f4a9889f45e733d4902cf5e000f9a90575", func := "spokeshave/spokeshavelaw04.AssemblyFirst", spec := "assemblyFirst", inPlace := ["internal/abi.NoEscape", "internal/bytealg.MakeNoZero"], unfollowed := true, recurses := true, named := ["math/bits.deBruijn32tab", "math/bits.deBruijn64tab", "internal/strconv.uint64pow10"], plainKeys := false, apart := false, laid := [("math/bits.deBruijn32tab", laid_math_bits_deBruijn32tab), ("math/bits.deBruijn64tab", laid_math_bits_deBruijn64tab), ("internal/strconv.uint64pow10", laid_internal_strconv_uint64pow10)] }
def AssemblyFirstSaid : Prop := assemblyFirstRow.holds Tryz.pinned (OpenSpec.ofChange assemblyFirstSpec)

/-- ITS FALSE NEIGHBOUR: 'it returns false'. Refute it at one input. -/
def assemblyFirstWrong : ChangeSpec := { name := "assemblyFirst", fn := fun _ => fun
  | [d1, d2] => { results := [.lit (.bool false)], args := [d1, d2] }
  | _ => none }
def AssemblyFirstWrongFalsely : Prop := assemblyFirstRow.holds Tryz.pinned (OpenSpec.ofChange assemblyFirstWrong)

/-- 'spokeshavelaw04.AssemblyFree': WHATEVER THE INPUT: true; the input reads as it did. -/
def assemblyFreeSpec : ChangeSpec := { name := "assemblyFree", fn := fun _ => fun
  | [d] => { results := [.lit (.bool true)], args := [d] }
  | _ => none }
def assemblyFreeRow : OpenClaim := { program := "ytoidbolmlckhnaagreatdoor", sum := "55dc9ffe81ab6d2a2815bdac8c86f7f4a9889f45e733d4902cf5e000f9a90575", func := "spokeshave/spokeshavelaw04.AssemblyFree", spec := "assemblyFree", inPlace := ["internal/abi.NoEscape", "internal/bytealg.MakeNoZero"], unfollowed := true, recurses := true, named := ["math/bits.deBruijn32tab", "math/bits.deBruijn64tab", "internal/strconv.uint64pow10"], plainKeys := false, apart := false, laid := [("math/bits.deBruijn32tab", laid_math_bits_deBruijn32tab), ("math/bits.deBruijn64tab", laid_math_bits_deBruijn64tab), ("internal/strconv.uint64pow10", laid_internal_strconv_uint64pow10)] }
def AssemblyFreeSaid : Prop := assemblyFreeRow.holds Tryz.pinned (OpenSpec.ofChange assemblyFreeSpec)

/-- ITS FALSE NEIGHBOUR: 'it returns false'. Refute it at one input. -/
def assemblyFreeWrong : ChangeSpec := { name := "assemblyFree", fn := fun _ => fun
  | [d] => { results := [.lit (.bool false)], args := [d] }
  | _ => none }
def AssemblyFreeWrongFalsely : Prop := assemblyFreeRow.holds Tryz.pinned (OpenSpec.ofChange assemblyFreeWrong)

/-- 'spokeshavelaw04.AssemblySets': WHATEVER THE INPUT: true; the input reads as it did. -/
def assemblySetsSpec : ChangeSpec := { name := "assemblySets", fn := fun _ => fun
  | [d1, d2, d3] => { results := [.lit (.bool true)], args := [d1, d2, d3] }
  | _ => none }
def assemblySetsRow : OpenClaim := { program := "ytoidbolmlckhnaagreatdoor", sum := "55dc9ffe81ab6d2a2815bdac8c86f7f4a9889f45e733d4902cf5e000f9a90575", func := "spokeshave/spokeshavelaw04.AssemblySets", spec := "assemblySets", inPlace := ["internal/abi.NoEscape", "internal/bytealg.MakeNoZero"], unfollowed := true, recurses := true, named := ["math/bits.deBruijn32tab", "math/bits.deBruijn64tab", "internal/strconv.uint64pow10"], plainKeys := false, apart := false, laid := [("math/bits.deBruijn32tab", laid_math_bits_deBruijn32tab), ("math/bits.deBruijn64tab", laid_math_bits_deBruijn64tab), ("internal/strconv.uint64pow10", laid_internal_strconv_uint64pow10)] }
def AssemblySetsSaid : Prop := assemblySetsRow.holds Tryz.pinned (OpenSpec.ofChange assemblySetsSpec)

/-- ITS FALSE NEIGHBOUR: 'it returns false'. Refute it at one input. -/
def assemblySetsWrong : ChangeSpec := { name := "assemblySets", fn := fun _ => fun
  | [d1, d2, d3] => { results := [.lit (.bool false)], args := [d1, d2, d3] }
  | _ => none }
def AssemblySetsWrongFalsely : Prop := assemblySetsRow.holds Tryz.pinned (OpenSpec.ofChange assemblySetsWrong)

/-- 'spokeshavelaw04.AssemblyGraphs': WHATEVER THE INPUT: true; the input reads as it did. -/
def assemblyGraphsSpec : ChangeSpec := { name := "assemblyGraphs", fn := fun _ => fun
  | [d1, d2] => { results := [.lit (.bool true)], args := [d1, d2] }
  | _ => none }
def assemblyGraphsRow : OpenClaim := { program := "ytoidbolmlckhnaagreatdoor", sum := "55dc9ffe81ab6d2a2815bdac8c86f7f4a9889f45e733d4902cf5e000f9a90575", func := "spokeshave/spokeshavelaw04.AssemblyGraphs", spec := "assemblyGraphs", inPlace := ["internal/abi.NoEscape", "internal/bytealg.MakeNoZero"], unfollowed := true, recurses := true, named := ["math/bits.deBruijn32tab", "math/bits.deBruijn64tab", "internal/strconv.uint64pow10"], plainKeys := false, apart := false, laid := [("math/bits.deBruijn32tab", laid_math_bits_deBruijn32tab), ("math/bits.deBruijn64tab", laid_math_bits_deBruijn64tab), ("internal/strconv.uint64pow10", laid_internal_strconv_uint64pow10)] }
def AssemblyGraphsSaid : Prop := assemblyGraphsRow.holds Tryz.pinned (OpenSpec.ofChange assemblyGraphsSpec)

/-- ITS FALSE NEIGHBOUR: 'it returns false'. Refute it at one input. -/
def assemblyGraphsWrong : ChangeSpec := { name := "assemblyGraphs", fn := fun _ => fun
  | [d1, d2] => { results := [.lit (.bool false)], args := [d1, d2] }
  | _ => none }
def AssemblyGraphsWrongFalsely : Prop := assemblyGraphsRow.holds Tryz.pinned (OpenSpec.ofChange assemblyGraphsWrong)

/- THE SECOND FORM. 'bulk': how many values and letters a reading holds, each counted each time it is reached (what is shared counts as often as it is met; a slice's spare places count too). A statement '..UptoSaid' is the law's where the arguments, and the package variables that the reading takes, are together of bulk at most 1048576: NARROWER than '..Said'. Prove '..Said' where nothing that the law and all that it calls make is longer than what came in: it says more and counts as full. Else prove '..UptoSaid'. A law counts once. -/
mutual
def uptoBulk {H : Type} : DataW H → Nat
  | .lit (.string bytes) => bytes.length + 1
  | .lit _ => 1
  | .nil => 1
  | .ptr d => uptoBulk d + 1
  | .slice elems spare => uptoBulkAll elems + uptoBulkAll spare + 1
  | .agg parts => uptoBulkAll parts + 1
  | .iface _ d => uptoBulk d + 1
  | .map entries => uptoBulkEntries entries + 1
  | .held _ => 1
def uptoBulkAll {H : Type} : List (DataW H) → Nat
  | [] => 0
  | d :: r => uptoBulk d + uptoBulkAll r
def uptoBulkEntries {H : Type} : List (Lit × DataW H) → Nat
  | [] => 0
  | x :: r => uptoBulkEntry x + uptoBulkEntries r
def uptoBulkEntry {H : Type} : Lit × DataW H → Nat
  | (.string bytes, d) => bytes.length + uptoBulk d + 1
  | (_, d) => uptoBulk d + 1
 end
def uptoSmall : (H : Type) → List (DataW H) → Bool := fun _ ds => decide (uptoBulkAll ds ≤ 1048576)
def OpenSpec.upto (s : _root_.Go.ChangeSpec) : _root_.Go.OpenSpec := { _root_.Go.OpenSpec.ofChange s with cond := some uptoSmall }

/-- 'spokeshavelaw04.AssemblyOpposite', WHERE WHAT IT READS IS OF BULK AT MOST 1048576: true; the input reads as it did. -/
def assemblyOppositeUptoRow : OpenClaim := { program := "ytoidbolmlckhnaagreatdoor", sum := "55dc9ffe81ab6d2a2815bdac8c86f7f4a9889f45e733d4902cf5e000f9a90575", func := "spokeshave/spokeshavelaw04.AssemblyOpposite", spec := "assemblyOpposite", inPlace := ["internal/abi.NoEscape", "internal/bytealg.MakeNoZero"], unfollowed := true, recurses := true, named := ["math/bits.deBruijn32tab", "math/bits.deBruijn64tab", "internal/strconv.uint64pow10"], plainKeys := false, apart := false, laid := [("math/bits.deBruijn32tab", laid_math_bits_deBruijn32tab), ("math/bits.deBruijn64tab", laid_math_bits_deBruijn64tab), ("internal/strconv.uint64pow10", laid_internal_strconv_uint64pow10)], narrowed := true }
def AssemblyOppositeUptoSaid : Prop := assemblyOppositeUptoRow.holds Tryz.pinned (OpenSpec.upto assemblyOppositeSpec)

/-- 'spokeshavelaw04.AssemblyFirst', WHERE WHAT IT READS IS OF BULK AT MOST 1048576: true; the input reads as it did. -/
def assemblyFirstUptoRow : OpenClaim := { program := "ytoidbolmlckhnaagreatdoor", sum := "55dc9ffe81ab6d2a2815bdac8c86f7f4a9889f45e733d4902cf5e000f9a90575", func := "spokeshave/spokeshavelaw04.AssemblyFirst", spec := "assemblyFirst", inPlace := ["internal/abi.NoEscape", "internal/bytealg.MakeNoZero"], unfollowed := true, recurses := true, named := ["math/bits.deBruijn32tab", "math/bits.deBruijn64tab", "internal/strconv.uint64pow10"], plainKeys := false, apart := false, laid := [("math/bits.deBruijn32tab", laid_math_bits_deBruijn32tab), ("math/bits.deBruijn64tab", laid_math_bits_deBruijn64tab), ("internal/strconv.uint64pow10", laid_internal_strconv_uint64pow10)], narrowed := true }
def AssemblyFirstUptoSaid : Prop := assemblyFirstUptoRow.holds Tryz.pinned (OpenSpec.upto assemblyFirstSpec)

/-- 'spokeshavelaw04.AssemblyFree', WHERE WHAT IT READS IS OF BULK AT MOST 1048576: true; the input reads as it did. -/
def assemblyFreeUptoRow : OpenClaim := { program := "ytoidbolmlckhnaagreatdoor", sum := "55dc9ffe81ab6d2a2815bdac8c86f7f4a9889f45e733d4902cf5e000f9a90575", func := "spokeshave/spokeshavelaw04.AssemblyFree", spec := "assemblyFree", inPlace := ["internal/abi.NoEscape", "internal/bytealg.MakeNoZero"], unfollowed := true, recurses := true, named := ["math/bits.deBruijn32tab", "math/bits.deBruijn64tab", "internal/strconv.uint64pow10"], plainKeys := false, apart := false, laid := [("math/bits.deBruijn32tab", laid_math_bits_deBruijn32tab), ("math/bits.deBruijn64tab", laid_math_bits_deBruijn64tab), ("internal/strconv.uint64pow10", laid_internal_strconv_uint64pow10)], narrowed := true }
def AssemblyFreeUptoSaid : Prop := assemblyFreeUptoRow.holds Tryz.pinned (OpenSpec.upto assemblyFreeSpec)

/-- 'spokeshavelaw04.AssemblySets', WHERE WHAT IT READS IS OF BULK AT MOST 1048576: true; the input reads as it did. -/
def assemblySetsUptoRow : OpenClaim := { program := "ytoidbolmlckhnaagreatdoor", sum := "55dc9ffe81ab6d2a2815bdac8c86f7f4a9889f45e733d4902cf5e000f9a90575", func := "spokeshave/spokeshavelaw04.AssemblySets", spec := "assemblySets", inPlace := ["internal/abi.NoEscape", "internal/bytealg.MakeNoZero"], unfollowed := true, recurses := true, named := ["math/bits.deBruijn32tab", "math/bits.deBruijn64tab", "internal/strconv.uint64pow10"], plainKeys := false, apart := false, laid := [("math/bits.deBruijn32tab", laid_math_bits_deBruijn32tab), ("math/bits.deBruijn64tab", laid_math_bits_deBruijn64tab), ("internal/strconv.uint64pow10", laid_internal_strconv_uint64pow10)], narrowed := true }
def AssemblySetsUptoSaid : Prop := assemblySetsUptoRow.holds Tryz.pinned (OpenSpec.upto assemblySetsSpec)

/-- 'spokeshavelaw04.AssemblyGraphs', WHERE WHAT IT READS IS OF BULK AT MOST 1048576: true; the input reads as it did. -/
def assemblyGraphsUptoRow : OpenClaim := { program := "ytoidbolmlckhnaagreatdoor", sum := "55dc9ffe81ab6d2a2815bdac8c86f7f4a9889f45e733d4902cf5e000f9a90575", func := "spokeshave/spokeshavelaw04.AssemblyGraphs", spec := "assemblyGraphs", inPlace := ["internal/abi.NoEscape", "internal/bytealg.MakeNoZero"], unfollowed := true, recurses := true, named := ["math/bits.deBruijn32tab", "math/bits.deBruijn64tab", "internal/strconv.uint64pow10"], plainKeys := false, apart := false, laid := [("math/bits.deBruijn32tab", laid_math_bits_deBruijn32tab), ("math/bits.deBruijn64tab", laid_math_bits_deBruijn64tab), ("internal/strconv.uint64pow10", laid_internal_strconv_uint64pow10)], narrowed := true }
def AssemblyGraphsUptoSaid : Prop := assemblyGraphsUptoRow.holds Tryz.pinned (OpenSpec.upto assemblyGraphsSpec)

end Rows
end Go.Proofs.YtoidbolmlckhnaaGreatDoor
