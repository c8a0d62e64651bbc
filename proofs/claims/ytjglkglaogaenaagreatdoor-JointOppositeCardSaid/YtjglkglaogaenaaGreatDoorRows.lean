/-
  NARROWER THAN 'FOR EVERY INPUT', by the rows' own cells (each row's printed sentence says how): JointKeeps: laid · JointChecks: laid · JointGaps: laid · JointStandards: laid · JointFree: laid · JointAreas: laid · JointFreeAt: laid · JointOpposite: laid · JointPuts: laid.
  DERIVED. THE GIVEN ROWS OF THIS SEAT. 9 by the template 'for every input the law returns true; each argument reads behind the call as it read before'; 0 by the template 'total and deterministic' (their statements: YtjglkglaogaenaaGreatDoorTotals.lean).
  GIVEN WITH THE SEED: the statements are not yours to turn. If you find one false, say at which input.
  Laid BY PROGRAM, IN A SANDBOX (cutbox-rows.mjs): the forced cells as the released guide's own fill.sh prints them over the translation 37c566ed719cc6d7… (all of the seat's roots in one cut). By AI agents, Wed Nov 11 2026. No macro, syntax, notation, axiom, sorry.
-/
import Derived.Test.YtjglkglaogaenaaGreatDoorChecked
import GoSem.Claim
import GoSem.ClaimJoined
import GoSem.ClaimMapViews
import Derived.JoinedTies
import Derived.KernelRfl
namespace Go.Proofs.YtjglkglaogaenaaGreatDoor
/- THE CELL 'sum', in the pinned program and in every row, IS THE sha256 OF THE DUMP (.gsa) THAT YtjglkglaogaenaaGreatDoorProg.lean LOADS. Nothing in Lean hashes anything: it is a label: what it is worth is what the hold of that sum in a sandbox is worth. -/
noncomputable def Tryz.pinned : Pinned := { name := "ytjglkglaogaenaagreatdoor", sum := "37c566ed719cc6d7cc5491e15fe54d20b7e008dac023f6bf3b569eeea6c44d93", checked := Tryz.checked }
namespace Rows
def none {H : Type} : Left H := { results := [], args := [] }

/- WHAT THE LISTED PACKAGE-LEVEL VARIABLES READ AS WHEN THE CALL BEGINS. Each datum BY PROGRAM (the guide's laid-datum.mjs) off the statement by which the dump's own 'gosem.cut.vars' lays the variable. In a bare row this is a premise. The card (YtjglkglaogaenaaGreatDoorCards.lean) ties it to the program's text. -/
def laid_math_bits_deBruijn32tab {H : Type} : DataW H := .agg [.lit (.int .u8 0), .lit (.int .u8 1), .lit (.int .u8 28), .lit (.int .u8 2), .lit (.int .u8 29), .lit (.int .u8 14), .lit (.int .u8 24), .lit (.int .u8 3), .lit (.int .u8 30), .lit (.int .u8 22), .lit (.int .u8 20), .lit (.int .u8 15), .lit (.int .u8 25), .lit (.int .u8 17), .lit (.int .u8 4), .lit (.int .u8 8), .lit (.int .u8 31), .lit (.int .u8 27), .lit (.int .u8 13), .lit (.int .u8 23), .lit (.int .u8 21), .lit (.int .u8 19), .lit (.int .u8 16), .lit (.int .u8 7), .lit (.int .u8 26), .lit (.int .u8 12), .lit (.int .u8 18), .lit (.int .u8 6), .lit (.int .u8 11), .lit (.int .u8 5), .lit (.int .u8 10), .lit (.int .u8 9)]
def laid_math_bits_deBruijn64tab {H : Type} : DataW H := .agg [.lit (.int .u8 0), .lit (.int .u8 1), .lit (.int .u8 56), .lit (.int .u8 2), .lit (.int .u8 57), .lit (.int .u8 49), .lit (.int .u8 28), .lit (.int .u8 3), .lit (.int .u8 61), .lit (.int .u8 58), .lit (.int .u8 42), .lit (.int .u8 50), .lit (.int .u8 38), .lit (.int .u8 29), .lit (.int .u8 17), .lit (.int .u8 4), .lit (.int .u8 62), .lit (.int .u8 47), .lit (.int .u8 59), .lit (.int .u8 36), .lit (.int .u8 45), .lit (.int .u8 43), .lit (.int .u8 51), .lit (.int .u8 22), .lit (.int .u8 53), .lit (.int .u8 39), .lit (.int .u8 33), .lit (.int .u8 30), .lit (.int .u8 24), .lit (.int .u8 18), .lit (.int .u8 12), .lit (.int .u8 5), .lit (.int .u8 63), .lit (.int .u8 55), .lit (.int .u8 48), .lit (.int .u8 27), .lit (.int .u8 60), .lit (.int .u8 41), .lit (.int .u8 37), .lit (.int .u8 16), .lit (.int .u8 46), .lit (.int .u8 35), .lit (.int .u8 44), .lit (.int .u8 21), .lit (.int .u8 52), .lit (.int .u8 32), .lit (.int .u8 23), .lit (.int .u8 11), .lit (.int .u8 54), .lit (.int .u8 26), .lit (.int .u8 40), .lit (.int .u8 15), .lit (.int .u8 34), .lit (.int .u8 20), .lit (.int .u8 31), .lit (.int .u8 10), .lit (.int .u8 25), .lit (.int .u8 14), .lit (.int .u8 19), .lit (.int .u8 9), .lit (.int .u8 13), .lit (.int .u8 8), .lit (.int .u8 7), .lit (.int .u8 6)]
def laid_internal_strconv_uint64pow10 {H : Type} : DataW H := .agg [.lit (.int .u64 1), .lit (.int .u64 10), .lit (.int .u64 100), .lit (.int .u64 1000), .lit (.int .u64 10000), .lit (.int .u64 100000), .lit (.int .u64 1000000), .lit (.int .u64 10000000), .lit (.int .u64 100000000), .lit (.int .u64 1000000000), .lit (.int .u64 10000000000), .lit (.int .u64 100000000000), .lit (.int .u64 1000000000000), .lit (.int .u64 10000000000000), .lit (.int .u64 100000000000000), .lit (.int .u64 1000000000000000), .lit (.int .u64 10000000000000000), .lit (.int .u64 100000000000000000), .lit (.int .u64 1000000000000000000), .lit (.int .u64 10000000000000000000)]

/-- 'spokeshavelaw03.JointKeeps': WHATEVER THE INPUT: true; the input reads as it did. -/
def jointKeepsSpec : ChangeSpec := { name := "jointKeeps", fn := fun _ => fun
  | [d1, d2] => { results := [.lit (.bool true)], args := [d1, d2] }
  | _ => none }
def jointKeepsRow : OpenClaim := { program := "ytjglkglaogaenaagreatdoor", sum := "37c566ed719cc6d7cc5491e15fe54d20b7e008dac023f6bf3b569eeea6c44d93", func := "spokeshave/spokeshavelaw03.JointKeeps", spec := "jointKeeps", inPlace := ["internal/abi.NoEscape", "internal/bytealg.MakeNoZero"], unfollowed := true, recurses := true, named := ["internal/strconv.uint64pow10", "math/bits.deBruijn32tab", "math/bits.deBruijn64tab"], apart := false, laid := [("math/bits.deBruijn32tab", laid_math_bits_deBruijn32tab), ("math/bits.deBruijn64tab", laid_math_bits_deBruijn64tab), ("internal/strconv.uint64pow10", laid_internal_strconv_uint64pow10)] }
def JointKeepsSaid : Prop := jointKeepsRow.holds Tryz.pinned (OpenSpec.ofChange jointKeepsSpec)

/-- ITS FALSE NEIGHBOUR: 'it returns false'. Refute it at one input. -/
def jointKeepsWrong : ChangeSpec := { name := "jointKeeps", fn := fun _ => fun
  | [d1, d2] => { results := [.lit (.bool false)], args := [d1, d2] }
  | _ => none }
def JointKeepsWrongFalsely : Prop := jointKeepsRow.holds Tryz.pinned (OpenSpec.ofChange jointKeepsWrong)

/-- 'spokeshavelaw03.JointChecks': WHATEVER THE INPUT: true; the input reads as it did. -/
def jointChecksSpec : ChangeSpec := { name := "jointChecks", fn := fun _ => fun
  | [d] => { results := [.lit (.bool true)], args := [d] }
  | _ => none }
def jointChecksRow : OpenClaim := { program := "ytjglkglaogaenaagreatdoor", sum := "37c566ed719cc6d7cc5491e15fe54d20b7e008dac023f6bf3b569eeea6c44d93", func := "spokeshave/spokeshavelaw03.JointChecks", spec := "jointChecks", inPlace := ["internal/abi.NoEscape", "internal/bytealg.MakeNoZero"], unfollowed := true, recurses := true, named := ["internal/strconv.uint64pow10", "math/bits.deBruijn32tab", "math/bits.deBruijn64tab"], apart := false, laid := [("math/bits.deBruijn32tab", laid_math_bits_deBruijn32tab), ("math/bits.deBruijn64tab", laid_math_bits_deBruijn64tab), ("internal/strconv.uint64pow10", laid_internal_strconv_uint64pow10)] }
def JointChecksSaid : Prop := jointChecksRow.holds Tryz.pinned (OpenSpec.ofChange jointChecksSpec)

/-- ITS FALSE NEIGHBOUR: 'it returns false'. Refute it at one input. -/
def jointChecksWrong : ChangeSpec := { name := "jointChecks", fn := fun _ => fun
  | [d] => { results := [.lit (.bool false)], args := [d] }
  | _ => none }
def JointChecksWrongFalsely : Prop := jointChecksRow.holds Tryz.pinned (OpenSpec.ofChange jointChecksWrong)

/-- 'spokeshavelaw03.JointGaps': WHATEVER THE INPUT: true; the input reads as it did. -/
def jointGapsSpec : ChangeSpec := { name := "jointGaps", fn := fun _ => fun
  | [d1, d2] => { results := [.lit (.bool true)], args := [d1, d2] }
  | _ => none }
def jointGapsRow : OpenClaim := { program := "ytjglkglaogaenaagreatdoor", sum := "37c566ed719cc6d7cc5491e15fe54d20b7e008dac023f6bf3b569eeea6c44d93", func := "spokeshave/spokeshavelaw03.JointGaps", spec := "jointGaps", inPlace := ["internal/abi.NoEscape", "internal/bytealg.MakeNoZero"], unfollowed := true, recurses := true, named := ["internal/strconv.uint64pow10", "math/bits.deBruijn32tab", "math/bits.deBruijn64tab"], apart := false, laid := [("math/bits.deBruijn32tab", laid_math_bits_deBruijn32tab), ("math/bits.deBruijn64tab", laid_math_bits_deBruijn64tab), ("internal/strconv.uint64pow10", laid_internal_strconv_uint64pow10)] }
def JointGapsSaid : Prop := jointGapsRow.holds Tryz.pinned (OpenSpec.ofChange jointGapsSpec)

/-- ITS FALSE NEIGHBOUR: 'it returns false'. Refute it at one input. -/
def jointGapsWrong : ChangeSpec := { name := "jointGaps", fn := fun _ => fun
  | [d1, d2] => { results := [.lit (.bool false)], args := [d1, d2] }
  | _ => none }
def JointGapsWrongFalsely : Prop := jointGapsRow.holds Tryz.pinned (OpenSpec.ofChange jointGapsWrong)

/-- 'spokeshavelaw03.JointStandards': WHATEVER THE INPUT: true; the input reads as it did. -/
def jointStandardsSpec : ChangeSpec := { name := "jointStandards", fn := fun _ => fun
  | [d1, d2] => { results := [.lit (.bool true)], args := [d1, d2] }
  | _ => none }
def jointStandardsRow : OpenClaim := { program := "ytjglkglaogaenaagreatdoor", sum := "37c566ed719cc6d7cc5491e15fe54d20b7e008dac023f6bf3b569eeea6c44d93", func := "spokeshave/spokeshavelaw03.JointStandards", spec := "jointStandards", inPlace := ["internal/abi.NoEscape", "internal/bytealg.MakeNoZero"], unfollowed := true, recurses := true, named := ["internal/strconv.uint64pow10", "math/bits.deBruijn32tab", "math/bits.deBruijn64tab"], apart := false, laid := [("math/bits.deBruijn32tab", laid_math_bits_deBruijn32tab), ("math/bits.deBruijn64tab", laid_math_bits_deBruijn64tab), ("internal/strconv.uint64pow10", laid_internal_strconv_uint64pow10)] }
def JointStandardsSaid : Prop := jointStandardsRow.holds Tryz.pinned (OpenSpec.ofChange jointStandardsSpec)

/-- ITS FALSE NEIGHBOUR: 'it returns false'. Refute it at one input. -/
def jointStandardsWrong : ChangeSpec := { name := "jointStandards", fn := fun _ => fun
  | [d1, d2] => { results := [.lit (.bool false)], args := [d1, d2] }
  | _ => none }
def JointStandardsWrongFalsely : Prop := jointStandardsRow.holds Tryz.pinned (OpenSpec.ofChange jointStandardsWrong)

/-- 'spokeshavelaw03.JointFree': WHATEVER THE INPUT: true; the input reads as it did. -/
def jointFreeSpec : ChangeSpec := { name := "jointFree", fn := fun _ => fun
  | [d1, d2] => { results := [.lit (.bool true)], args := [d1, d2] }
  | _ => none }
def jointFreeRow : OpenClaim := { program := "ytjglkglaogaenaagreatdoor", sum := "37c566ed719cc6d7cc5491e15fe54d20b7e008dac023f6bf3b569eeea6c44d93", func := "spokeshave/spokeshavelaw03.JointFree", spec := "jointFree", inPlace := ["internal/abi.NoEscape", "internal/bytealg.MakeNoZero"], unfollowed := true, recurses := true, named := ["internal/strconv.uint64pow10", "math/bits.deBruijn32tab", "math/bits.deBruijn64tab"], apart := false, laid := [("math/bits.deBruijn32tab", laid_math_bits_deBruijn32tab), ("math/bits.deBruijn64tab", laid_math_bits_deBruijn64tab), ("internal/strconv.uint64pow10", laid_internal_strconv_uint64pow10)] }
def JointFreeSaid : Prop := jointFreeRow.holds Tryz.pinned (OpenSpec.ofChange jointFreeSpec)

/-- ITS FALSE NEIGHBOUR: 'it returns false'. Refute it at one input. -/
def jointFreeWrong : ChangeSpec := { name := "jointFree", fn := fun _ => fun
  | [d1, d2] => { results := [.lit (.bool false)], args := [d1, d2] }
  | _ => none }
def JointFreeWrongFalsely : Prop := jointFreeRow.holds Tryz.pinned (OpenSpec.ofChange jointFreeWrong)

/-- 'spokeshavelaw03.JointAreas': WHATEVER THE INPUT: true; the input reads as it did. -/
def jointAreasSpec : ChangeSpec := { name := "jointAreas", fn := fun _ => fun
  | [d] => { results := [.lit (.bool true)], args := [d] }
  | _ => none }
def jointAreasRow : OpenClaim := { program := "ytjglkglaogaenaagreatdoor", sum := "37c566ed719cc6d7cc5491e15fe54d20b7e008dac023f6bf3b569eeea6c44d93", func := "spokeshave/spokeshavelaw03.JointAreas", spec := "jointAreas", inPlace := ["internal/abi.NoEscape", "internal/bytealg.MakeNoZero"], unfollowed := true, recurses := true, named := ["internal/strconv.uint64pow10", "math/bits.deBruijn32tab", "math/bits.deBruijn64tab"], apart := false, laid := [("math/bits.deBruijn32tab", laid_math_bits_deBruijn32tab), ("math/bits.deBruijn64tab", laid_math_bits_deBruijn64tab), ("internal/strconv.uint64pow10", laid_internal_strconv_uint64pow10)] }
def JointAreasSaid : Prop := jointAreasRow.holds Tryz.pinned (OpenSpec.ofChange jointAreasSpec)

/-- ITS FALSE NEIGHBOUR: 'it returns false'. Refute it at one input. -/
def jointAreasWrong : ChangeSpec := { name := "jointAreas", fn := fun _ => fun
  | [d] => { results := [.lit (.bool false)], args := [d] }
  | _ => none }
def JointAreasWrongFalsely : Prop := jointAreasRow.holds Tryz.pinned (OpenSpec.ofChange jointAreasWrong)

/-- 'spokeshavelaw03.JointFreeAt': WHATEVER THE INPUT: true; the input reads as it did. -/
def jointFreeAtSpec : ChangeSpec := { name := "jointFreeAt", fn := fun _ => fun
  | [d1, d2, d3] => { results := [.lit (.bool true)], args := [d1, d2, d3] }
  | _ => none }
def jointFreeAtRow : OpenClaim := { program := "ytjglkglaogaenaagreatdoor", sum := "37c566ed719cc6d7cc5491e15fe54d20b7e008dac023f6bf3b569eeea6c44d93", func := "spokeshave/spokeshavelaw03.JointFreeAt", spec := "jointFreeAt", inPlace := ["internal/abi.NoEscape", "internal/bytealg.MakeNoZero"], unfollowed := true, recurses := true, named := ["internal/strconv.uint64pow10", "math/bits.deBruijn32tab", "math/bits.deBruijn64tab"], apart := false, laid := [("math/bits.deBruijn32tab", laid_math_bits_deBruijn32tab), ("math/bits.deBruijn64tab", laid_math_bits_deBruijn64tab), ("internal/strconv.uint64pow10", laid_internal_strconv_uint64pow10)] }
def JointFreeAtSaid : Prop := jointFreeAtRow.holds Tryz.pinned (OpenSpec.ofChange jointFreeAtSpec)

/-- ITS FALSE NEIGHBOUR: 'it returns false'. Refute it at one input. -/
def jointFreeAtWrong : ChangeSpec := { name := "jointFreeAt", fn := fun _ => fun
  | [d1, d2, d3] => { results := [.lit (.bool false)], args := [d1, d2, d3] }
  | _ => none }
def JointFreeAtWrongFalsely : Prop := jointFreeAtRow.holds Tryz.pinned (OpenSpec.ofChange jointFreeAtWrong)

/-- 'spokeshavelaw03.JointOpposite': WHATEVER THE INPUT: true; the input reads as it did. -/
def jointOppositeSpec : ChangeSpec := { name := "jointOpposite", fn := fun _ => fun
  | [d1, d2] => { results := [.lit (.bool true)], args := [d1, d2] }
  | _ => none }
def jointOppositeRow : OpenClaim := { program := "ytjglkglaogaenaagreatdoor", sum := "37c566ed719cc6d7cc5491e15fe54d20b7e008dac023f6bf3b569eeea6c44d93", func := "spokeshave/spokeshavelaw03.JointOpposite", spec := "jointOpposite", inPlace := ["internal/abi.NoEscape", "internal/bytealg.MakeNoZero"], unfollowed := true, recurses := true, named := ["internal/strconv.uint64pow10", "math/bits.deBruijn32tab", "math/bits.deBruijn64tab"], apart := false, laid := [("math/bits.deBruijn32tab", laid_math_bits_deBruijn32tab), ("math/bits.deBruijn64tab", laid_math_bits_deBruijn64tab), ("internal/strconv.uint64pow10", laid_internal_strconv_uint64pow10)] }
def JointOppositeSaid : Prop := jointOppositeRow.holds Tryz.pinned (OpenSpec.ofChange jointOppositeSpec)

/-- ITS FALSE NEIGHBOUR: 'it returns false'. Refute it at one input. -/
def jointOppositeWrong : ChangeSpec := { name := "jointOpposite", fn := fun _ => fun
  | [d1, d2] => { results := [.lit (.bool false)], args := [d1, d2] }
  | _ => none }
def JointOppositeWrongFalsely : Prop := jointOppositeRow.holds Tryz.pinned (OpenSpec.ofChange jointOppositeWrong)

/-- 'spokeshavelaw03.JointPuts': WHATEVER THE INPUT: true; the input reads as it did. -/
def jointPutsSpec : ChangeSpec := { name := "jointPuts", fn := fun _ => fun
  | [d1, d2, d3] => { results := [.lit (.bool true)], args := [d1, d2, d3] }
  | _ => none }
def jointPutsRow : OpenClaim := { program := "ytjglkglaogaenaagreatdoor", sum := "37c566ed719cc6d7cc5491e15fe54d20b7e008dac023f6bf3b569eeea6c44d93", func := "spokeshave/spokeshavelaw03.JointPuts", spec := "jointPuts", inPlace := ["internal/abi.NoEscape", "internal/bytealg.MakeNoZero"], unfollowed := true, recurses := true, named := ["internal/strconv.uint64pow10", "math/bits.deBruijn32tab", "math/bits.deBruijn64tab"], apart := false, laid := [("math/bits.deBruijn32tab", laid_math_bits_deBruijn32tab), ("math/bits.deBruijn64tab", laid_math_bits_deBruijn64tab), ("internal/strconv.uint64pow10", laid_internal_strconv_uint64pow10)] }
def JointPutsSaid : Prop := jointPutsRow.holds Tryz.pinned (OpenSpec.ofChange jointPutsSpec)

/-- ITS FALSE NEIGHBOUR: 'it returns false'. Refute it at one input. -/
def jointPutsWrong : ChangeSpec := { name := "jointPuts", fn := fun _ => fun
  | [d1, d2, d3] => { results := [.lit (.bool false)], args := [d1, d2, d3] }
  | _ => none }
def JointPutsWrongFalsely : Prop := jointPutsRow.holds Tryz.pinned (OpenSpec.ofChange jointPutsWrong)

/- THE SECOND FORM. 'bulk': how many values and letters a reading holds, each counted each time it is reached (what is shared counts as often as it is met; a slice's spare places count too). A statement '..UptoSaid' is the law's where the arguments, and the package variables that the reading takes, are together of bulk at most 1048576: NARROWER than '..Said'. Prove '..Said' where nothing that the law and all that it calls make is longer than what came in: it says more and counts as full. Else prove '..UptoSaid'. A law counts once. -/
mutual
def uptoBulk {H : Type} : DataW H → Nat
  | .lit (.string bytes) => bytes.length + 1
  | .lit _ => 1
  | .nil => 1
  | .ptr d => uptoBulk d + 1
  | .slice elems spare => uptoBulkAll elems + uptoBulkAll spare + 1
  | .agg parts => uptoBulkAll parts + 1
  | .iface _ d => uptoBulk d + 1
  | .map entries => uptoBulkEntries entries + 1
  | .held _ => 1
def uptoBulkAll {H : Type} : List (DataW H) → Nat
  | [] => 0
  | d :: r => uptoBulk d + uptoBulkAll r
def uptoBulkEntries {H : Type} : List (Lit × DataW H) → Nat
  | [] => 0
  | x :: r => uptoBulkEntry x + uptoBulkEntries r
def uptoBulkEntry {H : Type} : Lit × DataW H → Nat
  | (.string bytes, d) => bytes.length + uptoBulk d + 1
  | (_, d) => uptoBulk d + 1
 end
def uptoSmall : (H : Type) → List (DataW H) → Bool := fun _ ds => decide (uptoBulkAll ds ≤ 1048576)
def OpenSpec.upto (s : _root_.Go.ChangeSpec) : _root_.Go.OpenSpec := { _root_.Go.OpenSpec.ofChange s with cond := some uptoSmall }

/-- 'spokeshavelaw03.JointKeeps', WHERE WHAT IT READS IS OF BULK AT MOST 1048576: true; the input reads as it did. -/
def jointKeepsUptoRow : OpenClaim := { program := "ytjglkglaogaenaagreatdoor", sum := "37c566ed719cc6d7cc5491e15fe54d20b7e008dac023f6bf3b569eeea6c44d93", func := "spokeshave/spokeshavelaw03.JointKeeps", spec := "jointKeeps", inPlace := ["internal/abi.NoEscape", "internal/bytealg.MakeNoZero"], unfollowed := true, recurses := true, named := ["internal/strconv.uint64pow10", "math/bits.deBruijn32tab", "math/bits.deBruijn64tab"], apart := false, laid := [("math/bits.deBruijn32tab", laid_math_bits_deBruijn32tab), ("math/bits.deBruijn64tab", laid_math_bits_deBruijn64tab), ("internal/strconv.uint64pow10", laid_internal_strconv_uint64pow10)], narrowed := true }
def JointKeepsUptoSaid : Prop := jointKeepsUptoRow.holds Tryz.pinned (OpenSpec.upto jointKeepsSpec)

/-- 'spokeshavelaw03.JointChecks', WHERE WHAT IT READS IS OF BULK AT MOST 1048576: true; the input reads as it did. -/
def jointChecksUptoRow : OpenClaim := { program := "ytjglkglaogaenaagreatdoor", sum := "37c566ed719cc6d7cc5491e15fe54d20b7e008dac023f6bf3b569eeea6c44d93", func := "spokeshave/spokeshavelaw03.JointChecks", spec := "jointChecks", inPlace := ["internal/abi.NoEscape", "internal/bytealg.MakeNoZero"], unfollowed := true, recurses := true, named := ["internal/strconv.uint64pow10", "math/bits.deBruijn32tab", "math/bits.deBruijn64tab"], apart := false, laid := [("math/bits.deBruijn32tab", laid_math_bits_deBruijn32tab), ("math/bits.deBruijn64tab", laid_math_bits_deBruijn64tab), ("internal/strconv.uint64pow10", laid_internal_strconv_uint64pow10)], narrowed := true }
def JointChecksUptoSaid : Prop := jointChecksUptoRow.holds Tryz.pinned (OpenSpec.upto jointChecksSpec)

/-- 'spokeshavelaw03.JointGaps', WHERE WHAT IT READS IS OF BULK AT MOST 1048576: true; the input reads as it did. -/
def jointGapsUptoRow : OpenClaim := { program := "ytjglkglaogaenaagreatdoor", sum := "37c566ed719cc6d7cc5491e15fe54d20b7e008dac023f6bf3b569eeea6c44d93", func := "spokeshave/spokeshavelaw03.JointGaps", spec := "jointGaps", inPlace := ["internal/abi.NoEscape", "internal/bytealg.MakeNoZero"], unfollowed := true, recurses := true, named := ["internal/strconv.uint64pow10", "math/bits.deBruijn32tab", "math/bits.deBruijn64tab"], apart := false, laid := [("math/bits.deBruijn32tab", laid_math_bits_deBruijn32tab), ("math/bits.deBruijn64tab", laid_math_bits_deBruijn64tab), ("internal/strconv.uint64pow10", laid_internal_strconv_uint64pow10)], narrowed := true }
def JointGapsUptoSaid : Prop := jointGapsUptoRow.holds Tryz.pinned (OpenSpec.upto jointGapsSpec)

/-- 'spokeshavelaw03.JointStandards', WHERE WHAT IT READS IS OF BULK AT MOST 1048576: true; the input reads as it did. -/
def jointStandardsUptoRow : OpenClaim := { program := "ytjglkglaogaenaagreatdoor", sum := "37c566ed719cc6d7cc5491e15fe54d20b7e008dac023f6bf3b569eeea6c44d93", func := "spokeshave/spokeshavelaw03.JointStandards", spec := "jointStandards", inPlace := ["internal/abi.NoEscape", "internal/bytealg.MakeNoZero"], unfollowed := true, recurses := true, named := ["internal/strconv.uint64pow10", "math/bits.deBruijn32tab", "math/bits.deBruijn64tab"], apart := false, laid := [("math/bits.deBruijn32tab", laid_math_bits_deBruijn32tab), ("math/bits.deBruijn64tab", laid_math_bits_deBruijn64tab), ("internal/strconv.uint64pow10", laid_internal_strconv_uint64pow10)], narrowed := true }
def JointStandardsUptoSaid : Prop := jointStandardsUptoRow.holds Tryz.pinned (OpenSpec.upto jointStandardsSpec)

/-- 'spokeshavelaw03.JointFree', WHERE WHAT IT READS IS OF BULK AT MOST 1048576: true; the input reads as it did. -/
def jointFreeUptoRow : OpenClaim := { program := "ytjglkglaogaenaagreatdoor", sum := "37c566ed719cc6d7cc5491e15fe54d20b7e008dac023f6bf3b569eeea6c44d93", func := "spokeshave/spokeshavelaw03.JointFree", spec := "jointFree", inPlace := ["internal/abi.NoEscape", "internal/bytealg.MakeNoZero"], unfollowed := true, recurses := true, named := ["internal/strconv.uint64pow10", "math/bits.deBruijn32tab", "math/bits.deBruijn64tab"], apart := false, laid := [("math/bits.deBruijn32tab", laid_math_bits_deBruijn32tab), ("math/bits.deBruijn64tab", laid_math_bits_deBruijn64tab), ("internal/strconv.uint64pow10", laid_internal_strconv_uint64pow10)], narrowed := true }
def JointFreeUptoSaid : Prop := jointFreeUptoRow.holds Tryz.pinned (OpenSpec.upto jointFreeSpec)

/-- 'spokeshavelaw03.JointAreas', WHERE WHAT IT READS IS OF BULK AT MOST 1048576: true; the input reads as it did. -/
def jointAreasUptoRow : OpenClaim := { program := "ytjglkglaogaenaagreatdoor", sum := "37c566ed719cc6d7cc5491e15fe54d20b7e008dac023f6bf3b569eeea6c44d93", func := "spokeshave/spokeshavelaw03.JointAreas", spec := "jointAreas", inPlace := ["internal/abi.NoEscape", "internal/bytealg.MakeNoZero"], unfollowed := true, recurses := true, named := ["internal/strconv.uint64pow10", "math/bits.deBruijn32tab", "math/bits.deBruijn64tab"], apart := false, laid := [("math/bits.deBruijn32tab", laid_math_bits_deBruijn32tab), ("math/bits.deBruijn64tab", laid_math_bits_deBruijn64tab), ("internal/strconv.uint64pow10", laid_internal_strconv_uint64pow10)], narrowed := true }
def JointAreasUptoSaid : Prop := jointAreasUptoRow.holds Tryz.pinned (OpenSpec.upto jointAreasSpec)

/-- 'spokeshavelaw03.JointFreeAt', WHERE WHAT IT READS IS OF BULK AT MOST 1048576: true; the input reads as it did. -/
def jointFreeAtUptoRow : OpenClaim := { program := "ytjglkglaogaenaagreatdoor", sum := "37c566ed719cc6d7cc5491e15fe54d20b7e008dac023f6bf3b569eeea6c44d93", func := "spokeshave/spokeshavelaw03.JointFreeAt", spec := "jointFreeAt", inPlace := ["internal/abi.NoEscape", "internal/bytealg.MakeNoZero"], unfollowed := true, recurses := true, named := ["internal/strconv.uint64pow10", "math/bits.deBruijn32tab", "math/bits.deBruijn64tab"], apart := false, laid := [("math/bits.deBruijn32tab", laid_math_bits_deBruijn32tab), ("math/bits.deBruijn64tab", laid_math_bits_deBruijn64tab), ("internal/strconv.uint64pow10", laid_internal_strconv_uint64pow10)], narrowed := true }
def JointFreeAtUptoSaid : Prop := jointFreeAtUptoRow.holds Tryz.pinned (OpenSpec.upto jointFreeAtSpec)

/-- 'spokeshavelaw03.JointOpposite', WHERE WHAT IT READS IS OF BULK AT MOST 1048576: true; the input reads as it did. -/
def jointOppositeUptoRow : OpenClaim := { program := "ytjglkglaogaenaagreatdoor", sum := "37c566ed719cc6d7cc5491e15fe54d20b7e008dac023f6bf3b569eeea6c44d93", func := "spokeshave/spokeshavelaw03.JointOpposite", spec := "jointOpposite", inPlace := ["internal/abi.NoEscape", "internal/bytealg.MakeNoZero"], unfollowed := true, recurses := true, named := ["internal/strconv.uint64pow10", "math/bits.deBruijn32tab", "math/bits.deBruijn64tab"], apart := false, laid := [("math/bits.deBruijn32tab", laid_math_bits_deBruijn32tab), ("math/bits.deBruijn64tab", laid_math_bits_deBruijn64tab), ("internal/strconv.uint64pow10", laid_internal_strconv_uint64pow10)], narrowed := true }
def JointOppositeUptoSaid : Prop := jointOppositeUptoRow.holds Tryz.pinned (OpenSpec.upto jointOppositeSpec)

/-- 'spokeshavelaw03.JointPuts', WHERE WHAT IT READS IS OF BULK AT MOST 1048576: true; the input reads as it did. -/
def jointPutsUptoRow : OpenClaim := { program := "ytjglkglaogaenaagreatdoor", sum := "37c566ed719cc6d7cc5491e15fe54d20b7e008dac023f6bf3b569eeea6c44d93", func := "spokeshave/spokeshavelaw03.JointPuts", spec := "jointPuts", inPlace := ["internal/abi.NoEscape", "internal/bytealg.MakeNoZero"], unfollowed := true, recurses := true, named := ["internal/strconv.uint64pow10", "math/bits.deBruijn32tab", "math/bits.deBruijn64tab"], apart := false, laid := [("math/bits.deBruijn32tab", laid_math_bits_deBruijn32tab), ("math/bits.deBruijn64tab", laid_math_bits_deBruijn64tab), ("internal/strconv.uint64pow10", laid_internal_strconv_uint64pow10)], narrowed := true }
def JointPutsUptoSaid : Prop := jointPutsUptoRow.holds Tryz.pinned (OpenSpec.upto jointPutsSpec)

end Rows
end Go.Proofs.YtjglkglaogaenaaGreatDoor
