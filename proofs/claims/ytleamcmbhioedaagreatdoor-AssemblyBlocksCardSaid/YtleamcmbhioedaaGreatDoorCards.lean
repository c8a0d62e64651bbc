/-
  DERIVED. GIVEN WITH THE SEED: THE CARDS: each row of YtleamcmbhioedaaGreatDoorRows.lean that lists a variable, with what it lists TIED to the program's text (the seventh form; the later family's looks); each row that meets fmt, with fmt's text TOLD by the authors' own Lean function (tested against real Go, not proved from fmt's source: count such statements apart). THE CARD IS WHAT COUNTS. Prove the row's statement (the work); the ties are given (YtleamcmbhioedaaGreatDoorTie.lean); close each card by the builder's one call (the guide's Derived/Test/ToyasCard.lean, 'card_holds'). Laid BY PROGRAM, IN A SANDBOX (cutbox-door.mjs). By AI agents, Wed Nov 11 2026. No macro, syntax, notation, axiom, sorry.
-/
import Derived.Test.YtleamcmbhioedaaGreatDoorRows
import GoSem.ClaimSeven
namespace Go.Proofs.YtleamcmbhioedaaGreatDoor
namespace Rows

/-- THE TIED CARD OF 'spokeshavelaw04.AssemblyChecks'. -/
def assemblyChecksCard : Claim7 := { stood := { row := assemblyChecksRow, standIns := [], harness := (true, "9a47d338220befa9d9a47983d957eb0011a314e5f1828659f50c0d4018ec8488"), looks := false }, kinds := [], alts := [], laidByText := true, laidKinds := [.data, .data, .data], laidTests := true, laidLooks := .later }
def AssemblyChecksCardSaid : Prop := Claim7.holds Tryz.pinned (.plain (OpenSpec.ofChange assemblyChecksSpec)) assemblyChecksCard

/-- THE TIED CARD OF 'spokeshavelaw04.AssemblyBlocks'. -/
def assemblyBlocksCard : Claim7 := { stood := { row := assemblyBlocksRow, standIns := [], harness := (true, "9a47d338220befa9d9a47983d957eb0011a314e5f1828659f50c0d4018ec8488"), looks := false }, kinds := [], alts := [], laidByText := true, laidKinds := [.data, .data, .data], laidTests := true, laidLooks := .later }
def AssemblyBlocksCardSaid : Prop := Claim7.holds Tryz.pinned (.plain (OpenSpec.ofChange assemblyBlocksSpec)) assemblyBlocksCard

/-- THE TIED CARD OF 'spokeshavelaw04.AssemblyWays'. -/
def assemblyWaysCard : Claim7 := { stood := { row := assemblyWaysRow, standIns := [], harness := (true, "9a47d338220befa9d9a47983d957eb0011a314e5f1828659f50c0d4018ec8488"), looks := false }, kinds := [], alts := [], laidByText := true, laidKinds := [.data, .data, .data], laidTests := true, laidLooks := .later }
def AssemblyWaysCardSaid : Prop := Claim7.holds Tryz.pinned (.plain (OpenSpec.ofChange assemblyWaysSpec)) assemblyWaysCard

/-- THE SECOND FORM's CARD OF 'spokeshavelaw04.AssemblyChecks'. -/
def assemblyChecksUptoCard : Claim7 := { stood := { row := assemblyChecksUptoRow, standIns := [], harness := (true, "9a47d338220befa9d9a47983d957eb0011a314e5f1828659f50c0d4018ec8488"), looks := false }, kinds := [], alts := [], laidByText := true, laidKinds := [.data, .data, .data], laidTests := true, laidLooks := .later }
def AssemblyChecksUptoCardSaid : Prop := Claim7.holds Tryz.pinned (.plain (OpenSpec.upto assemblyChecksSpec)) assemblyChecksUptoCard

/-- THE SECOND FORM's CARD OF 'spokeshavelaw04.AssemblyBlocks'. -/
def assemblyBlocksUptoCard : Claim7 := { stood := { row := assemblyBlocksUptoRow, standIns := [], harness := (true, "9a47d338220befa9d9a47983d957eb0011a314e5f1828659f50c0d4018ec8488"), looks := false }, kinds := [], alts := [], laidByText := true, laidKinds := [.data, .data, .data], laidTests := true, laidLooks := .later }
def AssemblyBlocksUptoCardSaid : Prop := Claim7.holds Tryz.pinned (.plain (OpenSpec.upto assemblyBlocksSpec)) assemblyBlocksUptoCard

/-- THE SECOND FORM's CARD OF 'spokeshavelaw04.AssemblyWays'. -/
def assemblyWaysUptoCard : Claim7 := { stood := { row := assemblyWaysUptoRow, standIns := [], harness := (true, "9a47d338220befa9d9a47983d957eb0011a314e5f1828659f50c0d4018ec8488"), looks := false }, kinds := [], alts := [], laidByText := true, laidKinds := [.data, .data, .data], laidTests := true, laidLooks := .later }
def AssemblyWaysUptoCardSaid : Prop := Claim7.holds Tryz.pinned (.plain (OpenSpec.upto assemblyWaysSpec)) assemblyWaysUptoCard
end Rows
end Go.Proofs.YtleamcmbhioedaaGreatDoor
