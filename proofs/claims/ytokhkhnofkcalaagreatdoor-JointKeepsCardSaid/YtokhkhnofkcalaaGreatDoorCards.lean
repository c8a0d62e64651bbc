/-
  DERIVED. GIVEN WITH THE SEED: THE CARDS: each row of YtokhkhnofkcalaaGreatDoorRows.lean that lists a variable, with what it lists TIED to the program's text (the seventh form; the later family's looks); each row that meets fmt, with fmt's text TOLD by the authors' own Lean function (tested against real Go, not proved from fmt's source: count such statements apart). THE CARD IS WHAT COUNTS. Prove the row's statement (the work); the ties are given (YtokhkhnofkcalaaGreatDoorTie.lean); close each card by the builder's one call (the guide's Derived/Test/ToyasCard.lean, 'card_holds'). Laid BY PROGRAM, IN A SANDBOX (cutbox-door.mjs). By AI agents, Wed Nov 11 2026. No macro, syntax, notation, axiom, sorry.
-/
import Derived.Test.YtokhkhnofkcalaaGreatDoorRows
import GoSem.ClaimSeven
namespace Go.Proofs.YtokhkhnofkcalaaGreatDoor
namespace Rows

/-- THE TIED CARD OF 'spokeshavelaw03.JointKeeps'. -/
def jointKeepsCard : Claim7 := { stood := { row := jointKeepsRow, standIns := [], harness := (true, "2825dd3d881741a9601f3d84da10622a4c072a2ad8f429c273d66c334a310974"), looks := false }, kinds := [], alts := [], laidByText := true, laidKinds := [.data, .data, .data], laidTests := true, laidLooks := .later }
def JointKeepsCardSaid : Prop := Claim7.holds Tryz.pinned (.plain (OpenSpec.ofChange jointKeepsSpec)) jointKeepsCard

/-- THE TIED CARD OF 'spokeshavelaw03.JointGaps'. -/
def jointGapsCard : Claim7 := { stood := { row := jointGapsRow, standIns := [], harness := (true, "2825dd3d881741a9601f3d84da10622a4c072a2ad8f429c273d66c334a310974"), looks := false }, kinds := [], alts := [], laidByText := true, laidKinds := [.data, .data, .data], laidTests := true, laidLooks := .later }
def JointGapsCardSaid : Prop := Claim7.holds Tryz.pinned (.plain (OpenSpec.ofChange jointGapsSpec)) jointGapsCard

/-- THE TIED CARD OF 'spokeshavelaw03.JointPuts'. -/
def jointPutsCard : Claim7 := { stood := { row := jointPutsRow, standIns := [], harness := (true, "2825dd3d881741a9601f3d84da10622a4c072a2ad8f429c273d66c334a310974"), looks := false }, kinds := [], alts := [], laidByText := true, laidKinds := [.data, .data, .data], laidTests := true, laidLooks := .later }
def JointPutsCardSaid : Prop := Claim7.holds Tryz.pinned (.plain (OpenSpec.ofChange jointPutsSpec)) jointPutsCard

/-- THE SECOND FORM's CARD OF 'spokeshavelaw03.JointKeeps'. -/
def jointKeepsUptoCard : Claim7 := { stood := { row := jointKeepsUptoRow, standIns := [], harness := (true, "2825dd3d881741a9601f3d84da10622a4c072a2ad8f429c273d66c334a310974"), looks := false }, kinds := [], alts := [], laidByText := true, laidKinds := [.data, .data, .data], laidTests := true, laidLooks := .later }
def JointKeepsUptoCardSaid : Prop := Claim7.holds Tryz.pinned (.plain (OpenSpec.upto jointKeepsSpec)) jointKeepsUptoCard

/-- THE SECOND FORM's CARD OF 'spokeshavelaw03.JointGaps'. -/
def jointGapsUptoCard : Claim7 := { stood := { row := jointGapsUptoRow, standIns := [], harness := (true, "2825dd3d881741a9601f3d84da10622a4c072a2ad8f429c273d66c334a310974"), looks := false }, kinds := [], alts := [], laidByText := true, laidKinds := [.data, .data, .data], laidTests := true, laidLooks := .later }
def JointGapsUptoCardSaid : Prop := Claim7.holds Tryz.pinned (.plain (OpenSpec.upto jointGapsSpec)) jointGapsUptoCard

/-- THE SECOND FORM's CARD OF 'spokeshavelaw03.JointPuts'. -/
def jointPutsUptoCard : Claim7 := { stood := { row := jointPutsUptoRow, standIns := [], harness := (true, "2825dd3d881741a9601f3d84da10622a4c072a2ad8f429c273d66c334a310974"), looks := false }, kinds := [], alts := [], laidByText := true, laidKinds := [.data, .data, .data], laidTests := true, laidLooks := .later }
def JointPutsUptoCardSaid : Prop := Claim7.holds Tryz.pinned (.plain (OpenSpec.upto jointPutsSpec)) jointPutsUptoCard
end Rows
end Go.Proofs.YtokhkhnofkcalaaGreatDoor
