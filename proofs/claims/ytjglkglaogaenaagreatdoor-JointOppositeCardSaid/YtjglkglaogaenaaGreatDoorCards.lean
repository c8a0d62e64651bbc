/-
  DERIVED. GIVEN WITH THE SEED: THE CARDS: each row of YtjglkglaogaenaaGreatDoorRows.lean that lists a variable, with what it lists TIED to the program's text (the seventh form; the later family's looks); each row that meets fmt, with fmt's text TOLD by the authors' own Lean function (tested against real Go, not proved from fmt's source: count such statements apart). THE CARD IS WHAT COUNTS. Prove the row's statement (the work); the ties are given (YtjglkglaogaenaaGreatDoorTie.lean); close each card by the builder's one call (the guide's Derived/Test/ToyasCard.lean, 'card_holds'). Laid BY PROGRAM, IN A SANDBOX (cutbox-door.mjs). By AI agents, Wed Nov 11 2026. No macro, syntax, notation, axiom, sorry.
-/
import Derived.Test.YtjglkglaogaenaaGreatDoorRows
import GoSem.ClaimSeven
namespace Go.Proofs.YtjglkglaogaenaaGreatDoor
namespace Rows

/-- THE TIED CARD OF 'spokeshavelaw03.JointKeeps'. -/
def jointKeepsCard : Claim7 := { stood := { row := jointKeepsRow, standIns := [], harness := (true, "6d7c53209835a7aa8f237410dd145ec8acb4f5a16e8fbc285d6535d0eaff438f"), looks := false }, kinds := [], alts := [], laidByText := true, laidKinds := [.data, .data, .data], laidTests := true, laidLooks := .later }
def JointKeepsCardSaid : Prop := Claim7.holds Tryz.pinned (.plain (OpenSpec.ofChange jointKeepsSpec)) jointKeepsCard

/-- THE TIED CARD OF 'spokeshavelaw03.JointChecks'. -/
def jointChecksCard : Claim7 := { stood := { row := jointChecksRow, standIns := [], harness := (true, "6d7c53209835a7aa8f237410dd145ec8acb4f5a16e8fbc285d6535d0eaff438f"), looks := false }, kinds := [], alts := [], laidByText := true, laidKinds := [.data, .data, .data], laidTests := true, laidLooks := .later }
def JointChecksCardSaid : Prop := Claim7.holds Tryz.pinned (.plain (OpenSpec.ofChange jointChecksSpec)) jointChecksCard

/-- THE TIED CARD OF 'spokeshavelaw03.JointGaps'. -/
def jointGapsCard : Claim7 := { stood := { row := jointGapsRow, standIns := [], harness := (true, "6d7c53209835a7aa8f237410dd145ec8acb4f5a16e8fbc285d6535d0eaff438f"), looks := false }, kinds := [], alts := [], laidByText := true, laidKinds := [.data, .data, .data], laidTests := true, laidLooks := .later }
def JointGapsCardSaid : Prop := Claim7.holds Tryz.pinned (.plain (OpenSpec.ofChange jointGapsSpec)) jointGapsCard

/-- THE TIED CARD OF 'spokeshavelaw03.JointStandards'. -/
def jointStandardsCard : Claim7 := { stood := { row := jointStandardsRow, standIns := [], harness := (true, "6d7c53209835a7aa8f237410dd145ec8acb4f5a16e8fbc285d6535d0eaff438f"), looks := false }, kinds := [], alts := [], laidByText := true, laidKinds := [.data, .data, .data], laidTests := true, laidLooks := .later }
def JointStandardsCardSaid : Prop := Claim7.holds Tryz.pinned (.plain (OpenSpec.ofChange jointStandardsSpec)) jointStandardsCard

/-- THE TIED CARD OF 'spokeshavelaw03.JointFree'. -/
def jointFreeCard : Claim7 := { stood := { row := jointFreeRow, standIns := [], harness := (true, "6d7c53209835a7aa8f237410dd145ec8acb4f5a16e8fbc285d6535d0eaff438f"), looks := false }, kinds := [], alts := [], laidByText := true, laidKinds := [.data, .data, .data], laidTests := true, laidLooks := .later }
def JointFreeCardSaid : Prop := Claim7.holds Tryz.pinned (.plain (OpenSpec.ofChange jointFreeSpec)) jointFreeCard

/-- THE TIED CARD OF 'spokeshavelaw03.JointAreas'. -/
def jointAreasCard : Claim7 := { stood := { row := jointAreasRow, standIns := [], harness := (true, "6d7c53209835a7aa8f237410dd145ec8acb4f5a16e8fbc285d6535d0eaff438f"), looks := false }, kinds := [], alts := [], laidByText := true, laidKinds := [.data, .data, .data], laidTests := true, laidLooks := .later }
def JointAreasCardSaid : Prop := Claim7.holds Tryz.pinned (.plain (OpenSpec.ofChange jointAreasSpec)) jointAreasCard

/-- THE TIED CARD OF 'spokeshavelaw03.JointFreeAt'. -/
def jointFreeAtCard : Claim7 := { stood := { row := jointFreeAtRow, standIns := [], harness := (true, "6d7c53209835a7aa8f237410dd145ec8acb4f5a16e8fbc285d6535d0eaff438f"), looks := false }, kinds := [], alts := [], laidByText := true, laidKinds := [.data, .data, .data], laidTests := true, laidLooks := .later }
def JointFreeAtCardSaid : Prop := Claim7.holds Tryz.pinned (.plain (OpenSpec.ofChange jointFreeAtSpec)) jointFreeAtCard

/-- THE TIED CARD OF 'spokeshavelaw03.JointOpposite'. -/
def jointOppositeCard : Claim7 := { stood := { row := jointOppositeRow, standIns := [], harness := (true, "6d7c53209835a7aa8f237410dd145ec8acb4f5a16e8fbc285d6535d0eaff438f"), looks := false }, kinds := [], alts := [], laidByText := true, laidKinds := [.data, .data, .data], laidTests := true, laidLooks := .later }
def JointOppositeCardSaid : Prop := Claim7.holds Tryz.pinned (.plain (OpenSpec.ofChange jointOppositeSpec)) jointOppositeCard

/-- THE TIED CARD OF 'spokeshavelaw03.JointPuts'. -/
def jointPutsCard : Claim7 := { stood := { row := jointPutsRow, standIns := [], harness := (true, "6d7c53209835a7aa8f237410dd145ec8acb4f5a16e8fbc285d6535d0eaff438f"), looks := false }, kinds := [], alts := [], laidByText := true, laidKinds := [.data, .data, .data], laidTests := true, laidLooks := .later }
def JointPutsCardSaid : Prop := Claim7.holds Tryz.pinned (.plain (OpenSpec.ofChange jointPutsSpec)) jointPutsCard

/-- THE SECOND FORM's CARD OF 'spokeshavelaw03.JointKeeps'. -/
def jointKeepsUptoCard : Claim7 := { stood := { row := jointKeepsUptoRow, standIns := [], harness := (true, "6d7c53209835a7aa8f237410dd145ec8acb4f5a16e8fbc285d6535d0eaff438f"), looks := false }, kinds := [], alts := [], laidByText := true, laidKinds := [.data, .data, .data], laidTests := true, laidLooks := .later }
def JointKeepsUptoCardSaid : Prop := Claim7.holds Tryz.pinned (.plain (OpenSpec.upto jointKeepsSpec)) jointKeepsUptoCard

/-- THE SECOND FORM's CARD OF 'spokeshavelaw03.JointChecks'. -/
def jointChecksUptoCard : Claim7 := { stood := { row := jointChecksUptoRow, standIns := [], harness := (true, "6d7c53209835a7aa8f237410dd145ec8acb4f5a16e8fbc285d6535d0eaff438f"), looks := false }, kinds := [], alts := [], laidByText := true, laidKinds := [.data, .data, .data], laidTests := true, laidLooks := .later }
def JointChecksUptoCardSaid : Prop := Claim7.holds Tryz.pinned (.plain (OpenSpec.upto jointChecksSpec)) jointChecksUptoCard

/-- THE SECOND FORM's CARD OF 'spokeshavelaw03.JointGaps'. -/
def jointGapsUptoCard : Claim7 := { stood := { row := jointGapsUptoRow, standIns := [], harness := (true, "6d7c53209835a7aa8f237410dd145ec8acb4f5a16e8fbc285d6535d0eaff438f"), looks := false }, kinds := [], alts := [], laidByText := true, laidKinds := [.data, .data, .data], laidTests := true, laidLooks := .later }
def JointGapsUptoCardSaid : Prop := Claim7.holds Tryz.pinned (.plain (OpenSpec.upto jointGapsSpec)) jointGapsUptoCard

/-- THE SECOND FORM's CARD OF 'spokeshavelaw03.JointStandards'. -/
def jointStandardsUptoCard : Claim7 := { stood := { row := jointStandardsUptoRow, standIns := [], harness := (true, "6d7c53209835a7aa8f237410dd145ec8acb4f5a16e8fbc285d6535d0eaff438f"), looks := false }, kinds := [], alts := [], laidByText := true, laidKinds := [.data, .data, .data], laidTests := true, laidLooks := .later }
def JointStandardsUptoCardSaid : Prop := Claim7.holds Tryz.pinned (.plain (OpenSpec.upto jointStandardsSpec)) jointStandardsUptoCard

/-- THE SECOND FORM's CARD OF 'spokeshavelaw03.JointFree'. -/
def jointFreeUptoCard : Claim7 := { stood := { row := jointFreeUptoRow, standIns := [], harness := (true, "6d7c53209835a7aa8f237410dd145ec8acb4f5a16e8fbc285d6535d0eaff438f"), looks := false }, kinds := [], alts := [], laidByText := true, laidKinds := [.data, .data, .data], laidTests := true, laidLooks := .later }
def JointFreeUptoCardSaid : Prop := Claim7.holds Tryz.pinned (.plain (OpenSpec.upto jointFreeSpec)) jointFreeUptoCard

/-- THE SECOND FORM's CARD OF 'spokeshavelaw03.JointAreas'. -/
def jointAreasUptoCard : Claim7 := { stood := { row := jointAreasUptoRow, standIns := [], harness := (true, "6d7c53209835a7aa8f237410dd145ec8acb4f5a16e8fbc285d6535d0eaff438f"), looks := false }, kinds := [], alts := [], laidByText := true, laidKinds := [.data, .data, .data], laidTests := true, laidLooks := .later }
def JointAreasUptoCardSaid : Prop := Claim7.holds Tryz.pinned (.plain (OpenSpec.upto jointAreasSpec)) jointAreasUptoCard

/-- THE SECOND FORM's CARD OF 'spokeshavelaw03.JointFreeAt'. -/
def jointFreeAtUptoCard : Claim7 := { stood := { row := jointFreeAtUptoRow, standIns := [], harness := (true, "6d7c53209835a7aa8f237410dd145ec8acb4f5a16e8fbc285d6535d0eaff438f"), looks := false }, kinds := [], alts := [], laidByText := true, laidKinds := [.data, .data, .data], laidTests := true, laidLooks := .later }
def JointFreeAtUptoCardSaid : Prop := Claim7.holds Tryz.pinned (.plain (OpenSpec.upto jointFreeAtSpec)) jointFreeAtUptoCard

/-- THE SECOND FORM's CARD OF 'spokeshavelaw03.JointOpposite'. -/
def jointOppositeUptoCard : Claim7 := { stood := { row := jointOppositeUptoRow, standIns := [], harness := (true, "6d7c53209835a7aa8f237410dd145ec8acb4f5a16e8fbc285d6535d0eaff438f"), looks := false }, kinds := [], alts := [], laidByText := true, laidKinds := [.data, .data, .data], laidTests := true, laidLooks := .later }
def JointOppositeUptoCardSaid : Prop := Claim7.holds Tryz.pinned (.plain (OpenSpec.upto jointOppositeSpec)) jointOppositeUptoCard

/-- THE SECOND FORM's CARD OF 'spokeshavelaw03.JointPuts'. -/
def jointPutsUptoCard : Claim7 := { stood := { row := jointPutsUptoRow, standIns := [], harness := (true, "6d7c53209835a7aa8f237410dd145ec8acb4f5a16e8fbc285d6535d0eaff438f"), looks := false }, kinds := [], alts := [], laidByText := true, laidKinds := [.data, .data, .data], laidTests := true, laidLooks := .later }
def JointPutsUptoCardSaid : Prop := Claim7.holds Tryz.pinned (.plain (OpenSpec.upto jointPutsSpec)) jointPutsUptoCard
end Rows
end Go.Proofs.YtjglkglaogaenaaGreatDoor
