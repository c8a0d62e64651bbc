/-
  DERIVED. GIVEN WITH THE SEED: THE CARDS: each row of YtnpmkepfpekhfaaGreatDoorRows.lean that lists a variable, with what it lists TIED to the program's text (the seventh form; the later family's looks); each row that meets fmt, with fmt's text TOLD by the authors' own Lean function (tested against real Go, not proved from fmt's source: count such statements apart). THE CARD IS WHAT COUNTS. Prove the row's statement (the work); the ties are given (YtnpmkepfpekhfaaGreatDoorTie.lean); close each card by the builder's one call (the guide's Derived/Test/ToyasCard.lean, 'card_holds'). Laid BY PROGRAM, IN A SANDBOX (cutbox-door.mjs). By AI agents, Wed Nov 11 2026. No macro, syntax, notation, axiom, sorry.
-/
import Derived.Test.YtnpmkepfpekhfaaGreatDoorRows
import GoSem.ClaimSeven
namespace Go.Proofs.YtnpmkepfpekhfaaGreatDoor
namespace Rows

/-- THE TIED CARD OF 'spokeshavelaw04.AssemblyFree'. -/
def assemblyFreeCard : Claim7 := { stood := { row := assemblyFreeRow, standIns := [], harness := (true, "47a03ed1565ca0bff0ddf70cf823a2496a9a8457d166fbdcde96256ea75bcf49"), looks := false }, kinds := [], alts := [], laidByText := true, laidKinds := [.data, .data, .data], laidTests := true, laidLooks := .later }
def AssemblyFreeCardSaid : Prop := Claim7.holds Tryz.pinned (.plain (OpenSpec.ofChange assemblyFreeSpec)) assemblyFreeCard

/-- THE TIED CARD OF 'spokeshavelaw04.AssemblyGraphs'. -/
def assemblyGraphsCard : Claim7 := { stood := { row := assemblyGraphsRow, standIns := [], harness := (true, "47a03ed1565ca0bff0ddf70cf823a2496a9a8457d166fbdcde96256ea75bcf49"), looks := false }, kinds := [], alts := [], laidByText := true, laidKinds := [.data, .data, .data], laidTests := true, laidLooks := .later }
def AssemblyGraphsCardSaid : Prop := Claim7.holds Tryz.pinned (.plain (OpenSpec.ofChange assemblyGraphsSpec)) assemblyGraphsCard

/-- THE TIED CARD OF 'spokeshavelaw04.AssemblyDepths'. -/
def assemblyDepthsCard : Claim7 := { stood := { row := assemblyDepthsRow, standIns := [], harness := (true, "47a03ed1565ca0bff0ddf70cf823a2496a9a8457d166fbdcde96256ea75bcf49"), looks := false }, kinds := [], alts := [], laidByText := true, laidKinds := [.data, .data, .data], laidTests := true, laidLooks := .later }
def AssemblyDepthsCardSaid : Prop := Claim7.holds Tryz.pinned (.plain (OpenSpec.ofChange assemblyDepthsSpec)) assemblyDepthsCard

/-- THE TIED CARD OF 'spokeshavelaw04.AssemblyLocks'. -/
def assemblyLocksCard : Claim7 := { stood := { row := assemblyLocksRow, standIns := [], harness := (true, "47a03ed1565ca0bff0ddf70cf823a2496a9a8457d166fbdcde96256ea75bcf49"), looks := false }, kinds := [], alts := [], laidByText := true, laidKinds := [.data, .data, .data], laidTests := true, laidLooks := .later }
def AssemblyLocksCardSaid : Prop := Claim7.holds Tryz.pinned (.plain (OpenSpec.ofChange assemblyLocksSpec)) assemblyLocksCard

/-- THE TIED CARD OF 'spokeshavelaw04.AssemblyAccepts'. -/
def assemblyAcceptsCard : Claim7 := { stood := { row := assemblyAcceptsRow, standIns := [], harness := (true, "47a03ed1565ca0bff0ddf70cf823a2496a9a8457d166fbdcde96256ea75bcf49"), looks := false }, kinds := [], alts := [], laidByText := true, laidKinds := [.data, .data, .data], laidTests := true, laidLooks := .later }
def AssemblyAcceptsCardSaid : Prop := Claim7.holds Tryz.pinned (.plain (OpenSpec.ofChange assemblyAcceptsSpec)) assemblyAcceptsCard

/-- THE TIED CARD OF 'spokeshavelaw04.AssemblyPlaces'. -/
def assemblyPlacesCard : Claim7 := { stood := { row := assemblyPlacesRow, standIns := [], harness := (true, "47a03ed1565ca0bff0ddf70cf823a2496a9a8457d166fbdcde96256ea75bcf49"), looks := false }, kinds := [], alts := [], laidByText := true, laidKinds := [.data, .data, .data], laidTests := true, laidLooks := .later }
def AssemblyPlacesCardSaid : Prop := Claim7.holds Tryz.pinned (.plain (OpenSpec.ofChange assemblyPlacesSpec)) assemblyPlacesCard

/-- THE TIED CARD OF 'spokeshavelaw04.AssemblySingles'. -/
def assemblySinglesCard : Claim7 := { stood := { row := assemblySinglesRow, standIns := [], harness := (true, "47a03ed1565ca0bff0ddf70cf823a2496a9a8457d166fbdcde96256ea75bcf49"), looks := false }, kinds := [], alts := [], laidByText := true, laidKinds := [.data, .data, .data], laidTests := true, laidLooks := .later }
def AssemblySinglesCardSaid : Prop := Claim7.holds Tryz.pinned (.plain (OpenSpec.ofChange assemblySinglesSpec)) assemblySinglesCard

/-- THE SECOND FORM's CARD OF 'spokeshavelaw04.AssemblyFree'. -/
def assemblyFreeUptoCard : Claim7 := { stood := { row := assemblyFreeUptoRow, standIns := [], harness := (true, "47a03ed1565ca0bff0ddf70cf823a2496a9a8457d166fbdcde96256ea75bcf49"), looks := false }, kinds := [], alts := [], laidByText := true, laidKinds := [.data, .data, .data], laidTests := true, laidLooks := .later }
def AssemblyFreeUptoCardSaid : Prop := Claim7.holds Tryz.pinned (.plain (OpenSpec.upto assemblyFreeSpec)) assemblyFreeUptoCard

/-- THE SECOND FORM's CARD OF 'spokeshavelaw04.AssemblyGraphs'. -/
def assemblyGraphsUptoCard : Claim7 := { stood := { row := assemblyGraphsUptoRow, standIns := [], harness := (true, "47a03ed1565ca0bff0ddf70cf823a2496a9a8457d166fbdcde96256ea75bcf49"), looks := false }, kinds := [], alts := [], laidByText := true, laidKinds := [.data, .data, .data], laidTests := true, laidLooks := .later }
def AssemblyGraphsUptoCardSaid : Prop := Claim7.holds Tryz.pinned (.plain (OpenSpec.upto assemblyGraphsSpec)) assemblyGraphsUptoCard

/-- THE SECOND FORM's CARD OF 'spokeshavelaw04.AssemblyDepths'. -/
def assemblyDepthsUptoCard : Claim7 := { stood := { row := assemblyDepthsUptoRow, standIns := [], harness := (true, "47a03ed1565ca0bff0ddf70cf823a2496a9a8457d166fbdcde96256ea75bcf49"), looks := false }, kinds := [], alts := [], laidByText := true, laidKinds := [.data, .data, .data], laidTests := true, laidLooks := .later }
def AssemblyDepthsUptoCardSaid : Prop := Claim7.holds Tryz.pinned (.plain (OpenSpec.upto assemblyDepthsSpec)) assemblyDepthsUptoCard

/-- THE SECOND FORM's CARD OF 'spokeshavelaw04.AssemblyLocks'. -/
def assemblyLocksUptoCard : Claim7 := { stood := { row := assemblyLocksUptoRow, standIns := [], harness := (true, "47a03ed1565ca0bff0ddf70cf823a2496a9a8457d166fbdcde96256ea75bcf49"), looks := false }, kinds := [], alts := [], laidByText := true, laidKinds := [.data, .data, .data], laidTests := true, laidLooks := .later }
def AssemblyLocksUptoCardSaid : Prop := Claim7.holds Tryz.pinned (.plain (OpenSpec.upto assemblyLocksSpec)) assemblyLocksUptoCard

/-- THE SECOND FORM's CARD OF 'spokeshavelaw04.AssemblyAccepts'. -/
def assemblyAcceptsUptoCard : Claim7 := { stood := { row := assemblyAcceptsUptoRow, standIns := [], harness := (true, "47a03ed1565ca0bff0ddf70cf823a2496a9a8457d166fbdcde96256ea75bcf49"), looks := false }, kinds := [], alts := [], laidByText := true, laidKinds := [.data, .data, .data], laidTests := true, laidLooks := .later }
def AssemblyAcceptsUptoCardSaid : Prop := Claim7.holds Tryz.pinned (.plain (OpenSpec.upto assemblyAcceptsSpec)) assemblyAcceptsUptoCard

/-- THE SECOND FORM's CARD OF 'spokeshavelaw04.AssemblyPlaces'. -/
def assemblyPlacesUptoCard : Claim7 := { stood := { row := assemblyPlacesUptoRow, standIns := [], harness := (true, "47a03ed1565ca0bff0ddf70cf823a2496a9a8457d166fbdcde96256ea75bcf49"), looks := false }, kinds := [], alts := [], laidByText := true, laidKinds := [.data, .data, .data], laidTests := true, laidLooks := .later }
def AssemblyPlacesUptoCardSaid : Prop := Claim7.holds Tryz.pinned (.plain (OpenSpec.upto assemblyPlacesSpec)) assemblyPlacesUptoCard

/-- THE SECOND FORM's CARD OF 'spokeshavelaw04.AssemblySingles'. -/
def assemblySinglesUptoCard : Claim7 := { stood := { row := assemblySinglesUptoRow, standIns := [], harness := (true, "47a03ed1565ca0bff0ddf70cf823a2496a9a8457d166fbdcde96256ea75bcf49"), looks := false }, kinds := [], alts := [], laidByText := true, laidKinds := [.data, .data, .data], laidTests := true, laidLooks := .later }
def AssemblySinglesUptoCardSaid : Prop := Claim7.holds Tryz.pinned (.plain (OpenSpec.upto assemblySinglesSpec)) assemblySinglesUptoCard
end Rows
end Go.Proofs.YtnpmkepfpekhfaaGreatDoor
