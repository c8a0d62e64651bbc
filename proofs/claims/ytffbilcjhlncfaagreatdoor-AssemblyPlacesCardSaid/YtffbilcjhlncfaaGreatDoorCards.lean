/-
  DERIVED. GIVEN WITH THE SEED: THE CARDS: each row of YtffbilcjhlncfaaGreatDoorRows.lean that lists a variable, with what it lists TIED to the program's text (the seventh form; the later family's looks); each row that meets fmt, with fmt's text TOLD by the authors' own Lean function (tested against real Go, not proved from fmt's source: count such statements apart). THE CARD IS WHAT COUNTS. Prove the row's statement (the work); the ties are given (YtffbilcjhlncfaaGreatDoorTie.lean); close each card by the builder's one call (the guide's Derived/Test/ToyasCard.lean, 'card_holds'). Laid BY PROGRAM, IN A SANDBOX (cutbox-door.mjs). By AI agents, Wed Nov 11 2026. No macro, syntax, notation, axiom, sorry.
-/
import Derived.Test.YtffbilcjhlncfaaGreatDoorRows
import GoSem.ClaimSeven
namespace Go.Proofs.YtffbilcjhlncfaaGreatDoor
namespace Rows

/-- THE TIED CARD OF 'spokeshavelaw04.AssemblyDepths'. -/
def assemblyDepthsCard : Claim7 := { stood := { row := assemblyDepthsRow, standIns := [], harness := (true, "7f6c2670383848283c72da0bf95f641bb90229b80f9c407a242557ede20f31d5"), looks := true }, kinds := [], alts := [], laidByText := true, laidKinds := [.data, .data, .data], laidTests := true, laidLooks := .later }
def AssemblyDepthsCardSaid : Prop := Claim7.holds Tryz.pinned (.plain (OpenSpec.ofChange assemblyDepthsSpec)) assemblyDepthsCard

/-- THE TIED CARD OF 'spokeshavelaw04.AssemblyPlaces'. -/
def assemblyPlacesCard : Claim7 := { stood := { row := assemblyPlacesRow, standIns := [], harness := (true, "7f6c2670383848283c72da0bf95f641bb90229b80f9c407a242557ede20f31d5"), looks := true }, kinds := [], alts := [], laidByText := true, laidKinds := [.data, .data, .data], laidTests := true, laidLooks := .later }
def AssemblyPlacesCardSaid : Prop := Claim7.holds Tryz.pinned (.plain (OpenSpec.ofChange assemblyPlacesSpec)) assemblyPlacesCard

/-- THE TIED CARD OF 'spokeshavelaw04.AssemblyPlans'. -/
def assemblyPlansCard : Claim7 := { stood := { row := assemblyPlansRow, standIns := [], harness := (true, "7f6c2670383848283c72da0bf95f641bb90229b80f9c407a242557ede20f31d5"), looks := true }, kinds := [], alts := [], laidByText := true, laidKinds := [.data, .data, .data], laidTests := true, laidLooks := .later }
def AssemblyPlansCardSaid : Prop := Claim7.holds Tryz.pinned (.plain (OpenSpec.ofChange assemblyPlansSpec)) assemblyPlansCard

/-- THE TIED CARD OF 'spokeshavelaw04.AssemblyTexts'. -/
def assemblyTextsCard : Claim7 := { stood := { row := assemblyTextsRow, standIns := [], harness := (true, "7f6c2670383848283c72da0bf95f641bb90229b80f9c407a242557ede20f31d5"), looks := true }, kinds := [], alts := [], laidByText := true, laidKinds := [.data, .data, .data, .data, .sentinel, .sentinel, .pinned], laidTests := true, laidLooks := .later }
def AssemblyTextsCardSaid : Prop := Claim7.holds Tryz.pinned (.plain (OpenSpec.ofChange assemblyTextsSpec)) assemblyTextsCard

/-- THE SECOND FORM's CARD OF 'spokeshavelaw04.AssemblyDepths'. -/
def assemblyDepthsUptoCard : Claim7 := { stood := { row := assemblyDepthsUptoRow, standIns := [], harness := (true, "7f6c2670383848283c72da0bf95f641bb90229b80f9c407a242557ede20f31d5"), looks := true }, kinds := [], alts := [], laidByText := true, laidKinds := [.data, .data, .data], laidTests := true, laidLooks := .later }
def AssemblyDepthsUptoCardSaid : Prop := Claim7.holds Tryz.pinned (.plain (OpenSpec.upto assemblyDepthsSpec)) assemblyDepthsUptoCard

/-- THE SECOND FORM's CARD OF 'spokeshavelaw04.AssemblyPlaces'. -/
def assemblyPlacesUptoCard : Claim7 := { stood := { row := assemblyPlacesUptoRow, standIns := [], harness := (true, "7f6c2670383848283c72da0bf95f641bb90229b80f9c407a242557ede20f31d5"), looks := true }, kinds := [], alts := [], laidByText := true, laidKinds := [.data, .data, .data], laidTests := true, laidLooks := .later }
def AssemblyPlacesUptoCardSaid : Prop := Claim7.holds Tryz.pinned (.plain (OpenSpec.upto assemblyPlacesSpec)) assemblyPlacesUptoCard

/-- THE SECOND FORM's CARD OF 'spokeshavelaw04.AssemblyPlans'. -/
def assemblyPlansUptoCard : Claim7 := { stood := { row := assemblyPlansUptoRow, standIns := [], harness := (true, "7f6c2670383848283c72da0bf95f641bb90229b80f9c407a242557ede20f31d5"), looks := true }, kinds := [], alts := [], laidByText := true, laidKinds := [.data, .data, .data], laidTests := true, laidLooks := .later }
def AssemblyPlansUptoCardSaid : Prop := Claim7.holds Tryz.pinned (.plain (OpenSpec.upto assemblyPlansSpec)) assemblyPlansUptoCard

/-- THE SECOND FORM's CARD OF 'spokeshavelaw04.AssemblyTexts'. -/
def assemblyTextsUptoCard : Claim7 := { stood := { row := assemblyTextsUptoRow, standIns := [], harness := (true, "7f6c2670383848283c72da0bf95f641bb90229b80f9c407a242557ede20f31d5"), looks := true }, kinds := [], alts := [], laidByText := true, laidKinds := [.data, .data, .data, .data, .sentinel, .sentinel, .pinned], laidTests := true, laidLooks := .later }
def AssemblyTextsUptoCardSaid : Prop := Claim7.holds Tryz.pinned (.plain (OpenSpec.upto assemblyTextsSpec)) assemblyTextsUptoCard
end Rows
end Go.Proofs.YtffbilcjhlncfaaGreatDoor
