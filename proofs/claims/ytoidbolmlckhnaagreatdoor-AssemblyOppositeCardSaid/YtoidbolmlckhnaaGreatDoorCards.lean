/-
  DERIVED. GIVEN WITH THE SEED: THE CARDS: each row of YtoidbolmlckhnaaGreatDoorRows.lean that lists a variable, with what it lists TIED to the program's text (the seventh form; the later family's looks); each row that meets fmt, with fmt's text TOLD by the authors' own Lean function (tested against real Go, not proved from fmt's source: count such statements apart). THE CARD IS WHAT COUNTS. Prove the row's statement (the work); the ties are given (YtoidbolmlckhnaaGreatDoorTie.lean); close each card by the builder's one call (the guide's Derived/Test/ToyasCard.lean, 'card_holds'). Laid BY PROGRAM, IN A SANDBOX (cutbox-door.mjs). By AI agents, Wed Nov 11 2026. No macro, syntax, notation, axiom, sorry.
-/
import Derived.Test.YtoidbolmlckhnaaGreatDoorRows
import GoSem.ClaimSeven
namespace Go.Proofs.YtoidbolmlckhnaaGreatDoor
namespace Rows

/-- THE TIED CARD OF 'spokeshavelaw04.AssemblyOpposite'. -/
def assemblyOppositeCard : Claim7 := { stood := { row := assemblyOppositeRow, standIns := [], harness := (true, "d2271000c25eea9fab71443b489c043f15f5ae40f1f2f6fd2cd72fb1dfd2adfd"), looks := false }, kinds := [], alts := [], laidByText := true, laidKinds := [.data, .data, .data], laidTests := true, laidLooks := .later }
def AssemblyOppositeCardSaid : Prop := Claim7.holds Tryz.pinned (.plain (OpenSpec.ofChange assemblyOppositeSpec)) assemblyOppositeCard

/-- THE TIED CARD OF 'spokeshavelaw04.AssemblyFirst'. -/
def assemblyFirstCard : Claim7 := { stood := { row := assemblyFirstRow, standIns := [], harness := (true, "d2271000c25eea9fab71443b489c043f15f5ae40f1f2f6fd2cd72fb1dfd2adfd"), looks := false }, kinds := [], alts := [], laidByText := true, laidKinds := [.data, .data, .data], laidTests := true, laidLooks := .later }
def AssemblyFirstCardSaid : Prop := Claim7.holds Tryz.pinned (.plain (OpenSpec.ofChange assemblyFirstSpec)) assemblyFirstCard

/-- THE TIED CARD OF 'spokeshavelaw04.AssemblyFree'. -/
def assemblyFreeCard : Claim7 := { stood := { row := assemblyFreeRow, standIns := [], harness := (true, "d2271000c25eea9fab71443b489c043f15f5ae40f1f2f6fd2cd72fb1dfd2adfd"), looks := false }, kinds := [], alts := [], laidByText := true, laidKinds := [.data, .data, .data], laidTests := true, laidLooks := .later }
def AssemblyFreeCardSaid : Prop := Claim7.holds Tryz.pinned (.plain (OpenSpec.ofChange assemblyFreeSpec)) assemblyFreeCard

/-- THE TIED CARD OF 'spokeshavelaw04.AssemblySets'. -/
def assemblySetsCard : Claim7 := { stood := { row := assemblySetsRow, standIns := [], harness := (true, "d2271000c25eea9fab71443b489c043f15f5ae40f1f2f6fd2cd72fb1dfd2adfd"), looks := false }, kinds := [], alts := [], laidByText := true, laidKinds := [.data, .data, .data], laidTests := true, laidLooks := .later }
def AssemblySetsCardSaid : Prop := Claim7.holds Tryz.pinned (.plain (OpenSpec.ofChange assemblySetsSpec)) assemblySetsCard

/-- THE TIED CARD OF 'spokeshavelaw04.AssemblyGraphs'. -/
def assemblyGraphsCard : Claim7 := { stood := { row := assemblyGraphsRow, standIns := [], harness := (true, "d2271000c25eea9fab71443b489c043f15f5ae40f1f2f6fd2cd72fb1dfd2adfd"), looks := false }, kinds := [], alts := [], laidByText := true, laidKinds := [.data, .data, .data], laidTests := true, laidLooks := .later }
def AssemblyGraphsCardSaid : Prop := Claim7.holds Tryz.pinned (.plain (OpenSpec.ofChange assemblyGraphsSpec)) assemblyGraphsCard

/-- THE SECOND FORM's CARD OF 'spokeshavelaw04.AssemblyOpposite'. -/
def assemblyOppositeUptoCard : Claim7 := { stood := { row := assemblyOppositeUptoRow, standIns := [], harness := (true, "d2271000c25eea9fab71443b489c043f15f5ae40f1f2f6fd2cd72fb1dfd2adfd"), looks := false }, kinds := [], alts := [], laidByText := true, laidKinds := [.data, .data, .data], laidTests := true, laidLooks := .later }
def AssemblyOppositeUptoCardSaid : Prop := Claim7.holds Tryz.pinned (.plain (OpenSpec.upto assemblyOppositeSpec)) assemblyOppositeUptoCard

/-- THE SECOND FORM's CARD OF 'spokeshavelaw04.AssemblyFirst'. -/
def assemblyFirstUptoCard : Claim7 := { stood := { row := assemblyFirstUptoRow, standIns := [], harness := (true, "d2271000c25eea9fab71443b489c043f15f5ae40f1f2f6fd2cd72fb1dfd2adfd"), looks := false }, kinds := [], alts := [], laidByText := true, laidKinds := [.data, .data, .data], laidTests := true, laidLooks := .later }
def AssemblyFirstUptoCardSaid : Prop := Claim7.holds Tryz.pinned (.plain (OpenSpec.upto assemblyFirstSpec)) assemblyFirstUptoCard

/-- THE SECOND FORM's CARD OF 'spokeshavelaw04.AssemblyFree'. -/
def assemblyFreeUptoCard : Claim7 := { stood := { row := assemblyFreeUptoRow, standIns := [], harness := (true, "d2271000c25eea9fab71443b489c043f15f5ae40f1f2f6fd2cd72fb1dfd2adfd"), looks := false }, kinds := [], alts := [], laidByText := true, laidKinds := [.data, .data, .data], laidTests := true, laidLooks := .later }
def AssemblyFreeUptoCardSaid : Prop := Claim7.holds Tryz.pinned (.plain (OpenSpec.upto assemblyFreeSpec)) assemblyFreeUptoCard

/-- THE SECOND FORM's CARD OF 'spokeshavelaw04.AssemblySets'. -/
def assemblySetsUptoCard : Claim7 := { stood := { row := assemblySetsUptoRow, standIns := [], harness := (true, "d2271000c25eea9fab71443b489c043f15f5ae40f1f2f6fd2cd72fb1dfd2adfd"), looks := false }, kinds := [], alts := [], laidByText := true, laidKinds := [.data, .data, .data], laidTests := true, laidLooks := .later }
def AssemblySetsUptoCardSaid : Prop := Claim7.holds Tryz.pinned (.plain (OpenSpec.upto assemblySetsSpec)) assemblySetsUptoCard

/-- THE SECOND FORM's CARD OF 'spokeshavelaw04.AssemblyGraphs'. -/
def assemblyGraphsUptoCard : Claim7 := { stood := { row := assemblyGraphsUptoRow, standIns := [], harness := (true, "d2271000c25eea9fab71443b489c043f15f5ae40f1f2f6fd2cd72fb1dfd2adfd"), looks := false }, kinds := [], alts := [], laidByText := true, laidKinds := [.data, .data, .data], laidTests := true, laidLooks := .later }
def AssemblyGraphsUptoCardSaid : Prop := Claim7.holds Tryz.pinned (.plain (OpenSpec.upto assemblyGraphsSpec)) assemblyGraphsUptoCard
end Rows
end Go.Proofs.YtoidbolmlckhnaaGreatDoor
