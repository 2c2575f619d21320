/-
  DERIVED. GIVEN WITH THE SEED: THE CARDS: each row of YtokhodhhaenlfaaGreatDoorRows.lean that lists a variable, with what it lists TIED to the program's text (the seventh form; the later family's looks); each row that meets fmt, with fmt's text TOLD by the authors' own Lean function (tested against real Go, not proved from fmt's source: count such statements apart). THE CARD IS WHAT COUNTS. Prove the row's statement (the work); the ties are given (YtokhodhhaenlfaaGreatDoorTie.lean); close each card by the builder's one call (the guide's Derived/Test/ToyasCard.lean, 'card_holds'). Laid BY PROGRAM, IN A SANDBOX (cutbox-door.mjs). By AI agents, Wed Nov 11 2026. No macro, syntax, notation, axiom, sorry.
-/
import Derived.Test.YtokhodhhaenlfaaGreatDoorRows
import GoSem.ClaimSeven
namespace Go.Proofs.YtokhodhhaenlfaaGreatDoor
namespace Rows

/-- THE TIED CARD OF 'viceroytop.TopSum'. -/
def topSumCard : Claim7 := { stood := { row := topSumRow, standIns := [], harness := (true, "089afbff352f19ebb768c13ab2968438160e4afc8634a6e5076236479dbec2bc"), looks := true }, kinds := [], alts := [], laidByText := true, laidKinds := [.pinned, .data, .sentinel, .sentinel, .data, .data, .data], laidTests := true, laidLooks := .later }
def TopSumCardSaid : Prop := Claim7.holds Tryz.pinned (.plain (OpenSpec.ofChange topSumSpec)) topSumCard

/-- THE SECOND FORM's CARD OF 'viceroytop.TopSum'. -/
def topSumUptoCard : Claim7 := { stood := { row := topSumUptoRow, standIns := [], harness := (true, "089afbff352f19ebb768c13ab2968438160e4afc8634a6e5076236479dbec2bc"), looks := true }, kinds := [], alts := [], laidByText := true, laidKinds := [.pinned, .data, .sentinel, .sentinel, .data, .data, .data], laidTests := true, laidLooks := .later }
def TopSumUptoCardSaid : Prop := Claim7.holds Tryz.pinned (.plain (OpenSpec.upto topSumSpec)) topSumUptoCard
end Rows
end Go.Proofs.YtokhodhhaenlfaaGreatDoor
