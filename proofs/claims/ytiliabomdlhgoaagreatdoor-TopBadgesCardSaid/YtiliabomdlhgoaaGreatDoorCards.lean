/-
  DERIVED. GIVEN WITH THE SEED: THE CARDS: each row of YtiliabomdlhgoaaGreatDoorRows.lean that lists a variable, with what it lists TIED to the program's text (the seventh form; the later family's looks); each row that meets fmt, with fmt's text TOLD by the authors' own Lean function (tested against real Go, not proved from fmt's source: count such statements apart). THE CARD IS WHAT COUNTS. Prove the row's statement (the work); the ties are given (YtiliabomdlhgoaaGreatDoorTie.lean); close each card by the builder's one call (the guide's Derived/Test/ToyasCard.lean, 'card_holds'). Laid BY PROGRAM, IN A SANDBOX (cutbox-door.mjs). By AI agents, Wed Nov 11 2026. No macro, syntax, notation, axiom, sorry.
-/
import Derived.Test.YtiliabomdlhgoaaGreatDoorRows
import GoSem.ClaimSeven
namespace Go.Proofs.YtiliabomdlhgoaaGreatDoor
namespace Rows

/-- THE TIED CARD OF 'viceroytop.TopWords'. -/
def topWordsCard : Claim7 := { stood := { row := topWordsRow, standIns := [], harness := (true, "7ff96aca1bcaf4e2356103fd5b38b2007d1f4e7c71a90699433036e83b8e6fdc"), looks := true }, kinds := [], alts := [], laidByText := true, laidKinds := [.pinned, .data, .sentinel, .sentinel, .data, .data, .data], laidTests := true, laidLooks := .later }
def TopWordsCardSaid : Prop := Claim7.holds Tryz.pinned (.plain (OpenSpec.ofChange topWordsSpec)) topWordsCard

/-- THE TIED CARD OF 'viceroytop.TopBadges'. -/
def topBadgesCard : Claim7 := { stood := { row := topBadgesRow, standIns := [], harness := (true, "7ff96aca1bcaf4e2356103fd5b38b2007d1f4e7c71a90699433036e83b8e6fdc"), looks := true }, kinds := [], alts := [], laidByText := true, laidKinds := [.pinned, .data, .sentinel, .sentinel, .data, .data, .data], laidTests := true, laidLooks := .later }
def TopBadgesCardSaid : Prop := Claim7.holds Tryz.pinned (.plain (OpenSpec.ofChange topBadgesSpec)) topBadgesCard

/-- THE SECOND FORM's CARD OF 'viceroytop.TopWords'. -/
def topWordsUptoCard : Claim7 := { stood := { row := topWordsUptoRow, standIns := [], harness := (true, "7ff96aca1bcaf4e2356103fd5b38b2007d1f4e7c71a90699433036e83b8e6fdc"), looks := true }, kinds := [], alts := [], laidByText := true, laidKinds := [.pinned, .data, .sentinel, .sentinel, .data, .data, .data], laidTests := true, laidLooks := .later }
def TopWordsUptoCardSaid : Prop := Claim7.holds Tryz.pinned (.plain (OpenSpec.upto topWordsSpec)) topWordsUptoCard

/-- THE SECOND FORM's CARD OF 'viceroytop.TopBadges'. -/
def topBadgesUptoCard : Claim7 := { stood := { row := topBadgesUptoRow, standIns := [], harness := (true, "7ff96aca1bcaf4e2356103fd5b38b2007d1f4e7c71a90699433036e83b8e6fdc"), looks := true }, kinds := [], alts := [], laidByText := true, laidKinds := [.pinned, .data, .sentinel, .sentinel, .data, .data, .data], laidTests := true, laidLooks := .later }
def TopBadgesUptoCardSaid : Prop := Claim7.holds Tryz.pinned (.plain (OpenSpec.upto topBadgesSpec)) topBadgesUptoCard
end Rows
end Go.Proofs.YtiliabomdlhgoaaGreatDoor
