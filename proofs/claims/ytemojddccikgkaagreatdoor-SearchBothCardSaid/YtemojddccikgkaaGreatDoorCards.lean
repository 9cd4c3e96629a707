/-
  DERIVED. GIVEN WITH THE SEED: THE CARDS: each row of YtemojddccikgkaaGreatDoorRows.lean that lists a variable, with what it lists TIED to the program's text (the seventh form; the later family's looks); each row that meets fmt, with fmt's text TOLD by the authors' own Lean function (tested against real Go, not proved from fmt's source: count such statements apart). THE CARD IS WHAT COUNTS. Prove the row's statement (the work); the ties are given (YtemojddccikgkaaGreatDoorTie.lean); close each card by the builder's one call (the guide's Derived/Test/ToyasCard.lean, 'card_holds'). Laid BY PROGRAM, IN A SANDBOX (cutbox-door.mjs). By AI agents, Wed Nov 11 2026. No macro, syntax, notation, axiom, sorry.
-/
import Derived.Test.YtemojddccikgkaaGreatDoorRows
import GoSem.ClaimSeven
namespace Go.Proofs.YtemojddccikgkaaGreatDoor
namespace Rows

/-- THE TIED CARD OF 'umpirelaw12.SearchBoth'. -/
def searchBothCard : Claim7 := { stood := { row := searchBothRow, standIns := [], harness := (true, "bd975b549111a364b021e1a91c87e7946101de97d90db3b839ffa61e58e4edb5"), looks := true }, kinds := [], alts := [], laidByText := true, laidKinds := [.data, .data, .data, .sentinel, .sentinel, .sentinel, .sentinel, .sentinel, .sentinel, .sentinel, .sentinel, .sentinel, .sentinel, .sentinel, .sentinel, .sentinel, .sentinel, .sentinel, .sentinel, .data, .data, .data, .data, .data, .data], laidTests := true, laidLooks := .later }
def SearchBothCardSaid : Prop := Claim7.holds Tryz.pinned (.plain (OpenSpec.ofChange searchBothSpec)) searchBothCard

/-- THE SECOND FORM's CARD OF 'umpirelaw12.SearchBoth'. -/
def searchBothUptoCard : Claim7 := { stood := { row := searchBothUptoRow, standIns := [], harness := (true, "bd975b549111a364b021e1a91c87e7946101de97d90db3b839ffa61e58e4edb5"), looks := true }, kinds := [], alts := [], laidByText := true, laidKinds := [.data, .data, .data, .sentinel, .sentinel, .sentinel, .sentinel, .sentinel, .sentinel, .sentinel, .sentinel, .sentinel, .sentinel, .sentinel, .sentinel, .sentinel, .sentinel, .sentinel, .sentinel, .data, .data, .data, .data, .data, .data], laidTests := true, laidLooks := .later }
def SearchBothUptoCardSaid : Prop := Claim7.holds Tryz.pinned (.plain (OpenSpec.upto searchBothSpec)) searchBothUptoCard
end Rows
end Go.Proofs.YtemojddccikgkaaGreatDoor
