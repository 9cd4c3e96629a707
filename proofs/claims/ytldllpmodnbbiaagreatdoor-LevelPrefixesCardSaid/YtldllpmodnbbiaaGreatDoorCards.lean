/-
  DERIVED. GIVEN WITH THE SEED: THE CARDS: each row of YtldllpmodnbbiaaGreatDoorRows.lean that lists a variable, with what it lists TIED to the program's text (the seventh form; the later family's looks); each row that meets fmt, with fmt's text TOLD by the authors' own Lean function (tested against real Go, not proved from fmt's source: count such statements apart). THE CARD IS WHAT COUNTS. Prove the row's statement (the work); the ties are given (YtldllpmodnbbiaaGreatDoorTie.lean); close each card by the builder's one call (the guide's Derived/Test/ToyasCard.lean, 'card_holds'). Laid BY PROGRAM, IN A SANDBOX (cutbox-door.mjs). By AI agents, Wed Nov 11 2026. No macro, syntax, notation, axiom, sorry.
-/
import Derived.Test.YtldllpmodnbbiaaGreatDoorRows
import GoSem.ClaimSeven
namespace Go.Proofs.YtldllpmodnbbiaaGreatDoor
namespace Rows

/-- THE TIED CARD OF 'umpirelaw14.LevelPrefixes'. -/
def levelPrefixesCard : Claim7 := { stood := { row := levelPrefixesRow, standIns := [], harness := (true, "abafe1297059b542adb6abcd817281c2e25cc205940e10f6ca5f5918876d837a"), looks := true }, kinds := [], alts := [], laidByText := true, laidKinds := [.data, .data, .data, .sentinel, .sentinel, .sentinel, .sentinel, .sentinel, .sentinel, .sentinel, .sentinel, .sentinel, .sentinel, .sentinel, .sentinel, .sentinel, .sentinel, .sentinel, .data, .data, .data, .data, .data, .data], laidTests := true, laidLooks := .later }
def LevelPrefixesCardSaid : Prop := Claim7.holds Tryz.pinned (.plain (OpenSpec.ofChange levelPrefixesSpec)) levelPrefixesCard

/-- THE SECOND FORM's CARD OF 'umpirelaw14.LevelPrefixes'. -/
def levelPrefixesUptoCard : Claim7 := { stood := { row := levelPrefixesUptoRow, standIns := [], harness := (true, "abafe1297059b542adb6abcd817281c2e25cc205940e10f6ca5f5918876d837a"), looks := true }, kinds := [], alts := [], laidByText := true, laidKinds := [.data, .data, .data, .sentinel, .sentinel, .sentinel, .sentinel, .sentinel, .sentinel, .sentinel, .sentinel, .sentinel, .sentinel, .sentinel, .sentinel, .sentinel, .sentinel, .sentinel, .data, .data, .data, .data, .data, .data], laidTests := true, laidLooks := .later }
def LevelPrefixesUptoCardSaid : Prop := Claim7.holds Tryz.pinned (.plain (OpenSpec.upto levelPrefixesSpec)) levelPrefixesUptoCard
end Rows
end Go.Proofs.YtldllpmodnbbiaaGreatDoor
