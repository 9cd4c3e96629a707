/-
  DERIVED. GIVEN WITH THE SEED: THE CARDS: each row of YthehnhaoiijkhaaGreatDoorRows.lean that lists a variable, with what it lists TIED to the program's text (the seventh form; the later family's looks); each row that meets fmt, with fmt's text TOLD by the authors' own Lean function (tested against real Go, not proved from fmt's source: count such statements apart). THE CARD IS WHAT COUNTS. Prove the row's statement (the work); the ties are given (YthehnhaoiijkhaaGreatDoorTie.lean); close each card by the builder's one call (the guide's Derived/Test/ToyasCard.lean, 'card_holds'). Laid BY PROGRAM, IN A SANDBOX (cutbox-door.mjs). By AI agents, Wed Nov 11 2026. No macro, syntax, notation, axiom, sorry.
-/
import Derived.Test.YthehnhaoiijkhaaGreatDoorRows
import GoSem.ClaimSeven
namespace Go.Proofs.YthehnhaoiijkhaaGreatDoor
namespace Rows

/-- THE TIED CARD OF 'umpirelaw12.SearchBoth'. -/
def searchBothCard : Claim7 := { stood := { row := searchBothRow, standIns := [], harness := (true, "81e67fd4d3bd142d930eaa45586bdb8ac6b198972cce1b631dceec920cefaf18"), looks := true }, kinds := [], alts := [], laidByText := true, laidKinds := [.data, .data, .data, .sentinel, .sentinel, .sentinel, .sentinel, .sentinel, .sentinel, .sentinel, .sentinel, .sentinel, .sentinel, .sentinel, .sentinel, .sentinel, .sentinel, .sentinel, .sentinel, .data, .data, .data, .data, .data, .data], laidTests := true, laidLooks := .later }
def SearchBothCardSaid : Prop := Claim7.holds Tryz.pinned (.plain (OpenSpec.ofChange searchBothSpec)) searchBothCard

/-- THE TIED CARD OF 'umpirelaw12.SearchSteps'. -/
def searchStepsCard : Claim7 := { stood := { row := searchStepsRow, standIns := [], harness := (true, "81e67fd4d3bd142d930eaa45586bdb8ac6b198972cce1b631dceec920cefaf18"), looks := true }, kinds := [], alts := [], laidByText := true, laidKinds := [.data, .data, .data, .sentinel, .sentinel, .sentinel, .sentinel, .sentinel, .sentinel, .sentinel, .sentinel, .sentinel, .sentinel, .sentinel, .sentinel, .sentinel, .sentinel, .sentinel, .sentinel, .data, .data, .data, .data, .data, .data], laidTests := true, laidLooks := .later }
def SearchStepsCardSaid : Prop := Claim7.holds Tryz.pinned (.plain (OpenSpec.ofChange searchStepsSpec)) searchStepsCard

/-- THE TIED CARD OF 'umpirelaw12.SearchBudget'. -/
def searchBudgetCard : Claim7 := { stood := { row := searchBudgetRow, standIns := [], harness := (true, "81e67fd4d3bd142d930eaa45586bdb8ac6b198972cce1b631dceec920cefaf18"), looks := true }, kinds := [], alts := [], laidByText := true, laidKinds := [.data, .data, .data, .sentinel, .sentinel, .sentinel, .sentinel, .sentinel, .sentinel, .sentinel, .sentinel, .sentinel, .sentinel, .sentinel, .sentinel, .sentinel, .sentinel, .sentinel, .sentinel, .data, .data, .data, .data, .data, .data], laidTests := true, laidLooks := .later }
def SearchBudgetCardSaid : Prop := Claim7.holds Tryz.pinned (.plain (OpenSpec.ofChange searchBudgetSpec)) searchBudgetCard

/-- THE TIED CARD OF 'umpirelaw12.SearchMany'. -/
def searchManyCard : Claim7 := { stood := { row := searchManyRow, standIns := [], harness := (true, "81e67fd4d3bd142d930eaa45586bdb8ac6b198972cce1b631dceec920cefaf18"), looks := true }, kinds := [], alts := [], laidByText := true, laidKinds := [.data, .data, .data, .sentinel, .sentinel, .sentinel, .sentinel, .sentinel, .sentinel, .sentinel, .sentinel, .sentinel, .sentinel, .sentinel, .sentinel, .sentinel, .sentinel, .sentinel, .sentinel, .data, .data, .data, .data, .data, .data], laidTests := true, laidLooks := .later }
def SearchManyCardSaid : Prop := Claim7.holds Tryz.pinned (.plain (OpenSpec.ofChange searchManySpec)) searchManyCard

/-- THE TIED CARD OF 'umpirelaw12.SearchLevels'. -/
def searchLevelsCard : Claim7 := { stood := { row := searchLevelsRow, standIns := [], harness := (true, "81e67fd4d3bd142d930eaa45586bdb8ac6b198972cce1b631dceec920cefaf18"), looks := true }, kinds := [], alts := [], laidByText := true, laidKinds := [.data, .data, .data, .sentinel, .sentinel, .sentinel, .sentinel, .sentinel, .sentinel, .sentinel, .sentinel, .sentinel, .sentinel, .sentinel, .sentinel, .sentinel, .sentinel, .sentinel, .sentinel, .data, .data, .data, .data, .data, .data], laidTests := true, laidLooks := .later }
def SearchLevelsCardSaid : Prop := Claim7.holds Tryz.pinned (.plain (OpenSpec.ofChange searchLevelsSpec)) searchLevelsCard

/-- THE TIED CARD OF 'umpirelaw14.LevelOrder'. -/
def levelOrderCard : Claim7 := { stood := { row := levelOrderRow, standIns := [], harness := (true, "81e67fd4d3bd142d930eaa45586bdb8ac6b198972cce1b631dceec920cefaf18"), looks := true }, kinds := [], alts := [], laidByText := true, laidKinds := [.data, .data, .data, .sentinel, .sentinel, .sentinel, .sentinel, .sentinel, .sentinel, .sentinel, .sentinel, .sentinel, .sentinel, .sentinel, .sentinel, .sentinel, .sentinel, .sentinel, .data, .data, .data, .data, .data, .data], laidTests := true, laidLooks := .later }
def LevelOrderCardSaid : Prop := Claim7.holds Tryz.pinned (.plain (OpenSpec.ofChange levelOrderSpec)) levelOrderCard

/-- THE TIED CARD OF 'umpirelaw14.LevelFirst'. -/
def levelFirstCard : Claim7 := { stood := { row := levelFirstRow, standIns := [], harness := (true, "81e67fd4d3bd142d930eaa45586bdb8ac6b198972cce1b631dceec920cefaf18"), looks := true }, kinds := [], alts := [], laidByText := true, laidKinds := [.data, .data, .data, .sentinel, .sentinel, .sentinel, .sentinel, .sentinel, .sentinel, .sentinel, .sentinel, .sentinel, .sentinel, .sentinel, .sentinel, .sentinel, .sentinel, .sentinel, .data, .data, .data, .data, .data, .data], laidTests := true, laidLooks := .later }
def LevelFirstCardSaid : Prop := Claim7.holds Tryz.pinned (.plain (OpenSpec.ofChange levelFirstSpec)) levelFirstCard

/-- THE TIED CARD OF 'umpirelaw14.LevelPrefixes'. -/
def levelPrefixesCard : Claim7 := { stood := { row := levelPrefixesRow, standIns := [], harness := (true, "81e67fd4d3bd142d930eaa45586bdb8ac6b198972cce1b631dceec920cefaf18"), looks := true }, kinds := [], alts := [], laidByText := true, laidKinds := [.data, .data, .data, .sentinel, .sentinel, .sentinel, .sentinel, .sentinel, .sentinel, .sentinel, .sentinel, .sentinel, .sentinel, .sentinel, .sentinel, .sentinel, .sentinel, .sentinel, .data, .data, .data, .data, .data, .data], laidTests := true, laidLooks := .later }
def LevelPrefixesCardSaid : Prop := Claim7.holds Tryz.pinned (.plain (OpenSpec.ofChange levelPrefixesSpec)) levelPrefixesCard

/-- THE SECOND FORM's CARD OF 'umpirelaw12.SearchBoth'. -/
def searchBothUptoCard : Claim7 := { stood := { row := searchBothUptoRow, standIns := [], harness := (true, "81e67fd4d3bd142d930eaa45586bdb8ac6b198972cce1b631dceec920cefaf18"), looks := true }, kinds := [], alts := [], laidByText := true, laidKinds := [.data, .data, .data, .sentinel, .sentinel, .sentinel, .sentinel, .sentinel, .sentinel, .sentinel, .sentinel, .sentinel, .sentinel, .sentinel, .sentinel, .sentinel, .sentinel, .sentinel, .sentinel, .data, .data, .data, .data, .data, .data], laidTests := true, laidLooks := .later }
def SearchBothUptoCardSaid : Prop := Claim7.holds Tryz.pinned (.plain (OpenSpec.upto searchBothSpec)) searchBothUptoCard

/-- THE SECOND FORM's CARD OF 'umpirelaw12.SearchSteps'. -/
def searchStepsUptoCard : Claim7 := { stood := { row := searchStepsUptoRow, standIns := [], harness := (true, "81e67fd4d3bd142d930eaa45586bdb8ac6b198972cce1b631dceec920cefaf18"), looks := true }, kinds := [], alts := [], laidByText := true, laidKinds := [.data, .data, .data, .sentinel, .sentinel, .sentinel, .sentinel, .sentinel, .sentinel, .sentinel, .sentinel, .sentinel, .sentinel, .sentinel, .sentinel, .sentinel, .sentinel, .sentinel, .sentinel, .data, .data, .data, .data, .data, .data], laidTests := true, laidLooks := .later }
def SearchStepsUptoCardSaid : Prop := Claim7.holds Tryz.pinned (.plain (OpenSpec.upto searchStepsSpec)) searchStepsUptoCard

/-- THE SECOND FORM's CARD OF 'umpirelaw12.SearchBudget'. -/
def searchBudgetUptoCard : Claim7 := { stood := { row := searchBudgetUptoRow, standIns := [], harness := (true, "81e67fd4d3bd142d930eaa45586bdb8ac6b198972cce1b631dceec920cefaf18"), looks := true }, kinds := [], alts := [], laidByText := true, laidKinds := [.data, .data, .data, .sentinel, .sentinel, .sentinel, .sentinel, .sentinel, .sentinel, .sentinel, .sentinel, .sentinel, .sentinel, .sentinel, .sentinel, .sentinel, .sentinel, .sentinel, .sentinel, .data, .data, .data, .data, .data, .data], laidTests := true, laidLooks := .later }
def SearchBudgetUptoCardSaid : Prop := Claim7.holds Tryz.pinned (.plain (OpenSpec.upto searchBudgetSpec)) searchBudgetUptoCard

/-- THE SECOND FORM's CARD OF 'umpirelaw12.SearchMany'. -/
def searchManyUptoCard : Claim7 := { stood := { row := searchManyUptoRow, standIns := [], harness := (true, "81e67fd4d3bd142d930eaa45586bdb8ac6b198972cce1b631dceec920cefaf18"), looks := true }, kinds := [], alts := [], laidByText := true, laidKinds := [.data, .data, .data, .sentinel, .sentinel, .sentinel, .sentinel, .sentinel, .sentinel, .sentinel, .sentinel, .sentinel, .sentinel, .sentinel, .sentinel, .sentinel, .sentinel, .sentinel, .sentinel, .data, .data, .data, .data, .data, .data], laidTests := true, laidLooks := .later }
def SearchManyUptoCardSaid : Prop := Claim7.holds Tryz.pinned (.plain (OpenSpec.upto searchManySpec)) searchManyUptoCard

/-- THE SECOND FORM's CARD OF 'umpirelaw12.SearchLevels'. -/
def searchLevelsUptoCard : Claim7 := { stood := { row := searchLevelsUptoRow, standIns := [], harness := (true, "81e67fd4d3bd142d930eaa45586bdb8ac6b198972cce1b631dceec920cefaf18"), looks := true }, kinds := [], alts := [], laidByText := true, laidKinds := [.data, .data, .data, .sentinel, .sentinel, .sentinel, .sentinel, .sentinel, .sentinel, .sentinel, .sentinel, .sentinel, .sentinel, .sentinel, .sentinel, .sentinel, .sentinel, .sentinel, .sentinel, .data, .data, .data, .data, .data, .data], laidTests := true, laidLooks := .later }
def SearchLevelsUptoCardSaid : Prop := Claim7.holds Tryz.pinned (.plain (OpenSpec.upto searchLevelsSpec)) searchLevelsUptoCard

/-- THE SECOND FORM's CARD OF 'umpirelaw14.LevelOrder'. -/
def levelOrderUptoCard : Claim7 := { stood := { row := levelOrderUptoRow, standIns := [], harness := (true, "81e67fd4d3bd142d930eaa45586bdb8ac6b198972cce1b631dceec920cefaf18"), looks := true }, kinds := [], alts := [], laidByText := true, laidKinds := [.data, .data, .data, .sentinel, .sentinel, .sentinel, .sentinel, .sentinel, .sentinel, .sentinel, .sentinel, .sentinel, .sentinel, .sentinel, .sentinel, .sentinel, .sentinel, .sentinel, .data, .data, .data, .data, .data, .data], laidTests := true, laidLooks := .later }
def LevelOrderUptoCardSaid : Prop := Claim7.holds Tryz.pinned (.plain (OpenSpec.upto levelOrderSpec)) levelOrderUptoCard

/-- THE SECOND FORM's CARD OF 'umpirelaw14.LevelFirst'. -/
def levelFirstUptoCard : Claim7 := { stood := { row := levelFirstUptoRow, standIns := [], harness := (true, "81e67fd4d3bd142d930eaa45586bdb8ac6b198972cce1b631dceec920cefaf18"), looks := true }, kinds := [], alts := [], laidByText := true, laidKinds := [.data, .data, .data, .sentinel, .sentinel, .sentinel, .sentinel, .sentinel, .sentinel, .sentinel, .sentinel, .sentinel, .sentinel, .sentinel, .sentinel, .sentinel, .sentinel, .sentinel, .data, .data, .data, .data, .data, .data], laidTests := true, laidLooks := .later }
def LevelFirstUptoCardSaid : Prop := Claim7.holds Tryz.pinned (.plain (OpenSpec.upto levelFirstSpec)) levelFirstUptoCard

/-- THE SECOND FORM's CARD OF 'umpirelaw14.LevelPrefixes'. -/
def levelPrefixesUptoCard : Claim7 := { stood := { row := levelPrefixesUptoRow, standIns := [], harness := (true, "81e67fd4d3bd142d930eaa45586bdb8ac6b198972cce1b631dceec920cefaf18"), looks := true }, kinds := [], alts := [], laidByText := true, laidKinds := [.data, .data, .data, .sentinel, .sentinel, .sentinel, .sentinel, .sentinel, .sentinel, .sentinel, .sentinel, .sentinel, .sentinel, .sentinel, .sentinel, .sentinel, .sentinel, .sentinel, .data, .data, .data, .data, .data, .data], laidTests := true, laidLooks := .later }
def LevelPrefixesUptoCardSaid : Prop := Claim7.holds Tryz.pinned (.plain (OpenSpec.upto levelPrefixesSpec)) levelPrefixesUptoCard
end Rows
end Go.Proofs.YthehnhaoiijkhaaGreatDoor
