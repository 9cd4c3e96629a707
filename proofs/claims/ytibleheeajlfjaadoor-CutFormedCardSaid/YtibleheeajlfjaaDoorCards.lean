/-
  DERIVED. GIVEN WITH THE SEED: THE CARDS: each row of YtibleheeajlfjaaDoorRows.lean that lists a variable, with what it lists TIED to the program's text (the seventh form; the later family's looks); each row that meets fmt, with fmt's text TOLD by the authors' own Lean function (tested against real Go, not proved from fmt's source: count such statements apart). THE CARD IS WHAT COUNTS. Prove the row's statement (the work); the ties are given (YtibleheeajlfjaaDoorTie.lean); close each card by the builder's one call (the guide's Derived/Test/ToyasCard.lean, 'card_holds'). Laid BY PROGRAM, IN A SANDBOX (cutbox-door.mjs). By AI agents, Wed Nov 11 2026. No macro, syntax, notation, axiom, sorry.
-/
import Derived.Test.YtibleheeajlfjaaDoorRows
import GoSem.ClaimSeven
namespace Go.Proofs.YtibleheeajlfjaaDoor
namespace Rows

/-- THE TIED CARD OF 'umpirelaw5.CutMakes'. -/
def cutMakesCard : Claim7 := { stood := { row := cutMakesRow, standIns := [], harness := (true, "167c53bdf014e3606227038426706ef95a811ac53321cf7832de0e18bc514c3d"), looks := true }, kinds := [], alts := [], laidByText := true, laidKinds := [.sentinel, .sentinel, .sentinel, .sentinel, .sentinel, .sentinel, .sentinel, .sentinel, .sentinel, .sentinel, .sentinel, .data, .data, .data, .data, .data, .data], laidTests := true, laidLooks := .later }
def CutMakesCardSaid : Prop := Claim7.holds Tryd.pinned (.plain (OpenSpec.ofChange cutMakesSpec)) cutMakesCard

/-- THE TIED CARD OF 'umpirelaw5.CutLess'. -/
def cutLessCard : Claim7 := { stood := { row := cutLessRow, standIns := [], harness := (true, "167c53bdf014e3606227038426706ef95a811ac53321cf7832de0e18bc514c3d"), looks := true }, kinds := [], alts := [], laidByText := true, laidKinds := [.sentinel, .sentinel, .sentinel, .sentinel, .sentinel, .sentinel, .sentinel, .sentinel, .sentinel, .sentinel, .sentinel, .data, .data, .data, .data, .data, .data], laidTests := true, laidLooks := .later }
def CutLessCardSaid : Prop := Claim7.holds Tryd.pinned (.plain (OpenSpec.ofChange cutLessSpec)) cutLessCard

/-- THE TIED CARD OF 'umpirelaw5.CutOwn'. -/
def cutOwnCard : Claim7 := { stood := { row := cutOwnRow, standIns := [], harness := (true, "167c53bdf014e3606227038426706ef95a811ac53321cf7832de0e18bc514c3d"), looks := true }, kinds := [], alts := [], laidByText := true, laidKinds := [.sentinel, .sentinel, .sentinel, .sentinel, .sentinel, .sentinel, .sentinel, .sentinel, .sentinel, .sentinel, .sentinel, .data, .data, .data, .data, .data, .data], laidTests := true, laidLooks := .later }
def CutOwnCardSaid : Prop := Claim7.holds Tryd.pinned (.plain (OpenSpec.ofChange cutOwnSpec)) cutOwnCard

/-- THE TIED CARD OF 'umpirelaw5.CutEach'. -/
def cutEachCard : Claim7 := { stood := { row := cutEachRow, standIns := [], harness := (true, "167c53bdf014e3606227038426706ef95a811ac53321cf7832de0e18bc514c3d"), looks := true }, kinds := [], alts := [], laidByText := true, laidKinds := [.sentinel, .sentinel, .sentinel, .sentinel, .sentinel, .sentinel, .sentinel, .sentinel, .sentinel, .sentinel, .sentinel, .data, .data, .data, .data, .data, .data], laidTests := true, laidLooks := .later }
def CutEachCardSaid : Prop := Claim7.holds Tryd.pinned (.plain (OpenSpec.ofChange cutEachSpec)) cutEachCard

/-- THE TIED CARD OF 'umpirelaw5.CutFormed'. -/
def cutFormedCard : Claim7 := { stood := { row := cutFormedRow, standIns := [], harness := (true, "167c53bdf014e3606227038426706ef95a811ac53321cf7832de0e18bc514c3d"), looks := true }, kinds := [], alts := [], laidByText := true, laidKinds := [.sentinel, .sentinel, .sentinel, .sentinel, .sentinel, .sentinel, .sentinel, .sentinel, .sentinel, .sentinel, .sentinel, .data, .data, .data, .data, .data, .data], laidTests := true, laidLooks := .later }
def CutFormedCardSaid : Prop := Claim7.holds Tryd.pinned (.plain (OpenSpec.ofChange cutFormedSpec)) cutFormedCard

/-- THE SECOND FORM's CARD OF 'umpirelaw5.CutMakes'. -/
def cutMakesUptoCard : Claim7 := { stood := { row := cutMakesUptoRow, standIns := [], harness := (true, "167c53bdf014e3606227038426706ef95a811ac53321cf7832de0e18bc514c3d"), looks := true }, kinds := [], alts := [], laidByText := true, laidKinds := [.sentinel, .sentinel, .sentinel, .sentinel, .sentinel, .sentinel, .sentinel, .sentinel, .sentinel, .sentinel, .sentinel, .data, .data, .data, .data, .data, .data], laidTests := true, laidLooks := .later }
def CutMakesUptoCardSaid : Prop := Claim7.holds Tryd.pinned (.plain (OpenSpec.upto cutMakesSpec)) cutMakesUptoCard

/-- THE SECOND FORM's CARD OF 'umpirelaw5.CutLess'. -/
def cutLessUptoCard : Claim7 := { stood := { row := cutLessUptoRow, standIns := [], harness := (true, "167c53bdf014e3606227038426706ef95a811ac53321cf7832de0e18bc514c3d"), looks := true }, kinds := [], alts := [], laidByText := true, laidKinds := [.sentinel, .sentinel, .sentinel, .sentinel, .sentinel, .sentinel, .sentinel, .sentinel, .sentinel, .sentinel, .sentinel, .data, .data, .data, .data, .data, .data], laidTests := true, laidLooks := .later }
def CutLessUptoCardSaid : Prop := Claim7.holds Tryd.pinned (.plain (OpenSpec.upto cutLessSpec)) cutLessUptoCard

/-- THE SECOND FORM's CARD OF 'umpirelaw5.CutOwn'. -/
def cutOwnUptoCard : Claim7 := { stood := { row := cutOwnUptoRow, standIns := [], harness := (true, "167c53bdf014e3606227038426706ef95a811ac53321cf7832de0e18bc514c3d"), looks := true }, kinds := [], alts := [], laidByText := true, laidKinds := [.sentinel, .sentinel, .sentinel, .sentinel, .sentinel, .sentinel, .sentinel, .sentinel, .sentinel, .sentinel, .sentinel, .data, .data, .data, .data, .data, .data], laidTests := true, laidLooks := .later }
def CutOwnUptoCardSaid : Prop := Claim7.holds Tryd.pinned (.plain (OpenSpec.upto cutOwnSpec)) cutOwnUptoCard

/-- THE SECOND FORM's CARD OF 'umpirelaw5.CutEach'. -/
def cutEachUptoCard : Claim7 := { stood := { row := cutEachUptoRow, standIns := [], harness := (true, "167c53bdf014e3606227038426706ef95a811ac53321cf7832de0e18bc514c3d"), looks := true }, kinds := [], alts := [], laidByText := true, laidKinds := [.sentinel, .sentinel, .sentinel, .sentinel, .sentinel, .sentinel, .sentinel, .sentinel, .sentinel, .sentinel, .sentinel, .data, .data, .data, .data, .data, .data], laidTests := true, laidLooks := .later }
def CutEachUptoCardSaid : Prop := Claim7.holds Tryd.pinned (.plain (OpenSpec.upto cutEachSpec)) cutEachUptoCard

/-- THE SECOND FORM's CARD OF 'umpirelaw5.CutFormed'. -/
def cutFormedUptoCard : Claim7 := { stood := { row := cutFormedUptoRow, standIns := [], harness := (true, "167c53bdf014e3606227038426706ef95a811ac53321cf7832de0e18bc514c3d"), looks := true }, kinds := [], alts := [], laidByText := true, laidKinds := [.sentinel, .sentinel, .sentinel, .sentinel, .sentinel, .sentinel, .sentinel, .sentinel, .sentinel, .sentinel, .sentinel, .data, .data, .data, .data, .data, .data], laidTests := true, laidLooks := .later }
def CutFormedUptoCardSaid : Prop := Claim7.holds Tryd.pinned (.plain (OpenSpec.upto cutFormedSpec)) cutFormedUptoCard
end Rows
end Go.Proofs.YtibleheeajlfjaaDoor
