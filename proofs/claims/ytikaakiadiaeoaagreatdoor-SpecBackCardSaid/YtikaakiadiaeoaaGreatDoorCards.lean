/-
  DERIVED. GIVEN WITH THE SEED: THE CARDS: each row of YtikaakiadiaeoaaGreatDoorRows.lean that lists a variable, with what it lists TIED to the program's text (the seventh form; the later family's looks); each row that meets fmt, with fmt's text TOLD by the authors' own Lean function (tested against real Go, not proved from fmt's source: count such statements apart). THE CARD IS WHAT COUNTS. Prove the row's statement (the work); the ties are given (YtikaakiadiaeoaaGreatDoorTie.lean); close each card by the builder's one call (the guide's Derived/Test/ToyasCard.lean, 'card_holds'). Laid BY PROGRAM, IN A SANDBOX (cutbox-door.mjs). By AI agents, Wed Nov 11 2026. No macro, syntax, notation, axiom, sorry.
-/
import Derived.Test.YtikaakiadiaeoaaGreatDoorRows
import GoSem.ClaimSeven
namespace Go.Proofs.YtikaakiadiaeoaaGreatDoor
namespace Rows

/-- THE TIED CARD OF 'umpirelaw7.StoreLists'. -/
def storeListsCard : Claim7 := { stood := { row := storeListsRow, standIns := [], harness := (true, "4a60ae6fac43e9984ca8293a95a0ce4093e80da91277938538b84fd690e406b6"), looks := true }, kinds := [], alts := [], laidByText := true, laidKinds := [.data, .data, .data, .sentinel, .sentinel, .sentinel, .sentinel, .sentinel, .data, .data, .data, .data, .data, .data], laidTests := true, laidLooks := .later }
def StoreListsCardSaid : Prop := Claim7.holds Tryz.pinned (.plain (OpenSpec.ofChange storeListsSpec)) storeListsCard

/-- THE TIED CARD OF 'umpirelaw7.StoreOwn'. -/
def storeOwnCard : Claim7 := { stood := { row := storeOwnRow, standIns := [], harness := (true, "4a60ae6fac43e9984ca8293a95a0ce4093e80da91277938538b84fd690e406b6"), looks := true }, kinds := [], alts := [], laidByText := true, laidKinds := [.data, .data, .data, .sentinel, .sentinel, .sentinel, .sentinel, .sentinel, .data, .data, .data, .data, .data, .data], laidTests := true, laidLooks := .later }
def StoreOwnCardSaid : Prop := Claim7.holds Tryz.pinned (.plain (OpenSpec.ofChange storeOwnSpec)) storeOwnCard

/-- THE TIED CARD OF 'umpirelaw7.StoreApart'. -/
def storeApartCard : Claim7 := { stood := { row := storeApartRow, standIns := [], harness := (true, "4a60ae6fac43e9984ca8293a95a0ce4093e80da91277938538b84fd690e406b6"), looks := true }, kinds := [], alts := [], laidByText := true, laidKinds := [.data, .data, .data, .sentinel, .sentinel, .sentinel, .sentinel, .sentinel, .data, .data, .data, .data, .data, .data], laidTests := true, laidLooks := .later }
def StoreApartCardSaid : Prop := Claim7.holds Tryz.pinned (.plain (OpenSpec.ofChange storeApartSpec)) storeApartCard

/-- THE TIED CARD OF 'umpirelaw7.StoreKeys'. -/
def storeKeysCard : Claim7 := { stood := { row := storeKeysRow, standIns := [], harness := (true, "4a60ae6fac43e9984ca8293a95a0ce4093e80da91277938538b84fd690e406b6"), looks := true }, kinds := [], alts := [], laidByText := true, laidKinds := [.data, .data, .data, .sentinel, .sentinel, .sentinel, .sentinel, .sentinel, .data, .data, .data, .data, .data, .data], laidTests := true, laidLooks := .later }
def StoreKeysCardSaid : Prop := Claim7.holds Tryz.pinned (.plain (OpenSpec.ofChange storeKeysSpec)) storeKeysCard

/-- THE TIED CARD OF 'umpirelaw7.StoreAsks'. -/
def storeAsksCard : Claim7 := { stood := { row := storeAsksRow, standIns := [], harness := (true, "4a60ae6fac43e9984ca8293a95a0ce4093e80da91277938538b84fd690e406b6"), looks := true }, kinds := [], alts := [], laidByText := true, laidKinds := [.data, .data, .data, .sentinel, .sentinel, .sentinel, .sentinel, .sentinel, .data, .data, .data, .data, .data, .data], laidTests := true, laidLooks := .later }
def StoreAsksCardSaid : Prop := Claim7.holds Tryz.pinned (.plain (OpenSpec.ofChange storeAsksSpec)) storeAsksCard

/-- THE TIED CARD OF 'umpirelaw6.SpecLast'. -/
def specLastCard : Claim7 := { stood := { row := specLastRow, standIns := [], harness := (true, "4a60ae6fac43e9984ca8293a95a0ce4093e80da91277938538b84fd690e406b6"), looks := true }, kinds := [], alts := [], laidByText := true, laidKinds := [.data, .data, .data, .data, .sentinel, .sentinel, .sentinel, .sentinel, .sentinel, .sentinel, .sentinel, .data, .data, .data, .data, .data, .data, .pinned], laidTests := true, laidLooks := .later }
def SpecLastCardSaid : Prop := Claim7.holds Tryz.pinned (.plain (OpenSpec.ofChange specLastSpec)) specLastCard

/-- THE TIED CARD OF 'umpirelaw6.SpecLine'. -/
def specLineCard : Claim7 := { stood := { row := specLineRow, standIns := [], harness := (true, "4a60ae6fac43e9984ca8293a95a0ce4093e80da91277938538b84fd690e406b6"), looks := true }, kinds := [], alts := [], laidByText := true, laidKinds := [.data, .data, .data, .data, .sentinel, .sentinel, .sentinel, .sentinel, .sentinel, .sentinel, .sentinel, .data, .data, .data, .data, .data, .data, .pinned], laidTests := true, laidLooks := .later }
def SpecLineCardSaid : Prop := Claim7.holds Tryz.pinned (.plain (OpenSpec.ofChange specLineSpec)) specLineCard

/-- THE TIED CARD OF 'umpirelaw6.SpecApart'. -/
def specApartCard : Claim7 := { stood := { row := specApartRow, standIns := [], harness := (true, "4a60ae6fac43e9984ca8293a95a0ce4093e80da91277938538b84fd690e406b6"), looks := true }, kinds := [], alts := [], laidByText := true, laidKinds := [.data, .data, .data, .data, .sentinel, .sentinel, .sentinel, .sentinel, .sentinel, .sentinel, .sentinel, .data, .data, .data, .data, .data, .data, .pinned], laidTests := true, laidLooks := .later }
def SpecApartCardSaid : Prop := Claim7.holds Tryz.pinned (.plain (OpenSpec.ofChange specApartSpec)) specApartCard

/-- THE TIED CARD OF 'umpirelaw6.SpecBack'. -/
def specBackCard : Claim7 := { stood := { row := specBackRow, standIns := [], harness := (true, "4a60ae6fac43e9984ca8293a95a0ce4093e80da91277938538b84fd690e406b6"), looks := true }, kinds := [], alts := [], laidByText := true, laidKinds := [.data, .data, .data, .data, .sentinel, .sentinel, .sentinel, .sentinel, .sentinel, .sentinel, .sentinel, .data, .data, .data, .data, .data, .data, .pinned], laidTests := true, laidLooks := .later }
def SpecBackCardSaid : Prop := Claim7.holds Tryz.pinned (.plain (OpenSpec.ofChange specBackSpec)) specBackCard

/-- THE SECOND FORM's CARD OF 'umpirelaw7.StoreLists'. -/
def storeListsUptoCard : Claim7 := { stood := { row := storeListsUptoRow, standIns := [], harness := (true, "4a60ae6fac43e9984ca8293a95a0ce4093e80da91277938538b84fd690e406b6"), looks := true }, kinds := [], alts := [], laidByText := true, laidKinds := [.data, .data, .data, .sentinel, .sentinel, .sentinel, .sentinel, .sentinel, .data, .data, .data, .data, .data, .data], laidTests := true, laidLooks := .later }
def StoreListsUptoCardSaid : Prop := Claim7.holds Tryz.pinned (.plain (OpenSpec.upto storeListsSpec)) storeListsUptoCard

/-- THE SECOND FORM's CARD OF 'umpirelaw7.StoreOwn'. -/
def storeOwnUptoCard : Claim7 := { stood := { row := storeOwnUptoRow, standIns := [], harness := (true, "4a60ae6fac43e9984ca8293a95a0ce4093e80da91277938538b84fd690e406b6"), looks := true }, kinds := [], alts := [], laidByText := true, laidKinds := [.data, .data, .data, .sentinel, .sentinel, .sentinel, .sentinel, .sentinel, .data, .data, .data, .data, .data, .data], laidTests := true, laidLooks := .later }
def StoreOwnUptoCardSaid : Prop := Claim7.holds Tryz.pinned (.plain (OpenSpec.upto storeOwnSpec)) storeOwnUptoCard

/-- THE SECOND FORM's CARD OF 'umpirelaw7.StoreApart'. -/
def storeApartUptoCard : Claim7 := { stood := { row := storeApartUptoRow, standIns := [], harness := (true, "4a60ae6fac43e9984ca8293a95a0ce4093e80da91277938538b84fd690e406b6"), looks := true }, kinds := [], alts := [], laidByText := true, laidKinds := [.data, .data, .data, .sentinel, .sentinel, .sentinel, .sentinel, .sentinel, .data, .data, .data, .data, .data, .data], laidTests := true, laidLooks := .later }
def StoreApartUptoCardSaid : Prop := Claim7.holds Tryz.pinned (.plain (OpenSpec.upto storeApartSpec)) storeApartUptoCard

/-- THE SECOND FORM's CARD OF 'umpirelaw7.StoreKeys'. -/
def storeKeysUptoCard : Claim7 := { stood := { row := storeKeysUptoRow, standIns := [], harness := (true, "4a60ae6fac43e9984ca8293a95a0ce4093e80da91277938538b84fd690e406b6"), looks := true }, kinds := [], alts := [], laidByText := true, laidKinds := [.data, .data, .data, .sentinel, .sentinel, .sentinel, .sentinel, .sentinel, .data, .data, .data, .data, .data, .data], laidTests := true, laidLooks := .later }
def StoreKeysUptoCardSaid : Prop := Claim7.holds Tryz.pinned (.plain (OpenSpec.upto storeKeysSpec)) storeKeysUptoCard

/-- THE SECOND FORM's CARD OF 'umpirelaw7.StoreAsks'. -/
def storeAsksUptoCard : Claim7 := { stood := { row := storeAsksUptoRow, standIns := [], harness := (true, "4a60ae6fac43e9984ca8293a95a0ce4093e80da91277938538b84fd690e406b6"), looks := true }, kinds := [], alts := [], laidByText := true, laidKinds := [.data, .data, .data, .sentinel, .sentinel, .sentinel, .sentinel, .sentinel, .data, .data, .data, .data, .data, .data], laidTests := true, laidLooks := .later }
def StoreAsksUptoCardSaid : Prop := Claim7.holds Tryz.pinned (.plain (OpenSpec.upto storeAsksSpec)) storeAsksUptoCard

/-- THE SECOND FORM's CARD OF 'umpirelaw6.SpecLast'. -/
def specLastUptoCard : Claim7 := { stood := { row := specLastUptoRow, standIns := [], harness := (true, "4a60ae6fac43e9984ca8293a95a0ce4093e80da91277938538b84fd690e406b6"), looks := true }, kinds := [], alts := [], laidByText := true, laidKinds := [.data, .data, .data, .data, .sentinel, .sentinel, .sentinel, .sentinel, .sentinel, .sentinel, .sentinel, .data, .data, .data, .data, .data, .data, .pinned], laidTests := true, laidLooks := .later }
def SpecLastUptoCardSaid : Prop := Claim7.holds Tryz.pinned (.plain (OpenSpec.upto specLastSpec)) specLastUptoCard

/-- THE SECOND FORM's CARD OF 'umpirelaw6.SpecLine'. -/
def specLineUptoCard : Claim7 := { stood := { row := specLineUptoRow, standIns := [], harness := (true, "4a60ae6fac43e9984ca8293a95a0ce4093e80da91277938538b84fd690e406b6"), looks := true }, kinds := [], alts := [], laidByText := true, laidKinds := [.data, .data, .data, .data, .sentinel, .sentinel, .sentinel, .sentinel, .sentinel, .sentinel, .sentinel, .data, .data, .data, .data, .data, .data, .pinned], laidTests := true, laidLooks := .later }
def SpecLineUptoCardSaid : Prop := Claim7.holds Tryz.pinned (.plain (OpenSpec.upto specLineSpec)) specLineUptoCard

/-- THE SECOND FORM's CARD OF 'umpirelaw6.SpecApart'. -/
def specApartUptoCard : Claim7 := { stood := { row := specApartUptoRow, standIns := [], harness := (true, "4a60ae6fac43e9984ca8293a95a0ce4093e80da91277938538b84fd690e406b6"), looks := true }, kinds := [], alts := [], laidByText := true, laidKinds := [.data, .data, .data, .data, .sentinel, .sentinel, .sentinel, .sentinel, .sentinel, .sentinel, .sentinel, .data, .data, .data, .data, .data, .data, .pinned], laidTests := true, laidLooks := .later }
def SpecApartUptoCardSaid : Prop := Claim7.holds Tryz.pinned (.plain (OpenSpec.upto specApartSpec)) specApartUptoCard

/-- THE SECOND FORM's CARD OF 'umpirelaw6.SpecBack'. -/
def specBackUptoCard : Claim7 := { stood := { row := specBackUptoRow, standIns := [], harness := (true, "4a60ae6fac43e9984ca8293a95a0ce4093e80da91277938538b84fd690e406b6"), looks := true }, kinds := [], alts := [], laidByText := true, laidKinds := [.data, .data, .data, .data, .sentinel, .sentinel, .sentinel, .sentinel, .sentinel, .sentinel, .sentinel, .data, .data, .data, .data, .data, .data, .pinned], laidTests := true, laidLooks := .later }
def SpecBackUptoCardSaid : Prop := Claim7.holds Tryz.pinned (.plain (OpenSpec.upto specBackSpec)) specBackUptoCard
end Rows
end Go.Proofs.YtikaakiadiaeoaaGreatDoor
