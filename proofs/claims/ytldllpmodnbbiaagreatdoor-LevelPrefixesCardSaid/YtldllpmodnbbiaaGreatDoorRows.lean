/-
  NARROWER THAN 'FOR EVERY INPUT', by the rows' own cells (each row's printed sentence says how): LevelPrefixes: laid.
  DERIVED. THE GIVEN ROWS OF THIS SEAT. 1 by the template 'for every input the law returns true; each argument reads behind the call as it read before'; 0 by the template 'total and deterministic' (their statements: YtldllpmodnbbiaaGreatDoorTotals.lean).
  GIVEN WITH THE SEED: the statements are not yours to turn. If you find one false, say at which input.
  Laid BY PROGRAM, IN A SANDBOX (cutbox-rows.mjs): the forced cells as the released guide's own fill.sh prints them over the translation 8884546ebd58489a… (all of the seat's roots in one cut). By AI agents, Wed Nov 11 2026. No macro, syntax, notation, axiom, sorry.
-/
import Derived.Test.YtldllpmodnbbiaaGreatDoorChecked
import GoSem.Claim
import GoSem.ClaimJoined
import GoSem.ClaimMapViews
import Derived.JoinedTies
import Derived.KernelRfl
namespace Go.Proofs.YtldllpmodnbbiaaGreatDoor
/- THE CELL 'sum', in the pinned program and in every row, IS THE sha256 OF THE DUMP (.gsa) THAT YtldllpmodnbbiaaGreatDoorProg.lean LOADS. Nothing in Lean hashes anything: it is a label: what it is worth is what the hold of that sum in a sandbox is worth. -/
noncomputable def Tryz.pinned : Pinned := { name := "ytldllpmodnbbiaagreatdoor", sum := "8884546ebd58489a854f4d310330ead0af2e589b6954082bc8cd3d15b332ee7e", checked := Tryz.checked }
namespace Rows
def none {H : Type} : Left H := { results := [], args := [] }

/- WHAT THE LISTED PACKAGE-LEVEL VARIABLES READ AS WHEN THE CALL BEGINS. Each datum BY PROGRAM (the guide's laid-datum.mjs) off the statement by which the dump's own 'gosem.cut.vars' lays the variable. In a bare row this is a premise. The card (YtldllpmodnbbiaaGreatDoorCards.lean) ties it to the program's text. -/
def laid_math_bits_deBruijn32tab {H : Type} : DataW H := .agg [.lit (.int .u8 0), .lit (.int .u8 1), .lit (.int .u8 28), .lit (.int .u8 2), .lit (.int .u8 29), .lit (.int .u8 14), .lit (.int .u8 24), .lit (.int .u8 3), .lit (.int .u8 30), .lit (.int .u8 22), .lit (.int .u8 20), .lit (.int .u8 15), .lit (.int .u8 25), .lit (.int .u8 17), .lit (.int .u8 4), .lit (.int .u8 8), .lit (.int .u8 31), .lit (.int .u8 27), .lit (.int .u8 13), .lit (.int .u8 23), .lit (.int .u8 21), .lit (.int .u8 19), .lit (.int .u8 16), .lit (.int .u8 7), .lit (.int .u8 26), .lit (.int .u8 12), .lit (.int .u8 18), .lit (.int .u8 6), .lit (.int .u8 11), .lit (.int .u8 5), .lit (.int .u8 10), .lit (.int .u8 9)]
def laid_math_bits_deBruijn64tab {H : Type} : DataW H := .agg [.lit (.int .u8 0), .lit (.int .u8 1), .lit (.int .u8 56), .lit (.int .u8 2), .lit (.int .u8 57), .lit (.int .u8 49), .lit (.int .u8 28), .lit (.int .u8 3), .lit (.int .u8 61), .lit (.int .u8 58), .lit (.int .u8 42), .lit (.int .u8 50), .lit (.int .u8 38), .lit (.int .u8 29), .lit (.int .u8 17), .lit (.int .u8 4), .lit (.int .u8 62), .lit (.int .u8 47), .lit (.int .u8 59), .lit (.int .u8 36), .lit (.int .u8 45), .lit (.int .u8 43), .lit (.int .u8 51), .lit (.int .u8 22), .lit (.int .u8 53), .lit (.int .u8 39), .lit (.int .u8 33), .lit (.int .u8 30), .lit (.int .u8 24), .lit (.int .u8 18), .lit (.int .u8 12), .lit (.int .u8 5), .lit (.int .u8 63), .lit (.int .u8 55), .lit (.int .u8 48), .lit (.int .u8 27), .lit (.int .u8 60), .lit (.int .u8 41), .lit (.int .u8 37), .lit (.int .u8 16), .lit (.int .u8 46), .lit (.int .u8 35), .lit (.int .u8 44), .lit (.int .u8 21), .lit (.int .u8 52), .lit (.int .u8 32), .lit (.int .u8 23), .lit (.int .u8 11), .lit (.int .u8 54), .lit (.int .u8 26), .lit (.int .u8 40), .lit (.int .u8 15), .lit (.int .u8 34), .lit (.int .u8 20), .lit (.int .u8 31), .lit (.int .u8 10), .lit (.int .u8 25), .lit (.int .u8 14), .lit (.int .u8 19), .lit (.int .u8 9), .lit (.int .u8 13), .lit (.int .u8 8), .lit (.int .u8 7), .lit (.int .u8 6)]
def laid_internal_strconv_uint64pow10 {H : Type} : DataW H := .agg [.lit (.int .u64 1), .lit (.int .u64 10), .lit (.int .u64 100), .lit (.int .u64 1000), .lit (.int .u64 10000), .lit (.int .u64 100000), .lit (.int .u64 1000000), .lit (.int .u64 10000000), .lit (.int .u64 100000000), .lit (.int .u64 1000000000), .lit (.int .u64 10000000000), .lit (.int .u64 100000000000), .lit (.int .u64 1000000000000), .lit (.int .u64 10000000000000), .lit (.int .u64 100000000000000), .lit (.int .u64 1000000000000000), .lit (.int .u64 10000000000000000), .lit (.int .u64 100000000000000000), .lit (.int .u64 1000000000000000000), .lit (.int .u64 10000000000000000000)]
def laid_umpire_api_ErrMany {H : Type} : DataW H := .iface "*errors.errorString" (.ptr (.agg [.lit (.string [116, 111, 111, 32, 109, 97, 110, 121])]))
def laid_umpire_api_ErrCode {H : Type} : DataW H := .iface "*errors.errorString" (.ptr (.agg [.lit (.string [110, 111, 32, 115, 117, 99, 104, 32, 99, 111, 100, 101])]))
def laid_umpire_api_ErrObject {H : Type} : DataW H := .iface "*errors.errorString" (.ptr (.agg [.lit (.string [110, 111, 32, 111, 98, 106, 101, 99, 116])]))
def laid_umpire_api_ErrEvent {H : Type} : DataW H := .iface "*errors.errorString" (.ptr (.agg [.lit (.string [110, 111, 32, 101, 118, 101, 110, 116])]))
def laid_umpire_api_ErrOp {H : Type} : DataW H := .iface "*errors.errorString" (.ptr (.agg [.lit (.string [110, 111, 32, 111, 112, 101, 114, 97, 116, 105, 111, 110, 32, 111, 102, 32, 116, 104, 97, 116, 32, 111, 98, 106, 101, 99, 116])]))
def laid_umpire_api_ErrAnswer {H : Type} : DataW H := .iface "*errors.errorString" (.ptr (.agg [.lit (.string [110, 111, 32, 97, 110, 115, 119, 101, 114, 32, 111, 102, 32, 116, 104, 97, 116, 32, 111, 112, 101, 114, 97, 116, 105, 111, 110])]))
def laid_umpire_api_ErrTx {H : Type} : DataW H := .iface "*errors.errorString" (.ptr (.agg [.lit (.string [110, 111, 32, 115, 117, 99, 104, 32, 116, 114, 97, 110, 115, 97, 99, 116, 105, 111, 110])]))
def laid_umpire_api_ErrTwice {H : Type} : DataW H := .iface "*errors.errorString" (.ptr (.agg [.lit (.string [105, 116, 32, 104, 97, 115, 32, 98, 101, 103, 117, 110, 32, 97, 108, 114, 101, 97, 100, 121])]))
def laid_umpire_api_ErrThread {H : Type} : DataW H := .iface "*errors.errorString" (.ptr (.agg [.lit (.string [116, 104, 101, 32, 116, 104, 114, 101, 97, 100, 32, 105, 115, 32, 98, 117, 115, 121])]))
def laid_umpire_api_ErrOrder {H : Type} : DataW H := .iface "*errors.errorString" (.ptr (.agg [.lit (.string [105, 116, 32, 100, 111, 101, 115, 32, 110, 111, 116, 32, 99, 111, 109, 101, 32, 104, 101, 114, 101])]))
def laid_umpire_api_ErrLevel {H : Type} : DataW H := .iface "*errors.errorString" (.ptr (.agg [.lit (.string [110, 111, 32, 108, 101, 118, 101, 108])]))
def laid_umpire_api_ErrTooMany {H : Type} : DataW H := .iface "*errors.errorString" (.ptr (.agg [.lit (.string [116, 111, 111, 32, 109, 97, 110, 121, 32, 116, 114, 97, 110, 115, 97, 99, 116, 105, 111, 110, 115, 32, 116, 111, 32, 98, 101, 32, 106, 117, 100, 103, 101, 100])]))
def laid_umpire_api_ErrBudget {H : Type} : DataW H := .iface "*errors.errorString" (.ptr (.agg [.lit (.string [116, 104, 101, 32, 115, 101, 97, 114, 99, 104, 32, 104, 97, 115, 32, 115, 101, 101, 110, 32, 116, 111, 111, 32, 109, 117, 99, 104])]))
def laid_umpire_api_ErrIndex {H : Type} : DataW H := .iface "*errors.errorString" (.ptr (.agg [.lit (.string [116, 104, 101, 114, 101, 32, 105, 115, 32, 110, 111, 110, 101])]))
def laid_umpire_api_ErrStop {H : Type} : DataW H := .iface "*errors.errorString" (.ptr (.agg [.lit (.string [105, 116, 32, 119, 97, 115, 32, 115, 116, 111, 112, 112, 101, 100])]))
def laid_umpire_event_objects {H : Type} : DataW H := .agg [.lit (.string [114, 101, 103, 105, 115, 116, 101, 114]), .lit (.string [99, 111, 117, 110, 116, 101, 114]), .lit (.string [113, 117, 101, 117, 101]), .lit (.string [109, 97, 112])]
def laid_umpire_event_events {H : Type} : DataW H := .agg [.lit (.string [98, 101, 103, 105, 110]), .lit (.string [99, 97, 108, 108]), .lit (.string [114, 101, 116, 117, 114, 110]), .lit (.string [116, 114, 121]), .lit (.string [99, 111, 109, 109, 105, 116]), .lit (.string [97, 98, 111, 114, 116]), .lit (.string [99, 97, 110, 99, 101, 108])]
def laid_umpire_event_ops {H : Type} : DataW H := .agg [.lit (.string [114, 101, 97, 100]), .lit (.string [119, 114, 105, 116, 101]), .lit (.string [97, 100, 100]), .lit (.string [103, 101, 116]), .lit (.string [101, 110, 113]), .lit (.string [100, 101, 113]), .lit (.string [112, 117, 116]), .lit (.string [108, 111, 111, 107]), .lit (.string [100, 101, 108])]
def laid_umpire_event_answers {H : Type} : DataW H := .agg [.lit (.string [111, 107]), .lit (.string [110, 111, 110, 101]), .lit (.string [118, 97, 108])]
def laid_umpire_event_states {H : Type} : DataW H := .agg [.lit (.string [108, 105, 118, 101]), .lit (.string [112, 101, 110, 100, 105, 110, 103]), .lit (.string [99, 111, 109, 109, 105, 116, 116, 101, 100]), .lit (.string [97, 98, 111, 114, 116, 101, 100])]
def laid_umpire_event_levels {H : Type} : DataW H := .agg [.lit (.string [115, 101, 114, 105, 97, 108]), .lit (.string [115, 116, 114, 105, 99, 116]), .lit (.string [102, 105, 110, 97, 108]), .lit (.string [111, 112, 97, 113, 117, 101])]

/-- 'umpirelaw14.LevelPrefixes': WHATEVER THE INPUT: true; the input reads as it did. -/
def levelPrefixesSpec : ChangeSpec := { name := "levelPrefixes", fn := fun _ => fun
  | [d1, d2, d3] => { results := [.lit (.bool true)], args := [d1, d2, d3] }
  | _ => none }
def levelPrefixesRow : OpenClaim := { program := "ytldllpmodnbbiaagreatdoor", sum := "8884546ebd58489a854f4d310330ead0af2e589b6954082bc8cd3d15b332ee7e", func := "umpire/umpirelaw14.LevelPrefixes", spec := "levelPrefixes", inPlace := ["internal/abi.NoEscape", "internal/bytealg.MakeNoZero", "slices.overlaps[umpire/spec.pair]"], unfollowed := true, recurses := true, named := ["umpire/api.ErrBudget", "umpire/api.ErrIndex", "umpire/api.ErrTooMany", "umpire/api.ErrMany", "umpire/api.ErrObject", "umpire/api.ErrOp", "umpire/event.objects", "umpire/event.events", "umpire/event.ops", "umpire/event.answers", "umpire/event.states", "umpire/event.levels", "umpire/api.ErrCode", "umpire/api.ErrEvent", "umpire/api.ErrTwice", "umpire/api.ErrThread", "umpire/api.ErrTx", "umpire/api.ErrOrder", "umpire/api.ErrAnswer", "umpire/api.ErrLevel", "umpire/api.ErrStop", "internal/strconv.uint64pow10", "math/bits.deBruijn32tab", "math/bits.deBruijn64tab"], plainKeys := false, apart := false, laid := [("math/bits.deBruijn32tab", laid_math_bits_deBruijn32tab), ("math/bits.deBruijn64tab", laid_math_bits_deBruijn64tab), ("internal/strconv.uint64pow10", laid_internal_strconv_uint64pow10), ("umpire/api.ErrMany", laid_umpire_api_ErrMany), ("umpire/api.ErrCode", laid_umpire_api_ErrCode), ("umpire/api.ErrObject", laid_umpire_api_ErrObject), ("umpire/api.ErrEvent", laid_umpire_api_ErrEvent), ("umpire/api.ErrOp", laid_umpire_api_ErrOp), ("umpire/api.ErrAnswer", laid_umpire_api_ErrAnswer), ("umpire/api.ErrTx", laid_umpire_api_ErrTx), ("umpire/api.ErrTwice", laid_umpire_api_ErrTwice), ("umpire/api.ErrThread", laid_umpire_api_ErrThread), ("umpire/api.ErrOrder", laid_umpire_api_ErrOrder), ("umpire/api.ErrLevel", laid_umpire_api_ErrLevel), ("umpire/api.ErrTooMany", laid_umpire_api_ErrTooMany), ("umpire/api.ErrBudget", laid_umpire_api_ErrBudget), ("umpire/api.ErrIndex", laid_umpire_api_ErrIndex), ("umpire/api.ErrStop", laid_umpire_api_ErrStop), ("umpire/event.objects", laid_umpire_event_objects), ("umpire/event.events", laid_umpire_event_events), ("umpire/event.ops", laid_umpire_event_ops), ("umpire/event.answers", laid_umpire_event_answers), ("umpire/event.states", laid_umpire_event_states), ("umpire/event.levels", laid_umpire_event_levels)] }
def LevelPrefixesSaid : Prop := levelPrefixesRow.holds Tryz.pinned (OpenSpec.ofChange levelPrefixesSpec)

/-- ITS FALSE NEIGHBOUR: 'it returns false'. Refute it at one input. -/
def levelPrefixesWrong : ChangeSpec := { name := "levelPrefixes", fn := fun _ => fun
  | [d1, d2, d3] => { results := [.lit (.bool false)], args := [d1, d2, d3] }
  | _ => none }
def LevelPrefixesWrongFalsely : Prop := levelPrefixesRow.holds Tryz.pinned (OpenSpec.ofChange levelPrefixesWrong)

/- THE SECOND FORM. 'bulk': how many values and letters a reading holds, each counted each time it is reached (what is shared counts as often as it is met; a slice's spare places count too). A statement '..UptoSaid' is the law's where the arguments, and the package variables that the reading takes, are together of bulk at most 1048576: NARROWER than '..Said'. Prove '..Said' where nothing that the law and all that it calls make is longer than what came in: it says more and counts as full. Else prove '..UptoSaid'. A law counts once. -/
mutual
def uptoBulk {H : Type} : DataW H → Nat
  | .lit (.string bytes) => bytes.length + 1
  | .lit _ => 1
  | .nil => 1
  | .ptr d => uptoBulk d + 1
  | .slice elems spare => uptoBulkAll elems + uptoBulkAll spare + 1
  | .agg parts => uptoBulkAll parts + 1
  | .iface _ d => uptoBulk d + 1
  | .map entries => uptoBulkEntries entries + 1
  | .held _ => 1
def uptoBulkAll {H : Type} : List (DataW H) → Nat
  | [] => 0
  | d :: r => uptoBulk d + uptoBulkAll r
def uptoBulkEntries {H : Type} : List (Lit × DataW H) → Nat
  | [] => 0
  | x :: r => uptoBulkEntry x + uptoBulkEntries r
def uptoBulkEntry {H : Type} : Lit × DataW H → Nat
  | (.string bytes, d) => bytes.length + uptoBulk d + 1
  | (_, d) => uptoBulk d + 1
 end
def uptoSmall : (H : Type) → List (DataW H) → Bool := fun _ ds => decide (uptoBulkAll ds ≤ 1048576)
def OpenSpec.upto (s : _root_.Go.ChangeSpec) : _root_.Go.OpenSpec := { _root_.Go.OpenSpec.ofChange s with cond := some uptoSmall }

/-- 'umpirelaw14.LevelPrefixes', WHERE WHAT IT READS IS OF BULK AT MOST 1048576: true; the input reads as it did. -/
def levelPrefixesUptoRow : OpenClaim := { program := "ytldllpmodnbbiaagreatdoor", sum := "8884546ebd58489a854f4d310330ead0af2e589b6954082bc8cd3d15b332ee7e", func := "umpire/umpirelaw14.LevelPrefixes", spec := "levelPrefixes", inPlace := ["internal/abi.NoEscape", "internal/bytealg.MakeNoZero", "slices.overlaps[umpire/spec.pair]"], unfollowed := true, recurses := true, named := ["umpire/api.ErrBudget", "umpire/api.ErrIndex", "umpire/api.ErrTooMany", "umpire/api.ErrMany", "umpire/api.ErrObject", "umpire/api.ErrOp", "umpire/event.objects", "umpire/event.events", "umpire/event.ops", "umpire/event.answers", "umpire/event.states", "umpire/event.levels", "umpire/api.ErrCode", "umpire/api.ErrEvent", "umpire/api.ErrTwice", "umpire/api.ErrThread", "umpire/api.ErrTx", "umpire/api.ErrOrder", "umpire/api.ErrAnswer", "umpire/api.ErrLevel", "umpire/api.ErrStop", "internal/strconv.uint64pow10", "math/bits.deBruijn32tab", "math/bits.deBruijn64tab"], plainKeys := false, apart := false, laid := [("math/bits.deBruijn32tab", laid_math_bits_deBruijn32tab), ("math/bits.deBruijn64tab", laid_math_bits_deBruijn64tab), ("internal/strconv.uint64pow10", laid_internal_strconv_uint64pow10), ("umpire/api.ErrMany", laid_umpire_api_ErrMany), ("umpire/api.ErrCode", laid_umpire_api_ErrCode), ("umpire/api.ErrObject", laid_umpire_api_ErrObject), ("umpire/api.ErrEvent", laid_umpire_api_ErrEvent), ("umpire/api.ErrOp", laid_umpire_api_ErrOp), ("umpire/api.ErrAnswer", laid_umpire_api_ErrAnswer), ("umpire/api.ErrTx", laid_umpire_api_ErrTx), ("umpire/api.ErrTwice", laid_umpire_api_ErrTwice), ("umpire/api.ErrThread", laid_umpire_api_ErrThread), ("umpire/api.ErrOrder", laid_umpire_api_ErrOrder), ("umpire/api.ErrLevel", laid_umpire_api_ErrLevel), ("umpire/api.ErrTooMany", laid_umpire_api_ErrTooMany), ("umpire/api.ErrBudget", laid_umpire_api_ErrBudget), ("umpire/api.ErrIndex", laid_umpire_api_ErrIndex), ("umpire/api.ErrStop", laid_umpire_api_ErrStop), ("umpire/event.objects", laid_umpire_event_objects), ("umpire/event.events", laid_umpire_event_events), ("umpire/event.ops", laid_umpire_event_ops), ("umpire/event.answers", laid_umpire_event_answers), ("umpire/event.states", laid_umpire_event_states), ("umpire/event.levels", laid_umpire_event_levels)], narrowed := true }
def LevelPrefixesUptoSaid : Prop := levelPrefixesUptoRow.holds Tryz.pinned (OpenSpec.upto levelPrefixesSpec)

end Rows
end Go.Proofs.YtldllpmodnbbiaaGreatDoor
