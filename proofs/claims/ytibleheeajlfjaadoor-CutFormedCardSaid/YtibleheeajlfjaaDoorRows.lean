/-
  NARROWER THAN 'FOR EVERY INPUT', by the rows' own cells (each row's printed sentence says how): CutMakes: laid · CutLess: laid · CutOwn: laid · CutEach: laid · CutFormed: laid.
  DERIVED. THE GIVEN ROWS OF THIS SEAT. 5 by the template 'for every input the law returns true; each argument reads behind the call as it read before'; 0 by the template 'total and deterministic' (their statements: YtibleheeajlfjaaDoorTotals.lean).
  GIVEN WITH THE SEED: the statements are not yours to turn. If you find one false, say at which input.
  Laid BY PROGRAM, IN A SANDBOX (cutbox-rows.mjs): the forced cells as the released guide's own fill.sh prints them over the translation 836fef18e67c0363… (all of the seat's roots in one cut). By AI agents, Wed Nov 11 2026. No macro, syntax, notation, axiom, sorry.
-/
import Derived.Test.YtibleheeajlfjaaDoorChecked
import GoSem.Claim
import GoSem.ClaimJoined
import GoSem.ClaimMapViews
import Derived.JoinedTies
import Derived.KernelRfl
namespace Go.Proofs.YtibleheeajlfjaaDoor
/- THE CELL 'sum', in the pinned program and in every row, IS THE sha256 OF THE DUMP (.gsa) THAT YtibleheeajlfjaaDoorProg.lean LOADS. Nothing in Lean hashes anything: it is a label: what it is worth is what the hold of that sum in a sandbox is worth. -/
noncomputable def Tryd.pinned : Pinned := { name := "ytibleheeajlfjaadoor", sum := "836fef18e67c0363263402d3bd2c3c27029c1ba7a7371b65c357a1a27d4e27aa", checked := Tryd.checked }
namespace Rows
def none {H : Type} : Left H := { results := [], args := [] }

/- WHAT THE LISTED PACKAGE-LEVEL VARIABLES READ AS WHEN THE CALL BEGINS. Each datum BY PROGRAM (the guide's laid-datum.mjs) off the statement by which the dump's own 'gosem.cut.vars' lays the variable. In a bare row this is a premise. The card (YtibleheeajlfjaaDoorCards.lean) ties it to the program's text. -/
def laid_umpire_api_ErrMany {H : Type} : DataW H := .iface "*errors.errorString" (.ptr (.agg [.lit (.string [116, 111, 111, 32, 109, 97, 110, 121])]))
def laid_umpire_api_ErrCode {H : Type} : DataW H := .iface "*errors.errorString" (.ptr (.agg [.lit (.string [110, 111, 32, 115, 117, 99, 104, 32, 99, 111, 100, 101])]))
def laid_umpire_api_ErrObject {H : Type} : DataW H := .iface "*errors.errorString" (.ptr (.agg [.lit (.string [110, 111, 32, 111, 98, 106, 101, 99, 116])]))
def laid_umpire_api_ErrEvent {H : Type} : DataW H := .iface "*errors.errorString" (.ptr (.agg [.lit (.string [110, 111, 32, 101, 118, 101, 110, 116])]))
def laid_umpire_api_ErrOp {H : Type} : DataW H := .iface "*errors.errorString" (.ptr (.agg [.lit (.string [110, 111, 32, 111, 112, 101, 114, 97, 116, 105, 111, 110, 32, 111, 102, 32, 116, 104, 97, 116, 32, 111, 98, 106, 101, 99, 116])]))
def laid_umpire_api_ErrAnswer {H : Type} : DataW H := .iface "*errors.errorString" (.ptr (.agg [.lit (.string [110, 111, 32, 97, 110, 115, 119, 101, 114, 32, 111, 102, 32, 116, 104, 97, 116, 32, 111, 112, 101, 114, 97, 116, 105, 111, 110])]))
def laid_umpire_api_ErrTx {H : Type} : DataW H := .iface "*errors.errorString" (.ptr (.agg [.lit (.string [110, 111, 32, 115, 117, 99, 104, 32, 116, 114, 97, 110, 115, 97, 99, 116, 105, 111, 110])]))
def laid_umpire_api_ErrTwice {H : Type} : DataW H := .iface "*errors.errorString" (.ptr (.agg [.lit (.string [105, 116, 32, 104, 97, 115, 32, 98, 101, 103, 117, 110, 32, 97, 108, 114, 101, 97, 100, 121])]))
def laid_umpire_api_ErrThread {H : Type} : DataW H := .iface "*errors.errorString" (.ptr (.agg [.lit (.string [116, 104, 101, 32, 116, 104, 114, 101, 97, 100, 32, 105, 115, 32, 98, 117, 115, 121])]))
def laid_umpire_api_ErrOrder {H : Type} : DataW H := .iface "*errors.errorString" (.ptr (.agg [.lit (.string [105, 116, 32, 100, 111, 101, 115, 32, 110, 111, 116, 32, 99, 111, 109, 101, 32, 104, 101, 114, 101])]))
def laid_umpire_api_ErrIndex {H : Type} : DataW H := .iface "*errors.errorString" (.ptr (.agg [.lit (.string [116, 104, 101, 114, 101, 32, 105, 115, 32, 110, 111, 110, 101])]))
def laid_umpire_event_objects {H : Type} : DataW H := .agg [.lit (.string [114, 101, 103, 105, 115, 116, 101, 114]), .lit (.string [99, 111, 117, 110, 116, 101, 114]), .lit (.string [113, 117, 101, 117, 101]), .lit (.string [109, 97, 112])]
def laid_umpire_event_events {H : Type} : DataW H := .agg [.lit (.string [98, 101, 103, 105, 110]), .lit (.string [99, 97, 108, 108]), .lit (.string [114, 101, 116, 117, 114, 110]), .lit (.string [116, 114, 121]), .lit (.string [99, 111, 109, 109, 105, 116]), .lit (.string [97, 98, 111, 114, 116]), .lit (.string [99, 97, 110, 99, 101, 108])]
def laid_umpire_event_ops {H : Type} : DataW H := .agg [.lit (.string [114, 101, 97, 100]), .lit (.string [119, 114, 105, 116, 101]), .lit (.string [97, 100, 100]), .lit (.string [103, 101, 116]), .lit (.string [101, 110, 113]), .lit (.string [100, 101, 113]), .lit (.string [112, 117, 116]), .lit (.string [108, 111, 111, 107]), .lit (.string [100, 101, 108])]
def laid_umpire_event_answers {H : Type} : DataW H := .agg [.lit (.string [111, 107]), .lit (.string [110, 111, 110, 101]), .lit (.string [118, 97, 108])]
def laid_umpire_event_states {H : Type} : DataW H := .agg [.lit (.string [108, 105, 118, 101]), .lit (.string [112, 101, 110, 100, 105, 110, 103]), .lit (.string [99, 111, 109, 109, 105, 116, 116, 101, 100]), .lit (.string [97, 98, 111, 114, 116, 101, 100])]
def laid_umpire_event_levels {H : Type} : DataW H := .agg [.lit (.string [115, 101, 114, 105, 97, 108]), .lit (.string [115, 116, 114, 105, 99, 116]), .lit (.string [102, 105, 110, 97, 108]), .lit (.string [111, 112, 97, 113, 117, 101])]

/-- 'umpirelaw5.CutMakes': WHATEVER THE INPUT: true; the input reads as it did. -/
def cutMakesSpec : ChangeSpec := { name := "cutMakes", fn := fun _ => fun
  | [d1, d2, d3, d4, d5] => { results := [.lit (.bool true)], args := [d1, d2, d3, d4, d5] }
  | _ => none }
def cutMakesRow : OpenClaim := { program := "ytibleheeajlfjaadoor", sum := "836fef18e67c0363263402d3bd2c3c27029c1ba7a7371b65c357a1a27d4e27aa", func := "umpire/umpirelaw5.CutMakes", spec := "cutMakes", unfollowed := true, recurses := true, named := ["umpire/api.ErrTx", "umpire/api.ErrIndex", "umpire/api.ErrMany", "umpire/api.ErrObject", "umpire/api.ErrOp", "umpire/event.objects", "umpire/event.events", "umpire/event.ops", "umpire/event.answers", "umpire/event.states", "umpire/event.levels", "umpire/api.ErrCode", "umpire/api.ErrEvent", "umpire/api.ErrTwice", "umpire/api.ErrThread", "umpire/api.ErrOrder", "umpire/api.ErrAnswer"], apart := false, laid := [("umpire/api.ErrMany", laid_umpire_api_ErrMany), ("umpire/api.ErrCode", laid_umpire_api_ErrCode), ("umpire/api.ErrObject", laid_umpire_api_ErrObject), ("umpire/api.ErrEvent", laid_umpire_api_ErrEvent), ("umpire/api.ErrOp", laid_umpire_api_ErrOp), ("umpire/api.ErrAnswer", laid_umpire_api_ErrAnswer), ("umpire/api.ErrTx", laid_umpire_api_ErrTx), ("umpire/api.ErrTwice", laid_umpire_api_ErrTwice), ("umpire/api.ErrThread", laid_umpire_api_ErrThread), ("umpire/api.ErrOrder", laid_umpire_api_ErrOrder), ("umpire/api.ErrIndex", laid_umpire_api_ErrIndex), ("umpire/event.objects", laid_umpire_event_objects), ("umpire/event.events", laid_umpire_event_events), ("umpire/event.ops", laid_umpire_event_ops), ("umpire/event.answers", laid_umpire_event_answers), ("umpire/event.states", laid_umpire_event_states), ("umpire/event.levels", laid_umpire_event_levels)] }
def CutMakesSaid : Prop := cutMakesRow.holds Tryd.pinned (OpenSpec.ofChange cutMakesSpec)

/-- ITS FALSE NEIGHBOUR: 'it returns false'. Refute it at one input. -/
def cutMakesWrong : ChangeSpec := { name := "cutMakes", fn := fun _ => fun
  | [d1, d2, d3, d4, d5] => { results := [.lit (.bool false)], args := [d1, d2, d3, d4, d5] }
  | _ => none }
def CutMakesWrongFalsely : Prop := cutMakesRow.holds Tryd.pinned (OpenSpec.ofChange cutMakesWrong)

/-- 'umpirelaw5.CutLess': WHATEVER THE INPUT: true; the input reads as it did. -/
def cutLessSpec : ChangeSpec := { name := "cutLess", fn := fun _ => fun
  | [d1, d2, d3, d4, d5] => { results := [.lit (.bool true)], args := [d1, d2, d3, d4, d5] }
  | _ => none }
def cutLessRow : OpenClaim := { program := "ytibleheeajlfjaadoor", sum := "836fef18e67c0363263402d3bd2c3c27029c1ba7a7371b65c357a1a27d4e27aa", func := "umpire/umpirelaw5.CutLess", spec := "cutLess", unfollowed := true, recurses := true, named := ["umpire/api.ErrTx", "umpire/api.ErrIndex", "umpire/api.ErrMany", "umpire/api.ErrObject", "umpire/api.ErrOp", "umpire/event.objects", "umpire/event.events", "umpire/event.ops", "umpire/event.answers", "umpire/event.states", "umpire/event.levels", "umpire/api.ErrCode", "umpire/api.ErrEvent", "umpire/api.ErrTwice", "umpire/api.ErrThread", "umpire/api.ErrOrder", "umpire/api.ErrAnswer"], apart := false, laid := [("umpire/api.ErrMany", laid_umpire_api_ErrMany), ("umpire/api.ErrCode", laid_umpire_api_ErrCode), ("umpire/api.ErrObject", laid_umpire_api_ErrObject), ("umpire/api.ErrEvent", laid_umpire_api_ErrEvent), ("umpire/api.ErrOp", laid_umpire_api_ErrOp), ("umpire/api.ErrAnswer", laid_umpire_api_ErrAnswer), ("umpire/api.ErrTx", laid_umpire_api_ErrTx), ("umpire/api.ErrTwice", laid_umpire_api_ErrTwice), ("umpire/api.ErrThread", laid_umpire_api_ErrThread), ("umpire/api.ErrOrder", laid_umpire_api_ErrOrder), ("umpire/api.ErrIndex", laid_umpire_api_ErrIndex), ("umpire/event.objects", laid_umpire_event_objects), ("umpire/event.events", laid_umpire_event_events), ("umpire/event.ops", laid_umpire_event_ops), ("umpire/event.answers", laid_umpire_event_answers), ("umpire/event.states", laid_umpire_event_states), ("umpire/event.levels", laid_umpire_event_levels)] }
def CutLessSaid : Prop := cutLessRow.holds Tryd.pinned (OpenSpec.ofChange cutLessSpec)

/-- ITS FALSE NEIGHBOUR: 'it returns false'. Refute it at one input. -/
def cutLessWrong : ChangeSpec := { name := "cutLess", fn := fun _ => fun
  | [d1, d2, d3, d4, d5] => { results := [.lit (.bool false)], args := [d1, d2, d3, d4, d5] }
  | _ => none }
def CutLessWrongFalsely : Prop := cutLessRow.holds Tryd.pinned (OpenSpec.ofChange cutLessWrong)

/-- 'umpirelaw5.CutOwn': WHATEVER THE INPUT: true; the input reads as it did. -/
def cutOwnSpec : ChangeSpec := { name := "cutOwn", fn := fun _ => fun
  | [d1, d2, d3] => { results := [.lit (.bool true)], args := [d1, d2, d3] }
  | _ => none }
def cutOwnRow : OpenClaim := { program := "ytibleheeajlfjaadoor", sum := "836fef18e67c0363263402d3bd2c3c27029c1ba7a7371b65c357a1a27d4e27aa", func := "umpire/umpirelaw5.CutOwn", spec := "cutOwn", unfollowed := true, recurses := true, named := ["umpire/api.ErrTx", "umpire/api.ErrIndex", "umpire/api.ErrMany", "umpire/api.ErrObject", "umpire/api.ErrOp", "umpire/event.objects", "umpire/event.events", "umpire/event.ops", "umpire/event.answers", "umpire/event.states", "umpire/event.levels", "umpire/api.ErrCode", "umpire/api.ErrEvent", "umpire/api.ErrTwice", "umpire/api.ErrThread", "umpire/api.ErrOrder", "umpire/api.ErrAnswer"], apart := false, laid := [("umpire/api.ErrMany", laid_umpire_api_ErrMany), ("umpire/api.ErrCode", laid_umpire_api_ErrCode), ("umpire/api.ErrObject", laid_umpire_api_ErrObject), ("umpire/api.ErrEvent", laid_umpire_api_ErrEvent), ("umpire/api.ErrOp", laid_umpire_api_ErrOp), ("umpire/api.ErrAnswer", laid_umpire_api_ErrAnswer), ("umpire/api.ErrTx", laid_umpire_api_ErrTx), ("umpire/api.ErrTwice", laid_umpire_api_ErrTwice), ("umpire/api.ErrThread", laid_umpire_api_ErrThread), ("umpire/api.ErrOrder", laid_umpire_api_ErrOrder), ("umpire/api.ErrIndex", laid_umpire_api_ErrIndex), ("umpire/event.objects", laid_umpire_event_objects), ("umpire/event.events", laid_umpire_event_events), ("umpire/event.ops", laid_umpire_event_ops), ("umpire/event.answers", laid_umpire_event_answers), ("umpire/event.states", laid_umpire_event_states), ("umpire/event.levels", laid_umpire_event_levels)] }
def CutOwnSaid : Prop := cutOwnRow.holds Tryd.pinned (OpenSpec.ofChange cutOwnSpec)

/-- ITS FALSE NEIGHBOUR: 'it returns false'. Refute it at one input. -/
def cutOwnWrong : ChangeSpec := { name := "cutOwn", fn := fun _ => fun
  | [d1, d2, d3] => { results := [.lit (.bool false)], args := [d1, d2, d3] }
  | _ => none }
def CutOwnWrongFalsely : Prop := cutOwnRow.holds Tryd.pinned (OpenSpec.ofChange cutOwnWrong)

/-- 'umpirelaw5.CutEach': WHATEVER THE INPUT: true; the input reads as it did. -/
def cutEachSpec : ChangeSpec := { name := "cutEach", fn := fun _ => fun
  | [d1, d2] => { results := [.lit (.bool true)], args := [d1, d2] }
  | _ => none }
def cutEachRow : OpenClaim := { program := "ytibleheeajlfjaadoor", sum := "836fef18e67c0363263402d3bd2c3c27029c1ba7a7371b65c357a1a27d4e27aa", func := "umpire/umpirelaw5.CutEach", spec := "cutEach", unfollowed := true, recurses := true, named := ["umpire/api.ErrTx", "umpire/api.ErrIndex", "umpire/api.ErrMany", "umpire/api.ErrObject", "umpire/api.ErrOp", "umpire/event.objects", "umpire/event.events", "umpire/event.ops", "umpire/event.answers", "umpire/event.states", "umpire/event.levels", "umpire/api.ErrCode", "umpire/api.ErrEvent", "umpire/api.ErrTwice", "umpire/api.ErrThread", "umpire/api.ErrOrder", "umpire/api.ErrAnswer"], apart := false, laid := [("umpire/api.ErrMany", laid_umpire_api_ErrMany), ("umpire/api.ErrCode", laid_umpire_api_ErrCode), ("umpire/api.ErrObject", laid_umpire_api_ErrObject), ("umpire/api.ErrEvent", laid_umpire_api_ErrEvent), ("umpire/api.ErrOp", laid_umpire_api_ErrOp), ("umpire/api.ErrAnswer", laid_umpire_api_ErrAnswer), ("umpire/api.ErrTx", laid_umpire_api_ErrTx), ("umpire/api.ErrTwice", laid_umpire_api_ErrTwice), ("umpire/api.ErrThread", laid_umpire_api_ErrThread), ("umpire/api.ErrOrder", laid_umpire_api_ErrOrder), ("umpire/api.ErrIndex", laid_umpire_api_ErrIndex), ("umpire/event.objects", laid_umpire_event_objects), ("umpire/event.events", laid_umpire_event_events), ("umpire/event.ops", laid_umpire_event_ops), ("umpire/event.answers", laid_umpire_event_answers), ("umpire/event.states", laid_umpire_event_states), ("umpire/event.levels", laid_umpire_event_levels)] }
def CutEachSaid : Prop := cutEachRow.holds Tryd.pinned (OpenSpec.ofChange cutEachSpec)

/-- ITS FALSE NEIGHBOUR: 'it returns false'. Refute it at one input. -/
def cutEachWrong : ChangeSpec := { name := "cutEach", fn := fun _ => fun
  | [d1, d2] => { results := [.lit (.bool false)], args := [d1, d2] }
  | _ => none }
def CutEachWrongFalsely : Prop := cutEachRow.holds Tryd.pinned (OpenSpec.ofChange cutEachWrong)

/-- 'umpirelaw5.CutFormed': WHATEVER THE INPUT: true; the input reads as it did. -/
def cutFormedSpec : ChangeSpec := { name := "cutFormed", fn := fun _ => fun
  | [d1, d2, d3, d4] => { results := [.lit (.bool true)], args := [d1, d2, d3, d4] }
  | _ => none }
def cutFormedRow : OpenClaim := { program := "ytibleheeajlfjaadoor", sum := "836fef18e67c0363263402d3bd2c3c27029c1ba7a7371b65c357a1a27d4e27aa", func := "umpire/umpirelaw5.CutFormed", spec := "cutFormed", unfollowed := true, recurses := true, named := ["umpire/api.ErrTx", "umpire/api.ErrIndex", "umpire/api.ErrMany", "umpire/api.ErrObject", "umpire/api.ErrOp", "umpire/event.objects", "umpire/event.events", "umpire/event.ops", "umpire/event.answers", "umpire/event.states", "umpire/event.levels", "umpire/api.ErrCode", "umpire/api.ErrEvent", "umpire/api.ErrTwice", "umpire/api.ErrThread", "umpire/api.ErrOrder", "umpire/api.ErrAnswer"], apart := false, laid := [("umpire/api.ErrMany", laid_umpire_api_ErrMany), ("umpire/api.ErrCode", laid_umpire_api_ErrCode), ("umpire/api.ErrObject", laid_umpire_api_ErrObject), ("umpire/api.ErrEvent", laid_umpire_api_ErrEvent), ("umpire/api.ErrOp", laid_umpire_api_ErrOp), ("umpire/api.ErrAnswer", laid_umpire_api_ErrAnswer), ("umpire/api.ErrTx", laid_umpire_api_ErrTx), ("umpire/api.ErrTwice", laid_umpire_api_ErrTwice), ("umpire/api.ErrThread", laid_umpire_api_ErrThread), ("umpire/api.ErrOrder", laid_umpire_api_ErrOrder), ("umpire/api.ErrIndex", laid_umpire_api_ErrIndex), ("umpire/event.objects", laid_umpire_event_objects), ("umpire/event.events", laid_umpire_event_events), ("umpire/event.ops", laid_umpire_event_ops), ("umpire/event.answers", laid_umpire_event_answers), ("umpire/event.states", laid_umpire_event_states), ("umpire/event.levels", laid_umpire_event_levels)] }
def CutFormedSaid : Prop := cutFormedRow.holds Tryd.pinned (OpenSpec.ofChange cutFormedSpec)

/-- ITS FALSE NEIGHBOUR: 'it returns false'. Refute it at one input. -/
def cutFormedWrong : ChangeSpec := { name := "cutFormed", fn := fun _ => fun
  | [d1, d2, d3, d4] => { results := [.lit (.bool false)], args := [d1, d2, d3, d4] }
  | _ => none }
def CutFormedWrongFalsely : Prop := cutFormedRow.holds Tryd.pinned (OpenSpec.ofChange cutFormedWrong)

/- THE SECOND FORM. 'bulk': how many values and letters a reading holds, each counted each time it is reached (what is shared counts as often as it is met; a slice's spare places count too). A statement '..UptoSaid' is the law's where the arguments, and the package variables that the reading takes, are together of bulk at most 1048576: NARROWER than '..Said'. Prove '..Said' where nothing that the law and all that it calls make is longer than what came in: it says more and counts as full. Else prove '..UptoSaid'. A law counts once. -/
mutual
def uptoBulk {H : Type} : DataW H → Nat
  | .lit (.string bytes) => bytes.length + 1
  | .lit _ => 1
  | .nil => 1
  | .ptr d => uptoBulk d + 1
  | .slice elems spare => uptoBulkAll elems + uptoBulkAll spare + 1
  | .agg parts => uptoBulkAll parts + 1
  | .iface _ d => uptoBulk d + 1
  | .map entries => uptoBulkEntries entries + 1
  | .held _ => 1
def uptoBulkAll {H : Type} : List (DataW H) → Nat
  | [] => 0
  | d :: r => uptoBulk d + uptoBulkAll r
def uptoBulkEntries {H : Type} : List (Lit × DataW H) → Nat
  | [] => 0
  | x :: r => uptoBulkEntry x + uptoBulkEntries r
def uptoBulkEntry {H : Type} : Lit × DataW H → Nat
  | (.string bytes, d) => bytes.length + uptoBulk d + 1
  | (_, d) => uptoBulk d + 1
 end
def uptoSmall : (H : Type) → List (DataW H) → Bool := fun _ ds => decide (uptoBulkAll ds ≤ 1048576)
def OpenSpec.upto (s : _root_.Go.ChangeSpec) : _root_.Go.OpenSpec := { _root_.Go.OpenSpec.ofChange s with cond := some uptoSmall }

/-- 'umpirelaw5.CutMakes', WHERE WHAT IT READS IS OF BULK AT MOST 1048576: true; the input reads as it did. -/
def cutMakesUptoRow : OpenClaim := { program := "ytibleheeajlfjaadoor", sum := "836fef18e67c0363263402d3bd2c3c27029c1ba7a7371b65c357a1a27d4e27aa", func := "umpire/umpirelaw5.CutMakes", spec := "cutMakes", unfollowed := true, recurses := true, named := ["umpire/api.ErrTx", "umpire/api.ErrIndex", "umpire/api.ErrMany", "umpire/api.ErrObject", "umpire/api.ErrOp", "umpire/event.objects", "umpire/event.events", "umpire/event.ops", "umpire/event.answers", "umpire/event.states", "umpire/event.levels", "umpire/api.ErrCode", "umpire/api.ErrEvent", "umpire/api.ErrTwice", "umpire/api.ErrThread", "umpire/api.ErrOrder", "umpire/api.ErrAnswer"], apart := false, laid := [("umpire/api.ErrMany", laid_umpire_api_ErrMany), ("umpire/api.ErrCode", laid_umpire_api_ErrCode), ("umpire/api.ErrObject", laid_umpire_api_ErrObject), ("umpire/api.ErrEvent", laid_umpire_api_ErrEvent), ("umpire/api.ErrOp", laid_umpire_api_ErrOp), ("umpire/api.ErrAnswer", laid_umpire_api_ErrAnswer), ("umpire/api.ErrTx", laid_umpire_api_ErrTx), ("umpire/api.ErrTwice", laid_umpire_api_ErrTwice), ("umpire/api.ErrThread", laid_umpire_api_ErrThread), ("umpire/api.ErrOrder", laid_umpire_api_ErrOrder), ("umpire/api.ErrIndex", laid_umpire_api_ErrIndex), ("umpire/event.objects", laid_umpire_event_objects), ("umpire/event.events", laid_umpire_event_events), ("umpire/event.ops", laid_umpire_event_ops), ("umpire/event.answers", laid_umpire_event_answers), ("umpire/event.states", laid_umpire_event_states), ("umpire/event.levels", laid_umpire_event_levels)], narrowed := true }
def CutMakesUptoSaid : Prop := cutMakesUptoRow.holds Tryd.pinned (OpenSpec.upto cutMakesSpec)

/-- 'umpirelaw5.CutLess', WHERE WHAT IT READS IS OF BULK AT MOST 1048576: true; the input reads as it did. -/
def cutLessUptoRow : OpenClaim := { program := "ytibleheeajlfjaadoor", sum := "836fef18e67c0363263402d3bd2c3c27029c1ba7a7371b65c357a1a27d4e27aa", func := "umpire/umpirelaw5.CutLess", spec := "cutLess", unfollowed := true, recurses := true, named := ["umpire/api.ErrTx", "umpire/api.ErrIndex", "umpire/api.ErrMany", "umpire/api.ErrObject", "umpire/api.ErrOp", "umpire/event.objects", "umpire/event.events", "umpire/event.ops", "umpire/event.answers", "umpire/event.states", "umpire/event.levels", "umpire/api.ErrCode", "umpire/api.ErrEvent", "umpire/api.ErrTwice", "umpire/api.ErrThread", "umpire/api.ErrOrder", "umpire/api.ErrAnswer"], apart := false, laid := [("umpire/api.ErrMany", laid_umpire_api_ErrMany), ("umpire/api.ErrCode", laid_umpire_api_ErrCode), ("umpire/api.ErrObject", laid_umpire_api_ErrObject), ("umpire/api.ErrEvent", laid_umpire_api_ErrEvent), ("umpire/api.ErrOp", laid_umpire_api_ErrOp), ("umpire/api.ErrAnswer", laid_umpire_api_ErrAnswer), ("umpire/api.ErrTx", laid_umpire_api_ErrTx), ("umpire/api.ErrTwice", laid_umpire_api_ErrTwice), ("umpire/api.ErrThread", laid_umpire_api_ErrThread), ("umpire/api.ErrOrder", laid_umpire_api_ErrOrder), ("umpire/api.ErrIndex", laid_umpire_api_ErrIndex), ("umpire/event.objects", laid_umpire_event_objects), ("umpire/event.events", laid_umpire_event_events), ("umpire/event.ops", laid_umpire_event_ops), ("umpire/event.answers", laid_umpire_event_answers), ("umpire/event.states", laid_umpire_event_states), ("umpire/event.levels", laid_umpire_event_levels)], narrowed := true }
def CutLessUptoSaid : Prop := cutLessUptoRow.holds Tryd.pinned (OpenSpec.upto cutLessSpec)

/-- 'umpirelaw5.CutOwn', WHERE WHAT IT READS IS OF BULK AT MOST 1048576: true; the input reads as it did. -/
def cutOwnUptoRow : OpenClaim := { program := "ytibleheeajlfjaadoor", sum := "836fef18e67c0363263402d3bd2c3c27029c1ba7a7371b65c357a1a27d4e27aa", func := "umpire/umpirelaw5.CutOwn", spec := "cutOwn", unfollowed := true, recurses := true, named := ["umpire/api.ErrTx", "umpire/api.ErrIndex", "umpire/api.ErrMany", "umpire/api.ErrObject", "umpire/api.ErrOp", "umpire/event.objects", "umpire/event.events", "umpire/event.ops", "umpire/event.answers", "umpire/event.states", "umpire/event.levels", "umpire/api.ErrCode", "umpire/api.ErrEvent", "umpire/api.ErrTwice", "umpire/api.ErrThread", "umpire/api.ErrOrder", "umpire/api.ErrAnswer"], apart := false, laid := [("umpire/api.ErrMany", laid_umpire_api_ErrMany), ("umpire/api.ErrCode", laid_umpire_api_ErrCode), ("umpire/api.ErrObject", laid_umpire_api_ErrObject), ("umpire/api.ErrEvent", laid_umpire_api_ErrEvent), ("umpire/api.ErrOp", laid_umpire_api_ErrOp), ("umpire/api.ErrAnswer", laid_umpire_api_ErrAnswer), ("umpire/api.ErrTx", laid_umpire_api_ErrTx), ("umpire/api.ErrTwice", laid_umpire_api_ErrTwice), ("umpire/api.ErrThread", laid_umpire_api_ErrThread), ("umpire/api.ErrOrder", laid_umpire_api_ErrOrder), ("umpire/api.ErrIndex", laid_umpire_api_ErrIndex), ("umpire/event.objects", laid_umpire_event_objects), ("umpire/event.events", laid_umpire_event_events), ("umpire/event.ops", laid_umpire_event_ops), ("umpire/event.answers", laid_umpire_event_answers), ("umpire/event.states", laid_umpire_event_states), ("umpire/event.levels", laid_umpire_event_levels)], narrowed := true }
def CutOwnUptoSaid : Prop := cutOwnUptoRow.holds Tryd.pinned (OpenSpec.upto cutOwnSpec)

/-- 'umpirelaw5.CutEach', WHERE WHAT IT READS IS OF BULK AT MOST 1048576: true; the input reads as it did. -/
def cutEachUptoRow : OpenClaim := { program := "ytibleheeajlfjaadoor", sum := "836fef18e67c0363263402d3bd2c3c27029c1ba7a7371b65c357a1a27d4e27aa", func := "umpire/umpirelaw5.CutEach", spec := "cutEach", unfollowed := true, recurses := true, named := ["umpire/api.ErrTx", "umpire/api.ErrIndex", "umpire/api.ErrMany", "umpire/api.ErrObject", "umpire/api.ErrOp", "umpire/event.objects", "umpire/event.events", "umpire/event.ops", "umpire/event.answers", "umpire/event.states", "umpire/event.levels", "umpire/api.ErrCode", "umpire/api.ErrEvent", "umpire/api.ErrTwice", "umpire/api.ErrThread", "umpire/api.ErrOrder", "umpire/api.ErrAnswer"], apart := false, laid := [("umpire/api.ErrMany", laid_umpire_api_ErrMany), ("umpire/api.ErrCode", laid_umpire_api_ErrCode), ("umpire/api.ErrObject", laid_umpire_api_ErrObject), ("umpire/api.ErrEvent", laid_umpire_api_ErrEvent), ("umpire/api.ErrOp", laid_umpire_api_ErrOp), ("umpire/api.ErrAnswer", laid_umpire_api_ErrAnswer), ("umpire/api.ErrTx", laid_umpire_api_ErrTx), ("umpire/api.ErrTwice", laid_umpire_api_ErrTwice), ("umpire/api.ErrThread", laid_umpire_api_ErrThread), ("umpire/api.ErrOrder", laid_umpire_api_ErrOrder), ("umpire/api.ErrIndex", laid_umpire_api_ErrIndex), ("umpire/event.objects", laid_umpire_event_objects), ("umpire/event.events", laid_umpire_event_events), ("umpire/event.ops", laid_umpire_event_ops), ("umpire/event.answers", laid_umpire_event_answers), ("umpire/event.states", laid_umpire_event_states), ("umpire/event.levels", laid_umpire_event_levels)], narrowed := true }
def CutEachUptoSaid : Prop := cutEachUptoRow.holds Tryd.pinned (OpenSpec.upto cutEachSpec)

/-- 'umpirelaw5.CutFormed', WHERE WHAT IT READS IS OF BULK AT MOST 1048576: true; the input reads as it did. -/
def cutFormedUptoRow : OpenClaim := { program := "ytibleheeajlfjaadoor", sum := "836fef18e67c0363263402d3bd2c3c27029c1ba7a7371b65c357a1a27d4e27aa", func := "umpire/umpirelaw5.CutFormed", spec := "cutFormed", unfollowed := true, recurses := true, named := ["umpire/api.ErrTx", "umpire/api.ErrIndex", "umpire/api.ErrMany", "umpire/api.ErrObject", "umpire/api.ErrOp", "umpire/event.objects", "umpire/event.events", "umpire/event.ops", "umpire/event.answers", "umpire/event.states", "umpire/event.levels", "umpire/api.ErrCode", "umpire/api.ErrEvent", "umpire/api.ErrTwice", "umpire/api.ErrThread", "umpire/api.ErrOrder", "umpire/api.ErrAnswer"], apart := false, laid := [("umpire/api.ErrMany", laid_umpire_api_ErrMany), ("umpire/api.ErrCode", laid_umpire_api_ErrCode), ("umpire/api.ErrObject", laid_umpire_api_ErrObject), ("umpire/api.ErrEvent", laid_umpire_api_ErrEvent), ("umpire/api.ErrOp", laid_umpire_api_ErrOp), ("umpire/api.ErrAnswer", laid_umpire_api_ErrAnswer), ("umpire/api.ErrTx", laid_umpire_api_ErrTx), ("umpire/api.ErrTwice", laid_umpire_api_ErrTwice), ("umpire/api.ErrThread", laid_umpire_api_ErrThread), ("umpire/api.ErrOrder", laid_umpire_api_ErrOrder), ("umpire/api.ErrIndex", laid_umpire_api_ErrIndex), ("umpire/event.objects", laid_umpire_event_objects), ("umpire/event.events", laid_umpire_event_events), ("umpire/event.ops", laid_umpire_event_ops), ("umpire/event.answers", laid_umpire_event_answers), ("umpire/event.states", laid_umpire_event_states), ("umpire/event.levels", laid_umpire_event_levels)], narrowed := true }
def CutFormedUptoSaid : Prop := cutFormedUptoRow.holds Tryd.pinned (OpenSpec.upto cutFormedSpec)

end Rows
end Go.Proofs.YtibleheeajlfjaaDoor
