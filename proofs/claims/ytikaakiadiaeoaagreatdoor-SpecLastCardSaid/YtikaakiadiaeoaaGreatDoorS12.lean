/-
  Chapter 6: the listed variables are the executor's globals. Own work (written by program). From a law's summary to its row's post: it answers true, and what it was given reads as it did. Arguments of chapter 7: the kinds of objects fit; a struct of ints. Chapter 6: what the laws' rows have in common. Arguments of chapter 6: rows of three numbers. Chapter 6: the law SpecLast, as its row says. Chapter 6: the tied card of SpecLast.
-/
import Derived.Test.YtikaakiadiaeoaaGreatDoorS11
import Derived.Test.YtikaakiadiaeoaaGreatDoorRows
import Derived.Carry
import Derived.Stop.Joined
import GoSem.PinnedTables
import Derived.Test.YtikaakiadiaeoaaGreatDoorTie
import Derived.Test.YtikaakiadiaeoaaGreatDoorCards
namespace Go.Proofs
open Go Go.Sx Go.RowKit Go.ChangeShapes
theorem star7 : "*" ++ "errors.errorString" = "*errors.errorString" := by decide
theorem row7 (u : TypeId) (h : Tryz.prog.typeName? 3 u = some "*errors.errorString") : u = 242 :=
 typeName_ptr_named (nm := "errors.errorString") (by rw [star7]; kernel_rfl) (by kernel_rfl) (by decide) u (by rw [star7]; exact h)
open YtikaakiadiaeoaaGreatDoor.Rows in
abbrev laid7 : List (String × DataW Unit) := specLineRow.laid
theorem gls_laid {W : World} (h : laidMetH Tryz.prog laid7 W) : GlobOK (gls7 W7) (memOf W) := by
 rw [MakeChecks.laidMetH_plain _ _ _ (by kernel_rfl)] at h
 have e16 : GlobAt (memOf W) 16 (.tup (pow10.map (Sh.i .u64))) := laid_nums (kd := .u64) (texts := pow10) h.tail.tail (by kernel_rfl) (by kernel_rfl) Tryz.underlying233 Tryz.underlying217 (by kernel_rfl) (by kernel_rfl)
 have e15 : GlobAt (memOf W) 15 (.er 15 242) := laid_er h.tail.tail.tail.tail (by kernel_rfl) (by kernel_rfl) Tryz.underlying52 row7 Tryz.underlying242 Tryz.underlying244 rfl rfl Tryz.underlying9 (by kernel_rfl) (by kernel_rfl)
 have e14 : GlobAt (memOf W) 14 (.er 14 242) := laid_er h.tail.tail.tail.tail.tail (by kernel_rfl) (by kernel_rfl) Tryz.underlying52 row7 Tryz.underlying242 Tryz.underlying244 rfl rfl Tryz.underlying9 (by kernel_rfl) (by kernel_rfl)
 have e4 : GlobAt (memOf W) 4 (.er 4 242) := laid_er h.tail.tail.tail.tail.tail.tail (by kernel_rfl) (by kernel_rfl) Tryz.underlying52 row7 Tryz.underlying242 Tryz.underlying244 rfl rfl Tryz.underlying9 (by kernel_rfl) (by kernel_rfl)
 have e2 : GlobAt (memOf W) 2 (.er 2 242) := laid_er h.tail.tail.tail.tail.tail.tail.tail (by kernel_rfl) (by kernel_rfl) Tryz.underlying52 row7 Tryz.underlying242 Tryz.underlying244 rfl rfl Tryz.underlying9 (by kernel_rfl) (by kernel_rfl)
 have e0 : GlobAt (memOf W) 0 (.er 0 242) := laid_er h.tail.tail.tail.tail.tail.tail.tail.tail (by kernel_rfl) (by kernel_rfl) Tryz.underlying52 row7 Tryz.underlying242 Tryz.underlying244 rfl rfl Tryz.underlying9 (by kernel_rfl) (by kernel_rfl)
 have e3 : GlobAt (memOf W) 3 (.er 3 242) := laid_er h.tail.tail.tail.tail.tail.tail.tail.tail.tail (by kernel_rfl) (by kernel_rfl) Tryz.underlying52 row7 Tryz.underlying242 Tryz.underlying244 rfl rfl Tryz.underlying9 (by kernel_rfl) (by kernel_rfl)
 have e1 : GlobAt (memOf W) 1 (.er 1 242) := laid_er h.tail.tail.tail.tail.tail.tail.tail.tail.tail.tail (by kernel_rfl) (by kernel_rfl) Tryz.underlying52 row7 Tryz.underlying242 Tryz.underlying244 rfl rfl Tryz.underlying9 (by kernel_rfl) (by kernel_rfl)
 have e7 : GlobAt (memOf W) 7 (.tup (wds W7 7 4)) := laid_strs (texts := [W7 7 0, W7 7 1, W7 7 2, W7 7 3]) h.tail.tail.tail.tail.tail.tail.tail.tail.tail.tail.tail (by kernel_rfl) (by kernel_rfl) Tryz.underlying182 Tryz.underlying9 (by kernel_rfl) (by kernel_rfl)
 have e8 : GlobAt (memOf W) 8 (.tup (wds W7 8 7)) := laid_strs (texts := [W7 8 0, W7 8 1, W7 8 2, W7 8 3, W7 8 4, W7 8 5, W7 8 6]) h.tail.tail.tail.tail.tail.tail.tail.tail.tail.tail.tail.tail (by kernel_rfl) (by kernel_rfl) Tryz.underlying183 Tryz.underlying9 (by kernel_rfl) (by kernel_rfl)
 have e9 : GlobAt (memOf W) 9 (.tup (wds W7 9 9)) := laid_strs (texts := [W7 9 0, W7 9 1, W7 9 2, W7 9 3, W7 9 4, W7 9 5, W7 9 6, W7 9 7, W7 9 8]) h.tail.tail.tail.tail.tail.tail.tail.tail.tail.tail.tail.tail.tail (by kernel_rfl) (by kernel_rfl) Tryz.underlying184 Tryz.underlying9 (by kernel_rfl) (by kernel_rfl)
 have e10 : GlobAt (memOf W) 10 (.tup (wds W7 10 3)) := laid_strs (texts := [W7 10 0, W7 10 1, W7 10 2]) h.tail.tail.tail.tail.tail.tail.tail.tail.tail.tail.tail.tail.tail.tail (by kernel_rfl) (by kernel_rfl) Tryz.underlying185 Tryz.underlying9 (by kernel_rfl) (by kernel_rfl)
 have e11 : GlobAt (memOf W) 11 (.tup (wds W7 11 4)) := laid_strs (texts := [W7 11 0, W7 11 1, W7 11 2, W7 11 3]) h.tail.tail.tail.tail.tail.tail.tail.tail.tail.tail.tail.tail.tail.tail.tail (by kernel_rfl) (by kernel_rfl) Tryz.underlying182 Tryz.underlying9 (by kernel_rfl) (by kernel_rfl)
 have e12 : GlobAt (memOf W) 12 (.tup (wds W7 12 4)) := laid_strs (texts := [W7 12 0, W7 12 1, W7 12 2, W7 12 3]) h.tail.tail.tail.tail.tail.tail.tail.tail.tail.tail.tail.tail.tail.tail.tail.tail (by kernel_rfl) (by kernel_rfl) Tryz.underlying182 Tryz.underlying9 (by kernel_rfl) (by kernel_rfl)
 intro g s hg
 match g, hg with
 | 0, hg => cases hg; exact e0
 | 1, hg => cases hg; exact e1
 | 2, hg => cases hg; exact e2
 | 3, hg => cases hg; exact e3
 | 4, hg => cases hg; exact e4
 | 5, hg => cases hg
 | 6, hg => cases hg
 | 7, hg => cases hg; exact e7
 | 8, hg => cases hg; exact e8
 | 9, hg => cases hg; exact e9
 | 10, hg => cases hg; exact e10
 | 11, hg => cases hg; exact e11
 | 12, hg => cases hg; exact e12
 | 13, hg => cases hg
 | 14, hg => cases hg; exact e14
 | 15, hg => cases hg; exact e15
 | 16, hg => cases hg; exact e16
 | n + 17, hg => simp [gls7, look?] at hg
end Go.Proofs
namespace Go.Sx
open Go.RowKit Go.ChangeShapes Go.WideShapes Go.Deep Go.Pl
theorem SpecRes.below {H : Mem} {w w' : World} {s : Sh} {v : Value} {H' : Mem} (h : SpecRes H w s v H' w') : Below w.heap.size w w' := ⟨h.os, h.tape, h.output, h.size, h.old⟩
theorem SpecRes.bool {H : Mem} {w w' : World} {b : Bool} {v : Value} {H' : Mem} (h : SpecRes H w (.b b) v H' w') : v = .bool b := by
 obtain ⟨E1, _, _, h1, _⟩ := h.res 0
 exact h1
def rowedB (P : Program) (ts : List TypeId) : Bool := ts.all fun t => P.readableRec t && decide (t < P.types.size)
section
variable {H : Type} {enc : TypeId × Value → H} {P : Program}
theorem below_all (hl : laidOutB P = true) {W W' : World} (hb : Below W.heap.size W W') :
  ∀ {ts : List TypeId} {vs : List Value} {ds : List (DataW H)} {p : List MemPlace}, rowedB P ts = true → DataW.TrodAll enc P W 0 (fun _ => true) true ts vs ds p → (∀ x ∈ p, x.block < W.heap.size) →
   DataW.TrodAll enc P W' 0 (fun b => decide (b < W.heap.size)) true ts vs ds p
 | [], _, _, _, _, h, _ => by
  obtain ⟨rfl, rfl, rfl⟩ := trodAll_nil h
  exact rfl
 | t :: ts, _, _, _, hr, h, hlt => by
  obtain ⟨v, vs1, d, ds1, a, b, rfl, rfl, rfl, h1, h2⟩ := trodAll_cons h
  simp only [rowedB, List.all_cons, Bool.and_eq_true, decide_eq_true_eq] at hr
  exact ⟨a, b, Below.trod hl hr.1.1 hr.1.2 h1 hb fun x hx => hlt x (List.mem_append_left _ hx), below_all hl hb (by simp only [rowedB]; exact hr.2) h2 fun x hx => hlt x (List.mem_append_right _ hx), rfl⟩
theorem post_law (hl : laidOutB P = true) {f : Func} {s : ChangeSpec} {W W' : World} {args : Array Value} {t : TypeId} {ds gs : List (DataW H)} {before : List MemPlace} (hs : s.vars = []) (hr : rowedB P f.params.toList = true) (ht : f.resultTypes = #[t]) (hu : P.underlying t = some .bool)
  (hW : DataW.Whole enc P f.params.toList s.vars false W args.toList ds gs before) (hb : Below W.heap.size W W')
  (h1 : (s.fn H (ds ++ gs)).results = [.lit (.bool true)]) (h2 : (s.fn H (ds ++ gs)).args = ds) (h3 : (s.fn H (ds ++ gs)).vars = []) :
  s.post enc P f false true false false W args (.bool true) W' := by
 have hlt := hW.lt
 have hW0 := hW
 obtain ⟨p, q, hA, hV, e, hfz, hnd⟩ := hW
 rw [hs] at hV
 obtain ⟨rfl, rfl⟩ := trodVars_none hV
 subst e
 refine ⟨ds, [], p ++ [], [], p, [], hW0, ?_, ?_, ?_, Below.frame hb _, fun e => by cases e⟩
 ·rw [h1, ht]
  exact trodAll_mk1 (shut_bool hu true)
 ·rw [h2]
  exact below_all hl hb hr hA fun x hx => hlt x (by simpa using hx)
 ·rw [h3, hs]
  exact rfl
end
theorem okB_rows {α : Type} [Row α] {k n : Nat} {g : Nat → List Sh} (hk : ∀ ns : List Int, ns.length = k → (Row.get (α := α) (shInts ns)).isSome = true) (h : ∀ i, i < n → ∃ ns : List Int, ns.length = k ∧ g i = shInts ns ∧ ∀ n ∈ ns, int64 n) : okB α n g = true := by
 induction n with
 | zero => rfl
 | succ n ih =>
  obtain ⟨ns, h1, h2, _⟩ := h n (by omega)
  simp only [okB, ih fun i hi => h i (by omega), Bool.true_and]
  rw [h2]
  exact hk ns h1
end Go.Sx
namespace Go.Sx
open Go.RowKit Go.ChangeShapes Go.WideShapes Go.Deep Go.Pl
section
variable {H : Type} {enc : TypeId × Value → H} {P : Program} {w : World} {base : Nat} {spare : Nat → Bool} {held : Bool}
end
end Go.Sx
namespace Go.Proofs.YtikaakiadiaeoaaGreatDoor
open Go.ChangeShapes Go.WideShapes Go.ChangeAt Go.WideMaps Go.WideElems Go.RowKit Go.Sx Go.Pl
theorem own7 : ownKnob Tryz.prog.godebug = none := by kernel_rfl
theorem laidOut7 : laidOutB Tryz.prog = true := by kernel_rfl
noncomputable def firstG : Nat := (Tryz.prog.globalNamed "unicode/utf8.first").getD 0
noncomputable def door6 (os : Os) : World :=
 { World.doorLaid Tryz.prog 400 os with heap := (World.doorLaid Tryz.prog 400 os).heap.modify firstG fun o => match o with
  | .cells _ e f => .cells (Go.Pinned.utf8FirstZ.map fun n => Value.int .u8 (Int.ofNat n)).toArray e f
  | o => o }
theorem door7 (os : Os) (args : Array Value) : laidMetH Tryz.prog laid7 ((door6 os).forCall (fun _ _ => 0) ⟨#[], args, []⟩).memory :=
 laidMetH_of_parts3 (fuel := 8) (laidMet_of_run' 8 (by kernel_rfl) (by kernel_rfl)) (by kernel_rfl) (by kernel_rfl)
end Go.Proofs.YtikaakiadiaeoaaGreatDoor
namespace Go.Sx
open Go Go.RowKit Go.Pl
theorem okB_cp {n : Nat} {g : Nat → List Sh} (h : ∀ i, i < n → ∃ ns : List Int, ns.length = 3 ∧ g i = shInts ns ∧ ∀ n ∈ ns, int64 n) : okB Ca n g = true := okB_rows (fun ns hn => by
 match ns, hn with
 | [a, b, c], _ => rfl) h
end Go.Sx
namespace Go.Proofs.YtikaakiadiaeoaaGreatDoor
open Go.ChangeShapes Go.WideShapes Go.ChangeAt Go.WideMaps Go.WideElems Go.RowKit Go.Sx Go.Pl
set_option maxRecDepth 100000 in
theorem lifted8 (os : Os) (started : os.Started) (H : Type) (enc : TypeId × Value → H) :
  ReturnsInHanded {} Tryz.checked os 8 .any (fun w args => (Rows.specLastSpec.pre enc Tryz.prog Tryz.f8 [] false w args ∧ laidMetH Tryz.prog laid7 w) ∧ sizedMet enc Tryz.prog Tryz.f8 (OpenSpec.ofChange Rows.specLastSpec) false w args)
   (Rows.specLastSpec.post enc Tryz.prog Tryz.f8 false true false false) := by
 refine returnsInHanded_of_change_and (C := Tryz.checked) (X := fun w _ => laidMetH Tryz.prog laid7 w) (fun _ _ _ hh h => h.of_heap hh) own7 started (by kernel_rfl) Tryz.func8
  (ChangeSpec.witness_shaped (enc := enc) (C := Tryz.checked) (os := os) (X := fun w _ => laidMetH Tryz.prog laid7 w) false (door6 os) #[.slice none 0 0, .int .i64 0] 8 rfl (World.shaped_of_RefB (by kernel_rfl) (by kernel_rfl)) (by kernel_rfl) (by kernel_rfl) (by kernel_rfl) (door7 os _)) ?_
 intro W base args ds gs before hval0 hW _ _ hL _
 have hval : ∀ (j : Nat) t v, Tryz.f8.params[j]? = some t → args[j]? = some v → Value.okWide Tryz.prog W .any base t v := hval0
 have hW' := hW
 obtain ⟨p, q, hA0, hV, e, hfz, hnd⟩ := hW
 obtain ⟨rfl, rfl⟩ := trodVars_none hV
 have hA : DataW.TrodAll enc Tryz.prog W 0 (fun _ => true) true Tryz.f8.params.toList args.toList ds p := hA0
 rw [Tryz.params8] at hA hval
 obtain ⟨v0, vs0, d0, ds0, p0, q0, ea, rfl, rfl, t0, hA⟩ := trodAll_cons hA
 obtain ⟨v1, vs1, d1, ds1, p1, q1, rfl, rfl, rfl, t1, hA⟩ := trodAll_cons hA
 obtain ⟨rfl, rfl, rfl⟩ := trodAll_nil hA
 have at_ : ∀ (j : Nat) v, [v0, v1][j]? = some v → args[j]? = some v := fun j v h => by rw [← Array.getElem?_toList, ea]; exact h
 obtain ⟨k0, s0, r0, a0⟩ := rep_slice_arg (k := 3) Tryz.underlying83 (by kernel_rfl) (by kernel_rfl) (by decide) (hval 0 83 v0 rfl (at_ 0 v0 rfl)) t0
 obtain ⟨x1, rfl, _, _, _⟩ := open_int Tryz.underlying3 (hval 1 3 v1 rfl (at_ 1 v1 rfl)) t1
 have hc := O8 (memOf W) W [.sl 3 k0 s0, .i .i64 x1] [v0, .int .i64 x1] (fun s => s = .b true) (memOf_on W) (gls_laid hL)
  ⟨r0, .i _ _, trivial⟩ ⟨okB_cp a0, rfl⟩
 have eargs : args = [v0, .int .i64 x1].toArray := by rw [← ea]
 rw [eargs]
 refine hc.mono fun e W' ⟨v, s, H', he, hs, hr⟩ => ?_
 subst he hs
 obtain rfl := hr.bool
 refine ⟨_, rfl, post_law laidOut7 rfl (by kernel_rfl) (by kernel_rfl) Tryz.underlying4 (by rw [eargs] at hW'; exact hW') hr.below rfl rfl rfl⟩
theorem specLast_holds : Rows.SpecLastSaid :=
 OpenClaim.holds_of_wide 8 Tryz.f8 rfl rfl rfl rfl rfl rfl rfl ⟨rfl, rfl, rfl, rfl, rfl⟩ rfl rfl rfl rfl rfl (by kernel_rfl) Tryz.func8 (by kernel_rfl)
  (of_decide_eq_true (by kernel_rfl)) (by unfold Func.isWrapper; first | (rw [if_pos (by decide +kernel)]; kernel_rfl) | (rw [if_neg (by decide +kernel)]; exact ⟨rfl, rfl⟩))
  (fun os started H enc _ => lifted8 os started H enc)
end Go.Proofs.YtikaakiadiaeoaaGreatDoor
namespace Go.Proofs.YtikaakiadiaeoaaGreatDoor
open Go
theorem specLast_card : Rows.SpecLastCardSaid :=
 Claim7.holds_tied_plain_at .later [] [.data, .data, .data, .data, .sentinel, .sentinel, .sentinel, .sentinel, .sentinel, .sentinel, .sentinel, .data, .data, .data, .data, .data, .data, .pinned] true (true, "4a60ae6fac43e9984ca8293a95a0ce4093e80da91277938538b84fd690e406b6") true
  specLast_holds (fun _ h => by cases h) (by kernel_rfl) (fun _ h => by cases h) specLast_row_tie rfl ⟨rfl, rfl⟩ (by kernel_rfl) rfl
  (fun f fn hf hfn => by
   obtain rfl : f = 8 := Option.some.inj ((show Tryz.prog.funcNamed "umpire/umpirelaw6.SpecLast" = some 8 by kernel_rfl).symm.trans hf) |>.symm
   obtain rfl : fn = Tryz.f8 := (Option.some.inj (Tryz.func8.symm.trans hfn)).symm
   exact ⟨by kernel_rfl, fun j t ht => by
    rw [Tryz.params8] at ht
    have hm : t ∈ [83, 3] := by simpa using Array.mem_of_getElem? ht
    have hall : ([83, 3].all fun u => !Tryz.prog.wantsStandIn u) = true := by kernel_rfl
    exact (show Tryz.prog.wantsStandIn t = false by simpa using List.all_eq_true.1 hall t hm)⟩)
  (by kernel_rfl)
#print axioms specLast_card
end Go.Proofs.YtikaakiadiaeoaaGreatDoor
