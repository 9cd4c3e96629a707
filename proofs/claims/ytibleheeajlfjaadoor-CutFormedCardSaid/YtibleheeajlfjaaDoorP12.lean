/-
  Chapter 5: the listed variables are the executor's globals. Own work (written by program, mklb.py). From a law's summary to its row's post: it answers true, and what it was given reads as it did. Own work. Chapter 5: what the laws' rows have in common. Own work. Chapter 5: the law CutFormed, as its row says. Own work (written by program, mkj.py). Chapter 5: the tied card of CutFormed. Own work (written by program, mkj.py).
-/
import Derived.Test.YtibleheeajlfjaaDoorP11
import Derived.Test.YtibleheeajlfjaaDoorRows
import Derived.Carry
import Derived.Stop.Joined
import Derived.Test.YtibleheeajlfjaaDoorTie
import Derived.Test.YtibleheeajlfjaaDoorCards
namespace Go.Proofs
open Go Go.Sx Go.RowKit Go.ChangeShapes
theorem star5 : "*" ++ "errors.errorString" = "*errors.errorString" := by decide
theorem row5 (u : TypeId) (h : Tryd.prog.typeName? 3 u = some "*errors.errorString") : u = 125 :=
  typeName_ptr_named (nm := "errors.errorString") (by rw [star5]; kernel_rfl) (by kernel_rfl) (by decide) u (by rw [star5]; exact h)
open YtibleheeajlfjaaDoor.Rows in
/-- What the rows list. -/
abbrev laid5 : List (String × DataW Unit) := cutMakesRow.laid
theorem gls_laid {W : World} (h : laidMetH Tryd.prog laid5 W) : GlobOK (gls5 W5) (memOf W) := by
  rw [MakeChecks.laidMetH_plain _ _ _ (by kernel_rfl)] at h
  have e2 : GlobAt (memOf W) 2 (.er 2 125) := laid_er h (by kernel_rfl) (by kernel_rfl) Tryd.underlying43 row5 Tryd.underlying125 Tryd.underlying142 rfl rfl Tryd.underlying9 (by kernel_rfl) (by kernel_rfl)
  have e8 : GlobAt (memOf W) 8 (.er 8 125) := laid_er h.tail (by kernel_rfl) (by kernel_rfl) Tryd.underlying43 row5 Tryd.underlying125 Tryd.underlying142 rfl rfl Tryd.underlying9 (by kernel_rfl) (by kernel_rfl)
  have e3 : GlobAt (memOf W) 3 (.er 3 125) := laid_er h.tail.tail (by kernel_rfl) (by kernel_rfl) Tryd.underlying43 row5 Tryd.underlying125 Tryd.underlying142 rfl rfl Tryd.underlying9 (by kernel_rfl) (by kernel_rfl)
  have e9 : GlobAt (memOf W) 9 (.er 9 125) := laid_er h.tail.tail.tail (by kernel_rfl) (by kernel_rfl) Tryd.underlying43 row5 Tryd.underlying125 Tryd.underlying142 rfl rfl Tryd.underlying9 (by kernel_rfl) (by kernel_rfl)
  have e4 : GlobAt (memOf W) 4 (.er 4 125) := laid_er h.tail.tail.tail.tail (by kernel_rfl) (by kernel_rfl) Tryd.underlying43 row5 Tryd.underlying125 Tryd.underlying142 rfl rfl Tryd.underlying9 (by kernel_rfl) (by kernel_rfl)
  have e10 : GlobAt (memOf W) 10 (.er 10 125) := laid_er h.tail.tail.tail.tail.tail (by kernel_rfl) (by kernel_rfl) Tryd.underlying43 row5 Tryd.underlying125 Tryd.underlying142 rfl rfl Tryd.underlying9 (by kernel_rfl) (by kernel_rfl)
  have e0 : GlobAt (memOf W) 0 (.er 0 125) := laid_er h.tail.tail.tail.tail.tail.tail (by kernel_rfl) (by kernel_rfl) Tryd.underlying43 row5 Tryd.underlying125 Tryd.underlying142 rfl rfl Tryd.underlying9 (by kernel_rfl) (by kernel_rfl)
  have e5 : GlobAt (memOf W) 5 (.er 5 125) := laid_er h.tail.tail.tail.tail.tail.tail.tail (by kernel_rfl) (by kernel_rfl) Tryd.underlying43 row5 Tryd.underlying125 Tryd.underlying142 rfl rfl Tryd.underlying9 (by kernel_rfl) (by kernel_rfl)
  have e6 : GlobAt (memOf W) 6 (.er 6 125) := laid_er h.tail.tail.tail.tail.tail.tail.tail.tail (by kernel_rfl) (by kernel_rfl) Tryd.underlying43 row5 Tryd.underlying125 Tryd.underlying142 rfl rfl Tryd.underlying9 (by kernel_rfl) (by kernel_rfl)
  have e7 : GlobAt (memOf W) 7 (.er 7 125) := laid_er h.tail.tail.tail.tail.tail.tail.tail.tail.tail (by kernel_rfl) (by kernel_rfl) Tryd.underlying43 row5 Tryd.underlying125 Tryd.underlying142 rfl rfl Tryd.underlying9 (by kernel_rfl) (by kernel_rfl)
  have e1 : GlobAt (memOf W) 1 (.er 1 125) := laid_er h.tail.tail.tail.tail.tail.tail.tail.tail.tail.tail (by kernel_rfl) (by kernel_rfl) Tryd.underlying43 row5 Tryd.underlying125 Tryd.underlying142 rfl rfl Tryd.underlying9 (by kernel_rfl) (by kernel_rfl)
  have e11 : GlobAt (memOf W) 11 (.tup (wds W5 11 4)) := laid_strs (texts := [W5 11 0, W5 11 1, W5 11 2, W5 11 3]) h.tail.tail.tail.tail.tail.tail.tail.tail.tail.tail.tail (by kernel_rfl) (by kernel_rfl) Tryd.underlying120 Tryd.underlying9 (by kernel_rfl)
  have e12 : GlobAt (memOf W) 12 (.tup (wds W5 12 7)) := laid_strs (texts := [W5 12 0, W5 12 1, W5 12 2, W5 12 3, W5 12 4, W5 12 5, W5 12 6]) h.tail.tail.tail.tail.tail.tail.tail.tail.tail.tail.tail.tail (by kernel_rfl) (by kernel_rfl) Tryd.underlying122 Tryd.underlying9 (by kernel_rfl)
  have e13 : GlobAt (memOf W) 13 (.tup (wds W5 13 9)) := laid_strs (texts := [W5 13 0, W5 13 1, W5 13 2, W5 13 3, W5 13 4, W5 13 5, W5 13 6, W5 13 7, W5 13 8]) h.tail.tail.tail.tail.tail.tail.tail.tail.tail.tail.tail.tail.tail (by kernel_rfl) (by kernel_rfl) Tryd.underlying123 Tryd.underlying9 (by kernel_rfl)
  have e14 : GlobAt (memOf W) 14 (.tup (wds W5 14 3)) := laid_strs (texts := [W5 14 0, W5 14 1, W5 14 2]) h.tail.tail.tail.tail.tail.tail.tail.tail.tail.tail.tail.tail.tail.tail (by kernel_rfl) (by kernel_rfl) Tryd.underlying124 Tryd.underlying9 (by kernel_rfl)
  have e15 : GlobAt (memOf W) 15 (.tup (wds W5 15 4)) := laid_strs (texts := [W5 15 0, W5 15 1, W5 15 2, W5 15 3]) h.tail.tail.tail.tail.tail.tail.tail.tail.tail.tail.tail.tail.tail.tail.tail (by kernel_rfl) (by kernel_rfl) Tryd.underlying120 Tryd.underlying9 (by kernel_rfl)
  have e16 : GlobAt (memOf W) 16 (.tup (wds W5 16 4)) := laid_strs (texts := [W5 16 0, W5 16 1, W5 16 2, W5 16 3]) h.tail.tail.tail.tail.tail.tail.tail.tail.tail.tail.tail.tail.tail.tail.tail.tail (by kernel_rfl) (by kernel_rfl) Tryd.underlying120 Tryd.underlying9 (by kernel_rfl)
  intro g s hg
  match g, hg with
  | 0, hg => cases hg; exact e0
  | 1, hg => cases hg; exact e1
  | 2, hg => cases hg; exact e2
  | 3, hg => cases hg; exact e3
  | 4, hg => cases hg; exact e4
  | 5, hg => cases hg; exact e5
  | 6, hg => cases hg; exact e6
  | 7, hg => cases hg; exact e7
  | 8, hg => cases hg; exact e8
  | 9, hg => cases hg; exact e9
  | 10, hg => cases hg; exact e10
  | 11, hg => cases hg; exact e11
  | 12, hg => cases hg; exact e12
  | 13, hg => cases hg; exact e13
  | 14, hg => cases hg; exact e14
  | 15, hg => cases hg; exact e15
  | 16, hg => cases hg; exact e16
  | n + 17, hg => simp [gls5, look?] at hg
end Go.Proofs
namespace Go.Sx
open Go.RowKit Go.ChangeShapes Go.WideShapes Go.Deep Go.Pl
theorem SpecRes.below {H : Mem} {w w' : World} {s : Sh} {v : Value} {H' : Mem} (h : SpecRes H w s v H' w') : Below w.heap.size w w' := ⟨h.os, h.tape, h.output, h.size, h.old⟩
theorem SpecRes.bool {H : Mem} {w w' : World} {b : Bool} {v : Value} {H' : Mem} (h : SpecRes H w (.b b) v H' w') : v = .bool b := by
  obtain ⟨E1, _, _, h1, _⟩ := h.res 0
  exact h1
/-- Each parameter's type can be read. -/
def rowedB (P : Program) (ts : List TypeId) : Bool := ts.all fun t => P.readableRec t && decide (t < P.types.size)
section
variable {H : Type} {enc : TypeId × Value → H} {P : Program}
theorem below_all (hl : laidOutB P = true) {W W' : World} (hb : Below W.heap.size W W') :
    ∀ {ts : List TypeId} {vs : List Value} {ds : List (DataW H)} {p : List MemPlace}, rowedB P ts = true → DataW.TrodAll enc P W 0 (fun _ => true) true ts vs ds p → (∀ x ∈ p, x.block < W.heap.size) →
      DataW.TrodAll enc P W' 0 (fun b => decide (b < W.heap.size)) true ts vs ds p
  | [], _, _, _, _, h, _ => by
    obtain ⟨rfl, rfl, rfl⟩ := trodAll_nil h
    exact rfl
  | t :: ts, _, _, _, hr, h, hlt => by
    obtain ⟨v, vs1, d, ds1, a, b, rfl, rfl, rfl, h1, h2⟩ := trodAll_cons h
    simp only [rowedB, List.all_cons, Bool.and_eq_true, decide_eq_true_eq] at hr
    exact ⟨a, b, Below.trod hl hr.1.1 hr.1.2 h1 hb fun x hx => hlt x (List.mem_append_left _ hx), below_all hl hb (by simp only [rowedB]; exact hr.2) h2 fun x hx => hlt x (List.mem_append_right _ hx), rfl⟩
/-- The row's post of a law that has answered true. -/
theorem post_law (hl : laidOutB P = true) {f : Func} {s : ChangeSpec} {W W' : World} {args : Array Value} {t : TypeId} {ds gs : List (DataW H)} {before : List MemPlace} (hs : s.vars = []) (hr : rowedB P f.params.toList = true) (ht : f.resultTypes = #[t]) (hu : P.underlying t = some .bool)
    (hW : DataW.Whole enc P f.params.toList s.vars false W args.toList ds gs before) (hb : Below W.heap.size W W')
    (h1 : (s.fn H (ds ++ gs)).results = [.lit (.bool true)]) (h2 : (s.fn H (ds ++ gs)).args = ds) (h3 : (s.fn H (ds ++ gs)).vars = []) :
    s.post enc P f false true false false W args (.bool true) W' := by
  have hlt := hW.lt
  have hW0 := hW
  obtain ⟨p, q, hA, hV, e, hfz, hnd⟩ := hW
  rw [hs] at hV
  obtain ⟨rfl, rfl⟩ := trodVars_none hV
  subst e
  refine ⟨ds, [], p ++ [], [], p, [], hW0, ?_, ?_, ?_, Below.frame hb _, fun e => by cases e⟩
  · rw [h1, ht]
    exact trodAll_mk1 (shut_bool hu true)
  · rw [h2]
    exact below_all hl hb hr hA fun x hx => hlt x (by simpa using hx)
  · rw [h3, hs]
    exact rfl
end
theorem okB_rows {α : Type} [Row α] {k n : Nat} {g : Nat → List Sh} (hk : ∀ ns : List Int, ns.length = k → (Row.get (α := α) (shInts ns)).isSome = true) (h : ∀ i, i < n → ∃ ns : List Int, ns.length = k ∧ g i = shInts ns ∧ ∀ n ∈ ns, int64 n) : okB α n g = true := by
  induction n with
  | zero => rfl
  | succ n ih =>
    obtain ⟨ns, h1, h2, _⟩ := h n (by omega)
    simp only [okB, ih fun i hi => h i (by omega), Bool.true_and]
    rw [h2]
    exact hk ns h1
theorem okB_oj {n : Nat} {g : Nat → List Sh} (h : ∀ i, i < n → ∃ ns : List Int, ns.length = 2 ∧ g i = shInts ns ∧ ∀ n ∈ ns, int64 n) : okB Oj n g = true := okB_rows (fun ns hn => by
  match ns, hn with
  | [a, b], _ => rfl) h
theorem okB_ev {n : Nat} {g : Nat → List Sh} (h : ∀ i, i < n → ∃ ns : List Int, ns.length = 8 ∧ g i = shInts ns ∧ ∀ n ∈ ns, int64 n) : okB Ev n g = true := okB_rows (fun ns hn => by
  match ns, hn with
  | [a, b, c, d, e, f, g, h], _ => rfl) h
theorem okB_in {n : Nat} {g : Nat → List Sh} (h : ∀ i, i < n → ∃ ns : List Int, ns.length = 1 ∧ g i = shInts ns ∧ ∀ n ∈ ns, int64 n) : okB Int n g = true := okB_rows (fun ns hn => by
  match ns, hn with
  | [a], _ => rfl) h
end Go.Sx
namespace Go.Pl
open Go Go.Sx Go.RowKit Go.Deep
theorem retsB_ev {n : Nat} {g : Nat → List Sh} (h : ∀ i, i < n → ∃ ns : List Int, ns.length = 8 ∧ g i = shInts ns ∧ ∀ n ∈ ns, int64 n) : retsB n g = true := List.all_eq_true.2 fun i hi => by
  obtain ⟨ns, h1, h2, h3⟩ := h i (List.mem_range.1 hi)
  match ns, h1 with
  | [a, b, c, d, e, f, x, y], _ =>
    have hy := h3 y (by simp)
    unfold rwAt
    rw [h2]
    have e : ((Row.get (shInts [a, b, c, d, e, f, x, y])).getD Row.dft : Ev).ret = y := rfl
    rw [e]
    have hy : (Lit.int .i64 y).wf = true := hy
    simp only [Lit.wf, Bool.and_eq_true, decide_eq_true_eq] at hy
    exact decide_eq_true hy
end Go.Pl
namespace Go.Proofs.YtibleheeajlfjaaDoor
open Go.ChangeShapes Go.WideShapes Go.ChangeAt Go.WideMaps Go.WideElems Go.RowKit Go.Sx Go.Pl
theorem own5 : ownKnob Tryd.prog.godebug = none := by kernel_rfl
theorem laidOut5 : laidOutB Tryd.prog = true := by kernel_rfl
/-- The door's own heap meets the condition. -/
theorem door5 (os : Os) (args : Array Value) : laidMetH Tryd.prog laid5 ((World.doorLaid Tryd.prog 400 os).forCall (fun _ _ => 0) ⟨#[], args, []⟩).memory :=
  laidMetH_of_parts3 (fuel := 8) (laidMet_of_run' 8 (by kernel_rfl) (by kernel_rfl)) (by kernel_rfl) (by kernel_rfl)
end Go.Proofs.YtibleheeajlfjaaDoor
namespace Go.Proofs.YtibleheeajlfjaaDoor
open Go.ChangeShapes Go.WideShapes Go.ChangeAt Go.WideMaps Go.WideElems Go.RowKit Go.Sx Go.Pl
set_option maxRecDepth 100000 in
theorem lifted7 (os : Os) (started : os.Started) (H : Type) (enc : TypeId × Value → H) :
    ReturnsInHanded {} Tryd.checked os 7 .any (fun w args => (Rows.cutFormedSpec.pre enc Tryd.prog Tryd.f7 [] false w args ∧ laidMetH Tryd.prog laid5 w) ∧ sizedMet enc Tryd.prog Tryd.f7 (OpenSpec.ofChange Rows.cutFormedSpec) false w args)
      (Rows.cutFormedSpec.post enc Tryd.prog Tryd.f7 false true false false) := by
  refine returnsInHanded_of_change_and (C := Tryd.checked) (X := fun w _ => laidMetH Tryd.prog laid5 w) (fun _ _ _ hh h => h.of_heap hh) own5 started (by kernel_rfl) Tryd.func7
    (ChangeSpec.witness_shaped (enc := enc) (C := Tryd.checked) (os := os) (X := fun w _ => laidMetH Tryd.prog laid5 w) false (World.doorLaid Tryd.prog 400 os) #[.agg #[.slice none 0 0, .slice none 0 0], .int .i64 0, .int .i64 0, .int .i64 0] 8 rfl (World.shaped_of_RefB (by kernel_rfl) (by kernel_rfl)) (by kernel_rfl) (by kernel_rfl) (by kernel_rfl) (door5 os _)) ?_
  intro W base args ds gs before hval0 hW _ _ hL _
  have hval : ∀ (j : Nat) t v, Tryd.f7.params[j]? = some t → args[j]? = some v → Value.okWide Tryd.prog W .any base t v := hval0
  have hW' := hW
  obtain ⟨p, q, hA0, hV, e, hfz, hnd⟩ := hW
  obtain ⟨rfl, rfl⟩ := trodVars_none hV
  have hA : DataW.TrodAll enc Tryd.prog W 0 (fun _ => true) true Tryd.f7.params.toList args.toList ds p := hA0
  rw [Tryd.params7] at hA hval
  obtain ⟨v0, vs0, d0, ds0, p0, q0, ea, rfl, rfl, t0, hA⟩ := trodAll_cons hA
  obtain ⟨v1, vs1, d1, ds1, p1, q1, rfl, rfl, rfl, t1, hA⟩ := trodAll_cons hA
  obtain ⟨v2, vs2, d2, ds2, p2, q2, rfl, rfl, rfl, t2, hA⟩ := trodAll_cons hA
  obtain ⟨v3, vs3, d3, ds3, p3, q3, rfl, rfl, rfl, t3, hA⟩ := trodAll_cons hA
  obtain ⟨rfl, rfl, rfl⟩ := trodAll_nil hA
  have at_ : ∀ (j : Nat) v, [v0, v1, v2, v3][j]? = some v → args[j]? = some v := fun j v h => by rw [← Array.getElem?_toList, ea]; exact h
  obtain ⟨n0, g0, m0, h0, r0, a0, b0⟩ := rep_pair (k0 := 2) (k1 := 8) (by kernel_rfl) (by decide) (by decide) (hval 0 25 v0 rfl (at_ 0 v0 rfl)) t0
  obtain ⟨x1, rfl, _, _, _⟩ := open_int Tryd.underlying3 (hval 1 3 v1 rfl (at_ 1 v1 rfl)) t1
  obtain ⟨x2, rfl, _, _, _⟩ := open_int Tryd.underlying3 (hval 2 3 v2 rfl (at_ 2 v2 rfl)) t2
  obtain ⟨x3, rfl, _, _, _⟩ := open_int Tryd.underlying3 (hval 3 3 v3 rfl (at_ 3 v3 rfl)) t3
  have hc := O7 (memOf W) W [.agg [.sl 2 n0 g0, .sl 8 m0 h0], .i .i64 x1, .i .i64 x2, .i .i64 x3] [v0, .int .i64 x1, .int .i64 x2, .int .i64 x3] (fun s => s = .b true) (memOf_on W) (gls_laid hL)
    ⟨r0, .i _ _, .i _ _, .i _ _, trivial⟩ ⟨okB_oj a0, okB_ev b0, retsB_ev b0, rfl⟩
  have eargs : args = [v0, .int .i64 x1, .int .i64 x2, .int .i64 x3].toArray := by rw [← ea]
  rw [eargs]
  refine hc.mono fun e W' ⟨v, s, H', he, hs, hr⟩ => ?_
  subst he hs
  obtain rfl := hr.bool
  refine ⟨_, rfl, post_law laidOut5 rfl (by kernel_rfl) (by kernel_rfl) Tryd.underlying4 (by rw [eargs] at hW'; exact hW') hr.below rfl rfl rfl⟩
theorem cutFormed_holds : Rows.CutFormedSaid :=
  OpenClaim.holds_of_wide 7 Tryd.f7 rfl rfl rfl rfl rfl rfl rfl ⟨rfl, rfl, rfl, rfl, rfl⟩ rfl rfl rfl rfl rfl (by kernel_rfl) Tryd.func7 (by kernel_rfl)
    (of_decide_eq_true (by kernel_rfl)) (by unfold Func.isWrapper; first | (rw [if_pos (by decide +kernel)]; kernel_rfl) | (rw [if_neg (by decide +kernel)]; exact ⟨rfl, rfl⟩))
    (fun os started H enc _ => lifted7 os started H enc)
end Go.Proofs.YtibleheeajlfjaaDoor
namespace Go.Proofs.YtibleheeajlfjaaDoor
open Go
theorem cutFormed_card : Rows.CutFormedCardSaid :=
  Claim7.holds_tied_plain_at .later [] [.sentinel, .sentinel, .sentinel, .sentinel, .sentinel, .sentinel, .sentinel, .sentinel, .sentinel, .sentinel, .sentinel, .data, .data, .data, .data, .data, .data] true (true, "167c53bdf014e3606227038426706ef95a811ac53321cf7832de0e18bc514c3d") true
    cutFormed_holds (fun _ h => by cases h) (by kernel_rfl) (fun _ h => by cases h) cutFormed_row_tie rfl ⟨rfl, rfl⟩ (by kernel_rfl) rfl
    (fun f fn hf hfn => by
      obtain rfl : f = 7 := Option.some.inj ((show Tryd.prog.funcNamed "umpire/umpirelaw5.CutFormed" = some 7 by kernel_rfl).symm.trans hf) |>.symm
      obtain rfl : fn = Tryd.f7 := (Option.some.inj (Tryd.func7.symm.trans hfn)).symm
      exact ⟨by kernel_rfl, fun j t ht => by
        rw [Tryd.params7] at ht
        have hm : t ∈ [25, 3, 3, 3] := by simpa using Array.mem_of_getElem? ht
        have hall : ([25, 3, 3, 3].all fun u => !Tryd.prog.wantsStandIn u) = true := by kernel_rfl
        exact (show Tryd.prog.wantsStandIn t = false by simpa using List.all_eq_true.1 hall t hm)⟩)
    (by kernel_rfl)
#print axioms cutFormed_card
end Go.Proofs.YtibleheeajlfjaaDoor
