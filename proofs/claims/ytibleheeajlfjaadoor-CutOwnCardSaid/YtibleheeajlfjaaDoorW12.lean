/-
  Chapter 5: what the laws' rows have in common. Own work. Chapter 5: the law CutOwn, as its row says. Own work (written by program, mkj.py). Chapter 5: the tied card of CutOwn. Own work (written by program, mkj.py).
-/
import Derived.Test.YtibleheeajlfjaaDoorW11
import Derived.Test.YtibleheeajlfjaaDoorTie
import Derived.Test.YtibleheeajlfjaaDoorCards
namespace Go.Pl
open Go Go.Sx Go.RowKit Go.Deep
theorem retsB_ev {n : Nat} {g : Nat → List Sh} (h : ∀ i, i < n → ∃ ns : List Int, ns.length = 8 ∧ g i = shInts ns ∧ ∀ n ∈ ns, int64 n) : retsB n g = true := List.all_eq_true.2 fun i hi => by
  obtain ⟨ns, h1, h2, h3⟩ := h i (List.mem_range.1 hi)
  match ns, h1 with
  | [a, b, c, d, e, f, x, y], _ =>
    have hy := h3 y (by simp)
    unfold rwAt
    rw [h2]
    have e : ((Row.get (shInts [a, b, c, d, e, f, x, y])).getD Row.dft : Ev).ret = y := rfl
    rw [e]
    have hy : (Lit.int .i64 y).wf = true := hy
    simp only [Lit.wf, Bool.and_eq_true, decide_eq_true_eq] at hy
    exact decide_eq_true hy
end Go.Pl
namespace Go.Proofs.YtibleheeajlfjaaDoor
open Go.ChangeShapes Go.WideShapes Go.ChangeAt Go.WideMaps Go.WideElems Go.RowKit Go.Sx Go.Pl
theorem own5 : ownKnob Tryd.prog.godebug = none := by kernel_rfl
theorem laidOut5 : laidOutB Tryd.prog = true := by kernel_rfl
/-- The door's own heap meets the condition. -/
theorem door5 (os : Os) (args : Array Value) : laidMetH Tryd.prog laid5 ((World.doorLaid Tryd.prog 400 os).forCall (fun _ _ => 0) ⟨#[], args, []⟩).memory :=
  laidMetH_of_parts3 (fuel := 8) (laidMet_of_run' 8 (by kernel_rfl) (by kernel_rfl)) (by kernel_rfl) (by kernel_rfl)
end Go.Proofs.YtibleheeajlfjaaDoor
namespace Go.Proofs.YtibleheeajlfjaaDoor
open Go.ChangeShapes Go.WideShapes Go.ChangeAt Go.WideMaps Go.WideElems Go.RowKit Go.Sx Go.Pl
set_option maxRecDepth 100000 in
theorem lifted5 (os : Os) (started : os.Started) (H : Type) (enc : TypeId × Value → H) :
    ReturnsInHanded {} Tryd.checked os 5 .any (fun w args => (Rows.cutOwnSpec.pre enc Tryd.prog Tryd.f5 [] false w args ∧ laidMetH Tryd.prog laid5 w) ∧ sizedMet enc Tryd.prog Tryd.f5 (OpenSpec.ofChange Rows.cutOwnSpec) false w args)
      (Rows.cutOwnSpec.post enc Tryd.prog Tryd.f5 false true false false) := by
  refine returnsInHanded_of_change_and (C := Tryd.checked) (X := fun w _ => laidMetH Tryd.prog laid5 w) (fun _ _ _ hh h => h.of_heap hh) own5 started (by kernel_rfl) Tryd.func5
    (ChangeSpec.witness_shaped (enc := enc) (C := Tryd.checked) (os := os) (X := fun w _ => laidMetH Tryd.prog laid5 w) false (World.doorLaid Tryd.prog 400 os) #[.agg #[.slice none 0 0, .slice none 0 0], .int .i64 0, .int .i64 0] 8 rfl (World.shaped_of_RefB (by kernel_rfl) (by kernel_rfl)) (by kernel_rfl) (by kernel_rfl) (by kernel_rfl) (door5 os _)) ?_
  intro W base args ds gs before hval0 hW _ _ hL _
  have hval : ∀ (j : Nat) t v, Tryd.f5.params[j]? = some t → args[j]? = some v → Value.okWide Tryd.prog W .any base t v := hval0
  have hW' := hW
  obtain ⟨p, q, hA0, hV, e, hfz, hnd⟩ := hW
  obtain ⟨rfl, rfl⟩ := trodVars_none hV
  have hA : DataW.TrodAll enc Tryd.prog W 0 (fun _ => true) true Tryd.f5.params.toList args.toList ds p := hA0
  rw [Tryd.params5] at hA hval
  obtain ⟨v0, vs0, d0, ds0, p0, q0, ea, rfl, rfl, t0, hA⟩ := trodAll_cons hA
  obtain ⟨v1, vs1, d1, ds1, p1, q1, rfl, rfl, rfl, t1, hA⟩ := trodAll_cons hA
  obtain ⟨v2, vs2, d2, ds2, p2, q2, rfl, rfl, rfl, t2, hA⟩ := trodAll_cons hA
  obtain ⟨rfl, rfl, rfl⟩ := trodAll_nil hA
  have at_ : ∀ (j : Nat) v, [v0, v1, v2][j]? = some v → args[j]? = some v := fun j v h => by rw [← Array.getElem?_toList, ea]; exact h
  obtain ⟨n0, g0, m0, h0, r0, a0, b0⟩ := rep_pair (k0 := 2) (k1 := 8) (by kernel_rfl) (by decide) (by decide) (hval 0 25 v0 rfl (at_ 0 v0 rfl)) t0
  obtain ⟨x1, rfl, _, _, _⟩ := open_int Tryd.underlying3 (hval 1 3 v1 rfl (at_ 1 v1 rfl)) t1
  obtain ⟨x2, rfl, _, _, _⟩ := open_int Tryd.underlying3 (hval 2 3 v2 rfl (at_ 2 v2 rfl)) t2
  have hc := O5 (memOf W) W [.agg [.sl 2 n0 g0, .sl 8 m0 h0], .i .i64 x1, .i .i64 x2] [v0, .int .i64 x1, .int .i64 x2] (fun s => s = .b true) (memOf_on W) (gls_laid hL)
    ⟨r0, .i _ _, .i _ _, trivial⟩ ⟨okB_oj a0, okB_ev b0, retsB_ev b0, rfl⟩
  have eargs : args = [v0, .int .i64 x1, .int .i64 x2].toArray := by rw [← ea]
  rw [eargs]
  refine hc.mono fun e W' ⟨v, s, H', he, hs, hr⟩ => ?_
  subst he hs
  obtain rfl := hr.bool
  refine ⟨_, rfl, post_law laidOut5 rfl (by kernel_rfl) (by kernel_rfl) Tryd.underlying4 (by rw [eargs] at hW'; exact hW') hr.below rfl rfl rfl⟩
theorem cutOwn_holds : Rows.CutOwnSaid :=
  OpenClaim.holds_of_wide 5 Tryd.f5 rfl rfl rfl rfl rfl rfl rfl ⟨rfl, rfl, rfl, rfl, rfl⟩ rfl rfl rfl rfl rfl (by kernel_rfl) Tryd.func5 (by kernel_rfl)
    (of_decide_eq_true (by kernel_rfl)) (by unfold Func.isWrapper; first | (rw [if_pos (by decide +kernel)]; kernel_rfl) | (rw [if_neg (by decide +kernel)]; exact ⟨rfl, rfl⟩))
    (fun os started H enc _ => lifted5 os started H enc)
end Go.Proofs.YtibleheeajlfjaaDoor
namespace Go.Proofs.YtibleheeajlfjaaDoor
open Go
theorem cutOwn_card : Rows.CutOwnCardSaid :=
  Claim7.holds_tied_plain_at .later [] [.sentinel, .sentinel, .sentinel, .sentinel, .sentinel, .sentinel, .sentinel, .sentinel, .sentinel, .sentinel, .sentinel, .data, .data, .data, .data, .data, .data] true (true, "167c53bdf014e3606227038426706ef95a811ac53321cf7832de0e18bc514c3d") true
    cutOwn_holds (fun _ h => by cases h) (by kernel_rfl) (fun _ h => by cases h) cutOwn_row_tie rfl ⟨rfl, rfl⟩ (by kernel_rfl) rfl
    (fun f fn hf hfn => by
      obtain rfl : f = 5 := Option.some.inj ((show Tryd.prog.funcNamed "umpire/umpirelaw5.CutOwn" = some 5 by kernel_rfl).symm.trans hf) |>.symm
      obtain rfl : fn = Tryd.f5 := (Option.some.inj (Tryd.func5.symm.trans hfn)).symm
      exact ⟨by kernel_rfl, fun j t ht => by
        rw [Tryd.params5] at ht
        have hm : t ∈ [25, 3, 3] := by simpa using Array.mem_of_getElem? ht
        have hall : ([25, 3, 3].all fun u => !Tryd.prog.wantsStandIn u) = true := by kernel_rfl
        exact (show Tryd.prog.wantsStandIn t = false by simpa using List.all_eq_true.1 hall t hm)⟩)
    (by kernel_rfl)
#print axioms cutOwn_card
end Go.Proofs.YtibleheeajlfjaaDoor
