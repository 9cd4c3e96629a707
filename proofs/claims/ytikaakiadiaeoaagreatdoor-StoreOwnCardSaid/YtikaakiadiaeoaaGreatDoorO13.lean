/-
  The listed variables, as the executor's globals. Chapter 7: the listed variables are the executor's globals. Own work (written by program). From a law's summary to its row's post: it answers true, and what it was given reads as it did. Arguments of chapter 7: the kinds of objects fit; a struct of ints. Chapter 7: what the laws' rows have in common. Chapter 7: the law StoreOwn, as its row says. Chapter 7: the tied card of StoreOwn.
-/
import Derived.Test.YtikaakiadiaeoaaGreatDoorO12
import Derived.OpenShut
import Derived.MakeChecks
import Derived.Test.YtikaakiadiaeoaaGreatDoorRows
import Derived.Carry
import Derived.Stop.Joined
import Derived.Test.YtikaakiadiaeoaaGreatDoorTie
import Derived.Test.YtikaakiadiaeoaaGreatDoorCards
namespace Go.Sx
open Go.RowKit Go.ChangeShapes Go.WideShapes Go.Deep
theorem var_heap {P : Program} {W : World} {n : String} {g : Nat} {cs : Array Value} (hg : P.globalNamed n = some g) (h : W.var? P n = some cs) : ∃ e f, W.heap[g]? = some (.cells cs e f) := by
 unfold World.var? at h
 rw [hg] at h
 simp only [Option.bind_some] at h
 split at h
 ·rename_i c e f hb
  cases h
  exact ⟨_, _, hb⟩
 ·cases h
theorem laid_er {P : Program} {n nm : String} {text : List UInt8} {r : List (String × DataW Unit)} {W : World} {g : Nat} {ti tp te ts : TypeId} {ms : Array (String × TypeId)} {f : Field}
  (h : laidMet P ((n, .iface nm (.ptr (.agg [.lit (.string text)]))) :: r) W)
  (hg : P.globalNamed n = some g) (ht : (P.globals[g]?).map (·.type) = some ti) (hi : P.underlying ti = some (.interface ms)) (hrow : ∀ u, P.typeName? 3 u = some nm → u = tp)
  (hp : P.underlying tp = some (.pointer te)) (he : P.underlying te = some (.struct #[f])) (hft : f.type = ts) (hfo : f.offset = 0) (hs : P.underlying ts = some .string) (hc : P.cellsOf te = 1) (hcs : P.cellsOf ts = 1) :
  GlobAt (memOf W) g (.er g tp) := by
 obtain ⟨ps, ⟨g0, t0, cs0, f0, p0, q0, hg0, ht0, hv0, hd0, _, e0⟩, _, hrows⟩ := h
 obtain rfl := Option.some.inj (hg.symm.trans hg0)
 obtain rfl := Option.some.inj (ht.symm.trans ht0)
 subst e0
 obtain ⟨l0⟩ := cs0
 have ok0 : ∀ u v, l0 = [.iface u v] → Value.okWide P W .any 0 u v := fun u v e => by
  subst e
  exact (hrows g 0 (by simp [MemPlace.row])).2 u v (by simpa using World.var?_cell hg0 hv0 0)
 obtain ⟨a0, s0, rfl, hc0, hs0, hz0, rfl⟩ := errorString_of_trod hi hrow hp he hft hfo hs hc hcs hd0 ok0
 obtain ⟨c0, t0, hb0⟩ := (hrows a0.block a0.off (by simp [MemPlace.row])).1
 obtain ⟨e, f, hh⟩ := var_heap hg hv0
 have h1 : hcell (memOf W) g 0 = some (.iface tp (.pointer (some a0))) := by
  unfold hcell memOf
  rw [hh]; rfl
 exact ⟨_, h1, .er g tp a0 c0 t0 h1 hb0, rfl⟩
theorem laid_strs {P : Program} {n : String} {texts : List (List UInt8)} {r : List (String × DataW Unit)} {W : World} {g : Nat} {t e : TypeId} {k : Nat}
  (h : laidMet P ((n, .agg (texts.map fun s => .lit (.string s))) :: r) W)
  (hg : P.globalNamed n = some g) (ht : (P.globals[g]?).map (·.type) = some t) (hu : P.underlying t = some (.array k e)) (he : P.underlying e = some .string) (hce : P.cellsOf e = 1) (hct : P.cellsOf t = texts.length) :
  GlobAt (memOf W) g (.tup (texts.map Sh.str)) := by
 obtain ⟨ps, ⟨g0, t0, cs0, f0, p0, q0, hg0, ht0, hv0, hd0, _, e0⟩, _, hrows⟩ := h
 obtain rfl := Option.some.inj (hg.symm.trans hg0)
 obtain rfl := Option.some.inj (ht.symm.trans ht0)
 obtain ⟨e1, f1, hh⟩ := var_heap hg hv0
 obtain ⟨xs, m, _, hx, hlen, hxs, hel⟩ := DataW.trod_array hu hd0
 have hxs' : xs.map (·.1) = texts.map fun s => .lit (.string s) := by
  have := congrArg Prod.fst hx
  simp at this
  exact this.symm
 have hkt : k = texts.length := by
  have := congrArg List.length hxs'
  simp at this
  omega
 subst hkt
 have cell : ∀ j (hj : j < texts.length), cs0[j]? = some (.string ⟨texts[j].toArray⟩) := fun j hj => by
  have q := hel j hj
  rw [hce, Nat.mul_one] at q
  have hxj : j < xs.length := by omega
  rw [List.getElem?_eq_getElem hxj] at q
  obtain ⟨s, q1, q2, _⟩ := DataW.trod_string he q
  have q3 : (xs.map (·.1))[j]? = some (.lit (.string texts[j])) := by rw [hxs']; simp [hj]
  have q4 : (xs[j]).1 = .lit (.string texts[j]) := by
   rw [List.getElem?_map, List.getElem?_eq_getElem hxj] at q3
   simpa using q3
  rw [q2] at q4
  simp at q4
  have q5 : (List.take 1 (List.drop j cs0.toList))[0]? = some (.string s) := by rw [q1]; rfl
  have q6 : cs0[j]? = some (.string s) := by simpa using q5
  rw [q6]
  obtain ⟨⟨l⟩⟩ := s
  have : l = texts[j] := q4
  subst this; rfl
 refine ⟨⟨cs0, e1, f1, hh, by rw [List.length_map, ← hct, ← hlen]; simp⟩, fun j => .string ⟨(texts.getD j []).toArray⟩, fun j hj => ?_, fun j s hs => ?_⟩
 ·have hj' : j < texts.length := by simpa using hj
  refine ⟨?_, rfl⟩
  unfold hcell memOf
  rw [hh]
  simp only [cell j hj', List.getD_eq_getElem?_getD, List.getElem?_eq_getElem hj', Option.getD_some]
 ·rw [List.getElem?_map, Option.map_eq_some_iff] at hs
  obtain ⟨l, h1, rfl⟩ := hs
  show Rep (memOf W) (.str l) (.string ⟨(texts.getD j []).toArray⟩)
  rw [List.getD_eq_getElem?_getD, h1]
  exact .str l
theorem laid_nums {P : Program} {n : String} {kd : IntKind} {texts : List Int} {r : List (String × DataW Unit)} {W : World} {g : Nat} {t e : TypeId} {k : Nat}
  (h : laidMet P ((n, .agg (texts.map fun s => .lit (.int kd s))) :: r) W)
  (hg : P.globalNamed n = some g) (ht : (P.globals[g]?).map (·.type) = some t) (hu : P.underlying t = some (.array k e)) (he : P.underlying e = some (.int kd)) (hce : P.cellsOf e = 1) (hct : P.cellsOf t = texts.length) :
  GlobAt (memOf W) g (.tup (texts.map (Sh.i kd))) := by
 obtain ⟨ps, ⟨g0, t0, cs0, f0, p0, q0, hg0, ht0, hv0, hd0, _, e0⟩, _, hrows⟩ := h
 obtain rfl := Option.some.inj (hg.symm.trans hg0)
 obtain rfl := Option.some.inj (ht.symm.trans ht0)
 obtain ⟨e1, f1, hh⟩ := var_heap hg hv0
 obtain ⟨xs, m, _, hx, hlen, hxs, hel⟩ := DataW.trod_array hu hd0
 have hxs' : xs.map (·.1) = texts.map fun s => .lit (.int kd s) := by
  have := congrArg Prod.fst hx
  simp at this
  exact this.symm
 have hkt : k = texts.length := by
  have := congrArg List.length hxs'
  simp at this
  omega
 subst hkt
 have cell : ∀ j (hj : j < texts.length), cs0[j]? = some (.int kd texts[j]) := fun j hj => by
  have q := hel j hj
  rw [hce, Nat.mul_one] at q
  have hxj : j < xs.length := by omega
  rw [List.getElem?_eq_getElem hxj] at q
  obtain ⟨s, q1, q2, _⟩ := DataW.trod_int he q
  have q3 : (xs.map (·.1))[j]? = some (.lit (.int kd texts[j])) := by rw [hxs']; simp [hj]
  have q4 : (xs[j]).1 = .lit (.int kd texts[j]) := by
   rw [List.getElem?_map, List.getElem?_eq_getElem hxj] at q3
   simpa using q3
  rw [q2] at q4
  simp at q4
  have q5 : (List.take 1 (List.drop j cs0.toList))[0]? = some (.int kd s) := by rw [q1]; rfl
  have q6 : cs0[j]? = some (.int kd s) := by simpa using q5
  rw [q6]
  rw [q4]
 refine ⟨⟨cs0, e1, f1, hh, by rw [List.length_map, ← hct, ← hlen]; simp⟩, fun j => .int kd (texts.getD j 0), fun j hj => ?_, fun j s hs => ?_⟩
 ·have hj' : j < texts.length := by simpa using hj
  refine ⟨?_, rfl⟩
  unfold hcell memOf
  rw [hh]
  simp only [cell j hj', List.getD_eq_getElem?_getD, List.getElem?_eq_getElem hj', Option.getD_some]
 ·rw [List.getElem?_map, Option.map_eq_some_iff] at hs
  obtain ⟨l, h1, rfl⟩ := hs
  show Rep (memOf W) (.i kd l) (.int kd (texts.getD j 0))
  rw [List.getD_eq_getElem?_getD, h1]
  exact .i kd l
end Go.Sx
namespace Go.Proofs
open Go Go.Sx Go.RowKit Go.ChangeShapes
theorem star7 : "*" ++ "errors.errorString" = "*errors.errorString" := by decide
theorem row7 (u : TypeId) (h : Tryz.prog.typeName? 3 u = some "*errors.errorString") : u = 242 :=
 typeName_ptr_named (nm := "errors.errorString") (by rw [star7]; kernel_rfl) (by kernel_rfl) (by decide) u (by rw [star7]; exact h)
open YtikaakiadiaeoaaGreatDoor.Rows in
abbrev laid7 : List (String × DataW Unit) := storeListsRow.laid
theorem gls_laid {W : World} (h : laidMetH Tryz.prog laid7 W) : GlobOK (gls7 W7) (memOf W) := by
 rw [MakeChecks.laidMetH_plain _ _ _ (by kernel_rfl)] at h
 have e16 : GlobAt (memOf W) 16 (.tup (pow10.map (Sh.i .u64))) := laid_nums (kd := .u64) (texts := pow10) h.tail.tail (by kernel_rfl) (by kernel_rfl) Tryz.underlying233 Tryz.underlying217 (by kernel_rfl) (by kernel_rfl)
 have e5 : GlobAt (memOf W) 5 (.er 5 242) := laid_er h.tail.tail.tail (by kernel_rfl) (by kernel_rfl) Tryz.underlying52 row7 Tryz.underlying242 Tryz.underlying244 rfl rfl Tryz.underlying9 (by kernel_rfl) (by kernel_rfl)
 have e6 : GlobAt (memOf W) 6 (.er 6 242) := laid_er h.tail.tail.tail.tail (by kernel_rfl) (by kernel_rfl) Tryz.underlying52 row7 Tryz.underlying242 Tryz.underlying244 rfl rfl Tryz.underlying9 (by kernel_rfl) (by kernel_rfl)
 have e0 : GlobAt (memOf W) 0 (.er 0 242) := laid_er h.tail.tail.tail.tail.tail (by kernel_rfl) (by kernel_rfl) Tryz.underlying52 row7 Tryz.underlying242 Tryz.underlying244 rfl rfl Tryz.underlying9 (by kernel_rfl) (by kernel_rfl)
 have e3 : GlobAt (memOf W) 3 (.er 3 242) := laid_er h.tail.tail.tail.tail.tail.tail (by kernel_rfl) (by kernel_rfl) Tryz.underlying52 row7 Tryz.underlying242 Tryz.underlying244 rfl rfl Tryz.underlying9 (by kernel_rfl) (by kernel_rfl)
 have e1 : GlobAt (memOf W) 1 (.er 1 242) := laid_er h.tail.tail.tail.tail.tail.tail.tail (by kernel_rfl) (by kernel_rfl) Tryz.underlying52 row7 Tryz.underlying242 Tryz.underlying244 rfl rfl Tryz.underlying9 (by kernel_rfl) (by kernel_rfl)
 have e7 : GlobAt (memOf W) 7 (.tup (wds W7 7 4)) := laid_strs (texts := [W7 7 0, W7 7 1, W7 7 2, W7 7 3]) h.tail.tail.tail.tail.tail.tail.tail.tail (by kernel_rfl) (by kernel_rfl) Tryz.underlying182 Tryz.underlying9 (by kernel_rfl) (by kernel_rfl)
 have e8 : GlobAt (memOf W) 8 (.tup (wds W7 8 7)) := laid_strs (texts := [W7 8 0, W7 8 1, W7 8 2, W7 8 3, W7 8 4, W7 8 5, W7 8 6]) h.tail.tail.tail.tail.tail.tail.tail.tail.tail (by kernel_rfl) (by kernel_rfl) Tryz.underlying183 Tryz.underlying9 (by kernel_rfl) (by kernel_rfl)
 have e9 : GlobAt (memOf W) 9 (.tup (wds W7 9 9)) := laid_strs (texts := [W7 9 0, W7 9 1, W7 9 2, W7 9 3, W7 9 4, W7 9 5, W7 9 6, W7 9 7, W7 9 8]) h.tail.tail.tail.tail.tail.tail.tail.tail.tail.tail (by kernel_rfl) (by kernel_rfl) Tryz.underlying184 Tryz.underlying9 (by kernel_rfl) (by kernel_rfl)
 have e10 : GlobAt (memOf W) 10 (.tup (wds W7 10 3)) := laid_strs (texts := [W7 10 0, W7 10 1, W7 10 2]) h.tail.tail.tail.tail.tail.tail.tail.tail.tail.tail.tail (by kernel_rfl) (by kernel_rfl) Tryz.underlying185 Tryz.underlying9 (by kernel_rfl) (by kernel_rfl)
 have e11 : GlobAt (memOf W) 11 (.tup (wds W7 11 4)) := laid_strs (texts := [W7 11 0, W7 11 1, W7 11 2, W7 11 3]) h.tail.tail.tail.tail.tail.tail.tail.tail.tail.tail.tail.tail (by kernel_rfl) (by kernel_rfl) Tryz.underlying182 Tryz.underlying9 (by kernel_rfl) (by kernel_rfl)
 have e12 : GlobAt (memOf W) 12 (.tup (wds W7 12 4)) := laid_strs (texts := [W7 12 0, W7 12 1, W7 12 2, W7 12 3]) h.tail.tail.tail.tail.tail.tail.tail.tail.tail.tail.tail.tail.tail (by kernel_rfl) (by kernel_rfl) Tryz.underlying182 Tryz.underlying9 (by kernel_rfl) (by kernel_rfl)
 intro g s hg
 match g, hg with
 | 0, hg => cases hg; exact e0
 | 1, hg => cases hg; exact e1
 | 2, hg => cases hg
 | 3, hg => cases hg; exact e3
 | 4, hg => cases hg
 | 5, hg => cases hg; exact e5
 | 6, hg => cases hg; exact e6
 | 7, hg => cases hg; exact e7
 | 8, hg => cases hg; exact e8
 | 9, hg => cases hg; exact e9
 | 10, hg => cases hg; exact e10
 | 11, hg => cases hg; exact e11
 | 12, hg => cases hg; exact e12
 | 13, hg => cases hg
 | 14, hg => cases hg
 | 15, hg => cases hg
 | 16, hg => cases hg; exact e16
 | n + 17, hg => simp [gls7, look?] at hg
end Go.Proofs
namespace Go.Sx
open Go.RowKit Go.ChangeShapes Go.WideShapes Go.Deep Go.Pl
theorem SpecRes.below {H : Mem} {w w' : World} {s : Sh} {v : Value} {H' : Mem} (h : SpecRes H w s v H' w') : Below w.heap.size w w' := ⟨h.os, h.tape, h.output, h.size, h.old⟩
theorem SpecRes.bool {H : Mem} {w w' : World} {b : Bool} {v : Value} {H' : Mem} (h : SpecRes H w (.b b) v H' w') : v = .bool b := by
 obtain ⟨E1, _, _, h1, _⟩ := h.res 0
 exact h1
def rowedB (P : Program) (ts : List TypeId) : Bool := ts.all fun t => P.readableRec t && decide (t < P.types.size)
section
variable {H : Type} {enc : TypeId × Value → H} {P : Program}
theorem below_all (hl : laidOutB P = true) {W W' : World} (hb : Below W.heap.size W W') :
  ∀ {ts : List TypeId} {vs : List Value} {ds : List (DataW H)} {p : List MemPlace}, rowedB P ts = true → DataW.TrodAll enc P W 0 (fun _ => true) true ts vs ds p → (∀ x ∈ p, x.block < W.heap.size) →
   DataW.TrodAll enc P W' 0 (fun b => decide (b < W.heap.size)) true ts vs ds p
 | [], _, _, _, _, h, _ => by
  obtain ⟨rfl, rfl, rfl⟩ := trodAll_nil h
  exact rfl
 | t :: ts, _, _, _, hr, h, hlt => by
  obtain ⟨v, vs1, d, ds1, a, b, rfl, rfl, rfl, h1, h2⟩ := trodAll_cons h
  simp only [rowedB, List.all_cons, Bool.and_eq_true, decide_eq_true_eq] at hr
  exact ⟨a, b, Below.trod hl hr.1.1 hr.1.2 h1 hb fun x hx => hlt x (List.mem_append_left _ hx), below_all hl hb (by simp only [rowedB]; exact hr.2) h2 fun x hx => hlt x (List.mem_append_right _ hx), rfl⟩
theorem post_law (hl : laidOutB P = true) {f : Func} {s : ChangeSpec} {W W' : World} {args : Array Value} {t : TypeId} {ds gs : List (DataW H)} {before : List MemPlace} (hs : s.vars = []) (hr : rowedB P f.params.toList = true) (ht : f.resultTypes = #[t]) (hu : P.underlying t = some .bool)
  (hW : DataW.Whole enc P f.params.toList s.vars false W args.toList ds gs before) (hb : Below W.heap.size W W')
  (h1 : (s.fn H (ds ++ gs)).results = [.lit (.bool true)]) (h2 : (s.fn H (ds ++ gs)).args = ds) (h3 : (s.fn H (ds ++ gs)).vars = []) :
  s.post enc P f false true false false W args (.bool true) W' := by
 have hlt := hW.lt
 have hW0 := hW
 obtain ⟨p, q, hA, hV, e, hfz, hnd⟩ := hW
 rw [hs] at hV
 obtain ⟨rfl, rfl⟩ := trodVars_none hV
 subst e
 refine ⟨ds, [], p ++ [], [], p, [], hW0, ?_, ?_, ?_, Below.frame hb _, fun e => by cases e⟩
 ·rw [h1, ht]
  exact trodAll_mk1 (shut_bool hu true)
 ·rw [h2]
  exact below_all hl hb hr hA fun x hx => hlt x (by simpa using hx)
 ·rw [h3, hs]
  exact rfl
end
theorem okB_rows {α : Type} [Row α] {k n : Nat} {g : Nat → List Sh} (hk : ∀ ns : List Int, ns.length = k → (Row.get (α := α) (shInts ns)).isSome = true) (h : ∀ i, i < n → ∃ ns : List Int, ns.length = k ∧ g i = shInts ns ∧ ∀ n ∈ ns, int64 n) : okB α n g = true := by
 induction n with
 | zero => rfl
 | succ n ih =>
  obtain ⟨ns, h1, h2, _⟩ := h n (by omega)
  simp only [okB, ih fun i hi => h i (by omega), Bool.true_and]
  rw [h2]
  exact hk ns h1
theorem okB_oj {n : Nat} {g : Nat → List Sh} (h : ∀ i, i < n → ∃ ns : List Int, ns.length = 2 ∧ g i = shInts ns ∧ ∀ n ∈ ns, int64 n) : okB Oj n g = true := okB_rows (fun ns hn => by
 match ns, hn with
 | [a, b], _ => rfl) h
theorem okB_cl {n : Nat} {g : Nat → List Sh} (h : ∀ i, i < n → ∃ ns : List Int, ns.length = 4 ∧ g i = shInts ns ∧ ∀ n ∈ ns, int64 n) : okB Cl n g = true := okB_rows (fun ns hn => by
 match ns, hn with
 | [a, b, c, d], _ => rfl) h
theorem okB_in {n : Nat} {g : Nat → List Sh} (h : ∀ i, i < n → ∃ ns : List Int, ns.length = 1 ∧ g i = shInts ns ∧ ∀ n ∈ ns, int64 n) : okB Int n g = true := okB_rows (fun ns hn => by
 match ns, hn with
 | [a], _ => rfl) h
end Go.Sx
namespace Go.Sx
open Go.RowKit Go.ChangeShapes Go.WideShapes Go.Deep Go.Pl
theorem kinds_oj {n : Nat} {g : Nat → List Sh} (h : ∀ i, i < n → ∃ ns : List Int, ns.length = 2 ∧ g i = shInts ns ∧ ∀ n ∈ ns, int64 n) : kindsB n (rwAt (α := Oj) g) = true := by
 unfold kindsB
 refine List.all_eq_true.2 fun j hj => ?_
 obtain ⟨ns, h1, h2, h3⟩ := h j (List.mem_range.1 hj)
 match ns, h1 with
 | [a, b], _ =>
  have e : rwAt (α := Oj) g j = ⟨a, b⟩ := by
   unfold rwAt
   rw [h2]; rfl
  rw [e]
  have := h3 a (by simp)
  unfold int64 at this
  have h1 : IntKind.i64.min = -9223372036854775808 := by decide
  have h2 : IntKind.i64.max = 9223372036854775807 := by decide
  simp [Lit.wf, IntKind.wrap] at this
  unfold in64
  simp
  omega
section
variable {H : Type} {enc : TypeId × Value → H} {P : Program} {w : World} {base : Nat} {spare : Nat → Bool} {held : Bool}
end
end Go.Sx
namespace Go.Proofs.YtikaakiadiaeoaaGreatDoor
open Go.ChangeShapes Go.WideShapes Go.ChangeAt Go.WideMaps Go.WideElems Go.RowKit Go.Sx Go.Pl
theorem own7 : ownKnob Tryz.prog.godebug = none := by kernel_rfl
theorem laidOut7 : laidOutB Tryz.prog = true := by kernel_rfl
theorem door7 (os : Os) (args : Array Value) : laidMetH Tryz.prog laid7 ((World.doorLaid Tryz.prog 400 os).forCall (fun _ _ => 0) ⟨#[], args, []⟩).memory :=
 laidMetH_of_parts3 (fuel := 8) (laidMet_of_run' 8 (by kernel_rfl) (by kernel_rfl)) (by kernel_rfl) (by kernel_rfl)
end Go.Proofs.YtikaakiadiaeoaaGreatDoor
namespace Go.Proofs.YtikaakiadiaeoaaGreatDoor
open Go.ChangeShapes Go.WideShapes Go.ChangeAt Go.WideMaps Go.WideElems Go.RowKit Go.Sx Go.Pl
set_option maxRecDepth 100000 in
theorem lifted4 (os : Os) (started : os.Started) (H : Type) (enc : TypeId × Value → H) :
  ReturnsInHanded {} Tryz.checked os 4 .any (fun w args => (Rows.storeOwnSpec.pre enc Tryz.prog Tryz.f4 [] false w args ∧ laidMetH Tryz.prog laid7 w) ∧ sizedMet enc Tryz.prog Tryz.f4 (OpenSpec.ofChange Rows.storeOwnSpec) false w args)
   (Rows.storeOwnSpec.post enc Tryz.prog Tryz.f4 false true false false) := by
 refine returnsInHanded_of_change_and (C := Tryz.checked) (X := fun w _ => laidMetH Tryz.prog laid7 w) (fun _ _ _ hh h => h.of_heap hh) own7 started (by kernel_rfl) Tryz.func4
  (ChangeSpec.witness_shaped (enc := enc) (C := Tryz.checked) (os := os) (X := fun w _ => laidMetH Tryz.prog laid7 w) false (World.doorLaid Tryz.prog 400 os) #[.slice none 0 0, .slice none 0 0, .slice none 0 0] 8 rfl (World.shaped_of_RefB (by kernel_rfl) (by kernel_rfl)) (by kernel_rfl) (by kernel_rfl) (by kernel_rfl) (door7 os _)) ?_
 intro W base args ds gs before hval0 hW _ _ hL _
 have hval : ∀ (j : Nat) t v, Tryz.f4.params[j]? = some t → args[j]? = some v → Value.okWide Tryz.prog W .any base t v := hval0
 have hW' := hW
 obtain ⟨p, q, hA0, hV, e, hfz, hnd⟩ := hW
 obtain ⟨rfl, rfl⟩ := trodVars_none hV
 have hA : DataW.TrodAll enc Tryz.prog W 0 (fun _ => true) true Tryz.f4.params.toList args.toList ds p := hA0
 rw [Tryz.params4] at hA hval
 obtain ⟨v0, vs0, d0, ds0, p0, q0, ea, rfl, rfl, t0, hA⟩ := trodAll_cons hA
 obtain ⟨v1, vs1, d1, ds1, p1, q1, rfl, rfl, rfl, t1, hA⟩ := trodAll_cons hA
 obtain ⟨v2, vs2, d2, ds2, p2, q2, rfl, rfl, rfl, t2, hA⟩ := trodAll_cons hA
 obtain ⟨rfl, rfl, rfl⟩ := trodAll_nil hA
 have at_ : ∀ (j : Nat) v, [v0, v1, v2][j]? = some v → args[j]? = some v := fun j v h => by rw [← Array.getElem?_toList, ea]; exact h
 obtain ⟨k0, s0, r0, a0⟩ := rep_slice_arg (k := 1) Tryz.underlying22 (by kernel_rfl) (by kernel_rfl) (by decide) (hval 0 22 v0 rfl (at_ 0 v0 rfl)) t0
 obtain ⟨k1, s1, r1, a1⟩ := rep_slice_arg (k := 2) Tryz.underlying41 (by kernel_rfl) (by kernel_rfl) (by decide) (hval 1 41 v1 rfl (at_ 1 v1 rfl)) t1
 obtain ⟨k2, s2, r2, a2⟩ := rep_slice_arg (k := 4) Tryz.underlying42 (by kernel_rfl) (by kernel_rfl) (by decide) (hval 2 42 v2 rfl (at_ 2 v2 rfl)) t2
 have hc := O4 (memOf W) W [.sl 1 k0 s0, .sl 2 k1 s1, .sl 4 k2 s2] [v0, v1, v2] (fun s => s = .b true) (memOf_on W) (gls_laid hL)
  ⟨r0, r1, r2, trivial⟩ ⟨okB_in a0, okB_oj a1, kinds_oj a1, okB_cl a2, rfl⟩
 have eargs : args = [v0, v1, v2].toArray := by rw [← ea]
 rw [eargs]
 refine hc.mono fun e W' ⟨v, s, H', he, hs, hr⟩ => ?_
 subst he hs
 obtain rfl := hr.bool
 refine ⟨_, rfl, post_law laidOut7 rfl (by kernel_rfl) (by kernel_rfl) Tryz.underlying4 (by rw [eargs] at hW'; exact hW') hr.below rfl rfl rfl⟩
theorem storeOwn_holds : Rows.StoreOwnSaid :=
 OpenClaim.holds_of_wide 4 Tryz.f4 rfl rfl rfl rfl rfl rfl rfl ⟨rfl, rfl, rfl, rfl, rfl⟩ rfl rfl rfl rfl rfl (by kernel_rfl) Tryz.func4 (by kernel_rfl)
  (of_decide_eq_true (by kernel_rfl)) (by unfold Func.isWrapper; first | (rw [if_pos (by decide +kernel)]; kernel_rfl) | (rw [if_neg (by decide +kernel)]; exact ⟨rfl, rfl⟩))
  (fun os started H enc _ => lifted4 os started H enc)
end Go.Proofs.YtikaakiadiaeoaaGreatDoor
namespace Go.Proofs.YtikaakiadiaeoaaGreatDoor
open Go
theorem storeOwn_card : Rows.StoreOwnCardSaid :=
 Claim7.holds_tied_plain_at .later [] [.data, .data, .data, .sentinel, .sentinel, .sentinel, .sentinel, .sentinel, .data, .data, .data, .data, .data, .data] true (true, "4a60ae6fac43e9984ca8293a95a0ce4093e80da91277938538b84fd690e406b6") true
  storeOwn_holds (fun _ h => by cases h) (by kernel_rfl) (fun _ h => by cases h) storeOwn_row_tie rfl ⟨rfl, rfl⟩ (by kernel_rfl) rfl
  (fun f fn hf hfn => by
   obtain rfl : f = 4 := Option.some.inj ((show Tryz.prog.funcNamed "umpire/umpirelaw7.StoreOwn" = some 4 by kernel_rfl).symm.trans hf) |>.symm
   obtain rfl : fn = Tryz.f4 := (Option.some.inj (Tryz.func4.symm.trans hfn)).symm
   exact ⟨by kernel_rfl, fun j t ht => by
    rw [Tryz.params4] at ht
    have hm : t ∈ [22, 41, 42] := by simpa using Array.mem_of_getElem? ht
    have hall : ([22, 41, 42].all fun u => !Tryz.prog.wantsStandIn u) = true := by kernel_rfl
    exact (show Tryz.prog.wantsStandIn t = false by simpa using List.all_eq_true.1 hall t hm)⟩)
  (by kernel_rfl)
#print axioms storeOwn_card
end Go.Proofs.YtikaakiadiaeoaaGreatDoor
