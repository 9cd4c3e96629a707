/-
  From the readings of a row to the shapes of the executor: ints, flat structs of ints, slices of them, the listed variables; and back: the row's post. Own work. The listed variables, as the executor's globals. Own work. Chapter 5: the listed variables are the executor's globals. Own work (written by program, mklb.py). From a law's summary to its row's post: it answers true, and what it was given reads as it did. Own work. Chapter 5: what the laws' rows have in common. Own work. Chapter 5: the law CutEach, as its row says. Own work (written by program, mkj.py). Chapter 5: the tied card of CutEach. Own work (written by program, mkj.py).
-/
import Derived.Test.YtibleheeajlfjaaDoorE11
import Derived.ProofKit
import Derived.Deep.Slices
import Derived.Stop.LaidErr
import Derived.LaidMore
import Derived.OpenShut
import Derived.MakeChecks
import Derived.Test.YtibleheeajlfjaaDoorRows
import Derived.Carry
import Derived.Stop.Joined
import Derived.Test.YtibleheeajlfjaaDoorTie
import Derived.Test.YtibleheeajlfjaaDoorCards
namespace Go.Sx
open Go.RowKit Go.ChangeShapes Go.WideShapes Go.Deep
/-- All of memory, as it stands. -/
def memOf (w : World) : Mem := fun b => w.heap[b]?
theorem memOf_on (w : World) : (memOf w).on w := fun _ _ h => h
theorem hcell_memOf {w : World} {a : Addr} {v : Value} (h : w.cell? a = some v) : hcell (memOf w) a.block a.off = some v ∧ a.spot = none := by
  unfold World.cell? at h
  unfold hcell memOf
  split at h
  · rename_i c t f hb
    rw [hb]
    cases hs : a.spot with
    | none => simp only [hs, Option.isSome_none, Bool.false_eq_true, if_false] at h; exact ⟨h, rfl⟩
    | some x => simp [hs] at h
  · cases h
section
variable {H : Type} {enc : TypeId × Value → H} {P : Program} {w : World} {base : Nat} {spare : Nat → Bool} {held : Bool}
/-- Are all the fields ints, one behind the other? -/
def flatB (P : Program) (fs : Array Field) (k : Nat) : Bool :=
  fs.size == k && (List.range k).all fun i => match fs[i]? with
    | some f => f.offset == i && (match P.underlying f.type with | some (.int .i64) => true | _ => false) && P.cellsOf f.type == 1
    | none => false
/-- The type of a row of so many ints. -/
def rowB (P : Program) (e k : Nat) : Bool :=
  match P.underlying e with
  | some (.int .i64) => k == 1 && P.cellsOf e == 1
  | some (.struct fs) => flatB P fs k && P.cellsOf e == k
  | _ => false
def int64 (n : Int) : Prop := (Lit.int .i64 n).wf = true
theorem flat_cells {e k fuel : Nat} {cs : List Value} {x : DataW H × List MemPlace} (hr : rowB P e k = true) (h : DataW.trod enc P w base spare held fuel e cs = some x) :
    ∃ ns : List Int, ns.length = k ∧ cs = ns.map (Value.int .i64) ∧ ∀ n ∈ ns, int64 n := by
  unfold rowB at hr
  split at hr
  · rename_i hu
    simp only [Bool.and_eq_true, beq_iff_eq] at hr
    obtain ⟨n, rfl, _, hw⟩ := DataW.trod_int hu h
    exact ⟨[n], hr.1.symm, rfl, fun m hm => by simp at hm; subst hm; exact hw⟩
  · rename_i fs hu
    simp only [Bool.and_eq_true, beq_iff_eq] at hr
    obtain ⟨hf, hc⟩ := hr
    unfold flatB at hf
    simp only [Bool.and_eq_true, beq_iff_eq] at hf
    obtain ⟨hk, hf⟩ := hf
    obtain ⟨xs, m, _, _, hlen, hxs, hel⟩ := DataW.trod_struct hu h
    rw [hc] at hlen
    have cell : ∀ i, i < k → ∃ n, cs[i]? = some (.int .i64 n) ∧ int64 n := fun i hi => by
      have q := List.all_eq_true.1 hf i (List.mem_range.2 hi)
      split at q
      · rename_i f hfi
        simp only [Bool.and_eq_true, beq_iff_eq] at q
        obtain ⟨⟨ho, ht⟩, h1⟩ := q
        have ht : P.underlying f.type = some (.int .i64) := by
          split at ht
          · assumption
          · cases ht
        have q2 := hel i f hfi
        rw [ho, h1] at q2
        have hxi : i < xs.length := by rw [hxs, hk]; exact hi
        rw [List.getElem?_eq_getElem hxi] at q2
        obtain ⟨n, e1, _, e3⟩ := DataW.trod_int ht q2
        refine ⟨n, ?_, e3⟩
        have : (List.take 1 (List.drop i cs))[0]? = some (.int .i64 n) := by rw [e1]; rfl
        simpa using this
      · cases q
    clear hel h hf
    have : ∀ (j : Nat) (l : List Value), l.length = j → (∀ i, i < j → ∃ n, l[i]? = some (.int .i64 n) ∧ int64 n) → ∃ ns : List Int, ns.length = j ∧ l = ns.map (Value.int .i64) ∧ ∀ n ∈ ns, int64 n := by
      intro j
      induction j with
      | zero => intro l hl _; exact ⟨[], rfl, by simpa using hl, fun _ h => by simp at h⟩
      | succ j ih =>
        intro l hl hc
        match l, hl with
        | v :: l, hl =>
          obtain ⟨ns, h1, h2, h3⟩ := ih l (by simpa using hl) fun i hi => by simpa using hc (i + 1) (by omega)
          obtain ⟨n, q1, q2⟩ := hc 0 (by omega)
          simp at q1
          subst q1
          exact ⟨n :: ns, by simp [h1], by simp [h2], fun m hm => by
            rcases List.mem_cons.1 hm with rfl | hm
            · exact q2
            · exact h3 m hm⟩
    exact this k cs hlen cell
  · cases hr
def shInts (ns : List Int) : List Sh := ns.map (Sh.i .i64)
theorem rep_ints {M : Mem} {ns : List Int} : Rep M (.agg (shInts ns)) (.agg (ns.map (Value.int .i64)).toArray) := by
  refine .agg _ _ (by simp [shInts]) fun j s v h1 h2 => ?_
  simp only [shInts, List.getElem?_map, Option.map_eq_some_iff] at h1
  obtain ⟨n, h3, rfl⟩ := h1
  simp [h3] at h2
  subst h2
  exact .i _ _
theorem cells?_at {w : World} {base : Nat} {a : Addr} {n : Nat} {cs : List Value} (h : w.cells? base a n = some cs) : cs.length = n ∧ ∀ j, j < n → w.cell? (a.add j) = cs[j]? := by
  unfold World.cells? at h
  split at h
  · have : ∀ (l : List Nat) (cs : List Value), l.mapM (fun i => w.cell? (a.add i)) = some cs → cs.length = l.length ∧ ∀ (j : Nat) (i : Nat), l[j]? = some i → w.cell? (a.add i) = cs[j]? := by
      intro l
      induction l with
      | nil => intro cs h; simp at h; subst h; exact ⟨rfl, fun j i e => by simp at e⟩
      | cons x l ih =>
        intro cs h
        rw [List.mapM_cons] at h
        simp only [Option.bind_eq_bind, Option.bind_eq_some_iff, Option.pure_def] at h
        obtain ⟨v, h1, vs, h2, h3⟩ := h
        cases h3
        obtain ⟨e1, e2⟩ := ih vs h2
        refine ⟨by simp [e1], fun j i e => ?_⟩
        match j, e with
        | 0, e => simp at e; subst e; simpa using h1
        | j + 1, e => simpa using e2 j i (by simpa using e)
    obtain ⟨e1, e2⟩ := this _ _ h
    rw [List.length_range] at e1
    exact ⟨e1, fun j hj => e2 j j (by simp [hj])⟩
  · cases h
theorem add_off (a : Addr) (n : Nat) : (a.add n).off = a.off + n ∧ (a.add n).block = a.block := by
  unfold Addr.add
  split
  · subst_vars; exact ⟨rfl, rfl⟩
  · exact ⟨rfl, rfl⟩
theorem add_add' (a : Addr) (i j : Nat) : (a.add i).add j = a.add (i + j) := by
  unfold Addr.add
  by_cases hi : i = 0 <;> by_cases hj : j = 0 <;> simp [hi, hj, Nat.add_assoc]
/-- A slice of rows of ints. -/
theorem rep_rowsl {t e k fuel : Nat} {cs : List Value} {x : DataW H × List MemPlace} (ht : P.underlying t = some (.slice e)) (hr : rowB P e k = true) (hk : P.cellsOf e = k) (h0 : 0 < k)
    (h : DataW.trod enc P w base spare held fuel t cs = some x) :
    ∃ v n g, cs = [v] ∧ Rep (memOf w) (.sl k n g) v ∧ ∀ i, i < n → ∃ ns : List Int, ns.length = k ∧ g i = shInts ns ∧ ∀ n ∈ ns, int64 n := by
  rcases open_slice ht h with ⟨rfl, _⟩ | ⟨a, len, cap, m, n, D, Pl, rfl, hb, hl, hcap, hm, _, hel⟩
  · exact ⟨_, 0, fun _ => [], rfl, .sl0 _ _ _ _ (Nat.zero_le _), fun i hi => by omega⟩
  have hlm : len ≤ m := by rw [hm]; split <;> omega
  rw [hk] at hel
  have row : ∀ i, i < len → ∃ ns : List Int, ns.length = k ∧ w.cells? base (a.add (i * k)) k = some (ns.map (Value.int .i64)) ∧ ∀ n ∈ ns, int64 n := fun i hi => by
    obtain ⟨cs', h1, h2⟩ := hel i (by omega)
    obtain ⟨ns, e1, rfl, e3⟩ := flat_cells hr h2
    exact ⟨ns, e1, h1, e3⟩
  by_cases hz : len = 0
  · subst hz
    exact ⟨_, 0, fun _ => [], rfl, .sl0 _ _ _ _ hcap, fun i hi => by omega⟩
  let N : Nat → List Int := fun i => if h : i < len then (row i h).choose else []
  have hN : ∀ i, i < len → (N i).length = k ∧ w.cells? base (a.add (i * k)) k = some ((N i).map (Value.int .i64)) ∧ ∀ n ∈ N i, int64 n := fun i hi => by
    simp only [N, dif_pos hi]
    exact (row i hi).choose_spec
  have cell : ∀ i j, i < len → j < k → w.cell? (a.add (i * k + j)) = ((N i).map (Value.int .i64))[j]? := fun i j hi hj => by
    have := (cells?_at (hN i hi).2.1).2 j hj
    rwa [add_add'] at this
  have hspot : a.spot = none := by
    have h1 := cell 0 0 (by omega) h0
    have : ∃ v, w.cell? a = some v := by
      have hl0 := (hN 0 (by omega)).1
      match hq : N 0 with
      | [] => rw [hq] at hl0; simp at hl0; omega
      | x :: r =>
        rw [hq] at h1
        simp [Addr.add] at h1
        exact ⟨_, h1⟩
    obtain ⟨v, hv⟩ := this
    exact (hcell_memOf hv).2
  obtain ⟨blk, off, spot⟩ := a
  simp only at hspot
  subst hspot
  refine ⟨_, len, fun i => shInts (N i), rfl, .sl _ _ _ blk off cap (fun i j => ((N i).map (Value.int .i64)).getD j .nilFunc) hl hcap (fun i hi => by simp [shInts, (hN i hi).1]) (fun i j hi hj => ?_) (fun i j hi hj => ?_) (fun i j s hi e => ?_), fun i hi => ⟨N i, (hN i hi).1, rfl, (hN i hi).2.2⟩⟩
  · have h1 := cell i j hi hj
    have hlt : j < ((N i).map (Value.int .i64)).length := by simpa [(hN i hi).1] using hj
    rw [List.getElem?_eq_getElem hlt] at h1
    have h2 := (hcell_memOf h1).1
    rw [(add_off _ _).1, (add_off _ _).2] at h2
    simp only [Nat.add_assoc] at h2 ⊢
    rw [h2, List.getD_eq_getElem?_getD, List.getElem?_eq_getElem hlt]; rfl
  · have hlt : j < (N i).length := by rw [(hN i hi).1]; exact hj
    simp [List.getD_eq_getElem?_getD, hlt]; rfl
  · simp only [shInts, List.getElem?_map, Option.map_eq_some_iff] at e
    obtain ⟨n, h3, rfl⟩ := e
    simp [List.getD_eq_getElem?_getD, h3]
    exact .i _ _
/-- A struct of two slices of rows of ints. -/
def pairB (P : Program) (t : Nat) (k0 k1 : Nat) : Bool :=
  match P.underlying t with
  | some (.struct fs) => fs.size == 2 && P.cellsOf t == 2 && (match fs[0]?, fs[1]? with
    | some f0, some f1 => f0.offset == 0 && f1.offset == 1 && P.cellsOf f0.type == 1 && P.cellsOf f1.type == 1 && (match P.underlying f0.type, P.underlying f1.type with
      | some (.slice e0), some (.slice e1) => rowB P e0 k0 && P.cellsOf e0 == k0 && rowB P e1 k1 && P.cellsOf e1 == k1
      | _, _ => false)
    | _, _ => false)
  | _ => false
theorem rep_pair {t k0 k1 : Nat} {v : Value} {d : DataW H} {ps : List MemPlace} (hp : pairB P t k0 k1 = true) (h00 : 0 < k0) (h01 : 0 < k1) {b0 : Nat} (hval : Value.okWide P w .any b0 t v) (hd : DataW.Trod enc P w base spare held t v d ps) :
    ∃ n0 g0 n1 g1, Rep (memOf w) (.agg [.sl k0 n0 g0, .sl k1 n1 g1]) v ∧ (∀ i, i < n0 → ∃ ns : List Int, ns.length = k0 ∧ g0 i = shInts ns ∧ ∀ n ∈ ns, int64 n) ∧ ∀ i, i < n1 → ∃ ns : List Int, ns.length = k1 ∧ g1 i = shInts ns ∧ ∀ n ∈ ns, int64 n := by
  unfold pairB at hp
  split at hp
  · rename_i fs hu
    unfold Value.okWide at hval
    rw [hu] at hval
    obtain ⟨cs, rfl, hsz, _⟩ := hval
    simp only [Bool.and_eq_true, beq_iff_eq] at hp
    obtain ⟨⟨h2, hc⟩, hp⟩ := hp
    split at hp
    · rename_i f0 f1 hf0 hf1
      simp only [Bool.and_eq_true, beq_iff_eq] at hp
      obtain ⟨⟨⟨⟨o0, o1⟩, c0⟩, c1⟩, hp⟩ := hp
      split at hp
      · rename_i e0 e1 hs0 hs1
        simp only [Bool.and_eq_true, beq_iff_eq] at hp
        obtain ⟨⟨⟨r0, q0⟩, r1⟩, q1⟩ := hp
        obtain ⟨fuel, hd⟩ := hd
        obtain ⟨xs, m, _, _, hlen, hxs, hel⟩ := DataW.trod_struct hu hd
        have a0 := hel 0 f0 hf0
        have a1 := hel 1 f1 hf1
        rw [o0, c0, List.getElem?_eq_getElem (by rw [hxs, h2]; decide)] at a0
        rw [o1, c1, List.getElem?_eq_getElem (by rw [hxs, h2]; decide)] at a1
        obtain ⟨v0, n0, g0, x0, y0, z0⟩ := rep_rowsl hs0 r0 q0 h00 a0
        obtain ⟨v1, n1, g1, x1, y1, z1⟩ := rep_rowsl hs1 r1 q1 h01 a1
        rw [hc] at hsz
        obtain ⟨l⟩ := cs
        match l, hsz with
        | [u0, u1], _ =>
          simp [Value.cells] at x0 x1
          subst x0 x1
          refine ⟨n0, g0, n1, g1, .agg _ _ rfl fun j s v e1 e2 => ?_, z0, z1⟩
          match j, e1, e2 with
          | 0, e1, e2 => simp at e1 e2; subst e1 e2; exact y0
          | 1, e1, e2 => simp at e1 e2; subst e1 e2; exact y1
          | j + 2, e1, _ => simp at e1
      · cases hp
    · cases hp
  · cases hp
/-- A slice of rows of ints, as an argument. -/
theorem rep_slice_arg {t e k : Nat} {v : Value} {d : DataW H} {ps : List MemPlace} (ht : P.underlying t = some (.slice e)) (hr : rowB P e k = true) (hk : P.cellsOf e = k) (h0 : 0 < k) {b0 : Nat} (hval : Value.okWide P w .any b0 t v) (hd : DataW.Trod enc P w base spare held t v d ps) :
    ∃ n g, Rep (memOf w) (.sl k n g) v ∧ ∀ i, i < n → ∃ ns : List Int, ns.length = k ∧ g i = shInts ns ∧ ∀ n ∈ ns, int64 n := by
  obtain ⟨fuel, hd⟩ := hd
  obtain ⟨u, n, g, h1, h2, h3⟩ := rep_rowsl ht hr hk h0 hd
  have : v = u := by
    unfold Value.okWide at hval
    rw [ht] at hval
    cases v <;> simp [Value.cells] at h1 <;> first | exact h1 | skip
    all_goals (unfold Cell.okWide at hval; simp [ht] at hval; try (simp [Cell.ok, ht] at hval))
  subst this
  exact ⟨n, g, h2, h3⟩
end
end Go.Sx
namespace Go.Sx
open Go.RowKit Go.ChangeShapes Go.WideShapes Go.Deep
theorem var_heap {P : Program} {W : World} {n : String} {g : Nat} {cs : Array Value} (hg : P.globalNamed n = some g) (h : W.var? P n = some cs) : ∃ e f, W.heap[g]? = some (.cells cs e f) := by
  unfold World.var? at h
  rw [hg] at h
  simp only [Option.bind_some] at h
  split at h
  · rename_i c e f hb
    cases h
    exact ⟨_, _, hb⟩
  · cases h
theorem laid_er {P : Program} {n nm : String} {text : List UInt8} {r : List (String × DataW Unit)} {W : World} {g : Nat} {ti tp te ts : TypeId} {ms : Array (String × TypeId)} {f : Field}
    (h : laidMet P ((n, .iface nm (.ptr (.agg [.lit (.string text)]))) :: r) W)
    (hg : P.globalNamed n = some g) (ht : (P.globals[g]?).map (·.type) = some ti) (hi : P.underlying ti = some (.interface ms)) (hrow : ∀ u, P.typeName? 3 u = some nm → u = tp)
    (hp : P.underlying tp = some (.pointer te)) (he : P.underlying te = some (.struct #[f])) (hft : f.type = ts) (hfo : f.offset = 0) (hs : P.underlying ts = some .string) (hc : P.cellsOf te = 1) (hcs : P.cellsOf ts = 1) :
    GlobAt (memOf W) g (.er g tp) := by
  obtain ⟨ps, ⟨g0, t0, cs0, f0, p0, q0, hg0, ht0, hv0, hd0, _, e0⟩, _, hrows⟩ := h
  obtain rfl := Option.some.inj (hg.symm.trans hg0)
  obtain rfl := Option.some.inj (ht.symm.trans ht0)
  subst e0
  obtain ⟨l0⟩ := cs0
  have ok0 : ∀ u v, l0 = [.iface u v] → Value.okWide P W .any 0 u v := fun u v e => by
    subst e
    exact (hrows g 0 (by simp [MemPlace.row])).2 u v (by simpa using World.var?_cell hg0 hv0 0)
  obtain ⟨a0, s0, rfl, hc0, hs0, hz0, rfl⟩ := errorString_of_trod hi hrow hp he hft hfo hs hc hcs hd0 ok0
  obtain ⟨c0, t0, hb0⟩ := (hrows a0.block a0.off (by simp [MemPlace.row])).1
  obtain ⟨e, f, hh⟩ := var_heap hg hv0
  have h1 : hcell (memOf W) g 0 = some (.iface tp (.pointer (some a0))) := by
    unfold hcell memOf
    rw [hh]; rfl
  exact ⟨_, h1, .er g tp a0 c0 t0 h1 hb0, rfl⟩
/-- An array of strings. -/
theorem laid_strs {P : Program} {n : String} {texts : List (List UInt8)} {r : List (String × DataW Unit)} {W : World} {g : Nat} {t e : TypeId} {k : Nat}
    (h : laidMet P ((n, .agg (texts.map fun s => .lit (.string s))) :: r) W)
    (hg : P.globalNamed n = some g) (ht : (P.globals[g]?).map (·.type) = some t) (hu : P.underlying t = some (.array k e)) (he : P.underlying e = some .string) (hce : P.cellsOf e = 1) :
    GlobAt (memOf W) g (.tup (texts.map Sh.str)) := by
  obtain ⟨ps, ⟨g0, t0, cs0, f0, p0, q0, hg0, ht0, hv0, hd0, _, e0⟩, _, hrows⟩ := h
  obtain rfl := Option.some.inj (hg.symm.trans hg0)
  obtain rfl := Option.some.inj (ht.symm.trans ht0)
  obtain ⟨e1, f1, hh⟩ := var_heap hg hv0
  obtain ⟨xs, m, _, hx, hlen, hxs, hel⟩ := DataW.trod_array hu hd0
  have hxs' : xs.map (·.1) = texts.map fun s => .lit (.string s) := by
    have := congrArg Prod.fst hx
    simp at this
    exact this.symm
  have hkt : k = texts.length := by
    have := congrArg List.length hxs'
    simp at this
    omega
  subst hkt
  have cell : ∀ j (hj : j < texts.length), cs0[j]? = some (.string ⟨texts[j].toArray⟩) := fun j hj => by
    have q := hel j hj
    rw [hce, Nat.mul_one] at q
    have hxj : j < xs.length := by omega
    rw [List.getElem?_eq_getElem hxj] at q
    obtain ⟨s, q1, q2, _⟩ := DataW.trod_string he q
    have q3 : (xs.map (·.1))[j]? = some (.lit (.string texts[j])) := by rw [hxs']; simp [hj]
    have q4 : (xs[j]).1 = .lit (.string texts[j]) := by
      rw [List.getElem?_map, List.getElem?_eq_getElem hxj] at q3
      simpa using q3
    rw [q2] at q4
    simp at q4
    have q5 : (List.take 1 (List.drop j cs0.toList))[0]? = some (.string s) := by rw [q1]; rfl
    have q6 : cs0[j]? = some (.string s) := by simpa using q5
    rw [q6]
    obtain ⟨⟨l⟩⟩ := s
    have : l = texts[j] := q4
    subst this; rfl
  refine ⟨fun j => .string ⟨(texts.getD j []).toArray⟩, fun j hj => ?_, fun j s hs => ?_⟩
  · have hj' : j < texts.length := by simpa using hj
    refine ⟨?_, rfl⟩
    unfold hcell memOf
    rw [hh]
    simp only [cell j hj', List.getD_eq_getElem?_getD, List.getElem?_eq_getElem hj', Option.getD_some]
  · rw [List.getElem?_map, Option.map_eq_some_iff] at hs
    obtain ⟨l, h1, rfl⟩ := hs
    show Rep (memOf W) (.str l) (.string ⟨(texts.getD j []).toArray⟩)
    rw [List.getD_eq_getElem?_getD, h1]
    exact .str l
end Go.Sx
namespace Go.Proofs
open Go Go.Sx Go.RowKit Go.ChangeShapes
theorem star5 : "*" ++ "errors.errorString" = "*errors.errorString" := by decide
theorem row5 (u : TypeId) (h : Tryd.prog.typeName? 3 u = some "*errors.errorString") : u = 125 :=
  typeName_ptr_named (nm := "errors.errorString") (by rw [star5]; kernel_rfl) (by kernel_rfl) (by decide) u (by rw [star5]; exact h)
open YtibleheeajlfjaaDoor.Rows in
/-- What the rows list. -/
abbrev laid5 : List (String × DataW Unit) := cutMakesRow.laid
theorem gls_laid {W : World} (h : laidMetH Tryd.prog laid5 W) : GlobOK (gls5 W5) (memOf W) := by
  rw [MakeChecks.laidMetH_plain _ _ _ (by kernel_rfl)] at h
  have e2 : GlobAt (memOf W) 2 (.er 2 125) := laid_er h (by kernel_rfl) (by kernel_rfl) Tryd.underlying43 row5 Tryd.underlying125 Tryd.underlying142 rfl rfl Tryd.underlying9 (by kernel_rfl) (by kernel_rfl)
  have e8 : GlobAt (memOf W) 8 (.er 8 125) := laid_er h.tail (by kernel_rfl) (by kernel_rfl) Tryd.underlying43 row5 Tryd.underlying125 Tryd.underlying142 rfl rfl Tryd.underlying9 (by kernel_rfl) (by kernel_rfl)
  have e3 : GlobAt (memOf W) 3 (.er 3 125) := laid_er h.tail.tail (by kernel_rfl) (by kernel_rfl) Tryd.underlying43 row5 Tryd.underlying125 Tryd.underlying142 rfl rfl Tryd.underlying9 (by kernel_rfl) (by kernel_rfl)
  have e9 : GlobAt (memOf W) 9 (.er 9 125) := laid_er h.tail.tail.tail (by kernel_rfl) (by kernel_rfl) Tryd.underlying43 row5 Tryd.underlying125 Tryd.underlying142 rfl rfl Tryd.underlying9 (by kernel_rfl) (by kernel_rfl)
  have e4 : GlobAt (memOf W) 4 (.er 4 125) := laid_er h.tail.tail.tail.tail (by kernel_rfl) (by kernel_rfl) Tryd.underlying43 row5 Tryd.underlying125 Tryd.underlying142 rfl rfl Tryd.underlying9 (by kernel_rfl) (by kernel_rfl)
  have e10 : GlobAt (memOf W) 10 (.er 10 125) := laid_er h.tail.tail.tail.tail.tail (by kernel_rfl) (by kernel_rfl) Tryd.underlying43 row5 Tryd.underlying125 Tryd.underlying142 rfl rfl Tryd.underlying9 (by kernel_rfl) (by kernel_rfl)
  have e0 : GlobAt (memOf W) 0 (.er 0 125) := laid_er h.tail.tail.tail.tail.tail.tail (by kernel_rfl) (by kernel_rfl) Tryd.underlying43 row5 Tryd.underlying125 Tryd.underlying142 rfl rfl Tryd.underlying9 (by kernel_rfl) (by kernel_rfl)
  have e5 : GlobAt (memOf W) 5 (.er 5 125) := laid_er h.tail.tail.tail.tail.tail.tail.tail (by kernel_rfl) (by kernel_rfl) Tryd.underlying43 row5 Tryd.underlying125 Tryd.underlying142 rfl rfl Tryd.underlying9 (by kernel_rfl) (by kernel_rfl)
  have e6 : GlobAt (memOf W) 6 (.er 6 125) := laid_er h.tail.tail.tail.tail.tail.tail.tail.tail (by kernel_rfl) (by kernel_rfl) Tryd.underlying43 row5 Tryd.underlying125 Tryd.underlying142 rfl rfl Tryd.underlying9 (by kernel_rfl) (by kernel_rfl)
  have e7 : GlobAt (memOf W) 7 (.er 7 125) := laid_er h.tail.tail.tail.tail.tail.tail.tail.tail.tail (by kernel_rfl) (by kernel_rfl) Tryd.underlying43 row5 Tryd.underlying125 Tryd.underlying142 rfl rfl Tryd.underlying9 (by kernel_rfl) (by kernel_rfl)
  have e1 : GlobAt (memOf W) 1 (.er 1 125) := laid_er h.tail.tail.tail.tail.tail.tail.tail.tail.tail.tail (by kernel_rfl) (by kernel_rfl) Tryd.underlying43 row5 Tryd.underlying125 Tryd.underlying142 rfl rfl Tryd.underlying9 (by kernel_rfl) (by kernel_rfl)
  have e11 : GlobAt (memOf W) 11 (.tup (wds W5 11 4)) := laid_strs (texts := [W5 11 0, W5 11 1, W5 11 2, W5 11 3]) h.tail.tail.tail.tail.tail.tail.tail.tail.tail.tail.tail (by kernel_rfl) (by kernel_rfl) Tryd.underlying120 Tryd.underlying9 (by kernel_rfl)
  have e12 : GlobAt (memOf W) 12 (.tup (wds W5 12 7)) := laid_strs (texts := [W5 12 0, W5 12 1, W5 12 2, W5 12 3, W5 12 4, W5 12 5, W5 12 6]) h.tail.tail.tail.tail.tail.tail.tail.tail.tail.tail.tail.tail (by kernel_rfl) (by kernel_rfl) Tryd.underlying122 Tryd.underlying9 (by kernel_rfl)
  have e13 : GlobAt (memOf W) 13 (.tup (wds W5 13 9)) := laid_strs (texts := [W5 13 0, W5 13 1, W5 13 2, W5 13 3, W5 13 4, W5 13 5, W5 13 6, W5 13 7, W5 13 8]) h.tail.tail.tail.tail.tail.tail.tail.tail.tail.tail.tail.tail.tail (by kernel_rfl) (by kernel_rfl) Tryd.underlying123 Tryd.underlying9 (by kernel_rfl)
  have e14 : GlobAt (memOf W) 14 (.tup (wds W5 14 3)) := laid_strs (texts := [W5 14 0, W5 14 1, W5 14 2]) h.tail.tail.tail.tail.tail.tail.tail.tail.tail.tail.tail.tail.tail.tail (by kernel_rfl) (by kernel_rfl) Tryd.underlying124 Tryd.underlying9 (by kernel_rfl)
  have e15 : GlobAt (memOf W) 15 (.tup (wds W5 15 4)) := laid_strs (texts := [W5 15 0, W5 15 1, W5 15 2, W5 15 3]) h.tail.tail.tail.tail.tail.tail.tail.tail.tail.tail.tail.tail.tail.tail.tail (by kernel_rfl) (by kernel_rfl) Tryd.underlying120 Tryd.underlying9 (by kernel_rfl)
  have e16 : GlobAt (memOf W) 16 (.tup (wds W5 16 4)) := laid_strs (texts := [W5 16 0, W5 16 1, W5 16 2, W5 16 3]) h.tail.tail.tail.tail.tail.tail.tail.tail.tail.tail.tail.tail.tail.tail.tail.tail (by kernel_rfl) (by kernel_rfl) Tryd.underlying120 Tryd.underlying9 (by kernel_rfl)
  intro g s hg
  match g, hg with
  | 0, hg => cases hg; exact e0
  | 1, hg => cases hg; exact e1
  | 2, hg => cases hg; exact e2
  | 3, hg => cases hg; exact e3
  | 4, hg => cases hg; exact e4
  | 5, hg => cases hg; exact e5
  | 6, hg => cases hg; exact e6
  | 7, hg => cases hg; exact e7
  | 8, hg => cases hg; exact e8
  | 9, hg => cases hg; exact e9
  | 10, hg => cases hg; exact e10
  | 11, hg => cases hg; exact e11
  | 12, hg => cases hg; exact e12
  | 13, hg => cases hg; exact e13
  | 14, hg => cases hg; exact e14
  | 15, hg => cases hg; exact e15
  | 16, hg => cases hg; exact e16
  | n + 17, hg => simp [gls5, look?] at hg
end Go.Proofs
namespace Go.Sx
open Go.RowKit Go.ChangeShapes Go.WideShapes Go.Deep Go.Pl
theorem SpecRes.below {H : Mem} {w w' : World} {s : Sh} {v : Value} {H' : Mem} (h : SpecRes H w s v H' w') : Below w.heap.size w w' := ⟨h.os, h.tape, h.output, h.size, h.old⟩
theorem SpecRes.bool {H : Mem} {w w' : World} {b : Bool} {v : Value} {H' : Mem} (h : SpecRes H w (.b b) v H' w') : v = .bool b := by
  obtain ⟨E1, _, _, h1, _⟩ := h.res 0
  exact h1
/-- Each parameter's type can be read. -/
def rowedB (P : Program) (ts : List TypeId) : Bool := ts.all fun t => P.readableRec t && decide (t < P.types.size)
section
variable {H : Type} {enc : TypeId × Value → H} {P : Program}
theorem below_all (hl : laidOutB P = true) {W W' : World} (hb : Below W.heap.size W W') :
    ∀ {ts : List TypeId} {vs : List Value} {ds : List (DataW H)} {p : List MemPlace}, rowedB P ts = true → DataW.TrodAll enc P W 0 (fun _ => true) true ts vs ds p → (∀ x ∈ p, x.block < W.heap.size) →
      DataW.TrodAll enc P W' 0 (fun b => decide (b < W.heap.size)) true ts vs ds p
  | [], _, _, _, _, h, _ => by
    obtain ⟨rfl, rfl, rfl⟩ := trodAll_nil h
    exact rfl
  | t :: ts, _, _, _, hr, h, hlt => by
    obtain ⟨v, vs1, d, ds1, a, b, rfl, rfl, rfl, h1, h2⟩ := trodAll_cons h
    simp only [rowedB, List.all_cons, Bool.and_eq_true, decide_eq_true_eq] at hr
    exact ⟨a, b, Below.trod hl hr.1.1 hr.1.2 h1 hb fun x hx => hlt x (List.mem_append_left _ hx), below_all hl hb (by simp only [rowedB]; exact hr.2) h2 fun x hx => hlt x (List.mem_append_right _ hx), rfl⟩
/-- The row's post of a law that has answered true. -/
theorem post_law (hl : laidOutB P = true) {f : Func} {s : ChangeSpec} {W W' : World} {args : Array Value} {t : TypeId} {ds gs : List (DataW H)} {before : List MemPlace} (hs : s.vars = []) (hr : rowedB P f.params.toList = true) (ht : f.resultTypes = #[t]) (hu : P.underlying t = some .bool)
    (hW : DataW.Whole enc P f.params.toList s.vars false W args.toList ds gs before) (hb : Below W.heap.size W W')
    (h1 : (s.fn H (ds ++ gs)).results = [.lit (.bool true)]) (h2 : (s.fn H (ds ++ gs)).args = ds) (h3 : (s.fn H (ds ++ gs)).vars = []) :
    s.post enc P f false true false false W args (.bool true) W' := by
  have hlt := hW.lt
  have hW0 := hW
  obtain ⟨p, q, hA, hV, e, hfz, hnd⟩ := hW
  rw [hs] at hV
  obtain ⟨rfl, rfl⟩ := trodVars_none hV
  subst e
  refine ⟨ds, [], p ++ [], [], p, [], hW0, ?_, ?_, ?_, Below.frame hb _, fun e => by cases e⟩
  · rw [h1, ht]
    exact trodAll_mk1 (shut_bool hu true)
  · rw [h2]
    exact below_all hl hb hr hA fun x hx => hlt x (by simpa using hx)
  · rw [h3, hs]
    exact rfl
end
theorem okB_rows {α : Type} [Row α] {k n : Nat} {g : Nat → List Sh} (hk : ∀ ns : List Int, ns.length = k → (Row.get (α := α) (shInts ns)).isSome = true) (h : ∀ i, i < n → ∃ ns : List Int, ns.length = k ∧ g i = shInts ns ∧ ∀ n ∈ ns, int64 n) : okB α n g = true := by
  induction n with
  | zero => rfl
  | succ n ih =>
    obtain ⟨ns, h1, h2, _⟩ := h n (by omega)
    simp only [okB, ih fun i hi => h i (by omega), Bool.true_and]
    rw [h2]
    exact hk ns h1
theorem okB_oj {n : Nat} {g : Nat → List Sh} (h : ∀ i, i < n → ∃ ns : List Int, ns.length = 2 ∧ g i = shInts ns ∧ ∀ n ∈ ns, int64 n) : okB Oj n g = true := okB_rows (fun ns hn => by
  match ns, hn with
  | [a, b], _ => rfl) h
theorem okB_ev {n : Nat} {g : Nat → List Sh} (h : ∀ i, i < n → ∃ ns : List Int, ns.length = 8 ∧ g i = shInts ns ∧ ∀ n ∈ ns, int64 n) : okB Ev n g = true := okB_rows (fun ns hn => by
  match ns, hn with
  | [a, b, c, d, e, f, g, h], _ => rfl) h
theorem okB_in {n : Nat} {g : Nat → List Sh} (h : ∀ i, i < n → ∃ ns : List Int, ns.length = 1 ∧ g i = shInts ns ∧ ∀ n ∈ ns, int64 n) : okB Int n g = true := okB_rows (fun ns hn => by
  match ns, hn with
  | [a], _ => rfl) h
end Go.Sx
namespace Go.Pl
open Go Go.Sx Go.RowKit Go.Deep
theorem retsB_ev {n : Nat} {g : Nat → List Sh} (h : ∀ i, i < n → ∃ ns : List Int, ns.length = 8 ∧ g i = shInts ns ∧ ∀ n ∈ ns, int64 n) : retsB n g = true := List.all_eq_true.2 fun i hi => by
  obtain ⟨ns, h1, h2, h3⟩ := h i (List.mem_range.1 hi)
  match ns, h1 with
  | [a, b, c, d, e, f, x, y], _ =>
    have hy := h3 y (by simp)
    unfold rwAt
    rw [h2]
    have e : ((Row.get (shInts [a, b, c, d, e, f, x, y])).getD Row.dft : Ev).ret = y := rfl
    rw [e]
    have hy : (Lit.int .i64 y).wf = true := hy
    simp only [Lit.wf, Bool.and_eq_true, decide_eq_true_eq] at hy
    exact decide_eq_true hy
end Go.Pl
namespace Go.Proofs.YtibleheeajlfjaaDoor
open Go.ChangeShapes Go.WideShapes Go.ChangeAt Go.WideMaps Go.WideElems Go.RowKit Go.Sx Go.Pl
theorem own5 : ownKnob Tryd.prog.godebug = none := by kernel_rfl
theorem laidOut5 : laidOutB Tryd.prog = true := by kernel_rfl
/-- The door's own heap meets the condition. -/
theorem door5 (os : Os) (args : Array Value) : laidMetH Tryd.prog laid5 ((World.doorLaid Tryd.prog 400 os).forCall (fun _ _ => 0) ⟨#[], args, []⟩).memory :=
  laidMetH_of_parts3 (fuel := 8) (laidMet_of_run' 8 (by kernel_rfl) (by kernel_rfl)) (by kernel_rfl) (by kernel_rfl)
end Go.Proofs.YtibleheeajlfjaaDoor
namespace Go.Proofs.YtibleheeajlfjaaDoor
open Go.ChangeShapes Go.WideShapes Go.ChangeAt Go.WideMaps Go.WideElems Go.RowKit Go.Sx Go.Pl
set_option maxRecDepth 100000 in
theorem lifted6 (os : Os) (started : os.Started) (H : Type) (enc : TypeId × Value → H) :
    ReturnsInHanded {} Tryd.checked os 6 .any (fun w args => (Rows.cutEachSpec.pre enc Tryd.prog Tryd.f6 [] false w args ∧ laidMetH Tryd.prog laid5 w) ∧ sizedMet enc Tryd.prog Tryd.f6 (OpenSpec.ofChange Rows.cutEachSpec) false w args)
      (Rows.cutEachSpec.post enc Tryd.prog Tryd.f6 false true false false) := by
  refine returnsInHanded_of_change_and (C := Tryd.checked) (X := fun w _ => laidMetH Tryd.prog laid5 w) (fun _ _ _ hh h => h.of_heap hh) own5 started (by kernel_rfl) Tryd.func6
    (ChangeSpec.witness_shaped (enc := enc) (C := Tryd.checked) (os := os) (X := fun w _ => laidMetH Tryd.prog laid5 w) false (World.doorLaid Tryd.prog 400 os) #[.agg #[.slice none 0 0, .slice none 0 0], .int .i64 0] 8 rfl (World.shaped_of_RefB (by kernel_rfl) (by kernel_rfl)) (by kernel_rfl) (by kernel_rfl) (by kernel_rfl) (door5 os _)) ?_
  intro W base args ds gs before hval0 hW _ _ hL _
  have hval : ∀ (j : Nat) t v, Tryd.f6.params[j]? = some t → args[j]? = some v → Value.okWide Tryd.prog W .any base t v := hval0
  have hW' := hW
  obtain ⟨p, q, hA0, hV, e, hfz, hnd⟩ := hW
  obtain ⟨rfl, rfl⟩ := trodVars_none hV
  have hA : DataW.TrodAll enc Tryd.prog W 0 (fun _ => true) true Tryd.f6.params.toList args.toList ds p := hA0
  rw [Tryd.params6] at hA hval
  obtain ⟨v0, vs0, d0, ds0, p0, q0, ea, rfl, rfl, t0, hA⟩ := trodAll_cons hA
  obtain ⟨v1, vs1, d1, ds1, p1, q1, rfl, rfl, rfl, t1, hA⟩ := trodAll_cons hA
  obtain ⟨rfl, rfl, rfl⟩ := trodAll_nil hA
  have at_ : ∀ (j : Nat) v, [v0, v1][j]? = some v → args[j]? = some v := fun j v h => by rw [← Array.getElem?_toList, ea]; exact h
  obtain ⟨n0, g0, m0, h0, r0, a0, b0⟩ := rep_pair (k0 := 2) (k1 := 8) (by kernel_rfl) (by decide) (by decide) (hval 0 25 v0 rfl (at_ 0 v0 rfl)) t0
  obtain ⟨x1, rfl, _, _, _⟩ := open_int Tryd.underlying3 (hval 1 3 v1 rfl (at_ 1 v1 rfl)) t1
  have hc := O6 (memOf W) W [.agg [.sl 2 n0 g0, .sl 8 m0 h0], .i .i64 x1] [v0, .int .i64 x1] (fun s => s = .b true) (memOf_on W) (gls_laid hL)
    ⟨r0, .i _ _, trivial⟩ ⟨okB_oj a0, okB_ev b0, retsB_ev b0, rfl⟩
  have eargs : args = [v0, .int .i64 x1].toArray := by rw [← ea]
  rw [eargs]
  refine hc.mono fun e W' ⟨v, s, H', he, hs, hr⟩ => ?_
  subst he hs
  obtain rfl := hr.bool
  refine ⟨_, rfl, post_law laidOut5 rfl (by kernel_rfl) (by kernel_rfl) Tryd.underlying4 (by rw [eargs] at hW'; exact hW') hr.below rfl rfl rfl⟩
theorem cutEach_holds : Rows.CutEachSaid :=
  OpenClaim.holds_of_wide 6 Tryd.f6 rfl rfl rfl rfl rfl rfl rfl ⟨rfl, rfl, rfl, rfl, rfl⟩ rfl rfl rfl rfl rfl (by kernel_rfl) Tryd.func6 (by kernel_rfl)
    (of_decide_eq_true (by kernel_rfl)) (by unfold Func.isWrapper; first | (rw [if_pos (by decide +kernel)]; kernel_rfl) | (rw [if_neg (by decide +kernel)]; exact ⟨rfl, rfl⟩))
    (fun os started H enc _ => lifted6 os started H enc)
end Go.Proofs.YtibleheeajlfjaaDoor
namespace Go.Proofs.YtibleheeajlfjaaDoor
open Go
theorem cutEach_card : Rows.CutEachCardSaid :=
  Claim7.holds_tied_plain_at .later [] [.sentinel, .sentinel, .sentinel, .sentinel, .sentinel, .sentinel, .sentinel, .sentinel, .sentinel, .sentinel, .sentinel, .data, .data, .data, .data, .data, .data] true (true, "167c53bdf014e3606227038426706ef95a811ac53321cf7832de0e18bc514c3d") true
    cutEach_holds (fun _ h => by cases h) (by kernel_rfl) (fun _ h => by cases h) cutEach_row_tie rfl ⟨rfl, rfl⟩ (by kernel_rfl) rfl
    (fun f fn hf hfn => by
      obtain rfl : f = 6 := Option.some.inj ((show Tryd.prog.funcNamed "umpire/umpirelaw5.CutEach" = some 6 by kernel_rfl).symm.trans hf) |>.symm
      obtain rfl : fn = Tryd.f6 := (Option.some.inj (Tryd.func6.symm.trans hfn)).symm
      exact ⟨by kernel_rfl, fun j t ht => by
        rw [Tryd.params6] at ht
        have hm : t ∈ [25, 3] := by simpa using Array.mem_of_getElem? ht
        have hall : ([25, 3].all fun u => !Tryd.prog.wantsStandIn u) = true := by kernel_rfl
        exact (show Tryd.prog.wantsStandIn t = false by simpa using List.all_eq_true.1 hall t hm)⟩)
    (by kernel_rfl)
#print axioms cutEach_card
end Go.Proofs.YtibleheeajlfjaaDoor
