/-
  Chapter 5: summaries: the two Subs, small, same event. Own work. Chapter 5: the law's example; evaluated. The equations are written by program (gen2.py). Own work. Chapter 5: summary: the law's example is as it is told. Own work. Chapter 5: does an answer fit an operation; evaluated. The equations are written by program (gen2.py). Own work. Chapter 5: summary: does an answer fit an operation. Own work. A call from whatever memory is known of, to its end: what is known of memory then. Own work.
-/
import Derived.Test.YtibleheeajlfjaaDoorE07
namespace Go.Pl
open Go Go.Sx
/-- What remains of the first behind the second, is it nothing? -/
def subB (p' : Nat → Ev) : Nat → Nat → (Nat → Ev) → Nat → Bool
  | 0, _, _, r => Nat.beq r 0
  | k + 1, i, q, r => bif decide (0 < r) && evEq (q 0) (p' i) then subB p' k (i + 1) (dropG 1 q) (r - 1) else subB p' k (i + 1) q r
theorem subB_none (p' : Nat → Ev) : ∀ k i q, subB p' k i q 0 = true
  | 0, _, _ => rfl
  | k + 1, i, q => by simp only [subB]; exact subB_none p' k (i + 1) q
theorem dropG_drop (c : Nat) (p : Nat → Ev) : dropG 1 (dropG c p) = dropG (c + 1) p := by
  funext j; simp only [dropG, Nat.add_assoc]
theorem dropG_zero (p : Nat → Ev) : dropG 0 p = p := by funext j; simp only [dropG, Nat.zero_add]
theorem evEq_fields (a b : Ev) : evEq a b = (bif a.kind == b.kind then bif a.tx == b.tx then bif a.thread == b.thread then bif a.obj == b.obj then bif a.op == b.op then bif a.key == b.key then bif a.val == b.val then bif a.ret == b.ret then true else false else false else false else false else false else false else false else false) := by
  obtain ⟨a1, a2, a3, a4, a5, a6, a7, a8⟩ := a
  obtain ⟨b1, b2, b3, b4, b5, b6, b7, b8⟩ := b
  unfold evEq
  by_cases h1 : a1 = b1 <;> by_cases h2 : a2 = b2 <;> by_cases h3 : a3 = b3 <;> by_cases h4 : a4 = b4 <;> by_cases h5 : a5 = b5 <;> by_cases h6 : a6 = b6 <;> by_cases h7 : a7 = b7 <;> by_cases h8 : a8 = b8 <;> simp [h1, h2, h3, h4, h5, h6, h7, h8]
end Go.Pl
namespace Go.Proofs
open Go Go.Sx Go.Pl
def F9 : List Sh → Tree Sh
  | [.agg [.sl 2 n _, .sl 8 m _]] => .leaf (.b (decide (n ≤ 100) && decide (m ≤ 600)))
  | _ => .fail
theorem O9 : FnOK Tryd.prog (gls5 W5) 9 F9 := by
  refine fnOK_run (C := C5 prim W5 noSpec stopAll) (C5.ok _ _) (fok0 _) (n := 300) (L := L0) (fn := Tryd.f9) (by kernel_rfl) (by kernel_rfl) fun H w shs args φ hrep h => ?_
  have hn : Tryd.f9.ntmps = 13 := by kernel_rfl
  unfold F9 at h
  split at h
  · rename_i n g m h'
    refine ⟨_, hrep, ?_⟩
    rw [hn, a9 prim W5 n m g h']
    have h : φ (.b (decide (n ≤ 100) && decide (m ≤ 600))) := h
    have e1 : prim.le (prim.ofN n) (Int.ofNat 100) = decide (n ≤ 100) := by rw [prim_le, prim_ofN]; exact decide_eq_decide.2 (by simp only [Int.ofNat_eq_natCast]; omega)
    have e2 : prim.le (prim.ofN m) (Int.ofNat 600) = decide (m ≤ 600) := by rw [prim_le, prim_ofN]; exact decide_eq_decide.2 (by simp only [Int.ofNat_eq_natCast]; omega)
    rw [e1, e2]
    refine ⟨fun q => ?_, fun q => ?_⟩
    · rw [q, Bool.true_and] at h; exact h
    · rw [q, Bool.false_and] at h; exact h
  · exact h.elim
theorem O43 : FnOK Tryd.prog (gls5 W5) 43 F43 := by
  refine fnOK_run (C := C5 prim W5 noSpec stopAll) (C5.ok _ _) (fok0 _) (n := 300) (L := L0) (fn := Tryd.f43) (by kernel_rfl) (by kernel_rfl) fun H w shs args φ hrep h => ?_
  have hn : Tryd.f43.ntmps = 61 := by kernel_rfl
  unfold F43 at h
  split at h
  · rename_i a b c d e f g k a' b' c' d' e' f' g' k'
    refine ⟨[.agg (evR ⟨a, b, c, d, e, f, g, k⟩), .agg (evR ⟨a', b', c', d', e', f', g', k'⟩)], hrep, ?_⟩
    rw [hn, a43 prim W5 ⟨a, b, c, d, e, f, g, k⟩ ⟨a', b', c', d', e', f', g', k'⟩]
    have h : φ (.b (evEq ⟨a, b, c, d, e, f, g, k⟩ ⟨a', b', c', d', e', f', g', k'⟩)) := h
    rw [evEq_fields] at h
    simp only [prim_eq, Tree.All, FinOK]
    refine ⟨fun q1 => ⟨fun q2 => ⟨fun q3 => ⟨fun q4 => ⟨fun q5 => ⟨fun q6 => ⟨fun q7 => ?_, fun q7 => ?_⟩, fun q6 => ?_⟩, fun q5 => ?_⟩, fun q4 => ?_⟩, fun q3 => ?_⟩, fun q2 => ?_⟩, fun q1 => ?_⟩
    · simp only [q1, q2, q3, q4, q5, q6, q7, cond_true] at h
      cases hh : (k == k') <;> simp only [hh, cond_true, cond_false] at h <;> exact h
    · simpa only [q1, q2, q3, q4, q5, q6, q7, cond_true, cond_false] using h
    · simpa only [q1, q2, q3, q4, q5, q6, cond_true, cond_false] using h
    · simpa only [q1, q2, q3, q4, q5, cond_true, cond_false] using h
    · simpa only [q1, q2, q3, q4, cond_true, cond_false] using h
    · simpa only [q1, q2, q3, cond_true, cond_false] using h
    · simpa only [q1, q2, cond_true, cond_false] using h
    · simpa only [q1, cond_false] using h
  · exact h.elim
theorem O22s : ∀ g F, spec22 g = some F → FnOK Tryd.prog (gls5 W5) g F := fun g F h => by
  unfold spec22 at h
  split at h
  · cases h; exact O35
  · cases h; exact O42
  · cases h; exact O43
  · cases h
theorem fok22 (stop : Nat → List Nat → Bool) : FnsOK Tryd.prog (C5 prim W5 spec22 stop) := C5.fok O22s fun g h => by
  unfold spec22 at h
  split at h
  all_goals first | (cases h; done) | kernel_rfl
theorem loop21 {H0 : Mem} {w0 : World} {m' : Nat} {p' : Nat → Ev} {φ : Sh → Prop} (hm : m' ≤ maxLen) :
    ∀ rm i r q, i + rm = m' → φ (.b (subB p' rm i q r)) → GoesS Tryd.prog (C5 prim W5 spec22 stopAll) (K0 H0 w0) 21 td21 (LO21 r m' q p' (i : Int)) [] emp φ
  | rm, i, r, q, hi, hφ => by
    have hm' := hm
    rw [maxLen_eq] at hm'
    refine goesS_into (fn := Tryd.f21) (tb := tb21) (by kernel_rfl) (by kernel_rfl) ?_
    by_cases hc : 0 < r ∧ q 0 = p' i
    · refine goesS_runTo (C5.ok _ _) (fok22 _) (hold := noHold) (m := 300) (n := 200) (ts := [⟨21, td21, LO21 (r - 1) m' (dropG 1 q) p' ((i + 1 : Nat) : Int), []⟩]) ?_
      rw [b21 prim W5 r m' q p' i (r - 1) (dropG 1 q) ((i + 1 : Nat) : Int)]
      simp only [prim_lt, prim_ofN, prim_inB, prim_toN, prim_eq, prim_nt, prim_ite, prim_add, prim_upTo, prim_subN, prim_addN, one_eq, Tree.All, Fe2OK, Int.toNat_natCast]
      rw [← evEq_fields]
      have h0 : evEq (q 0) (p' i) = true := decide_eq_true hc.2
      refine ⟨fun h => ?_, fun h => ?_⟩
      · have hlt : i < m' := by simp at h; omega
        match rm, hi, hφ with
        | 0, hi, _ => omega
        | rm + 1, hi, hφ =>
          have hφ : φ (.b (subB p' rm (i + 1) (dropG 1 q) (r - 1))) := by
            simpa only [subB, h0, hc.1, decide_true, Bool.and_true, cond_true] using hφ
          refine ⟨by simp; omega, fun _ => ⟨by simp; omega, fun _ => ⟨by simp; omega, ⟨?_, rfl, rfl, ?_, trivial⟩, _, rfl, loop21 hm rm (i + 1) (r - 1) (dropG 1 q) (by omega) hφ⟩, fun e => ?_⟩, fun e => ?_⟩
          · rfl
          · simp only [Eqn.ok]; rw [wrap_id (by omega) (by omega)]; rfl
          · rw [h0] at e; cases e
          · simp at e; omega
      · have : i = m' := by simp at h; omega
        have : rm = 0 := by omega
        subst this
        have e : Nat.beq r 0 = ((r : Int) == Int.ofNat 0) := by
          cases r with
          | zero => rfl
          | succ r => rfl
        simp only [subB, e] at hφ
        exact hφ
    · refine goesS_runTo (C5.ok _ _) (fok22 _) (hold := noHold) (m := 300) (n := 200) (ts := [⟨21, td21, LO21 r m' q p' ((i + 1 : Nat) : Int), []⟩]) ?_
      rw [b21 prim W5 r m' q p' i r q ((i + 1 : Nat) : Int)]
      simp only [prim_lt, prim_ofN, prim_inB, prim_toN, prim_eq, prim_nt, prim_ite, prim_add, prim_upTo, prim_subN, prim_addN, one_eq, Tree.All, Fe2OK, Int.toNat_natCast]
      rw [← evEq_fields]
      refine ⟨fun h => ?_, fun h => ?_⟩
      · have hlt : i < m' := by simp at h; omega
        match rm, hi, hφ with
        | 0, hi, _ => omega
        | rm + 1, hi, hφ =>
          have h0 : (decide (0 < r) && evEq (q 0) (p' i)) = false := by
            unfold evEq
            rw [← Bool.decide_and]
            exact decide_eq_false hc
          have hφ : φ (.b (subB p' rm (i + 1) q r)) := by
            simpa only [subB, h0, cond_false] using hφ
          have hw : IntKind.i64.wrap ((i : Int) + 1) = ((i + 1 : Nat) : Int) := by rw [wrap_id (by omega) (by omega)]; rfl
          refine ⟨by simp; omega, fun e1 => ⟨by simp at e1 ⊢; omega, fun e2 => ?_, fun _ => ⟨⟨rfl, rfl, rfl, hw, trivial⟩, _, rfl, loop21 hm rm (i + 1) r q (by omega) hφ⟩⟩, fun _ => ⟨⟨rfl, rfl, rfl, hw, trivial⟩, _, rfl, loop21 hm rm (i + 1) r q (by omega) hφ⟩⟩
          have : 0 < r := by simp at e1; omega
          exact (hc ⟨this, of_decide_eq_true e2⟩).elim
      · have : i = m' := by simp at h; omega
        have : rm = 0 := by omega
        subst this
        have e : Nat.beq r 0 = ((r : Int) == Int.ofNat 0) := by
          cases r with
          | zero => rfl
          | succ r => rfl
        simp only [subB, e] at hφ
        exact hφ
theorem rep_agg_len {H : Mem} {n m : Nat} {g h : Nat → List Sh} {v : Value} (hv : Rep H (.agg [.sl 2 n g, .sl 8 m h]) v) : n ≤ maxLen ∧ m ≤ maxLen := by
  cases hv with
  | agg _ vs h1 h2 =>
    have e0 : vs[0]? = some (vs[0]'(by rw [h1]; simp)) := Array.getElem?_eq_getElem _
    have e1 : vs[1]? = some (vs[1]'(by rw [h1]; simp)) := Array.getElem?_eq_getElem _
    exact ⟨rep_len (h2 0 _ _ rfl e0), rep_len (h2 1 _ _ rfl e1)⟩
def F21 : List Sh → Tree Sh
  | [.agg [.sl 2 n g, .sl 8 m h], .agg [.sl 2 n' g', .sl 8 m' h']] => .need (okB Oj n g) (.need (okB Oj n' g') (.need (okB Ev m h) (.need (okB Ev m' h') (.leaf (.b (sameL (lst Oj n g) (lst Oj n' g') && subB (rwAt h') m' 0 (rwAt h) m))))))
  | _ => .fail
theorem O21 : FnOK Tryd.prog (gls5 W5) 21 F21 := by
  refine fnOK_S (C := C5 prim W5 spec22 stopAll) (C5.ok _ _) (fn := Tryd.f21) (by kernel_rfl) (by kernel_rfl) fun H w shs args φ hrep h => ?_
  have hn : Tryd.f21.ntmps = 39 := by kernel_rfl
  unfold F21 at h
  split at h
  · rename_i n g m h' n' g' m' h''
    obtain ⟨h1, h2, h3, h4, h5⟩ := h
    match args, hrep with
    | [v, u], ⟨hv, hu, _⟩ =>
      refine ⟨[.agg [.sl 2 n g, .sl 8 m (fnR (rwAt (α := Ev) h'))], .agg [.sl 2 n' g', .sl 8 m' (fnR (rwAt (α := Ev) h''))]], ⟨rep_agg_rows hv h3, rep_agg_rows hu h4, trivial⟩, L0, ?_⟩
      refine goesS_runTo (C5.ok _ _) (fok22 _) (hold := noHold) (m := 300) (n := 200) (ts := [⟨21, td21, LO21 m m' (rwAt h') (rwAt h'') ((0 : Nat) : Int), []⟩]) ?_
      rw [hn, a21 prim W5 n m n' m' g g' (rwAt h') (rwAt h'') (rwAt h') m ((0 : Nat) : Int)]
      refine ⟨h1, h2, fun q => ?_, fun q => ⟨⟨rfl, rfl, rfl, rfl, trivial⟩, _, rfl, loop21 (rep_agg_len hu).2 m' 0 m _ (by omega) ?_⟩⟩
      · have e : sameL (lst Oj n g) (lst Oj n' g') = false := by simpa [prim_nt] using q
        rw [e, Bool.false_and] at h5; exact h5
      · have e : sameL (lst Oj n g) (lst Oj n' g') = true := by simpa [prim_nt] using q
        rw [e, Bool.true_and] at h5; exact h5
  · exact h.elim
theorem loop22 {H0 : Mem} {w0 : World} {n m n' m' : Nat} {g g' : Nat → List Sh} {p p' : Nat → Ev} {φ : Sh → Prop} (hm : m ≤ maxLen) (hm' : m' ≤ maxLen) :
    ∀ rm i c, i + rm = m' → c ≤ m → φ (.b (subB p' rm i (dropG c p) (m - c))) → GoesS Tryd.prog (C5 prim W5 spec22 stopAll) (K0 H0 w0) 22 td21 (LO22 n m n' m' g g' p p' (c : Int) (i : Int)) [] emp φ
  | rm, i, c, hi, hc, hφ => by
    have hm1 := hm
    have hm2 := hm'
    rw [maxLen_eq] at hm1 hm2
    refine goesS_into (fn := Tryd.f22) (tb := tb21) (by kernel_rfl) (by kernel_rfl) ?_
    have hx : (((c : Int) == (m : Int)) : Bool) = Nat.beq (m - c) 0 := by
      have : Nat.beq (m - c) 0 = decide (m - c = 0) := by cases m - c <;> rfl
      rw [this, Bool.eq_iff_iff]
      simp; omega
    by_cases he : c < m ∧ evEq (p c) (p' i) = true
    · refine goesS_runTo (C5.ok _ _) (fok22 _) (hold := noHold) (m := 300) (n := 200) (ts := [⟨22, td21, LO22 n m n' m' g g' p p' ((c + 1 : Nat) : Int) ((i + 1 : Nat) : Int), []⟩]) ?_
      rw [b22 prim W5 n m n' m' g g' p p' c i ((c + 1 : Nat) : Int) ((i + 1 : Nat) : Int)]
      simp only [prim_lt, prim_ofN, prim_inB, prim_toN, prim_eq, prim_add, one_eq, Tree.All, Fe2OK, Int.toNat_natCast]
      refine ⟨fun h => ⟨fun h2 => ?_, fun h2 => ?_⟩, fun h => ?_⟩
      · have hlt : i < m' := by simp at h; omega
        match rm, hi, hφ with
        | 0, hi, _ => omega
        | rm + 1, hi, hφ =>
          have h0 : (decide (0 < m - c) && evEq (dropG c p 0) (p' i)) = true := by
            rw [show dropG c p 0 = p c from rfl, he.2, Bool.and_true]; simp; omega
          have hφ : φ (.b (subB p' rm (i + 1) (dropG (c + 1) p) (m - (c + 1)))) := by
            simp only [subB, h0, cond_true, dropG_drop] at hφ
            rwa [show m - (c + 1) = m - c - 1 by omega]
          refine ⟨by simp; omega, by simp; omega, fun _ => ⟨⟨?_, ?_, rfl, rfl, rfl, rfl, trivial⟩, _, rfl, loop22 hm hm' rm (i + 1) (c + 1) (by omega) (by omega) hφ⟩, fun e => ?_⟩
          · simp only [Eqn.ok]; rw [wrap_id (by omega) (by omega)]; rfl
          · simp only [Eqn.ok]; rw [wrap_id (by omega) (by omega)]; rfl
          · have e : evEq (p c) (p' i) = false := e
            rw [he.2] at e; cases e
      · simp at h2; omega
      · have : i = m' := by simp at h; omega
        have : rm = 0 := by omega
        subst this
        rw [hx]; exact hφ
    · refine goesS_runTo (C5.ok _ _) (fok22 _) (hold := noHold) (m := 300) (n := 200) (ts := [⟨22, td21, LO22 n m n' m' g g' p p' (c : Int) ((i + 1 : Nat) : Int), []⟩]) ?_
      rw [b22 prim W5 n m n' m' g g' p p' c i c ((i + 1 : Nat) : Int)]
      simp only [prim_lt, prim_ofN, prim_inB, prim_toN, prim_eq, prim_add, one_eq, Tree.All, Fe2OK, Int.toNat_natCast]
      refine ⟨fun h => ⟨fun h2 => ?_, fun h2 => ?_⟩, fun h => ?_⟩
      · have hlt : i < m' := by simp at h; omega
        have hcm : c < m := by simp at h2; omega
        match rm, hi, hφ with
        | 0, hi, _ => omega
        | rm + 1, hi, hφ =>
          have h1 : evEq (p c) (p' i) = false := by
            cases e : evEq (p c) (p' i) with
            | false => rfl
            | true => exact (he ⟨hcm, e⟩).elim
          have h0 : (decide (0 < m - c) && evEq (dropG c p 0) (p' i)) = false := by
            rw [show dropG c p 0 = p c from rfl, h1, Bool.and_false]
          have hφ : φ (.b (subB p' rm (i + 1) (dropG c p) (m - c))) := by
            simpa only [subB, h0, cond_false] using hφ
          refine ⟨by simp; omega, by simp; omega, fun e => ?_, fun _ => ⟨⟨rfl, ?_, rfl, rfl, rfl, rfl, trivial⟩, _, rfl, loop22 hm hm' rm (i + 1) c (by omega) hc hφ⟩⟩
          · have e : evEq (p c) (p' i) = true := e
            rw [h1] at e; cases e
          · simp only [Eqn.ok]; rw [wrap_id (by omega) (by omega)]; rfl
      · have : c = m := by simp at h2; omega
        subst this
        rw [hx, Nat.sub_self]
        rw [Nat.sub_self, subB_none] at hφ
        exact hφ
      · have : i = m' := by simp at h; omega
        have : rm = 0 := by omega
        subst this
        rw [hx]; exact hφ
def F22 : List Sh → Tree Sh := F21
theorem O22 : FnOK Tryd.prog (gls5 W5) 22 F22 := by
  refine fnOK_S (C := C5 prim W5 spec22 stopAll) (C5.ok _ _) (fn := Tryd.f22) (by kernel_rfl) (by kernel_rfl) fun H w shs args φ hrep h => ?_
  have hn : Tryd.f22.ntmps = 45 := by kernel_rfl
  unfold F22 F21 at h
  split at h
  · rename_i n g m h' n' g' m' h''
    obtain ⟨h1, h2, h3, h4, h5⟩ := h
    match args, hrep with
    | [v, u], ⟨hv, hu, _⟩ =>
      refine ⟨[.agg [.sl 2 n g, .sl 8 m (fnR (rwAt (α := Ev) h'))], .agg [.sl 2 n' g', .sl 8 m' (fnR (rwAt (α := Ev) h''))]], ⟨rep_agg_rows hv h3, rep_agg_rows hu h4, trivial⟩, L0, ?_⟩
      refine goesS_runTo (C5.ok _ _) (fok22 _) (hold := noHold) (m := 300) (n := 200) (ts := [⟨22, td21, LO22 n m n' m' g g' (rwAt h') (rwAt h'') ((0 : Nat) : Int) ((0 : Nat) : Int), []⟩]) ?_
      rw [hn, a22 prim W5 n m n' m' g g' (rwAt h') (rwAt h'') ((0 : Nat) : Int) ((0 : Nat) : Int)]
      refine ⟨h1, h2, fun q => ?_, fun q => ⟨⟨rfl, rfl, rfl, rfl, rfl, rfl, trivial⟩, _, rfl, loop22 (rep_agg_len hv).2 (rep_agg_len hu).2 m' 0 0 (by omega) (by omega) ?_⟩⟩
      · have e : sameL (lst Oj n g) (lst Oj n' g') = false := by simpa [prim_nt] using q
        rw [e, Bool.false_and] at h5; exact h5
      · have e : sameL (lst Oj n g) (lst Oj n' g') = true := by simpa [prim_nt] using q
        rw [e, Bool.true_and] at h5
        rw [dropG_zero]; exact h5
  · exact h.elim
end Go.Proofs
namespace Go.Proofs
open Go Go.Sx Go.Pl
def spec8 : Nat → Option (List Sh → Tree Sh)
  | 32 => some F32c
  | 34 => some F34c
  | _ => none
noncomputable def C8 : Ctx := { C5 prim W5 spec8 unroll with lits := true }

theorem w8 : Tree.way (runTo C8 noHold 600 3000 8 [.code []] (start0 84 [] L0) [] []) [] = some ([Eqn.sh (Sh.sl 2 1 (nthL [[Sh.i IntKind.i64 (Int.ofNat 1), Sh.i IntKind.i64 (Int.ofNat 0)], [Sh.i IntKind.i64 (Int.ofNat 3), Sh.i IntKind.i64 (Int.ofNat 0)]])) (Sh.sl 2 1 (nthL [[Sh.i IntKind.i64 (Int.ofNat 1), Sh.i IntKind.i64 (Int.ofNat 0)], [Sh.i IntKind.i64 (Int.ofNat 3), Sh.i IntKind.i64 (Int.ofNat 0)]])), Eqn.nat 2 2, Eqn.fun_ (nthL [[Sh.i IntKind.i64 (Int.ofNat 1), Sh.i IntKind.i64 (Int.ofNat 0)], [Sh.i IntKind.i64 (Int.ofNat 3), Sh.i IntKind.i64 (Int.ofNat 0)]]) (nthL [[Sh.i IntKind.i64 (Int.ofNat 1), Sh.i IntKind.i64 (Int.ofNat 0)], [Sh.i IntKind.i64 (Int.ofNat 3), Sh.i IntKind.i64 (Int.ofNat 0)]]), Eqn.nat 4 4, Eqn.fun_ (nthL [[Sh.i IntKind.i64 (Int.ofNat 1), Sh.i IntKind.i64 (Int.ofNat 1), Sh.i IntKind.i64 (Int.ofNat 0), Sh.i IntKind.i64 (Int.ofNat 0), Sh.i IntKind.i64 (Int.ofNat 0), Sh.i IntKind.i64 (Int.ofNat 0), Sh.i IntKind.i64 (Int.ofNat 0), Sh.i IntKind.i64 (Int.ofNat 0)], [Sh.i IntKind.i64 (Int.ofNat 1), Sh.i IntKind.i64 (Int.ofNat 2), Sh.i IntKind.i64 (Int.ofNat 1), Sh.i IntKind.i64 (Int.ofNat 0), Sh.i IntKind.i64 (Int.ofNat 0), Sh.i IntKind.i64 (Int.ofNat 0), Sh.i IntKind.i64 (Int.ofNat 0), Sh.i IntKind.i64 (Int.ofNat 0)], [Sh.i IntKind.i64 (Int.ofNat 2), Sh.i IntKind.i64 (Int.ofNat 1), Sh.i IntKind.i64 (Int.ofNat 0), Sh.i IntKind.i64 (Int.ofNat 0), Sh.i IntKind.i64 (Int.ofNat 2), Sh.i IntKind.i64 (Int.ofNat 0), Sh.i IntKind.i64 (Int.ofNat 0), Sh.i IntKind.i64 (Int.ofNat 0)], [Sh.i IntKind.i64 (Int.ofNat 3), Sh.i IntKind.i64 (Int.ofNat 1), Sh.i IntKind.i64 (Int.ofNat 0), Sh.i IntKind.i64 (Int.ofNat 0), Sh.i IntKind.i64 (Int.ofNat 0), Sh.i IntKind.i64 (Int.ofNat 0), Sh.i IntKind.i64 (Int.ofNat 0), Sh.i IntKind.i64 (Int.ofNat 1)]]) (nthL [[Sh.i IntKind.i64 (Int.ofNat 1), Sh.i IntKind.i64 (Int.ofNat 1), Sh.i IntKind.i64 (Int.ofNat 0), Sh.i IntKind.i64 (Int.ofNat 0), Sh.i IntKind.i64 (Int.ofNat 0), Sh.i IntKind.i64 (Int.ofNat 0), Sh.i IntKind.i64 (Int.ofNat 0), Sh.i IntKind.i64 (Int.ofNat 0)], [Sh.i IntKind.i64 (Int.ofNat 1), Sh.i IntKind.i64 (Int.ofNat 2), Sh.i IntKind.i64 (Int.ofNat 1), Sh.i IntKind.i64 (Int.ofNat 0), Sh.i IntKind.i64 (Int.ofNat 0), Sh.i IntKind.i64 (Int.ofNat 0), Sh.i IntKind.i64 (Int.ofNat 0), Sh.i IntKind.i64 (Int.ofNat 0)], [Sh.i IntKind.i64 (Int.ofNat 2), Sh.i IntKind.i64 (Int.ofNat 1), Sh.i IntKind.i64 (Int.ofNat 0), Sh.i IntKind.i64 (Int.ofNat 0), Sh.i IntKind.i64 (Int.ofNat 2), Sh.i IntKind.i64 (Int.ofNat 0), Sh.i IntKind.i64 (Int.ofNat 0), Sh.i IntKind.i64 (Int.ofNat 0)], [Sh.i IntKind.i64 (Int.ofNat 3), Sh.i IntKind.i64 (Int.ofNat 1), Sh.i IntKind.i64 (Int.ofNat 0), Sh.i IntKind.i64 (Int.ofNat 0), Sh.i IntKind.i64 (Int.ofNat 0), Sh.i IntKind.i64 (Int.ofNat 0), Sh.i IntKind.i64 (Int.ofNat 0), Sh.i IntKind.i64 (Int.ofNat 1)]]), Eqn.sh (Sh.sl 8 2 (nthL [[Sh.i IntKind.i64 (Int.ofNat 1), Sh.i IntKind.i64 (Int.ofNat 1), Sh.i IntKind.i64 (Int.ofNat 0), Sh.i IntKind.i64 (Int.ofNat 0), Sh.i IntKind.i64 (Int.ofNat 0), Sh.i IntKind.i64 (Int.ofNat 0), Sh.i IntKind.i64 (Int.ofNat 0), Sh.i IntKind.i64 (Int.ofNat 0)], [Sh.i IntKind.i64 (Int.ofNat 1), Sh.i IntKind.i64 (Int.ofNat 2), Sh.i IntKind.i64 (Int.ofNat 1), Sh.i IntKind.i64 (Int.ofNat 0), Sh.i IntKind.i64 (Int.ofNat 0), Sh.i IntKind.i64 (Int.ofNat 0), Sh.i IntKind.i64 (Int.ofNat 0), Sh.i IntKind.i64 (Int.ofNat 0)], [Sh.i IntKind.i64 (Int.ofNat 2), Sh.i IntKind.i64 (Int.ofNat 1), Sh.i IntKind.i64 (Int.ofNat 0), Sh.i IntKind.i64 (Int.ofNat 0), Sh.i IntKind.i64 (Int.ofNat 2), Sh.i IntKind.i64 (Int.ofNat 0), Sh.i IntKind.i64 (Int.ofNat 0), Sh.i IntKind.i64 (Int.ofNat 0)], [Sh.i IntKind.i64 (Int.ofNat 3), Sh.i IntKind.i64 (Int.ofNat 1), Sh.i IntKind.i64 (Int.ofNat 0), Sh.i IntKind.i64 (Int.ofNat 0), Sh.i IntKind.i64 (Int.ofNat 0), Sh.i IntKind.i64 (Int.ofNat 0), Sh.i IntKind.i64 (Int.ofNat 0), Sh.i IntKind.i64 (Int.ofNat 1)]])) (Sh.sl 8 2 (nthL [[Sh.i IntKind.i64 (Int.ofNat 1), Sh.i IntKind.i64 (Int.ofNat 1), Sh.i IntKind.i64 (Int.ofNat 0), Sh.i IntKind.i64 (Int.ofNat 0), Sh.i IntKind.i64 (Int.ofNat 0), Sh.i IntKind.i64 (Int.ofNat 0), Sh.i IntKind.i64 (Int.ofNat 0), Sh.i IntKind.i64 (Int.ofNat 0)], [Sh.i IntKind.i64 (Int.ofNat 1), Sh.i IntKind.i64 (Int.ofNat 2), Sh.i IntKind.i64 (Int.ofNat 1), Sh.i IntKind.i64 (Int.ofNat 0), Sh.i IntKind.i64 (Int.ofNat 0), Sh.i IntKind.i64 (Int.ofNat 0), Sh.i IntKind.i64 (Int.ofNat 0), Sh.i IntKind.i64 (Int.ofNat 0)], [Sh.i IntKind.i64 (Int.ofNat 2), Sh.i IntKind.i64 (Int.ofNat 1), Sh.i IntKind.i64 (Int.ofNat 0), Sh.i IntKind.i64 (Int.ofNat 0), Sh.i IntKind.i64 (Int.ofNat 2), Sh.i IntKind.i64 (Int.ofNat 0), Sh.i IntKind.i64 (Int.ofNat 0), Sh.i IntKind.i64 (Int.ofNat 0)], [Sh.i IntKind.i64 (Int.ofNat 3), Sh.i IntKind.i64 (Int.ofNat 1), Sh.i IntKind.i64 (Int.ofNat 0), Sh.i IntKind.i64 (Int.ofNat 0), Sh.i IntKind.i64 (Int.ofNat 0), Sh.i IntKind.i64 (Int.ofNat 0), Sh.i IntKind.i64 (Int.ofNat 0), Sh.i IntKind.i64 (Int.ofNat 1)]])), Eqn.sh (Sh.sl 8 2 (nthL [[Sh.i IntKind.i64 (Int.ofNat 1), Sh.i IntKind.i64 (Int.ofNat 1), Sh.i IntKind.i64 (Int.ofNat 0), Sh.i IntKind.i64 (Int.ofNat 0), Sh.i IntKind.i64 (Int.ofNat 0), Sh.i IntKind.i64 (Int.ofNat 0), Sh.i IntKind.i64 (Int.ofNat 0), Sh.i IntKind.i64 (Int.ofNat 0)], [Sh.i IntKind.i64 (Int.ofNat 1), Sh.i IntKind.i64 (Int.ofNat 2), Sh.i IntKind.i64 (Int.ofNat 1), Sh.i IntKind.i64 (Int.ofNat 0), Sh.i IntKind.i64 (Int.ofNat 0), Sh.i IntKind.i64 (Int.ofNat 0), Sh.i IntKind.i64 (Int.ofNat 0), Sh.i IntKind.i64 (Int.ofNat 0)], [Sh.i IntKind.i64 (Int.ofNat 2), Sh.i IntKind.i64 (Int.ofNat 1), Sh.i IntKind.i64 (Int.ofNat 0), Sh.i IntKind.i64 (Int.ofNat 0), Sh.i IntKind.i64 (Int.ofNat 2), Sh.i IntKind.i64 (Int.ofNat 0), Sh.i IntKind.i64 (Int.ofNat 0), Sh.i IntKind.i64 (Int.ofNat 0)], [Sh.i IntKind.i64 (Int.ofNat 3), Sh.i IntKind.i64 (Int.ofNat 1), Sh.i IntKind.i64 (Int.ofNat 0), Sh.i IntKind.i64 (Int.ofNat 0), Sh.i IntKind.i64 (Int.ofNat 0), Sh.i IntKind.i64 (Int.ofNat 0), Sh.i IntKind.i64 (Int.ofNat 0), Sh.i IntKind.i64 (Int.ofNat 1)]])) (Sh.sl 8 2 (nthL [[Sh.i IntKind.i64 (Int.ofNat 1), Sh.i IntKind.i64 (Int.ofNat 1), Sh.i IntKind.i64 (Int.ofNat 0), Sh.i IntKind.i64 (Int.ofNat 0), Sh.i IntKind.i64 (Int.ofNat 0), Sh.i IntKind.i64 (Int.ofNat 0), Sh.i IntKind.i64 (Int.ofNat 0), Sh.i IntKind.i64 (Int.ofNat 0)], [Sh.i IntKind.i64 (Int.ofNat 1), Sh.i IntKind.i64 (Int.ofNat 2), Sh.i IntKind.i64 (Int.ofNat 1), Sh.i IntKind.i64 (Int.ofNat 0), Sh.i IntKind.i64 (Int.ofNat 0), Sh.i IntKind.i64 (Int.ofNat 0), Sh.i IntKind.i64 (Int.ofNat 0), Sh.i IntKind.i64 (Int.ofNat 0)], [Sh.i IntKind.i64 (Int.ofNat 2), Sh.i IntKind.i64 (Int.ofNat 1), Sh.i IntKind.i64 (Int.ofNat 0), Sh.i IntKind.i64 (Int.ofNat 0), Sh.i IntKind.i64 (Int.ofNat 2), Sh.i IntKind.i64 (Int.ofNat 0), Sh.i IntKind.i64 (Int.ofNat 0), Sh.i IntKind.i64 (Int.ofNat 0)], [Sh.i IntKind.i64 (Int.ofNat 3), Sh.i IntKind.i64 (Int.ofNat 1), Sh.i IntKind.i64 (Int.ofNat 0), Sh.i IntKind.i64 (Int.ofNat 0), Sh.i IntKind.i64 (Int.ofNat 0), Sh.i IntKind.i64 (Int.ofNat 0), Sh.i IntKind.i64 (Int.ofNat 0), Sh.i IntKind.i64 (Int.ofNat 1)]])), Eqn.nat 2 2, Eqn.fun_ (prim.snoc (nthL []) 0 (nthL [[Sh.i IntKind.i64 (Int.ofNat 1), Sh.i IntKind.i64 (Int.ofNat 1), Sh.i IntKind.i64 (Int.ofNat 0), Sh.i IntKind.i64 (Int.ofNat 0), Sh.i IntKind.i64 (Int.ofNat 0), Sh.i IntKind.i64 (Int.ofNat 0), Sh.i IntKind.i64 (Int.ofNat 0), Sh.i IntKind.i64 (Int.ofNat 0)], [Sh.i IntKind.i64 (Int.ofNat 1), Sh.i IntKind.i64 (Int.ofNat 2), Sh.i IntKind.i64 (Int.ofNat 1), Sh.i IntKind.i64 (Int.ofNat 0), Sh.i IntKind.i64 (Int.ofNat 0), Sh.i IntKind.i64 (Int.ofNat 0), Sh.i IntKind.i64 (Int.ofNat 0), Sh.i IntKind.i64 (Int.ofNat 0)], [Sh.i IntKind.i64 (Int.ofNat 2), Sh.i IntKind.i64 (Int.ofNat 1), Sh.i IntKind.i64 (Int.ofNat 0), Sh.i IntKind.i64 (Int.ofNat 0), Sh.i IntKind.i64 (Int.ofNat 2), Sh.i IntKind.i64 (Int.ofNat 0), Sh.i IntKind.i64 (Int.ofNat 0), Sh.i IntKind.i64 (Int.ofNat 0)], [Sh.i IntKind.i64 (Int.ofNat 3), Sh.i IntKind.i64 (Int.ofNat 1), Sh.i IntKind.i64 (Int.ofNat 0), Sh.i IntKind.i64 (Int.ofNat 0), Sh.i IntKind.i64 (Int.ofNat 0), Sh.i IntKind.i64 (Int.ofNat 0), Sh.i IntKind.i64 (Int.ofNat 0), Sh.i IntKind.i64 (Int.ofNat 1)]])) (prim.snoc (nthL []) 0 (nthL [[Sh.i IntKind.i64 (Int.ofNat 1), Sh.i IntKind.i64 (Int.ofNat 1), Sh.i IntKind.i64 (Int.ofNat 0), Sh.i IntKind.i64 (Int.ofNat 0), Sh.i IntKind.i64 (Int.ofNat 0), Sh.i IntKind.i64 (Int.ofNat 0), Sh.i IntKind.i64 (Int.ofNat 0), Sh.i IntKind.i64 (Int.ofNat 0)], [Sh.i IntKind.i64 (Int.ofNat 1), Sh.i IntKind.i64 (Int.ofNat 2), Sh.i IntKind.i64 (Int.ofNat 1), Sh.i IntKind.i64 (Int.ofNat 0), Sh.i IntKind.i64 (Int.ofNat 0), Sh.i IntKind.i64 (Int.ofNat 0), Sh.i IntKind.i64 (Int.ofNat 0), Sh.i IntKind.i64 (Int.ofNat 0)], [Sh.i IntKind.i64 (Int.ofNat 2), Sh.i IntKind.i64 (Int.ofNat 1), Sh.i IntKind.i64 (Int.ofNat 0), Sh.i IntKind.i64 (Int.ofNat 0), Sh.i IntKind.i64 (Int.ofNat 2), Sh.i IntKind.i64 (Int.ofNat 0), Sh.i IntKind.i64 (Int.ofNat 0), Sh.i IntKind.i64 (Int.ofNat 0)], [Sh.i IntKind.i64 (Int.ofNat 3), Sh.i IntKind.i64 (Int.ofNat 1), Sh.i IntKind.i64 (Int.ofNat 0), Sh.i IntKind.i64 (Int.ofNat 0), Sh.i IntKind.i64 (Int.ofNat 0), Sh.i IntKind.i64 (Int.ofNat 0), Sh.i IntKind.i64 (Int.ofNat 0), Sh.i IntKind.i64 (Int.ofNat 1)]])), Eqn.nat 2 2, Eqn.fun_ (nthL txs0) (nthL txs0), Eqn.sh (Sh.sl 8 1 (nthL [[Sh.i IntKind.i64 (Int.ofNat 0), Sh.i IntKind.i64 (Int.ofNat 2), Sh.i IntKind.i64 (Int.ofNat 0), Sh.i IntKind.i64 (Int.ofNat 0), Sh.i IntKind.i64 (Int.ofNat 1), Sh.i IntKind.i64 (Int.ofNat 0), Sh.i IntKind.i64 (Int.ofNat 2), Sh.i IntKind.i64 (Int.ofNat 3)]])) (Sh.sl 8 1 (nthL [[Sh.i IntKind.i64 (Int.ofNat 0), Sh.i IntKind.i64 (Int.ofNat 2), Sh.i IntKind.i64 (Int.ofNat 0), Sh.i IntKind.i64 (Int.ofNat 0), Sh.i IntKind.i64 (Int.ofNat 1), Sh.i IntKind.i64 (Int.ofNat 0), Sh.i IntKind.i64 (Int.ofNat 2), Sh.i IntKind.i64 (Int.ofNat 3)]])), Eqn.nat 2 2, Eqn.fun_ (prim.snoc (nthL []) 0 (nthL [[Sh.i IntKind.i64 (Int.ofNat 1), Sh.i IntKind.i64 (Int.ofNat 0)], [Sh.i IntKind.i64 (Int.ofNat 3), Sh.i IntKind.i64 (Int.ofNat 0)]])) (prim.snoc (nthL []) 0 (nthL [[Sh.i IntKind.i64 (Int.ofNat 1), Sh.i IntKind.i64 (Int.ofNat 0)], [Sh.i IntKind.i64 (Int.ofNat 3), Sh.i IntKind.i64 (Int.ofNat 0)]])), Eqn.nat 2 2, Eqn.fun_ (nthL txs0) (nthL txs0), Eqn.sh (Sh.sl 8 1 (nthL [[Sh.i IntKind.i64 (Int.ofNat 0), Sh.i IntKind.i64 (Int.ofNat 2), Sh.i IntKind.i64 (Int.ofNat 0), Sh.i IntKind.i64 (Int.ofNat 0), Sh.i IntKind.i64 (Int.ofNat 1), Sh.i IntKind.i64 (Int.ofNat 0), Sh.i IntKind.i64 (Int.ofNat 2), Sh.i IntKind.i64 (Int.ofNat 3)]])) (Sh.sl 8 1 (nthL [[Sh.i IntKind.i64 (Int.ofNat 0), Sh.i IntKind.i64 (Int.ofNat 2), Sh.i IntKind.i64 (Int.ofNat 0), Sh.i IntKind.i64 (Int.ofNat 0), Sh.i IntKind.i64 (Int.ofNat 1), Sh.i IntKind.i64 (Int.ofNat 0), Sh.i IntKind.i64 (Int.ofNat 2), Sh.i IntKind.i64 (Int.ofNat 3)]])), Eqn.sh (Sh.sl 8 0 (nthL [])) (Sh.sl 8 0 (nthL [])), Eqn.sh (Sh.sl 2 1 (nthL [[Sh.i IntKind.i64 (Int.ofNat 1), Sh.i IntKind.i64 (Int.ofNat 0)], [Sh.i IntKind.i64 (Int.ofNat 3), Sh.i IntKind.i64 (Int.ofNat 0)]])) (Sh.sl 2 1 (nthL [[Sh.i IntKind.i64 (Int.ofNat 1), Sh.i IntKind.i64 (Int.ofNat 0)], [Sh.i IntKind.i64 (Int.ofNat 3), Sh.i IntKind.i64 (Int.ofNat 0)]])), Eqn.sh (Sh.sl 2 1 (nthL [[Sh.i IntKind.i64 (Int.ofNat 1), Sh.i IntKind.i64 (Int.ofNat 0)], [Sh.i IntKind.i64 (Int.ofNat 3), Sh.i IntKind.i64 (Int.ofNat 0)]])) (Sh.sl 2 1 (nthL [[Sh.i IntKind.i64 (Int.ofNat 1), Sh.i IntKind.i64 (Int.ofNat 0)], [Sh.i IntKind.i64 (Int.ofNat 3), Sh.i IntKind.i64 (Int.ofNat 0)]])), Eqn.nat 1 1, Eqn.fun_ (prim.snoc (nthL []) 0 (nthL [[Sh.i IntKind.i64 (Int.ofNat 1), Sh.i IntKind.i64 (Int.ofNat 0)], [Sh.i IntKind.i64 (Int.ofNat 3), Sh.i IntKind.i64 (Int.ofNat 0)]])) (prim.snoc (nthL []) 0 (nthL [[Sh.i IntKind.i64 (Int.ofNat 1), Sh.i IntKind.i64 (Int.ofNat 0)], [Sh.i IntKind.i64 (Int.ofNat 3), Sh.i IntKind.i64 (Int.ofNat 0)]])), Eqn.nat 4 4, Eqn.fun_ (prim.snoc (nthL []) 0 (nthL [[Sh.i IntKind.i64 (Int.ofNat 1), Sh.i IntKind.i64 (Int.ofNat 1), Sh.i IntKind.i64 (Int.ofNat 0), Sh.i IntKind.i64 (Int.ofNat 0), Sh.i IntKind.i64 (Int.ofNat 0), Sh.i IntKind.i64 (Int.ofNat 0), Sh.i IntKind.i64 (Int.ofNat 0), Sh.i IntKind.i64 (Int.ofNat 0)], [Sh.i IntKind.i64 (Int.ofNat 1), Sh.i IntKind.i64 (Int.ofNat 2), Sh.i IntKind.i64 (Int.ofNat 1), Sh.i IntKind.i64 (Int.ofNat 0), Sh.i IntKind.i64 (Int.ofNat 0), Sh.i IntKind.i64 (Int.ofNat 0), Sh.i IntKind.i64 (Int.ofNat 0), Sh.i IntKind.i64 (Int.ofNat 0)], [Sh.i IntKind.i64 (Int.ofNat 2), Sh.i IntKind.i64 (Int.ofNat 1), Sh.i IntKind.i64 (Int.ofNat 0), Sh.i IntKind.i64 (Int.ofNat 0), Sh.i IntKind.i64 (Int.ofNat 2), Sh.i IntKind.i64 (Int.ofNat 0), Sh.i IntKind.i64 (Int.ofNat 0), Sh.i IntKind.i64 (Int.ofNat 0)], [Sh.i IntKind.i64 (Int.ofNat 3), Sh.i IntKind.i64 (Int.ofNat 1), Sh.i IntKind.i64 (Int.ofNat 0), Sh.i IntKind.i64 (Int.ofNat 0), Sh.i IntKind.i64 (Int.ofNat 0), Sh.i IntKind.i64 (Int.ofNat 0), Sh.i IntKind.i64 (Int.ofNat 0), Sh.i IntKind.i64 (Int.ofNat 1)]])) (prim.snoc (nthL []) 0 (nthL [[Sh.i IntKind.i64 (Int.ofNat 1), Sh.i IntKind.i64 (Int.ofNat 1), Sh.i IntKind.i64 (Int.ofNat 0), Sh.i IntKind.i64 (Int.ofNat 0), Sh.i IntKind.i64 (Int.ofNat 0), Sh.i IntKind.i64 (Int.ofNat 0), Sh.i IntKind.i64 (Int.ofNat 0), Sh.i IntKind.i64 (Int.ofNat 0)], [Sh.i IntKind.i64 (Int.ofNat 1), Sh.i IntKind.i64 (Int.ofNat 2), Sh.i IntKind.i64 (Int.ofNat 1), Sh.i IntKind.i64 (Int.ofNat 0), Sh.i IntKind.i64 (Int.ofNat 0), Sh.i IntKind.i64 (Int.ofNat 0), Sh.i IntKind.i64 (Int.ofNat 0), Sh.i IntKind.i64 (Int.ofNat 0)], [Sh.i IntKind.i64 (Int.ofNat 2), Sh.i IntKind.i64 (Int.ofNat 1), Sh.i IntKind.i64 (Int.ofNat 0), Sh.i IntKind.i64 (Int.ofNat 0), Sh.i IntKind.i64 (Int.ofNat 2), Sh.i IntKind.i64 (Int.ofNat 0), Sh.i IntKind.i64 (Int.ofNat 0), Sh.i IntKind.i64 (Int.ofNat 0)], [Sh.i IntKind.i64 (Int.ofNat 3), Sh.i IntKind.i64 (Int.ofNat 1), Sh.i IntKind.i64 (Int.ofNat 0), Sh.i IntKind.i64 (Int.ofNat 0), Sh.i IntKind.i64 (Int.ofNat 0), Sh.i IntKind.i64 (Int.ofNat 0), Sh.i IntKind.i64 (Int.ofNat 0), Sh.i IntKind.i64 (Int.ofNat 1)]])), Eqn.sh (Sh.sl 2 1 (nthL [[Sh.i IntKind.i64 (Int.ofNat 1), Sh.i IntKind.i64 (Int.ofNat 0)], [Sh.i IntKind.i64 (Int.ofNat 3), Sh.i IntKind.i64 (Int.ofNat 0)]])) (Sh.sl 2 1 (nthL [[Sh.i IntKind.i64 (Int.ofNat 1), Sh.i IntKind.i64 (Int.ofNat 0)], [Sh.i IntKind.i64 (Int.ofNat 3), Sh.i IntKind.i64 (Int.ofNat 0)]])), Eqn.nat 2 2, Eqn.fun_ (nthL [[Sh.i IntKind.i64 (Int.ofNat 1), Sh.i IntKind.i64 (Int.ofNat 0)], [Sh.i IntKind.i64 (Int.ofNat 3), Sh.i IntKind.i64 (Int.ofNat 0)]]) (nthL [[Sh.i IntKind.i64 (Int.ofNat 1), Sh.i IntKind.i64 (Int.ofNat 0)], [Sh.i IntKind.i64 (Int.ofNat 3), Sh.i IntKind.i64 (Int.ofNat 0)]]), Eqn.nat 4 4, Eqn.fun_ (nthL [[Sh.i IntKind.i64 (Int.ofNat 1), Sh.i IntKind.i64 (Int.ofNat 1), Sh.i IntKind.i64 (Int.ofNat 0), Sh.i IntKind.i64 (Int.ofNat 0), Sh.i IntKind.i64 (Int.ofNat 0), Sh.i IntKind.i64 (Int.ofNat 0), Sh.i IntKind.i64 (Int.ofNat 0), Sh.i IntKind.i64 (Int.ofNat 0)], [Sh.i IntKind.i64 (Int.ofNat 1), Sh.i IntKind.i64 (Int.ofNat 2), Sh.i IntKind.i64 (Int.ofNat 1), Sh.i IntKind.i64 (Int.ofNat 0), Sh.i IntKind.i64 (Int.ofNat 0), Sh.i IntKind.i64 (Int.ofNat 0), Sh.i IntKind.i64 (Int.ofNat 0), Sh.i IntKind.i64 (Int.ofNat 0)], [Sh.i IntKind.i64 (Int.ofNat 2), Sh.i IntKind.i64 (Int.ofNat 1), Sh.i IntKind.i64 (Int.ofNat 0), Sh.i IntKind.i64 (Int.ofNat 0), Sh.i IntKind.i64 (Int.ofNat 2), Sh.i IntKind.i64 (Int.ofNat 0), Sh.i IntKind.i64 (Int.ofNat 0), Sh.i IntKind.i64 (Int.ofNat 0)], [Sh.i IntKind.i64 (Int.ofNat 3), Sh.i IntKind.i64 (Int.ofNat 1), Sh.i IntKind.i64 (Int.ofNat 0), Sh.i IntKind.i64 (Int.ofNat 0), Sh.i IntKind.i64 (Int.ofNat 0), Sh.i IntKind.i64 (Int.ofNat 0), Sh.i IntKind.i64 (Int.ofNat 0), Sh.i IntKind.i64 (Int.ofNat 1)]]) (nthL [[Sh.i IntKind.i64 (Int.ofNat 1), Sh.i IntKind.i64 (Int.ofNat 1), Sh.i IntKind.i64 (Int.ofNat 0), Sh.i IntKind.i64 (Int.ofNat 0), Sh.i IntKind.i64 (Int.ofNat 0), Sh.i IntKind.i64 (Int.ofNat 0), Sh.i IntKind.i64 (Int.ofNat 0), Sh.i IntKind.i64 (Int.ofNat 0)], [Sh.i IntKind.i64 (Int.ofNat 1), Sh.i IntKind.i64 (Int.ofNat 2), Sh.i IntKind.i64 (Int.ofNat 1), Sh.i IntKind.i64 (Int.ofNat 0), Sh.i IntKind.i64 (Int.ofNat 0), Sh.i IntKind.i64 (Int.ofNat 0), Sh.i IntKind.i64 (Int.ofNat 0), Sh.i IntKind.i64 (Int.ofNat 0)], [Sh.i IntKind.i64 (Int.ofNat 2), Sh.i IntKind.i64 (Int.ofNat 1), Sh.i IntKind.i64 (Int.ofNat 0), Sh.i IntKind.i64 (Int.ofNat 0), Sh.i IntKind.i64 (Int.ofNat 2), Sh.i IntKind.i64 (Int.ofNat 0), Sh.i IntKind.i64 (Int.ofNat 0), Sh.i IntKind.i64 (Int.ofNat 0)], [Sh.i IntKind.i64 (Int.ofNat 3), Sh.i IntKind.i64 (Int.ofNat 1), Sh.i IntKind.i64 (Int.ofNat 0), Sh.i IntKind.i64 (Int.ofNat 0), Sh.i IntKind.i64 (Int.ofNat 0), Sh.i IntKind.i64 (Int.ofNat 0), Sh.i IntKind.i64 (Int.ofNat 0), Sh.i IntKind.i64 (Int.ofNat 1)]]), Eqn.sh (Sh.sl 8 2 (nthL [[Sh.i IntKind.i64 (Int.ofNat 1), Sh.i IntKind.i64 (Int.ofNat 1), Sh.i IntKind.i64 (Int.ofNat 0), Sh.i IntKind.i64 (Int.ofNat 0), Sh.i IntKind.i64 (Int.ofNat 0), Sh.i IntKind.i64 (Int.ofNat 0), Sh.i IntKind.i64 (Int.ofNat 0), Sh.i IntKind.i64 (Int.ofNat 0)], [Sh.i IntKind.i64 (Int.ofNat 1), Sh.i IntKind.i64 (Int.ofNat 2), Sh.i IntKind.i64 (Int.ofNat 1), Sh.i IntKind.i64 (Int.ofNat 0), Sh.i IntKind.i64 (Int.ofNat 0), Sh.i IntKind.i64 (Int.ofNat 0), Sh.i IntKind.i64 (Int.ofNat 0), Sh.i IntKind.i64 (Int.ofNat 0)], [Sh.i IntKind.i64 (Int.ofNat 2), Sh.i IntKind.i64 (Int.ofNat 1), Sh.i IntKind.i64 (Int.ofNat 0), Sh.i IntKind.i64 (Int.ofNat 0), Sh.i IntKind.i64 (Int.ofNat 2), Sh.i IntKind.i64 (Int.ofNat 0), Sh.i IntKind.i64 (Int.ofNat 0), Sh.i IntKind.i64 (Int.ofNat 0)], [Sh.i IntKind.i64 (Int.ofNat 3), Sh.i IntKind.i64 (Int.ofNat 1), Sh.i IntKind.i64 (Int.ofNat 0), Sh.i IntKind.i64 (Int.ofNat 0), Sh.i IntKind.i64 (Int.ofNat 0), Sh.i IntKind.i64 (Int.ofNat 0), Sh.i IntKind.i64 (Int.ofNat 0), Sh.i IntKind.i64 (Int.ofNat 1)]])) (Sh.sl 8 2 (nthL [[Sh.i IntKind.i64 (Int.ofNat 1), Sh.i IntKind.i64 (Int.ofNat 1), Sh.i IntKind.i64 (Int.ofNat 0), Sh.i IntKind.i64 (Int.ofNat 0), Sh.i IntKind.i64 (Int.ofNat 0), Sh.i IntKind.i64 (Int.ofNat 0), Sh.i IntKind.i64 (Int.ofNat 0), Sh.i IntKind.i64 (Int.ofNat 0)], [Sh.i IntKind.i64 (Int.ofNat 1), Sh.i IntKind.i64 (Int.ofNat 2), Sh.i IntKind.i64 (Int.ofNat 1), Sh.i IntKind.i64 (Int.ofNat 0), Sh.i IntKind.i64 (Int.ofNat 0), Sh.i IntKind.i64 (Int.ofNat 0), Sh.i IntKind.i64 (Int.ofNat 0), Sh.i IntKind.i64 (Int.ofNat 0)], [Sh.i IntKind.i64 (Int.ofNat 2), Sh.i IntKind.i64 (Int.ofNat 1), Sh.i IntKind.i64 (Int.ofNat 0), Sh.i IntKind.i64 (Int.ofNat 0), Sh.i IntKind.i64 (Int.ofNat 2), Sh.i IntKind.i64 (Int.ofNat 0), Sh.i IntKind.i64 (Int.ofNat 0), Sh.i IntKind.i64 (Int.ofNat 0)], [Sh.i IntKind.i64 (Int.ofNat 3), Sh.i IntKind.i64 (Int.ofNat 1), Sh.i IntKind.i64 (Int.ofNat 0), Sh.i IntKind.i64 (Int.ofNat 0), Sh.i IntKind.i64 (Int.ofNat 0), Sh.i IntKind.i64 (Int.ofNat 0), Sh.i IntKind.i64 (Int.ofNat 0), Sh.i IntKind.i64 (Int.ofNat 1)]])), Eqn.sh (Sh.sl 8 2 (nthL [[Sh.i IntKind.i64 (Int.ofNat 1), Sh.i IntKind.i64 (Int.ofNat 1), Sh.i IntKind.i64 (Int.ofNat 0), Sh.i IntKind.i64 (Int.ofNat 0), Sh.i IntKind.i64 (Int.ofNat 0), Sh.i IntKind.i64 (Int.ofNat 0), Sh.i IntKind.i64 (Int.ofNat 0), Sh.i IntKind.i64 (Int.ofNat 0)], [Sh.i IntKind.i64 (Int.ofNat 1), Sh.i IntKind.i64 (Int.ofNat 2), Sh.i IntKind.i64 (Int.ofNat 1), Sh.i IntKind.i64 (Int.ofNat 0), Sh.i IntKind.i64 (Int.ofNat 0), Sh.i IntKind.i64 (Int.ofNat 0), Sh.i IntKind.i64 (Int.ofNat 0), Sh.i IntKind.i64 (Int.ofNat 0)], [Sh.i IntKind.i64 (Int.ofNat 2), Sh.i IntKind.i64 (Int.ofNat 1), Sh.i IntKind.i64 (Int.ofNat 0), Sh.i IntKind.i64 (Int.ofNat 0), Sh.i IntKind.i64 (Int.ofNat 2), Sh.i IntKind.i64 (Int.ofNat 0), Sh.i IntKind.i64 (Int.ofNat 0), Sh.i IntKind.i64 (Int.ofNat 0)], [Sh.i IntKind.i64 (Int.ofNat 3), Sh.i IntKind.i64 (Int.ofNat 1), Sh.i IntKind.i64 (Int.ofNat 0), Sh.i IntKind.i64 (Int.ofNat 0), Sh.i IntKind.i64 (Int.ofNat 0), Sh.i IntKind.i64 (Int.ofNat 0), Sh.i IntKind.i64 (Int.ofNat 0), Sh.i IntKind.i64 (Int.ofNat 1)]])) (Sh.sl 8 2 (nthL [[Sh.i IntKind.i64 (Int.ofNat 1), Sh.i IntKind.i64 (Int.ofNat 1), Sh.i IntKind.i64 (Int.ofNat 0), Sh.i IntKind.i64 (Int.ofNat 0), Sh.i IntKind.i64 (Int.ofNat 0), Sh.i IntKind.i64 (Int.ofNat 0), Sh.i IntKind.i64 (Int.ofNat 0), Sh.i IntKind.i64 (Int.ofNat 0)], [Sh.i IntKind.i64 (Int.ofNat 1), Sh.i IntKind.i64 (Int.ofNat 2), Sh.i IntKind.i64 (Int.ofNat 1), Sh.i IntKind.i64 (Int.ofNat 0), Sh.i IntKind.i64 (Int.ofNat 0), Sh.i IntKind.i64 (Int.ofNat 0), Sh.i IntKind.i64 (Int.ofNat 0), Sh.i IntKind.i64 (Int.ofNat 0)], [Sh.i IntKind.i64 (Int.ofNat 2), Sh.i IntKind.i64 (Int.ofNat 1), Sh.i IntKind.i64 (Int.ofNat 0), Sh.i IntKind.i64 (Int.ofNat 0), Sh.i IntKind.i64 (Int.ofNat 2), Sh.i IntKind.i64 (Int.ofNat 0), Sh.i IntKind.i64 (Int.ofNat 0), Sh.i IntKind.i64 (Int.ofNat 0)], [Sh.i IntKind.i64 (Int.ofNat 3), Sh.i IntKind.i64 (Int.ofNat 1), Sh.i IntKind.i64 (Int.ofNat 0), Sh.i IntKind.i64 (Int.ofNat 0), Sh.i IntKind.i64 (Int.ofNat 0), Sh.i IntKind.i64 (Int.ofNat 0), Sh.i IntKind.i64 (Int.ofNat 0), Sh.i IntKind.i64 (Int.ofNat 1)]])), Eqn.nat 2 2, Eqn.fun_ (prim.snoc (nthL []) 0 (nthL [[Sh.i IntKind.i64 (Int.ofNat 1), Sh.i IntKind.i64 (Int.ofNat 1), Sh.i IntKind.i64 (Int.ofNat 0), Sh.i IntKind.i64 (Int.ofNat 0), Sh.i IntKind.i64 (Int.ofNat 0), Sh.i IntKind.i64 (Int.ofNat 0), Sh.i IntKind.i64 (Int.ofNat 0), Sh.i IntKind.i64 (Int.ofNat 0)], [Sh.i IntKind.i64 (Int.ofNat 1), Sh.i IntKind.i64 (Int.ofNat 2), Sh.i IntKind.i64 (Int.ofNat 1), Sh.i IntKind.i64 (Int.ofNat 0), Sh.i IntKind.i64 (Int.ofNat 0), Sh.i IntKind.i64 (Int.ofNat 0), Sh.i IntKind.i64 (Int.ofNat 0), Sh.i IntKind.i64 (Int.ofNat 0)], [Sh.i IntKind.i64 (Int.ofNat 2), Sh.i IntKind.i64 (Int.ofNat 1), Sh.i IntKind.i64 (Int.ofNat 0), Sh.i IntKind.i64 (Int.ofNat 0), Sh.i IntKind.i64 (Int.ofNat 2), Sh.i IntKind.i64 (Int.ofNat 0), Sh.i IntKind.i64 (Int.ofNat 0), Sh.i IntKind.i64 (Int.ofNat 0)], [Sh.i IntKind.i64 (Int.ofNat 3), Sh.i IntKind.i64 (Int.ofNat 1), Sh.i IntKind.i64 (Int.ofNat 0), Sh.i IntKind.i64 (Int.ofNat 0), Sh.i IntKind.i64 (Int.ofNat 0), Sh.i IntKind.i64 (Int.ofNat 0), Sh.i IntKind.i64 (Int.ofNat 0), Sh.i IntKind.i64 (Int.ofNat 1)]])) (prim.snoc (nthL []) 0 (nthL [[Sh.i IntKind.i64 (Int.ofNat 1), Sh.i IntKind.i64 (Int.ofNat 1), Sh.i IntKind.i64 (Int.ofNat 0), Sh.i IntKind.i64 (Int.ofNat 0), Sh.i IntKind.i64 (Int.ofNat 0), Sh.i IntKind.i64 (Int.ofNat 0), Sh.i IntKind.i64 (Int.ofNat 0), Sh.i IntKind.i64 (Int.ofNat 0)], [Sh.i IntKind.i64 (Int.ofNat 1), Sh.i IntKind.i64 (Int.ofNat 2), Sh.i IntKind.i64 (Int.ofNat 1), Sh.i IntKind.i64 (Int.ofNat 0), Sh.i IntKind.i64 (Int.ofNat 0), Sh.i IntKind.i64 (Int.ofNat 0), Sh.i IntKind.i64 (Int.ofNat 0), Sh.i IntKind.i64 (Int.ofNat 0)], [Sh.i IntKind.i64 (Int.ofNat 2), Sh.i IntKind.i64 (Int.ofNat 1), Sh.i IntKind.i64 (Int.ofNat 0), Sh.i IntKind.i64 (Int.ofNat 0), Sh.i IntKind.i64 (Int.ofNat 2), Sh.i IntKind.i64 (Int.ofNat 0), Sh.i IntKind.i64 (Int.ofNat 0), Sh.i IntKind.i64 (Int.ofNat 0)], [Sh.i IntKind.i64 (Int.ofNat 3), Sh.i IntKind.i64 (Int.ofNat 1), Sh.i IntKind.i64 (Int.ofNat 0), Sh.i IntKind.i64 (Int.ofNat 0), Sh.i IntKind.i64 (Int.ofNat 0), Sh.i IntKind.i64 (Int.ofNat 0), Sh.i IntKind.i64 (Int.ofNat 0), Sh.i IntKind.i64 (Int.ofNat 1)]])), Eqn.nat 2 2, Eqn.fun_ (nthL txs0) (nthL txs0), Eqn.sh (Sh.sl 8 1 (nthL [[Sh.i IntKind.i64 (Int.ofNat 0), Sh.i IntKind.i64 (Int.ofNat 2), Sh.i IntKind.i64 (Int.ofNat 0), Sh.i IntKind.i64 (Int.ofNat 0), Sh.i IntKind.i64 (Int.ofNat 1), Sh.i IntKind.i64 (Int.ofNat 0), Sh.i IntKind.i64 (Int.ofNat 2), Sh.i IntKind.i64 (Int.ofNat 3)]])) (Sh.sl 8 1 (nthL [[Sh.i IntKind.i64 (Int.ofNat 0), Sh.i IntKind.i64 (Int.ofNat 2), Sh.i IntKind.i64 (Int.ofNat 0), Sh.i IntKind.i64 (Int.ofNat 0), Sh.i IntKind.i64 (Int.ofNat 1), Sh.i IntKind.i64 (Int.ofNat 0), Sh.i IntKind.i64 (Int.ofNat 2), Sh.i IntKind.i64 (Int.ofNat 3)]])), Eqn.nat 2 2, Eqn.fun_ (prim.snoc (nthL []) 0 (nthL [[Sh.i IntKind.i64 (Int.ofNat 1), Sh.i IntKind.i64 (Int.ofNat 0)], [Sh.i IntKind.i64 (Int.ofNat 3), Sh.i IntKind.i64 (Int.ofNat 0)]])) (prim.snoc (nthL []) 0 (nthL [[Sh.i IntKind.i64 (Int.ofNat 1), Sh.i IntKind.i64 (Int.ofNat 0)], [Sh.i IntKind.i64 (Int.ofNat 3), Sh.i IntKind.i64 (Int.ofNat 0)]])), Eqn.nat 2 2, Eqn.fun_ (nthL txs0) (nthL txs0), Eqn.sh (Sh.sl 8 1 (nthL [[Sh.i IntKind.i64 (Int.ofNat 0), Sh.i IntKind.i64 (Int.ofNat 2), Sh.i IntKind.i64 (Int.ofNat 0), Sh.i IntKind.i64 (Int.ofNat 0), Sh.i IntKind.i64 (Int.ofNat 1), Sh.i IntKind.i64 (Int.ofNat 0), Sh.i IntKind.i64 (Int.ofNat 2), Sh.i IntKind.i64 (Int.ofNat 3)]])) (Sh.sl 8 1 (nthL [[Sh.i IntKind.i64 (Int.ofNat 0), Sh.i IntKind.i64 (Int.ofNat 2), Sh.i IntKind.i64 (Int.ofNat 0), Sh.i IntKind.i64 (Int.ofNat 0), Sh.i IntKind.i64 (Int.ofNat 1), Sh.i IntKind.i64 (Int.ofNat 0), Sh.i IntKind.i64 (Int.ofNat 2), Sh.i IntKind.i64 (Int.ofNat 3)]])), Eqn.sh (Sh.sl 8 0 (nthL [])) (Sh.sl 8 0 (nthL [])), Eqn.sh (Sh.sl 2 1 (nthL [[Sh.i IntKind.i64 (Int.ofNat 1), Sh.i IntKind.i64 (Int.ofNat 0)], [Sh.i IntKind.i64 (Int.ofNat 3), Sh.i IntKind.i64 (Int.ofNat 0)]])) (Sh.sl 2 1 (nthL [[Sh.i IntKind.i64 (Int.ofNat 1), Sh.i IntKind.i64 (Int.ofNat 0)], [Sh.i IntKind.i64 (Int.ofNat 3), Sh.i IntKind.i64 (Int.ofNat 0)]])), Eqn.sh (Sh.sl 2 1 (nthL [[Sh.i IntKind.i64 (Int.ofNat 1), Sh.i IntKind.i64 (Int.ofNat 0)], [Sh.i IntKind.i64 (Int.ofNat 3), Sh.i IntKind.i64 (Int.ofNat 0)]])) (Sh.sl 2 1 (nthL [[Sh.i IntKind.i64 (Int.ofNat 1), Sh.i IntKind.i64 (Int.ofNat 0)], [Sh.i IntKind.i64 (Int.ofNat 3), Sh.i IntKind.i64 (Int.ofNat 0)]])), Eqn.nat 1 1, Eqn.fun_ (prim.snoc (nthL []) 0 (nthL [[Sh.i IntKind.i64 (Int.ofNat 1), Sh.i IntKind.i64 (Int.ofNat 0)], [Sh.i IntKind.i64 (Int.ofNat 3), Sh.i IntKind.i64 (Int.ofNat 0)]])) (prim.snoc (nthL []) 0 (nthL [[Sh.i IntKind.i64 (Int.ofNat 1), Sh.i IntKind.i64 (Int.ofNat 0)], [Sh.i IntKind.i64 (Int.ofNat 3), Sh.i IntKind.i64 (Int.ofNat 0)]])), Eqn.nat 4 4, Eqn.fun_ (prim.snoc (nthL []) 0 (nthL [[Sh.i IntKind.i64 (Int.ofNat 1), Sh.i IntKind.i64 (Int.ofNat 1), Sh.i IntKind.i64 (Int.ofNat 0), Sh.i IntKind.i64 (Int.ofNat 0), Sh.i IntKind.i64 (Int.ofNat 0), Sh.i IntKind.i64 (Int.ofNat 0), Sh.i IntKind.i64 (Int.ofNat 0), Sh.i IntKind.i64 (Int.ofNat 0)], [Sh.i IntKind.i64 (Int.ofNat 1), Sh.i IntKind.i64 (Int.ofNat 2), Sh.i IntKind.i64 (Int.ofNat 1), Sh.i IntKind.i64 (Int.ofNat 0), Sh.i IntKind.i64 (Int.ofNat 0), Sh.i IntKind.i64 (Int.ofNat 0), Sh.i IntKind.i64 (Int.ofNat 0), Sh.i IntKind.i64 (Int.ofNat 0)], [Sh.i IntKind.i64 (Int.ofNat 2), Sh.i IntKind.i64 (Int.ofNat 1), Sh.i IntKind.i64 (Int.ofNat 0), Sh.i IntKind.i64 (Int.ofNat 0), Sh.i IntKind.i64 (Int.ofNat 2), Sh.i IntKind.i64 (Int.ofNat 0), Sh.i IntKind.i64 (Int.ofNat 0), Sh.i IntKind.i64 (Int.ofNat 0)], [Sh.i IntKind.i64 (Int.ofNat 3), Sh.i IntKind.i64 (Int.ofNat 1), Sh.i IntKind.i64 (Int.ofNat 0), Sh.i IntKind.i64 (Int.ofNat 0), Sh.i IntKind.i64 (Int.ofNat 0), Sh.i IntKind.i64 (Int.ofNat 0), Sh.i IntKind.i64 (Int.ofNat 0), Sh.i IntKind.i64 (Int.ofNat 1)]])) (prim.snoc (nthL []) 0 (nthL [[Sh.i IntKind.i64 (Int.ofNat 1), Sh.i IntKind.i64 (Int.ofNat 1), Sh.i IntKind.i64 (Int.ofNat 0), Sh.i IntKind.i64 (Int.ofNat 0), Sh.i IntKind.i64 (Int.ofNat 0), Sh.i IntKind.i64 (Int.ofNat 0), Sh.i IntKind.i64 (Int.ofNat 0), Sh.i IntKind.i64 (Int.ofNat 0)], [Sh.i IntKind.i64 (Int.ofNat 1), Sh.i IntKind.i64 (Int.ofNat 2), Sh.i IntKind.i64 (Int.ofNat 1), Sh.i IntKind.i64 (Int.ofNat 0), Sh.i IntKind.i64 (Int.ofNat 0), Sh.i IntKind.i64 (Int.ofNat 0), Sh.i IntKind.i64 (Int.ofNat 0), Sh.i IntKind.i64 (Int.ofNat 0)], [Sh.i IntKind.i64 (Int.ofNat 2), Sh.i IntKind.i64 (Int.ofNat 1), Sh.i IntKind.i64 (Int.ofNat 0), Sh.i IntKind.i64 (Int.ofNat 0), Sh.i IntKind.i64 (Int.ofNat 2), Sh.i IntKind.i64 (Int.ofNat 0), Sh.i IntKind.i64 (Int.ofNat 0), Sh.i IntKind.i64 (Int.ofNat 0)], [Sh.i IntKind.i64 (Int.ofNat 3), Sh.i IntKind.i64 (Int.ofNat 1), Sh.i IntKind.i64 (Int.ofNat 0), Sh.i IntKind.i64 (Int.ofNat 0), Sh.i IntKind.i64 (Int.ofNat 0), Sh.i IntKind.i64 (Int.ofNat 0), Sh.i IntKind.i64 (Int.ofNat 0), Sh.i IntKind.i64 (Int.ofNat 1)]])), Eqn.nat 2 2, Eqn.fun_ (nthL [[Sh.i IntKind.i64 (Int.ofNat 1), Sh.i IntKind.i64 (Int.ofNat 0)], [Sh.i IntKind.i64 (Int.ofNat 3), Sh.i IntKind.i64 (Int.ofNat 0)]]) (nthL [[Sh.i IntKind.i64 (Int.ofNat 1), Sh.i IntKind.i64 (Int.ofNat 0)], [Sh.i IntKind.i64 (Int.ofNat 3), Sh.i IntKind.i64 (Int.ofNat 0)]]), Eqn.nat 4 4, Eqn.fun_ (nthL [[Sh.i IntKind.i64 (Int.ofNat 1), Sh.i IntKind.i64 (Int.ofNat 1), Sh.i IntKind.i64 (Int.ofNat 0), Sh.i IntKind.i64 (Int.ofNat 0), Sh.i IntKind.i64 (Int.ofNat 0), Sh.i IntKind.i64 (Int.ofNat 0), Sh.i IntKind.i64 (Int.ofNat 0), Sh.i IntKind.i64 (Int.ofNat 0)], [Sh.i IntKind.i64 (Int.ofNat 1), Sh.i IntKind.i64 (Int.ofNat 2), Sh.i IntKind.i64 (Int.ofNat 1), Sh.i IntKind.i64 (Int.ofNat 0), Sh.i IntKind.i64 (Int.ofNat 0), Sh.i IntKind.i64 (Int.ofNat 0), Sh.i IntKind.i64 (Int.ofNat 0), Sh.i IntKind.i64 (Int.ofNat 0)], [Sh.i IntKind.i64 (Int.ofNat 2), Sh.i IntKind.i64 (Int.ofNat 1), Sh.i IntKind.i64 (Int.ofNat 0), Sh.i IntKind.i64 (Int.ofNat 0), Sh.i IntKind.i64 (Int.ofNat 2), Sh.i IntKind.i64 (Int.ofNat 0), Sh.i IntKind.i64 (Int.ofNat 0), Sh.i IntKind.i64 (Int.ofNat 0)], [Sh.i IntKind.i64 (Int.ofNat 3), Sh.i IntKind.i64 (Int.ofNat 1), Sh.i IntKind.i64 (Int.ofNat 0), Sh.i IntKind.i64 (Int.ofNat 0), Sh.i IntKind.i64 (Int.ofNat 0), Sh.i IntKind.i64 (Int.ofNat 0), Sh.i IntKind.i64 (Int.ofNat 0), Sh.i IntKind.i64 (Int.ofNat 1)]]) (nthL [[Sh.i IntKind.i64 (Int.ofNat 1), Sh.i IntKind.i64 (Int.ofNat 1), Sh.i IntKind.i64 (Int.ofNat 0), Sh.i IntKind.i64 (Int.ofNat 0), Sh.i IntKind.i64 (Int.ofNat 0), Sh.i IntKind.i64 (Int.ofNat 0), Sh.i IntKind.i64 (Int.ofNat 0), Sh.i IntKind.i64 (Int.ofNat 0)], [Sh.i IntKind.i64 (Int.ofNat 1), Sh.i IntKind.i64 (Int.ofNat 2), Sh.i IntKind.i64 (Int.ofNat 1), Sh.i IntKind.i64 (Int.ofNat 0), Sh.i IntKind.i64 (Int.ofNat 0), Sh.i IntKind.i64 (Int.ofNat 0), Sh.i IntKind.i64 (Int.ofNat 0), Sh.i IntKind.i64 (Int.ofNat 0)], [Sh.i IntKind.i64 (Int.ofNat 2), Sh.i IntKind.i64 (Int.ofNat 1), Sh.i IntKind.i64 (Int.ofNat 0), Sh.i IntKind.i64 (Int.ofNat 0), Sh.i IntKind.i64 (Int.ofNat 2), Sh.i IntKind.i64 (Int.ofNat 0), Sh.i IntKind.i64 (Int.ofNat 0), Sh.i IntKind.i64 (Int.ofNat 0)], [Sh.i IntKind.i64 (Int.ofNat 3), Sh.i IntKind.i64 (Int.ofNat 1), Sh.i IntKind.i64 (Int.ofNat 0), Sh.i IntKind.i64 (Int.ofNat 0), Sh.i IntKind.i64 (Int.ofNat 0), Sh.i IntKind.i64 (Int.ofNat 0), Sh.i IntKind.i64 (Int.ofNat 0), Sh.i IntKind.i64 (Int.ofNat 1)]]), Eqn.sh (Sh.sl 8 2 (nthL [[Sh.i IntKind.i64 (Int.ofNat 1), Sh.i IntKind.i64 (Int.ofNat 1), Sh.i IntKind.i64 (Int.ofNat 0), Sh.i IntKind.i64 (Int.ofNat 0), Sh.i IntKind.i64 (Int.ofNat 0), Sh.i IntKind.i64 (Int.ofNat 0), Sh.i IntKind.i64 (Int.ofNat 0), Sh.i IntKind.i64 (Int.ofNat 0)], [Sh.i IntKind.i64 (Int.ofNat 1), Sh.i IntKind.i64 (Int.ofNat 2), Sh.i IntKind.i64 (Int.ofNat 1), Sh.i IntKind.i64 (Int.ofNat 0), Sh.i IntKind.i64 (Int.ofNat 0), Sh.i IntKind.i64 (Int.ofNat 0), Sh.i IntKind.i64 (Int.ofNat 0), Sh.i IntKind.i64 (Int.ofNat 0)], [Sh.i IntKind.i64 (Int.ofNat 2), Sh.i IntKind.i64 (Int.ofNat 1), Sh.i IntKind.i64 (Int.ofNat 0), Sh.i IntKind.i64 (Int.ofNat 0), Sh.i IntKind.i64 (Int.ofNat 2), Sh.i IntKind.i64 (Int.ofNat 0), Sh.i IntKind.i64 (Int.ofNat 0), Sh.i IntKind.i64 (Int.ofNat 0)], [Sh.i IntKind.i64 (Int.ofNat 3), Sh.i IntKind.i64 (Int.ofNat 1), Sh.i IntKind.i64 (Int.ofNat 0), Sh.i IntKind.i64 (Int.ofNat 0), Sh.i IntKind.i64 (Int.ofNat 0), Sh.i IntKind.i64 (Int.ofNat 0), Sh.i IntKind.i64 (Int.ofNat 0), Sh.i IntKind.i64 (Int.ofNat 1)]])) (Sh.sl 8 2 (nthL [[Sh.i IntKind.i64 (Int.ofNat 1), Sh.i IntKind.i64 (Int.ofNat 1), Sh.i IntKind.i64 (Int.ofNat 0), Sh.i IntKind.i64 (Int.ofNat 0), Sh.i IntKind.i64 (Int.ofNat 0), Sh.i IntKind.i64 (Int.ofNat 0), Sh.i IntKind.i64 (Int.ofNat 0), Sh.i IntKind.i64 (Int.ofNat 0)], [Sh.i IntKind.i64 (Int.ofNat 1), Sh.i IntKind.i64 (Int.ofNat 2), Sh.i IntKind.i64 (Int.ofNat 1), Sh.i IntKind.i64 (Int.ofNat 0), Sh.i IntKind.i64 (Int.ofNat 0), Sh.i IntKind.i64 (Int.ofNat 0), Sh.i IntKind.i64 (Int.ofNat 0), Sh.i IntKind.i64 (Int.ofNat 0)], [Sh.i IntKind.i64 (Int.ofNat 2), Sh.i IntKind.i64 (Int.ofNat 1), Sh.i IntKind.i64 (Int.ofNat 0), Sh.i IntKind.i64 (Int.ofNat 0), Sh.i IntKind.i64 (Int.ofNat 2), Sh.i IntKind.i64 (Int.ofNat 0), Sh.i IntKind.i64 (Int.ofNat 0), Sh.i IntKind.i64 (Int.ofNat 0)], [Sh.i IntKind.i64 (Int.ofNat 3), Sh.i IntKind.i64 (Int.ofNat 1), Sh.i IntKind.i64 (Int.ofNat 0), Sh.i IntKind.i64 (Int.ofNat 0), Sh.i IntKind.i64 (Int.ofNat 0), Sh.i IntKind.i64 (Int.ofNat 0), Sh.i IntKind.i64 (Int.ofNat 0), Sh.i IntKind.i64 (Int.ofNat 1)]])), Eqn.sh (Sh.sl 8 2 (nthL [[Sh.i IntKind.i64 (Int.ofNat 1), Sh.i IntKind.i64 (Int.ofNat 1), Sh.i IntKind.i64 (Int.ofNat 0), Sh.i IntKind.i64 (Int.ofNat 0), Sh.i IntKind.i64 (Int.ofNat 0), Sh.i IntKind.i64 (Int.ofNat 0), Sh.i IntKind.i64 (Int.ofNat 0), Sh.i IntKind.i64 (Int.ofNat 0)], [Sh.i IntKind.i64 (Int.ofNat 1), Sh.i IntKind.i64 (Int.ofNat 2), Sh.i IntKind.i64 (Int.ofNat 1), Sh.i IntKind.i64 (Int.ofNat 0), Sh.i IntKind.i64 (Int.ofNat 0), Sh.i IntKind.i64 (Int.ofNat 0), Sh.i IntKind.i64 (Int.ofNat 0), Sh.i IntKind.i64 (Int.ofNat 0)], [Sh.i IntKind.i64 (Int.ofNat 2), Sh.i IntKind.i64 (Int.ofNat 1), Sh.i IntKind.i64 (Int.ofNat 0), Sh.i IntKind.i64 (Int.ofNat 0), Sh.i IntKind.i64 (Int.ofNat 2), Sh.i IntKind.i64 (Int.ofNat 0), Sh.i IntKind.i64 (Int.ofNat 0), Sh.i IntKind.i64 (Int.ofNat 0)], [Sh.i IntKind.i64 (Int.ofNat 3), Sh.i IntKind.i64 (Int.ofNat 1), Sh.i IntKind.i64 (Int.ofNat 0), Sh.i IntKind.i64 (Int.ofNat 0), Sh.i IntKind.i64 (Int.ofNat 0), Sh.i IntKind.i64 (Int.ofNat 0), Sh.i IntKind.i64 (Int.ofNat 0), Sh.i IntKind.i64 (Int.ofNat 1)]])) (Sh.sl 8 2 (nthL [[Sh.i IntKind.i64 (Int.ofNat 1), Sh.i IntKind.i64 (Int.ofNat 1), Sh.i IntKind.i64 (Int.ofNat 0), Sh.i IntKind.i64 (Int.ofNat 0), Sh.i IntKind.i64 (Int.ofNat 0), Sh.i IntKind.i64 (Int.ofNat 0), Sh.i IntKind.i64 (Int.ofNat 0), Sh.i IntKind.i64 (Int.ofNat 0)], [Sh.i IntKind.i64 (Int.ofNat 1), Sh.i IntKind.i64 (Int.ofNat 2), Sh.i IntKind.i64 (Int.ofNat 1), Sh.i IntKind.i64 (Int.ofNat 0), Sh.i IntKind.i64 (Int.ofNat 0), Sh.i IntKind.i64 (Int.ofNat 0), Sh.i IntKind.i64 (Int.ofNat 0), Sh.i IntKind.i64 (Int.ofNat 0)], [Sh.i IntKind.i64 (Int.ofNat 2), Sh.i IntKind.i64 (Int.ofNat 1), Sh.i IntKind.i64 (Int.ofNat 0), Sh.i IntKind.i64 (Int.ofNat 0), Sh.i IntKind.i64 (Int.ofNat 2), Sh.i IntKind.i64 (Int.ofNat 0), Sh.i IntKind.i64 (Int.ofNat 0), Sh.i IntKind.i64 (Int.ofNat 0)], [Sh.i IntKind.i64 (Int.ofNat 3), Sh.i IntKind.i64 (Int.ofNat 1), Sh.i IntKind.i64 (Int.ofNat 0), Sh.i IntKind.i64 (Int.ofNat 0), Sh.i IntKind.i64 (Int.ofNat 0), Sh.i IntKind.i64 (Int.ofNat 0), Sh.i IntKind.i64 (Int.ofNat 0), Sh.i IntKind.i64 (Int.ofNat 1)]])), Eqn.nat 2 2, Eqn.fun_ (prim.snoc (nthL []) 0 (nthL [[Sh.i IntKind.i64 (Int.ofNat 1), Sh.i IntKind.i64 (Int.ofNat 1), Sh.i IntKind.i64 (Int.ofNat 0), Sh.i IntKind.i64 (Int.ofNat 0), Sh.i IntKind.i64 (Int.ofNat 0), Sh.i IntKind.i64 (Int.ofNat 0), Sh.i IntKind.i64 (Int.ofNat 0), Sh.i IntKind.i64 (Int.ofNat 0)], [Sh.i IntKind.i64 (Int.ofNat 1), Sh.i IntKind.i64 (Int.ofNat 2), Sh.i IntKind.i64 (Int.ofNat 1), Sh.i IntKind.i64 (Int.ofNat 0), Sh.i IntKind.i64 (Int.ofNat 0), Sh.i IntKind.i64 (Int.ofNat 0), Sh.i IntKind.i64 (Int.ofNat 0), Sh.i IntKind.i64 (Int.ofNat 0)], [Sh.i IntKind.i64 (Int.ofNat 2), Sh.i IntKind.i64 (Int.ofNat 1), Sh.i IntKind.i64 (Int.ofNat 0), Sh.i IntKind.i64 (Int.ofNat 0), Sh.i IntKind.i64 (Int.ofNat 2), Sh.i IntKind.i64 (Int.ofNat 0), Sh.i IntKind.i64 (Int.ofNat 0), Sh.i IntKind.i64 (Int.ofNat 0)], [Sh.i IntKind.i64 (Int.ofNat 3), Sh.i IntKind.i64 (Int.ofNat 1), Sh.i IntKind.i64 (Int.ofNat 0), Sh.i IntKind.i64 (Int.ofNat 0), Sh.i IntKind.i64 (Int.ofNat 0), Sh.i IntKind.i64 (Int.ofNat 0), Sh.i IntKind.i64 (Int.ofNat 0), Sh.i IntKind.i64 (Int.ofNat 1)]])) (prim.snoc (nthL []) 0 (nthL [[Sh.i IntKind.i64 (Int.ofNat 1), Sh.i IntKind.i64 (Int.ofNat 1), Sh.i IntKind.i64 (Int.ofNat 0), Sh.i IntKind.i64 (Int.ofNat 0), Sh.i IntKind.i64 (Int.ofNat 0), Sh.i IntKind.i64 (Int.ofNat 0), Sh.i IntKind.i64 (Int.ofNat 0), Sh.i IntKind.i64 (Int.ofNat 0)], [Sh.i IntKind.i64 (Int.ofNat 1), Sh.i IntKind.i64 (Int.ofNat 2), Sh.i IntKind.i64 (Int.ofNat 1), Sh.i IntKind.i64 (Int.ofNat 0), Sh.i IntKind.i64 (Int.ofNat 0), Sh.i IntKind.i64 (Int.ofNat 0), Sh.i IntKind.i64 (Int.ofNat 0), Sh.i IntKind.i64 (Int.ofNat 0)], [Sh.i IntKind.i64 (Int.ofNat 2), Sh.i IntKind.i64 (Int.ofNat 1), Sh.i IntKind.i64 (Int.ofNat 0), Sh.i IntKind.i64 (Int.ofNat 0), Sh.i IntKind.i64 (Int.ofNat 2), Sh.i IntKind.i64 (Int.ofNat 0), Sh.i IntKind.i64 (Int.ofNat 0), Sh.i IntKind.i64 (Int.ofNat 0)], [Sh.i IntKind.i64 (Int.ofNat 3), Sh.i IntKind.i64 (Int.ofNat 1), Sh.i IntKind.i64 (Int.ofNat 0), Sh.i IntKind.i64 (Int.ofNat 0), Sh.i IntKind.i64 (Int.ofNat 0), Sh.i IntKind.i64 (Int.ofNat 0), Sh.i IntKind.i64 (Int.ofNat 0), Sh.i IntKind.i64 (Int.ofNat 1)]])), Eqn.nat 2 2, Eqn.fun_ (nthL txs0) (nthL txs0), Eqn.sh (Sh.sl 8 1 (nthL [[Sh.i IntKind.i64 (Int.ofNat 0), Sh.i IntKind.i64 (Int.ofNat 2), Sh.i IntKind.i64 (Int.ofNat 0), Sh.i IntKind.i64 (Int.ofNat 0), Sh.i IntKind.i64 (Int.ofNat 1), Sh.i IntKind.i64 (Int.ofNat 0), Sh.i IntKind.i64 (Int.ofNat 2), Sh.i IntKind.i64 (Int.ofNat 3)]])) (Sh.sl 8 1 (nthL [[Sh.i IntKind.i64 (Int.ofNat 0), Sh.i IntKind.i64 (Int.ofNat 2), Sh.i IntKind.i64 (Int.ofNat 0), Sh.i IntKind.i64 (Int.ofNat 0), Sh.i IntKind.i64 (Int.ofNat 1), Sh.i IntKind.i64 (Int.ofNat 0), Sh.i IntKind.i64 (Int.ofNat 2), Sh.i IntKind.i64 (Int.ofNat 3)]])), Eqn.nat 2 2, Eqn.fun_ (prim.snoc (nthL []) 0 (nthL [[Sh.i IntKind.i64 (Int.ofNat 1), Sh.i IntKind.i64 (Int.ofNat 0)], [Sh.i IntKind.i64 (Int.ofNat 3), Sh.i IntKind.i64 (Int.ofNat 0)]])) (prim.snoc (nthL []) 0 (nthL [[Sh.i IntKind.i64 (Int.ofNat 1), Sh.i IntKind.i64 (Int.ofNat 0)], [Sh.i IntKind.i64 (Int.ofNat 3), Sh.i IntKind.i64 (Int.ofNat 0)]])), Eqn.nat 2 2, Eqn.fun_ (nthL [[Sh.i IntKind.i64 (Int.ofNat 1), Sh.i IntKind.i64 (Int.ofNat 0)], [Sh.i IntKind.i64 (Int.ofNat 3), Sh.i IntKind.i64 (Int.ofNat 0)]]) (nthL [[Sh.i IntKind.i64 (Int.ofNat 1), Sh.i IntKind.i64 (Int.ofNat 0)], [Sh.i IntKind.i64 (Int.ofNat 3), Sh.i IntKind.i64 (Int.ofNat 0)]]), Eqn.nat 4 4, Eqn.fun_ (nthL [[Sh.i IntKind.i64 (Int.ofNat 1), Sh.i IntKind.i64 (Int.ofNat 1), Sh.i IntKind.i64 (Int.ofNat 0), Sh.i IntKind.i64 (Int.ofNat 0), Sh.i IntKind.i64 (Int.ofNat 0), Sh.i IntKind.i64 (Int.ofNat 0), Sh.i IntKind.i64 (Int.ofNat 0), Sh.i IntKind.i64 (Int.ofNat 0)], [Sh.i IntKind.i64 (Int.ofNat 1), Sh.i IntKind.i64 (Int.ofNat 2), Sh.i IntKind.i64 (Int.ofNat 1), Sh.i IntKind.i64 (Int.ofNat 0), Sh.i IntKind.i64 (Int.ofNat 0), Sh.i IntKind.i64 (Int.ofNat 0), Sh.i IntKind.i64 (Int.ofNat 0), Sh.i IntKind.i64 (Int.ofNat 0)], [Sh.i IntKind.i64 (Int.ofNat 2), Sh.i IntKind.i64 (Int.ofNat 1), Sh.i IntKind.i64 (Int.ofNat 0), Sh.i IntKind.i64 (Int.ofNat 0), Sh.i IntKind.i64 (Int.ofNat 2), Sh.i IntKind.i64 (Int.ofNat 0), Sh.i IntKind.i64 (Int.ofNat 0), Sh.i IntKind.i64 (Int.ofNat 0)], [Sh.i IntKind.i64 (Int.ofNat 3), Sh.i IntKind.i64 (Int.ofNat 1), Sh.i IntKind.i64 (Int.ofNat 0), Sh.i IntKind.i64 (Int.ofNat 0), Sh.i IntKind.i64 (Int.ofNat 0), Sh.i IntKind.i64 (Int.ofNat 0), Sh.i IntKind.i64 (Int.ofNat 0), Sh.i IntKind.i64 (Int.ofNat 1)]]) (nthL [[Sh.i IntKind.i64 (Int.ofNat 1), Sh.i IntKind.i64 (Int.ofNat 1), Sh.i IntKind.i64 (Int.ofNat 0), Sh.i IntKind.i64 (Int.ofNat 0), Sh.i IntKind.i64 (Int.ofNat 0), Sh.i IntKind.i64 (Int.ofNat 0), Sh.i IntKind.i64 (Int.ofNat 0), Sh.i IntKind.i64 (Int.ofNat 0)], [Sh.i IntKind.i64 (Int.ofNat 1), Sh.i IntKind.i64 (Int.ofNat 2), Sh.i IntKind.i64 (Int.ofNat 1), Sh.i IntKind.i64 (Int.ofNat 0), Sh.i IntKind.i64 (Int.ofNat 0), Sh.i IntKind.i64 (Int.ofNat 0), Sh.i IntKind.i64 (Int.ofNat 0), Sh.i IntKind.i64 (Int.ofNat 0)], [Sh.i IntKind.i64 (Int.ofNat 2), Sh.i IntKind.i64 (Int.ofNat 1), Sh.i IntKind.i64 (Int.ofNat 0), Sh.i IntKind.i64 (Int.ofNat 0), Sh.i IntKind.i64 (Int.ofNat 2), Sh.i IntKind.i64 (Int.ofNat 0), Sh.i IntKind.i64 (Int.ofNat 0), Sh.i IntKind.i64 (Int.ofNat 0)], [Sh.i IntKind.i64 (Int.ofNat 3), Sh.i IntKind.i64 (Int.ofNat 1), Sh.i IntKind.i64 (Int.ofNat 0), Sh.i IntKind.i64 (Int.ofNat 0), Sh.i IntKind.i64 (Int.ofNat 0), Sh.i IntKind.i64 (Int.ofNat 0), Sh.i IntKind.i64 (Int.ofNat 0), Sh.i IntKind.i64 (Int.ofNat 1)]]), Eqn.sh (Sh.sl 8 2 (nthL [[Sh.i IntKind.i64 (Int.ofNat 1), Sh.i IntKind.i64 (Int.ofNat 1), Sh.i IntKind.i64 (Int.ofNat 0), Sh.i IntKind.i64 (Int.ofNat 0), Sh.i IntKind.i64 (Int.ofNat 0), Sh.i IntKind.i64 (Int.ofNat 0), Sh.i IntKind.i64 (Int.ofNat 0), Sh.i IntKind.i64 (Int.ofNat 0)], [Sh.i IntKind.i64 (Int.ofNat 1), Sh.i IntKind.i64 (Int.ofNat 2), Sh.i IntKind.i64 (Int.ofNat 1), Sh.i IntKind.i64 (Int.ofNat 0), Sh.i IntKind.i64 (Int.ofNat 0), Sh.i IntKind.i64 (Int.ofNat 0), Sh.i IntKind.i64 (Int.ofNat 0), Sh.i IntKind.i64 (Int.ofNat 0)], [Sh.i IntKind.i64 (Int.ofNat 2), Sh.i IntKind.i64 (Int.ofNat 1), Sh.i IntKind.i64 (Int.ofNat 0), Sh.i IntKind.i64 (Int.ofNat 0), Sh.i IntKind.i64 (Int.ofNat 2), Sh.i IntKind.i64 (Int.ofNat 0), Sh.i IntKind.i64 (Int.ofNat 0), Sh.i IntKind.i64 (Int.ofNat 0)], [Sh.i IntKind.i64 (Int.ofNat 3), Sh.i IntKind.i64 (Int.ofNat 1), Sh.i IntKind.i64 (Int.ofNat 0), Sh.i IntKind.i64 (Int.ofNat 0), Sh.i IntKind.i64 (Int.ofNat 0), Sh.i IntKind.i64 (Int.ofNat 0), Sh.i IntKind.i64 (Int.ofNat 0), Sh.i IntKind.i64 (Int.ofNat 1)]])) (Sh.sl 8 2 (nthL [[Sh.i IntKind.i64 (Int.ofNat 1), Sh.i IntKind.i64 (Int.ofNat 1), Sh.i IntKind.i64 (Int.ofNat 0), Sh.i IntKind.i64 (Int.ofNat 0), Sh.i IntKind.i64 (Int.ofNat 0), Sh.i IntKind.i64 (Int.ofNat 0), Sh.i IntKind.i64 (Int.ofNat 0), Sh.i IntKind.i64 (Int.ofNat 0)], [Sh.i IntKind.i64 (Int.ofNat 1), Sh.i IntKind.i64 (Int.ofNat 2), Sh.i IntKind.i64 (Int.ofNat 1), Sh.i IntKind.i64 (Int.ofNat 0), Sh.i IntKind.i64 (Int.ofNat 0), Sh.i IntKind.i64 (Int.ofNat 0), Sh.i IntKind.i64 (Int.ofNat 0), Sh.i IntKind.i64 (Int.ofNat 0)], [Sh.i IntKind.i64 (Int.ofNat 2), Sh.i IntKind.i64 (Int.ofNat 1), Sh.i IntKind.i64 (Int.ofNat 0), Sh.i IntKind.i64 (Int.ofNat 0), Sh.i IntKind.i64 (Int.ofNat 2), Sh.i IntKind.i64 (Int.ofNat 0), Sh.i IntKind.i64 (Int.ofNat 0), Sh.i IntKind.i64 (Int.ofNat 0)], [Sh.i IntKind.i64 (Int.ofNat 3), Sh.i IntKind.i64 (Int.ofNat 1), Sh.i IntKind.i64 (Int.ofNat 0), Sh.i IntKind.i64 (Int.ofNat 0), Sh.i IntKind.i64 (Int.ofNat 0), Sh.i IntKind.i64 (Int.ofNat 0), Sh.i IntKind.i64 (Int.ofNat 0), Sh.i IntKind.i64 (Int.ofNat 1)]])), Eqn.sh (Sh.sl 8 2 (nthL [[Sh.i IntKind.i64 (Int.ofNat 1), Sh.i IntKind.i64 (Int.ofNat 1), Sh.i IntKind.i64 (Int.ofNat 0), Sh.i IntKind.i64 (Int.ofNat 0), Sh.i IntKind.i64 (Int.ofNat 0), Sh.i IntKind.i64 (Int.ofNat 0), Sh.i IntKind.i64 (Int.ofNat 0), Sh.i IntKind.i64 (Int.ofNat 0)], [Sh.i IntKind.i64 (Int.ofNat 1), Sh.i IntKind.i64 (Int.ofNat 2), Sh.i IntKind.i64 (Int.ofNat 1), Sh.i IntKind.i64 (Int.ofNat 0), Sh.i IntKind.i64 (Int.ofNat 0), Sh.i IntKind.i64 (Int.ofNat 0), Sh.i IntKind.i64 (Int.ofNat 0), Sh.i IntKind.i64 (Int.ofNat 0)], [Sh.i IntKind.i64 (Int.ofNat 2), Sh.i IntKind.i64 (Int.ofNat 1), Sh.i IntKind.i64 (Int.ofNat 0), Sh.i IntKind.i64 (Int.ofNat 0), Sh.i IntKind.i64 (Int.ofNat 2), Sh.i IntKind.i64 (Int.ofNat 0), Sh.i IntKind.i64 (Int.ofNat 0), Sh.i IntKind.i64 (Int.ofNat 0)], [Sh.i IntKind.i64 (Int.ofNat 3), Sh.i IntKind.i64 (Int.ofNat 1), Sh.i IntKind.i64 (Int.ofNat 0), Sh.i IntKind.i64 (Int.ofNat 0), Sh.i IntKind.i64 (Int.ofNat 0), Sh.i IntKind.i64 (Int.ofNat 0), Sh.i IntKind.i64 (Int.ofNat 0), Sh.i IntKind.i64 (Int.ofNat 1)]])) (Sh.sl 8 2 (nthL [[Sh.i IntKind.i64 (Int.ofNat 1), Sh.i IntKind.i64 (Int.ofNat 1), Sh.i IntKind.i64 (Int.ofNat 0), Sh.i IntKind.i64 (Int.ofNat 0), Sh.i IntKind.i64 (Int.ofNat 0), Sh.i IntKind.i64 (Int.ofNat 0), Sh.i IntKind.i64 (Int.ofNat 0), Sh.i IntKind.i64 (Int.ofNat 0)], [Sh.i IntKind.i64 (Int.ofNat 1), Sh.i IntKind.i64 (Int.ofNat 2), Sh.i IntKind.i64 (Int.ofNat 1), Sh.i IntKind.i64 (Int.ofNat 0), Sh.i IntKind.i64 (Int.ofNat 0), Sh.i IntKind.i64 (Int.ofNat 0), Sh.i IntKind.i64 (Int.ofNat 0), Sh.i IntKind.i64 (Int.ofNat 0)], [Sh.i IntKind.i64 (Int.ofNat 2), Sh.i IntKind.i64 (Int.ofNat 1), Sh.i IntKind.i64 (Int.ofNat 0), Sh.i IntKind.i64 (Int.ofNat 0), Sh.i IntKind.i64 (Int.ofNat 2), Sh.i IntKind.i64 (Int.ofNat 0), Sh.i IntKind.i64 (Int.ofNat 0), Sh.i IntKind.i64 (Int.ofNat 0)], [Sh.i IntKind.i64 (Int.ofNat 3), Sh.i IntKind.i64 (Int.ofNat 1), Sh.i IntKind.i64 (Int.ofNat 0), Sh.i IntKind.i64 (Int.ofNat 0), Sh.i IntKind.i64 (Int.ofNat 0), Sh.i IntKind.i64 (Int.ofNat 0), Sh.i IntKind.i64 (Int.ofNat 0), Sh.i IntKind.i64 (Int.ofNat 1)]])), Eqn.nat 2 2, Eqn.fun_ (prim.snoc (nthL []) 0 (nthL [[Sh.i IntKind.i64 (Int.ofNat 1), Sh.i IntKind.i64 (Int.ofNat 1), Sh.i IntKind.i64 (Int.ofNat 0), Sh.i IntKind.i64 (Int.ofNat 0), Sh.i IntKind.i64 (Int.ofNat 0), Sh.i IntKind.i64 (Int.ofNat 0), Sh.i IntKind.i64 (Int.ofNat 0), Sh.i IntKind.i64 (Int.ofNat 0)], [Sh.i IntKind.i64 (Int.ofNat 1), Sh.i IntKind.i64 (Int.ofNat 2), Sh.i IntKind.i64 (Int.ofNat 1), Sh.i IntKind.i64 (Int.ofNat 0), Sh.i IntKind.i64 (Int.ofNat 0), Sh.i IntKind.i64 (Int.ofNat 0), Sh.i IntKind.i64 (Int.ofNat 0), Sh.i IntKind.i64 (Int.ofNat 0)], [Sh.i IntKind.i64 (Int.ofNat 2), Sh.i IntKind.i64 (Int.ofNat 1), Sh.i IntKind.i64 (Int.ofNat 0), Sh.i IntKind.i64 (Int.ofNat 0), Sh.i IntKind.i64 (Int.ofNat 2), Sh.i IntKind.i64 (Int.ofNat 0), Sh.i IntKind.i64 (Int.ofNat 0), Sh.i IntKind.i64 (Int.ofNat 0)], [Sh.i IntKind.i64 (Int.ofNat 3), Sh.i IntKind.i64 (Int.ofNat 1), Sh.i IntKind.i64 (Int.ofNat 0), Sh.i IntKind.i64 (Int.ofNat 0), Sh.i IntKind.i64 (Int.ofNat 0), Sh.i IntKind.i64 (Int.ofNat 0), Sh.i IntKind.i64 (Int.ofNat 0), Sh.i IntKind.i64 (Int.ofNat 1)]])) (prim.snoc (nthL []) 0 (nthL [[Sh.i IntKind.i64 (Int.ofNat 1), Sh.i IntKind.i64 (Int.ofNat 1), Sh.i IntKind.i64 (Int.ofNat 0), Sh.i IntKind.i64 (Int.ofNat 0), Sh.i IntKind.i64 (Int.ofNat 0), Sh.i IntKind.i64 (Int.ofNat 0), Sh.i IntKind.i64 (Int.ofNat 0), Sh.i IntKind.i64 (Int.ofNat 0)], [Sh.i IntKind.i64 (Int.ofNat 1), Sh.i IntKind.i64 (Int.ofNat 2), Sh.i IntKind.i64 (Int.ofNat 1), Sh.i IntKind.i64 (Int.ofNat 0), Sh.i IntKind.i64 (Int.ofNat 0), Sh.i IntKind.i64 (Int.ofNat 0), Sh.i IntKind.i64 (Int.ofNat 0), Sh.i IntKind.i64 (Int.ofNat 0)], [Sh.i IntKind.i64 (Int.ofNat 2), Sh.i IntKind.i64 (Int.ofNat 1), Sh.i IntKind.i64 (Int.ofNat 0), Sh.i IntKind.i64 (Int.ofNat 0), Sh.i IntKind.i64 (Int.ofNat 2), Sh.i IntKind.i64 (Int.ofNat 0), Sh.i IntKind.i64 (Int.ofNat 0), Sh.i IntKind.i64 (Int.ofNat 0)], [Sh.i IntKind.i64 (Int.ofNat 3), Sh.i IntKind.i64 (Int.ofNat 1), Sh.i IntKind.i64 (Int.ofNat 0), Sh.i IntKind.i64 (Int.ofNat 0), Sh.i IntKind.i64 (Int.ofNat 0), Sh.i IntKind.i64 (Int.ofNat 0), Sh.i IntKind.i64 (Int.ofNat 0), Sh.i IntKind.i64 (Int.ofNat 1)]])), Eqn.nat 2 2, Eqn.fun_ (nthL txs0) (nthL txs0), Eqn.sh (Sh.sl 8 1 (nthL [[Sh.i IntKind.i64 (Int.ofNat 0), Sh.i IntKind.i64 (Int.ofNat 2), Sh.i IntKind.i64 (Int.ofNat 0), Sh.i IntKind.i64 (Int.ofNat 0), Sh.i IntKind.i64 (Int.ofNat 1), Sh.i IntKind.i64 (Int.ofNat 0), Sh.i IntKind.i64 (Int.ofNat 2), Sh.i IntKind.i64 (Int.ofNat 3)]])) (Sh.sl 8 1 (nthL [[Sh.i IntKind.i64 (Int.ofNat 0), Sh.i IntKind.i64 (Int.ofNat 2), Sh.i IntKind.i64 (Int.ofNat 0), Sh.i IntKind.i64 (Int.ofNat 0), Sh.i IntKind.i64 (Int.ofNat 1), Sh.i IntKind.i64 (Int.ofNat 0), Sh.i IntKind.i64 (Int.ofNat 2), Sh.i IntKind.i64 (Int.ofNat 3)]])), Eqn.nat 2 2, Eqn.fun_ (prim.snoc (nthL []) 0 (nthL [[Sh.i IntKind.i64 (Int.ofNat 1), Sh.i IntKind.i64 (Int.ofNat 0)], [Sh.i IntKind.i64 (Int.ofNat 3), Sh.i IntKind.i64 (Int.ofNat 0)]])) (prim.snoc (nthL []) 0 (nthL [[Sh.i IntKind.i64 (Int.ofNat 1), Sh.i IntKind.i64 (Int.ofNat 0)], [Sh.i IntKind.i64 (Int.ofNat 3), Sh.i IntKind.i64 (Int.ofNat 0)]])), Eqn.nat 4 4, Eqn.fun_ (nthL [[Sh.i IntKind.i64 (Int.ofNat 1), Sh.i IntKind.i64 (Int.ofNat 1), Sh.i IntKind.i64 (Int.ofNat 0), Sh.i IntKind.i64 (Int.ofNat 0), Sh.i IntKind.i64 (Int.ofNat 0), Sh.i IntKind.i64 (Int.ofNat 0), Sh.i IntKind.i64 (Int.ofNat 0), Sh.i IntKind.i64 (Int.ofNat 0)], [Sh.i IntKind.i64 (Int.ofNat 1), Sh.i IntKind.i64 (Int.ofNat 2), Sh.i IntKind.i64 (Int.ofNat 1), Sh.i IntKind.i64 (Int.ofNat 0), Sh.i IntKind.i64 (Int.ofNat 0), Sh.i IntKind.i64 (Int.ofNat 0), Sh.i IntKind.i64 (Int.ofNat 0), Sh.i IntKind.i64 (Int.ofNat 0)], [Sh.i IntKind.i64 (Int.ofNat 2), Sh.i IntKind.i64 (Int.ofNat 1), Sh.i IntKind.i64 (Int.ofNat 0), Sh.i IntKind.i64 (Int.ofNat 0), Sh.i IntKind.i64 (Int.ofNat 2), Sh.i IntKind.i64 (Int.ofNat 0), Sh.i IntKind.i64 (Int.ofNat 0), Sh.i IntKind.i64 (Int.ofNat 0)], [Sh.i IntKind.i64 (Int.ofNat 3), Sh.i IntKind.i64 (Int.ofNat 1), Sh.i IntKind.i64 (Int.ofNat 0), Sh.i IntKind.i64 (Int.ofNat 0), Sh.i IntKind.i64 (Int.ofNat 0), Sh.i IntKind.i64 (Int.ofNat 0), Sh.i IntKind.i64 (Int.ofNat 0), Sh.i IntKind.i64 (Int.ofNat 1)]]) (nthL [[Sh.i IntKind.i64 (Int.ofNat 1), Sh.i IntKind.i64 (Int.ofNat 1), Sh.i IntKind.i64 (Int.ofNat 0), Sh.i IntKind.i64 (Int.ofNat 0), Sh.i IntKind.i64 (Int.ofNat 0), Sh.i IntKind.i64 (Int.ofNat 0), Sh.i IntKind.i64 (Int.ofNat 0), Sh.i IntKind.i64 (Int.ofNat 0)], [Sh.i IntKind.i64 (Int.ofNat 1), Sh.i IntKind.i64 (Int.ofNat 2), Sh.i IntKind.i64 (Int.ofNat 1), Sh.i IntKind.i64 (Int.ofNat 0), Sh.i IntKind.i64 (Int.ofNat 0), Sh.i IntKind.i64 (Int.ofNat 0), Sh.i IntKind.i64 (Int.ofNat 0), Sh.i IntKind.i64 (Int.ofNat 0)], [Sh.i IntKind.i64 (Int.ofNat 2), Sh.i IntKind.i64 (Int.ofNat 1), Sh.i IntKind.i64 (Int.ofNat 0), Sh.i IntKind.i64 (Int.ofNat 0), Sh.i IntKind.i64 (Int.ofNat 2), Sh.i IntKind.i64 (Int.ofNat 0), Sh.i IntKind.i64 (Int.ofNat 0), Sh.i IntKind.i64 (Int.ofNat 0)], [Sh.i IntKind.i64 (Int.ofNat 3), Sh.i IntKind.i64 (Int.ofNat 1), Sh.i IntKind.i64 (Int.ofNat 0), Sh.i IntKind.i64 (Int.ofNat 0), Sh.i IntKind.i64 (Int.ofNat 0), Sh.i IntKind.i64 (Int.ofNat 0), Sh.i IntKind.i64 (Int.ofNat 0), Sh.i IntKind.i64 (Int.ofNat 1)]]), Eqn.sh (Sh.sl 8 2 (nthL [[Sh.i IntKind.i64 (Int.ofNat 1), Sh.i IntKind.i64 (Int.ofNat 1), Sh.i IntKind.i64 (Int.ofNat 0), Sh.i IntKind.i64 (Int.ofNat 0), Sh.i IntKind.i64 (Int.ofNat 0), Sh.i IntKind.i64 (Int.ofNat 0), Sh.i IntKind.i64 (Int.ofNat 0), Sh.i IntKind.i64 (Int.ofNat 0)], [Sh.i IntKind.i64 (Int.ofNat 1), Sh.i IntKind.i64 (Int.ofNat 2), Sh.i IntKind.i64 (Int.ofNat 1), Sh.i IntKind.i64 (Int.ofNat 0), Sh.i IntKind.i64 (Int.ofNat 0), Sh.i IntKind.i64 (Int.ofNat 0), Sh.i IntKind.i64 (Int.ofNat 0), Sh.i IntKind.i64 (Int.ofNat 0)], [Sh.i IntKind.i64 (Int.ofNat 2), Sh.i IntKind.i64 (Int.ofNat 1), Sh.i IntKind.i64 (Int.ofNat 0), Sh.i IntKind.i64 (Int.ofNat 0), Sh.i IntKind.i64 (Int.ofNat 2), Sh.i IntKind.i64 (Int.ofNat 0), Sh.i IntKind.i64 (Int.ofNat 0), Sh.i IntKind.i64 (Int.ofNat 0)], [Sh.i IntKind.i64 (Int.ofNat 3), Sh.i IntKind.i64 (Int.ofNat 1), Sh.i IntKind.i64 (Int.ofNat 0), Sh.i IntKind.i64 (Int.ofNat 0), Sh.i IntKind.i64 (Int.ofNat 0), Sh.i IntKind.i64 (Int.ofNat 0), Sh.i IntKind.i64 (Int.ofNat 0), Sh.i IntKind.i64 (Int.ofNat 1)]])) (Sh.sl 8 2 (nthL [[Sh.i IntKind.i64 (Int.ofNat 1), Sh.i IntKind.i64 (Int.ofNat 1), Sh.i IntKind.i64 (Int.ofNat 0), Sh.i IntKind.i64 (Int.ofNat 0), Sh.i IntKind.i64 (Int.ofNat 0), Sh.i IntKind.i64 (Int.ofNat 0), Sh.i IntKind.i64 (Int.ofNat 0), Sh.i IntKind.i64 (Int.ofNat 0)], [Sh.i IntKind.i64 (Int.ofNat 1), Sh.i IntKind.i64 (Int.ofNat 2), Sh.i IntKind.i64 (Int.ofNat 1), Sh.i IntKind.i64 (Int.ofNat 0), Sh.i IntKind.i64 (Int.ofNat 0), Sh.i IntKind.i64 (Int.ofNat 0), Sh.i IntKind.i64 (Int.ofNat 0), Sh.i IntKind.i64 (Int.ofNat 0)], [Sh.i IntKind.i64 (Int.ofNat 2), Sh.i IntKind.i64 (Int.ofNat 1), Sh.i IntKind.i64 (Int.ofNat 0), Sh.i IntKind.i64 (Int.ofNat 0), Sh.i IntKind.i64 (Int.ofNat 2), Sh.i IntKind.i64 (Int.ofNat 0), Sh.i IntKind.i64 (Int.ofNat 0), Sh.i IntKind.i64 (Int.ofNat 0)], [Sh.i IntKind.i64 (Int.ofNat 3), Sh.i IntKind.i64 (Int.ofNat 1), Sh.i IntKind.i64 (Int.ofNat 0), Sh.i IntKind.i64 (Int.ofNat 0), Sh.i IntKind.i64 (Int.ofNat 0), Sh.i IntKind.i64 (Int.ofNat 0), Sh.i IntKind.i64 (Int.ofNat 0), Sh.i IntKind.i64 (Int.ofNat 1)]])), Eqn.sh (Sh.sl 8 2 (nthL [[Sh.i IntKind.i64 (Int.ofNat 1), Sh.i IntKind.i64 (Int.ofNat 1), Sh.i IntKind.i64 (Int.ofNat 0), Sh.i IntKind.i64 (Int.ofNat 0), Sh.i IntKind.i64 (Int.ofNat 0), Sh.i IntKind.i64 (Int.ofNat 0), Sh.i IntKind.i64 (Int.ofNat 0), Sh.i IntKind.i64 (Int.ofNat 0)], [Sh.i IntKind.i64 (Int.ofNat 1), Sh.i IntKind.i64 (Int.ofNat 2), Sh.i IntKind.i64 (Int.ofNat 1), Sh.i IntKind.i64 (Int.ofNat 0), Sh.i IntKind.i64 (Int.ofNat 0), Sh.i IntKind.i64 (Int.ofNat 0), Sh.i IntKind.i64 (Int.ofNat 0), Sh.i IntKind.i64 (Int.ofNat 0)], [Sh.i IntKind.i64 (Int.ofNat 2), Sh.i IntKind.i64 (Int.ofNat 1), Sh.i IntKind.i64 (Int.ofNat 0), Sh.i IntKind.i64 (Int.ofNat 0), Sh.i IntKind.i64 (Int.ofNat 2), Sh.i IntKind.i64 (Int.ofNat 0), Sh.i IntKind.i64 (Int.ofNat 0), Sh.i IntKind.i64 (Int.ofNat 0)], [Sh.i IntKind.i64 (Int.ofNat 3), Sh.i IntKind.i64 (Int.ofNat 1), Sh.i IntKind.i64 (Int.ofNat 0), Sh.i IntKind.i64 (Int.ofNat 0), Sh.i IntKind.i64 (Int.ofNat 0), Sh.i IntKind.i64 (Int.ofNat 0), Sh.i IntKind.i64 (Int.ofNat 0), Sh.i IntKind.i64 (Int.ofNat 1)]])) (Sh.sl 8 2 (nthL [[Sh.i IntKind.i64 (Int.ofNat 1), Sh.i IntKind.i64 (Int.ofNat 1), Sh.i IntKind.i64 (Int.ofNat 0), Sh.i IntKind.i64 (Int.ofNat 0), Sh.i IntKind.i64 (Int.ofNat 0), Sh.i IntKind.i64 (Int.ofNat 0), Sh.i IntKind.i64 (Int.ofNat 0), Sh.i IntKind.i64 (Int.ofNat 0)], [Sh.i IntKind.i64 (Int.ofNat 1), Sh.i IntKind.i64 (Int.ofNat 2), Sh.i IntKind.i64 (Int.ofNat 1), Sh.i IntKind.i64 (Int.ofNat 0), Sh.i IntKind.i64 (Int.ofNat 0), Sh.i IntKind.i64 (Int.ofNat 0), Sh.i IntKind.i64 (Int.ofNat 0), Sh.i IntKind.i64 (Int.ofNat 0)], [Sh.i IntKind.i64 (Int.ofNat 2), Sh.i IntKind.i64 (Int.ofNat 1), Sh.i IntKind.i64 (Int.ofNat 0), Sh.i IntKind.i64 (Int.ofNat 0), Sh.i IntKind.i64 (Int.ofNat 2), Sh.i IntKind.i64 (Int.ofNat 0), Sh.i IntKind.i64 (Int.ofNat 0), Sh.i IntKind.i64 (Int.ofNat 0)], [Sh.i IntKind.i64 (Int.ofNat 3), Sh.i IntKind.i64 (Int.ofNat 1), Sh.i IntKind.i64 (Int.ofNat 0), Sh.i IntKind.i64 (Int.ofNat 0), Sh.i IntKind.i64 (Int.ofNat 0), Sh.i IntKind.i64 (Int.ofNat 0), Sh.i IntKind.i64 (Int.ofNat 0), Sh.i IntKind.i64 (Int.ofNat 1)]])), Eqn.nat 2 2, Eqn.fun_ (prim.snoc (nthL []) 0 (nthL [[Sh.i IntKind.i64 (Int.ofNat 1), Sh.i IntKind.i64 (Int.ofNat 1), Sh.i IntKind.i64 (Int.ofNat 0), Sh.i IntKind.i64 (Int.ofNat 0), Sh.i IntKind.i64 (Int.ofNat 0), Sh.i IntKind.i64 (Int.ofNat 0), Sh.i IntKind.i64 (Int.ofNat 0), Sh.i IntKind.i64 (Int.ofNat 0)], [Sh.i IntKind.i64 (Int.ofNat 1), Sh.i IntKind.i64 (Int.ofNat 2), Sh.i IntKind.i64 (Int.ofNat 1), Sh.i IntKind.i64 (Int.ofNat 0), Sh.i IntKind.i64 (Int.ofNat 0), Sh.i IntKind.i64 (Int.ofNat 0), Sh.i IntKind.i64 (Int.ofNat 0), Sh.i IntKind.i64 (Int.ofNat 0)], [Sh.i IntKind.i64 (Int.ofNat 2), Sh.i IntKind.i64 (Int.ofNat 1), Sh.i IntKind.i64 (Int.ofNat 0), Sh.i IntKind.i64 (Int.ofNat 0), Sh.i IntKind.i64 (Int.ofNat 2), Sh.i IntKind.i64 (Int.ofNat 0), Sh.i IntKind.i64 (Int.ofNat 0), Sh.i IntKind.i64 (Int.ofNat 0)], [Sh.i IntKind.i64 (Int.ofNat 3), Sh.i IntKind.i64 (Int.ofNat 1), Sh.i IntKind.i64 (Int.ofNat 0), Sh.i IntKind.i64 (Int.ofNat 0), Sh.i IntKind.i64 (Int.ofNat 0), Sh.i IntKind.i64 (Int.ofNat 0), Sh.i IntKind.i64 (Int.ofNat 0), Sh.i IntKind.i64 (Int.ofNat 1)]])) (prim.snoc (nthL []) 0 (nthL [[Sh.i IntKind.i64 (Int.ofNat 1), Sh.i IntKind.i64 (Int.ofNat 1), Sh.i IntKind.i64 (Int.ofNat 0), Sh.i IntKind.i64 (Int.ofNat 0), Sh.i IntKind.i64 (Int.ofNat 0), Sh.i IntKind.i64 (Int.ofNat 0), Sh.i IntKind.i64 (Int.ofNat 0), Sh.i IntKind.i64 (Int.ofNat 0)], [Sh.i IntKind.i64 (Int.ofNat 1), Sh.i IntKind.i64 (Int.ofNat 2), Sh.i IntKind.i64 (Int.ofNat 1), Sh.i IntKind.i64 (Int.ofNat 0), Sh.i IntKind.i64 (Int.ofNat 0), Sh.i IntKind.i64 (Int.ofNat 0), Sh.i IntKind.i64 (Int.ofNat 0), Sh.i IntKind.i64 (Int.ofNat 0)], [Sh.i IntKind.i64 (Int.ofNat 2), Sh.i IntKind.i64 (Int.ofNat 1), Sh.i IntKind.i64 (Int.ofNat 0), Sh.i IntKind.i64 (Int.ofNat 0), Sh.i IntKind.i64 (Int.ofNat 2), Sh.i IntKind.i64 (Int.ofNat 0), Sh.i IntKind.i64 (Int.ofNat 0), Sh.i IntKind.i64 (Int.ofNat 0)], [Sh.i IntKind.i64 (Int.ofNat 3), Sh.i IntKind.i64 (Int.ofNat 1), Sh.i IntKind.i64 (Int.ofNat 0), Sh.i IntKind.i64 (Int.ofNat 0), Sh.i IntKind.i64 (Int.ofNat 0), Sh.i IntKind.i64 (Int.ofNat 0), Sh.i IntKind.i64 (Int.ofNat 0), Sh.i IntKind.i64 (Int.ofNat 1)]])), Eqn.nat 4 4, Eqn.fun_ (nthL [[Sh.i IntKind.i64 (Int.ofNat 1), Sh.i IntKind.i64 (Int.ofNat 1), Sh.i IntKind.i64 (Int.ofNat 0), Sh.i IntKind.i64 (Int.ofNat 0), Sh.i IntKind.i64 (Int.ofNat 0), Sh.i IntKind.i64 (Int.ofNat 0), Sh.i IntKind.i64 (Int.ofNat 0), Sh.i IntKind.i64 (Int.ofNat 0)], [Sh.i IntKind.i64 (Int.ofNat 1), Sh.i IntKind.i64 (Int.ofNat 2), Sh.i IntKind.i64 (Int.ofNat 1), Sh.i IntKind.i64 (Int.ofNat 0), Sh.i IntKind.i64 (Int.ofNat 0), Sh.i IntKind.i64 (Int.ofNat 0), Sh.i IntKind.i64 (Int.ofNat 0), Sh.i IntKind.i64 (Int.ofNat 0)], [Sh.i IntKind.i64 (Int.ofNat 2), Sh.i IntKind.i64 (Int.ofNat 1), Sh.i IntKind.i64 (Int.ofNat 0), Sh.i IntKind.i64 (Int.ofNat 0), Sh.i IntKind.i64 (Int.ofNat 2), Sh.i IntKind.i64 (Int.ofNat 0), Sh.i IntKind.i64 (Int.ofNat 0), Sh.i IntKind.i64 (Int.ofNat 0)], [Sh.i IntKind.i64 (Int.ofNat 3), Sh.i IntKind.i64 (Int.ofNat 1), Sh.i IntKind.i64 (Int.ofNat 0), Sh.i IntKind.i64 (Int.ofNat 0), Sh.i IntKind.i64 (Int.ofNat 0), Sh.i IntKind.i64 (Int.ofNat 0), Sh.i IntKind.i64 (Int.ofNat 0), Sh.i IntKind.i64 (Int.ofNat 1)]]) (nthL [[Sh.i IntKind.i64 (Int.ofNat 1), Sh.i IntKind.i64 (Int.ofNat 1), Sh.i IntKind.i64 (Int.ofNat 0), Sh.i IntKind.i64 (Int.ofNat 0), Sh.i IntKind.i64 (Int.ofNat 0), Sh.i IntKind.i64 (Int.ofNat 0), Sh.i IntKind.i64 (Int.ofNat 0), Sh.i IntKind.i64 (Int.ofNat 0)], [Sh.i IntKind.i64 (Int.ofNat 1), Sh.i IntKind.i64 (Int.ofNat 2), Sh.i IntKind.i64 (Int.ofNat 1), Sh.i IntKind.i64 (Int.ofNat 0), Sh.i IntKind.i64 (Int.ofNat 0), Sh.i IntKind.i64 (Int.ofNat 0), Sh.i IntKind.i64 (Int.ofNat 0), Sh.i IntKind.i64 (Int.ofNat 0)], [Sh.i IntKind.i64 (Int.ofNat 2), Sh.i IntKind.i64 (Int.ofNat 1), Sh.i IntKind.i64 (Int.ofNat 0), Sh.i IntKind.i64 (Int.ofNat 0), Sh.i IntKind.i64 (Int.ofNat 2), Sh.i IntKind.i64 (Int.ofNat 0), Sh.i IntKind.i64 (Int.ofNat 0), Sh.i IntKind.i64 (Int.ofNat 0)], [Sh.i IntKind.i64 (Int.ofNat 3), Sh.i IntKind.i64 (Int.ofNat 1), Sh.i IntKind.i64 (Int.ofNat 0), Sh.i IntKind.i64 (Int.ofNat 0), Sh.i IntKind.i64 (Int.ofNat 0), Sh.i IntKind.i64 (Int.ofNat 0), Sh.i IntKind.i64 (Int.ofNat 0), Sh.i IntKind.i64 (Int.ofNat 1)]]), Eqn.sh (Sh.sl 8 2 (nthL [[Sh.i IntKind.i64 (Int.ofNat 1), Sh.i IntKind.i64 (Int.ofNat 1), Sh.i IntKind.i64 (Int.ofNat 0), Sh.i IntKind.i64 (Int.ofNat 0), Sh.i IntKind.i64 (Int.ofNat 0), Sh.i IntKind.i64 (Int.ofNat 0), Sh.i IntKind.i64 (Int.ofNat 0), Sh.i IntKind.i64 (Int.ofNat 0)], [Sh.i IntKind.i64 (Int.ofNat 1), Sh.i IntKind.i64 (Int.ofNat 2), Sh.i IntKind.i64 (Int.ofNat 1), Sh.i IntKind.i64 (Int.ofNat 0), Sh.i IntKind.i64 (Int.ofNat 0), Sh.i IntKind.i64 (Int.ofNat 0), Sh.i IntKind.i64 (Int.ofNat 0), Sh.i IntKind.i64 (Int.ofNat 0)], [Sh.i IntKind.i64 (Int.ofNat 2), Sh.i IntKind.i64 (Int.ofNat 1), Sh.i IntKind.i64 (Int.ofNat 0), Sh.i IntKind.i64 (Int.ofNat 0), Sh.i IntKind.i64 (Int.ofNat 2), Sh.i IntKind.i64 (Int.ofNat 0), Sh.i IntKind.i64 (Int.ofNat 0), Sh.i IntKind.i64 (Int.ofNat 0)], [Sh.i IntKind.i64 (Int.ofNat 3), Sh.i IntKind.i64 (Int.ofNat 1), Sh.i IntKind.i64 (Int.ofNat 0), Sh.i IntKind.i64 (Int.ofNat 0), Sh.i IntKind.i64 (Int.ofNat 0), Sh.i IntKind.i64 (Int.ofNat 0), Sh.i IntKind.i64 (Int.ofNat 0), Sh.i IntKind.i64 (Int.ofNat 1)]])) (Sh.sl 8 2 (nthL [[Sh.i IntKind.i64 (Int.ofNat 1), Sh.i IntKind.i64 (Int.ofNat 1), Sh.i IntKind.i64 (Int.ofNat 0), Sh.i IntKind.i64 (Int.ofNat 0), Sh.i IntKind.i64 (Int.ofNat 0), Sh.i IntKind.i64 (Int.ofNat 0), Sh.i IntKind.i64 (Int.ofNat 0), Sh.i IntKind.i64 (Int.ofNat 0)], [Sh.i IntKind.i64 (Int.ofNat 1), Sh.i IntKind.i64 (Int.ofNat 2), Sh.i IntKind.i64 (Int.ofNat 1), Sh.i IntKind.i64 (Int.ofNat 0), Sh.i IntKind.i64 (Int.ofNat 0), Sh.i IntKind.i64 (Int.ofNat 0), Sh.i IntKind.i64 (Int.ofNat 0), Sh.i IntKind.i64 (Int.ofNat 0)], [Sh.i IntKind.i64 (Int.ofNat 2), Sh.i IntKind.i64 (Int.ofNat 1), Sh.i IntKind.i64 (Int.ofNat 0), Sh.i IntKind.i64 (Int.ofNat 0), Sh.i IntKind.i64 (Int.ofNat 2), Sh.i IntKind.i64 (Int.ofNat 0), Sh.i IntKind.i64 (Int.ofNat 0), Sh.i IntKind.i64 (Int.ofNat 0)], [Sh.i IntKind.i64 (Int.ofNat 3), Sh.i IntKind.i64 (Int.ofNat 1), Sh.i IntKind.i64 (Int.ofNat 0), Sh.i IntKind.i64 (Int.ofNat 0), Sh.i IntKind.i64 (Int.ofNat 0), Sh.i IntKind.i64 (Int.ofNat 0), Sh.i IntKind.i64 (Int.ofNat 0), Sh.i IntKind.i64 (Int.ofNat 1)]])), Eqn.sh (Sh.sl 8 2 (nthL [[Sh.i IntKind.i64 (Int.ofNat 1), Sh.i IntKind.i64 (Int.ofNat 1), Sh.i IntKind.i64 (Int.ofNat 0), Sh.i IntKind.i64 (Int.ofNat 0), Sh.i IntKind.i64 (Int.ofNat 0), Sh.i IntKind.i64 (Int.ofNat 0), Sh.i IntKind.i64 (Int.ofNat 0), Sh.i IntKind.i64 (Int.ofNat 0)], [Sh.i IntKind.i64 (Int.ofNat 1), Sh.i IntKind.i64 (Int.ofNat 2), Sh.i IntKind.i64 (Int.ofNat 1), Sh.i IntKind.i64 (Int.ofNat 0), Sh.i IntKind.i64 (Int.ofNat 0), Sh.i IntKind.i64 (Int.ofNat 0), Sh.i IntKind.i64 (Int.ofNat 0), Sh.i IntKind.i64 (Int.ofNat 0)], [Sh.i IntKind.i64 (Int.ofNat 2), Sh.i IntKind.i64 (Int.ofNat 1), Sh.i IntKind.i64 (Int.ofNat 0), Sh.i IntKind.i64 (Int.ofNat 0), Sh.i IntKind.i64 (Int.ofNat 2), Sh.i IntKind.i64 (Int.ofNat 0), Sh.i IntKind.i64 (Int.ofNat 0), Sh.i IntKind.i64 (Int.ofNat 0)], [Sh.i IntKind.i64 (Int.ofNat 3), Sh.i IntKind.i64 (Int.ofNat 1), Sh.i IntKind.i64 (Int.ofNat 0), Sh.i IntKind.i64 (Int.ofNat 0), Sh.i IntKind.i64 (Int.ofNat 0), Sh.i IntKind.i64 (Int.ofNat 0), Sh.i IntKind.i64 (Int.ofNat 0), Sh.i IntKind.i64 (Int.ofNat 1)]])) (Sh.sl 8 2 (nthL [[Sh.i IntKind.i64 (Int.ofNat 1), Sh.i IntKind.i64 (Int.ofNat 1), Sh.i IntKind.i64 (Int.ofNat 0), Sh.i IntKind.i64 (Int.ofNat 0), Sh.i IntKind.i64 (Int.ofNat 0), Sh.i IntKind.i64 (Int.ofNat 0), Sh.i IntKind.i64 (Int.ofNat 0), Sh.i IntKind.i64 (Int.ofNat 0)], [Sh.i IntKind.i64 (Int.ofNat 1), Sh.i IntKind.i64 (Int.ofNat 2), Sh.i IntKind.i64 (Int.ofNat 1), Sh.i IntKind.i64 (Int.ofNat 0), Sh.i IntKind.i64 (Int.ofNat 0), Sh.i IntKind.i64 (Int.ofNat 0), Sh.i IntKind.i64 (Int.ofNat 0), Sh.i IntKind.i64 (Int.ofNat 0)], [Sh.i IntKind.i64 (Int.ofNat 2), Sh.i IntKind.i64 (Int.ofNat 1), Sh.i IntKind.i64 (Int.ofNat 0), Sh.i IntKind.i64 (Int.ofNat 0), Sh.i IntKind.i64 (Int.ofNat 2), Sh.i IntKind.i64 (Int.ofNat 0), Sh.i IntKind.i64 (Int.ofNat 0), Sh.i IntKind.i64 (Int.ofNat 0)], [Sh.i IntKind.i64 (Int.ofNat 3), Sh.i IntKind.i64 (Int.ofNat 1), Sh.i IntKind.i64 (Int.ofNat 0), Sh.i IntKind.i64 (Int.ofNat 0), Sh.i IntKind.i64 (Int.ofNat 0), Sh.i IntKind.i64 (Int.ofNat 0), Sh.i IntKind.i64 (Int.ofNat 0), Sh.i IntKind.i64 (Int.ofNat 1)]])), Eqn.nat 2 2, Eqn.fun_ (prim.snoc (nthL []) 0 (nthL [[Sh.i IntKind.i64 (Int.ofNat 1), Sh.i IntKind.i64 (Int.ofNat 1), Sh.i IntKind.i64 (Int.ofNat 0), Sh.i IntKind.i64 (Int.ofNat 0), Sh.i IntKind.i64 (Int.ofNat 0), Sh.i IntKind.i64 (Int.ofNat 0), Sh.i IntKind.i64 (Int.ofNat 0), Sh.i IntKind.i64 (Int.ofNat 0)], [Sh.i IntKind.i64 (Int.ofNat 1), Sh.i IntKind.i64 (Int.ofNat 2), Sh.i IntKind.i64 (Int.ofNat 1), Sh.i IntKind.i64 (Int.ofNat 0), Sh.i IntKind.i64 (Int.ofNat 0), Sh.i IntKind.i64 (Int.ofNat 0), Sh.i IntKind.i64 (Int.ofNat 0), Sh.i IntKind.i64 (Int.ofNat 0)], [Sh.i IntKind.i64 (Int.ofNat 2), Sh.i IntKind.i64 (Int.ofNat 1), Sh.i IntKind.i64 (Int.ofNat 0), Sh.i IntKind.i64 (Int.ofNat 0), Sh.i IntKind.i64 (Int.ofNat 2), Sh.i IntKind.i64 (Int.ofNat 0), Sh.i IntKind.i64 (Int.ofNat 0), Sh.i IntKind.i64 (Int.ofNat 0)], [Sh.i IntKind.i64 (Int.ofNat 3), Sh.i IntKind.i64 (Int.ofNat 1), Sh.i IntKind.i64 (Int.ofNat 0), Sh.i IntKind.i64 (Int.ofNat 0), Sh.i IntKind.i64 (Int.ofNat 0), Sh.i IntKind.i64 (Int.ofNat 0), Sh.i IntKind.i64 (Int.ofNat 0), Sh.i IntKind.i64 (Int.ofNat 1)]])) (prim.snoc (nthL []) 0 (nthL [[Sh.i IntKind.i64 (Int.ofNat 1), Sh.i IntKind.i64 (Int.ofNat 1), Sh.i IntKind.i64 (Int.ofNat 0), Sh.i IntKind.i64 (Int.ofNat 0), Sh.i IntKind.i64 (Int.ofNat 0), Sh.i IntKind.i64 (Int.ofNat 0), Sh.i IntKind.i64 (Int.ofNat 0), Sh.i IntKind.i64 (Int.ofNat 0)], [Sh.i IntKind.i64 (Int.ofNat 1), Sh.i IntKind.i64 (Int.ofNat 2), Sh.i IntKind.i64 (Int.ofNat 1), Sh.i IntKind.i64 (Int.ofNat 0), Sh.i IntKind.i64 (Int.ofNat 0), Sh.i IntKind.i64 (Int.ofNat 0), Sh.i IntKind.i64 (Int.ofNat 0), Sh.i IntKind.i64 (Int.ofNat 0)], [Sh.i IntKind.i64 (Int.ofNat 2), Sh.i IntKind.i64 (Int.ofNat 1), Sh.i IntKind.i64 (Int.ofNat 0), Sh.i IntKind.i64 (Int.ofNat 0), Sh.i IntKind.i64 (Int.ofNat 2), Sh.i IntKind.i64 (Int.ofNat 0), Sh.i IntKind.i64 (Int.ofNat 0), Sh.i IntKind.i64 (Int.ofNat 0)], [Sh.i IntKind.i64 (Int.ofNat 3), Sh.i IntKind.i64 (Int.ofNat 1), Sh.i IntKind.i64 (Int.ofNat 0), Sh.i IntKind.i64 (Int.ofNat 0), Sh.i IntKind.i64 (Int.ofNat 0), Sh.i IntKind.i64 (Int.ofNat 0), Sh.i IntKind.i64 (Int.ofNat 0), Sh.i IntKind.i64 (Int.ofNat 1)]])), Eqn.sh (Sh.sl 8 2 (nthL [[Sh.i IntKind.i64 (Int.ofNat 1), Sh.i IntKind.i64 (Int.ofNat 1), Sh.i IntKind.i64 (Int.ofNat 0), Sh.i IntKind.i64 (Int.ofNat 0), Sh.i IntKind.i64 (Int.ofNat 0), Sh.i IntKind.i64 (Int.ofNat 0), Sh.i IntKind.i64 (Int.ofNat 0), Sh.i IntKind.i64 (Int.ofNat 0)], [Sh.i IntKind.i64 (Int.ofNat 1), Sh.i IntKind.i64 (Int.ofNat 2), Sh.i IntKind.i64 (Int.ofNat 1), Sh.i IntKind.i64 (Int.ofNat 0), Sh.i IntKind.i64 (Int.ofNat 0), Sh.i IntKind.i64 (Int.ofNat 0), Sh.i IntKind.i64 (Int.ofNat 0), Sh.i IntKind.i64 (Int.ofNat 0)], [Sh.i IntKind.i64 (Int.ofNat 2), Sh.i IntKind.i64 (Int.ofNat 1), Sh.i IntKind.i64 (Int.ofNat 0), Sh.i IntKind.i64 (Int.ofNat 0), Sh.i IntKind.i64 (Int.ofNat 2), Sh.i IntKind.i64 (Int.ofNat 0), Sh.i IntKind.i64 (Int.ofNat 0), Sh.i IntKind.i64 (Int.ofNat 0)], [Sh.i IntKind.i64 (Int.ofNat 3), Sh.i IntKind.i64 (Int.ofNat 1), Sh.i IntKind.i64 (Int.ofNat 0), Sh.i IntKind.i64 (Int.ofNat 0), Sh.i IntKind.i64 (Int.ofNat 0), Sh.i IntKind.i64 (Int.ofNat 0), Sh.i IntKind.i64 (Int.ofNat 0), Sh.i IntKind.i64 (Int.ofNat 1)]])) (Sh.sl 8 2 (nthL [[Sh.i IntKind.i64 (Int.ofNat 1), Sh.i IntKind.i64 (Int.ofNat 1), Sh.i IntKind.i64 (Int.ofNat 0), Sh.i IntKind.i64 (Int.ofNat 0), Sh.i IntKind.i64 (Int.ofNat 0), Sh.i IntKind.i64 (Int.ofNat 0), Sh.i IntKind.i64 (Int.ofNat 0), Sh.i IntKind.i64 (Int.ofNat 0)], [Sh.i IntKind.i64 (Int.ofNat 1), Sh.i IntKind.i64 (Int.ofNat 2), Sh.i IntKind.i64 (Int.ofNat 1), Sh.i IntKind.i64 (Int.ofNat 0), Sh.i IntKind.i64 (Int.ofNat 0), Sh.i IntKind.i64 (Int.ofNat 0), Sh.i IntKind.i64 (Int.ofNat 0), Sh.i IntKind.i64 (Int.ofNat 0)], [Sh.i IntKind.i64 (Int.ofNat 2), Sh.i IntKind.i64 (Int.ofNat 1), Sh.i IntKind.i64 (Int.ofNat 0), Sh.i IntKind.i64 (Int.ofNat 0), Sh.i IntKind.i64 (Int.ofNat 2), Sh.i IntKind.i64 (Int.ofNat 0), Sh.i IntKind.i64 (Int.ofNat 0), Sh.i IntKind.i64 (Int.ofNat 0)], [Sh.i IntKind.i64 (Int.ofNat 3), Sh.i IntKind.i64 (Int.ofNat 1), Sh.i IntKind.i64 (Int.ofNat 0), Sh.i IntKind.i64 (Int.ofNat 0), Sh.i IntKind.i64 (Int.ofNat 0), Sh.i IntKind.i64 (Int.ofNat 0), Sh.i IntKind.i64 (Int.ofNat 0), Sh.i IntKind.i64 (Int.ofNat 1)]])), Eqn.nat 4 4, Eqn.fun_ (nthL [[Sh.i IntKind.i64 (Int.ofNat 1), Sh.i IntKind.i64 (Int.ofNat 1), Sh.i IntKind.i64 (Int.ofNat 0), Sh.i IntKind.i64 (Int.ofNat 0), Sh.i IntKind.i64 (Int.ofNat 0), Sh.i IntKind.i64 (Int.ofNat 0), Sh.i IntKind.i64 (Int.ofNat 0), Sh.i IntKind.i64 (Int.ofNat 0)], [Sh.i IntKind.i64 (Int.ofNat 1), Sh.i IntKind.i64 (Int.ofNat 2), Sh.i IntKind.i64 (Int.ofNat 1), Sh.i IntKind.i64 (Int.ofNat 0), Sh.i IntKind.i64 (Int.ofNat 0), Sh.i IntKind.i64 (Int.ofNat 0), Sh.i IntKind.i64 (Int.ofNat 0), Sh.i IntKind.i64 (Int.ofNat 0)], [Sh.i IntKind.i64 (Int.ofNat 2), Sh.i IntKind.i64 (Int.ofNat 1), Sh.i IntKind.i64 (Int.ofNat 0), Sh.i IntKind.i64 (Int.ofNat 0), Sh.i IntKind.i64 (Int.ofNat 2), Sh.i IntKind.i64 (Int.ofNat 0), Sh.i IntKind.i64 (Int.ofNat 0), Sh.i IntKind.i64 (Int.ofNat 0)], [Sh.i IntKind.i64 (Int.ofNat 3), Sh.i IntKind.i64 (Int.ofNat 1), Sh.i IntKind.i64 (Int.ofNat 0), Sh.i IntKind.i64 (Int.ofNat 0), Sh.i IntKind.i64 (Int.ofNat 0), Sh.i IntKind.i64 (Int.ofNat 0), Sh.i IntKind.i64 (Int.ofNat 0), Sh.i IntKind.i64 (Int.ofNat 1)]]) (nthL [[Sh.i IntKind.i64 (Int.ofNat 1), Sh.i IntKind.i64 (Int.ofNat 1), Sh.i IntKind.i64 (Int.ofNat 0), Sh.i IntKind.i64 (Int.ofNat 0), Sh.i IntKind.i64 (Int.ofNat 0), Sh.i IntKind.i64 (Int.ofNat 0), Sh.i IntKind.i64 (Int.ofNat 0), Sh.i IntKind.i64 (Int.ofNat 0)], [Sh.i IntKind.i64 (Int.ofNat 1), Sh.i IntKind.i64 (Int.ofNat 2), Sh.i IntKind.i64 (Int.ofNat 1), Sh.i IntKind.i64 (Int.ofNat 0), Sh.i IntKind.i64 (Int.ofNat 0), Sh.i IntKind.i64 (Int.ofNat 0), Sh.i IntKind.i64 (Int.ofNat 0), Sh.i IntKind.i64 (Int.ofNat 0)], [Sh.i IntKind.i64 (Int.ofNat 2), Sh.i IntKind.i64 (Int.ofNat 1), Sh.i IntKind.i64 (Int.ofNat 0), Sh.i IntKind.i64 (Int.ofNat 0), Sh.i IntKind.i64 (Int.ofNat 2), Sh.i IntKind.i64 (Int.ofNat 0), Sh.i IntKind.i64 (Int.ofNat 0), Sh.i IntKind.i64 (Int.ofNat 0)], [Sh.i IntKind.i64 (Int.ofNat 3), Sh.i IntKind.i64 (Int.ofNat 1), Sh.i IntKind.i64 (Int.ofNat 0), Sh.i IntKind.i64 (Int.ofNat 0), Sh.i IntKind.i64 (Int.ofNat 0), Sh.i IntKind.i64 (Int.ofNat 0), Sh.i IntKind.i64 (Int.ofNat 0), Sh.i IntKind.i64 (Int.ofNat 1)]]), Eqn.sh (Sh.sl 8 2 (nthL [[Sh.i IntKind.i64 (Int.ofNat 1), Sh.i IntKind.i64 (Int.ofNat 1), Sh.i IntKind.i64 (Int.ofNat 0), Sh.i IntKind.i64 (Int.ofNat 0), Sh.i IntKind.i64 (Int.ofNat 0), Sh.i IntKind.i64 (Int.ofNat 0), Sh.i IntKind.i64 (Int.ofNat 0), Sh.i IntKind.i64 (Int.ofNat 0)], [Sh.i IntKind.i64 (Int.ofNat 1), Sh.i IntKind.i64 (Int.ofNat 2), Sh.i IntKind.i64 (Int.ofNat 1), Sh.i IntKind.i64 (Int.ofNat 0), Sh.i IntKind.i64 (Int.ofNat 0), Sh.i IntKind.i64 (Int.ofNat 0), Sh.i IntKind.i64 (Int.ofNat 0), Sh.i IntKind.i64 (Int.ofNat 0)], [Sh.i IntKind.i64 (Int.ofNat 2), Sh.i IntKind.i64 (Int.ofNat 1), Sh.i IntKind.i64 (Int.ofNat 0), Sh.i IntKind.i64 (Int.ofNat 0), Sh.i IntKind.i64 (Int.ofNat 2), Sh.i IntKind.i64 (Int.ofNat 0), Sh.i IntKind.i64 (Int.ofNat 0), Sh.i IntKind.i64 (Int.ofNat 0)], [Sh.i IntKind.i64 (Int.ofNat 3), Sh.i IntKind.i64 (Int.ofNat 1), Sh.i IntKind.i64 (Int.ofNat 0), Sh.i IntKind.i64 (Int.ofNat 0), Sh.i IntKind.i64 (Int.ofNat 0), Sh.i IntKind.i64 (Int.ofNat 0), Sh.i IntKind.i64 (Int.ofNat 0), Sh.i IntKind.i64 (Int.ofNat 1)]])) (Sh.sl 8 2 (nthL [[Sh.i IntKind.i64 (Int.ofNat 1), Sh.i IntKind.i64 (Int.ofNat 1), Sh.i IntKind.i64 (Int.ofNat 0), Sh.i IntKind.i64 (Int.ofNat 0), Sh.i IntKind.i64 (Int.ofNat 0), Sh.i IntKind.i64 (Int.ofNat 0), Sh.i IntKind.i64 (Int.ofNat 0), Sh.i IntKind.i64 (Int.ofNat 0)], [Sh.i IntKind.i64 (Int.ofNat 1), Sh.i IntKind.i64 (Int.ofNat 2), Sh.i IntKind.i64 (Int.ofNat 1), Sh.i IntKind.i64 (Int.ofNat 0), Sh.i IntKind.i64 (Int.ofNat 0), Sh.i IntKind.i64 (Int.ofNat 0), Sh.i IntKind.i64 (Int.ofNat 0), Sh.i IntKind.i64 (Int.ofNat 0)], [Sh.i IntKind.i64 (Int.ofNat 2), Sh.i IntKind.i64 (Int.ofNat 1), Sh.i IntKind.i64 (Int.ofNat 0), Sh.i IntKind.i64 (Int.ofNat 0), Sh.i IntKind.i64 (Int.ofNat 2), Sh.i IntKind.i64 (Int.ofNat 0), Sh.i IntKind.i64 (Int.ofNat 0), Sh.i IntKind.i64 (Int.ofNat 0)], [Sh.i IntKind.i64 (Int.ofNat 3), Sh.i IntKind.i64 (Int.ofNat 1), Sh.i IntKind.i64 (Int.ofNat 0), Sh.i IntKind.i64 (Int.ofNat 0), Sh.i IntKind.i64 (Int.ofNat 0), Sh.i IntKind.i64 (Int.ofNat 0), Sh.i IntKind.i64 (Int.ofNat 0), Sh.i IntKind.i64 (Int.ofNat 1)]])), Eqn.sh (Sh.sl 8 2 (nthL [[Sh.i IntKind.i64 (Int.ofNat 1), Sh.i IntKind.i64 (Int.ofNat 1), Sh.i IntKind.i64 (Int.ofNat 0), Sh.i IntKind.i64 (Int.ofNat 0), Sh.i IntKind.i64 (Int.ofNat 0), Sh.i IntKind.i64 (Int.ofNat 0), Sh.i IntKind.i64 (Int.ofNat 0), Sh.i IntKind.i64 (Int.ofNat 0)], [Sh.i IntKind.i64 (Int.ofNat 1), Sh.i IntKind.i64 (Int.ofNat 2), Sh.i IntKind.i64 (Int.ofNat 1), Sh.i IntKind.i64 (Int.ofNat 0), Sh.i IntKind.i64 (Int.ofNat 0), Sh.i IntKind.i64 (Int.ofNat 0), Sh.i IntKind.i64 (Int.ofNat 0), Sh.i IntKind.i64 (Int.ofNat 0)], [Sh.i IntKind.i64 (Int.ofNat 2), Sh.i IntKind.i64 (Int.ofNat 1), Sh.i IntKind.i64 (Int.ofNat 0), Sh.i IntKind.i64 (Int.ofNat 0), Sh.i IntKind.i64 (Int.ofNat 2), Sh.i IntKind.i64 (Int.ofNat 0), Sh.i IntKind.i64 (Int.ofNat 0), Sh.i IntKind.i64 (Int.ofNat 0)], [Sh.i IntKind.i64 (Int.ofNat 3), Sh.i IntKind.i64 (Int.ofNat 1), Sh.i IntKind.i64 (Int.ofNat 0), Sh.i IntKind.i64 (Int.ofNat 0), Sh.i IntKind.i64 (Int.ofNat 0), Sh.i IntKind.i64 (Int.ofNat 0), Sh.i IntKind.i64 (Int.ofNat 0), Sh.i IntKind.i64 (Int.ofNat 1)]])) (Sh.sl 8 2 (nthL [[Sh.i IntKind.i64 (Int.ofNat 1), Sh.i IntKind.i64 (Int.ofNat 1), Sh.i IntKind.i64 (Int.ofNat 0), Sh.i IntKind.i64 (Int.ofNat 0), Sh.i IntKind.i64 (Int.ofNat 0), Sh.i IntKind.i64 (Int.ofNat 0), Sh.i IntKind.i64 (Int.ofNat 0), Sh.i IntKind.i64 (Int.ofNat 0)], [Sh.i IntKind.i64 (Int.ofNat 1), Sh.i IntKind.i64 (Int.ofNat 2), Sh.i IntKind.i64 (Int.ofNat 1), Sh.i IntKind.i64 (Int.ofNat 0), Sh.i IntKind.i64 (Int.ofNat 0), Sh.i IntKind.i64 (Int.ofNat 0), Sh.i IntKind.i64 (Int.ofNat 0), Sh.i IntKind.i64 (Int.ofNat 0)], [Sh.i IntKind.i64 (Int.ofNat 2), Sh.i IntKind.i64 (Int.ofNat 1), Sh.i IntKind.i64 (Int.ofNat 0), Sh.i IntKind.i64 (Int.ofNat 0), Sh.i IntKind.i64 (Int.ofNat 2), Sh.i IntKind.i64 (Int.ofNat 0), Sh.i IntKind.i64 (Int.ofNat 0), Sh.i IntKind.i64 (Int.ofNat 0)], [Sh.i IntKind.i64 (Int.ofNat 3), Sh.i IntKind.i64 (Int.ofNat 1), Sh.i IntKind.i64 (Int.ofNat 0), Sh.i IntKind.i64 (Int.ofNat 0), Sh.i IntKind.i64 (Int.ofNat 0), Sh.i IntKind.i64 (Int.ofNat 0), Sh.i IntKind.i64 (Int.ofNat 0), Sh.i IntKind.i64 (Int.ofNat 1)]])), Eqn.nat 2 2, Eqn.fun_ (prim.snoc (nthL []) 0 (nthL [[Sh.i IntKind.i64 (Int.ofNat 1), Sh.i IntKind.i64 (Int.ofNat 1), Sh.i IntKind.i64 (Int.ofNat 0), Sh.i IntKind.i64 (Int.ofNat 0), Sh.i IntKind.i64 (Int.ofNat 0), Sh.i IntKind.i64 (Int.ofNat 0), Sh.i IntKind.i64 (Int.ofNat 0), Sh.i IntKind.i64 (Int.ofNat 0)], [Sh.i IntKind.i64 (Int.ofNat 1), Sh.i IntKind.i64 (Int.ofNat 2), Sh.i IntKind.i64 (Int.ofNat 1), Sh.i IntKind.i64 (Int.ofNat 0), Sh.i IntKind.i64 (Int.ofNat 0), Sh.i IntKind.i64 (Int.ofNat 0), Sh.i IntKind.i64 (Int.ofNat 0), Sh.i IntKind.i64 (Int.ofNat 0)], [Sh.i IntKind.i64 (Int.ofNat 2), Sh.i IntKind.i64 (Int.ofNat 1), Sh.i IntKind.i64 (Int.ofNat 0), Sh.i IntKind.i64 (Int.ofNat 0), Sh.i IntKind.i64 (Int.ofNat 2), Sh.i IntKind.i64 (Int.ofNat 0), Sh.i IntKind.i64 (Int.ofNat 0), Sh.i IntKind.i64 (Int.ofNat 0)], [Sh.i IntKind.i64 (Int.ofNat 3), Sh.i IntKind.i64 (Int.ofNat 1), Sh.i IntKind.i64 (Int.ofNat 0), Sh.i IntKind.i64 (Int.ofNat 0), Sh.i IntKind.i64 (Int.ofNat 0), Sh.i IntKind.i64 (Int.ofNat 0), Sh.i IntKind.i64 (Int.ofNat 0), Sh.i IntKind.i64 (Int.ofNat 1)]])) (prim.snoc (nthL []) 0 (nthL [[Sh.i IntKind.i64 (Int.ofNat 1), Sh.i IntKind.i64 (Int.ofNat 1), Sh.i IntKind.i64 (Int.ofNat 0), Sh.i IntKind.i64 (Int.ofNat 0), Sh.i IntKind.i64 (Int.ofNat 0), Sh.i IntKind.i64 (Int.ofNat 0), Sh.i IntKind.i64 (Int.ofNat 0), Sh.i IntKind.i64 (Int.ofNat 0)], [Sh.i IntKind.i64 (Int.ofNat 1), Sh.i IntKind.i64 (Int.ofNat 2), Sh.i IntKind.i64 (Int.ofNat 1), Sh.i IntKind.i64 (Int.ofNat 0), Sh.i IntKind.i64 (Int.ofNat 0), Sh.i IntKind.i64 (Int.ofNat 0), Sh.i IntKind.i64 (Int.ofNat 0), Sh.i IntKind.i64 (Int.ofNat 0)], [Sh.i IntKind.i64 (Int.ofNat 2), Sh.i IntKind.i64 (Int.ofNat 1), Sh.i IntKind.i64 (Int.ofNat 0), Sh.i IntKind.i64 (Int.ofNat 0), Sh.i IntKind.i64 (Int.ofNat 2), Sh.i IntKind.i64 (Int.ofNat 0), Sh.i IntKind.i64 (Int.ofNat 0), Sh.i IntKind.i64 (Int.ofNat 0)], [Sh.i IntKind.i64 (Int.ofNat 3), Sh.i IntKind.i64 (Int.ofNat 1), Sh.i IntKind.i64 (Int.ofNat 0), Sh.i IntKind.i64 (Int.ofNat 0), Sh.i IntKind.i64 (Int.ofNat 0), Sh.i IntKind.i64 (Int.ofNat 0), Sh.i IntKind.i64 (Int.ofNat 0), Sh.i IntKind.i64 (Int.ofNat 1)]])), Eqn.sh (Sh.sl 8 2 (nthL [[Sh.i IntKind.i64 (Int.ofNat 1), Sh.i IntKind.i64 (Int.ofNat 1), Sh.i IntKind.i64 (Int.ofNat 0), Sh.i IntKind.i64 (Int.ofNat 0), Sh.i IntKind.i64 (Int.ofNat 0), Sh.i IntKind.i64 (Int.ofNat 0), Sh.i IntKind.i64 (Int.ofNat 0), Sh.i IntKind.i64 (Int.ofNat 0)], [Sh.i IntKind.i64 (Int.ofNat 1), Sh.i IntKind.i64 (Int.ofNat 2), Sh.i IntKind.i64 (Int.ofNat 1), Sh.i IntKind.i64 (Int.ofNat 0), Sh.i IntKind.i64 (Int.ofNat 0), Sh.i IntKind.i64 (Int.ofNat 0), Sh.i IntKind.i64 (Int.ofNat 0), Sh.i IntKind.i64 (Int.ofNat 0)], [Sh.i IntKind.i64 (Int.ofNat 2), Sh.i IntKind.i64 (Int.ofNat 1), Sh.i IntKind.i64 (Int.ofNat 0), Sh.i IntKind.i64 (Int.ofNat 0), Sh.i IntKind.i64 (Int.ofNat 2), Sh.i IntKind.i64 (Int.ofNat 0), Sh.i IntKind.i64 (Int.ofNat 0), Sh.i IntKind.i64 (Int.ofNat 0)], [Sh.i IntKind.i64 (Int.ofNat 3), Sh.i IntKind.i64 (Int.ofNat 1), Sh.i IntKind.i64 (Int.ofNat 0), Sh.i IntKind.i64 (Int.ofNat 0), Sh.i IntKind.i64 (Int.ofNat 0), Sh.i IntKind.i64 (Int.ofNat 0), Sh.i IntKind.i64 (Int.ofNat 0), Sh.i IntKind.i64 (Int.ofNat 1)]])) (Sh.sl 8 2 (nthL [[Sh.i IntKind.i64 (Int.ofNat 1), Sh.i IntKind.i64 (Int.ofNat 1), Sh.i IntKind.i64 (Int.ofNat 0), Sh.i IntKind.i64 (Int.ofNat 0), Sh.i IntKind.i64 (Int.ofNat 0), Sh.i IntKind.i64 (Int.ofNat 0), Sh.i IntKind.i64 (Int.ofNat 0), Sh.i IntKind.i64 (Int.ofNat 0)], [Sh.i IntKind.i64 (Int.ofNat 1), Sh.i IntKind.i64 (Int.ofNat 2), Sh.i IntKind.i64 (Int.ofNat 1), Sh.i IntKind.i64 (Int.ofNat 0), Sh.i IntKind.i64 (Int.ofNat 0), Sh.i IntKind.i64 (Int.ofNat 0), Sh.i IntKind.i64 (Int.ofNat 0), Sh.i IntKind.i64 (Int.ofNat 0)], [Sh.i IntKind.i64 (Int.ofNat 2), Sh.i IntKind.i64 (Int.ofNat 1), Sh.i IntKind.i64 (Int.ofNat 0), Sh.i IntKind.i64 (Int.ofNat 0), Sh.i IntKind.i64 (Int.ofNat 2), Sh.i IntKind.i64 (Int.ofNat 0), Sh.i IntKind.i64 (Int.ofNat 0), Sh.i IntKind.i64 (Int.ofNat 0)], [Sh.i IntKind.i64 (Int.ofNat 3), Sh.i IntKind.i64 (Int.ofNat 1), Sh.i IntKind.i64 (Int.ofNat 0), Sh.i IntKind.i64 (Int.ofNat 0), Sh.i IntKind.i64 (Int.ofNat 0), Sh.i IntKind.i64 (Int.ofNat 0), Sh.i IntKind.i64 (Int.ofNat 0), Sh.i IntKind.i64 (Int.ofNat 1)]])), Eqn.nat 4 4, Eqn.fun_ (nthL [[Sh.i IntKind.i64 (Int.ofNat 1), Sh.i IntKind.i64 (Int.ofNat 1), Sh.i IntKind.i64 (Int.ofNat 0), Sh.i IntKind.i64 (Int.ofNat 0), Sh.i IntKind.i64 (Int.ofNat 0), Sh.i IntKind.i64 (Int.ofNat 0), Sh.i IntKind.i64 (Int.ofNat 0), Sh.i IntKind.i64 (Int.ofNat 0)], [Sh.i IntKind.i64 (Int.ofNat 1), Sh.i IntKind.i64 (Int.ofNat 2), Sh.i IntKind.i64 (Int.ofNat 1), Sh.i IntKind.i64 (Int.ofNat 0), Sh.i IntKind.i64 (Int.ofNat 0), Sh.i IntKind.i64 (Int.ofNat 0), Sh.i IntKind.i64 (Int.ofNat 0), Sh.i IntKind.i64 (Int.ofNat 0)], [Sh.i IntKind.i64 (Int.ofNat 2), Sh.i IntKind.i64 (Int.ofNat 1), Sh.i IntKind.i64 (Int.ofNat 0), Sh.i IntKind.i64 (Int.ofNat 0), Sh.i IntKind.i64 (Int.ofNat 2), Sh.i IntKind.i64 (Int.ofNat 0), Sh.i IntKind.i64 (Int.ofNat 0), Sh.i IntKind.i64 (Int.ofNat 0)], [Sh.i IntKind.i64 (Int.ofNat 3), Sh.i IntKind.i64 (Int.ofNat 1), Sh.i IntKind.i64 (Int.ofNat 0), Sh.i IntKind.i64 (Int.ofNat 0), Sh.i IntKind.i64 (Int.ofNat 0), Sh.i IntKind.i64 (Int.ofNat 0), Sh.i IntKind.i64 (Int.ofNat 0), Sh.i IntKind.i64 (Int.ofNat 1)]]) (nthL [[Sh.i IntKind.i64 (Int.ofNat 1), Sh.i IntKind.i64 (Int.ofNat 1), Sh.i IntKind.i64 (Int.ofNat 0), Sh.i IntKind.i64 (Int.ofNat 0), Sh.i IntKind.i64 (Int.ofNat 0), Sh.i IntKind.i64 (Int.ofNat 0), Sh.i IntKind.i64 (Int.ofNat 0), Sh.i IntKind.i64 (Int.ofNat 0)], [Sh.i IntKind.i64 (Int.ofNat 1), Sh.i IntKind.i64 (Int.ofNat 2), Sh.i IntKind.i64 (Int.ofNat 1), Sh.i IntKind.i64 (Int.ofNat 0), Sh.i IntKind.i64 (Int.ofNat 0), Sh.i IntKind.i64 (Int.ofNat 0), Sh.i IntKind.i64 (Int.ofNat 0), Sh.i IntKind.i64 (Int.ofNat 0)], [Sh.i IntKind.i64 (Int.ofNat 2), Sh.i IntKind.i64 (Int.ofNat 1), Sh.i IntKind.i64 (Int.ofNat 0), Sh.i IntKind.i64 (Int.ofNat 0), Sh.i IntKind.i64 (Int.ofNat 2), Sh.i IntKind.i64 (Int.ofNat 0), Sh.i IntKind.i64 (Int.ofNat 0), Sh.i IntKind.i64 (Int.ofNat 0)], [Sh.i IntKind.i64 (Int.ofNat 3), Sh.i IntKind.i64 (Int.ofNat 1), Sh.i IntKind.i64 (Int.ofNat 0), Sh.i IntKind.i64 (Int.ofNat 0), Sh.i IntKind.i64 (Int.ofNat 0), Sh.i IntKind.i64 (Int.ofNat 0), Sh.i IntKind.i64 (Int.ofNat 0), Sh.i IntKind.i64 (Int.ofNat 1)]]), Eqn.sh (Sh.sl 8 2 (nthL [[Sh.i IntKind.i64 (Int.ofNat 1), Sh.i IntKind.i64 (Int.ofNat 1), Sh.i IntKind.i64 (Int.ofNat 0), Sh.i IntKind.i64 (Int.ofNat 0), Sh.i IntKind.i64 (Int.ofNat 0), Sh.i IntKind.i64 (Int.ofNat 0), Sh.i IntKind.i64 (Int.ofNat 0), Sh.i IntKind.i64 (Int.ofNat 0)], [Sh.i IntKind.i64 (Int.ofNat 1), Sh.i IntKind.i64 (Int.ofNat 2), Sh.i IntKind.i64 (Int.ofNat 1), Sh.i IntKind.i64 (Int.ofNat 0), Sh.i IntKind.i64 (Int.ofNat 0), Sh.i IntKind.i64 (Int.ofNat 0), Sh.i IntKind.i64 (Int.ofNat 0), Sh.i IntKind.i64 (Int.ofNat 0)], [Sh.i IntKind.i64 (Int.ofNat 2), Sh.i IntKind.i64 (Int.ofNat 1), Sh.i IntKind.i64 (Int.ofNat 0), Sh.i IntKind.i64 (Int.ofNat 0), Sh.i IntKind.i64 (Int.ofNat 2), Sh.i IntKind.i64 (Int.ofNat 0), Sh.i IntKind.i64 (Int.ofNat 0), Sh.i IntKind.i64 (Int.ofNat 0)], [Sh.i IntKind.i64 (Int.ofNat 3), Sh.i IntKind.i64 (Int.ofNat 1), Sh.i IntKind.i64 (Int.ofNat 0), Sh.i IntKind.i64 (Int.ofNat 0), Sh.i IntKind.i64 (Int.ofNat 0), Sh.i IntKind.i64 (Int.ofNat 0), Sh.i IntKind.i64 (Int.ofNat 0), Sh.i IntKind.i64 (Int.ofNat 1)]])) (Sh.sl 8 2 (nthL [[Sh.i IntKind.i64 (Int.ofNat 1), Sh.i IntKind.i64 (Int.ofNat 1), Sh.i IntKind.i64 (Int.ofNat 0), Sh.i IntKind.i64 (Int.ofNat 0), Sh.i IntKind.i64 (Int.ofNat 0), Sh.i IntKind.i64 (Int.ofNat 0), Sh.i IntKind.i64 (Int.ofNat 0), Sh.i IntKind.i64 (Int.ofNat 0)], [Sh.i IntKind.i64 (Int.ofNat 1), Sh.i IntKind.i64 (Int.ofNat 2), Sh.i IntKind.i64 (Int.ofNat 1), Sh.i IntKind.i64 (Int.ofNat 0), Sh.i IntKind.i64 (Int.ofNat 0), Sh.i IntKind.i64 (Int.ofNat 0), Sh.i IntKind.i64 (Int.ofNat 0), Sh.i IntKind.i64 (Int.ofNat 0)], [Sh.i IntKind.i64 (Int.ofNat 2), Sh.i IntKind.i64 (Int.ofNat 1), Sh.i IntKind.i64 (Int.ofNat 0), Sh.i IntKind.i64 (Int.ofNat 0), Sh.i IntKind.i64 (Int.ofNat 2), Sh.i IntKind.i64 (Int.ofNat 0), Sh.i IntKind.i64 (Int.ofNat 0), Sh.i IntKind.i64 (Int.ofNat 0)], [Sh.i IntKind.i64 (Int.ofNat 3), Sh.i IntKind.i64 (Int.ofNat 1), Sh.i IntKind.i64 (Int.ofNat 0), Sh.i IntKind.i64 (Int.ofNat 0), Sh.i IntKind.i64 (Int.ofNat 0), Sh.i IntKind.i64 (Int.ofNat 0), Sh.i IntKind.i64 (Int.ofNat 0), Sh.i IntKind.i64 (Int.ofNat 1)]])), Eqn.sh (Sh.sl 8 2 (nthL [[Sh.i IntKind.i64 (Int.ofNat 1), Sh.i IntKind.i64 (Int.ofNat 1), Sh.i IntKind.i64 (Int.ofNat 0), Sh.i IntKind.i64 (Int.ofNat 0), Sh.i IntKind.i64 (Int.ofNat 0), Sh.i IntKind.i64 (Int.ofNat 0), Sh.i IntKind.i64 (Int.ofNat 0), Sh.i IntKind.i64 (Int.ofNat 0)], [Sh.i IntKind.i64 (Int.ofNat 1), Sh.i IntKind.i64 (Int.ofNat 2), Sh.i IntKind.i64 (Int.ofNat 1), Sh.i IntKind.i64 (Int.ofNat 0), Sh.i IntKind.i64 (Int.ofNat 0), Sh.i IntKind.i64 (Int.ofNat 0), Sh.i IntKind.i64 (Int.ofNat 0), Sh.i IntKind.i64 (Int.ofNat 0)], [Sh.i IntKind.i64 (Int.ofNat 2), Sh.i IntKind.i64 (Int.ofNat 1), Sh.i IntKind.i64 (Int.ofNat 0), Sh.i IntKind.i64 (Int.ofNat 0), Sh.i IntKind.i64 (Int.ofNat 2), Sh.i IntKind.i64 (Int.ofNat 0), Sh.i IntKind.i64 (Int.ofNat 0), Sh.i IntKind.i64 (Int.ofNat 0)], [Sh.i IntKind.i64 (Int.ofNat 3), Sh.i IntKind.i64 (Int.ofNat 1), Sh.i IntKind.i64 (Int.ofNat 0), Sh.i IntKind.i64 (Int.ofNat 0), Sh.i IntKind.i64 (Int.ofNat 0), Sh.i IntKind.i64 (Int.ofNat 0), Sh.i IntKind.i64 (Int.ofNat 0), Sh.i IntKind.i64 (Int.ofNat 1)]])) (Sh.sl 8 2 (nthL [[Sh.i IntKind.i64 (Int.ofNat 1), Sh.i IntKind.i64 (Int.ofNat 1), Sh.i IntKind.i64 (Int.ofNat 0), Sh.i IntKind.i64 (Int.ofNat 0), Sh.i IntKind.i64 (Int.ofNat 0), Sh.i IntKind.i64 (Int.ofNat 0), Sh.i IntKind.i64 (Int.ofNat 0), Sh.i IntKind.i64 (Int.ofNat 0)], [Sh.i IntKind.i64 (Int.ofNat 1), Sh.i IntKind.i64 (Int.ofNat 2), Sh.i IntKind.i64 (Int.ofNat 1), Sh.i IntKind.i64 (Int.ofNat 0), Sh.i IntKind.i64 (Int.ofNat 0), Sh.i IntKind.i64 (Int.ofNat 0), Sh.i IntKind.i64 (Int.ofNat 0), Sh.i IntKind.i64 (Int.ofNat 0)], [Sh.i IntKind.i64 (Int.ofNat 2), Sh.i IntKind.i64 (Int.ofNat 1), Sh.i IntKind.i64 (Int.ofNat 0), Sh.i IntKind.i64 (Int.ofNat 0), Sh.i IntKind.i64 (Int.ofNat 2), Sh.i IntKind.i64 (Int.ofNat 0), Sh.i IntKind.i64 (Int.ofNat 0), Sh.i IntKind.i64 (Int.ofNat 0)], [Sh.i IntKind.i64 (Int.ofNat 3), Sh.i IntKind.i64 (Int.ofNat 1), Sh.i IntKind.i64 (Int.ofNat 0), Sh.i IntKind.i64 (Int.ofNat 0), Sh.i IntKind.i64 (Int.ofNat 0), Sh.i IntKind.i64 (Int.ofNat 0), Sh.i IntKind.i64 (Int.ofNat 0), Sh.i IntKind.i64 (Int.ofNat 1)]])), Eqn.nat 2 2, Eqn.fun_ (prim.snoc (nthL []) 0 (nthL [[Sh.i IntKind.i64 (Int.ofNat 1), Sh.i IntKind.i64 (Int.ofNat 1), Sh.i IntKind.i64 (Int.ofNat 0), Sh.i IntKind.i64 (Int.ofNat 0), Sh.i IntKind.i64 (Int.ofNat 0), Sh.i IntKind.i64 (Int.ofNat 0), Sh.i IntKind.i64 (Int.ofNat 0), Sh.i IntKind.i64 (Int.ofNat 0)], [Sh.i IntKind.i64 (Int.ofNat 1), Sh.i IntKind.i64 (Int.ofNat 2), Sh.i IntKind.i64 (Int.ofNat 1), Sh.i IntKind.i64 (Int.ofNat 0), Sh.i IntKind.i64 (Int.ofNat 0), Sh.i IntKind.i64 (Int.ofNat 0), Sh.i IntKind.i64 (Int.ofNat 0), Sh.i IntKind.i64 (Int.ofNat 0)], [Sh.i IntKind.i64 (Int.ofNat 2), Sh.i IntKind.i64 (Int.ofNat 1), Sh.i IntKind.i64 (Int.ofNat 0), Sh.i IntKind.i64 (Int.ofNat 0), Sh.i IntKind.i64 (Int.ofNat 2), Sh.i IntKind.i64 (Int.ofNat 0), Sh.i IntKind.i64 (Int.ofNat 0), Sh.i IntKind.i64 (Int.ofNat 0)], [Sh.i IntKind.i64 (Int.ofNat 3), Sh.i IntKind.i64 (Int.ofNat 1), Sh.i IntKind.i64 (Int.ofNat 0), Sh.i IntKind.i64 (Int.ofNat 0), Sh.i IntKind.i64 (Int.ofNat 0), Sh.i IntKind.i64 (Int.ofNat 0), Sh.i IntKind.i64 (Int.ofNat 0), Sh.i IntKind.i64 (Int.ofNat 1)]])) (prim.snoc (nthL []) 0 (nthL [[Sh.i IntKind.i64 (Int.ofNat 1), Sh.i IntKind.i64 (Int.ofNat 1), Sh.i IntKind.i64 (Int.ofNat 0), Sh.i IntKind.i64 (Int.ofNat 0), Sh.i IntKind.i64 (Int.ofNat 0), Sh.i IntKind.i64 (Int.ofNat 0), Sh.i IntKind.i64 (Int.ofNat 0), Sh.i IntKind.i64 (Int.ofNat 0)], [Sh.i IntKind.i64 (Int.ofNat 1), Sh.i IntKind.i64 (Int.ofNat 2), Sh.i IntKind.i64 (Int.ofNat 1), Sh.i IntKind.i64 (Int.ofNat 0), Sh.i IntKind.i64 (Int.ofNat 0), Sh.i IntKind.i64 (Int.ofNat 0), Sh.i IntKind.i64 (Int.ofNat 0), Sh.i IntKind.i64 (Int.ofNat 0)], [Sh.i IntKind.i64 (Int.ofNat 2), Sh.i IntKind.i64 (Int.ofNat 1), Sh.i IntKind.i64 (Int.ofNat 0), Sh.i IntKind.i64 (Int.ofNat 0), Sh.i IntKind.i64 (Int.ofNat 2), Sh.i IntKind.i64 (Int.ofNat 0), Sh.i IntKind.i64 (Int.ofNat 0), Sh.i IntKind.i64 (Int.ofNat 0)], [Sh.i IntKind.i64 (Int.ofNat 3), Sh.i IntKind.i64 (Int.ofNat 1), Sh.i IntKind.i64 (Int.ofNat 0), Sh.i IntKind.i64 (Int.ofNat 0), Sh.i IntKind.i64 (Int.ofNat 0), Sh.i IntKind.i64 (Int.ofNat 0), Sh.i IntKind.i64 (Int.ofNat 0), Sh.i IntKind.i64 (Int.ofNat 1)]]))], Fe2.ret (Sh.b true)) := by kernel_rfl
end Go.Proofs
namespace Go.Proofs
open Go Go.Sx Go.Pl
theorem O8s : ∀ g F, spec8 g = some F → FnOK Tryd.prog (gls5 W5) g F := fun g F h => by
  unfold spec8 at h
  split at h
  · cases h; exact O32c
  · cases h; exact O34c
  · cases h
theorem C8ok : CtxOK Tryd.prog C8 := by
  have h := C5.ok spec8 unroll
  exact ⟨h.1, h.2, h.3, h.4, h.5, h.6⟩
theorem C8f : FnsOK Tryd.prog C8 := by
  have h := C5.fok (stop := unroll) O8s fun g h => by
    unfold spec8 at h
    split at h
    all_goals first | (cases h; done) | kernel_rfl
  exact ⟨h.1, h.2⟩
def F8 : List Sh → Tree Sh
  | [] => .leaf (.b true)
  | _ => .fail
set_option maxRecDepth 100000 in
theorem O8 : FnOK Tryd.prog (gls5 W5) 8 F8 := by
  refine fnOK_S (C := C8) C8ok (fn := Tryd.f8) (by kernel_rfl) (by kernel_rfl) fun H w shs args φ hrep h => ?_
  have hn : Tryd.f8.ntmps = 84 := by kernel_rfl
  unfold F8 at h
  split at h
  · refine ⟨[], hrep, L0, ?_⟩
    refine goesS_runToM C8ok C8f (hold := noHold) (m := 600) (n := 3000) (ts := []) ?_
    rw [hn]
    refine way_fin w8 ?_ h
    repeat' (first | exact trivial | refine ⟨rfl, ?_⟩)
  · exact h.elim
end Go.Proofs
namespace Go.Proofs
open Go Go.Sx Go.Pl

theorem a67 (A : Prim) (W : Wd) (x y : Int) : runF (C5 A W noSpec unroll) 300 67 [.code []] (start0 36 [.i .i64 x, .i .i64 y] L0) = Tree.node (A.eq x (Int.ofNat 2)) (Tree.leaf (Fin.ret (Sh.b (A.eq y (Int.ofNat 1))))) (Tree.node (A.eq x (Int.ofNat 3)) (Tree.leaf (Fin.ret (Sh.b (A.eq y (Int.ofNat 1))))) (Tree.node (A.eq x (Int.ofNat 5)) (Tree.leaf (Fin.ret (Sh.b (A.eq y (Int.ofNat 1))))) (Tree.node (A.eq x (Int.ofNat 7)) (Tree.leaf (Fin.ret (Sh.b (A.eq y (Int.ofNat 1))))) (Tree.node (A.eq x (Int.ofNat 1)) (Tree.leaf (Fin.ret (Sh.b (A.eq y (Int.ofNat 3))))) (Tree.node (A.eq x (Int.ofNat 4)) (Tree.leaf (Fin.ret (Sh.b (A.eq y (Int.ofNat 3))))) (Tree.node (A.eq x (Int.ofNat 6)) (Tree.node (A.eq y (Int.ofNat 2)) (Tree.leaf (Fin.ret (Sh.b true))) (Tree.leaf (Fin.ret (Sh.b (A.eq y (Int.ofNat 3)))))) (Tree.node (A.eq x (Int.ofNat 8)) (Tree.node (A.eq y (Int.ofNat 2)) (Tree.leaf (Fin.ret (Sh.b true))) (Tree.leaf (Fin.ret (Sh.b (A.eq y (Int.ofNat 3)))))) (Tree.node (A.eq x (Int.ofNat 9)) (Tree.node (A.eq y (Int.ofNat 2)) (Tree.leaf (Fin.ret (Sh.b true))) (Tree.leaf (Fin.ret (Sh.b (A.eq y (Int.ofNat 3)))))) (Tree.leaf (Fin.ret (Sh.b false))))))))))) := by kernel_rfl
end Go.Proofs
namespace Go.Pl
open Go Go.Sx
def fitsB (x y : Int) : Bool :=
  bif x == 2 then y == 1 else bif x == 3 then y == 1 else bif x == 5 then y == 1 else bif x == 7 then y == 1 else bif x == 1 then y == 3 else bif x == 4 then y == 3 else
  bif x == 6 then (bif y == 2 then true else y == 3) else bif x == 8 then (bif y == 2 then true else y == 3) else bif x == 9 then (bif y == 2 then true else y == 3) else false
end Go.Pl
namespace Go.Proofs
open Go Go.Sx Go.Pl
theorem bif_allb {ψ : Bool → Prop} {b x y : Bool} (h : ψ (bif b then x else y)) : (b = true → ψ x) ∧ (b = false → ψ y) := by
  cases b
  · exact ⟨fun q => (by cases q), fun _ => h⟩
  · exact ⟨fun _ => h, fun q => by cases q⟩
def F67 : List Sh → Tree Sh
  | [s, t] => match icode s with
    | some x => match icode t with
      | some y => .leaf (.b (fitsB x y))
      | none => .fail
    | none => .fail
  | _ => .fail
theorem O67 : FnOK Tryd.prog (gls5 W5) 67 F67 := by
  refine fnOK_run (C := C5 prim W5 noSpec unroll) (C5.ok _ _) (fok0 _) (n := 300) (L := L0) (fn := Tryd.f67) (by kernel_rfl) (by kernel_rfl) fun H w shs args φ hrep h => ?_
  have hn : Tryd.f67.ntmps = 36 := by kernel_rfl
  unfold F67 at h
  split at h
  · rename_i s t
    split at h
    · rename_i x hx
      split at h
      · rename_i y hy
        match args, hrep with
        | [u, v], ⟨hu, hv, _⟩ =>
          refine ⟨[.i .i64 x, .i .i64 y], ⟨icode_ok hx hu, icode_ok hy hv, trivial⟩, ?_⟩
          rw [hn, a67 prim W5 x y, meets_eq]
          have h : φ (.b (fitsB x y)) := h
          have r : ∀ {b : Bool} {c d : Bool}, φ (.b (bif b then c else d)) → (b = true → φ (.b c)) ∧ (b = false → φ (.b d)) := fun h => bif_allb (ψ := fun b => φ (.b b)) h
          rw [← meets_eq]
          have h1 := r h
          refine ⟨h1.1, fun q => ?_⟩
          have h1 := r (h1.2 q)
          refine ⟨h1.1, fun q => ?_⟩
          have h1 := r (h1.2 q)
          refine ⟨h1.1, fun q => ?_⟩
          have h1 := r (h1.2 q)
          refine ⟨h1.1, fun q => ?_⟩
          have h1 := r (h1.2 q)
          refine ⟨h1.1, fun q => ?_⟩
          have h1 := r (h1.2 q)
          refine ⟨h1.1, fun q => ?_⟩
          have h1 := r (h1.2 q)
          refine ⟨fun q => r (h1.1 q), fun q => ?_⟩
          have h1 := r (h1.2 q)
          refine ⟨fun q => r (h1.1 q), fun q => ?_⟩
          have h1 := r (h1.2 q)
          exact ⟨fun q => r (h1.1 q), h1.2⟩
      · exact h.elim
    · exact h.elim
  · exact h.elim
end Go.Proofs
namespace Go.Sx
/-- What a run ends with: its result, the memory as far as the first id reaches. -/
def outD : Out → Tree (SV × List (Nat × SB))
  | .done v c => let live := reach c.hp 4000 [0] []; .leaf (v, dropKey (fun i => !live.contains i) c.hp)
  | .stop _ _ _ => .fail
section
variable {P : Program} {C : Ctx} {H H' : Mem} {E E' : Env} {w w' : World}
/-- The blocks that the ids own. -/
def ownOf (E : Env) (hp : List (Nat × SB)) : Nat → Prop := fun b => ∃ id sb, look? hp id = some sb ∧ obk E id sb = some b
theorem heapOK_drop {K : Kx} {hp : List (Nat × SB)} (p : Nat → Bool) (h : HeapOK K H E w hp) : HeapOK K H E w (dropKey p hp) := by
  have key : ∀ {i : Nat} {sb : SB}, look? (dropKey p hp) i = some sb → look? hp i = some sb := fun {i sb} hl => by
    rw [look_dropKey] at hl
    cases hp' : p i <;> simp only [hp', cond_true, cond_false] at hl
    · exact hl
    · cases hl
  exact ⟨fun id sb hl => h.ent id sb (key hl), fun id id' sb sb' b l1 l2 o1 o2 => h.dis id id' sb sb' b (key l1) (key l2) o1 o2⟩
/-- All, not to be unfolded. -/
@[irreducible] def MeetsD (ψ : SV × List (Nat × SB) → Prop) (t : Tree (SV × List (Nat × SB))) : Prop := t.All ψ
theorem meetsD_eq (ψ : SV × List (Nat × SB) → Prop) (t : Tree (SV × List (Nat × SB))) : MeetsD ψ t = t.All ψ := by unfold MeetsD; rfl
theorem calls_run (hC : CtxOK P C) (hF : FnsOK P C) {n g : Nat} {fn : Func} {c : Core} {args : Array Value} {φ : SV × List (Nat × SB) → Prop} (hfn : C.fns.get g = some fn) (hb : fn.body.isSome = true)
    (hd : DenL H E c.tm (args ++ Array.replicate (fn.ntmps - args.size) undef).toList) (hh : HeapOK ⟨w, ownOf E c.hp, H⟩ H E w c.hp) (hon : H.on w) (hfree : Free E c) (hg : GlobOK C.gls H)
    (h : MeetsD φ ((run C n true g [.code []] c).bind outD)) :
    Calls P g args w fun e w' => ∃ v sv hp' H' E', e = .returned v ∧ φ (sv, hp') ∧ Den H' E' sv v ∧ HeapOK ⟨w, ownOf E c.hp, H⟩ H' E' w' hp' ∧ WOK ⟨w, ownOf E c.hp, H⟩ H' w' ∧ H.le H' ∧ E.le E' := by
  rw [meetsD_eq] at h
  intro cs
  obtain ⟨body, hbody⟩ := Option.isSome_iff_exists.1 hb
  have hP := hC.fn g fn hfn
  let b : Frame := { (default : Frame) with fn := g, kind := .normal }
  let a : Act := { tmps := args ++ Array.replicate (fn.ntmps - args.size) undef, defers := [] }
  have henter : Frame.enter P g args .normal = b.at a [.code body] := by
    simp [Frame.enter, Frame.at, hP, hbody, b, a]
  have st : St C ⟨w, ownOf E c.hp, H⟩ H E w c a :=
    ⟨hd, hh, ⟨rfl, rfl, rfl, Nat.le_refl _, fun _ _ _ => rfl, hon, fun _ _ h => h, fun _ h => .inl h⟩, hfree, hg, rfl⟩
  have hit : ItOK (bodyOf fn) [.code []] [.code body] := by
    have := ItOK.code (body := bodyOf fn) [] ItOK.nil
    have he : codeAt (bodyOf fn) [] = body := by simp [codeAt, bodyOf, hbody]
    rwa [he] at this
  obtain ⟨out, h1, h2⟩ := run_ok hC hF n true g [.code []] c H E w a fn [.code body] _ hfn (Tree.All_bind h) st hit b cs
  cases out with
  | stop g' td' c' => exact h1.elim
  | done sv c' =>
    obtain ⟨a', w', H', E', v, todo, q1, q2, q3, q4, q5⟩ := h2
    exact ⟨.returned v, w', _, ⟨v, sv, _, H', E', rfl, h1, q4, heapOK_drop _ q2.hp, q2.wok, q3.Hle, q3.Ele⟩, by rw [henter]; exact q1, rfl, rfl, q2.defers, rfl, fn, hP, q5⟩
end
end Go.Sx
namespace Go.Sx
/-- A run that pauses. -/
def pausesB (pause : List Nat → Bool) : List It → Bool
  | .code p :: _ => pause p
  | _ => false
def runP (C : Ctx) (m : Nat) (pause : List Nat → Bool) : Nat → Nat → List It → Core → Tree Out
  | 0, g, td, c => .leaf (.stop g td c)
  | n + 1, g, td, c => bif pausesB pause td then .leaf (.stop g td c) else
    match C.fns.get g with
    | none => .fail
    | some fn => (stepR C (callWith C (run C m false)) true g fn td c).bind fun s => match s with
      | .go td c => runP C m pause n g td c
      | .done v c => .leaf (.done v c)
      | .halt td c => .leaf (.stop g td c)
inductive OutE where
  | fin (v : SV) (hp : List (Nat × SB))
  | stop (td : List It) (c : Core)
def outE : Out → Tree OutE
  | .done v c => let live := reach c.hp 4000 [0] []; .leaf (.fin v (dropKey (fun i => !live.contains i) c.hp))
  | .stop _ td c => .leaf (.stop td c)
section
variable {P : Program} {C : Ctx} {K : Kx} {H H' : Mem} {E E' E0 : Env} {w w' : World}
/-- From here on the function ends with a result and memory that meet φ. -/
def GoesD (P : Program) (C : Ctx) (K : Kx) (E0 : Env) (fn : Func) (td : List It) (c : Core) (φ : SV × List (Nat × SB) → Prop) : Prop :=
  ∀ (H : Mem) (E : Env) (w : World) (a : Act) (items : List Item) (b : Frame) (cs : List Frame), E0.le E → St C K H E w c a → ItOK (bodyOf fn) td items →
    ∃ (a' : Act) (w' : World) (v : Value) (sv : SV) (hp' : List (Nat × SB)) (H' : Mem) (E' : Env) (todo : List Item), Steps P (lone (b.at a items) cs w) (lone { b.at a' todo with mode := .returning } cs w') ∧ a'.defers = [] ∧
      φ (sv, hp') ∧ Den H' E' sv v ∧ HeapOK K H' E' w' hp' ∧ WOK K H' w' ∧ E0.le E' ∧ (results fn a'.tmps).run P w' = .ok v w'
def OutEOK (P : Program) (C : Ctx) (K : Kx) (E0 : Env) (fn : Func) (φ : SV × List (Nat × SB) → Prop) : OutE → Prop
  | .fin v hp => φ (v, hp)
  | .stop td c => GoesD P C K E0 fn td c φ
/-- All, not to be unfolded. -/
@[irreducible] def MeetsP (ψ : OutE → Prop) (t : Tree OutE) : Prop := t.All ψ
theorem meetsP_eq (ψ : OutE → Prop) (t : Tree OutE) : MeetsP ψ t = t.All ψ := by unfold MeetsP; rfl
theorem Tree.All_unbind {α β : Type} {φ : β → Prop} {k : α → Tree β} : ∀ {t : Tree α}, t.All (fun a => (k a).All φ) → (t.bind k).All φ
  | .leaf _, h => h
  | .node _ _ _, h => ⟨fun e => Tree.All_unbind (h.1 e), fun e => Tree.All_unbind (h.2 e)⟩
  | .need _ _, h => ⟨h.1, Tree.All_unbind h.2⟩
  | .must _ _, h => ⟨h.1, Tree.All_unbind h.2⟩
  | .both _ _, h => ⟨Tree.All_unbind h.1, Tree.All_unbind h.2⟩
  | .fail, h => h.elim
theorem env_trans {A B D : Env} (h1 : A.le B) (h2 : B.le D) : A.le D := fun i v h => h2 i v (h1 i v h)
theorem goesD_run' (hC : CtxOK P C) (hF : FnsOK P C) {m g : Nat} {fn : Func} {pause : List Nat → Bool} {φ : SV × List (Nat × SB) → Prop} (hfn : C.fns.get g = some fn) :
    ∀ (n : Nat) (td : List It) (c : Core), ((runP C m pause n g td c).bind outE).All (OutEOK P C K E0 fn φ) → GoesD P C K E0 fn td c φ
  | 0, td, c, h => h
  | n + 1, td, c, h => by
    unfold runP at h
    cases hp : pausesB pause td <;> simp only [hp, cond_true, cond_false] at h
    rotate_left
    · exact h
    rw [hfn] at h
    simp only at h
    intro H E w a items b cs hE st hi
    obtain ⟨sig, h1, h2⟩ := stepR_ok hC hF (call_hyp hC hF (run_ok hC hF m)) (Tree.All_bind (Tree.All_bind h)) st hi b cs
    cases sig with
    | go td' c' =>
      obtain ⟨a', w', H', E', items', q1, q2, q3, q4⟩ := h2
      obtain ⟨a2, w2, v, sv, hp', H2, E2, todo, r1, r2⟩ := goesD_run' hC hF hfn n td' c' (Tree.All_unbind h1) H' E' w' a' items' b cs (env_trans hE q3.Ele) q2 q4
      exact ⟨a2, w2, v, sv, hp', H2, E2, todo, q1.trans r1, r2⟩
    | done sv c' =>
      obtain ⟨a', w', H', E', v, todo, q1, q2, q3, q4, q5⟩ := h2
      exact ⟨a', w', v, sv, _, H', E', todo, q1, q2.defers, h1, q4, heapOK_drop _ q2.hp, q2.wok, env_trans hE q3.Ele, q5⟩
    | halt td' c' =>
      obtain ⟨a', w', H', E', items', q1, q2, q3, q4⟩ := h2
      obtain ⟨a2, w2, v, sv, hp', H2, E2, todo, r1, r2⟩ := h1 H' E' w' a' items' b cs (env_trans hE q3.Ele) q2 q4
      exact ⟨a2, w2, v, sv, hp', H2, E2, todo, q1.trans r1, r2⟩
end
end Go.Sx

/-! Where a run ends: which state that is told of it comes to. -/
namespace Go.Sx
def qF (hp : List (Nat × SB)) (ρ : List (Nat × Rn)) : List (Int × Bool × SV) → List (Int × Bool × SV) → Option (List Eqn)
  | [], [] => some []
  | (n, p, x) :: l, (n', p', x') :: l' => iff2 (p == p') (app2 (some [.int n n']) (app2 (bif p' then qS hp ρ x x' else some []) (qF hp ρ l l')))
  | _, _ => none
def qB2 (hp : List (Nat × SB)) (ρ : List (Nat × Rn)) (id' : Nat) : SB → Option (List Eqn)
  | .fm k' M' fs' us' tg' => match look? ρ id' with
    | some (.id id) => match look? hp id with
      | some (.fm k M fs us _) => iff2 (k == k' && tg'.isNone) (app2 (some [.mp M M']) (app2 (qF hp ρ fs fs') (qF hp ρ us us')))
      | _ => none
    | _ => none
  | .ownx e' st' n' g' more' => match look? ρ id' with
    | some (.id id) => match look? hp id with
      | some (.ownx e st n g more) => iff2 (e == e' && st == st' && more.length == more'.length && oneL more') (app2 (some [.nat n n', .get n g g']) (qL hp ρ more more'))
      | _ => none
    | _ => none
  | sb => qB hp ρ id' sb
def qH2 (hp : List (Nat × SB)) (ρ : List (Nat × Rn)) : List (Nat × SB) → Option (List Eqn)
  | [] => some []
  | (id', sb) :: l => app2 (qB2 hp ρ id' sb) (qH2 hp ρ l)
def collFa : List (Int × Bool × SV) → List (Int × Bool × SV) → List (Nat × Rn)
  | (_, true, x) :: l, (_, true, y) :: m => coll x y ++ collFa l m
  | _ :: l, _ :: m => collFa l m
  | _, _ => []
def collB2 : Option SB → Option SB → List (Nat × Rn)
  | some (.fm _ _ fs us _), some (.fm _ _ gs vs _) => collFa fs gs ++ collFa us vs
  | some (.ownx _ _ _ _ l), some (.ownx _ _ _ _ m) => collL l m
  | a, b => collB a b
def infer2 (hp' hp : List (Nat × SB)) : Nat → List (Nat × Rn) → List (Nat × Rn) → List (Nat × Rn)
  | 0, _, acc => acc
  | _, [], acc => acc
  | n + 1, (i, r) :: t, acc => match look? acc i with
    | some _ => infer2 hp' hp n t acc
    | none => match r with
      | .id j => infer2 hp' hp n (collB2 (look? hp' i) (look? hp j) ++ t) ((i, r) :: acc)
      | .nil => infer2 hp' hp n t ((i, r) :: acc)
/-- What memory is to be; which ids are to be the same. -/
structure TgE where
  hp : List (Nat × SB)
  keep : List Nat
def TgE.rn (t : TgE) (hp : List (Nat × SB)) : List (Nat × Rn) := infer2 t.hp hp 4000 (t.keep.map fun i => (i, .id i)) []
def qEnd (hp : List (Nat × SB)) (t : TgE) : Option (List Eqn) := iff2 (noDup (rnIds (t.rn hp)) && t.keep.all fun i => isRn (look? (t.rn hp) i) i) (qH2 hp (t.rn hp) t.hp)
def endT (v : SV) (hp : List (Nat × SB)) : Nat → List TgE → Tree (SV × Nat × List Eqn)
  | _, [] => .fail
  | k, t :: r => match qEnd hp t with
    | some l => .leaf (v, k, l)
    | none => endT v hp (k + 1) r
def toEnd (ts : List TgE) : Out → Tree (SV × Nat × List Eqn)
  | .done v c => endT v c.hp 0 ts
  | .stop _ _ _ => .fail
/-- What is to hold where a run ends. -/
def EndOK (ts : List TgE) (φ : SV → Nat → Prop) : SV × Nat × List Eqn → Prop
  | (v, k, l) => Eqn.all l ∧ φ v k
@[irreducible] def MeetsN (ψ : SV × Nat × List Eqn → Prop) (t : Tree (SV × Nat × List Eqn)) : Prop := t.All ψ
theorem meetsN_eq (ψ : SV × Nat × List Eqn → Prop) (t : Tree (SV × Nat × List Eqn)) : MeetsN ψ t = t.All ψ := by unfold MeetsN; rfl
section
variable {P : Program} {C : Ctx} {K : Kx} {H H' : Mem} {E E' : Env} {w w' : World} {hp : List (Nat × SB)} {ρ : List (Nat × Rn)}
theorem qF_den (hh : HeapOK K H E w hp) : ∀ {l l' : List (Int × Bool × SV)} {q : List Eqn} {r : List (Int × Option Value)}, qF hp ρ l l' = some q → Eqn.all q → DenF H E l r → DenF H (rnEnv ρ E) l' r
  | [], [], _, [], _, _, _ => trivial
  | (n, p, x) :: l, (n', p', x') :: l', q, (k, o) :: r, hq, ha, ⟨h1, h2, h3⟩ => by
    simp only [qF] at hq
    obtain ⟨hp', hq⟩ := iff2_some hq
    obtain ⟨a, b, e1, e2, rfl⟩ := app2_some hq
    obtain ⟨c, d, e3, e4, rfl⟩ := app2_some e2
    cases e1
    have hpp : p = p' := by simpa using hp'
    subst hpp
    obtain ⟨hn, ha⟩ := ha
    have hn : n = n' := hn
    subst hn
    have ha2 := Eqn.all_app (show Eqn.all (c ++ d) from ha)
    refine ⟨h1, ?_, qF_den hh e4 ha2.2 h3⟩
    cases p with
    | true =>
      cases o with
      | none => exact h2
      | some v => exact ⟨leS_den hh _ (qS_ok _ e3 ha2.1) h2.1, h2.2⟩
    | false =>
      cases o with
      | none => exact h2
      | some v => exact h2
  | [], _ :: _, _, _, h, _, _ => by simp [qF] at h
  | _ :: _, [], _, _, h, _, _ => by simp [qF] at h
  | _ :: _, _ :: _, _, [], _, _, h => h.elim
  | [], [], _, _ :: _, _, _, h => h.elim
theorem qB2_ok (hh : HeapOK K H E w hp) {id' : Nat} {sb : SB} {q : List Eqn} (hq : qB2 hp ρ id' sb = some q) (ha : Eqn.all q) :
    Ent K H (rnEnv ρ E) w id' sb ∧ ∀ b, obk (rnEnv ρ E) id' sb = some b → ∃ id s0, look? ρ id' = some (.id id) ∧ look? hp id = some s0 ∧ obk E id s0 = some b := by
  unfold qB2 at hq
  split at hq
  · rename_i k' M' fs' us' tg'
    split at hq
    · rename_i id hr
      split at hq
      · rename_i k M fs us tg hl
        obtain ⟨hk, hq⟩ := iff2_some hq
        obtain ⟨a, b, e1, e2, rfl⟩ := app2_some hq
        obtain ⟨c, d, e3, e4, rfl⟩ := app2_some e2
        cases e1
        simp only [Bool.and_eq_true, beq_iff_eq, Option.isNone_iff_eq_none] at hk
        obtain ⟨rfl, rfl⟩ := hk
        obtain ⟨hM, ha⟩ := ha
        have hM : M = M' := hM
        subst hM
        have ha2 := Eqn.all_app (show Eqn.all (c ++ d) from ha)
        obtain ⟨b, ms, clk, fv, uv, he, h1, h2, h3, h4, h5, h6, h7⟩ := hh.ent _ _ hl
        refine ⟨⟨b, ms, clk, fv, uv, by rw [rnEnv_id hr]; exact he, h1, qF_den hh e3 ha2.1 h2, qF_den hh e4 ha2.2 h3, h4, h5, trivial, h7⟩, fun b' hb => ⟨id, _, hr, hl, ?_⟩⟩
        simp only [obk, rnEnv_id hr] at hb ⊢; exact hb
      · cases hq
    · cases hq
  · rename_i e' st' n' g' more'
    split at hq
    · rename_i id hr
      split at hq
      · rename_i e st n g more hl
        obtain ⟨hk, hq⟩ := iff2_some hq
        obtain ⟨a, b, e1, e2, rfl⟩ := app2_some hq
        cases e1
        simp only [Bool.and_eq_true, beq_iff_eq] at hk
        obtain ⟨⟨⟨rfl, rfl⟩, hlen⟩, hone⟩ := hk
        obtain ⟨hn, hg, ha⟩ := ha
        have hn : n = n' := hn
        subst hn
        have hg : ∀ i, i < n → g i = g' i := hg
        obtain ⟨v, xs, ys, he, h1, h2, h3, h4, h5, h6⟩ := hh.ent _ _ hl
        refine ⟨⟨v, xs, ys, by rw [rnEnv_id hr]; exact he, by rw [← hlen]; exact h1, rows_congr h2 hg, leL_den hh _ (qL_ok _ e2 ha) h3, by rw [← hlen]; exact h4, hone, h6⟩, fun b' hb => ⟨id, _, hr, hl, ?_⟩⟩
        simp only [obk, rnEnv_id hr] at hb ⊢; exact hb
      · cases hq
    · cases hq
  · exact leB_ok hh (qB_ok hq ha)
theorem qH2_at : ∀ {l : List (Nat × SB)} {q : List Eqn} {i : Nat} {sb : SB}, qH2 hp ρ l = some q → Eqn.all q → look? l i = some sb → ∃ q', qB2 hp ρ i sb = some q' ∧ Eqn.all q'
  | [], _, _, _, _, _, h => by simp [look?] at h
  | (j, x) :: l, q, i, sb, hq, ha, h => by
    simp only [qH2] at hq
    obtain ⟨a, b, e1, e2, rfl⟩ := app2_some hq
    simp only [look?] at h
    cases hj : (j == i) <;> simp only [hj, cond_true, cond_false] at h
    · exact qH2_at e2 (Eqn.all_app ha).2 h
    · cases h
      obtain rfl : j = i := by simpa using hj
      exact ⟨a, e1, (Eqn.all_app ha).1⟩
/-- Memory is as it is told. -/
theorem qEnd_ok (hh : HeapOK K H E w hp) {t : TgE} {q : List Eqn} (hq : qEnd hp t = some q) (ha : Eqn.all q) : ∃ E', HeapOK K H E' w t.hp ∧ ∀ i ∈ t.keep, E' i = E i := by
  unfold qEnd at hq
  obtain ⟨h1, h2⟩ := iff2_some hq
  simp only [Bool.and_eq_true, List.all_eq_true] at h1
  refine ⟨rnEnv (t.rn hp) E, ⟨fun id sb hl => ?_, fun id id' sb sb' b l1 l2 o1 o2 => ?_⟩, fun i hi => rnEnv_id (isRn_ok (h1.2 i hi))⟩
  · obtain ⟨q', e1, e2⟩ := qH2_at h2 ha hl
    exact (qB2_ok hh e1 e2).1
  · obtain ⟨q1, e1, e2⟩ := qH2_at h2 ha l1
    obtain ⟨q2, e3, e4⟩ := qH2_at h2 ha l2
    obtain ⟨i1, s1, a1, a2, a3⟩ := (qB2_ok hh e1 e2).2 b o1
    obtain ⟨i2, s2, b1, b2, b3⟩ := (qB2_ok hh e3 e4).2 b o2
    have := hh.dis _ _ _ _ _ a2 b2 a3 b3
    subst this
    exact rn_inj h1.1 a1 b1
theorem endT_ok {v : SV} {φ : SV → Nat → Prop} {ts : List TgE} : ∀ {r : List TgE} {k : Nat}, (∀ j, r[j]? = ts[k + j]?) → (endT v hp k r).All (EndOK ts φ) → ∃ j t q, ts[j]? = some t ∧ qEnd hp t = some q ∧ Eqn.all q ∧ φ v j
  | [], _, _, h => h.elim
  | t :: r, k, hk, h => by
    unfold endT at h
    split at h
    · rename_i l hl
      have := hk 0
      simp only [List.getElem?_cons_zero, Nat.add_zero] at this
      exact ⟨k, t, l, this.symm, hl, h.1, h.2⟩
    · exact endT_ok (fun j => by have := hk (j + 1); simp only [List.getElem?_cons_succ] at this; rw [this]; congr 1; omega) h
theorem calls_end (hC : CtxOK P C) (hF : FnsOK P C) {n g : Nat} {fn : Func} {c : Core} {args : Array Value} {ts : List TgE} {φ : SV → Nat → Prop} (hfn : C.fns.get g = some fn) (hb : fn.body.isSome = true)
    (hd : DenL H E c.tm (args ++ Array.replicate (fn.ntmps - args.size) undef).toList) (hh : HeapOK ⟨w, ownOf E c.hp, H⟩ H E w c.hp) (hon : H.on w) (hfree : Free E c) (hg : GlobOK C.gls H)
    (h : MeetsN (EndOK ts φ) ((run C n true g [.code []] c).bind (toEnd ts))) :
    Calls P g args w fun e w' => ∃ v sv k t H' E1 E', e = .returned v ∧ φ sv k ∧ ts[k]? = some t ∧ Den H' E1 sv v ∧ HeapOK ⟨w, ownOf E c.hp, H⟩ H' E' w' t.hp ∧ WOK ⟨w, ownOf E c.hp, H⟩ H' w' ∧ H.le H' ∧ ∀ i ∈ t.keep, ∀ u, E i = some u → E' i = some u := by
  rw [meetsN_eq] at h
  intro cs
  obtain ⟨body, hbody⟩ := Option.isSome_iff_exists.1 hb
  have hP := hC.fn g fn hfn
  let b : Frame := { (default : Frame) with fn := g, kind := .normal }
  let a : Act := { tmps := args ++ Array.replicate (fn.ntmps - args.size) undef, defers := [] }
  have henter : Frame.enter P g args .normal = b.at a [.code body] := by
    simp [Frame.enter, Frame.at, hP, hbody, b, a]
  have st : St C ⟨w, ownOf E c.hp, H⟩ H E w c a :=
    ⟨hd, hh, ⟨rfl, rfl, rfl, Nat.le_refl _, fun _ _ _ => rfl, hon, fun _ _ h => h, fun _ h => .inl h⟩, hfree, hg, rfl⟩
  have hit : ItOK (bodyOf fn) [.code []] [.code body] := by
    have := ItOK.code (body := bodyOf fn) [] ItOK.nil
    have he : codeAt (bodyOf fn) [] = body := by simp [codeAt, bodyOf, hbody]
    rwa [he] at this
  obtain ⟨out, h1, h2⟩ := run_ok hC hF n true g [.code []] c H E w a fn [.code body] _ hfn (Tree.All_bind h) st hit b cs
  cases out with
  | stop g' td' c' => exact h1.elim
  | done sv c' =>
    obtain ⟨a', w', H', E', v, todo, q1, q2, q3, q4, q5⟩ := h2
    obtain ⟨k, t, q, r1, r2, r3, r4⟩ := endT_ok (ts := ts) (k := 0) (fun j => by simp) h1
    obtain ⟨E2, r5, r6⟩ := qEnd_ok q2.hp r2 r3
    exact ⟨.returned v, w', _, ⟨v, sv, k, t, H', E', E2, rfl, r4, r1, q4, r5, q2.wok, q3.Hle, fun i hi u hu => by rw [r6 i hi]; exact q3.Ele i u hu⟩, by rw [henter]; exact q1, rfl, rfl, q2.defers, rfl, fn, hP, q5⟩
end
end Go.Sx
