/-
  Chapter 7: the law StoreLists answers true. Own work. From the readings of a row to the shapes of the executor: ints, flat structs of ints, slices of them, the listed variables; and back: the row's post. Own work. The listed variables, as the executor's globals. Own work. Chapter 7: the listed variables are the executor's globals. Own work (written by program). From a law's summary to its row's post: it answers true, and what it was given reads as it did. Own work. Chapter 7: what the laws' rows have in common. Own work. Chapter 7: the law StoreLists, as its row says. Own work (written by program, mkj.py). Chapter 7: the tied card of StoreLists. Own work (written by program, mkj.py).
-/
import Derived.Test.YtikaakiadiaeoaaGreatDoorQ08
import Derived.ProofKit
import Derived.Deep.Slices
import Derived.Stop.LaidErr
import Derived.LaidMore
import Derived.OpenShut
import Derived.MakeChecks
import Derived.Test.YtikaakiadiaeoaaGreatDoorRows
import Derived.Carry
import Derived.Stop.Joined
import Derived.Test.YtikaakiadiaeoaaGreatDoorTie
import Derived.Test.YtikaakiadiaeoaaGreatDoorCards
namespace Go.Pl
open Go Go.Sx Go.Proofs
def LL : Ll7 where
  w n g i x := fun j => if inI n i = true ∧ j = i.toNat then x else rwAt g j
  a n g x := fun j => if j < n then rwAt g j else x
  at_ n g i := atO n (rwAt g) i
  same n g m h := sameL (lst Int n g) (lst Int m h)
theorem sameL_of {n m : Nat} {g h : Nat → List Sh} (e : n = m) (hj : ∀ j, j < n → rwAt (α := Int) g j = rwAt h j) : LL.same n g m h = true := by
  subst e
  exact sameL_true (lst_ext hj)
theorem roomI_le {n : Nat} (h : n ≤ 1000000) : roomI n = true := room_le h (by decide)
theorem rw_snoc {n : Nat} {o : Nat → Int} {l : List (List Sh)} {j : Nat} : rwAt (α := Int) (prim.snoc (fnR o) n (nthL l)) j = if j < n then o j else rwAt (nthL l) (j - n) := by
  unfold rwAt
  rw [prim_snoc]
  split
  · simp [fnR, Row.get_put]
  · rfl
theorem okB_snoc {n m : Nat} {o : Nat → Int} {l : List (List Sh)} (h : ∀ j, j < m → (Row.get (α := Int) (nthL l j)).isSome = true) : okB Int (n + m) (prim.snoc (fnR o) n (nthL l)) = true := by
  refine okB_of (o := rwAt (α := Int) (prim.snoc (fnR o) n (nthL l))) fun j hj => ?_
  rw [prim_snoc]
  unfold rwAt
  rw [prim_snoc]
  split
  · simp [fnR, Row.get_put]
  · rename_i hlt
    have := h (j - n) (by omega)
    obtain ⟨a, ha⟩ := Option.isSome_iff_exists.1 this
    rw [ha, Option.getD_some]
    exact (Row.put_get _ _ ha).symm
end Go.Pl
namespace Go.Proofs
open Go Go.Sx Go.Pl
theorem O13g : FnOK Tryz.prog (gls7 W7) 13 G13 := O13
theorem O15g : FnOK Tryz.prog (gls7 W7) 15 (G15 LL) := O15.up fun H shs args φ hr h => by
  unfold G15 at h
  split at h
  · rename_i n g i x
    obtain ⟨h1, h2, hφ⟩ := h
    simp only [F15]
    refine ⟨h1, h2, up_mk (s' := .agg [.sl 1 n (fnR (LL.w n g i x))]) ⟨.inr ⟨rfl, rfl, fun j hj => ?_⟩, trivial⟩ hφ⟩
    simp only [updG, LL, fnR]
    split
    · rfl
    · exact okB_at h1 j hj
  · exact h.elim
theorem O16g : FnOK Tryz.prog (gls7 W7) 16 (G16 LL) := O16.up fun H shs args φ hr h => by
  unfold G16 at h
  split at h
  · rename_i n g x
    obtain ⟨h1, h2, hφ⟩ := h
    have hs : slN 1 (.sl 1 n g) = some (n, g) := rfl
    simp only [F16, hs]
    refine ⟨h2, up_mk (s' := .agg [.sl 1 (sucN n) (fnR (LL.a n g x))]) ⟨.inr ⟨rfl, rfl, fun j hj => ?_⟩, trivial⟩ hφ⟩
    simp only [snocG, LL, fnR]
    split
    · rename_i hlt; exact okB_at h1 j hlt
    · rfl
  · exact h.elim
theorem O17g : FnOK Tryz.prog (gls7 W7) 17 (G17 LL) := O17.mono fun H shs args φ hr h => by
  unfold G17 at h
  split at h
  · rename_i n g i
    obtain ⟨h1, hφ⟩ := h
    have hs : slN 1 (.sl 1 n g) = some (n, g) := rfl
    simp only [F17, hs]
    exact ⟨h1, hφ⟩
  · exact h.elim
theorem O18g : FnOK Tryz.prog (gls7 W7) 18 (G18 LL) := O18.up fun H shs args φ hr h => by
  unfold G18 at h
  split at h
  · rename_i n g m g'
    obtain ⟨h1, h2, h3, hφ⟩ := h
    have h3 : sameL (lst Int n g) (lst Int m g') = true := h3
    simp only [F18, h3]
    exact ⟨h1, h2, up_mk (s' := .v (.bool true)) (.inr rfl) hφ⟩
  · exact h.elim
theorem O19g : FnOK Tryz.prog (gls7 W7) 19 G19 := O19.mono fun H shs args φ hr h => by
  unfold G19 at h
  split at h
  · rename_i n g
    have hs : slN 1 (.sl 1 n g) = some (n, g) := rfl
    simp only [F19, hs]
    exact h
  · exact h.elim
theorem O20g : FnOK Tryz.prog (gls7 W7) 20 G20 := O20.mono fun H shs args φ hr h => by
  unfold G20 at h
  split at h
  · rename_i n g
    have hs : slN 1 (.sl 1 n g) = some (n, g) := rfl
    simp only [F20, hs]
    exact h
  · exact h.elim
theorem O3s : ∀ g F, spec3 LL g = some F → FnOK Tryz.prog (gls7 W7) g F := fun g F h => by
  unfold spec3 at h
  split at h
  · cases h; exact O12
  · cases h; exact O13g
  · cases h; exact O15g
  · cases h; exact O16g
  · cases h; exact O17g
  · cases h; exact O18g
  · cases h; exact O19g
  · cases h; exact O20g
  · cases h; exact O21
  · cases h; exact O22
  · cases h; exact O23
  · cases h
theorem fok3 (stop : Nat → List Nat → Bool) : FnsOK Tryz.prog (C7 prim W7 (spec3 LL) stop) := C7.fok O3s fun g h => by
  unfold spec3 at h
  split at h
  all_goals first | (cases h; done) | kernel_rfl
def F3 : List Sh → Tree Sh
  | [.sl 1 n g, .i .i64 _, .i .i64 _] => .need (okB Int n g) (.leaf (.b true))
  | _ => .fail
section
variable {H0 : Mem} {w0 : World} {n : Nat} {o : Nat → Int} {i x : Int} {φ : Sh → Prop}
theorem cpI_fnR (o : Nat → Int) : cpI (fnR o) = fnR o := by unfold cpI; rw [rwAt_fnR]
theorem okB_upd {m : Nat} {k : Nat} {x : Int} (hk : k < m) : okB Int m (prim.upd (fnR o) k 0 [Sh.i IntKind.i64 x]) = true := okB_of (o := fun j => if j = k then x else o j) fun j hj => by
  rw [prim_upd]
  by_cases e : j = k
  · subst e; simp [fnR, Row.put, inR]
  · simp [e, fnR]
theorem same3 (g : Nat → Int) {m : Nat} {a : List Int} {l : List (List Sh)} (hg : ∀ j, j < n + m → g j = if j < n then o j else rwAt (nthL l) (j - n)) : LL.same (n + m) (fnR g) (prim.addN n m) (prim.snoc (cpI (fnR o)) n (nthL l)) = true := by
  rw [cpI_fnR]
  exact sameL_of rfl fun j hj => by rw [rwAt_fnR, hg j hj, rw_snoc]
theorem okB_c {m : Nat} {l : List (List Sh)} (h : ∀ j, j < m → (Row.get (α := Int) (nthL l j)).isSome = true) : okB Int (prim.addN n m) (prim.snoc (cpI (fnR o)) n (nthL l)) = true := by
  rw [cpI_fnR]
  exact okB_snoc h
theorem end3 (hn : n ≤ 1000) (hφ : φ (.b true)) {b c d e ww : Nat → Int} {y : Int} (hin : inI n i = true) (hy : y = o i.toNat) (hb : ∀ j, j < n → b j = if j = i.toNat then x else o j) (hw : ∀ j, j < n → ww j = o j)
    (hc : ∀ j, j < n + 1 → c j = if j < n then o j else x) (hd : ∀ j, j < n + 2 → d j = if j < n then o j else if j < n + 1 then x else prim.add .i64 x 1) (he : ∀ j, j < n + 2 → e j = if j < n then o j else if j < n + 1 then x else prim.sub .i64 x 1) :
    GoesS Tryz.prog (C7 prim W7 (spec3 LL) stopAll) (K0 H0 w0) 3 td3c (LI3 n o i x b c d e (fnR ww) y true) [] emp φ := by
  refine goesS_runV (C7.ok _ _) (fok3 _) (pause := noPause) (m := 300) (n := 400) (ts := []) ?_
  rw [d3 prim W7 LL n o i x b c d e ww y]
  have hi : 0 ≤ i ∧ i < n := by simpa [inI] using hin
  have q0 : prim.inB i n = true := by simp [prim_inB, hi.1, hi.2]
  have r0 : roomI n = true := roomI_le (by omega)
  have r1 : roomI (sucN n) = true := roomI_le (show n + 1 ≤ _ by omega)
  have r2 : roomI (sucN (sucN n)) = true := roomI_le (show n + 1 + 1 ≤ _ by omega)
  have r3 : prim.room (prim.addN n 1) 8 = true := roomI_le (show n + 1 ≤ _ by omega)
  have r4 : prim.room (prim.addN n 2) 8 = true := roomI_le (show n + 2 ≤ _ by omega)
  have k1 : okB Int n (prim.upd (fnR ww) (prim.toN i) 0 [Sh.i IntKind.i64 x]) = true := okB_upd (k := i.toNat) (by omega)
  have k2 : okB Int (prim.addN n 1) (prim.snoc (cpI (fnR o)) n (nthL [[Sh.i IntKind.i64 x]])) = true := okB_c fun j hj => by
    obtain rfl : j = 0 := by omega
    rfl
  have k3 (u : Int) : okB Int (prim.addN n 2) (prim.snoc (cpI (fnR o)) n (nthL [[Sh.i IntKind.i64 x], [Sh.i IntKind.i64 u]])) = true := okB_c fun j hj => by
    have : j = 0 ∨ j = 1 := by omega
    rcases this with rfl | rfl <;> rfl
  have s1 : LL.same n (fnR o) n (fnR o) = true := sameL_of rfl fun _ _ => rfl
  have s2 : LL.same n (fnR b) n (prim.upd (fnR ww) (prim.toN i) 0 [Sh.i IntKind.i64 x]) = true := sameL_of rfl fun j hj => by
    rw [rwAt_fnR, hb j hj]
    unfold rwAt
    rw [prim_upd, prim_toN]
    by_cases e : j = i.toNat
    · simp [e, fnR, Row.put, inR, Row.get]
    · simp [e, fnR, Row.get_put, hw j hj]
  have s3 : LL.same (sucN n) (fnR c) (prim.addN n 1) (prim.snoc (cpI (fnR o)) n (nthL [[Sh.i IntKind.i64 x]])) = true := same3 (a := []) c fun j hj => by
    rw [hc j hj]
    split
    · rfl
    · have : j - n = 0 := by omega
      rw [this]; rfl
  have s4 (f : Nat → Int) (u : Int) (hf : ∀ j, j < n + 2 → f j = if j < n then o j else if j < n + 1 then x else u) : LL.same (sucN (sucN n)) (fnR f) (prim.addN n 2) (prim.snoc (cpI (fnR o)) n (nthL [[Sh.i IntKind.i64 x], [Sh.i IntKind.i64 u]])) = true := same3 (a := []) (m := 2) (l := [[Sh.i IntKind.i64 x], [Sh.i IntKind.i64 u]]) f fun j hj => by
    rw [hf j hj]
    split
    · rfl
    · split
      · have : j - n = 0 := by omega
        rw [this]; rfl
      · have : j - n = 1 := by omega
        rw [this]; rfl
  have s4d := s4 d _ hd
  have s4e := s4 e _ he
  have t1 : prim.nt (prim.eq y (o (prim.toN i))) = false := by simp [prim_nt, prim_eq, prim_toN, hy]
  have t2 : prim.eq (Int.ofNat n) (prim.ofN n) = true := by simp [prim_eq, prim_ofN]
  have t3 : prim.eq (Int.ofNat (sucN n)) (prim.add IntKind.i64 (prim.ofN n) (Int.ofNat 1)) = true := by
    rw [prim_add, prim_ofN]
    have : IntKind.i64.wrap ((n : Int) + Int.ofNat 1) = (n : Int) + 1 := wrap_id (show -9223372036854775808 ≤ (n : Int) + 1 by omega) (show (n : Int) + 1 ≤ 9223372036854775807 by omega)
    rw [this]; simp [prim_eq, sucN]
  refine ⟨q0, q0, fun h => (by rw [t1] at h; cases h), fun _ => ?_⟩
  have ok0 (f : Nat → Int) (m : Nat) : okB Int m (fnR f) = true := okB_put f m
  refine ⟨r0, ok0 _ _, ok0 _ _, s1, r0, ok0 _ _, k1, s2, r1, ok0 _ _, r0, r3, ok0 _ _, k2, s3, r2, ok0 _ _, r0, r4, ok0 _ _, k3 _, s4d, r2, ok0 _ _, r0, r4, ok0 _ _, k3 _, s4e, fun _ => ⟨fun _ => ⟨fun _ => ⟨rfl, rfl, hφ⟩, fun h => (by cases h)⟩, fun h => (by rw [t3] at h; cases h)⟩, fun h => (by rw [t2] at h; cases h)⟩
theorem end3f (hn : n ≤ 1000) (hφ : φ (.b true)) {b c d e ww : Nat → Int} {y : Int} (hy : y = 0) (hb : ∀ j, j < n → b j = o j) (hw : ∀ j, j < n → ww j = o j)
    (hc : ∀ j, j < n + 1 → c j = if j < n then o j else x) (hd : ∀ j, j < n + 2 → d j = if j < n then o j else if j < n + 1 then x else prim.add .i64 x 1) (he : ∀ j, j < n + 2 → e j = if j < n then o j else if j < n + 1 then x else prim.sub .i64 x 1) :
    GoesS Tryz.prog (C7 prim W7 (spec3 LL) stopAll) (K0 H0 w0) 3 td3c (LI3 n o i x b c d e (fnR ww) y false) [] emp φ := by
  refine goesS_runV (C7.ok _ _) (fok3 _) (pause := noPause) (m := 300) (n := 400) (ts := []) ?_
  rw [d3f prim W7 LL n o i x b c d e ww y]
  have r0 : roomI n = true := roomI_le (by omega)
  have r1 : roomI (sucN n) = true := roomI_le (show n + 1 ≤ _ by omega)
  have r2 : roomI (sucN (sucN n)) = true := roomI_le (show n + 1 + 1 ≤ _ by omega)
  have r3 : prim.room (prim.addN n 1) 8 = true := roomI_le (show n + 1 ≤ _ by omega)
  have r4 : prim.room (prim.addN n 2) 8 = true := roomI_le (show n + 2 ≤ _ by omega)
  have k2 : okB Int (prim.addN n 1) (prim.snoc (cpI (fnR o)) n (nthL [[Sh.i IntKind.i64 x]])) = true := okB_c fun j hj => by
    obtain rfl : j = 0 := by omega
    rfl
  have k3 (u : Int) : okB Int (prim.addN n 2) (prim.snoc (cpI (fnR o)) n (nthL [[Sh.i IntKind.i64 x], [Sh.i IntKind.i64 u]])) = true := okB_c fun j hj => by
    have : j = 0 ∨ j = 1 := by omega
    rcases this with rfl | rfl <;> rfl
  have s1 : LL.same n (fnR o) n (fnR o) = true := sameL_of rfl fun _ _ => rfl
  have s2 : LL.same n (fnR b) n (fnR ww) = true := sameL_of rfl fun j hj => by
    rw [rwAt_fnR, rwAt_fnR, hb j hj, hw j hj]
  have s3 : LL.same (sucN n) (fnR c) (prim.addN n 1) (prim.snoc (cpI (fnR o)) n (nthL [[Sh.i IntKind.i64 x]])) = true := same3 (a := []) c fun j hj => by
    rw [hc j hj]
    split
    · rfl
    · have : j - n = 0 := by omega
      rw [this]; rfl
  have s4 (f : Nat → Int) (u : Int) (hf : ∀ j, j < n + 2 → f j = if j < n then o j else if j < n + 1 then x else u) : LL.same (sucN (sucN n)) (fnR f) (prim.addN n 2) (prim.snoc (cpI (fnR o)) n (nthL [[Sh.i IntKind.i64 x], [Sh.i IntKind.i64 u]])) = true := same3 (a := []) (m := 2) (l := [[Sh.i IntKind.i64 x], [Sh.i IntKind.i64 u]]) f fun j hj => by
    rw [hf j hj]
    split
    · rfl
    · split
      · have : j - n = 0 := by omega
        rw [this]; rfl
      · have : j - n = 1 := by omega
        rw [this]; rfl
  have s4d := s4 d _ hd
  have s4e := s4 e _ he
  have t1 : prim.nt (prim.eq y (Int.ofNat 0)) = false := by simp [prim_nt, prim_eq, hy]
  have t2 : prim.eq (Int.ofNat n) (prim.ofN n) = true := by simp [prim_eq, prim_ofN]
  have t3 : prim.eq (Int.ofNat (sucN n)) (prim.add IntKind.i64 (prim.ofN n) (Int.ofNat 1)) = true := by
    rw [prim_add, prim_ofN]
    have : IntKind.i64.wrap ((n : Int) + Int.ofNat 1) = (n : Int) + 1 := wrap_id (show -9223372036854775808 ≤ (n : Int) + 1 by omega) (show (n : Int) + 1 ≤ 9223372036854775807 by omega)
    rw [this]; simp [prim_eq, sucN]
  refine ⟨fun h => (by rw [t1] at h; cases h), fun _ => ?_⟩
  have ok0 (f : Nat → Int) (m : Nat) : okB Int m (fnR f) = true := okB_put f m
  refine ⟨r0, ok0 _ _, ok0 _ _, s1, r0, ok0 _ _, ok0 _ _, s2, r1, ok0 _ _, r0, r3, ok0 _ _, k2, s3, r2, ok0 _ _, r0, r4, ok0 _ _, k3 _, s4d, r2, ok0 _ _, r0, r4, ok0 _ _, k3 _, s4e, fun _ => ⟨fun _ => ⟨fun _ => ⟨rfl, rfl, hφ⟩, fun h => (by cases h)⟩, fun h => (by rw [t3] at h; cases h)⟩, fun h => (by rw [t2] at h; cases h)⟩
theorem tail3 (hn : n ≤ 1000) (hφ : φ (.b true)) : GoesS Tryz.prog (C7 prim W7 (spec3 LL) stopAll) (K0 H0 w0) 3 td3a (LA3 n o i x (fnR o)) [] emp φ := by
  have r0 : roomI n = true := roomI_le (by omega)
  have r1 : roomI (sucN n) = true := roomI_le (show n + 1 ≤ _ by omega)
  have r2 : roomI (sucN (sucN n)) = true := roomI_le (show n + 1 + 1 ≤ _ by omega)
  have ok0 (f : Nat → Int) (m : Nat) : okB Int m (fnR f) = true := okB_put f m
  have aO (f : Nat → Int) : rwAt (α := Int) (fnR f) = f := rwAt_fnR f
  have hat : LL.at_ n (fnR o) i = bif inI n i then o i.toNat else 0 := by show atO n (rwAt (fnR o)) i = _; rw [aO]; rfl
  have hb (j : Nat) (hj : j < n) : LL.w n (fnR o) i x j = if inI n i = true ∧ j = i.toNat then x else o j := by show (if _ then _ else rwAt (fnR o) j) = _; rw [aO]
  have hc (j : Nat) : LL.a n (fnR o) x j = if j < n then o j else x := by show (if _ then rwAt (fnR o) j else _) = _; rw [aO]
  have hd (u : Int) (j : Nat) (hj : j < n + 2) : LL.a (sucN n) (fnR (LL.a n (fnR o) x)) u j = if j < n then o j else if j < n + 1 then x else u := by
    show (if j < n + 1 then rwAt (fnR (LL.a n (fnR o) x)) j else u) = _
    rw [aO, hc]
    split
    · rfl
    · rw [if_neg (by omega)]
  cases hin : inI n i with
  | true =>
    refine goesS_runV (C7.ok _ _) (fok3 _) (pause := pause3b) (m := 300) (n := 400) (ts := [⟨3, td3c, LI3 n o i x (LL.w n (fnR o) i x) (LL.a n (fnR o) x) (LL.a (sucN n) (fnR (LL.a n (fnR o) x)) (prim.add .i64 x 1)) (LL.a (sucN n) (fnR (LL.a n (fnR o) x)) (prim.sub .i64 x 1)) (fnR o) (LL.at_ n (fnR o) i) true, []⟩, ⟨3, td3c, LI3 n o i x (LL.w n (fnR o) i x) (LL.a n (fnR o) x) (LL.a (sucN n) (fnR (LL.a n (fnR o) x)) (prim.add .i64 x 1)) (LL.a (sucN n) (fnR (LL.a n (fnR o) x)) (prim.sub .i64 x 1)) (fnR o) (LL.at_ n (fnR o) i) false, []⟩]) ?_
    rw [c3 prim W7 LL n o i x]
    have hi : 0 ≤ i ∧ i < n := by simpa [inI] using hin
    refine ⟨ok0 _ _, r0, ok0 _ _, r1, ok0 _ _, r2, ok0 _ _, r2, ok0 _ _, r0, fun _ => ⟨ok0 _ _, ⟨rfl, rfl, rfl, ?_, rfl, hin, rfl, rfl, rfl, rfl, rfl, rfl, fun j hj => ?_, trivial⟩, _, rfl, end3 hn hφ hin ?_ (fun j hj => ?_) (fun _ _ => rfl) (fun j _ => hc j) (hd _) (hd _)⟩, fun h => ?_⟩
    · simp [Eqn.ok, prim_lt, prim_ofN, hi.2]
    · rw [cpI_fnR]
    · rw [hat, hin]; rfl
    · rw [hb j hj]; simp [hin]
    · simp [prim_le] at h; omega
  | false =>
    refine goesS_runV (C7.ok _ _) (fok3 _) (pause := pause3b) (m := 300) (n := 400) (ts := [⟨3, td3c, LI3 n o i x (LL.w n (fnR o) i x) (LL.a n (fnR o) x) (LL.a (sucN n) (fnR (LL.a n (fnR o) x)) (prim.add .i64 x 1)) (LL.a (sucN n) (fnR (LL.a n (fnR o) x)) (prim.sub .i64 x 1)) (fnR o) (LL.at_ n (fnR o) i) false, []⟩]) ?_
    rw [c3f prim W7 LL n o i x]
    have hi : ¬ (0 ≤ i ∧ i < n) := by simpa [inI] using hin
    have fin := end3f (H0 := H0) (w0 := w0) (n := n) (o := o) (i := i) (x := x) (φ := φ) (b := LL.w n (fnR o) i x) (c := LL.a n (fnR o) x) (ww := o) (y := LL.at_ n (fnR o) i) hn hφ (by rw [hat, hin]; rfl) (fun j hj => by rw [hb j hj]; simp [hin]) (fun _ _ => rfl) (fun j _ => hc j) (hd _) (hd _)
    refine ⟨ok0 _ _, r0, ok0 _ _, r1, ok0 _ _, r2, ok0 _ _, r2, ok0 _ _, r0, fun h => ⟨ok0 _ _, ⟨rfl, rfl, rfl, ?_, rfl, hin, rfl, rfl, rfl, rfl, rfl, rfl, fun j hj => ?_, trivial⟩, _, rfl, fin⟩, fun h => ⟨ok0 _ _, ⟨rfl, rfl, rfl, rfl, hin, rfl, rfl, rfl, rfl, rfl, rfl, fun j hj => ?_, trivial⟩, _, rfl, fin⟩⟩
    · simp [prim_le] at h
      simp [Eqn.ok, prim_lt, prim_ofN]; omega
    · rw [cpI_fnR]
    · rw [cpI_fnR]
theorem loop3 (hn : n ≤ 1000) (hφ : φ (.b true)) : ∀ r k, k + r = n + 2 → ∀ mm : Nat → List Sh, GoesS Tryz.prog (C7 prim W7 (spec3 LL) stopAll) (K0 H0 w0) 3 td3 (LM3 n o i x (n + 2) mm (fnR o) (k : Nat)) [] emp φ
  | r, k, hk, mm => by
    refine goesS_into (fn := Tryz.f3) (tb := tb3) (by kernel_rfl) (by kernel_rfl) ?_
    refine goesS_runV (C7.ok _ _) (fok3 _) (pause := pause3) (m := 300) (n := 400) (ts := [⟨3, td3, LM3 n o i x (n + 2) (prim.upd mm (prim.toN k) 0 [Sh.i IntKind.i64 (Int.negSucc 8)]) (fnR o) (k + 1 : Nat), []⟩, ⟨3, td3a, LA3 n o i x (fnR o), []⟩]) ?_
    rw [b3 prim W7 LL n o i x (n + 2) mm (prim.upd mm (prim.toN k) 0 [Sh.i IntKind.i64 (Int.negSucc 8)]) (fnR o) k (k + 1 : Nat)]
    refine ⟨fun h => ⟨?_, ⟨rfl, rfl, rfl, ?_, rfl, fun _ _ => rfl, rfl, fun _ _ => rfl, trivial⟩, _, rfl, ?_⟩, fun h => ⟨⟨rfl, rfl, rfl, rfl, fun _ _ => rfl, trivial⟩, _, rfl, tail3 hn hφ⟩⟩
    · simp [prim_lt, prim_ofN, prim_inB] at h ⊢; omega
    · simp only [Eqn.ok, prim_add, one_eq]
      rw [wrap_id (by omega) (by omega)]; rfl
    · simp [prim_lt, prim_ofN] at h
      match r, hk with
      | 0, hk => omega
      | r + 1, hk => exact loop3 hn hφ r (k + 1) (by omega) _
end
theorem O3 : FnOK Tryz.prog (gls7 W7) 3 F3 := by
  refine fnOK_S (C := C7 prim W7 (spec3 LL) stopAll) (C7.ok _ _) (fn := Tryz.f3) (by kernel_rfl) (by kernel_rfl) fun H w shs args φ hrep h => ?_
  unfold F3 at h
  split at h
  · rename_i n g i x
    obtain ⟨h1, hφ⟩ := h
    match args, hrep with
    | [v, u1, u2], ⟨hv, r1, r2, _⟩ =>
      refine ⟨[.sl 1 n (fnR (rwAt (α := Int) g)), .i .i64 i, .i .i64 x], ⟨rep_rows hv h1, r1, r2, trivial⟩, L0, ?_⟩
      generalize rwAt (α := Int) g = o
      have hn : Tryz.f3.ntmps = 184 := by kernel_rfl
      have snoc2 : prim.snoc (fun _ => []) 0 (prim.snoc (cpI (fnR o)) n (nthL [[Sh.i IntKind.i64 (Int.ofNat 47)], [Sh.i IntKind.i64 (Int.ofNat 11)]])) = prim.snoc (cpI (fnR o)) n (nthL [[Sh.i IntKind.i64 (Int.ofNat 47)], [Sh.i IntKind.i64 (Int.ofNat 11)]]) := snoc0 _ _
      refine goesS_runV (C7.ok _ _) (fok3 _) (pause := pause3) (m := 300) (n := 400) (ts := [⟨3, td3, LM3 n o i x (n + 2) (prim.snoc (cpI (fnR o)) n (nthL [[Sh.i IntKind.i64 (Int.ofNat 47)], [Sh.i IntKind.i64 (Int.ofNat 11)]])) (fnR o) (0 : Nat), []⟩]) ?_
      rw [hn, a3 prim W7 LL n o i x (n + 2)]
      refine ⟨fun _ => hφ, fun h => ?_⟩
      have hle : n ≤ 1000 := by simp [prim_lt, prim_ofN] at h; omega
      have r0 : roomI n = true := roomI_le (by omega)
      have r4 : prim.room (prim.addN n 2) 8 = true := roomI_le (show n + 2 ≤ _ by omega)
      rw [toN_ofN, snoc2]
      refine ⟨okB_put _ _, r0, r4, ?_, le0 n, r0, ?_, ⟨rfl, rfl, rfl, rfl, rfl, fun _ _ => rfl, addN0 n, fun j hj => ?_, trivial⟩, _, rfl, loop3 hle hφ (n + 2) 0 (by omega) _⟩
      · simp [prim_upTo, prim_ofN, prim_addN]; omega
      · rw [addN0]; exact r0
      · rw [addN0] at hj
        rw [prim_snoc, if_pos hj, cpI_fnR]
  · exact h.elim
end Go.Proofs
namespace Go.Sx
open Go.RowKit Go.ChangeShapes Go.WideShapes Go.Deep
/-- All of memory, as it stands. -/
def memOf (w : World) : Mem := fun b => w.heap[b]?
theorem memOf_on (w : World) : (memOf w).on w := fun _ _ h => h
theorem hcell_memOf {w : World} {a : Addr} {v : Value} (h : w.cell? a = some v) : hcell (memOf w) a.block a.off = some v ∧ a.spot = none := by
  unfold World.cell? at h
  unfold hcell memOf
  split at h
  · rename_i c t f hb
    rw [hb]
    cases hs : a.spot with
    | none => simp only [hs, Option.isSome_none, Bool.false_eq_true, if_false] at h; exact ⟨h, rfl⟩
    | some x => simp [hs] at h
  · cases h
section
variable {H : Type} {enc : TypeId × Value → H} {P : Program} {w : World} {base : Nat} {spare : Nat → Bool} {held : Bool}
/-- Are all the fields ints, one behind the other? -/
def flatB (P : Program) (fs : Array Field) (k : Nat) : Bool :=
  fs.size == k && (List.range k).all fun i => match fs[i]? with
    | some f => f.offset == i && (match P.underlying f.type with | some (.int .i64) => true | _ => false) && P.cellsOf f.type == 1
    | none => false
/-- The type of a row of so many ints. -/
def rowB (P : Program) (e k : Nat) : Bool :=
  match P.underlying e with
  | some (.int .i64) => k == 1 && P.cellsOf e == 1
  | some (.struct fs) => flatB P fs k && P.cellsOf e == k
  | _ => false
def int64 (n : Int) : Prop := (Lit.int .i64 n).wf = true
theorem flat_cells {e k fuel : Nat} {cs : List Value} {x : DataW H × List MemPlace} (hr : rowB P e k = true) (h : DataW.trod enc P w base spare held fuel e cs = some x) :
    ∃ ns : List Int, ns.length = k ∧ cs = ns.map (Value.int .i64) ∧ ∀ n ∈ ns, int64 n := by
  unfold rowB at hr
  split at hr
  · rename_i hu
    simp only [Bool.and_eq_true, beq_iff_eq] at hr
    obtain ⟨n, rfl, _, hw⟩ := DataW.trod_int hu h
    exact ⟨[n], hr.1.symm, rfl, fun m hm => by simp at hm; subst hm; exact hw⟩
  · rename_i fs hu
    simp only [Bool.and_eq_true, beq_iff_eq] at hr
    obtain ⟨hf, hc⟩ := hr
    unfold flatB at hf
    simp only [Bool.and_eq_true, beq_iff_eq] at hf
    obtain ⟨hk, hf⟩ := hf
    obtain ⟨xs, m, _, _, hlen, hxs, hel⟩ := DataW.trod_struct hu h
    rw [hc] at hlen
    have cell : ∀ i, i < k → ∃ n, cs[i]? = some (.int .i64 n) ∧ int64 n := fun i hi => by
      have q := List.all_eq_true.1 hf i (List.mem_range.2 hi)
      split at q
      · rename_i f hfi
        simp only [Bool.and_eq_true, beq_iff_eq] at q
        obtain ⟨⟨ho, ht⟩, h1⟩ := q
        have ht : P.underlying f.type = some (.int .i64) := by
          split at ht
          · assumption
          · cases ht
        have q2 := hel i f hfi
        rw [ho, h1] at q2
        have hxi : i < xs.length := by rw [hxs, hk]; exact hi
        rw [List.getElem?_eq_getElem hxi] at q2
        obtain ⟨n, e1, _, e3⟩ := DataW.trod_int ht q2
        refine ⟨n, ?_, e3⟩
        have : (List.take 1 (List.drop i cs))[0]? = some (.int .i64 n) := by rw [e1]; rfl
        simpa using this
      · cases q
    clear hel h hf
    have : ∀ (j : Nat) (l : List Value), l.length = j → (∀ i, i < j → ∃ n, l[i]? = some (.int .i64 n) ∧ int64 n) → ∃ ns : List Int, ns.length = j ∧ l = ns.map (Value.int .i64) ∧ ∀ n ∈ ns, int64 n := by
      intro j
      induction j with
      | zero => intro l hl _; exact ⟨[], rfl, by simpa using hl, fun _ h => by simp at h⟩
      | succ j ih =>
        intro l hl hc
        match l, hl with
        | v :: l, hl =>
          obtain ⟨ns, h1, h2, h3⟩ := ih l (by simpa using hl) fun i hi => by simpa using hc (i + 1) (by omega)
          obtain ⟨n, q1, q2⟩ := hc 0 (by omega)
          simp at q1
          subst q1
          exact ⟨n :: ns, by simp [h1], by simp [h2], fun m hm => by
            rcases List.mem_cons.1 hm with rfl | hm
            · exact q2
            · exact h3 m hm⟩
    exact this k cs hlen cell
  · cases hr
def shInts (ns : List Int) : List Sh := ns.map (Sh.i .i64)
theorem rep_ints {M : Mem} {ns : List Int} : Rep M (.agg (shInts ns)) (.agg (ns.map (Value.int .i64)).toArray) := by
  refine .agg _ _ (by simp [shInts]) fun j s v h1 h2 => ?_
  simp only [shInts, List.getElem?_map, Option.map_eq_some_iff] at h1
  obtain ⟨n, h3, rfl⟩ := h1
  simp [h3] at h2
  subst h2
  exact .i _ _
theorem cells?_at {w : World} {base : Nat} {a : Addr} {n : Nat} {cs : List Value} (h : w.cells? base a n = some cs) : cs.length = n ∧ ∀ j, j < n → w.cell? (a.add j) = cs[j]? := by
  unfold World.cells? at h
  split at h
  · have : ∀ (l : List Nat) (cs : List Value), l.mapM (fun i => w.cell? (a.add i)) = some cs → cs.length = l.length ∧ ∀ (j : Nat) (i : Nat), l[j]? = some i → w.cell? (a.add i) = cs[j]? := by
      intro l
      induction l with
      | nil => intro cs h; simp at h; subst h; exact ⟨rfl, fun j i e => by simp at e⟩
      | cons x l ih =>
        intro cs h
        rw [List.mapM_cons] at h
        simp only [Option.bind_eq_bind, Option.bind_eq_some_iff, Option.pure_def] at h
        obtain ⟨v, h1, vs, h2, h3⟩ := h
        cases h3
        obtain ⟨e1, e2⟩ := ih vs h2
        refine ⟨by simp [e1], fun j i e => ?_⟩
        match j, e with
        | 0, e => simp at e; subst e; simpa using h1
        | j + 1, e => simpa using e2 j i (by simpa using e)
    obtain ⟨e1, e2⟩ := this _ _ h
    rw [List.length_range] at e1
    exact ⟨e1, fun j hj => e2 j j (by simp [hj])⟩
  · cases h
theorem add_off (a : Addr) (n : Nat) : (a.add n).off = a.off + n ∧ (a.add n).block = a.block := by
  unfold Addr.add
  split
  · subst_vars; exact ⟨rfl, rfl⟩
  · exact ⟨rfl, rfl⟩
theorem add_add' (a : Addr) (i j : Nat) : (a.add i).add j = a.add (i + j) := by
  unfold Addr.add
  by_cases hi : i = 0 <;> by_cases hj : j = 0 <;> simp [hi, hj, Nat.add_assoc]
/-- A slice of rows of ints. -/
theorem rep_rowsl {t e k fuel : Nat} {cs : List Value} {x : DataW H × List MemPlace} (ht : P.underlying t = some (.slice e)) (hr : rowB P e k = true) (hk : P.cellsOf e = k) (h0 : 0 < k)
    (h : DataW.trod enc P w base spare held fuel t cs = some x) :
    ∃ v n g, cs = [v] ∧ Rep (memOf w) (.sl k n g) v ∧ ∀ i, i < n → ∃ ns : List Int, ns.length = k ∧ g i = shInts ns ∧ ∀ n ∈ ns, int64 n := by
  rcases open_slice ht h with ⟨rfl, _⟩ | ⟨a, len, cap, m, n, D, Pl, rfl, hb, hl, hcap, hm, _, hel⟩
  · exact ⟨_, 0, fun _ => [], rfl, .sl0 _ _ _ _ (Nat.zero_le _), fun i hi => by omega⟩
  have hlm : len ≤ m := by rw [hm]; split <;> omega
  rw [hk] at hel
  have row : ∀ i, i < len → ∃ ns : List Int, ns.length = k ∧ w.cells? base (a.add (i * k)) k = some (ns.map (Value.int .i64)) ∧ ∀ n ∈ ns, int64 n := fun i hi => by
    obtain ⟨cs', h1, h2⟩ := hel i (by omega)
    obtain ⟨ns, e1, rfl, e3⟩ := flat_cells hr h2
    exact ⟨ns, e1, h1, e3⟩
  by_cases hz : len = 0
  · subst hz
    exact ⟨_, 0, fun _ => [], rfl, .sl0 _ _ _ _ hcap, fun i hi => by omega⟩
  let N : Nat → List Int := fun i => if h : i < len then (row i h).choose else []
  have hN : ∀ i, i < len → (N i).length = k ∧ w.cells? base (a.add (i * k)) k = some ((N i).map (Value.int .i64)) ∧ ∀ n ∈ N i, int64 n := fun i hi => by
    simp only [N, dif_pos hi]
    exact (row i hi).choose_spec
  have cell : ∀ i j, i < len → j < k → w.cell? (a.add (i * k + j)) = ((N i).map (Value.int .i64))[j]? := fun i j hi hj => by
    have := (cells?_at (hN i hi).2.1).2 j hj
    rwa [add_add'] at this
  have hspot : a.spot = none := by
    have h1 := cell 0 0 (by omega) h0
    have : ∃ v, w.cell? a = some v := by
      have hl0 := (hN 0 (by omega)).1
      match hq : N 0 with
      | [] => rw [hq] at hl0; simp at hl0; omega
      | x :: r =>
        rw [hq] at h1
        simp [Addr.add] at h1
        exact ⟨_, h1⟩
    obtain ⟨v, hv⟩ := this
    exact (hcell_memOf hv).2
  obtain ⟨blk, off, spot⟩ := a
  simp only at hspot
  subst hspot
  refine ⟨_, len, fun i => shInts (N i), rfl, .sl _ _ _ blk off cap (fun i j => ((N i).map (Value.int .i64)).getD j .nilFunc) hl hcap (fun i hi => by simp [shInts, (hN i hi).1]) (fun i j hi hj => ?_) (fun i j hi hj => ?_) (fun i j s hi e => ?_), fun i hi => ⟨N i, (hN i hi).1, rfl, (hN i hi).2.2⟩⟩
  · have h1 := cell i j hi hj
    have hlt : j < ((N i).map (Value.int .i64)).length := by simpa [(hN i hi).1] using hj
    rw [List.getElem?_eq_getElem hlt] at h1
    have h2 := (hcell_memOf h1).1
    rw [(add_off _ _).1, (add_off _ _).2] at h2
    simp only [Nat.add_assoc] at h2 ⊢
    rw [h2, List.getD_eq_getElem?_getD, List.getElem?_eq_getElem hlt]; rfl
  · have hlt : j < (N i).length := by rw [(hN i hi).1]; exact hj
    simp [List.getD_eq_getElem?_getD, hlt]; rfl
  · simp only [shInts, List.getElem?_map, Option.map_eq_some_iff] at e
    obtain ⟨n, h3, rfl⟩ := e
    simp [List.getD_eq_getElem?_getD, h3]
    exact .i _ _
/-- A struct of two slices of rows of ints. -/
def pairB (P : Program) (t : Nat) (k0 k1 : Nat) : Bool :=
  match P.underlying t with
  | some (.struct fs) => fs.size == 2 && P.cellsOf t == 2 && (match fs[0]?, fs[1]? with
    | some f0, some f1 => f0.offset == 0 && f1.offset == 1 && P.cellsOf f0.type == 1 && P.cellsOf f1.type == 1 && (match P.underlying f0.type, P.underlying f1.type with
      | some (.slice e0), some (.slice e1) => rowB P e0 k0 && P.cellsOf e0 == k0 && rowB P e1 k1 && P.cellsOf e1 == k1
      | _, _ => false)
    | _, _ => false)
  | _ => false
theorem rep_pair {t k0 k1 : Nat} {v : Value} {d : DataW H} {ps : List MemPlace} (hp : pairB P t k0 k1 = true) (h00 : 0 < k0) (h01 : 0 < k1) {b0 : Nat} (hval : Value.okWide P w .any b0 t v) (hd : DataW.Trod enc P w base spare held t v d ps) :
    ∃ n0 g0 n1 g1, Rep (memOf w) (.agg [.sl k0 n0 g0, .sl k1 n1 g1]) v ∧ (∀ i, i < n0 → ∃ ns : List Int, ns.length = k0 ∧ g0 i = shInts ns ∧ ∀ n ∈ ns, int64 n) ∧ ∀ i, i < n1 → ∃ ns : List Int, ns.length = k1 ∧ g1 i = shInts ns ∧ ∀ n ∈ ns, int64 n := by
  unfold pairB at hp
  split at hp
  · rename_i fs hu
    unfold Value.okWide at hval
    rw [hu] at hval
    obtain ⟨cs, rfl, hsz, _⟩ := hval
    simp only [Bool.and_eq_true, beq_iff_eq] at hp
    obtain ⟨⟨h2, hc⟩, hp⟩ := hp
    split at hp
    · rename_i f0 f1 hf0 hf1
      simp only [Bool.and_eq_true, beq_iff_eq] at hp
      obtain ⟨⟨⟨⟨o0, o1⟩, c0⟩, c1⟩, hp⟩ := hp
      split at hp
      · rename_i e0 e1 hs0 hs1
        simp only [Bool.and_eq_true, beq_iff_eq] at hp
        obtain ⟨⟨⟨r0, q0⟩, r1⟩, q1⟩ := hp
        obtain ⟨fuel, hd⟩ := hd
        obtain ⟨xs, m, _, _, hlen, hxs, hel⟩ := DataW.trod_struct hu hd
        have a0 := hel 0 f0 hf0
        have a1 := hel 1 f1 hf1
        rw [o0, c0, List.getElem?_eq_getElem (by rw [hxs, h2]; decide)] at a0
        rw [o1, c1, List.getElem?_eq_getElem (by rw [hxs, h2]; decide)] at a1
        obtain ⟨v0, n0, g0, x0, y0, z0⟩ := rep_rowsl hs0 r0 q0 h00 a0
        obtain ⟨v1, n1, g1, x1, y1, z1⟩ := rep_rowsl hs1 r1 q1 h01 a1
        rw [hc] at hsz
        obtain ⟨l⟩ := cs
        match l, hsz with
        | [u0, u1], _ =>
          simp [Value.cells] at x0 x1
          subst x0 x1
          refine ⟨n0, g0, n1, g1, .agg _ _ rfl fun j s v e1 e2 => ?_, z0, z1⟩
          match j, e1, e2 with
          | 0, e1, e2 => simp at e1 e2; subst e1 e2; exact y0
          | 1, e1, e2 => simp at e1 e2; subst e1 e2; exact y1
          | j + 2, e1, _ => simp at e1
      · cases hp
    · cases hp
  · cases hp
/-- A slice of rows of ints, as an argument. -/
theorem rep_slice_arg {t e k : Nat} {v : Value} {d : DataW H} {ps : List MemPlace} (ht : P.underlying t = some (.slice e)) (hr : rowB P e k = true) (hk : P.cellsOf e = k) (h0 : 0 < k) {b0 : Nat} (hval : Value.okWide P w .any b0 t v) (hd : DataW.Trod enc P w base spare held t v d ps) :
    ∃ n g, Rep (memOf w) (.sl k n g) v ∧ ∀ i, i < n → ∃ ns : List Int, ns.length = k ∧ g i = shInts ns ∧ ∀ n ∈ ns, int64 n := by
  obtain ⟨fuel, hd⟩ := hd
  obtain ⟨u, n, g, h1, h2, h3⟩ := rep_rowsl ht hr hk h0 hd
  have : v = u := by
    unfold Value.okWide at hval
    rw [ht] at hval
    cases v <;> simp [Value.cells] at h1 <;> first | exact h1 | skip
    all_goals (unfold Cell.okWide at hval; simp [ht] at hval; try (simp [Cell.ok, ht] at hval))
  subst this
  exact ⟨n, g, h2, h3⟩
end
end Go.Sx
namespace Go.Sx
open Go.RowKit Go.ChangeShapes Go.WideShapes Go.Deep
theorem var_heap {P : Program} {W : World} {n : String} {g : Nat} {cs : Array Value} (hg : P.globalNamed n = some g) (h : W.var? P n = some cs) : ∃ e f, W.heap[g]? = some (.cells cs e f) := by
  unfold World.var? at h
  rw [hg] at h
  simp only [Option.bind_some] at h
  split at h
  · rename_i c e f hb
    cases h
    exact ⟨_, _, hb⟩
  · cases h
theorem laid_er {P : Program} {n nm : String} {text : List UInt8} {r : List (String × DataW Unit)} {W : World} {g : Nat} {ti tp te ts : TypeId} {ms : Array (String × TypeId)} {f : Field}
    (h : laidMet P ((n, .iface nm (.ptr (.agg [.lit (.string text)]))) :: r) W)
    (hg : P.globalNamed n = some g) (ht : (P.globals[g]?).map (·.type) = some ti) (hi : P.underlying ti = some (.interface ms)) (hrow : ∀ u, P.typeName? 3 u = some nm → u = tp)
    (hp : P.underlying tp = some (.pointer te)) (he : P.underlying te = some (.struct #[f])) (hft : f.type = ts) (hfo : f.offset = 0) (hs : P.underlying ts = some .string) (hc : P.cellsOf te = 1) (hcs : P.cellsOf ts = 1) :
    GlobAt (memOf W) g (.er g tp) := by
  obtain ⟨ps, ⟨g0, t0, cs0, f0, p0, q0, hg0, ht0, hv0, hd0, _, e0⟩, _, hrows⟩ := h
  obtain rfl := Option.some.inj (hg.symm.trans hg0)
  obtain rfl := Option.some.inj (ht.symm.trans ht0)
  subst e0
  obtain ⟨l0⟩ := cs0
  have ok0 : ∀ u v, l0 = [.iface u v] → Value.okWide P W .any 0 u v := fun u v e => by
    subst e
    exact (hrows g 0 (by simp [MemPlace.row])).2 u v (by simpa using World.var?_cell hg0 hv0 0)
  obtain ⟨a0, s0, rfl, hc0, hs0, hz0, rfl⟩ := errorString_of_trod hi hrow hp he hft hfo hs hc hcs hd0 ok0
  obtain ⟨c0, t0, hb0⟩ := (hrows a0.block a0.off (by simp [MemPlace.row])).1
  obtain ⟨e, f, hh⟩ := var_heap hg hv0
  have h1 : hcell (memOf W) g 0 = some (.iface tp (.pointer (some a0))) := by
    unfold hcell memOf
    rw [hh]; rfl
  exact ⟨_, h1, .er g tp a0 c0 t0 h1 hb0, rfl⟩
/-- An array of strings. -/
theorem laid_strs {P : Program} {n : String} {texts : List (List UInt8)} {r : List (String × DataW Unit)} {W : World} {g : Nat} {t e : TypeId} {k : Nat}
    (h : laidMet P ((n, .agg (texts.map fun s => .lit (.string s))) :: r) W)
    (hg : P.globalNamed n = some g) (ht : (P.globals[g]?).map (·.type) = some t) (hu : P.underlying t = some (.array k e)) (he : P.underlying e = some .string) (hce : P.cellsOf e = 1) (hct : P.cellsOf t = texts.length) :
    GlobAt (memOf W) g (.tup (texts.map Sh.str)) := by
  obtain ⟨ps, ⟨g0, t0, cs0, f0, p0, q0, hg0, ht0, hv0, hd0, _, e0⟩, _, hrows⟩ := h
  obtain rfl := Option.some.inj (hg.symm.trans hg0)
  obtain rfl := Option.some.inj (ht.symm.trans ht0)
  obtain ⟨e1, f1, hh⟩ := var_heap hg hv0
  obtain ⟨xs, m, _, hx, hlen, hxs, hel⟩ := DataW.trod_array hu hd0
  have hxs' : xs.map (·.1) = texts.map fun s => .lit (.string s) := by
    have := congrArg Prod.fst hx
    simp at this
    exact this.symm
  have hkt : k = texts.length := by
    have := congrArg List.length hxs'
    simp at this
    omega
  subst hkt
  have cell : ∀ j (hj : j < texts.length), cs0[j]? = some (.string ⟨texts[j].toArray⟩) := fun j hj => by
    have q := hel j hj
    rw [hce, Nat.mul_one] at q
    have hxj : j < xs.length := by omega
    rw [List.getElem?_eq_getElem hxj] at q
    obtain ⟨s, q1, q2, _⟩ := DataW.trod_string he q
    have q3 : (xs.map (·.1))[j]? = some (.lit (.string texts[j])) := by rw [hxs']; simp [hj]
    have q4 : (xs[j]).1 = .lit (.string texts[j]) := by
      rw [List.getElem?_map, List.getElem?_eq_getElem hxj] at q3
      simpa using q3
    rw [q2] at q4
    simp at q4
    have q5 : (List.take 1 (List.drop j cs0.toList))[0]? = some (.string s) := by rw [q1]; rfl
    have q6 : cs0[j]? = some (.string s) := by simpa using q5
    rw [q6]
    obtain ⟨⟨l⟩⟩ := s
    have : l = texts[j] := q4
    subst this; rfl
  refine ⟨⟨cs0, e1, f1, hh, by rw [List.length_map, ← hct, ← hlen]; simp⟩, fun j => .string ⟨(texts.getD j []).toArray⟩, fun j hj => ?_, fun j s hs => ?_⟩
  · have hj' : j < texts.length := by simpa using hj
    refine ⟨?_, rfl⟩
    unfold hcell memOf
    rw [hh]
    simp only [cell j hj', List.getD_eq_getElem?_getD, List.getElem?_eq_getElem hj', Option.getD_some]
  · rw [List.getElem?_map, Option.map_eq_some_iff] at hs
    obtain ⟨l, h1, rfl⟩ := hs
    show Rep (memOf W) (.str l) (.string ⟨(texts.getD j []).toArray⟩)
    rw [List.getD_eq_getElem?_getD, h1]
    exact .str l
/-- An array of numbers. -/
theorem laid_nums {P : Program} {n : String} {kd : IntKind} {texts : List Int} {r : List (String × DataW Unit)} {W : World} {g : Nat} {t e : TypeId} {k : Nat}
    (h : laidMet P ((n, .agg (texts.map fun s => .lit (.int kd s))) :: r) W)
    (hg : P.globalNamed n = some g) (ht : (P.globals[g]?).map (·.type) = some t) (hu : P.underlying t = some (.array k e)) (he : P.underlying e = some (.int kd)) (hce : P.cellsOf e = 1) (hct : P.cellsOf t = texts.length) :
    GlobAt (memOf W) g (.tup (texts.map (Sh.i kd))) := by
  obtain ⟨ps, ⟨g0, t0, cs0, f0, p0, q0, hg0, ht0, hv0, hd0, _, e0⟩, _, hrows⟩ := h
  obtain rfl := Option.some.inj (hg.symm.trans hg0)
  obtain rfl := Option.some.inj (ht.symm.trans ht0)
  obtain ⟨e1, f1, hh⟩ := var_heap hg hv0
  obtain ⟨xs, m, _, hx, hlen, hxs, hel⟩ := DataW.trod_array hu hd0
  have hxs' : xs.map (·.1) = texts.map fun s => .lit (.int kd s) := by
    have := congrArg Prod.fst hx
    simp at this
    exact this.symm
  have hkt : k = texts.length := by
    have := congrArg List.length hxs'
    simp at this
    omega
  subst hkt
  have cell : ∀ j (hj : j < texts.length), cs0[j]? = some (.int kd texts[j]) := fun j hj => by
    have q := hel j hj
    rw [hce, Nat.mul_one] at q
    have hxj : j < xs.length := by omega
    rw [List.getElem?_eq_getElem hxj] at q
    obtain ⟨s, q1, q2, _⟩ := DataW.trod_int he q
    have q3 : (xs.map (·.1))[j]? = some (.lit (.int kd texts[j])) := by rw [hxs']; simp [hj]
    have q4 : (xs[j]).1 = .lit (.int kd texts[j]) := by
      rw [List.getElem?_map, List.getElem?_eq_getElem hxj] at q3
      simpa using q3
    rw [q2] at q4
    simp at q4
    have q5 : (List.take 1 (List.drop j cs0.toList))[0]? = some (.int kd s) := by rw [q1]; rfl
    have q6 : cs0[j]? = some (.int kd s) := by simpa using q5
    rw [q6]
    rw [q4]
  refine ⟨⟨cs0, e1, f1, hh, by rw [List.length_map, ← hct, ← hlen]; simp⟩, fun j => .int kd (texts.getD j 0), fun j hj => ?_, fun j s hs => ?_⟩
  · have hj' : j < texts.length := by simpa using hj
    refine ⟨?_, rfl⟩
    unfold hcell memOf
    rw [hh]
    simp only [cell j hj', List.getD_eq_getElem?_getD, List.getElem?_eq_getElem hj', Option.getD_some]
  · rw [List.getElem?_map, Option.map_eq_some_iff] at hs
    obtain ⟨l, h1, rfl⟩ := hs
    show Rep (memOf W) (.i kd l) (.int kd (texts.getD j 0))
    rw [List.getD_eq_getElem?_getD, h1]
    exact .i kd l
end Go.Sx
namespace Go.Proofs
open Go Go.Sx Go.RowKit Go.ChangeShapes
theorem star7 : "*" ++ "errors.errorString" = "*errors.errorString" := by decide
theorem row7 (u : TypeId) (h : Tryz.prog.typeName? 3 u = some "*errors.errorString") : u = 242 :=
  typeName_ptr_named (nm := "errors.errorString") (by rw [star7]; kernel_rfl) (by kernel_rfl) (by decide) u (by rw [star7]; exact h)
open YtikaakiadiaeoaaGreatDoor.Rows in
/-- What the rows of chapter 7 list. -/
abbrev laid7 : List (String × DataW Unit) := storeListsRow.laid
theorem gls_laid {W : World} (h : laidMetH Tryz.prog laid7 W) : GlobOK (gls7 W7) (memOf W) := by
  rw [MakeChecks.laidMetH_plain _ _ _ (by kernel_rfl)] at h
  have e16 : GlobAt (memOf W) 16 (.tup (pow10.map (Sh.i .u64))) := laid_nums (kd := .u64) (texts := pow10) h.tail.tail (by kernel_rfl) (by kernel_rfl) Tryz.underlying233 Tryz.underlying217 (by kernel_rfl) (by kernel_rfl)
  have e5 : GlobAt (memOf W) 5 (.er 5 242) := laid_er h.tail.tail.tail (by kernel_rfl) (by kernel_rfl) Tryz.underlying52 row7 Tryz.underlying242 Tryz.underlying244 rfl rfl Tryz.underlying9 (by kernel_rfl) (by kernel_rfl)
  have e6 : GlobAt (memOf W) 6 (.er 6 242) := laid_er h.tail.tail.tail.tail (by kernel_rfl) (by kernel_rfl) Tryz.underlying52 row7 Tryz.underlying242 Tryz.underlying244 rfl rfl Tryz.underlying9 (by kernel_rfl) (by kernel_rfl)
  have e0 : GlobAt (memOf W) 0 (.er 0 242) := laid_er h.tail.tail.tail.tail.tail (by kernel_rfl) (by kernel_rfl) Tryz.underlying52 row7 Tryz.underlying242 Tryz.underlying244 rfl rfl Tryz.underlying9 (by kernel_rfl) (by kernel_rfl)
  have e3 : GlobAt (memOf W) 3 (.er 3 242) := laid_er h.tail.tail.tail.tail.tail.tail (by kernel_rfl) (by kernel_rfl) Tryz.underlying52 row7 Tryz.underlying242 Tryz.underlying244 rfl rfl Tryz.underlying9 (by kernel_rfl) (by kernel_rfl)
  have e1 : GlobAt (memOf W) 1 (.er 1 242) := laid_er h.tail.tail.tail.tail.tail.tail.tail (by kernel_rfl) (by kernel_rfl) Tryz.underlying52 row7 Tryz.underlying242 Tryz.underlying244 rfl rfl Tryz.underlying9 (by kernel_rfl) (by kernel_rfl)
  have e7 : GlobAt (memOf W) 7 (.tup (wds W7 7 4)) := laid_strs (texts := [W7 7 0, W7 7 1, W7 7 2, W7 7 3]) h.tail.tail.tail.tail.tail.tail.tail.tail (by kernel_rfl) (by kernel_rfl) Tryz.underlying182 Tryz.underlying9 (by kernel_rfl) (by kernel_rfl)
  have e8 : GlobAt (memOf W) 8 (.tup (wds W7 8 7)) := laid_strs (texts := [W7 8 0, W7 8 1, W7 8 2, W7 8 3, W7 8 4, W7 8 5, W7 8 6]) h.tail.tail.tail.tail.tail.tail.tail.tail.tail (by kernel_rfl) (by kernel_rfl) Tryz.underlying183 Tryz.underlying9 (by kernel_rfl) (by kernel_rfl)
  have e9 : GlobAt (memOf W) 9 (.tup (wds W7 9 9)) := laid_strs (texts := [W7 9 0, W7 9 1, W7 9 2, W7 9 3, W7 9 4, W7 9 5, W7 9 6, W7 9 7, W7 9 8]) h.tail.tail.tail.tail.tail.tail.tail.tail.tail.tail (by kernel_rfl) (by kernel_rfl) Tryz.underlying184 Tryz.underlying9 (by kernel_rfl) (by kernel_rfl)
  have e10 : GlobAt (memOf W) 10 (.tup (wds W7 10 3)) := laid_strs (texts := [W7 10 0, W7 10 1, W7 10 2]) h.tail.tail.tail.tail.tail.tail.tail.tail.tail.tail.tail (by kernel_rfl) (by kernel_rfl) Tryz.underlying185 Tryz.underlying9 (by kernel_rfl) (by kernel_rfl)
  have e11 : GlobAt (memOf W) 11 (.tup (wds W7 11 4)) := laid_strs (texts := [W7 11 0, W7 11 1, W7 11 2, W7 11 3]) h.tail.tail.tail.tail.tail.tail.tail.tail.tail.tail.tail.tail (by kernel_rfl) (by kernel_rfl) Tryz.underlying182 Tryz.underlying9 (by kernel_rfl) (by kernel_rfl)
  have e12 : GlobAt (memOf W) 12 (.tup (wds W7 12 4)) := laid_strs (texts := [W7 12 0, W7 12 1, W7 12 2, W7 12 3]) h.tail.tail.tail.tail.tail.tail.tail.tail.tail.tail.tail.tail.tail (by kernel_rfl) (by kernel_rfl) Tryz.underlying182 Tryz.underlying9 (by kernel_rfl) (by kernel_rfl)
  intro g s hg
  match g, hg with
  | 0, hg => cases hg; exact e0
  | 1, hg => cases hg; exact e1
  | 2, hg => cases hg
  | 3, hg => cases hg; exact e3
  | 4, hg => cases hg
  | 5, hg => cases hg; exact e5
  | 6, hg => cases hg; exact e6
  | 7, hg => cases hg; exact e7
  | 8, hg => cases hg; exact e8
  | 9, hg => cases hg; exact e9
  | 10, hg => cases hg; exact e10
  | 11, hg => cases hg; exact e11
  | 12, hg => cases hg; exact e12
  | 13, hg => cases hg
  | 14, hg => cases hg
  | 15, hg => cases hg
  | 16, hg => cases hg; exact e16
  | n + 17, hg => simp [gls7, look?] at hg
end Go.Proofs
namespace Go.Sx
open Go.RowKit Go.ChangeShapes Go.WideShapes Go.Deep Go.Pl
theorem SpecRes.below {H : Mem} {w w' : World} {s : Sh} {v : Value} {H' : Mem} (h : SpecRes H w s v H' w') : Below w.heap.size w w' := ⟨h.os, h.tape, h.output, h.size, h.old⟩
theorem SpecRes.bool {H : Mem} {w w' : World} {b : Bool} {v : Value} {H' : Mem} (h : SpecRes H w (.b b) v H' w') : v = .bool b := by
  obtain ⟨E1, _, _, h1, _⟩ := h.res 0
  exact h1
/-- Each parameter's type can be read. -/
def rowedB (P : Program) (ts : List TypeId) : Bool := ts.all fun t => P.readableRec t && decide (t < P.types.size)
section
variable {H : Type} {enc : TypeId × Value → H} {P : Program}
theorem below_all (hl : laidOutB P = true) {W W' : World} (hb : Below W.heap.size W W') :
    ∀ {ts : List TypeId} {vs : List Value} {ds : List (DataW H)} {p : List MemPlace}, rowedB P ts = true → DataW.TrodAll enc P W 0 (fun _ => true) true ts vs ds p → (∀ x ∈ p, x.block < W.heap.size) →
      DataW.TrodAll enc P W' 0 (fun b => decide (b < W.heap.size)) true ts vs ds p
  | [], _, _, _, _, h, _ => by
    obtain ⟨rfl, rfl, rfl⟩ := trodAll_nil h
    exact rfl
  | t :: ts, _, _, _, hr, h, hlt => by
    obtain ⟨v, vs1, d, ds1, a, b, rfl, rfl, rfl, h1, h2⟩ := trodAll_cons h
    simp only [rowedB, List.all_cons, Bool.and_eq_true, decide_eq_true_eq] at hr
    exact ⟨a, b, Below.trod hl hr.1.1 hr.1.2 h1 hb fun x hx => hlt x (List.mem_append_left _ hx), below_all hl hb (by simp only [rowedB]; exact hr.2) h2 fun x hx => hlt x (List.mem_append_right _ hx), rfl⟩
/-- The row's post of a law that has answered true. -/
theorem post_law (hl : laidOutB P = true) {f : Func} {s : ChangeSpec} {W W' : World} {args : Array Value} {t : TypeId} {ds gs : List (DataW H)} {before : List MemPlace} (hs : s.vars = []) (hr : rowedB P f.params.toList = true) (ht : f.resultTypes = #[t]) (hu : P.underlying t = some .bool)
    (hW : DataW.Whole enc P f.params.toList s.vars false W args.toList ds gs before) (hb : Below W.heap.size W W')
    (h1 : (s.fn H (ds ++ gs)).results = [.lit (.bool true)]) (h2 : (s.fn H (ds ++ gs)).args = ds) (h3 : (s.fn H (ds ++ gs)).vars = []) :
    s.post enc P f false true false false W args (.bool true) W' := by
  have hlt := hW.lt
  have hW0 := hW
  obtain ⟨p, q, hA, hV, e, hfz, hnd⟩ := hW
  rw [hs] at hV
  obtain ⟨rfl, rfl⟩ := trodVars_none hV
  subst e
  refine ⟨ds, [], p ++ [], [], p, [], hW0, ?_, ?_, ?_, Below.frame hb _, fun e => by cases e⟩
  · rw [h1, ht]
    exact trodAll_mk1 (shut_bool hu true)
  · rw [h2]
    exact below_all hl hb hr hA fun x hx => hlt x (by simpa using hx)
  · rw [h3, hs]
    exact rfl
end
theorem okB_rows {α : Type} [Row α] {k n : Nat} {g : Nat → List Sh} (hk : ∀ ns : List Int, ns.length = k → (Row.get (α := α) (shInts ns)).isSome = true) (h : ∀ i, i < n → ∃ ns : List Int, ns.length = k ∧ g i = shInts ns ∧ ∀ n ∈ ns, int64 n) : okB α n g = true := by
  induction n with
  | zero => rfl
  | succ n ih =>
    obtain ⟨ns, h1, h2, _⟩ := h n (by omega)
    simp only [okB, ih fun i hi => h i (by omega), Bool.true_and]
    rw [h2]
    exact hk ns h1
theorem okB_oj {n : Nat} {g : Nat → List Sh} (h : ∀ i, i < n → ∃ ns : List Int, ns.length = 2 ∧ g i = shInts ns ∧ ∀ n ∈ ns, int64 n) : okB Oj n g = true := okB_rows (fun ns hn => by
  match ns, hn with
  | [a, b], _ => rfl) h
theorem okB_cl {n : Nat} {g : Nat → List Sh} (h : ∀ i, i < n → ∃ ns : List Int, ns.length = 4 ∧ g i = shInts ns ∧ ∀ n ∈ ns, int64 n) : okB Cl n g = true := okB_rows (fun ns hn => by
  match ns, hn with
  | [a, b, c, d], _ => rfl) h
theorem okB_in {n : Nat} {g : Nat → List Sh} (h : ∀ i, i < n → ∃ ns : List Int, ns.length = 1 ∧ g i = shInts ns ∧ ∀ n ∈ ns, int64 n) : okB Int n g = true := okB_rows (fun ns hn => by
  match ns, hn with
  | [a], _ => rfl) h
end Go.Sx
namespace Go.Proofs.YtikaakiadiaeoaaGreatDoor
open Go.ChangeShapes Go.WideShapes Go.ChangeAt Go.WideMaps Go.WideElems Go.RowKit Go.Sx Go.Pl
theorem own7 : ownKnob Tryz.prog.godebug = none := by kernel_rfl
theorem laidOut7 : laidOutB Tryz.prog = true := by kernel_rfl
/-- The door's own heap meets the condition. -/
theorem door7 (os : Os) (args : Array Value) : laidMetH Tryz.prog laid7 ((World.doorLaid Tryz.prog 400 os).forCall (fun _ _ => 0) ⟨#[], args, []⟩).memory :=
  laidMetH_of_parts3 (fuel := 8) (laidMet_of_run' 8 (by kernel_rfl) (by kernel_rfl)) (by kernel_rfl) (by kernel_rfl)
end Go.Proofs.YtikaakiadiaeoaaGreatDoor
namespace Go.Proofs.YtikaakiadiaeoaaGreatDoor
open Go.ChangeShapes Go.WideShapes Go.ChangeAt Go.WideMaps Go.WideElems Go.RowKit Go.Sx Go.Pl
set_option maxRecDepth 100000 in
theorem lifted3 (os : Os) (started : os.Started) (H : Type) (enc : TypeId × Value → H) :
    ReturnsInHanded {} Tryz.checked os 3 .any (fun w args => (Rows.storeListsSpec.pre enc Tryz.prog Tryz.f3 [] false w args ∧ laidMetH Tryz.prog laid7 w) ∧ sizedMet enc Tryz.prog Tryz.f3 (OpenSpec.ofChange Rows.storeListsSpec) false w args)
      (Rows.storeListsSpec.post enc Tryz.prog Tryz.f3 false true false false) := by
  refine returnsInHanded_of_change_and (C := Tryz.checked) (X := fun w _ => laidMetH Tryz.prog laid7 w) (fun _ _ _ hh h => h.of_heap hh) own7 started (by kernel_rfl) Tryz.func3
    (ChangeSpec.witness_shaped (enc := enc) (C := Tryz.checked) (os := os) (X := fun w _ => laidMetH Tryz.prog laid7 w) false (World.doorLaid Tryz.prog 400 os) #[.slice none 0 0, .int .i64 0, .int .i64 0] 8 rfl (World.shaped_of_RefB (by kernel_rfl) (by kernel_rfl)) (by kernel_rfl) (by kernel_rfl) (by kernel_rfl) (door7 os _)) ?_
  intro W base args ds gs before hval0 hW _ _ hL _
  have hval : ∀ (j : Nat) t v, Tryz.f3.params[j]? = some t → args[j]? = some v → Value.okWide Tryz.prog W .any base t v := hval0
  have hW' := hW
  obtain ⟨p, q, hA0, hV, e, hfz, hnd⟩ := hW
  obtain ⟨rfl, rfl⟩ := trodVars_none hV
  have hA : DataW.TrodAll enc Tryz.prog W 0 (fun _ => true) true Tryz.f3.params.toList args.toList ds p := hA0
  rw [Tryz.params3] at hA hval
  obtain ⟨v0, vs0, d0, ds0, p0, q0, ea, rfl, rfl, t0, hA⟩ := trodAll_cons hA
  obtain ⟨v1, vs1, d1, ds1, p1, q1, rfl, rfl, rfl, t1, hA⟩ := trodAll_cons hA
  obtain ⟨v2, vs2, d2, ds2, p2, q2, rfl, rfl, rfl, t2, hA⟩ := trodAll_cons hA
  obtain ⟨rfl, rfl, rfl⟩ := trodAll_nil hA
  have at_ : ∀ (j : Nat) v, [v0, v1, v2][j]? = some v → args[j]? = some v := fun j v h => by rw [← Array.getElem?_toList, ea]; exact h
  obtain ⟨k0, s0, r0, a0⟩ := rep_slice_arg (k := 1) Tryz.underlying22 (by kernel_rfl) (by kernel_rfl) (by decide) (hval 0 22 v0 rfl (at_ 0 v0 rfl)) t0
  obtain ⟨x1, rfl, _, _, _⟩ := open_int Tryz.underlying3 (hval 1 3 v1 rfl (at_ 1 v1 rfl)) t1
  obtain ⟨x2, rfl, _, _, _⟩ := open_int Tryz.underlying3 (hval 2 3 v2 rfl (at_ 2 v2 rfl)) t2
  have hc := O3 (memOf W) W [.sl 1 k0 s0, .i .i64 x1, .i .i64 x2] [v0, .int .i64 x1, .int .i64 x2] (fun s => s = .b true) (memOf_on W) (gls_laid hL)
    ⟨r0, .i _ _, .i _ _, trivial⟩ ⟨okB_in a0, rfl⟩
  have eargs : args = [v0, .int .i64 x1, .int .i64 x2].toArray := by rw [← ea]
  rw [eargs]
  refine hc.mono fun e W' ⟨v, s, H', he, hs, hr⟩ => ?_
  subst he hs
  obtain rfl := hr.bool
  refine ⟨_, rfl, post_law laidOut7 rfl (by kernel_rfl) (by kernel_rfl) Tryz.underlying4 (by rw [eargs] at hW'; exact hW') hr.below rfl rfl rfl⟩
theorem storeLists_holds : Rows.StoreListsSaid :=
  OpenClaim.holds_of_wide 3 Tryz.f3 rfl rfl rfl rfl rfl rfl rfl ⟨rfl, rfl, rfl, rfl, rfl⟩ rfl rfl rfl rfl rfl (by kernel_rfl) Tryz.func3 (by kernel_rfl)
    (of_decide_eq_true (by kernel_rfl)) (by unfold Func.isWrapper; first | (rw [if_pos (by decide +kernel)]; kernel_rfl) | (rw [if_neg (by decide +kernel)]; exact ⟨rfl, rfl⟩))
    (fun os started H enc _ => lifted3 os started H enc)
end Go.Proofs.YtikaakiadiaeoaaGreatDoor
namespace Go.Proofs.YtikaakiadiaeoaaGreatDoor
open Go
theorem storeLists_card : Rows.StoreListsCardSaid :=
  Claim7.holds_tied_plain_at .later [] [.data, .data, .data, .sentinel, .sentinel, .sentinel, .sentinel, .sentinel, .data, .data, .data, .data, .data, .data] true (true, "4a60ae6fac43e9984ca8293a95a0ce4093e80da91277938538b84fd690e406b6") true
    storeLists_holds (fun _ h => by cases h) (by kernel_rfl) (fun _ h => by cases h) storeLists_row_tie rfl ⟨rfl, rfl⟩ (by kernel_rfl) rfl
    (fun f fn hf hfn => by
      obtain rfl : f = 3 := Option.some.inj ((show Tryz.prog.funcNamed "umpire/umpirelaw7.StoreLists" = some 3 by kernel_rfl).symm.trans hf) |>.symm
      obtain rfl : fn = Tryz.f3 := (Option.some.inj (Tryz.func3.symm.trans hfn)).symm
      exact ⟨by kernel_rfl, fun j t ht => by
        rw [Tryz.params3] at ht
        have hm : t ∈ [22, 3, 3] := by simpa using Array.mem_of_getElem? ht
        have hall : ([22, 3, 3].all fun u => !Tryz.prog.wantsStandIn u) = true := by kernel_rfl
        exact (show Tryz.prog.wantsStandIn t = false by simpa using List.all_eq_true.1 hall t hm)⟩)
    (by kernel_rfl)
#print axioms storeLists_card
end Go.Proofs.YtikaakiadiaeoaaGreatDoor
