/-
  Chapter 6: SpecApart. Chapter 6: the plain law: texts split, cut and spelt. Chapter 6: the plain law: a state's key tells the state, and the state that a key tells has that key. Chapter 6: an operation on any state: summaries with one leaf. Chapter 6: SpecLast: evaluated. Chapter 6: SpecLast: what the evaluated trees ask.: the evaluated trees as lemmas, Chapter 6: a state behind few operations may be worked on. Chapter 6: the plain law of SpecLast: what a state says last. Chapter 6: SpecLast. From the readings of a row to the shapes of the executor: ints, flat structs of ints, slices of them, the listed variables; and back: the row's post. The listed variables, as the executor's globals.
-/
import Derived.Test.YtikaakiadiaeoaaGreatDoorS10
import Derived.ProofKit
import Derived.Deep.Slices
import Derived.Stop.LaidErr
import Derived.LaidMore
import Derived.OpenShut
import Derived.MakeChecks
namespace Go.Pl
open Go Go.Sx Go.Proofs
theorem lstP (ps : List Pr) : lst Pr (len ps) (fnR (nth ps)) = ps := lst_nth ps
theorem wf_iff {ps : List Pr} : wfP ps = true ↔ SortP ps ∧ ∀ p ∈ ps, 0 ≤ p.key ∧ p.key ≤ 1000 := by
 unfold wfP SortP
 rw [Bool.and_eq_true, decide_eq_true_eq, List.all_eq_true]
 simp
def MapI (i : Nat) (ps : List Pr) : Prop := wfP ps = true ∧ ps.length ≤ i
theorem MapI.ok {i : Nat} {ps : List Pr} (h : MapI i ps) (hi : i ≤ 1000) : okM (len ps) (fnR (nth ps)) = true := by
 unfold okM wfG
 rw [lstP, okB_put, h.1]
 have := h.2
 have e : (len ps ≤ 100000) := by unfold len; omega
 simp only [Bool.and_eq_true, decide_eq_true_eq]
 refine ⟨⟨⟨trivial, e⟩, trivial⟩, room_le (by unfold len; omega) (by omega)⟩
section
variable {i : Nat} {ps : List Pr} {a k v b k' v' : Int}
end
end Go.Pl
namespace Go.Proofs
open Go Go.Sx Go.Pl
theorem fnOK_no {g : Nat} : FnOK Tryz.prog (gls7 W7) g fun _ => .fail := fun _ _ _ _ _ _ _ _ h => h.elim
section
variable {H0 : Mem} {w0 : World} {φ : Sh → Prop} {n : Nat} {c : Nat → Ca} {x y z x' y' z' : Int}
end
end Go.Proofs
namespace Go.Pl
open Go Go.Sx Go.Proofs
open Go.Lib (decDigits itoa parseUint10 splitK index count)
end Go.Pl
namespace Go.Pl
open Go Go.Sx Go.Proofs
def goodS (x y op k v : Int) : Bool := !(badOp x op || badKV x y op k v)
structure InvB (m : Nat) (s : Sta) : Prop where
 kd : s.kind = 1 ∨ s.kind = 2 ∨ s.kind = 3 ∨ s.kind = 4
 lq : s.q.length ≤ m
 lp : s.ps.length ≤ m
 nm : s.kind = 1 ∨ s.kind = 2 → s.q = [] ∧ s.ps = [] ∧ beyondB s.kind 0 s.num = false
 qu : s.kind = 3 → s.num = 0 ∧ s.ps = [] ∧ ∀ v ∈ s.q, beyondB 3 0 v = false
 mp : s.kind = 4 → s.num = 0 ∧ s.q = [] ∧ SortP s.ps ∧ ∀ p ∈ s.ps, beyondB 4 p.key p.val = false
theorem bey_in {k x y : Int} (h : beyondB k x y = false) : 0 ≤ x ∧ x ≤ 1000 ∧ -1000000000000000 ≤ y ∧ y ≤ 1000000000000000 := by
 unfold beyondB at h
 simp only [Bool.or_eq_false_iff, decide_eq_false_iff_not] at h
 split at h <;> omega
theorem bey_mk {k x y : Int} (h1 : 0 ≤ x) (h2 : x ≤ 1000) (h3 : -1000000000 ≤ y) (h4 : y ≤ 1000000000) : beyondB k x y = false := by
 unfold beyondB
 simp only [Bool.or_eq_false_iff, decide_eq_false_iff_not]
 split <;> omega
theorem put_mem {k v : Int} : ∀ {ps : List Pr}, SortP ps → ∀ p ∈ putP ps k v, p = ⟨k, v⟩ ∨ p ∈ ps
 | [], _, p, hp => by
  have e : putP [] k v = [⟨k, v⟩] := by simp [putP, hasP, posP]
  rw [e] at hp
  exact .inl (by simpa using hp)
 | a :: ps, hs, p, hp => by
  by_cases c1 : a.key < k
  ·rw [put_lt c1] at hp
   rcases List.mem_cons.1 hp with rfl | hp
   ·exact .inr List.mem_cons_self
   ·rcases put_mem (sort_cons hs).2 p hp with h | h
    ·exact .inl h
    ·exact .inr (List.mem_cons_of_mem _ h)
  ·by_cases c2 : a.key = k
   ·rw [put_eq c2] at hp
    rcases List.mem_cons.1 hp with rfl | hp
    ·exact .inl rfl
    ·exact .inr (List.mem_cons_of_mem _ hp)
   ·rw [put_gt hs (by omega)] at hp
    rcases List.mem_cons.1 hp with rfl | hp
    ·exact .inl rfl
    ·exact .inr hp
theorem put_len (ps : List Pr) (k v : Int) : (putP ps k v).length ≤ ps.length + 1 := by
 rw [len_put]
 split <;> omega
theorem del_len {k : Int} : ∀ {ps : List Pr}, SortP ps → (delP ps k).length ≤ ps.length
 | [], _ => by simp [delP, hasP]
 | a :: ps, hs => by
  by_cases c1 : a.key < k
  ·rw [del_lt c1]
   have := del_len (k := k) (sort_cons hs).2
   simp only [List.length_cons]; omega
  ·by_cases c2 : a.key = k
   ·rw [del_eq c2]; simp
   ·rw [del_gt hs (by omega)]; exact Nat.le_refl _
theorem goodS_op {x y op k v : Int} (h : goodS x y op k v = true) : ofOp op = x ∧ x ≠ 0 ∧ 0 ≤ k ∧ k ≤ 1000 ∧ -1000000000 ≤ v ∧ v ≤ 1000000000 ∧ (op = 3 → beyondB x 0 (addW y v) = false) := by
 unfold goodS badOp badKV at h
 simp only [Bool.not_eq_true', Bool.or_eq_false_iff, decide_eq_false_iff_not, Bool.not_eq_false', decide_eq_true_eq, Bool.and_eq_false_imp] at h
 obtain ⟨⟨h1, h2⟩, h3⟩ := h
 obtain ⟨⟨⟨⟨⟨⟨a1, a2⟩, a3⟩, a4⟩, a5⟩, a6⟩, a7⟩ := h3
 exact ⟨h2, h1, by omega, by omega, by omega, by omega, fun e => a7 e⟩
theorem ofOp_in {op x : Int} (h : ofOp op = x) (hx : x ≠ 0) : (x = 1 ∧ (op = 1 ∨ op = 2)) ∨ (x = 2 ∧ (op = 3 ∨ op = 4)) ∨ (x = 3 ∧ (op = 5 ∨ op = 6)) ∨ (x = 4 ∧ (op = 7 ∨ op = 8 ∨ op = 9)) := by
 unfold ofOp at h
 repeat' split at h
 all_goals omega
theorem invB_nx {m : Nat} {s : Sta} {op k v : Int} (h : InvB m s) (hg : goodS s.kind s.num op k v = true) : InvB (m + 1) (opT s op k v).1 := by
 obtain ⟨h1, h2, h3, h4, h5, h6, h7⟩ := goodS_op hg
 have hu : InvB (m + 1) s := ⟨h.kd, Nat.le_succ_of_le h.lq, Nat.le_succ_of_le h.lp, h.nm, h.qu, h.mp⟩
 have hlq := h.lq
 have hlp := h.lp
 rcases ofOp_in h1 h2 with ⟨e, o⟩ | ⟨e, o⟩ | ⟨e, o⟩ | ⟨e, o⟩
 ·have hn := h.nm (.inl e)
  rcases o with rfl | rfl
  ·exact hu
  ·refine ⟨h.kd, hu.lq, hu.lp, fun _ => ⟨hn.1, hn.2.1, ?_⟩, fun q => ?_, fun q => ?_⟩
   ·exact bey_mk (Int.le_refl 0) (by omega) h5 h6
   ·have q : s.kind = 3 := q
    omega
   ·have q : s.kind = 4 := q
    omega
 ·have hn := h.nm (.inr e)
  rcases o with rfl | rfl
  ·refine ⟨h.kd, hu.lq, hu.lp, fun _ => ⟨hn.1, hn.2.1, h7 rfl⟩, fun q => ?_, fun q => ?_⟩
   ·have q : s.kind = 3 := q
    omega
   ·have q : s.kind = 4 := q
    omega
  ·exact hu
 ·have hn := h.qu e
  rcases o with rfl | rfl
  ·refine ⟨h.kd, ?_, hu.lp, fun q => ?_, fun _ => ⟨hn.1, hn.2.1, fun x hx => ?_⟩, fun q => ?_⟩
   ·show (s.q ++ [v]).length ≤ m + 1
    simp; omega
   ·have q : s.kind = 1 ∨ s.kind = 2 := q
    omega
   ·rcases List.mem_append.1 hx with hx | hx
    ·exact hn.2.2 x hx
    ·obtain rfl : x = v := by simpa using hx
     exact bey_mk (Int.le_refl 0) (by omega) h5 h6
   ·have q : s.kind = 4 := q
    omega
  ·refine ⟨h.kd, ?_, hu.lp, fun q => ?_, fun _ => ⟨hn.1, hn.2.1, fun x hx => hn.2.2 x (List.mem_of_mem_tail hx)⟩, fun q => ?_⟩
   ·show s.q.tail.length ≤ m + 1
    simp; omega
   ·have q : s.kind = 1 ∨ s.kind = 2 := q
    omega
   ·have q : s.kind = 4 := q
    omega
 ·have hn := h.mp e
  rcases o with rfl | rfl | rfl
  ·refine ⟨h.kd, hu.lq, ?_, fun q => ?_, fun q => ?_, fun _ => ⟨hn.1, hn.2.1, (put_keys hn.2.2.1).2, fun p hp => ?_⟩⟩
   ·have := put_len s.ps k v
    show (putP s.ps k v).length ≤ m + 1
    omega
   ·have q : s.kind = 1 ∨ s.kind = 2 := q
    omega
   ·have q : s.kind = 3 := q
    omega
   ·rcases put_mem hn.2.2.1 p hp with rfl | hp
    ·exact bey_mk h3 h4 h5 h6
    ·exact hn.2.2.2 p hp
  ·exact hu
  ·refine ⟨h.kd, hu.lq, ?_, fun q => ?_, fun q => ?_, fun _ => ⟨hn.1, hn.2.1, (del_keys hn.2.2.1).2, fun p hp => hn.2.2.2 p ((del_keys hn.2.2.1).1 p hp)⟩⟩
   ·have := del_len (k := k) hn.2.2.1
    show (delP s.ps k).length ≤ m + 1
    omega
   ·have q : s.kind = 1 ∨ s.kind = 2 := q
    omega
   ·have q : s.kind = 3 := q
    omega
theorem invB_new {k i : Int} (h : badOb k i = false) : InvB 0 ⟨k, i, [], []⟩ := by
 unfold badOb at h
 simp only [Bool.or_eq_false_iff, Bool.not_eq_false', Bool.and_eq_true, decide_eq_true_eq, decide_eq_false_iff_not, Bool.and_eq_false_imp, Bool.not_eq_true', Bool.or_eq_false_iff] at h
 obtain ⟨⟨⟨⟨h1, h2⟩, h3⟩, h4⟩, h5⟩ := h
 have h0 : k ≠ 1 → k ≠ 2 → i = 0 := fun a b => by
  exact h5 ⟨a, b⟩
 refine ⟨?_, Nat.le_refl 0, Nat.le_refl 0, fun q => ⟨rfl, rfl, bey_mk (Int.le_refl 0) (by omega) (show -1000000000 ≤ i by omega) (show i ≤ 1000000000 by omega)⟩, fun q => ⟨?_, rfl, fun _ h => by cases h⟩, fun q => ⟨?_, rfl, List.Pairwise.nil, fun _ h => by cases h⟩⟩
 ·show k = 1 ∨ k = 2 ∨ k = 3 ∨ k = 4
  omega
 ·have q : k = 3 := q
  exact h0 (by omega) (by omega)
 ·have q : k = 4 := q
  exact h0 (by omega) (by omega)
structure NumS (m : Nat) (s : Sta) : Prop where
 lq : s.q.length ≤ m
 lp : s.ps.length ≤ m
 nm : in64 s.num = true
 qu : ∀ v ∈ s.q, in64 v = true
 mp : ∀ p ∈ s.ps, in64 p.key = true ∧ in64 p.val = true
end Go.Pl
namespace Go.Pl
open Go Go.Sx Go.Proofs
def badS (x y op k v : Int) : Bool := badOp x op || badKV x y op k v
def errS (x op : Int) : Nat := if badOp x op = true then 1 else 3
def isES (e : Nat) (x op : Int) : Bool := Nat.beq (errS x op) e
def okS (a : Nat) (h : Nat → List Sh) (b : Nat) (l : Nat → List Sh) : Bool := (okB Int a h && roomB (a + 1) 8) && (wfG b l && roomB (b + 1) 16)
def nuS (x y op k v : Int) (a : Nat) (h : Nat → List Sh) (b : Nat) (l : Nat → List Sh) : Int := (opT ⟨x, y, lst Int a h, lst Pr b l⟩ op k v).1.num
def nqS (x y op k v : Int) (a : Nat) (h : Nat → List Sh) (b : Nat) (l : Nat → List Sh) : List Int := (opT ⟨x, y, lst Int a h, lst Pr b l⟩ op k v).1.q
def npS (x y op k v : Int) (a : Nat) (h : Nat → List Sh) (b : Nat) (l : Nat → List Sh) : List Pr := (opT ⟨x, y, lst Int a h, lst Pr b l⟩ op k v).1.ps
def rtS (x y op k v : Int) (a : Nat) (h : Nat → List Sh) (b : Nat) (l : Nat → List Sh) : Int := (opT ⟨x, y, lst Int a h, lst Pr b l⟩ op k v).2.1
def gtS (x y op k v : Int) (a : Nat) (h : Nat → List Sh) (b : Nat) (l : Nat → List Sh) : Int := (opT ⟨x, y, lst Int a h, lst Pr b l⟩ op k v).2.2
theorem op_kind (s : Sta) (op k v : Int) : (opT s op k v).1.kind = s.kind := by
 unfold opT
 repeat' split
 all_goals rfl
theorem okS_ok {a : Nat} {h : Nat → List Sh} {b : Nat} {l : Nat → List Sh} (q : okS a h b l = true) (op : Int) : okB Int a h = true ∧ okB Pr b l = true ∧ roomB (a + 1) 8 = true ∧ mapOK op b l = true := by
 unfold okS at q
 rw [Bool.and_eq_true, Bool.and_eq_true] at q
 obtain ⟨⟨h1, h2⟩, h3⟩ := q
 refine ⟨h1, ?_, h2, ?_⟩
 ·rw [Bool.and_eq_true] at h3
  have := h3.1
  unfold wfG at this
  rw [Bool.and_eq_true, Bool.and_eq_true] at this
  exact this.1.1
 ·unfold mapOK; rw [h3]; simp
end Go.Pl
namespace Go.Proofs
open Go Go.Sx Go.Pl
noncomputable def okResS (x y op k v : Int) (a : Nat) (h : Nat → List Sh) (b : Nat) (l : Nat → List Sh) : Sh :=
 .tup [.agg [.i .i64 x, .i .i64 (nuS x y op k v a h b l), .sl 1 (len (nqS x y op k v a h b l)) (fnR (nth (nqS x y op k v a h b l))), .sl 2 (len (npS x y op k v a h b l)) (fnR (nth (npS x y op k v a h b l)))], .i .i64 (rtS x y op k v a h b l), .i .i64 (gtS x y op k v a h b l), .v .nilIface]
noncomputable def S42g : List Sh → Tree Sh
 | [.agg [.i .i64 x, .i .i64 y, s2, s3], t, u, v] => match slN 1 s2, slN 2 s3, icode t, icode u, icode v with
  | some (a, h), some (b, l), some op, some k, some v => .need (okS a h b l) (.need (goodS x y op k v) (.leaf (okResS x y op k v a h b l)))
  | _, _, _, _, _ => .fail
 | _ => .fail
noncomputable def S42b (e : Nat) : List Sh → Tree Sh
 | [.agg [.i .i64 x, .i .i64 y, s2, s3], t, u, v] => match slN 1 s2, slN 2 s3, icode t, icode u, icode v with
  | some (a, h), some (b, l), some op, some k, some v => .need (okS a h b l) (.need (badS x y op k v) (.need (isES e x op) (.leaf (erZ e))))
  | _, _, _, _, _ => .fail
 | _ => .fail
theorem err_casesS (x op : Int) : isES 1 x op = true ∨ isES 3 x op = true := by
 unfold isES errS
 split
 ·exact .inl rfl
 ·exact .inr rfl
theorem good_bad {x y op k v : Int} (h : goodS x y op k v = false) : badS x y op k v = true := by
 unfold goodS at h
 unfold badS
 generalize (badOp x op || badKV x y op k v) = b at h ⊢
 cases b
 ·cases h
 ·rfl
theorem OS42g : FnOK Tryz.prog (gls7 W7) 42 S42g := by
 intro H w shs args φ hon hg hr h
 unfold S42g at h
 split at h
 ·rename_i x y s2 s3 t u v
  split at h
  ·rename_i a hh b l op k v e1 e2 e3 e4 e5
   obtain ⟨h1, h2, hφ⟩ := h
   obtain ⟨m1, m2, m3, m4⟩ := okS_ok h1 op
   have hb' : badOp x op = false ∧ badKV x y op k v = false := by
    unfold goodS at h2
    simpa using h2
   have ek := op_kind ⟨x, y, lst Int a hh, lst Pr b l⟩ op k v
   refine O42 H w _ args φ hon hg hr ?_
   unfold F42
   simp only [e1, e2, e3, e4, e5]
   refine ⟨m1, m2, m3, fun q => no2 hb'.1 q, fun _ => ⟨fun q => no2 hb'.2 q, fun _ => ⟨m4, ?_⟩⟩⟩
   have : staS (opT ⟨x, y, lst Int a hh, lst Pr b l⟩ op k v).1 = [.i .i64 x, .i .i64 (nuS x y op k v a hh b l), .sl 1 (len (nqS x y op k v a hh b l)) (fnR (nth (nqS x y op k v a hh b l))), .sl 2 (len (npS x y op k v a hh b l)) (fnR (nth (npS x y op k v a hh b l)))] := by
    unfold staS
    rw [ek]
    rfl
   show φ _
   rw [this]
   exact hφ
  ·exact h.elim
 ·exact h.elim
theorem OS42b (e : Nat) : FnOK Tryz.prog (gls7 W7) 42 (S42b e) := by
 intro H w shs args φ hon hg hr h
 unfold S42b at h
 split at h
 ·rename_i x y s2 s3 t u v
  split at h
  ·rename_i a hh b l op k v e1 e2 e3 e4 e5
   obtain ⟨h1, hb, he, hφ⟩ := h
   have he := Nat.eq_of_beq_eq_true he
   obtain ⟨m1, m2, m3, m4⟩ := okS_ok h1 op
   refine (O42 H w _ args (fun s => s = .tup [.agg (staS zeroT), .i .i64 0, .i .i64 0, .er (errS x op) 242]) hon hg hr ?_).mono fun e w' ⟨v', s, H', he2, hs, r⟩ => ?_
   ·unfold F42
    simp only [e1, e2, e3, e4, e5]
    refine ⟨m1, m2, m3, fun q => ?_, fun q => ⟨fun _ => ?_, fun q2 => ?_⟩⟩
    ·show _ = _
     unfold errS; rw [if_pos q]
    ·show _ = _
     unfold errS; rw [if_neg (by rw [q]; simp)]
    ·unfold badS at hb
     rw [q] at hb
     exact no2 q2 hb
   ·subst hs
    rw [he] at r
    obtain ⟨H2, r2⟩ := (res_q4 r).wk (s' := erZ _) ⟨⟨rfl, rfl, .inl ⟨rfl, rfl⟩, .inl ⟨rfl, rfl⟩, trivial⟩, rfl, rfl, rfl, trivial⟩
    exact ⟨v', _, H2, he2, hφ, r2⟩
  ·exact h.elim
 ·exact h.elim
end Go.Proofs
namespace Go.Pl
open Go Go.Sx Go.Proofs
def bcode : Sh → Option Bool
 | .b x => some x
 | .v (.bool x) => some x
 | _ => none
def kindK (k : Int) : Bool := decide (1 ≤ k ∧ k ≤ 4)
def lastB (x y : Int) (a : Nat) (h : Nat → List Sh) (b : Nat) (l : Nat → List Sh) (k key : Int) (has : Bool) (val : Int) : Bool :=
 okS a h b l && decide (x = k ∧ (k = 1 ∨ k = 2 ∨ k = 3 ∨ k = 4) ∧ ((k = 1 ∨ k = 2) → has = true ∧ y = val) ∧ (k = 4 → wfP (lst Pr b l) = true ∧ getP (lst Pr b l) key = (if has then some val else none) ∧ (has = false → val = 0)))
def tells (x op k : Int) : Bool := decide ((x = 1 ∧ op = 1 ∧ k = 0) ∨ (x = 2 ∧ op = 4 ∧ k = 0) ∨ (x = 4 ∧ op = 8 ∧ 0 ≤ k ∧ k ≤ 1000))
end Go.Pl
namespace Go.Proofs
open Go.Sx.Tree
open Go Go.Sx Go.Pl
noncomputable def S41 : List Sh → Tree Sh
 | [.agg [t, u]] => match icode t, icode u with
  | some k, some (Int.ofNat 0) => .need (kindK k) (.leaf (.tup [.agg [.i .i64 k, .v (.int .i64 0), .sl 1 0 noI, .sl 2 0 noP], .v .nilIface]))
  | _, _ => .fail
 | _ => .fail
noncomputable def S43 : List Sh → Tree Sh
 | [.agg [.i .i64 x, t0, s2, s3], t1, t2, t3, t4] => match icode t0, slN 1 s2, slN 2 s3, icode t1, icode t2, bcode t3, icode t4 with
  | some y, some (a, h), some (b, l), some k, some key, some has, some val => .need (lastB x y a h b l k key has val) (.leaf (.b true))
  | _, _, _, _, _, _, _ => .fail
 | _ => .fail
noncomputable def T42 : List Sh → Tree Sh
 | [.agg [t0, .i .i64 y, s2, s3], t, u, v] => match icode t0, slN 1 s2, slN 2 s3, icode t, icode u, icode v with
  | some x, some (a, h), some (b, l), some op, some k, some (Int.ofNat 0) => .need (okS a h b l) (.need (tells x op k) (.leaf (.tup [.agg [.i .i64 x, .i .i64 y, .sl 1 a h, .sl 2 b l], .i .i64 (rtS x y op k 0 a h b l), .i .i64 (gtS x y op k 0 a h b l), .v .nilIface])))
  | _, _, _, _, _, _ => .fail
 | _ => .fail
noncomputable def specT : Nat → Option (List Sh → Tree Sh)
 | 42 => some T42
 | _ => none
noncomputable def spec8 : Nat → Option (List Sh → Tree Sh)
 | 40 => some F40
 | 41 => some S41
 | 42 => some fun _ => .fail
 | 43 => some S43
 | _ => none
noncomputable def spec8g : Nat → Option (List Sh → Tree Sh)
 | 42 => some S42g
 | 43 => some fun _ => .fail
 | _ => none
noncomputable def spec8b (e : Nat) : Nat → Option (List Sh → Tree Sh)
 | 42 => some (S42b e)
 | 43 => some fun _ => .fail
 | _ => none
def td8 : List It := [It.code [0, 1, 0, 1, 1, 1], It.inBlock 0, It.code [1, 1, 1, 1]]
def tb8 : List It := It.code [0, 0, 1, 0, 1, 1, 1] :: td8
def tdB8 : List It := [It.code [0, 1, 0, 1, 1, 1, 1, 0, 0, 1, 0, 0, 1, 0, 1, 1, 1], It.inBlock 2, It.code [1, 1, 1, 1, 1, 0, 0, 1, 0, 0, 1, 0, 1, 1, 1], It.inBlock 1, It.code [1, 1, 0, 0, 1, 0, 1, 1, 1]] ++ td8
def tbB8 : List It := It.code [0, 0, 1, 0, 1, 1, 1, 1, 0, 0, 1, 0, 0, 1, 0, 1, 1, 1] :: tdB8
def LA8 (n : Nat) (c : Nat → Ca) (key k : Int) : Core := { tm := tmOf 121 [(0, .sh (.sl 3 n (fnR c))), (1, .sym .i64 key), (6, .sym .i64 k)], hp := [], nx := 0, lim := L0, tc := [] }
def LB8 (n : Nat) (c : Nat → Ca) (key k y : Int) (a : Nat) (h : Nat → Int) (b : Nat) (l : Nat → Pr) (has : Bool) (val i : Int) : Core := { tm := tmOf 121 [(0, .sh (.sl 3 n (fnR c))), (1, .sym .i64 key), (6, .sym .i64 k), (7, .ptr 0 0), (9, .test has), (10, .sym .i64 val), (11, .sym .i64 i)], hp := [(0, .box [.sym .i64 k, .sym .i64 y, .sh (.sl 1 a (fnR h)), .sh (.sl 2 b (fnR l))] 72)], nx := 1, lim := L0, tc := [] }
theorem a8 (A : Prim) (W : Wd) (n : Nat) (c : Nat → Ca) (key : Int) (k' : Int) : runTo (C7 A W spec8 sAl) nH0 300 400 8 [.code []] (start0 121 [.sl 3 n (fnR c), .i .i64 key] L0) [] [⟨8, td8, LA8 n c key k', []⟩] = node (A.lt (Int.ofNat 300) (A.ofN n)) (leaf (Fe2.ret (Sh.b true))) (leaf (Fe2.at_ 0 [Eqn.sh (Sh.sl 3 n (fnR c)) (Sh.sl 3 n (fnR c)), Eqn.int key key, Eqn.int (Int.ofNat 1) k'])) := by kernel_rfl
theorem k8 (A : Prim) (W : Wd) (n : Nat) (c : Nat → Ca) (key k : Int) (y' : Int) (a' : Nat) (h' : Nat → Int) (b' : Nat) (l' : Nat → Pr) (has' : Bool) (val' i' : Int) : runTo (C7 A W spec8 sAl) nH0 300 400 8 tb8 (LA8 n c key k) [] [⟨8, tdB8, LB8 n c key k y' a' h' b' l' has' val' i', []⟩] = node (A.le k (Int.ofNat 4)) (need (kindK k) (leaf (Fe2.at_ 0 [Eqn.sh (Sh.sl 3 n (fnR c)) (Sh.sl 3 n (fnR c)), Eqn.int key key, Eqn.int k k, Eqn.bool (A.le k (Int.ofNat 2)) has', Eqn.int (Int.ofNat 0) val', Eqn.int (Int.ofNat 0) i', Eqn.int k k, Eqn.int (Int.ofNat 0) y', Eqn.sh (Sh.sl 1 0 noI) (Sh.sl 1 a' (fnR h')), Eqn.sh (Sh.sl 2 0 noP) (Sh.sl 2 b' (fnR l'))]))) (leaf (Fe2.ret (Sh.b true))) := by kernel_rfl
theorem b8 (A : Prim) (W : Wd) (n : Nat) (c : Nat → Ca) (key k y : Int) (a : Nat) (h : Nat → Int) (b : Nat) (l : Nat → Pr) (has : Bool) (val i k' : Int) : runTo (C7 A W spec8 sAl) nH0 300 400 8 tbB8 (LB8 n c key k y a h b l has val i) [] [⟨8, td8, LA8 n c key k', []⟩] = node (A.lt i (A.ofN n)) (need (A.inB i n) (need (A.inB i n) (need (A.inB i n) (Tree.fail.both Tree.fail)))) (need (lastB k y a (fnR h) b (fnR l) k key has val) (node (A.nt true) (leaf (Fe2.ret (Sh.b false))) (leaf (Fe2.at_ 0 [Eqn.sh (Sh.sl 3 n (fnR c)) (Sh.sl 3 n (fnR c)), Eqn.int key key, Eqn.int (A.add .i64 k (Int.ofNat 1)) k'])))) := by kernel_rfl
theorem c8 (A : Prim) (W : Wd) (n : Nat) (c : Nat → Ca) (key k y : Int) (a : Nat) (h : Nat → Int) (b : Nat) (l : Nat → Pr) (has : Bool) (val i : Int) (y' : Int) (a' : Nat) (h' : Nat → Int) (b' : Nat) (l' : Nat → Pr) (has' : Bool) (val' i' : Int) : runTo (C7 A W spec8g sAl) nH0 300 400 8 tbB8 (LB8 n c key k y a h b l has val i) [] [⟨8, tdB8, LB8 n c key k y' a' h' b' l' has' val' i', []⟩] = node (A.lt i (A.ofN n)) (need (A.inB i n) (need (A.inB i n) (need (A.inB i n) (need (okS a (fnR h) b (fnR l)) (need (goodS k y (c (A.toN i)).op (c (A.toN i)).key (c (A.toN i)).val) (need (okS a (fnR h) b (fnR l)) (need (goodS k y (c (A.toN i)).op (c (A.toN i)).key (c (A.toN i)).val) (must [Eqn.sh (Sh.sl 3 n (fnR c)) (Sh.sl 3 n (fnR c)), Eqn.int key key, Eqn.int k k, Eqn.bool has has, Eqn.int val val, Eqn.int i i, Eqn.int k k, Eqn.int y y, Eqn.sh (Sh.sl 1 a (fnR h)) (Sh.sl 1 a (fnR h)), Eqn.sh (Sh.sl 2 b (fnR l)) (Sh.sl 2 b (fnR l)), Eqn.int k k, Eqn.int (nuS k y (c (A.toN i)).op (c (A.toN i)).key (c (A.toN i)).val a (fnR h) b (fnR l)) (nuS k y (c (A.toN i)).op (c (A.toN i)).key (c (A.toN i)).val a (fnR h) b (fnR l)), Eqn.sh (Sh.sl 1 (len (nqS k y (c (A.toN i)).op (c (A.toN i)).key (c (A.toN i)).val a (fnR h) b (fnR l))) (fnR (nth (nqS k y (c (A.toN i)).op (c (A.toN i)).key (c (A.toN i)).val a (fnR h) b (fnR l))))) (Sh.sl 1 (len (nqS k y (c (A.toN i)).op (c (A.toN i)).key (c (A.toN i)).val a (fnR h) b (fnR l))) (fnR (nth (nqS k y (c (A.toN i)).op (c (A.toN i)).key (c (A.toN i)).val a (fnR h) b (fnR l))))), Eqn.sh (Sh.sl 2 (len (npS k y (c (A.toN i)).op (c (A.toN i)).key (c (A.toN i)).val a (fnR h) b (fnR l))) (fnR (nth (npS k y (c (A.toN i)).op (c (A.toN i)).key (c (A.toN i)).val a (fnR h) b (fnR l))))) (Sh.sl 2 (len (npS k y (c (A.toN i)).op (c (A.toN i)).key (c (A.toN i)).val a (fnR h) b (fnR l))) (fnR (nth (npS k y (c (A.toN i)).op (c (A.toN i)).key (c (A.toN i)).val a (fnR h) b (fnR l)))))] (need (A.inB i n) (node (A.eq (c (A.toN i)).op (Int.ofNat 2)) (need (A.inB i n) (leaf (Fe2.at_ 0 [Eqn.sh (Sh.sl 3 n (fnR c)) (Sh.sl 3 n (fnR c)), Eqn.int key key, Eqn.int k k, Eqn.bool has has', Eqn.int (c (A.toN i)).val val', Eqn.int (A.add .i64 i (Int.ofNat 1)) i', Eqn.int k k, Eqn.int (nuS k y (c (A.toN i)).op (c (A.toN i)).key (c (A.toN i)).val a (fnR h) b (fnR l)) y', Eqn.sh (Sh.sl 1 (len (nqS k y (c (A.toN i)).op (c (A.toN i)).key (c (A.toN i)).val a (fnR h) b (fnR l))) (fnR (nth (nqS k y (c (A.toN i)).op (c (A.toN i)).key (c (A.toN i)).val a (fnR h) b (fnR l))))) (Sh.sl 1 a' (fnR h')), Eqn.sh (Sh.sl 2 (len (npS k y (c (A.toN i)).op (c (A.toN i)).key (c (A.toN i)).val a (fnR h) b (fnR l))) (fnR (nth (npS k y (c (A.toN i)).op (c (A.toN i)).key (c (A.toN i)).val a (fnR h) b (fnR l))))) (Sh.sl 2 b' (fnR l'))]))) (node (A.eq (c (A.toN i)).op (Int.ofNat 3)) (need (A.inB i n) (leaf (Fe2.at_ 0 [Eqn.sh (Sh.sl 3 n (fnR c)) (Sh.sl 3 n (fnR c)), Eqn.int key key, Eqn.int k k, Eqn.bool has has', Eqn.int (A.add .i64 val (c (A.toN i)).val) val', Eqn.int (A.add .i64 i (Int.ofNat 1)) i', Eqn.int k k, Eqn.int (nuS k y (c (A.toN i)).op (c (A.toN i)).key (c (A.toN i)).val a (fnR h) b (fnR l)) y', Eqn.sh (Sh.sl 1 (len (nqS k y (c (A.toN i)).op (c (A.toN i)).key (c (A.toN i)).val a (fnR h) b (fnR l))) (fnR (nth (nqS k y (c (A.toN i)).op (c (A.toN i)).key (c (A.toN i)).val a (fnR h) b (fnR l))))) (Sh.sl 1 a' (fnR h')), Eqn.sh (Sh.sl 2 (len (npS k y (c (A.toN i)).op (c (A.toN i)).key (c (A.toN i)).val a (fnR h) b (fnR l))) (fnR (nth (npS k y (c (A.toN i)).op (c (A.toN i)).key (c (A.toN i)).val a (fnR h) b (fnR l))))) (Sh.sl 2 b' (fnR l'))]))) (node (A.eq (c (A.toN i)).op (Int.ofNat 7)) (need (A.inB i n) (node (A.eq (c (A.toN i)).key key) (need (A.inB i n) (leaf (Fe2.at_ 0 [Eqn.sh (Sh.sl 3 n (fnR c)) (Sh.sl 3 n (fnR c)), Eqn.int key key, Eqn.int k k, Eqn.bool true has', Eqn.int (c (A.toN i)).val val', Eqn.int (A.add .i64 i (Int.ofNat 1)) i', Eqn.int k k, Eqn.int (nuS k y (c (A.toN i)).op (c (A.toN i)).key (c (A.toN i)).val a (fnR h) b (fnR l)) y', Eqn.sh (Sh.sl 1 (len (nqS k y (c (A.toN i)).op (c (A.toN i)).key (c (A.toN i)).val a (fnR h) b (fnR l))) (fnR (nth (nqS k y (c (A.toN i)).op (c (A.toN i)).key (c (A.toN i)).val a (fnR h) b (fnR l))))) (Sh.sl 1 a' (fnR h')), Eqn.sh (Sh.sl 2 (len (npS k y (c (A.toN i)).op (c (A.toN i)).key (c (A.toN i)).val a (fnR h) b (fnR l))) (fnR (nth (npS k y (c (A.toN i)).op (c (A.toN i)).key (c (A.toN i)).val a (fnR h) b (fnR l))))) (Sh.sl 2 b' (fnR l'))]))) (leaf (Fe2.at_ 0 [Eqn.sh (Sh.sl 3 n (fnR c)) (Sh.sl 3 n (fnR c)), Eqn.int key key, Eqn.int k k, Eqn.bool has has', Eqn.int val val', Eqn.int (A.add .i64 i (Int.ofNat 1)) i', Eqn.int k k, Eqn.int (nuS k y (c (A.toN i)).op (c (A.toN i)).key (c (A.toN i)).val a (fnR h) b (fnR l)) y', Eqn.sh (Sh.sl 1 (len (nqS k y (c (A.toN i)).op (c (A.toN i)).key (c (A.toN i)).val a (fnR h) b (fnR l))) (fnR (nth (nqS k y (c (A.toN i)).op (c (A.toN i)).key (c (A.toN i)).val a (fnR h) b (fnR l))))) (Sh.sl 1 a' (fnR h')), Eqn.sh (Sh.sl 2 (len (npS k y (c (A.toN i)).op (c (A.toN i)).key (c (A.toN i)).val a (fnR h) b (fnR l))) (fnR (nth (npS k y (c (A.toN i)).op (c (A.toN i)).key (c (A.toN i)).val a (fnR h) b (fnR l))))) (Sh.sl 2 b' (fnR l'))])))) (node (A.eq (c (A.toN i)).op (Int.ofNat 9)) (need (A.inB i n) (node (A.eq (c (A.toN i)).key key) (leaf (Fe2.at_ 0 [Eqn.sh (Sh.sl 3 n (fnR c)) (Sh.sl 3 n (fnR c)), Eqn.int key key, Eqn.int k k, Eqn.bool false has', Eqn.int (Int.ofNat 0) val', Eqn.int (A.add .i64 i (Int.ofNat 1)) i', Eqn.int k k, Eqn.int (nuS k y (c (A.toN i)).op (c (A.toN i)).key (c (A.toN i)).val a (fnR h) b (fnR l)) y', Eqn.sh (Sh.sl 1 (len (nqS k y (c (A.toN i)).op (c (A.toN i)).key (c (A.toN i)).val a (fnR h) b (fnR l))) (fnR (nth (nqS k y (c (A.toN i)).op (c (A.toN i)).key (c (A.toN i)).val a (fnR h) b (fnR l))))) (Sh.sl 1 a' (fnR h')), Eqn.sh (Sh.sl 2 (len (npS k y (c (A.toN i)).op (c (A.toN i)).key (c (A.toN i)).val a (fnR h) b (fnR l))) (fnR (nth (npS k y (c (A.toN i)).op (c (A.toN i)).key (c (A.toN i)).val a (fnR h) b (fnR l))))) (Sh.sl 2 b' (fnR l'))])) (leaf (Fe2.at_ 0 [Eqn.sh (Sh.sl 3 n (fnR c)) (Sh.sl 3 n (fnR c)), Eqn.int key key, Eqn.int k k, Eqn.bool has has', Eqn.int val val', Eqn.int (A.add .i64 i (Int.ofNat 1)) i', Eqn.int k k, Eqn.int (nuS k y (c (A.toN i)).op (c (A.toN i)).key (c (A.toN i)).val a (fnR h) b (fnR l)) y', Eqn.sh (Sh.sl 1 (len (nqS k y (c (A.toN i)).op (c (A.toN i)).key (c (A.toN i)).val a (fnR h) b (fnR l))) (fnR (nth (nqS k y (c (A.toN i)).op (c (A.toN i)).key (c (A.toN i)).val a (fnR h) b (fnR l))))) (Sh.sl 1 a' (fnR h')), Eqn.sh (Sh.sl 2 (len (npS k y (c (A.toN i)).op (c (A.toN i)).key (c (A.toN i)).val a (fnR h) b (fnR l))) (fnR (nth (npS k y (c (A.toN i)).op (c (A.toN i)).key (c (A.toN i)).val a (fnR h) b (fnR l))))) (Sh.sl 2 b' (fnR l'))])))) (leaf (Fe2.at_ 0 [Eqn.sh (Sh.sl 3 n (fnR c)) (Sh.sl 3 n (fnR c)), Eqn.int key key, Eqn.int k k, Eqn.bool has has', Eqn.int val val', Eqn.int (A.add .i64 i (Int.ofNat 1)) i', Eqn.int k k, Eqn.int (nuS k y (c (A.toN i)).op (c (A.toN i)).key (c (A.toN i)).val a (fnR h) b (fnR l)) y', Eqn.sh (Sh.sl 1 (len (nqS k y (c (A.toN i)).op (c (A.toN i)).key (c (A.toN i)).val a (fnR h) b (fnR l))) (fnR (nth (nqS k y (c (A.toN i)).op (c (A.toN i)).key (c (A.toN i)).val a (fnR h) b (fnR l))))) (Sh.sl 1 a' (fnR h')), Eqn.sh (Sh.sl 2 (len (npS k y (c (A.toN i)).op (c (A.toN i)).key (c (A.toN i)).val a (fnR h) b (fnR l))) (fnR (nth (npS k y (c (A.toN i)).op (c (A.toN i)).key (c (A.toN i)).val a (fnR h) b (fnR l))))) (Sh.sl 2 b' (fnR l'))]))))))))))))))) Tree.fail := by kernel_rfl
theorem d8 (A : Prim) (W : Wd) (n : Nat) (c : Nat → Ca) (key k y : Int) (a : Nat) (h : Nat → Int) (b : Nat) (l : Nat → Pr) (has : Bool) (val i : Int) (y' : Int) (a' : Nat) (h' : Nat → Int) (b' : Nat) (l' : Nat → Pr) (has' : Bool) (val' i' : Int) : runTo (C7 A W (spec8b 1) sAl) nH0 300 400 8 tbB8 (LB8 n c key k y a h b l has val i) [] [⟨8, tdB8, LB8 n c key k y' a' h' b' l' has' val' i', []⟩] = node (A.lt i (A.ofN n)) (need (A.inB i n) (need (A.inB i n) (need (A.inB i n) (need (okS a (fnR h) b (fnR l)) (need (badS k y (c (A.toN i)).op (c (A.toN i)).key (c (A.toN i)).val) (need (isES 1 k (c (A.toN i)).op) (need (okS a (fnR h) b (fnR l)) (need (badS k y (c (A.toN i)).op (c (A.toN i)).key (c (A.toN i)).val) (need (isES 1 k (c (A.toN i)).op) (must [Eqn.sh (Sh.sl 3 n (fnR c)) (Sh.sl 3 n (fnR c)), Eqn.int key key, Eqn.int k k, Eqn.bool has has, Eqn.int val val, Eqn.int i i, Eqn.int k k, Eqn.int y y, Eqn.sh (Sh.sl 1 a (fnR h)) (Sh.sl 1 a (fnR h)), Eqn.sh (Sh.sl 2 b (fnR l)) (Sh.sl 2 b (fnR l)), Eqn.sh (Sh.sl 1 0 noI) (Sh.sl 1 0 noI), Eqn.sh (Sh.sl 2 0 noP) (Sh.sl 2 0 noP)] (leaf (Fe2.at_ 0 [Eqn.sh (Sh.sl 3 n (fnR c)) (Sh.sl 3 n (fnR c)), Eqn.int key key, Eqn.int k k, Eqn.bool has has', Eqn.int val val', Eqn.int (A.add .i64 i (Int.ofNat 1)) i', Eqn.int k k, Eqn.int y y', Eqn.sh (Sh.sl 1 a (fnR h)) (Sh.sl 1 a' (fnR h')), Eqn.sh (Sh.sl 2 b (fnR l)) (Sh.sl 2 b' (fnR l'))])))))))))))) Tree.fail := by kernel_rfl
theorem e8 (A : Prim) (W : Wd) (n : Nat) (c : Nat → Ca) (key k y : Int) (a : Nat) (h : Nat → Int) (b : Nat) (l : Nat → Pr) (has : Bool) (val i : Int) (y' : Int) (a' : Nat) (h' : Nat → Int) (b' : Nat) (l' : Nat → Pr) (has' : Bool) (val' i' : Int) : runTo (C7 A W (spec8b 3) sAl) nH0 300 400 8 tbB8 (LB8 n c key k y a h b l has val i) [] [⟨8, tdB8, LB8 n c key k y' a' h' b' l' has' val' i', []⟩] = node (A.lt i (A.ofN n)) (need (A.inB i n) (need (A.inB i n) (need (A.inB i n) (need (okS a (fnR h) b (fnR l)) (need (badS k y (c (A.toN i)).op (c (A.toN i)).key (c (A.toN i)).val) (need (isES 3 k (c (A.toN i)).op) (need (okS a (fnR h) b (fnR l)) (need (badS k y (c (A.toN i)).op (c (A.toN i)).key (c (A.toN i)).val) (need (isES 3 k (c (A.toN i)).op) (must [Eqn.sh (Sh.sl 3 n (fnR c)) (Sh.sl 3 n (fnR c)), Eqn.int key key, Eqn.int k k, Eqn.bool has has, Eqn.int val val, Eqn.int i i, Eqn.int k k, Eqn.int y y, Eqn.sh (Sh.sl 1 a (fnR h)) (Sh.sl 1 a (fnR h)), Eqn.sh (Sh.sl 2 b (fnR l)) (Sh.sl 2 b (fnR l)), Eqn.sh (Sh.sl 1 0 noI) (Sh.sl 1 0 noI), Eqn.sh (Sh.sl 2 0 noP) (Sh.sl 2 0 noP)] (leaf (Fe2.at_ 0 [Eqn.sh (Sh.sl 3 n (fnR c)) (Sh.sl 3 n (fnR c)), Eqn.int key key, Eqn.int k k, Eqn.bool has has', Eqn.int val val', Eqn.int (A.add .i64 i (Int.ofNat 1)) i', Eqn.int k k, Eqn.int y y', Eqn.sh (Sh.sl 1 a (fnR h)) (Sh.sl 1 a' (fnR h')), Eqn.sh (Sh.sl 2 b (fnR l)) (Sh.sl 2 b' (fnR l'))])))))))))))) Tree.fail := by kernel_rfl
theorem f43_1 (A : Prim) (W : Wd) (y : Int) (a : Nat) (h : Nat → List Sh) (b : Nat) (l : Nat → List Sh) (key : Int) (has : Bool) (val : Int) : runTo (C7 A W specT sAl) nH0 300 400 43 [.code []] (start0 68 [.agg [.v (.int .i64 1), .i .i64 y, .sl 1 a h, .sl 2 b l], .v (.int .i64 1), .i .i64 key, .b has, .i .i64 val] L0) [] [] = need (okS a h b l) (need (tells (Int.ofNat 1) (Int.ofNat 1) (Int.ofNat 0)) (node (A.nt has) (node (A.eq (rtS (Int.ofNat 1) y (Int.ofNat 1) (Int.ofNat 0) (Int.ofNat 0) a h b l) (Int.ofNat 2)) (leaf (Fe2.ret (Sh.b (A.eq (gtS (Int.ofNat 1) y (Int.ofNat 1) (Int.ofNat 0) (Int.ofNat 0) a h b l) (Int.ofNat 0))))) (leaf (Fe2.ret (Sh.b false)))) (node (A.eq (rtS (Int.ofNat 1) y (Int.ofNat 1) (Int.ofNat 0) (Int.ofNat 0) a h b l) (Int.ofNat 3)) (leaf (Fe2.ret (Sh.b (A.eq (gtS (Int.ofNat 1) y (Int.ofNat 1) (Int.ofNat 0) (Int.ofNat 0) a h b l) val)))) (leaf (Fe2.ret (Sh.b false)))))) := by kernel_rfl
theorem f43_2 (A : Prim) (W : Wd) (y : Int) (a : Nat) (h : Nat → List Sh) (b : Nat) (l : Nat → List Sh) (key : Int) (has : Bool) (val : Int) : runTo (C7 A W specT sAl) nH0 300 400 43 [.code []] (start0 68 [.agg [.v (.int .i64 2), .i .i64 y, .sl 1 a h, .sl 2 b l], .v (.int .i64 2), .i .i64 key, .b has, .i .i64 val] L0) [] [] = need (okS a h b l) (need (tells (Int.ofNat 2) (Int.ofNat 4) (Int.ofNat 0)) (node (A.nt has) (node (A.eq (rtS (Int.ofNat 2) y (Int.ofNat 4) (Int.ofNat 0) (Int.ofNat 0) a h b l) (Int.ofNat 2)) (leaf (Fe2.ret (Sh.b (A.eq (gtS (Int.ofNat 2) y (Int.ofNat 4) (Int.ofNat 0) (Int.ofNat 0) a h b l) (Int.ofNat 0))))) (leaf (Fe2.ret (Sh.b false)))) (node (A.eq (rtS (Int.ofNat 2) y (Int.ofNat 4) (Int.ofNat 0) (Int.ofNat 0) a h b l) (Int.ofNat 3)) (leaf (Fe2.ret (Sh.b (A.eq (gtS (Int.ofNat 2) y (Int.ofNat 4) (Int.ofNat 0) (Int.ofNat 0) a h b l) val)))) (leaf (Fe2.ret (Sh.b false)))))) := by kernel_rfl
theorem f43_3 (A : Prim) (W : Wd) (y : Int) (a : Nat) (h : Nat → List Sh) (b : Nat) (l : Nat → List Sh) (key : Int) (has : Bool) (val : Int) : runTo (C7 A W specT sAl) nH0 300 400 43 [.code []] (start0 68 [.agg [.v (.int .i64 3), .i .i64 y, .sl 1 a h, .sl 2 b l], .v (.int .i64 3), .i .i64 key, .b has, .i .i64 val] L0) [] [] = leaf (Fe2.ret (Sh.b true)) := by kernel_rfl
theorem f43_4 (A : Prim) (W : Wd) (y : Int) (a : Nat) (h : Nat → List Sh) (b : Nat) (l : Nat → List Sh) (key : Int) (has : Bool) (val : Int) : runTo (C7 A W specT sAl) nH0 300 400 43 [.code []] (start0 68 [.agg [.v (.int .i64 4), .i .i64 y, .sl 1 a h, .sl 2 b l], .v (.int .i64 4), .i .i64 key, .b has, .i .i64 val] L0) [] [] = node (A.lt key (Int.ofNat 0)) (leaf (Fe2.ret (Sh.b true))) (node (A.lt (Int.ofNat 1000) key) (leaf (Fe2.ret (Sh.b true))) (need (okS a h b l) (need (tells (Int.ofNat 4) (Int.ofNat 8) key) (node (A.nt has) (node (A.eq (rtS (Int.ofNat 4) y (Int.ofNat 8) key (Int.ofNat 0) a h b l) (Int.ofNat 2)) (leaf (Fe2.ret (Sh.b (A.eq (gtS (Int.ofNat 4) y (Int.ofNat 8) key (Int.ofNat 0) a h b l) (Int.ofNat 0))))) (leaf (Fe2.ret (Sh.b false)))) (node (A.eq (rtS (Int.ofNat 4) y (Int.ofNat 8) key (Int.ofNat 0) a h b l) (Int.ofNat 3)) (leaf (Fe2.ret (Sh.b (A.eq (gtS (Int.ofNat 4) y (Int.ofNat 8) key (Int.ofNat 0) a h b l) val)))) (leaf (Fe2.ret (Sh.b false)))))))) := by kernel_rfl
end Go.Proofs
namespace Go.Proofs
open Go.Sx.Tree
open Go Go.Sx Go.Pl
theorem all_a8 (A : Prim) (W : Wd) (n : Nat) (c : Nat → Ca) (key : Int) (k' : Int) {ψ : Fe2 → Prop} {c0 : Bool} (e0 : A.lt (Int.ofNat 300) (A.ofN n) = c0) (y1 : c0 = true → ψ (Fe2.ret (Sh.b true))) (y2 : c0 = false → ψ (Fe2.at_ 0 [Eqn.sh (Sh.sl 3 n (fnR c)) (Sh.sl 3 n (fnR c)), Eqn.int key key, Eqn.int (Int.ofNat 1) k'])) : MeetsT ψ (runTo (C7 A W spec8 sAl) nH0 300 400 8 [.code []] (start0 121 [.sl 3 n (fnR c), .i .i64 key] L0) [] [⟨8, td8, LA8 n c key k', []⟩]) := by
 subst e0
 rw [a8 A W n c key k', meetsT_eq]
 exact ⟨fun q0 => (y1 q0), fun q0 => (y2 q0)⟩
theorem all_k8 (A : Prim) (W : Wd) (n : Nat) (c : Nat → Ca) (key k : Int) (y' : Int) (a' : Nat) (h' : Nat → Int) (b' : Nat) (l' : Nat → Pr) (has' : Bool) (val' i' : Int) {ψ : Fe2 → Prop} {c0 : Bool} (e0 : A.le k (Int.ofNat 4) = c0) (h1 : c0 = true → (kindK k) = true) (y1 : c0 = true → ψ (Fe2.at_ 0 [Eqn.sh (Sh.sl 3 n (fnR c)) (Sh.sl 3 n (fnR c)), Eqn.int key key, Eqn.int k k, Eqn.bool (A.le k (Int.ofNat 2)) has', Eqn.int (Int.ofNat 0) val', Eqn.int (Int.ofNat 0) i', Eqn.int k k, Eqn.int (Int.ofNat 0) y', Eqn.sh (Sh.sl 1 0 noI) (Sh.sl 1 a' (fnR h')), Eqn.sh (Sh.sl 2 0 noP) (Sh.sl 2 b' (fnR l'))])) (y2 : c0 = false → ψ (Fe2.ret (Sh.b true))) : MeetsT ψ (runTo (C7 A W spec8 sAl) nH0 300 400 8 tb8 (LA8 n c key k) [] [⟨8, tdB8, LB8 n c key k y' a' h' b' l' has' val' i', []⟩]) := by
 subst e0
 rw [k8 A W n c key k y' a' h' b' l' has' val' i', meetsT_eq]
 exact ⟨fun q0 => ⟨(h1 q0), (y1 q0)⟩, fun q0 => (y2 q0)⟩
theorem all_b8 (A : Prim) (W : Wd) (n : Nat) (c : Nat → Ca) (key k y : Int) (a : Nat) (h : Nat → Int) (b : Nat) (l : Nat → Pr) (has : Bool) (val i k' : Int) {ψ : Fe2 → Prop} {c0 c1 : Bool} (e0 : A.lt i (A.ofN n) = c0) (e1 : A.nt true = c1) (h1 : c0 = true → (A.inB i n) = true) (h2 : c0 = false → (lastB k y a (fnR h) b (fnR l) k key has val) = true) (y1 : c0 = true → False) (y2 : c0 = false → c1 = true → ψ (Fe2.ret (Sh.b false))) (y3 : c0 = false → c1 = false → ψ (Fe2.at_ 0 [Eqn.sh (Sh.sl 3 n (fnR c)) (Sh.sl 3 n (fnR c)), Eqn.int key key, Eqn.int (A.add .i64 k (Int.ofNat 1)) k'])) : MeetsT ψ (runTo (C7 A W spec8 sAl) nH0 300 400 8 tbB8 (LB8 n c key k y a h b l has val i) [] [⟨8, td8, LA8 n c key k', []⟩]) := by
 subst e0 e1
 rw [b8 A W n c key k y a h b l has val i k', meetsT_eq]
 exact ⟨fun q0 => ⟨(h1 q0), ⟨(h1 q0), ⟨(h1 q0), (False.elim (y1 q0))⟩⟩⟩, fun q0 => ⟨(h2 q0), ⟨fun q1 => (y2 q0 q1), fun q1 => (y3 q0 q1)⟩⟩⟩
theorem all_c8 (A : Prim) (W : Wd) (n : Nat) (c : Nat → Ca) (key k y : Int) (a : Nat) (h : Nat → Int) (b : Nat) (l : Nat → Pr) (has : Bool) (val i : Int) (y' : Int) (a' : Nat) (h' : Nat → Int) (b' : Nat) (l' : Nat → Pr) (has' : Bool) (val' i' : Int) {ψ : Fe2 → Prop} {c0 c1 c2 c3 c4 c5 : Bool} (e0 : A.lt i (A.ofN n) = c0) (e1 : A.eq (c (A.toN i)).op (Int.ofNat 2) = c1) (e2 : A.eq (c (A.toN i)).op (Int.ofNat 3) = c2) (e3 : A.eq (c (A.toN i)).op (Int.ofNat 7) = c3) (e4 : A.eq (c (A.toN i)).key key = c4) (e5 : A.eq (c (A.toN i)).op (Int.ofNat 9) = c5) (h1 : c0 = true → (A.inB i n) = true) (h2 : c0 = true → (okS a (fnR h) b (fnR l)) = true) (h3 : c0 = true → (goodS k y (c (A.toN i)).op (c (A.toN i)).key (c (A.toN i)).val) = true) (y1 : c0 = true → c1 = true → ψ (Fe2.at_ 0 [Eqn.sh (Sh.sl 3 n (fnR c)) (Sh.sl 3 n (fnR c)), Eqn.int key key, Eqn.int k k, Eqn.bool has has', Eqn.int (c (A.toN i)).val val', Eqn.int (A.add .i64 i (Int.ofNat 1)) i', Eqn.int k k, Eqn.int (nuS k y (c (A.toN i)).op (c (A.toN i)).key (c (A.toN i)).val a (fnR h) b (fnR l)) y', Eqn.sh (Sh.sl 1 (len (nqS k y (c (A.toN i)).op (c (A.toN i)).key (c (A.toN i)).val a (fnR h) b (fnR l))) (fnR (nth (nqS k y (c (A.toN i)).op (c (A.toN i)).key (c (A.toN i)).val a (fnR h) b (fnR l))))) (Sh.sl 1 a' (fnR h')), Eqn.sh (Sh.sl 2 (len (npS k y (c (A.toN i)).op (c (A.toN i)).key (c (A.toN i)).val a (fnR h) b (fnR l))) (fnR (nth (npS k y (c (A.toN i)).op (c (A.toN i)).key (c (A.toN i)).val a (fnR h) b (fnR l))))) (Sh.sl 2 b' (fnR l'))])) (y2 : c0 = true → c1 = false → c2 = true → ψ (Fe2.at_ 0 [Eqn.sh (Sh.sl 3 n (fnR c)) (Sh.sl 3 n (fnR c)), Eqn.int key key, Eqn.int k k, Eqn.bool has has', Eqn.int (A.add .i64 val (c (A.toN i)).val) val', Eqn.int (A.add .i64 i (Int.ofNat 1)) i', Eqn.int k k, Eqn.int (nuS k y (c (A.toN i)).op (c (A.toN i)).key (c (A.toN i)).val a (fnR h) b (fnR l)) y', Eqn.sh (Sh.sl 1 (len (nqS k y (c (A.toN i)).op (c (A.toN i)).key (c (A.toN i)).val a (fnR h) b (fnR l))) (fnR (nth (nqS k y (c (A.toN i)).op (c (A.toN i)).key (c (A.toN i)).val a (fnR h) b (fnR l))))) (Sh.sl 1 a' (fnR h')), Eqn.sh (Sh.sl 2 (len (npS k y (c (A.toN i)).op (c (A.toN i)).key (c (A.toN i)).val a (fnR h) b (fnR l))) (fnR (nth (npS k y (c (A.toN i)).op (c (A.toN i)).key (c (A.toN i)).val a (fnR h) b (fnR l))))) (Sh.sl 2 b' (fnR l'))])) (y3 : c0 = true → c1 = false → c2 = false → c3 = true → c4 = true → ψ (Fe2.at_ 0 [Eqn.sh (Sh.sl 3 n (fnR c)) (Sh.sl 3 n (fnR c)), Eqn.int key key, Eqn.int k k, Eqn.bool true has', Eqn.int (c (A.toN i)).val val', Eqn.int (A.add .i64 i (Int.ofNat 1)) i', Eqn.int k k, Eqn.int (nuS k y (c (A.toN i)).op (c (A.toN i)).key (c (A.toN i)).val a (fnR h) b (fnR l)) y', Eqn.sh (Sh.sl 1 (len (nqS k y (c (A.toN i)).op (c (A.toN i)).key (c (A.toN i)).val a (fnR h) b (fnR l))) (fnR (nth (nqS k y (c (A.toN i)).op (c (A.toN i)).key (c (A.toN i)).val a (fnR h) b (fnR l))))) (Sh.sl 1 a' (fnR h')), Eqn.sh (Sh.sl 2 (len (npS k y (c (A.toN i)).op (c (A.toN i)).key (c (A.toN i)).val a (fnR h) b (fnR l))) (fnR (nth (npS k y (c (A.toN i)).op (c (A.toN i)).key (c (A.toN i)).val a (fnR h) b (fnR l))))) (Sh.sl 2 b' (fnR l'))])) (y4 : c0 = true → c1 = false → c2 = false → c3 = true → c4 = false → ψ (Fe2.at_ 0 [Eqn.sh (Sh.sl 3 n (fnR c)) (Sh.sl 3 n (fnR c)), Eqn.int key key, Eqn.int k k, Eqn.bool has has', Eqn.int val val', Eqn.int (A.add .i64 i (Int.ofNat 1)) i', Eqn.int k k, Eqn.int (nuS k y (c (A.toN i)).op (c (A.toN i)).key (c (A.toN i)).val a (fnR h) b (fnR l)) y', Eqn.sh (Sh.sl 1 (len (nqS k y (c (A.toN i)).op (c (A.toN i)).key (c (A.toN i)).val a (fnR h) b (fnR l))) (fnR (nth (nqS k y (c (A.toN i)).op (c (A.toN i)).key (c (A.toN i)).val a (fnR h) b (fnR l))))) (Sh.sl 1 a' (fnR h')), Eqn.sh (Sh.sl 2 (len (npS k y (c (A.toN i)).op (c (A.toN i)).key (c (A.toN i)).val a (fnR h) b (fnR l))) (fnR (nth (npS k y (c (A.toN i)).op (c (A.toN i)).key (c (A.toN i)).val a (fnR h) b (fnR l))))) (Sh.sl 2 b' (fnR l'))])) (y5 : c0 = true → c1 = false → c2 = false → c3 = false → c5 = true → c4 = true → ψ (Fe2.at_ 0 [Eqn.sh (Sh.sl 3 n (fnR c)) (Sh.sl 3 n (fnR c)), Eqn.int key key, Eqn.int k k, Eqn.bool false has', Eqn.int (Int.ofNat 0) val', Eqn.int (A.add .i64 i (Int.ofNat 1)) i', Eqn.int k k, Eqn.int (nuS k y (c (A.toN i)).op (c (A.toN i)).key (c (A.toN i)).val a (fnR h) b (fnR l)) y', Eqn.sh (Sh.sl 1 (len (nqS k y (c (A.toN i)).op (c (A.toN i)).key (c (A.toN i)).val a (fnR h) b (fnR l))) (fnR (nth (nqS k y (c (A.toN i)).op (c (A.toN i)).key (c (A.toN i)).val a (fnR h) b (fnR l))))) (Sh.sl 1 a' (fnR h')), Eqn.sh (Sh.sl 2 (len (npS k y (c (A.toN i)).op (c (A.toN i)).key (c (A.toN i)).val a (fnR h) b (fnR l))) (fnR (nth (npS k y (c (A.toN i)).op (c (A.toN i)).key (c (A.toN i)).val a (fnR h) b (fnR l))))) (Sh.sl 2 b' (fnR l'))])) (y6 : c0 = true → c1 = false → c2 = false → c3 = false → c5 = true → c4 = false → ψ (Fe2.at_ 0 [Eqn.sh (Sh.sl 3 n (fnR c)) (Sh.sl 3 n (fnR c)), Eqn.int key key, Eqn.int k k, Eqn.bool has has', Eqn.int val val', Eqn.int (A.add .i64 i (Int.ofNat 1)) i', Eqn.int k k, Eqn.int (nuS k y (c (A.toN i)).op (c (A.toN i)).key (c (A.toN i)).val a (fnR h) b (fnR l)) y', Eqn.sh (Sh.sl 1 (len (nqS k y (c (A.toN i)).op (c (A.toN i)).key (c (A.toN i)).val a (fnR h) b (fnR l))) (fnR (nth (nqS k y (c (A.toN i)).op (c (A.toN i)).key (c (A.toN i)).val a (fnR h) b (fnR l))))) (Sh.sl 1 a' (fnR h')), Eqn.sh (Sh.sl 2 (len (npS k y (c (A.toN i)).op (c (A.toN i)).key (c (A.toN i)).val a (fnR h) b (fnR l))) (fnR (nth (npS k y (c (A.toN i)).op (c (A.toN i)).key (c (A.toN i)).val a (fnR h) b (fnR l))))) (Sh.sl 2 b' (fnR l'))])) (y7 : c0 = true → c1 = false → c2 = false → c3 = false → c5 = false → ψ (Fe2.at_ 0 [Eqn.sh (Sh.sl 3 n (fnR c)) (Sh.sl 3 n (fnR c)), Eqn.int key key, Eqn.int k k, Eqn.bool has has', Eqn.int val val', Eqn.int (A.add .i64 i (Int.ofNat 1)) i', Eqn.int k k, Eqn.int (nuS k y (c (A.toN i)).op (c (A.toN i)).key (c (A.toN i)).val a (fnR h) b (fnR l)) y', Eqn.sh (Sh.sl 1 (len (nqS k y (c (A.toN i)).op (c (A.toN i)).key (c (A.toN i)).val a (fnR h) b (fnR l))) (fnR (nth (nqS k y (c (A.toN i)).op (c (A.toN i)).key (c (A.toN i)).val a (fnR h) b (fnR l))))) (Sh.sl 1 a' (fnR h')), Eqn.sh (Sh.sl 2 (len (npS k y (c (A.toN i)).op (c (A.toN i)).key (c (A.toN i)).val a (fnR h) b (fnR l))) (fnR (nth (npS k y (c (A.toN i)).op (c (A.toN i)).key (c (A.toN i)).val a (fnR h) b (fnR l))))) (Sh.sl 2 b' (fnR l'))])) (y8 : c0 = false → False) : MeetsT ψ (runTo (C7 A W spec8g sAl) nH0 300 400 8 tbB8 (LB8 n c key k y a h b l has val i) [] [⟨8, tdB8, LB8 n c key k y' a' h' b' l' has' val' i', []⟩]) := by
 subst e0 e1 e2 e3 e4 e5
 rw [c8 A W n c key k y a h b l has val i y' a' h' b' l' has' val' i', meetsT_eq]
 exact ⟨fun q0 => ⟨(h1 q0), ⟨(h1 q0), ⟨(h1 q0), ⟨(h2 q0), ⟨(h3 q0), ⟨(h2 q0), ⟨(h3 q0), ⟨⟨rfl, rfl, rfl, rfl, rfl, rfl, rfl, rfl, rfl, rfl, rfl, rfl, rfl, rfl, trivial⟩, ⟨(h1 q0), ⟨fun q1 => ⟨(h1 q0), (y1 q0 q1)⟩, fun q1 => ⟨fun q2 => ⟨(h1 q0), (y2 q0 q1 q2)⟩, fun q2 => ⟨fun q3 => ⟨(h1 q0), ⟨fun q4 => ⟨(h1 q0), (y3 q0 q1 q2 q3 q4)⟩, fun q4 => (y4 q0 q1 q2 q3 q4)⟩⟩, fun q3 => ⟨fun q4 => ⟨(h1 q0), ⟨fun q5 => (y5 q0 q1 q2 q3 q4 q5), fun q5 => (y6 q0 q1 q2 q3 q4 q5)⟩⟩, fun q4 => (y7 q0 q1 q2 q3 q4)⟩⟩⟩⟩⟩⟩⟩⟩⟩⟩⟩⟩⟩, fun q0 => (y8 q0)⟩
theorem all_d8 (A : Prim) (W : Wd) (n : Nat) (c : Nat → Ca) (key k y : Int) (a : Nat) (h : Nat → Int) (b : Nat) (l : Nat → Pr) (has : Bool) (val i : Int) (y' : Int) (a' : Nat) (h' : Nat → Int) (b' : Nat) (l' : Nat → Pr) (has' : Bool) (val' i' : Int) {ψ : Fe2 → Prop} {c0 : Bool} (e0 : A.lt i (A.ofN n) = c0) (h1 : c0 = true → (A.inB i n) = true) (h2 : c0 = true → (okS a (fnR h) b (fnR l)) = true) (h3 : c0 = true → (badS k y (c (A.toN i)).op (c (A.toN i)).key (c (A.toN i)).val) = true) (h4 : c0 = true → (isES 1 k (c (A.toN i)).op) = true) (y1 : c0 = true → ψ (Fe2.at_ 0 [Eqn.sh (Sh.sl 3 n (fnR c)) (Sh.sl 3 n (fnR c)), Eqn.int key key, Eqn.int k k, Eqn.bool has has', Eqn.int val val', Eqn.int (A.add .i64 i (Int.ofNat 1)) i', Eqn.int k k, Eqn.int y y', Eqn.sh (Sh.sl 1 a (fnR h)) (Sh.sl 1 a' (fnR h')), Eqn.sh (Sh.sl 2 b (fnR l)) (Sh.sl 2 b' (fnR l'))])) (y2 : c0 = false → False) : MeetsT ψ (runTo (C7 A W (spec8b 1) sAl) nH0 300 400 8 tbB8 (LB8 n c key k y a h b l has val i) [] [⟨8, tdB8, LB8 n c key k y' a' h' b' l' has' val' i', []⟩]) := by
 subst e0
 rw [d8 A W n c key k y a h b l has val i y' a' h' b' l' has' val' i', meetsT_eq]
 exact ⟨fun q0 => ⟨(h1 q0), ⟨(h1 q0), ⟨(h1 q0), ⟨(h2 q0), ⟨(h3 q0), ⟨(h4 q0), ⟨(h2 q0), ⟨(h3 q0), ⟨(h4 q0), ⟨⟨rfl, rfl, rfl, rfl, rfl, rfl, rfl, rfl, rfl, rfl, rfl, rfl, trivial⟩, (y1 q0)⟩⟩⟩⟩⟩⟩⟩⟩⟩⟩, fun q0 => (y2 q0)⟩
theorem all_e8 (A : Prim) (W : Wd) (n : Nat) (c : Nat → Ca) (key k y : Int) (a : Nat) (h : Nat → Int) (b : Nat) (l : Nat → Pr) (has : Bool) (val i : Int) (y' : Int) (a' : Nat) (h' : Nat → Int) (b' : Nat) (l' : Nat → Pr) (has' : Bool) (val' i' : Int) {ψ : Fe2 → Prop} {c0 : Bool} (e0 : A.lt i (A.ofN n) = c0) (h1 : c0 = true → (A.inB i n) = true) (h2 : c0 = true → (okS a (fnR h) b (fnR l)) = true) (h3 : c0 = true → (badS k y (c (A.toN i)).op (c (A.toN i)).key (c (A.toN i)).val) = true) (h4 : c0 = true → (isES 3 k (c (A.toN i)).op) = true) (y1 : c0 = true → ψ (Fe2.at_ 0 [Eqn.sh (Sh.sl 3 n (fnR c)) (Sh.sl 3 n (fnR c)), Eqn.int key key, Eqn.int k k, Eqn.bool has has', Eqn.int val val', Eqn.int (A.add .i64 i (Int.ofNat 1)) i', Eqn.int k k, Eqn.int y y', Eqn.sh (Sh.sl 1 a (fnR h)) (Sh.sl 1 a' (fnR h')), Eqn.sh (Sh.sl 2 b (fnR l)) (Sh.sl 2 b' (fnR l'))])) (y2 : c0 = false → False) : MeetsT ψ (runTo (C7 A W (spec8b 3) sAl) nH0 300 400 8 tbB8 (LB8 n c key k y a h b l has val i) [] [⟨8, tdB8, LB8 n c key k y' a' h' b' l' has' val' i', []⟩]) := by
 subst e0
 rw [e8 A W n c key k y a h b l has val i y' a' h' b' l' has' val' i', meetsT_eq]
 exact ⟨fun q0 => ⟨(h1 q0), ⟨(h1 q0), ⟨(h1 q0), ⟨(h2 q0), ⟨(h3 q0), ⟨(h4 q0), ⟨(h2 q0), ⟨(h3 q0), ⟨(h4 q0), ⟨⟨rfl, rfl, rfl, rfl, rfl, rfl, rfl, rfl, rfl, rfl, rfl, rfl, trivial⟩, (y1 q0)⟩⟩⟩⟩⟩⟩⟩⟩⟩⟩, fun q0 => (y2 q0)⟩
theorem all_f43_1 (A : Prim) (W : Wd) (y : Int) (a : Nat) (h : Nat → List Sh) (b : Nat) (l : Nat → List Sh) (key : Int) (has : Bool) (val : Int) {ψ : Fe2 → Prop} {c0 c1 c2 : Bool} (e0 : A.nt has = c0) (e1 : A.eq (rtS (Int.ofNat 1) y (Int.ofNat 1) (Int.ofNat 0) (Int.ofNat 0) a h b l) (Int.ofNat 2) = c1) (e2 : A.eq (rtS (Int.ofNat 1) y (Int.ofNat 1) (Int.ofNat 0) (Int.ofNat 0) a h b l) (Int.ofNat 3) = c2) (h1 : (okS a h b l) = true) (h2 : (tells (Int.ofNat 1) (Int.ofNat 1) (Int.ofNat 0)) = true) (y1 : c0 = true → c1 = true → ψ (Fe2.ret (Sh.b (A.eq (gtS (Int.ofNat 1) y (Int.ofNat 1) (Int.ofNat 0) (Int.ofNat 0) a h b l) (Int.ofNat 0))))) (y2 : c0 = true → c1 = false → ψ (Fe2.ret (Sh.b false))) (y3 : c0 = false → c2 = true → ψ (Fe2.ret (Sh.b (A.eq (gtS (Int.ofNat 1) y (Int.ofNat 1) (Int.ofNat 0) (Int.ofNat 0) a h b l) val)))) (y4 : c0 = false → c2 = false → ψ (Fe2.ret (Sh.b false))) : MeetsT ψ (runTo (C7 A W specT sAl) nH0 300 400 43 [.code []] (start0 68 [.agg [.v (.int .i64 1), .i .i64 y, .sl 1 a h, .sl 2 b l], .v (.int .i64 1), .i .i64 key, .b has, .i .i64 val] L0) [] []) := by
 subst e0 e1 e2
 rw [f43_1 A W y a h b l key has val, meetsT_eq]
 exact ⟨(h1), ⟨(h2), ⟨fun q0 => ⟨fun q1 => (y1 q0 q1), fun q1 => (y2 q0 q1)⟩, fun q0 => ⟨fun q1 => (y3 q0 q1), fun q1 => (y4 q0 q1)⟩⟩⟩⟩
theorem all_f43_2 (A : Prim) (W : Wd) (y : Int) (a : Nat) (h : Nat → List Sh) (b : Nat) (l : Nat → List Sh) (key : Int) (has : Bool) (val : Int) {ψ : Fe2 → Prop} {c0 c1 c2 : Bool} (e0 : A.nt has = c0) (e1 : A.eq (rtS (Int.ofNat 2) y (Int.ofNat 4) (Int.ofNat 0) (Int.ofNat 0) a h b l) (Int.ofNat 2) = c1) (e2 : A.eq (rtS (Int.ofNat 2) y (Int.ofNat 4) (Int.ofNat 0) (Int.ofNat 0) a h b l) (Int.ofNat 3) = c2) (h1 : (okS a h b l) = true) (h2 : (tells (Int.ofNat 2) (Int.ofNat 4) (Int.ofNat 0)) = true) (y1 : c0 = true → c1 = true → ψ (Fe2.ret (Sh.b (A.eq (gtS (Int.ofNat 2) y (Int.ofNat 4) (Int.ofNat 0) (Int.ofNat 0) a h b l) (Int.ofNat 0))))) (y2 : c0 = true → c1 = false → ψ (Fe2.ret (Sh.b false))) (y3 : c0 = false → c2 = true → ψ (Fe2.ret (Sh.b (A.eq (gtS (Int.ofNat 2) y (Int.ofNat 4) (Int.ofNat 0) (Int.ofNat 0) a h b l) val)))) (y4 : c0 = false → c2 = false → ψ (Fe2.ret (Sh.b false))) : MeetsT ψ (runTo (C7 A W specT sAl) nH0 300 400 43 [.code []] (start0 68 [.agg [.v (.int .i64 2), .i .i64 y, .sl 1 a h, .sl 2 b l], .v (.int .i64 2), .i .i64 key, .b has, .i .i64 val] L0) [] []) := by
 subst e0 e1 e2
 rw [f43_2 A W y a h b l key has val, meetsT_eq]
 exact ⟨(h1), ⟨(h2), ⟨fun q0 => ⟨fun q1 => (y1 q0 q1), fun q1 => (y2 q0 q1)⟩, fun q0 => ⟨fun q1 => (y3 q0 q1), fun q1 => (y4 q0 q1)⟩⟩⟩⟩
theorem all_f43_4 (A : Prim) (W : Wd) (y : Int) (a : Nat) (h : Nat → List Sh) (b : Nat) (l : Nat → List Sh) (key : Int) (has : Bool) (val : Int) {ψ : Fe2 → Prop} {c0 c1 c2 c3 c4 : Bool} (e0 : A.lt key (Int.ofNat 0) = c0) (e1 : A.lt (Int.ofNat 1000) key = c1) (e2 : A.nt has = c2) (e3 : A.eq (rtS (Int.ofNat 4) y (Int.ofNat 8) key (Int.ofNat 0) a h b l) (Int.ofNat 2) = c3) (e4 : A.eq (rtS (Int.ofNat 4) y (Int.ofNat 8) key (Int.ofNat 0) a h b l) (Int.ofNat 3) = c4) (h1 : c0 = false → c1 = false → (okS a h b l) = true) (h2 : c0 = false → c1 = false → (tells (Int.ofNat 4) (Int.ofNat 8) key) = true) (y1 : c0 = true → ψ (Fe2.ret (Sh.b true))) (y2 : c0 = false → c1 = true → ψ (Fe2.ret (Sh.b true))) (y3 : c0 = false → c1 = false → c2 = true → c3 = true → ψ (Fe2.ret (Sh.b (A.eq (gtS (Int.ofNat 4) y (Int.ofNat 8) key (Int.ofNat 0) a h b l) (Int.ofNat 0))))) (y4 : c0 = false → c1 = false → c2 = true → c3 = false → ψ (Fe2.ret (Sh.b false))) (y5 : c0 = false → c1 = false → c2 = false → c4 = true → ψ (Fe2.ret (Sh.b (A.eq (gtS (Int.ofNat 4) y (Int.ofNat 8) key (Int.ofNat 0) a h b l) val)))) (y6 : c0 = false → c1 = false → c2 = false → c4 = false → ψ (Fe2.ret (Sh.b false))) : MeetsT ψ (runTo (C7 A W specT sAl) nH0 300 400 43 [.code []] (start0 68 [.agg [.v (.int .i64 4), .i .i64 y, .sl 1 a h, .sl 2 b l], .v (.int .i64 4), .i .i64 key, .b has, .i .i64 val] L0) [] []) := by
 subst e0 e1 e2 e3 e4
 rw [f43_4 A W y a h b l key has val, meetsT_eq]
 exact ⟨fun q0 => (y1 q0), fun q0 => ⟨fun q1 => (y2 q0 q1), fun q1 => ⟨(h1 q0 q1), ⟨(h2 q0 q1), ⟨fun q2 => ⟨fun q3 => (y3 q0 q1 q2 q3), fun q3 => (y4 q0 q1 q2 q3)⟩, fun q2 => ⟨fun q3 => (y5 q0 q1 q2 q3), fun q3 => (y6 q0 q1 q2 q3)⟩⟩⟩⟩⟩⟩
end Go.Proofs
namespace Go.Pl
open Go Go.Sx Go.Proofs
theorem wfP_B {m : Nat} {s : Sta} (h : InvB m s) : wfP s.ps = true := by
 rcases h.kd with e | e | e | e
 ·rw [(h.nm (.inl e)).2.1]; rfl
 ·rw [(h.nm (.inr e)).2.1]; rfl
 ·rw [(h.qu e).2.1]; rfl
 ·obtain ⟨_, _, h1, h2⟩ := h.mp e
  refine wf_iff.2 ⟨h1, fun p hp => ?_⟩
  have := bey_in (h2 p hp)
  omega
theorem okS_B {m : Nat} {s : Sta} (h : InvB m s) (hm : m ≤ 1000) : okS (len s.q) (fnR (nth s.q)) (len s.ps) (fnR (nth s.ps)) = true := by
 have h1 := h.lq
 have h2 := h.lp
 have e : len s.ps ≤ 100000 := by unfold len; omega
 unfold okS wfG
 rw [lstP, okB_put, okB_put, wfP_B h]
 simp only [Bool.and_eq_true, decide_eq_true_eq]
 exact ⟨⟨trivial, room_le (by unfold len; omega) (by omega)⟩, ⟨⟨trivial, e⟩, trivial⟩, room_le (by unfold len; omega) (by omega)⟩
theorem lstI (q : List Int) : lst Int (len q) (fnR (nth q)) = q := lst_nth q
theorem nuS_e (s : Sta) (op k v : Int) : nuS s.kind s.num op k v (len s.q) (fnR (nth s.q)) (len s.ps) (fnR (nth s.ps)) = (opT s op k v).1.num := by unfold nuS; rw [lstP, lstI]
theorem nqS_e (s : Sta) (op k v : Int) : nqS s.kind s.num op k v (len s.q) (fnR (nth s.q)) (len s.ps) (fnR (nth s.ps)) = (opT s op k v).1.q := by unfold nqS; rw [lstP, lstI]
theorem npS_e (s : Sta) (op k v : Int) : npS s.kind s.num op k v (len s.q) (fnR (nth s.q)) (len s.ps) (fnR (nth s.ps)) = (opT s op k v).1.ps := by unfold npS; rw [lstP, lstI]
end Go.Pl
namespace Go.Pl
open Go Go.Sx Go.Proofs
def updH (op k key : Int) (has : Bool) : Bool := if op = 7 ∧ k = key then true else if op = 9 ∧ k = key then false else has
def updV (op k v key val : Int) : Int := if op = 2 then v else if op = 3 then addW val v else if op = 7 ∧ k = key then v else if op = 9 ∧ k = key then 0 else val
structure InvL (K key : Int) (i : Nat) (s : Sta) (has : Bool) (val : Int) : Prop where
 kd : s.kind = K
 inv : InvB i s
 nm : K = 1 ∨ K = 2 → has = true ∧ s.num = val
 mp : K = 4 → getP s.ps key = (if has = true then some val else none) ∧ (has = false → val = 0)
theorem invL_nx {K key : Int} {i : Nat} {s : Sta} {has : Bool} {val op k v : Int} (h : InvL K key i s has val) (hg : goodS s.kind s.num op k v = true) : InvL K key (i + 1) (opT s op k v).1 (updH op k key has) (updV op k v key val) := by
 have hb := invB_nx h.inv hg
 have hk := (op_kind s op k v).trans h.kd
 obtain ⟨h1, h2, _⟩ := goodS_op hg
 have hK := h.kd
 rcases ofOp_in h1 h2 with ⟨e, o⟩ | ⟨e, o⟩ | ⟨e, o⟩ | ⟨e, o⟩
 ·obtain ⟨a1, a2⟩ := h.nm (.inl (by omega))
  rcases o with rfl | rfl
  ·refine ⟨hk, hb, fun _ => ⟨a1, a2⟩, fun q => ?_⟩
   omega
  ·refine ⟨hk, hb, fun _ => ⟨a1, rfl⟩, fun q => ?_⟩
   omega
 ·obtain ⟨a1, a2⟩ := h.nm (.inr (by omega))
  rcases o with rfl | rfl
  ·refine ⟨hk, hb, fun _ => ⟨a1, ?_⟩, fun q => ?_⟩
   ·show addW s.num v = addW val v
    rw [a2]
   ·omega
  ·refine ⟨hk, hb, fun _ => ⟨a1, a2⟩, fun q => ?_⟩
   omega
 ·refine ⟨hk, hb, fun q => ?_, fun q => ?_⟩ <;> omega
 ·have hs := (h.inv.mp e).2.2.1
  obtain ⟨a1, a2⟩ := h.mp (by omega)
  refine ⟨hk, hb, fun q => by omega, fun _ => ?_⟩
  rcases o with rfl | rfl | rfl
  ·show getP (putP s.ps k v) key = _ ∧ _
   rw [get_put hs]
   by_cases q : k = key
   ·have e1 : updH 7 k key has = true := if_pos ⟨rfl, q⟩
    have e2 : updV 7 k v key val = v := by
     unfold updV
     rw [if_neg (by decide), if_neg (by decide), if_pos ⟨rfl, q⟩]
    rw [e1, e2, if_pos q.symm]
    exact ⟨rfl, fun q => by cases q⟩
   ·have e1 : updH 7 k key has = has := by
     unfold updH
     rw [if_neg fun q2 => q q2.2, if_neg fun q2 => q q2.2]
    have e2 : updV 7 k v key val = val := by
     unfold updV
     rw [if_neg (by decide), if_neg (by decide), if_neg fun q2 => q q2.2, if_neg fun q2 => q q2.2]
    rw [e1, e2, if_neg fun e => q e.symm]
    exact ⟨a1, a2⟩
  ·exact ⟨a1, a2⟩
  ·show getP (delP s.ps k) key = _ ∧ _
   rw [get_del hs]
   by_cases q : k = key
   ·have e1 : updH 9 k key has = false := by
     unfold updH
     rw [if_neg (fun e => absurd e.1 (by decide)), if_pos ⟨rfl, q⟩]
    have e2 : updV 9 k v key val = 0 := by
     unfold updV
     rw [if_neg (by decide), if_neg (by decide), if_neg (fun e => absurd e.1 (by decide)), if_pos ⟨rfl, q⟩]
    rw [e1, e2, if_pos q.symm]
    exact ⟨rfl, fun _ => rfl⟩
   ·have e1 : updH 9 k key has = has := by
     unfold updH
     rw [if_neg fun q2 => q q2.2, if_neg fun q2 => q q2.2]
    have e2 : updV 9 k v key val = val := by
     unfold updV
     rw [if_neg (by decide), if_neg (by decide), if_neg fun q2 => q q2.2, if_neg fun q2 => q q2.2]
    rw [e1, e2, if_neg fun e => q e.symm]
    exact ⟨a1, a2⟩
theorem last_ok {K key : Int} {i : Nat} {s : Sta} {has : Bool} {val : Int} (h : InvL K key i s has val) (hi : i ≤ 1000) : lastB K s.num (len s.q) (fnR (nth s.q)) (len s.ps) (fnR (nth s.ps)) K key has val = true := by
 unfold lastB
 rw [okS_B h.inv hi, lstP]
 have hk := h.inv.kd
 rw [h.kd] at hk
 exact decide_eq_true ⟨rfl, hk, h.nm, fun q => ⟨wfP_B h.inv, (h.mp q).1, (h.mp q).2⟩⟩
theorem invL_new {K key : Int} (hK : K = 1 ∨ K = 2 ∨ K = 3 ∨ K = 4) : InvL K key 0 ⟨K, 0, [], []⟩ (decide (K ≤ 2)) 0 := by
 refine ⟨rfl, invB_new ?_, fun q => ⟨decide_eq_true (by omega), rfl⟩, fun q => ⟨?_, fun _ => rfl⟩⟩
 ·rcases hK with rfl | rfl | rfl | rfl <;> rfl
 ·subst q
  rfl
end Go.Pl
namespace Go.Pl
open Go Go.Sx Go.Proofs
section
variable {op k v key val : Int} {has : Bool}
theorem upd2 (h : op = 2) : has = updH op k key has ∧ v = updV op k v key val := by
 subst h
 exact ⟨by unfold updH; rw [if_neg (fun e => absurd e.1 (by decide)), if_neg (fun e => absurd e.1 (by decide))], rfl⟩
theorem upd3 (h : op = 3) : has = updH op k key has ∧ addW val v = updV op k v key val := by
 subst h
 exact ⟨by unfold updH; rw [if_neg (fun e => absurd e.1 (by decide)), if_neg (fun e => absurd e.1 (by decide))], rfl⟩
theorem upd7 (h : op = 7) (hk : k = key) : true = updH op k key has ∧ v = updV op k v key val := by
 subst h
 exact ⟨by unfold updH; rw [if_pos ⟨rfl, hk⟩], by unfold updV; rw [if_neg (by decide), if_neg (by decide), if_pos ⟨rfl, hk⟩]⟩
theorem upd9 (h : op = 9) (hk : k = key) : false = updH op k key has ∧ 0 = updV op k v key val := by
 subst h
 exact ⟨by unfold updH; rw [if_neg (fun e => absurd e.1 (by decide)), if_pos ⟨rfl, hk⟩], by unfold updV; rw [if_neg (by decide), if_neg (by decide), if_neg (fun e => absurd e.1 (by decide)), if_pos ⟨rfl, hk⟩]⟩
theorem updn (h2 : op ≠ 2) (h3 : op ≠ 3) (h7 : ¬ (op = 7 ∧ k = key)) (h9 : ¬ (op = 9 ∧ k = key)) : has = updH op k key has ∧ val = updV op k v key val :=
 ⟨by unfold updH; rw [if_neg h7, if_neg h9], by unfold updV; rw [if_neg h2, if_neg h3, if_neg h7, if_neg h9]⟩
theorem eq_tr {a b : Int} (h : prim.eq a b = true) : a = b := by simpa [prim_eq] using h
theorem eq_fa {a b : Int} (h : prim.eq a b = false) : a ≠ b := by simpa [prim_eq] using h
theorem look_rt {y : Int} {a : Nat} {h : Nat → List Sh} {b : Nat} {l : Nat → List Sh} : rtS 4 y 8 key 0 a h b l = if (getP (lst Pr b l) key).isSome = true then 3 else 2 := by
 show retP (lst Pr b l) key = _
 unfold retP
 rw [has_get]
theorem look_gt {y : Int} {a : Nat} {h : Nat → List Sh} {b : Nat} {l : Nat → List Sh} (hs : wfP (lst Pr b l) = true) : gtS 4 y 8 key 0 a h b l = (getP (lst Pr b l) key).getD 0 := by
 show valP (lst Pr b l) key = _
 exact val_get (wf_iff.1 hs).1
end
end Go.Pl
namespace Go.Proofs
open Go Go.Sx Go.Pl
theorem OT42 : FnOK Tryz.prog (gls7 W7) 42 T42 := by
 intro H w shs args φ hon hg hr h
 unfold T42 at h
 split at h
 ·rename_i t0 y s2 s3 t u v
  split at h
  ·rename_i x a hh b l op k e0 e1 e2 e3 e4 e5
   obtain ⟨h1, h2, hφ⟩ := h
   match args, hr with
   | [v0, v1, v2, v3], ⟨r0, r1, r2, r3, _⟩ =>
    have r0' : Rep H (.agg [.i .i64 x, .i .i64 y, s2, s3]) v0 := by
     cases r0 with
     | agg _ vs hl hr =>
      refine .agg _ _ hl fun j s' v' q1 q2 => ?_
      match j, q1 with
      | 0, q1 => cases q1; exact rep_num e0 (hr 0 _ _ rfl q2)
      | j + 1, q1 => exact hr (j + 1) _ _ q1 q2
    obtain ⟨m1, m2, m3, m4⟩ := okS_ok h1 op
    have h2 := of_decide_eq_true h2
    have hb : badOp x op = false ∧ badKV x y op k 0 = false ∧ (opT ⟨x, y, lst Int a hh, lst Pr b l⟩ op k 0).1 = ⟨x, y, lst Int a hh, lst Pr b l⟩ := by
     rcases h2 with ⟨rfl, rfl, rfl⟩ | ⟨rfl, rfl, rfl⟩ | ⟨rfl, rfl, q1, q2⟩
     ·exact ⟨rfl, rfl, rfl⟩
     ·exact ⟨rfl, rfl, rfl⟩
     ·refine ⟨rfl, ?_, rfl⟩
      have d1 : decide (k < 0) = false := decide_eq_false (by omega)
      have d2 : decide (1000 < k) = false := decide_eq_false (by omega)
      unfold badKV
      rw [d1, d2]
      have d3 : keyed 8 = true := rfl
      rw [d3]
      simp
    obtain ⟨b1, b2, b3⟩ := hb
    refine (O42 H w [.agg [.i .i64 x, .i .i64 y, s2, s3], t, u, v] [v0, v1, v2, v3] (fun s => s = .tup [.agg (staS ⟨x, y, lst Int a hh, lst Pr b l⟩), .i .i64 (rtS x y op k 0 a hh b l), .i .i64 (gtS x y op k 0 a hh b l), .v .nilIface]) hon hg ⟨r0', r1, r2, r3, trivial⟩ ?_).mono fun e w' ⟨v', s, H', he2, hs, r⟩ => ?_
    ·unfold F42
     simp only [e1, e2, e3, e4, e5]
     refine ⟨m1, m2, m3, fun q => no2 b1 q, fun _ => ⟨fun q => no2 b2 q, fun _ => ⟨m4, ?_⟩⟩⟩
     show _ = _
     have z : Int.ofNat 0 = 0 := rfl
     rw [z, b3]
     rfl
    ·subst hs
     have g1 : ∀ j, j < len (lst Int a hh) → fnR (nth (lst Int a hh)) j = hh j := fun j hj => by
      have hj : j < a := by simpa [len] using hj
      show Row.put (nth (lst Int a hh) j) = hh j
      rw [nth_lst hj, ← okB_at m1 j hj]
     have g2 : ∀ j, j < len (lst Pr b l) → fnR (nth (lst Pr b l)) j = l j := fun j hj => by
      have hj : j < b := by simpa [len] using hj
      show Row.put (nth (lst Pr b l) j) = l j
      rw [nth_lst hj, ← okB_at m2 j hj]
     obtain ⟨H2, r2⟩ := r.wk (s' := .tup [.agg [.i .i64 x, .i .i64 y, .sl 1 a hh, .sl 2 b l], .i .i64 (rtS x y op k 0 a hh b l), .i .i64 (gtS x y op k 0 a hh b l), .v .nilIface]) ⟨⟨rfl, rfl, .inr ⟨rfl, by unfold len; rw [lst_length], g1⟩, .inr ⟨rfl, by unfold len; rw [lst_length], g2⟩, trivial⟩, rfl, rfl, rfl, trivial⟩
     exact ⟨v', _, H2, he2, hφ, r2⟩
  ·exact h.elim
 ·exact h.elim
theorem fokT (stop : Nat → List Nat → Bool) : FnsOK Tryz.prog (C7 prim W7 specT stop) := C7.fok (fun g F h => by
 unfold specT at h
 split at h
 ·cases h; exact OT42
 ·cases h) fun g h => by
 unfold specT at h
 split at h
 all_goals first | (cases h; done) | kernel_rfl
theorem rep_litv {H : Mem} {n : Int} {v : Value} (h : Rep H (.i .i64 n) v) : Rep H (.v (.int .i64 n)) v := by
 cases h
 exact .v _ rfl
theorem rep_bool {H : Mem} {t : Sh} {b : Bool} {v : Value} (e : bcode t = some b) (h : Rep H t v) : Rep H (.b b) v := by
 unfold bcode at e
 split at e
 ·cases e; exact h
 ·cases e
  cases h
  exact .b _
 ·cases e
theorem OS43 : FnOK Tryz.prog (gls7 W7) 43 S43 := by
 refine fnOK_S (C := C7 prim W7 specT sAl) (C7.ok _ _) (fn := Tryz.f43) (by kernel_rfl) (by kernel_rfl) fun H w shs args φ hrep h => ?_
 have hn : Tryz.f43.ntmps = 68 := by kernel_rfl
 unfold S43 at h
 split at h
 ·rename_i x t0 s2 s3 t1 t2 t3 t4
  split at h
  ·rename_i y a hh b l k key has val e0 e1 e2 e3 e4 e5 e6
   obtain ⟨h1, hφ⟩ := h
   have hφ : φ (.b true) := hφ
   unfold lastB at h1
   rw [Bool.and_eq_true] at h1
   obtain ⟨hok, h2⟩ := h1
   obtain ⟨hx, hk, h12, h4⟩ := of_decide_eq_true h2
   subst hx
   match args, hrep with
   | [v0, v1, v2, v3, v4], ⟨r0, r1, r2, r3, r4, _⟩ =>
    have r0' : Rep H (.agg [.v (.int .i64 x), .i .i64 y, .sl 1 a hh, .sl 2 b l]) v0 := by
     cases r0 with
     | agg _ vs hl hr =>
      refine .agg _ _ hl fun j s' v' q1 q2 => ?_
      match j, q1 with
      | 0, q1 => cases q1; exact rep_litv (hr 0 _ _ rfl q2)
      | 1, q1 => cases q1; exact rep_num e0 (hr 1 _ _ rfl q2)
      | 2, q1 => cases q1; exact rep_slN e1 (hr 2 _ _ rfl q2)
      | 3, q1 => cases q1; exact rep_slN e2 (hr 3 _ _ rfl q2)
      | j + 4, q1 => cases q1
    refine ⟨[.agg [.v (.int .i64 x), .i .i64 y, .sl 1 a hh, .sl 2 b l], .v (.int .i64 x), .i .i64 key, .b has, .i .i64 val], ⟨r0', rep_litv (rep_num e3 r1), rep_num e4 r2, rep_bool e5 r3, rep_num e6 r4, trivial⟩, L0, ?_⟩
    have ret (c : Bool) (hc : c = true) : φ (.b c) := by rw [hc]; exact hφ
    have eqr {p q : Int} (h : p = q) : prim.eq p q = true := by simp [prim_eq, h]
    refine gSt (C7.ok _ _) (fokT _) (hold := nH0) (m := 300) (n := 400) (ts := []) ?_
    rw [hn]
    rcases hk with rfl | rfl | rfl | rfl
    ·obtain ⟨q1, q2⟩ := h12 (.inl rfl)
     subst q1 q2
     have nh : prim.nt true = false := by simp [prim_nt]
     refine all_f43_1 prim W7 y a hh b l key true y rfl rfl rfl hok rfl (fun q => no2 nh q) (fun q => no2 nh q) (fun _ _ => ret _ (eqr rfl)) (fun _ q => ?_)
     exact no2 q (eqr rfl)
    ·obtain ⟨q1, q2⟩ := h12 (.inr rfl)
     subst q1 q2
     have nh : prim.nt true = false := by simp [prim_nt]
     refine all_f43_2 prim W7 y a hh b l key true y rfl rfl rfl hok rfl (fun q => no2 nh q) (fun q => no2 nh q) (fun _ _ => ret _ (eqr rfl)) (fun _ q => ?_)
     exact no2 q (eqr rfl)
    ·rw [f43_3 prim W7 y a hh b l key has val, meetsT_eq]
     exact hφ
    ·obtain ⟨w1, w2, w3⟩ := h4 rfl
     have er : rtS (Int.ofNat 4) y (Int.ofNat 8) key (Int.ofNat 0) a hh b l = if (getP (lst Pr b l) key).isSome = true then 3 else 2 := look_rt
     have eg : gtS (Int.ofNat 4) y (Int.ofNat 8) key (Int.ofNat 0) a hh b l = (getP (lst Pr b l) key).getD 0 := look_gt w1
     rw [w2] at er eg
     have tl (h1 : prim.lt key (Int.ofNat 0) = false) (h2 : prim.lt (Int.ofNat 1000) key = false) : tells (Int.ofNat 4) (Int.ofNat 8) key = true := by
      have h1 : ¬ key < 0 := by simpa [prim_lt] using h1
      have h2 : ¬ 1000 < key := by simpa [prim_lt] using h2
      exact decide_eq_true (.inr (.inr ⟨rfl, rfl, by omega, by omega⟩))
     cases has with
     | true =>
      have nh : prim.nt true = false := by simp [prim_nt]
      refine all_f43_4 prim W7 y a hh b l key true val rfl rfl rfl rfl rfl (fun _ _ => hok) (fun q1 q2 => tl q1 q2) (fun _ => hφ) (fun _ _ => hφ) (fun _ _ q => no2 nh q) (fun _ _ q => no2 nh q) (fun _ _ _ _ => ret _ (eqr eg)) (fun _ _ _ q => no2 q (eqr er))
     | false =>
      have nh : prim.nt false = true := by simp [prim_nt]
      refine all_f43_4 prim W7 y a hh b l key false val rfl rfl rfl rfl rfl (fun _ _ => hok) (fun q1 q2 => tl q1 q2) (fun _ => hφ) (fun _ _ => hφ) (fun _ _ _ _ => ret _ (eqr eg)) (fun _ _ _ q => no2 q (eqr er)) (fun _ _ q => no2 q nh) (fun _ _ q => no2 q nh)
  ·exact h.elim
 ·exact h.elim
theorem res_n1 {H H' : Mem} {w w' : World} {v : Value} {W X Y Z : Sh} {b : Int} (h : SpecRes H w (.tup [.agg [W, .i .i64 b, X, Y], Z]) v H' w') : SpecRes H w (.tup [.agg [W, .v (.int .i64 b), X, Y], Z]) v H' w' :=
 ⟨h.Hle, h.on, h.os, h.tape, h.output, h.size, h.old, h.fresh, fun b0 => by
  obtain ⟨E1, a1, a2, ⟨⟨vs⟩, e, hd⟩, a4⟩ := h.res b0
  refine ⟨E1, a1, a2, ⟨⟨vs⟩, e, ?_⟩, a4⟩
  match vs, hd with
  | [x, u], ⟨h1, h4, _⟩ =>
   obtain ⟨⟨us⟩, e2, hd2⟩ := h1
   refine ⟨⟨⟨us⟩, e2, ?_⟩, h4, trivial⟩
   match us, hd2 with
   | [p, q, m, n], ⟨k1, k2, k3, k4, _⟩ => exact ⟨k1, k2, k3, k4, trivial⟩⟩
theorem OS41 : FnOK Tryz.prog (gls7 W7) 41 S41 := by
 intro H w shs args φ hon hg hr h
 unfold S41 at h
 split at h
 ·rename_i t u
  split at h
  ·rename_i k e1 e2
   obtain ⟨hk, h⟩ := h
   have hk := of_decide_eq_true hk
   match args, hr with
   | [v], ⟨r, _⟩ =>
    have r' : Rep H (.agg [.i .i64 k, .i .i64 0]) v := by
     cases r with
     | agg _ vs hl hr =>
      refine .agg _ _ hl fun j s' v' h1 h2 => ?_
      match j, h1 with
      | 0, h1 => cases h1; exact rep_num e1 (hr 0 _ _ rfl h2)
      | 1, h1 => cases h1; exact rep_num e2 (hr 1 _ _ rfl h2)
      | j + 2, h1 => cases h1
    have hb : badOb k 0 = false := by
     rcases (show k = 1 ∨ k = 2 ∨ k = 3 ∨ k = 4 by omega) with rfl | rfl | rfl | rfl <;> rfl
    refine (O41 H w [.agg [.i .i64 k, .i .i64 0]] [v] (fun s => s = .tup [.agg [.i .i64 k, .i .i64 0, .sl 1 0 noI, .sl 2 0 noP], .v .nilIface]) hon hg ⟨r', trivial⟩ ⟨decide_eq_true (by omega), ⟨fun q => no2 hb q, fun _ => rfl⟩⟩).mono fun e w' ⟨v', s, H', he, hs, r⟩ => ?_
    subst hs
    exact ⟨v', _, H', he, h, res_n1 r⟩
  ·exact h.elim
 ·exact h.elim
theorem fok8 (stop : Nat → List Nat → Bool) : FnsOK Tryz.prog (C7 prim W7 spec8 stop) := C7.fok (fun g F h => by
 unfold spec8 at h
 split at h
 ·cases h; exact O40
 ·cases h; exact OS41
 ·cases h; exact fnOK_no
 ·cases h; exact OS43
 ·cases h) fun g h => by
 unfold spec8 at h
 split at h
 all_goals first | (cases h; done) | kernel_rfl
theorem fok8g (stop : Nat → List Nat → Bool) : FnsOK Tryz.prog (C7 prim W7 spec8g stop) := C7.fok (fun g F h => by
 unfold spec8g at h
 split at h
 ·cases h; exact OS42g
 ·cases h; exact fnOK_no
 ·cases h) fun g h => by
 unfold spec8g at h
 split at h
 all_goals first | (cases h; done) | kernel_rfl
theorem fok8b (e : Nat) (stop : Nat → List Nat → Bool) : FnsOK Tryz.prog (C7 prim W7 (spec8b e) stop) := C7.fok (fun g F h => by
 unfold spec8b at h
 split at h
 ·cases h; exact OS42b e
 ·cases h; exact fnOK_no
 ·cases h) fun g h => by
 unfold spec8b at h
 split at h
 all_goals first | (cases h; done) | kernel_rfl
section
variable {H0 : Mem} {w0 : World} {φ : Sh → Prop} {n : Nat} {c : Nat → Ca} {key K : Int}
theorem loop8 (hn : n ≤ 300) (hK : prim.add .i64 K (Int.ofNat 1) = K + 1) (hk : GoesS Tryz.prog (C7 prim W7 spec8 sAl) (K0 H0 w0) 8 td8 (LA8 n c key (K + 1)) [] emp φ) : ∀ r i (s : Sta) has val, i + r = n → InvL K key i s has val →
  GoesS Tryz.prog (C7 prim W7 spec8 sAl) (K0 H0 w0) 8 tdB8 (LB8 n c key K s.num (len s.q) (nth s.q) (len s.ps) (nth s.ps) has val (i : Nat)) [] emp φ
 | 0, i, s, has, val, hi, hI => by
  refine gSi (fn := Tryz.f8) (tb := tbB8) (by kernel_rfl) (by kernel_rfl) ?_
  refine gSt (C7.ok _ _) (fok8 _) (hold := nH0) (m := 300) (n := 400) (ts := [⟨8, td8, LA8 n c key (K + 1), []⟩]) ?_
  have lt {P : Prop} (h : prim.lt (i : Int) (prim.ofN n) = true) : P := by simp [prim_lt, prim_ofN] at h; omega
  have nh : prim.nt true = false := by simp [prim_nt]
  exact all_b8 prim W7 n c key K s.num (len s.q) (nth s.q) (len s.ps) (nth s.ps) has val i (K + 1) rfl rfl (fun q => lt q) (fun _ => last_ok hI (by omega)) (fun q => lt q) (fun _ q => no2 nh q)
   fun _ _ => ⟨⟨rfl, rfl, hK, trivial⟩, _, rfl, hk⟩
 | r + 1, i, s, has, val, hi, hI => by
  refine gSi (fn := Tryz.f8) (tb := tbB8) (by kernel_rfl) (by kernel_rfl) ?_
  have w1 : prim.add .i64 (i : Int) (Int.ofNat 1) = ((i + 1 : Nat) : Int) := add1 (by omega)
  have no {P : Prop} (h : prim.lt (i : Int) (prim.ofN n) = false) : P := by simp [prim_lt, prim_ofN] at h; omega
  have inb (h : prim.lt (i : Int) (prim.ofN n) = true) : prim.inB (i : Int) n = true := by simp [prim_inB]; omega
  have hok := okS_B hI.inv (show i ≤ 1000 by omega)
  have hkd := hI.kd
  cases hb : goodS K s.num (c i).op (c i).key (c i).val with
  | true =>
   have hg : goodS s.kind s.num (c i).op (c i).key (c i).val = true := by rw [hkd]; exact hb
   have e1 := nuS_e s (c i).op (c i).key (c i).val
   have e2 := nqS_e s (c i).op (c i).key (c i).val
   have e3 := npS_e s (c i).op (c i).key (c i).val
   rw [hkd] at e1 e2 e3
   refine goesS_spec (s := spec8g) (stop := sAl) ?_
   refine gSt (C7.ok _ _) (fok8g _) (hold := nH0) (m := 300) (n := 400) (ts := [⟨8, tdB8, LB8 n c key K (nuS K s.num (c i).op (c i).key (c i).val (len s.q) (fnR (nth s.q)) (len s.ps) (fnR (nth s.ps))) (len (nqS K s.num (c i).op (c i).key (c i).val (len s.q) (fnR (nth s.q)) (len s.ps) (fnR (nth s.ps)))) (nth (nqS K s.num (c i).op (c i).key (c i).val (len s.q) (fnR (nth s.q)) (len s.ps) (fnR (nth s.ps)))) (len (npS K s.num (c i).op (c i).key (c i).val (len s.q) (fnR (nth s.q)) (len s.ps) (fnR (nth s.ps)))) (nth (npS K s.num (c i).op (c i).key (c i).val (len s.q) (fnR (nth s.q)) (len s.ps) (fnR (nth s.ps)))) (updH (c i).op (c i).key key has) (updV (c i).op (c i).key (c i).val key val) ((i + 1 : Nat) : Int), []⟩]) ?_
   have nx : GoesS Tryz.prog (C7 prim W7 spec8g sAl) (K0 H0 w0) 8 tdB8 (LB8 n c key K (nuS K s.num (c i).op (c i).key (c i).val (len s.q) (fnR (nth s.q)) (len s.ps) (fnR (nth s.ps))) (len (nqS K s.num (c i).op (c i).key (c i).val (len s.q) (fnR (nth s.q)) (len s.ps) (fnR (nth s.ps)))) (nth (nqS K s.num (c i).op (c i).key (c i).val (len s.q) (fnR (nth s.q)) (len s.ps) (fnR (nth s.ps)))) (len (npS K s.num (c i).op (c i).key (c i).val (len s.q) (fnR (nth s.q)) (len s.ps) (fnR (nth s.ps)))) (nth (npS K s.num (c i).op (c i).key (c i).val (len s.q) (fnR (nth s.q)) (len s.ps) (fnR (nth s.ps)))) (updH (c i).op (c i).key key has) (updV (c i).op (c i).key (c i).val key val) ((i + 1 : Nat) : Int)) [] emp φ := by
    rw [e1, e2, e3]
    exact goesS_spec (s := spec8) (stop := sAl) (loop8 hn hK hk r (i + 1) _ _ _ (by omega) (invL_nx hI hg))
   generalize hH : updH (c i).op (c i).key key has = has' at nx ⊢
   generalize hV : updV (c i).op (c i).key (c i).val key val = val' at nx ⊢
   have fin {b : Bool} {v : Int} (h : b = updH (c i).op (c i).key key has ∧ v = updV (c i).op (c i).key (c i).val key val) : b = has' ∧ v = val' := ⟨h.1.trans hH, h.2.trans hV⟩
   refine all_c8 prim W7 n c key K s.num (len s.q) (nth s.q) (len s.ps) (nth s.ps) has val i _ _ _ _ _ has' val' _ rfl rfl rfl rfl rfl rfl inb (fun _ => hok) (fun _ => hb) ?_ ?_ ?_ ?_ ?_ ?_ ?_ (fun q => no q)
   ·intro _ q1
    obtain ⟨u1, u2⟩ := fin (upd2 (eq_tr q1))
    exact ⟨⟨rfl, rfl, rfl, u1, u2, w1, rfl, rfl, rfl, rfl, trivial⟩, _, rfl, nx⟩
   ·intro _ _ q1
    obtain ⟨u1, u2⟩ := fin (upd3 (eq_tr q1))
    exact ⟨⟨rfl, rfl, rfl, u1, u2, w1, rfl, rfl, rfl, rfl, trivial⟩, _, rfl, nx⟩
   ·intro _ _ _ q1 q2
    obtain ⟨u1, u2⟩ := fin (upd7 (eq_tr q1) (eq_tr q2))
    exact ⟨⟨rfl, rfl, rfl, u1, u2, w1, rfl, rfl, rfl, rfl, trivial⟩, _, rfl, nx⟩
   ·intro _ a1 a2 q1 q2
    have a3 := eq_tr q1
    obtain ⟨u1, u2⟩ := fin (updn (eq_fa a1) (eq_fa a2) (fun e => eq_fa q2 e.2) (fun e => eq_fa q2 e.2))
    exact ⟨⟨rfl, rfl, rfl, u1, u2, w1, rfl, rfl, rfl, rfl, trivial⟩, _, rfl, nx⟩
   ·intro _ _ _ _ q1 q2
    obtain ⟨u1, u2⟩ := fin (upd9 (eq_tr q1) (eq_tr q2))
    exact ⟨⟨rfl, rfl, rfl, u1, u2, w1, rfl, rfl, rfl, rfl, trivial⟩, _, rfl, nx⟩
   ·intro _ a1 a2 a3 q1 q2
    obtain ⟨u1, u2⟩ := fin (updn (eq_fa a1) (eq_fa a2) (fun e => eq_fa q2 e.2) (fun e => eq_fa q2 e.2))
    exact ⟨⟨rfl, rfl, rfl, u1, u2, w1, rfl, rfl, rfl, rfl, trivial⟩, _, rfl, nx⟩
   ·intro _ a1 a2 a3 q1
    obtain ⟨u1, u2⟩ := fin (updn (eq_fa a1) (eq_fa a2) (fun e => eq_fa a3 e.1) (fun e => eq_fa q1 e.1))
    exact ⟨⟨rfl, rfl, rfl, u1, u2, w1, rfl, rfl, rfl, rfl, trivial⟩, _, rfl, nx⟩
  | false =>
   have hb := good_bad hb
   have hI' : InvL K key (i + 1) s has val := ⟨hI.kd, ⟨hI.inv.kd, Nat.le_succ_of_le hI.inv.lq, Nat.le_succ_of_le hI.inv.lp, hI.inv.nm, hI.inv.qu, hI.inv.mp⟩, hI.nm, hI.mp⟩
   have nx := loop8 hn hK hk r (i + 1) s has val (by omega) hI'
   rcases err_casesS K (c i).op with he | he
   ·refine goesS_spec (s := spec8b 1) (stop := sAl) ?_
    refine gSt (C7.ok _ _) (fok8b 1 _) (hold := nH0) (m := 300) (n := 400) (ts := [⟨8, tdB8, LB8 n c key K s.num (len s.q) (nth s.q) (len s.ps) (nth s.ps) has val ((i + 1 : Nat) : Int), []⟩]) ?_
    refine all_d8 prim W7 n c key K s.num (len s.q) (nth s.q) (len s.ps) (nth s.ps) has val i _ _ _ _ _ has val _ rfl inb (fun _ => hok) (fun _ => hb) (fun _ => he) ?_ (fun q => no q)
    exact fun q0 => ⟨⟨rfl, rfl, rfl, rfl, rfl, w1, rfl, rfl, rfl, rfl, trivial⟩, _, rfl, goesS_spec (stop := sAl) nx⟩
   ·refine goesS_spec (s := spec8b 3) (stop := sAl) ?_
    refine gSt (C7.ok _ _) (fok8b 3 _) (hold := nH0) (m := 300) (n := 400) (ts := [⟨8, tdB8, LB8 n c key K s.num (len s.q) (nth s.q) (len s.ps) (nth s.ps) has val ((i + 1 : Nat) : Int), []⟩]) ?_
    refine all_e8 prim W7 n c key K s.num (len s.q) (nth s.q) (len s.ps) (nth s.ps) has val i _ _ _ _ _ has val _ rfl inb (fun _ => hok) (fun _ => hb) (fun _ => he) ?_ (fun q => no q)
    exact fun q0 => ⟨⟨rfl, rfl, rfl, rfl, rfl, w1, rfl, rfl, rfl, rfl, trivial⟩, _, rfl, goesS_spec (stop := sAl) nx⟩
end
section
variable {H0 : Mem} {w0 : World} {φ : Sh → Prop} {n : Nat} {c : Nat → Ca} {key : Int}
theorem kinds8 (hn : n ≤ 300) (hφ : φ (.b true)) : ∀ (r : Nat) (K : Int), K + r = 5 → 1 ≤ K → GoesS Tryz.prog (C7 prim W7 spec8 sAl) (K0 H0 w0) 8 td8 (LA8 n c key K) [] emp φ
 | 0, K, hK, h1 => by
  refine gSi (fn := Tryz.f8) (tb := tb8) (by kernel_rfl) (by kernel_rfl) ?_
  refine gSt (C7.ok _ _) (fok8 _) (hold := nH0) (m := 300) (n := 400) (ts := [⟨8, tdB8, LB8 n c key K 0 0 (nth []) 0 (nth []) true 0 0, []⟩]) ?_
  have no {P : Prop} (h : prim.le K (Int.ofNat 4) = true) : P := by simp [prim_le] at h; omega
  exact all_k8 prim W7 n c key K 0 0 (nth []) 0 (nth []) true 0 0 rfl (fun q => no q) (fun q => no q) (fun _ => hφ)
 | r + 1, K, hK, h1 => by
  refine gSi (fn := Tryz.f8) (tb := tb8) (by kernel_rfl) (by kernel_rfl) ?_
  have hk4 : K = 1 ∨ K = 2 ∨ K = 3 ∨ K = 4 := by omega
  have hadd : prim.add .i64 K (Int.ofNat 1) = K + 1 := by
   rcases hk4 with rfl | rfl | rfl | rfl <;> rfl
  have lp := loop8 (φ := φ) hn hadd (kinds8 hn hφ r (K + 1) (by omega) (by omega)) n 0 ⟨K, 0, [], []⟩ (decide (K ≤ 2)) 0 (by omega) (invL_new hk4)
  refine gSt (C7.ok _ _) (fok8 _) (hold := nH0) (m := 300) (n := 400) (ts := [⟨8, tdB8, LB8 n c key K 0 0 (nth []) 0 (nth []) (decide (K ≤ 2)) 0 ((0 : Nat) : Int), []⟩]) ?_
  have no {P : Prop} (h : prim.le K (Int.ofNat 4) = false) : P := by simp [prim_le] at h; omega
  refine all_k8 prim W7 n c key K 0 0 (nth []) 0 (nth []) (decide (K ≤ 2)) 0 _ rfl (fun _ => decide_eq_true (by omega)) (fun _ => ⟨⟨rfl, rfl, rfl, ?_, rfl, rfl, rfl, rfl, rfl, rfl, trivial⟩, _, rfl, lp⟩) (fun q => no q)
  show prim.le K (Int.ofNat 2) = decide (K ≤ 2)
  simp [prim_le]
end
def F8 : List Sh → Tree Sh
 | [.sl 3 n g, .i .i64 _] => .need (okB Ca n g) (.leaf (.b true))
 | _ => .fail
theorem O8 : FnOK Tryz.prog (gls7 W7) 8 F8 := by
 refine fnOK_S (C := C7 prim W7 spec8 sAl) (C7.ok _ _) (fn := Tryz.f8) (by kernel_rfl) (by kernel_rfl) fun H w shs args φ hrep h => ?_
 have hn : Tryz.f8.ntmps = 121 := by kernel_rfl
 unfold F8 at h
 split at h
 ·rename_i n g key
  obtain ⟨h1, hφ⟩ := h
  match args, hrep with
  | [v, v1], ⟨r, r1, _⟩ =>
   refine ⟨[.sl 3 n (fnR (rwAt (α := Ca) g)), .i .i64 key], ⟨rep_rows r h1, r1, trivial⟩, L0, ?_⟩
   have hφ : φ (.b true) := hφ
   generalize rwAt (α := Ca) g = c
   refine gSt (C7.ok _ _) (fok8 _) (hold := nH0) (m := 300) (n := 400) (ts := [⟨8, td8, LA8 n c key 1, []⟩]) ?_
   rw [hn]
   exact all_a8 prim W7 n c key 1 rfl (fun _ => hφ) (fun q => ⟨⟨rfl, rfl, rfl, trivial⟩, _, rfl, kinds8 (lt_f q) hφ 4 1 rfl (by decide)⟩)
 ·exact h.elim
end Go.Proofs
namespace Go.Sx
open Go.RowKit Go.ChangeShapes Go.WideShapes Go.Deep
def memOf (w : World) : Mem := fun b => w.heap[b]?
theorem memOf_on (w : World) : (memOf w).on w := fun _ _ h => h
theorem hcell_memOf {w : World} {a : Addr} {v : Value} (h : w.cell? a = some v) : hcell (memOf w) a.block a.off = some v ∧ a.spot = none := by
 unfold World.cell? at h
 unfold hcell memOf
 split at h
 ·rename_i c t f hb
  rw [hb]
  cases hs : a.spot with
  | none => simp only [hs, Option.isSome_none, Bool.false_eq_true, if_false] at h; exact ⟨h, rfl⟩
  | some x => simp [hs] at h
 ·cases h
section
variable {H : Type} {enc : TypeId × Value → H} {P : Program} {w : World} {base : Nat} {spare : Nat → Bool} {held : Bool}
def flatB (P : Program) (fs : Array Field) (k : Nat) : Bool :=
 fs.size == k && (List.range k).all fun i => match fs[i]? with
  | some f => f.offset == i && (match P.underlying f.type with | some (.int .i64) => true | _ => false) && P.cellsOf f.type == 1
  | none => false
def rowB (P : Program) (e k : Nat) : Bool :=
 match P.underlying e with
 | some (.int .i64) => k == 1 && P.cellsOf e == 1
 | some (.struct fs) => flatB P fs k && P.cellsOf e == k
 | _ => false
def int64 (n : Int) : Prop := (Lit.int .i64 n).wf = true
theorem flat_cells {e k fuel : Nat} {cs : List Value} {x : DataW H × List MemPlace} (hr : rowB P e k = true) (h : DataW.trod enc P w base spare held fuel e cs = some x) :
  ∃ ns : List Int, ns.length = k ∧ cs = ns.map (Value.int .i64) ∧ ∀ n ∈ ns, int64 n := by
 unfold rowB at hr
 split at hr
 ·rename_i hu
  simp only [Bool.and_eq_true, beq_iff_eq] at hr
  obtain ⟨n, rfl, _, hw⟩ := DataW.trod_int hu h
  exact ⟨[n], hr.1.symm, rfl, fun m hm => by simp at hm; subst hm; exact hw⟩
 ·rename_i fs hu
  simp only [Bool.and_eq_true, beq_iff_eq] at hr
  obtain ⟨hf, hc⟩ := hr
  unfold flatB at hf
  simp only [Bool.and_eq_true, beq_iff_eq] at hf
  obtain ⟨hk, hf⟩ := hf
  obtain ⟨xs, m, _, _, hlen, hxs, hel⟩ := DataW.trod_struct hu h
  rw [hc] at hlen
  have cell : ∀ i, i < k → ∃ n, cs[i]? = some (.int .i64 n) ∧ int64 n := fun i hi => by
   have q := List.all_eq_true.1 hf i (List.mem_range.2 hi)
   split at q
   ·rename_i f hfi
    simp only [Bool.and_eq_true, beq_iff_eq] at q
    obtain ⟨⟨ho, ht⟩, h1⟩ := q
    have ht : P.underlying f.type = some (.int .i64) := by
     split at ht
     ·assumption
     ·cases ht
    have q2 := hel i f hfi
    rw [ho, h1] at q2
    have hxi : i < xs.length := by rw [hxs, hk]; exact hi
    rw [List.getElem?_eq_getElem hxi] at q2
    obtain ⟨n, e1, _, e3⟩ := DataW.trod_int ht q2
    refine ⟨n, ?_, e3⟩
    have : (List.take 1 (List.drop i cs))[0]? = some (.int .i64 n) := by rw [e1]; rfl
    simpa using this
   ·cases q
  clear hel h hf
  have : ∀ (j : Nat) (l : List Value), l.length = j → (∀ i, i < j → ∃ n, l[i]? = some (.int .i64 n) ∧ int64 n) → ∃ ns : List Int, ns.length = j ∧ l = ns.map (Value.int .i64) ∧ ∀ n ∈ ns, int64 n := by
   intro j
   induction j with
   | zero => intro l hl _; exact ⟨[], rfl, by simpa using hl, fun _ h => by simp at h⟩
   | succ j ih =>
    intro l hl hc
    match l, hl with
    | v :: l, hl =>
     obtain ⟨ns, h1, h2, h3⟩ := ih l (by simpa using hl) fun i hi => by simpa using hc (i + 1) (by omega)
     obtain ⟨n, q1, q2⟩ := hc 0 (by omega)
     simp at q1
     subst q1
     exact ⟨n :: ns, by simp [h1], by simp [h2], fun m hm => by
      rcases List.mem_cons.1 hm with rfl | hm
      ·exact q2
      ·exact h3 m hm⟩
  exact this k cs hlen cell
 ·cases hr
def shInts (ns : List Int) : List Sh := ns.map (Sh.i .i64)
theorem cells?_at {w : World} {base : Nat} {a : Addr} {n : Nat} {cs : List Value} (h : w.cells? base a n = some cs) : cs.length = n ∧ ∀ j, j < n → w.cell? (a.add j) = cs[j]? := by
 unfold World.cells? at h
 split at h
 ·have : ∀ (l : List Nat) (cs : List Value), l.mapM (fun i => w.cell? (a.add i)) = some cs → cs.length = l.length ∧ ∀ (j : Nat) (i : Nat), l[j]? = some i → w.cell? (a.add i) = cs[j]? := by
   intro l
   induction l with
   | nil => intro cs h; simp at h; subst h; exact ⟨rfl, fun j i e => by simp at e⟩
   | cons x l ih =>
    intro cs h
    rw [List.mapM_cons] at h
    simp only [Option.bind_eq_bind, Option.bind_eq_some_iff, Option.pure_def] at h
    obtain ⟨v, h1, vs, h2, h3⟩ := h
    cases h3
    obtain ⟨e1, e2⟩ := ih vs h2
    refine ⟨by simp [e1], fun j i e => ?_⟩
    match j, e with
    | 0, e => simp at e; subst e; simpa using h1
    | j + 1, e => simpa using e2 j i (by simpa using e)
  obtain ⟨e1, e2⟩ := this _ _ h
  rw [List.length_range] at e1
  exact ⟨e1, fun j hj => e2 j j (by simp [hj])⟩
 ·cases h
theorem add_off (a : Addr) (n : Nat) : (a.add n).off = a.off + n ∧ (a.add n).block = a.block := by
 unfold Addr.add
 split
 ·subst_vars; exact ⟨rfl, rfl⟩
 ·exact ⟨rfl, rfl⟩
theorem add_add' (a : Addr) (i j : Nat) : (a.add i).add j = a.add (i + j) := by
 unfold Addr.add
 by_cases hi : i = 0 <;> by_cases hj : j = 0 <;> simp [hi, hj, Nat.add_assoc]
theorem rep_rowsl {t e k fuel : Nat} {cs : List Value} {x : DataW H × List MemPlace} (ht : P.underlying t = some (.slice e)) (hr : rowB P e k = true) (hk : P.cellsOf e = k) (h0 : 0 < k)
  (h : DataW.trod enc P w base spare held fuel t cs = some x) :
  ∃ v n g, cs = [v] ∧ Rep (memOf w) (.sl k n g) v ∧ ∀ i, i < n → ∃ ns : List Int, ns.length = k ∧ g i = shInts ns ∧ ∀ n ∈ ns, int64 n := by
 rcases open_slice ht h with ⟨rfl, _⟩ | ⟨a, len, cap, m, n, D, Pl, rfl, hb, hl, hcap, hm, _, hel⟩
 ·exact ⟨_, 0, fun _ => [], rfl, .sl0 _ _ _ _ (Nat.zero_le _), fun i hi => by omega⟩
 have hlm : len ≤ m := by rw [hm]; split <;> omega
 rw [hk] at hel
 have row : ∀ i, i < len → ∃ ns : List Int, ns.length = k ∧ w.cells? base (a.add (i * k)) k = some (ns.map (Value.int .i64)) ∧ ∀ n ∈ ns, int64 n := fun i hi => by
  obtain ⟨cs', h1, h2⟩ := hel i (by omega)
  obtain ⟨ns, e1, rfl, e3⟩ := flat_cells hr h2
  exact ⟨ns, e1, h1, e3⟩
 by_cases hz : len = 0
 ·subst hz
  exact ⟨_, 0, fun _ => [], rfl, .sl0 _ _ _ _ hcap, fun i hi => by omega⟩
 let N : Nat → List Int := fun i => if h : i < len then (row i h).choose else []
 have hN : ∀ i, i < len → (N i).length = k ∧ w.cells? base (a.add (i * k)) k = some ((N i).map (Value.int .i64)) ∧ ∀ n ∈ N i, int64 n := fun i hi => by
  simp only [N, dif_pos hi]
  exact (row i hi).choose_spec
 have cell : ∀ i j, i < len → j < k → w.cell? (a.add (i * k + j)) = ((N i).map (Value.int .i64))[j]? := fun i j hi hj => by
  have := (cells?_at (hN i hi).2.1).2 j hj
  rwa [add_add'] at this
 have hspot : a.spot = none := by
  have h1 := cell 0 0 (by omega) h0
  have : ∃ v, w.cell? a = some v := by
   have hl0 := (hN 0 (by omega)).1
   match hq : N 0 with
   | [] => rw [hq] at hl0; simp at hl0; omega
   | x :: r =>
    rw [hq] at h1
    simp [Addr.add] at h1
    exact ⟨_, h1⟩
  obtain ⟨v, hv⟩ := this
  exact (hcell_memOf hv).2
 obtain ⟨blk, off, spot⟩ := a
 simp only at hspot
 subst hspot
 refine ⟨_, len, fun i => shInts (N i), rfl, .sl _ _ _ blk off cap (fun i j => ((N i).map (Value.int .i64)).getD j .nilFunc) hl hcap (fun i hi => by simp [shInts, (hN i hi).1]) (fun i j hi hj => ?_) (fun i j hi hj => ?_) (fun i j s hi e => ?_), fun i hi => ⟨N i, (hN i hi).1, rfl, (hN i hi).2.2⟩⟩
 ·have h1 := cell i j hi hj
  have hlt : j < ((N i).map (Value.int .i64)).length := by simpa [(hN i hi).1] using hj
  rw [List.getElem?_eq_getElem hlt] at h1
  have h2 := (hcell_memOf h1).1
  rw [(add_off _ _).1, (add_off _ _).2] at h2
  simp only [Nat.add_assoc] at h2 ⊢
  rw [h2, List.getD_eq_getElem?_getD, List.getElem?_eq_getElem hlt]; rfl
 ·have hlt : j < (N i).length := by rw [(hN i hi).1]; exact hj
  simp [List.getD_eq_getElem?_getD, hlt]; rfl
 ·simp only [shInts, List.getElem?_map, Option.map_eq_some_iff] at e
  obtain ⟨n, h3, rfl⟩ := e
  simp [List.getD_eq_getElem?_getD, h3]
  exact .i _ _
theorem rep_slice_arg {t e k : Nat} {v : Value} {d : DataW H} {ps : List MemPlace} (ht : P.underlying t = some (.slice e)) (hr : rowB P e k = true) (hk : P.cellsOf e = k) (h0 : 0 < k) {b0 : Nat} (hval : Value.okWide P w .any b0 t v) (hd : DataW.Trod enc P w base spare held t v d ps) :
  ∃ n g, Rep (memOf w) (.sl k n g) v ∧ ∀ i, i < n → ∃ ns : List Int, ns.length = k ∧ g i = shInts ns ∧ ∀ n ∈ ns, int64 n := by
 obtain ⟨fuel, hd⟩ := hd
 obtain ⟨u, n, g, h1, h2, h3⟩ := rep_rowsl ht hr hk h0 hd
 have : v = u := by
  unfold Value.okWide at hval
  rw [ht] at hval
  cases v <;> simp [Value.cells] at h1 <;> first | exact h1 | skip
  all_goals (unfold Cell.okWide at hval; simp [ht] at hval; try (simp [Cell.ok, ht] at hval))
 subst this
 exact ⟨n, g, h2, h3⟩
end
end Go.Sx
namespace Go.Sx
open Go.RowKit Go.ChangeShapes Go.WideShapes Go.Deep
theorem var_heap {P : Program} {W : World} {n : String} {g : Nat} {cs : Array Value} (hg : P.globalNamed n = some g) (h : W.var? P n = some cs) : ∃ e f, W.heap[g]? = some (.cells cs e f) := by
 unfold World.var? at h
 rw [hg] at h
 simp only [Option.bind_some] at h
 split at h
 ·rename_i c e f hb
  cases h
  exact ⟨_, _, hb⟩
 ·cases h
theorem laid_er {P : Program} {n nm : String} {text : List UInt8} {r : List (String × DataW Unit)} {W : World} {g : Nat} {ti tp te ts : TypeId} {ms : Array (String × TypeId)} {f : Field}
  (h : laidMet P ((n, .iface nm (.ptr (.agg [.lit (.string text)]))) :: r) W)
  (hg : P.globalNamed n = some g) (ht : (P.globals[g]?).map (·.type) = some ti) (hi : P.underlying ti = some (.interface ms)) (hrow : ∀ u, P.typeName? 3 u = some nm → u = tp)
  (hp : P.underlying tp = some (.pointer te)) (he : P.underlying te = some (.struct #[f])) (hft : f.type = ts) (hfo : f.offset = 0) (hs : P.underlying ts = some .string) (hc : P.cellsOf te = 1) (hcs : P.cellsOf ts = 1) :
  GlobAt (memOf W) g (.er g tp) := by
 obtain ⟨ps, ⟨g0, t0, cs0, f0, p0, q0, hg0, ht0, hv0, hd0, _, e0⟩, _, hrows⟩ := h
 obtain rfl := Option.some.inj (hg.symm.trans hg0)
 obtain rfl := Option.some.inj (ht.symm.trans ht0)
 subst e0
 obtain ⟨l0⟩ := cs0
 have ok0 : ∀ u v, l0 = [.iface u v] → Value.okWide P W .any 0 u v := fun u v e => by
  subst e
  exact (hrows g 0 (by simp [MemPlace.row])).2 u v (by simpa using World.var?_cell hg0 hv0 0)
 obtain ⟨a0, s0, rfl, hc0, hs0, hz0, rfl⟩ := errorString_of_trod hi hrow hp he hft hfo hs hc hcs hd0 ok0
 obtain ⟨c0, t0, hb0⟩ := (hrows a0.block a0.off (by simp [MemPlace.row])).1
 obtain ⟨e, f, hh⟩ := var_heap hg hv0
 have h1 : hcell (memOf W) g 0 = some (.iface tp (.pointer (some a0))) := by
  unfold hcell memOf
  rw [hh]; rfl
 exact ⟨_, h1, .er g tp a0 c0 t0 h1 hb0, rfl⟩
theorem laid_strs {P : Program} {n : String} {texts : List (List UInt8)} {r : List (String × DataW Unit)} {W : World} {g : Nat} {t e : TypeId} {k : Nat}
  (h : laidMet P ((n, .agg (texts.map fun s => .lit (.string s))) :: r) W)
  (hg : P.globalNamed n = some g) (ht : (P.globals[g]?).map (·.type) = some t) (hu : P.underlying t = some (.array k e)) (he : P.underlying e = some .string) (hce : P.cellsOf e = 1) (hct : P.cellsOf t = texts.length) :
  GlobAt (memOf W) g (.tup (texts.map Sh.str)) := by
 obtain ⟨ps, ⟨g0, t0, cs0, f0, p0, q0, hg0, ht0, hv0, hd0, _, e0⟩, _, hrows⟩ := h
 obtain rfl := Option.some.inj (hg.symm.trans hg0)
 obtain rfl := Option.some.inj (ht.symm.trans ht0)
 obtain ⟨e1, f1, hh⟩ := var_heap hg hv0
 obtain ⟨xs, m, _, hx, hlen, hxs, hel⟩ := DataW.trod_array hu hd0
 have hxs' : xs.map (·.1) = texts.map fun s => .lit (.string s) := by
  have := congrArg Prod.fst hx
  simp at this
  exact this.symm
 have hkt : k = texts.length := by
  have := congrArg List.length hxs'
  simp at this
  omega
 subst hkt
 have cell : ∀ j (hj : j < texts.length), cs0[j]? = some (.string ⟨texts[j].toArray⟩) := fun j hj => by
  have q := hel j hj
  rw [hce, Nat.mul_one] at q
  have hxj : j < xs.length := by omega
  rw [List.getElem?_eq_getElem hxj] at q
  obtain ⟨s, q1, q2, _⟩ := DataW.trod_string he q
  have q3 : (xs.map (·.1))[j]? = some (.lit (.string texts[j])) := by rw [hxs']; simp [hj]
  have q4 : (xs[j]).1 = .lit (.string texts[j]) := by
   rw [List.getElem?_map, List.getElem?_eq_getElem hxj] at q3
   simpa using q3
  rw [q2] at q4
  simp at q4
  have q5 : (List.take 1 (List.drop j cs0.toList))[0]? = some (.string s) := by rw [q1]; rfl
  have q6 : cs0[j]? = some (.string s) := by simpa using q5
  rw [q6]
  obtain ⟨⟨l⟩⟩ := s
  have : l = texts[j] := q4
  subst this; rfl
 refine ⟨⟨cs0, e1, f1, hh, by rw [List.length_map, ← hct, ← hlen]; simp⟩, fun j => .string ⟨(texts.getD j []).toArray⟩, fun j hj => ?_, fun j s hs => ?_⟩
 ·have hj' : j < texts.length := by simpa using hj
  refine ⟨?_, rfl⟩
  unfold hcell memOf
  rw [hh]
  simp only [cell j hj', List.getD_eq_getElem?_getD, List.getElem?_eq_getElem hj', Option.getD_some]
 ·rw [List.getElem?_map, Option.map_eq_some_iff] at hs
  obtain ⟨l, h1, rfl⟩ := hs
  show Rep (memOf W) (.str l) (.string ⟨(texts.getD j []).toArray⟩)
  rw [List.getD_eq_getElem?_getD, h1]
  exact .str l
theorem laid_nums {P : Program} {n : String} {kd : IntKind} {texts : List Int} {r : List (String × DataW Unit)} {W : World} {g : Nat} {t e : TypeId} {k : Nat}
  (h : laidMet P ((n, .agg (texts.map fun s => .lit (.int kd s))) :: r) W)
  (hg : P.globalNamed n = some g) (ht : (P.globals[g]?).map (·.type) = some t) (hu : P.underlying t = some (.array k e)) (he : P.underlying e = some (.int kd)) (hce : P.cellsOf e = 1) (hct : P.cellsOf t = texts.length) :
  GlobAt (memOf W) g (.tup (texts.map (Sh.i kd))) := by
 obtain ⟨ps, ⟨g0, t0, cs0, f0, p0, q0, hg0, ht0, hv0, hd0, _, e0⟩, _, hrows⟩ := h
 obtain rfl := Option.some.inj (hg.symm.trans hg0)
 obtain rfl := Option.some.inj (ht.symm.trans ht0)
 obtain ⟨e1, f1, hh⟩ := var_heap hg hv0
 obtain ⟨xs, m, _, hx, hlen, hxs, hel⟩ := DataW.trod_array hu hd0
 have hxs' : xs.map (·.1) = texts.map fun s => .lit (.int kd s) := by
  have := congrArg Prod.fst hx
  simp at this
  exact this.symm
 have hkt : k = texts.length := by
  have := congrArg List.length hxs'
  simp at this
  omega
 subst hkt
 have cell : ∀ j (hj : j < texts.length), cs0[j]? = some (.int kd texts[j]) := fun j hj => by
  have q := hel j hj
  rw [hce, Nat.mul_one] at q
  have hxj : j < xs.length := by omega
  rw [List.getElem?_eq_getElem hxj] at q
  obtain ⟨s, q1, q2, _⟩ := DataW.trod_int he q
  have q3 : (xs.map (·.1))[j]? = some (.lit (.int kd texts[j])) := by rw [hxs']; simp [hj]
  have q4 : (xs[j]).1 = .lit (.int kd texts[j]) := by
   rw [List.getElem?_map, List.getElem?_eq_getElem hxj] at q3
   simpa using q3
  rw [q2] at q4
  simp at q4
  have q5 : (List.take 1 (List.drop j cs0.toList))[0]? = some (.int kd s) := by rw [q1]; rfl
  have q6 : cs0[j]? = some (.int kd s) := by simpa using q5
  rw [q6]
  rw [q4]
 refine ⟨⟨cs0, e1, f1, hh, by rw [List.length_map, ← hct, ← hlen]; simp⟩, fun j => .int kd (texts.getD j 0), fun j hj => ?_, fun j s hs => ?_⟩
 ·have hj' : j < texts.length := by simpa using hj
  refine ⟨?_, rfl⟩
  unfold hcell memOf
  rw [hh]
  simp only [cell j hj', List.getD_eq_getElem?_getD, List.getElem?_eq_getElem hj', Option.getD_some]
 ·rw [List.getElem?_map, Option.map_eq_some_iff] at hs
  obtain ⟨l, h1, rfl⟩ := hs
  show Rep (memOf W) (.i kd l) (.int kd (texts.getD j 0))
  rw [List.getD_eq_getElem?_getD, h1]
  exact .i kd l
end Go.Sx
