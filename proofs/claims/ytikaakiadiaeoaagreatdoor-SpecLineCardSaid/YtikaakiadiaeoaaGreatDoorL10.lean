/-
  Chapter 6: the state that a key tells: the loops. Chapter 6: the state that a key tells. Chapter 6: the chapter's examples; evaluated. Chapter 6: the chapter's examples: the evaluated trees as lemmas, Chapter 6: the chapter's examples hold. Chapter 6: SpecLine: evaluated. Chapter 6: SpecLine: the evaluated trees as lemmas, Chapter 6: SpecLine. From the readings of a row to the shapes of the executor: ints, flat structs of ints, slices of them, the listed variables; and back: the row's post. The listed variables, as the executor's globals. Chapter 6: the listed variables are the executor's globals. Own work (written by program). From a law's summary to its row's post: it answers true, and what it was given reads as it did. Arguments of chapter 7: the kinds of objects fit; a struct of ints. Chapter 6: what the laws' rows have in common. Chapter 6: the law SpecLine, as its row says. Chapter 6: the tied card of SpecLine.
-/
import Derived.Test.YtikaakiadiaeoaaGreatDoorL09
import Derived.ProofKit
import Derived.Deep.Slices
import Derived.Stop.LaidErr
import Derived.LaidMore
import Derived.OpenShut
import Derived.MakeChecks
import Derived.Test.YtikaakiadiaeoaaGreatDoorRows
import Derived.Carry
import Derived.Stop.Joined
import GoSem.PinnedTables
import Derived.Test.YtikaakiadiaeoaaGreatDoorTie
import Derived.Test.YtikaakiadiaeoaaGreatDoorCards
namespace Go.Pl
open Go Go.Sx Go.Proofs
def wV (w : List UInt8) : List UInt8 := bif cutI w 58 then cutB w 58 else w
def wK (w : List UInt8) : List UInt8 := bif cutI w 58 then cutA w 58 else [48]
def okW (k : Int) (w : List UInt8) : Bool := (cutI w 58 == decide (k = 4)) && spellsI (wV w) && spellsI (wK w)
def farW (k : Int) (w : List UInt8) : Bool := beyondB k (valA (wK w)) (valA (wV w))
def rises (ps : List Pr) (key : Int) : Bool := decide (ps = []) || !decide (key ≤ (nth ps (ps.length - 1)).key)
def addS (s : Sta) (w : List UInt8) : Sta := if s.kind = 3 then { s with q := s.q ++ [valA (wV w)] } else if s.kind = 4 then { s with ps := s.ps ++ [⟨valA (wK w), valA (wV w)⟩] } else { s with num := valA (wV w) }
def goW (s : Sta) (far : Bool) : List (List UInt8) → Option (Sta × Bool)
 | [] => some (s, far)
 | w :: ws => if okW s.kind w = true ∧ (s.kind = 4 → rises s.ps (valA (wK w)) = true) then goW (addS s w) (far || farW s.kind w) ws else none
def restW (vs : Nat → List UInt8) : Nat → Nat → List (List UInt8)
 | _, 0 => []
 | i, r + 1 => vs i :: restW vs (i + 1) r
noncomputable def zeroR (e : Nat) : Sh := .tup [.agg (staS zeroT), .er e 242]
noncomputable def zeroX (e : Nat) : Sh := .tup [.agg [.i .i64 (Int.ofNat 0), .i .i64 (Int.ofNat 0), .sl 0 0 fun _ => [], .sl 0 0 fun _ => []], .er e 242]
noncomputable def okR (s : Sta) : Sh := .tup [.agg (staS s), .v .nilIface]
def resOK (φ : Sh → Prop) : Option (Sta × Bool) → Prop
 | none => φ (zeroR 2)
 | some (s, far) => if far = true then φ (zeroR 4) else φ (okR s)
theorem nt_t {b : Bool} (h : prim.nt b = true) : b = false := by simpa [prim_nt] using h
theorem nt_f {b : Bool} (h : prim.nt b = false) : b = true := by simpa [prim_nt] using h
theorem short_cut {w : List UInt8} {c : UInt8} (h : shortS w = true) : shortS (cutA w c) = true ∧ shortS (cutB w c) = true := by
 have h : w.length ≤ 1000000000 := of_decide_eq_true h
 unfold cutA cutB cutS Go.Lib.cut
 split
 ·exact ⟨decide_eq_true (by simp only [List.length_take]; omega), decide_eq_true (by simp only [List.length_drop]; omega)⟩
 ·exact ⟨decide_eq_true h, decide_eq_true (by simp)⟩
end Go.Pl
namespace Go.Proofs
open Go Go.Sx Go.Pl
theorem res_lit2 {H H' : Mem} {w w' : World} {v : Value} {X : Sh} {a : Int} (r : SpecRes H w (.tup [.i .i64 a, X]) v H' w') : SpecRes H w (.tup [.v (.int .i64 a), X]) v H' w' :=
 ⟨r.Hle, r.on, r.os, r.tape, r.output, r.size, r.old, r.fresh, fun b0 => by
  obtain ⟨E1, a1, a2, ⟨⟨vs⟩, e, hd⟩, a4⟩ := r.res b0
  refine ⟨E1, a1, a2, ⟨⟨vs⟩, e, ?_⟩, a4⟩
  match vs, hd with
  | [a, b], ⟨h1, h2, _⟩ => exact ⟨h1, h2, trivial⟩⟩
theorem O74w (k : Int) (b : Bool) : FnOK Tryz.prog (gls7 W7) 74 (F74w k b) := by
 intro H w shs args φ on hg hr h
 unfold F74w at h
 split at h
 ·rename_i t w0
  split at h
  ·rename_i e1
   obtain ⟨h1, hφ⟩ := h
   obtain ⟨hk, hb⟩ := of_decide_eq_true h1
   match args, hr with
   | [v1, v2], ⟨r1, r2, _⟩ =>
    have O : FnOK Tryz.prog (gls7 W7) 74 (fun l => match l with | [.v (.int .i64 1), .str w] => .leaf (.tup [.i .i64 (kindW w), .v (.bool (decide (kindW w ≠ 0)))]) | _ => .fail) := by
     refine fnOK_Su (C := C7 prim W7 noSpec stopNone) (C7.ok _ _) (fn := Tryz.f74) (by kernel_rfl) (by kernel_rfl) fun H w shs args φ hrep h => ?_
     have hn : Tryz.f74.ntmps = 32 := by kernel_rfl
     split at h
     ·rename_i l
      refine ⟨[.v (.int .i64 1), .str l], hrep, L0, ?_⟩
      have key : ∀ (n : Int) (b : Bool), n = kindW l → b = decide (kindW l ≠ 0) → up φ (.tup [.i .i64 n, .b b]) := fun n b e1 e2 => up_mk (s' := .tup [.i .i64 (kindW l), .v (.bool (decide (kindW l ≠ 0)))]) ⟨by rw [e1]; rfl, .inr (by rw [e2]), trivial⟩ h
      refine gSt (C7.ok _ _) (fok0 _) (hold := nH0) (m := 3000) (n := 4000) (ts := []) ?_
      rw [hn]
      refine all_a74 prim W7 l ?_ ?_ ?_ ?_ ?_
      ·intro q0
       simp [prim_seq] at q0
       exact key _ _ (by unfold kindW; rw [if_pos q0]; rfl) (by unfold kindW; rw [if_pos q0]; rfl)
      ·intro q0 q1
       simp [prim_seq] at q0 q1
       exact key _ _ (by unfold kindW; rw [if_neg q0, if_pos q1]; rfl) (by unfold kindW; rw [if_neg q0, if_pos q1]; rfl)
      ·intro q0 q1 q2
       simp [prim_seq] at q0 q1 q2
       exact key _ _ (by unfold kindW; rw [if_neg q0, if_neg q1, if_pos q2]; rfl) (by unfold kindW; rw [if_neg q0, if_neg q1, if_pos q2]; rfl)
      ·intro q0 q1 q2 q3
       simp [prim_seq] at q0 q1 q2 q3
       exact key _ _ (by unfold kindW; rw [if_neg q0, if_neg q1, if_neg q2, if_pos q3]; rfl) (by unfold kindW; rw [if_neg q0, if_neg q1, if_neg q2, if_pos q3]; rfl)
      ·intro q0 q1 q2 q3
       simp [prim_seq] at q0 q1 q2 q3
       exact key _ _ (by unfold kindW; rw [if_neg q0, if_neg q1, if_neg q2, if_neg q3]; rfl) (by unfold kindW; rw [if_neg q0, if_neg q1, if_neg q2, if_neg q3]; rfl)
     ·exact h.elim
    refine (O H w [.v (.int .i64 1), .str w0] [v1, v2] (fun s => s = .tup [.i .i64 k, .v (.bool b)]) on hg ⟨rep_lit (rep_num e1 r1), r2, trivial⟩ ?_).mono fun e w' ⟨v, s, H', he, hs, r⟩ => ?_
    ·show Sh.tup _ = _
     rw [hk, hb]
    ·subst hs
     exact ⟨v, _, H', he, hφ, res_lit2 r⟩
  ·exact h.elim
 ·exact h.elim
theorem O108s : FnOK Tryz.prog (gls7 W7) 108 F108s := by
 intro H w shs args φ on hg hr h
 unfold F108s at h
 split at h
 ·split at h
  ·rename_i e1 e2
   match args, hr with
   | [v0, v1, v2, v3], ⟨r0, r1, r2, r3, _⟩ =>
    exact O108 H w [.str _, .str [_], .v (.int .i64 0), .v (.int .i64 (Int.negSucc 0))] [v0, v1, v2, v3] φ on hg ⟨r0, r1, rep_lit (rep_num e1 r2), rep_lit (rep_num e2 r3), trivial⟩ h
  ·exact h.elim
 ·exact h.elim
theorem fok46 (k : Int) (b : Bool) (stop : Nat → List Nat → Bool) : FnsOK Tryz.prog (C7 prim W7 (spec46 k b) stop) := C7.fok (fun g F h => by
 unfold spec46 at h
 split at h
 ·cases h; exact O69
 ·cases h; exact O74w k b
 ·cases h; exact O75
 ·cases h; exact O76
 ·cases h; exact O108s
 ·cases h) fun g h => by
 unfold spec46 at h
 split at h
 all_goals first | (cases h; done) | kernel_rfl
section
variable {H0 : Mem} {w0 : World} {φ : Sh → Prop} {m : Nat} {vs : Nat → List UInt8}
theorem loopb46_1 (hm : m ≤ 100000) (hsh : ∀ j, j < m → shortS (vs j) = true) : ∀ r i (x : Int) (far : Bool), i + r = m → resOK φ (goW ⟨1, x, [], []⟩ far (restW vs i r)) → GoesS Tryz.prog (C7 prim W7 (spec46 1 true) sAl) (K0 H0 w0) 46 td46 (LF1 1 x m vs (i : Nat) far) [] emp (up φ)
 | 0, i, x, far, hi, hφ => by
  refine gSi (fn := Tryz.f46) (tb := tb46) (by kernel_rfl) (by kernel_rfl) ?_
  have ht : prim.toN (i : Int) = i := Int.toNat_natCast i
  have k0 : prim.lt (i : Int) (Int.ofNat m) = false := by simp [prim_lt]; omega
  have hφ : (if far = true then φ (zeroR 4) else φ (okR ⟨1, x, [], []⟩)) := hφ
  have fin4 (h5 : far = true) : up φ (zeroX 4) := by rw [if_pos h5] at hφ; exact up_mk (s' := zeroR 4) ⟨⟨rfl, rfl, .inl ⟨rfl, rfl⟩, .inl ⟨rfl, rfl⟩, trivial⟩, rfl, trivial⟩ hφ
  have fin0 (h5 : far = false) : up φ (.tup [.agg [.i .i64 1, .i .i64 x, .sl 0 0 fun _ => [], .sl 0 0 fun _ => []], .v .nilIface]) := by rw [if_neg (by rw [h5]; simp)] at hφ; exact up_mk (s' := okR ⟨1, x, [], []⟩) ⟨⟨rfl, rfl, .inl ⟨rfl, rfl⟩, .inl ⟨rfl, rfl⟩, trivial⟩, rfl, trivial⟩ hφ
  refine gSt (C7.ok _ _) (fok46 _ _ _) (hold := nH0) (m := 300) (n := 400) (ts := [⟨46, td46, LF1 1 (valA (wV (vs i))) m vs (i : Nat) far, []⟩]) ?_
  rw [b46_1 prim W7 m vs x (valA (wV (vs i))) i ((i : Nat) : Int) far far, meetsT_eq]
  exact ⟨fun q0 => no2 k0 q0, fun q0 => ⟨fun q1 => fin4 q1, fun q1 => fin0 q1⟩⟩
 | r + 1, i, x, far, hi, hφ => by
  refine gSi (fn := Tryz.f46) (tb := tb46) (by kernel_rfl) (by kernel_rfl) ?_
  have ht : prim.toN (i : Int) = i := Int.toNat_natCast i
  have k0 : prim.lt (i : Int) (Int.ofNat m) = true := by simp [prim_lt]; omega
  have i1 : prim.inB (i : Int) m = true := by simp [prim_inB]; omega
  have hw : shortS (vs i) = true := hsh i (by omega)
  have w1 : prim.add .i64 (i : Int) (Int.ofNat 1) = ((i + 1 : Nat) : Int) := add1 (by omega)
  have hφ : resOK φ (if okW (1 : Int) (vs i) = true ∧ ((1 : Int) = (4 : Int) → rises [] (valA (wK (vs i))) = true) then goW (addS ⟨1, x, [], []⟩ (vs i)) (far || farW (1 : Int) (vs i)) (restW vs (i + 1) r) else none) := hφ
  have hbad (h5 : okW (1 : Int) (vs i) = false) : up φ (zeroX 2) := by
   rw [if_neg (by rw [h5]; simp)] at hφ
   exact up_mk (s' := zeroR 2) ⟨⟨rfl, rfl, .inl ⟨rfl, rfl⟩, .inl ⟨rfl, rfl⟩, trivial⟩, rfl, trivial⟩ hφ
  have rec_ (q : okW 1 (vs i) = true) : GoesS Tryz.prog (C7 prim W7 (spec46 1 true) sAl) (K0 H0 w0) 46 td46 (LF1 1 (valA (wV (vs i))) m vs ((i + 1 : Nat) : Int) (far || farW 1 (vs i))) [] emp (up φ) := by
   rw [if_pos ⟨q, fun h => by cases h⟩] at hφ
   exact loopb46_1 hm hsh r (i + 1) _ _ (by omega) hφ
  refine gSt (C7.ok _ _) (fok46 _ _ _) (hold := nH0) (m := 300) (n := 400) (ts := [⟨46, td46, LF1 1 (valA (wV (vs i))) m vs ((i + 1 : Nat) : Int) (far || farW 1 (vs i)), []⟩]) ?_
  rw [b46_1 prim W7 m vs x (valA (wV (vs i))) i ((i + 1 : Nat) : Int) far (far || farW 1 (vs i)), meetsT_eq]
  simp only [ht]
  cases e1 : cutI (vs i) 58 with
  | false =>
   have k1 : prim.nt false = true := rfl
   have k2 : prim.nt (prim.beq false false) = false := rfl
   have hv : wV (vs i) = vs i := by simp [wV, e1]
   have hk : wK (vs i) = [48] := by simp [wK, e1]
   exact ⟨fun q0 => ⟨i1, ⟨hw, ⟨fun q1 => ⟨hw, ⟨rfl, ⟨fun q2 => no2 k2 q2, fun q2 => ⟨fun q3 => hbad (by simp [okW, wV, e1, nt_t q3]), fun q3 => ⟨fun q4 => hbad (by simp [okW, wK, e1, nt_t q4]), fun q4 => ⟨fun q5 => ⟨⟨rfl, (by show _ = _; simp [q5]), rfl, rfl, w1, rfl, rfl, rfl, (by show _ = _; simp [wV, e1]), trivial⟩, _, rfl, rec_ (by simp [okW, wV, wK, e1, nt_f q3, nt_f q4])⟩, fun q5 => ⟨⟨rfl, (by show _ = _; simp [q5, farW, wV, wK, e1]), rfl, rfl, w1, rfl, rfl, rfl, (by show _ = _; simp [wV, e1]), trivial⟩, _, rfl, rec_ (by simp [okW, wV, wK, e1, nt_f q3, nt_f q4])⟩⟩⟩⟩⟩⟩⟩, fun q1 => no2 q1 k1⟩⟩⟩, fun q0 => no2 q0 k0⟩
  | true =>
   have k1 : prim.nt true = false := rfl
   have k2 : prim.nt (prim.beq true false) = true := rfl
   have hv : wV (vs i) = cutB (vs i) 58 := by simp [wV, e1]
   have hk : wK (vs i) = cutA (vs i) 58 := by simp [wK, e1]
   exact ⟨fun q0 => ⟨i1, ⟨hw, ⟨fun q1 => no2 k1 q1, fun q1 => ⟨(short_cut hw).2, ⟨(short_cut hw).1, ⟨fun q2 => hbad (by simp [okW, e1]), fun q2 => no2 q2 k2⟩⟩⟩⟩⟩⟩, fun q0 => no2 q0 k0⟩
theorem loopb46_2 (hm : m ≤ 100000) (hsh : ∀ j, j < m → shortS (vs j) = true) : ∀ r i (x : Int) (far : Bool), i + r = m → resOK φ (goW ⟨2, x, [], []⟩ far (restW vs i r)) → GoesS Tryz.prog (C7 prim W7 (spec46 2 true) sAl) (K0 H0 w0) 46 td46 (LF1 2 x m vs (i : Nat) far) [] emp (up φ)
 | 0, i, x, far, hi, hφ => by
  refine gSi (fn := Tryz.f46) (tb := tb46) (by kernel_rfl) (by kernel_rfl) ?_
  have ht : prim.toN (i : Int) = i := Int.toNat_natCast i
  have k0 : prim.lt (i : Int) (Int.ofNat m) = false := by simp [prim_lt]; omega
  have hφ : (if far = true then φ (zeroR 4) else φ (okR ⟨2, x, [], []⟩)) := hφ
  have fin4 (h5 : far = true) : up φ (zeroX 4) := by rw [if_pos h5] at hφ; exact up_mk (s' := zeroR 4) ⟨⟨rfl, rfl, .inl ⟨rfl, rfl⟩, .inl ⟨rfl, rfl⟩, trivial⟩, rfl, trivial⟩ hφ
  have fin0 (h5 : far = false) : up φ (.tup [.agg [.i .i64 2, .i .i64 x, .sl 0 0 fun _ => [], .sl 0 0 fun _ => []], .v .nilIface]) := by rw [if_neg (by rw [h5]; simp)] at hφ; exact up_mk (s' := okR ⟨2, x, [], []⟩) ⟨⟨rfl, rfl, .inl ⟨rfl, rfl⟩, .inl ⟨rfl, rfl⟩, trivial⟩, rfl, trivial⟩ hφ
  refine gSt (C7.ok _ _) (fok46 _ _ _) (hold := nH0) (m := 300) (n := 400) (ts := [⟨46, td46, LF1 2 (valA (wV (vs i))) m vs (i : Nat) far, []⟩]) ?_
  rw [b46_2 prim W7 m vs x (valA (wV (vs i))) i ((i : Nat) : Int) far far, meetsT_eq]
  exact ⟨fun q0 => no2 k0 q0, fun q0 => ⟨fun q1 => fin4 q1, fun q1 => fin0 q1⟩⟩
 | r + 1, i, x, far, hi, hφ => by
  refine gSi (fn := Tryz.f46) (tb := tb46) (by kernel_rfl) (by kernel_rfl) ?_
  have ht : prim.toN (i : Int) = i := Int.toNat_natCast i
  have k0 : prim.lt (i : Int) (Int.ofNat m) = true := by simp [prim_lt]; omega
  have i1 : prim.inB (i : Int) m = true := by simp [prim_inB]; omega
  have hw : shortS (vs i) = true := hsh i (by omega)
  have w1 : prim.add .i64 (i : Int) (Int.ofNat 1) = ((i + 1 : Nat) : Int) := add1 (by omega)
  have hφ : resOK φ (if okW (2 : Int) (vs i) = true ∧ ((2 : Int) = (4 : Int) → rises [] (valA (wK (vs i))) = true) then goW (addS ⟨2, x, [], []⟩ (vs i)) (far || farW (2 : Int) (vs i)) (restW vs (i + 1) r) else none) := hφ
  have hbad (h5 : okW (2 : Int) (vs i) = false) : up φ (zeroX 2) := by
   rw [if_neg (by rw [h5]; simp)] at hφ
   exact up_mk (s' := zeroR 2) ⟨⟨rfl, rfl, .inl ⟨rfl, rfl⟩, .inl ⟨rfl, rfl⟩, trivial⟩, rfl, trivial⟩ hφ
  have rec_ (q : okW 2 (vs i) = true) : GoesS Tryz.prog (C7 prim W7 (spec46 2 true) sAl) (K0 H0 w0) 46 td46 (LF1 2 (valA (wV (vs i))) m vs ((i + 1 : Nat) : Int) (far || farW 2 (vs i))) [] emp (up φ) := by
   rw [if_pos ⟨q, fun h => by cases h⟩] at hφ
   exact loopb46_2 hm hsh r (i + 1) _ _ (by omega) hφ
  refine gSt (C7.ok _ _) (fok46 _ _ _) (hold := nH0) (m := 300) (n := 400) (ts := [⟨46, td46, LF1 2 (valA (wV (vs i))) m vs ((i + 1 : Nat) : Int) (far || farW 2 (vs i)), []⟩]) ?_
  rw [b46_2 prim W7 m vs x (valA (wV (vs i))) i ((i + 1 : Nat) : Int) far (far || farW 2 (vs i)), meetsT_eq]
  simp only [ht]
  cases e1 : cutI (vs i) 58 with
  | false =>
   have k1 : prim.nt false = true := rfl
   have k2 : prim.nt (prim.beq false false) = false := rfl
   have hv : wV (vs i) = vs i := by simp [wV, e1]
   have hk : wK (vs i) = [48] := by simp [wK, e1]
   exact ⟨fun q0 => ⟨i1, ⟨hw, ⟨fun q1 => ⟨hw, ⟨rfl, ⟨fun q2 => no2 k2 q2, fun q2 => ⟨fun q3 => hbad (by simp [okW, wV, e1, nt_t q3]), fun q3 => ⟨fun q4 => hbad (by simp [okW, wK, e1, nt_t q4]), fun q4 => ⟨fun q5 => ⟨⟨rfl, (by show _ = _; simp [q5]), rfl, rfl, w1, rfl, rfl, rfl, (by show _ = _; simp [wV, e1]), trivial⟩, _, rfl, rec_ (by simp [okW, wV, wK, e1, nt_f q3, nt_f q4])⟩, fun q5 => ⟨⟨rfl, (by show _ = _; simp [q5, farW, wV, wK, e1]), rfl, rfl, w1, rfl, rfl, rfl, (by show _ = _; simp [wV, e1]), trivial⟩, _, rfl, rec_ (by simp [okW, wV, wK, e1, nt_f q3, nt_f q4])⟩⟩⟩⟩⟩⟩⟩, fun q1 => no2 q1 k1⟩⟩⟩, fun q0 => no2 q0 k0⟩
  | true =>
   have k1 : prim.nt true = false := rfl
   have k2 : prim.nt (prim.beq true false) = true := rfl
   have hv : wV (vs i) = cutB (vs i) 58 := by simp [wV, e1]
   have hk : wK (vs i) = cutA (vs i) 58 := by simp [wK, e1]
   exact ⟨fun q0 => ⟨i1, ⟨hw, ⟨fun q1 => no2 k1 q1, fun q1 => ⟨(short_cut hw).2, ⟨(short_cut hw).1, ⟨fun q2 => hbad (by simp [okW, e1]), fun q2 => no2 q2 k2⟩⟩⟩⟩⟩⟩, fun q0 => no2 q0 k0⟩
theorem loopb46_3f (hm : m ≤ 100000) (hsh : ∀ j, j < m → shortS (vs j) = true) : ∀ r i (q : List Int) (far : Bool), i + r = m → 0 < q.length → q.length ≤ i → resOK φ (goW ⟨3, 0, q, []⟩ far (restW vs i r)) → GoesS Tryz.prog (C7 prim W7 (spec46 3 true) sAl) (K0 H0 w0) 46 td46 (LF3 q.length (fnR (nth q)) false m vs (i : Nat) far) [] emp (up φ)
 | 0, i, q, far, hi, hq0, hq, hφ => by
  refine gSi (fn := Tryz.f46) (tb := tb46) (by kernel_rfl) (by kernel_rfl) ?_
  have ht : prim.toN (i : Int) = i := Int.toNat_natCast i
  have k0 : prim.lt (i : Int) (Int.ofNat m) = false := by simp [prim_lt]; omega
  have hφ : (if far = true then φ (zeroR 4) else φ (okR ⟨3, 0, q, []⟩)) := hφ
  have fin4 (h5 : far = true) : up φ (zeroX 4) := by rw [if_pos h5] at hφ; exact up_mk (s' := zeroR 4) ⟨⟨rfl, rfl, .inl ⟨rfl, rfl⟩, .inl ⟨rfl, rfl⟩, trivial⟩, rfl, trivial⟩ hφ
  have fin0 (h5 : far = false) : up φ (.tup [.agg [.i .i64 3, .i .i64 0, .os 3 1 q.length (fnR (nth q)), .sl 0 0 fun _ => []], .v .nilIface]) := by rw [if_neg (by rw [h5]; simp)] at hφ; exact up_mk (s' := okR ⟨3, 0, q, []⟩) ⟨⟨rfl, rfl, .inr ⟨rfl, rfl, fun _ _ => rfl⟩, .inl ⟨rfl, rfl⟩, trivial⟩, rfl, trivial⟩ hφ
  refine gSt (C7.ok _ _) (fok46 _ _ _) (hold := nH0) (m := 300) (n := 400) (ts := [⟨46, td46, LF3 (q ++ [valA (wV (vs i))]).length (fnR (nth (q ++ [valA (wV (vs i))]))) false m vs (i : Nat) far, []⟩]) ?_
  rw [b46_3f prim W7 m vs q.length (nth q) (q ++ [valA (wV (vs i))]).length (nth (q ++ [valA (wV (vs i))])) i ((i : Nat) : Int) far far, meetsT_eq]
  exact ⟨fun q0 => no2 k0 q0, fun q0 => ⟨fun q1 => fin4 q1, fun q1 => fin0 q1⟩⟩
 | r + 1, i, q, far, hi, hq0, hq, hφ => by
  refine gSi (fn := Tryz.f46) (tb := tb46) (by kernel_rfl) (by kernel_rfl) ?_
  have ht : prim.toN (i : Int) = i := Int.toNat_natCast i
  have k0 : prim.lt (i : Int) (Int.ofNat m) = true := by simp [prim_lt]; omega
  have i1 : prim.inB (i : Int) m = true := by simp [prim_inB]; omega
  have hw : shortS (vs i) = true := hsh i (by omega)
  have w1 : prim.add .i64 (i : Int) (Int.ofNat 1) = ((i + 1 : Nat) : Int) := add1 (by omega)
  have hφ : resOK φ (if okW (3 : Int) (vs i) = true ∧ ((3 : Int) = (4 : Int) → rises [] (valA (wK (vs i))) = true) then goW (addS ⟨3, 0, q, []⟩ (vs i)) (far || farW (3 : Int) (vs i)) (restW vs (i + 1) r) else none) := hφ
  have hbad (h5 : okW (3 : Int) (vs i) = false) : up φ (zeroX 2) := by
   rw [if_neg (by rw [h5]; simp)] at hφ
   exact up_mk (s' := zeroR 2) ⟨⟨rfl, rfl, .inl ⟨rfl, rfl⟩, .inl ⟨rfl, rfl⟩, trivial⟩, rfl, trivial⟩ hφ
  have hnat : prim.addN q.length 1 = (q ++ [valA (wV (vs i))]).length := by simp [prim_addN]
  have hget (v : Int) : ∀ j, j < q.length + 1 → prim.snoc (fnR (nth q)) q.length (nthL [[Sh.i .i64 v]]) j = fnR (nth (q ++ [v])) j := snoc_nth q v rfl
  have rr : prim.room (prim.addN q.length 1) 8 = true := room_le (show q.length + 1 ≤ _ by omega) (by decide)
  have rec_ (q1 : okW 3 (vs i) = true) : GoesS Tryz.prog (C7 prim W7 (spec46 3 true) sAl) (K0 H0 w0) 46 td46 (LF3 (q ++ [valA (wV (vs i))]).length (fnR (nth (q ++ [valA (wV (vs i))]))) false m vs ((i + 1 : Nat) : Int) (far || farW 3 (vs i))) [] emp (up φ) := by
   rw [if_pos ⟨q1, fun h => by cases h⟩] at hφ
   exact loopb46_3f hm hsh r (i + 1) _ _ (by omega) (by simp) (by simp; omega) hφ
  refine gSt (C7.ok _ _) (fok46 _ _ _) (hold := nH0) (m := 300) (n := 400) (ts := [⟨46, td46, LF3 (q ++ [valA (wV (vs i))]).length (fnR (nth (q ++ [valA (wV (vs i))]))) false m vs ((i + 1 : Nat) : Int) (far || farW 3 (vs i)), []⟩]) ?_
  rw [b46_3f prim W7 m vs q.length (nth q) (q ++ [valA (wV (vs i))]).length (nth (q ++ [valA (wV (vs i))])) i ((i + 1 : Nat) : Int) far (far || farW 3 (vs i)), meetsT_eq]
  simp only [ht]
  cases e1 : cutI (vs i) 58 with
  | false =>
   have k1 : prim.nt false = true := rfl
   have k2 : prim.nt (prim.beq false false) = false := rfl
   have hv : wV (vs i) = vs i := by simp [wV, e1]
   have hk : wK (vs i) = [48] := by simp [wK, e1]
   exact ⟨fun q0 => ⟨i1, ⟨hw, ⟨fun q1 => ⟨hw, ⟨rfl, ⟨fun q2 => no2 k2 q2, fun q2 => ⟨fun q3 => hbad (by simp [okW, wV, e1, nt_t q3]), fun q3 => ⟨fun q4 => hbad (by simp [okW, wK, e1, nt_t q4]), fun q4 => ⟨fun q5 => ⟨rr, ⟨⟨rfl, (by show _ = _; simp [q5]), rfl, rfl, w1, rfl, rfl, rfl, rfl, hnat, (by rw [hv]; exact hget _), trivial⟩, _, rfl, rec_ (by simp [okW, wV, wK, e1, nt_f q3, nt_f q4])⟩⟩, fun q5 => ⟨rr, ⟨⟨rfl, (by show _ = _; simp [q5, farW, wV, wK, e1]), rfl, rfl, w1, rfl, rfl, rfl, rfl, hnat, (by rw [hv]; exact hget _), trivial⟩, _, rfl, rec_ (by simp [okW, wV, wK, e1, nt_f q3, nt_f q4])⟩⟩⟩⟩⟩⟩⟩⟩, fun q1 => no2 q1 k1⟩⟩⟩, fun q0 => no2 q0 k0⟩
  | true =>
   have k1 : prim.nt true = false := rfl
   have k2 : prim.nt (prim.beq true false) = true := rfl
   have hv : wV (vs i) = cutB (vs i) 58 := by simp [wV, e1]
   have hk : wK (vs i) = cutA (vs i) 58 := by simp [wK, e1]
   exact ⟨fun q0 => ⟨i1, ⟨hw, ⟨fun q1 => no2 k1 q1, fun q1 => ⟨(short_cut hw).2, ⟨(short_cut hw).1, ⟨fun q2 => hbad (by simp [okW, e1]), fun q2 => no2 q2 k2⟩⟩⟩⟩⟩⟩, fun q0 => no2 q0 k0⟩
theorem loopb46_4f (hm : m ≤ 100000) (hsh : ∀ j, j < m → shortS (vs j) = true) : ∀ r i (q : List Pr) (far : Bool), i + r = m → 0 < q.length → q.length ≤ i → resOK φ (goW ⟨4, 0, [], q⟩ far (restW vs i r)) → GoesS Tryz.prog (C7 prim W7 (spec46 4 true) sAl) (K0 H0 w0) 46 td46 (LF4 q.length (fnR (nth q)) false m vs (i : Nat) far) [] emp (up φ)
 | 0, i, q, far, hi, hq0, hq, hφ => by
  refine gSi (fn := Tryz.f46) (tb := tb46) (by kernel_rfl) (by kernel_rfl) ?_
  have ht : prim.toN (i : Int) = i := Int.toNat_natCast i
  have k0 : prim.lt (i : Int) (Int.ofNat m) = false := by simp [prim_lt]; omega
  have hφ : (if far = true then φ (zeroR 4) else φ (okR ⟨4, 0, [], q⟩)) := hφ
  have fin4 (h5 : far = true) : up φ (zeroX 4) := by rw [if_pos h5] at hφ; exact up_mk (s' := zeroR 4) ⟨⟨rfl, rfl, .inl ⟨rfl, rfl⟩, .inl ⟨rfl, rfl⟩, trivial⟩, rfl, trivial⟩ hφ
  have fin0 (h5 : far = false) : up φ (.tup [.agg [.i .i64 4, .i .i64 0, .sl 0 0 fun _ => [], .os 116 2 q.length (fnR (nth q))], .v .nilIface]) := by rw [if_neg (by rw [h5]; simp)] at hφ; exact up_mk (s' := okR ⟨4, 0, [], q⟩) ⟨⟨rfl, rfl, .inl ⟨rfl, rfl⟩, .inr ⟨rfl, rfl, fun _ _ => rfl⟩, trivial⟩, rfl, trivial⟩ hφ
  refine gSt (C7.ok _ _) (fok46 _ _ _) (hold := nH0) (m := 300) (n := 400) (ts := [⟨46, td46, LF4 (q ++ [(⟨valA (wK (vs i)), valA (wV (vs i))⟩ : Pr)]).length (fnR (nth (q ++ [(⟨valA (wK (vs i)), valA (wV (vs i))⟩ : Pr)]))) false m vs (i : Nat) far, []⟩]) ?_
  rw [b46_4f prim W7 m vs q.length (nth q) (q ++ [(⟨valA (wK (vs i)), valA (wV (vs i))⟩ : Pr)]).length (nth (q ++ [(⟨valA (wK (vs i)), valA (wV (vs i))⟩ : Pr)])) i ((i : Nat) : Int) far far, meetsT_eq]
  exact ⟨fun q0 => no2 k0 q0, fun q0 => ⟨fun q1 => fin4 q1, fun q1 => fin0 q1⟩⟩
 | r + 1, i, q, far, hi, hq0, hq, hφ => by
  refine gSi (fn := Tryz.f46) (tb := tb46) (by kernel_rfl) (by kernel_rfl) ?_
  have ht : prim.toN (i : Int) = i := Int.toNat_natCast i
  have k0 : prim.lt (i : Int) (Int.ofNat m) = true := by simp [prim_lt]; omega
  have i1 : prim.inB (i : Int) m = true := by simp [prim_inB]; omega
  have hw : shortS (vs i) = true := hsh i (by omega)
  have w1 : prim.add .i64 (i : Int) (Int.ofNat 1) = ((i + 1 : Nat) : Int) := add1 (by omega)
  have hφ : resOK φ (if okW (4 : Int) (vs i) = true ∧ ((4 : Int) = (4 : Int) → rises q (valA (wK (vs i))) = true) then goW (addS ⟨4, 0, [], q⟩ (vs i)) (far || farW (4 : Int) (vs i)) (restW vs (i + 1) r) else none) := hφ
  have hbad (h5 : okW (4 : Int) (vs i) = false) : up φ (zeroX 2) := by
   rw [if_neg (by rw [h5]; simp)] at hφ
   exact up_mk (s' := zeroR 2) ⟨⟨rfl, rfl, .inl ⟨rfl, rfl⟩, .inl ⟨rfl, rfl⟩, trivial⟩, rfl, trivial⟩ hφ
  have hnat : prim.addN q.length 1 = (q ++ [(⟨valA (wK (vs i)), valA (wV (vs i))⟩ : Pr)]).length := by simp [prim_addN]
  have hget (k v : Int) : ∀ j, j < q.length + 1 → prim.snoc (fnR (nth q)) q.length (nthL [[Sh.i .i64 k, Sh.i .i64 v]]) j = fnR (nth (q ++ [(⟨k, v⟩ : Pr)])) j := snoc_nth q ⟨k, v⟩ rfl
  have rr : prim.room (prim.addN q.length 1) 16 = true := room_le (show q.length + 1 ≤ _ by omega) (by decide)
  have hls : prim.toN (prim.sub .i64 (prim.ofN q.length) (Int.ofNat 1)) = q.length - 1 := by
   show (IntKind.i64.wrap ((q.length : Int) - 1)).toNat = _
   rw [wrap_id (by omega) (by omega)]; omega
  have iS : prim.inB (prim.sub .i64 (prim.ofN q.length) (Int.ofNat 1)) q.length = true := by
   have : prim.sub .i64 (prim.ofN q.length) (Int.ofNat 1) = (q.length : Int) - 1 := by
    show IntKind.i64.wrap ((q.length : Int) - 1) = _
    rw [wrap_id (by omega) (by omega)]
   rw [this]; simp [prim_inB]; omega
  have k6 : prim.lt (Int.ofNat 0) (prim.ofN q.length) = true := by simp [prim_lt, prim_ofN]; omega
  have hne : q ≠ [] := fun h => by subst h; simp at hq0
  have le_t (h : prim.le (valA (cutA (vs i) 58)) (nth q (q.length - 1)).key = true) : rises q (valA (cutA (vs i) 58)) = false := by
   simp [prim_le] at h; simp [rises, hne, h]
  have le_f (h : prim.le (valA (cutA (vs i) 58)) (nth q (q.length - 1)).key = false) : rises q (valA (cutA (vs i) 58)) = true := by
   simp [prim_le] at h; simp [rises, h]
  have hbad2 (e1 : cutI (vs i) 58 = true) (h : rises q (valA (cutA (vs i) 58)) = false) : up φ (zeroX 2) := by
   rw [if_neg (by simp [wK, e1, h])] at hφ
   exact up_mk (s' := zeroR 2) ⟨⟨rfl, rfl, .inl ⟨rfl, rfl⟩, .inl ⟨rfl, rfl⟩, trivial⟩, rfl, trivial⟩ hφ
  have rec_ (q1 : okW 4 (vs i) = true) (q2 : rises q (valA (cutA (vs i) 58)) = true) (e1 : cutI (vs i) 58 = true) : GoesS Tryz.prog (C7 prim W7 (spec46 4 true) sAl) (K0 H0 w0) 46 td46 (LF4 (q ++ [(⟨valA (wK (vs i)), valA (wV (vs i))⟩ : Pr)]).length (fnR (nth (q ++ [(⟨valA (wK (vs i)), valA (wV (vs i))⟩ : Pr)]))) false m vs ((i + 1 : Nat) : Int) (far || farW 4 (vs i))) [] emp (up φ) := by
   rw [if_pos ⟨q1, fun h => by simpa [wK, e1] using q2⟩] at hφ
   exact loopb46_4f hm hsh r (i + 1) _ _ (by omega) (by simp) (by simp; omega) hφ
  refine gSt (C7.ok _ _) (fok46 _ _ _) (hold := nH0) (m := 300) (n := 400) (ts := [⟨46, td46, LF4 (q ++ [(⟨valA (wK (vs i)), valA (wV (vs i))⟩ : Pr)]).length (fnR (nth (q ++ [(⟨valA (wK (vs i)), valA (wV (vs i))⟩ : Pr)]))) false m vs ((i + 1 : Nat) : Int) (far || farW 4 (vs i)), []⟩]) ?_
  rw [b46_4f prim W7 m vs q.length (nth q) (q ++ [(⟨valA (wK (vs i)), valA (wV (vs i))⟩ : Pr)]).length (nth (q ++ [(⟨valA (wK (vs i)), valA (wV (vs i))⟩ : Pr)])) i ((i + 1 : Nat) : Int) far (far || farW 4 (vs i)), meetsT_eq]
  simp only [ht, hls]
  cases e1 : cutI (vs i) 58 with
  | false =>
   have k1 : prim.nt false = true := rfl
   have k2 : prim.nt (prim.beq false true) = true := rfl
   have hv : wV (vs i) = vs i := by simp [wV, e1]
   have hk : wK (vs i) = [48] := by simp [wK, e1]
   exact ⟨fun q0 => ⟨i1, ⟨hw, ⟨fun q1 => ⟨hw, ⟨rfl, ⟨fun q2 => hbad (by simp [okW, e1]), fun q2 => no2 q2 k2⟩⟩⟩, fun q1 => no2 q1 k1⟩⟩⟩, fun q0 => no2 q0 k0⟩
  | true =>
   have k1 : prim.nt true = false := rfl
   have k2 : prim.nt (prim.beq true true) = false := rfl
   have hv : wV (vs i) = cutB (vs i) 58 := by simp [wV, e1]
   have hk : wK (vs i) = cutA (vs i) 58 := by simp [wK, e1]
   exact ⟨fun q0 => ⟨i1, ⟨hw, ⟨fun q1 => no2 k1 q1, fun q1 => ⟨(short_cut hw).2, ⟨(short_cut hw).1, ⟨fun q2 => no2 k2 q2, fun q2 => ⟨fun q3 => hbad (by simp [okW, wV, e1, nt_t q3]), fun q3 => ⟨fun q4 => hbad (by simp [okW, wK, e1, nt_t q4]), fun q4 => ⟨fun q5 => ⟨fun q6 => ⟨iS, ⟨fun q7 => hbad2 e1 (le_t q7), fun q7 => ⟨rr, ⟨⟨rfl, (by show _ = _; simp [q5]), rfl, rfl, w1, rfl, rfl, rfl, rfl, hnat, (by rw [hv, hk]; exact hget _ _), trivial⟩, _, rfl, rec_ (by simp [okW, wV, wK, e1, nt_f q3, nt_f q4]) (le_f q7) e1⟩⟩⟩⟩, fun q6 => no2 q6 k6⟩, fun q5 => ⟨fun q6 => ⟨iS, ⟨fun q7 => hbad2 e1 (le_t q7), fun q7 => ⟨rr, ⟨⟨rfl, (by show _ = _; simp [q5, farW, wV, wK, e1]), rfl, rfl, w1, rfl, rfl, rfl, rfl, hnat, (by rw [hv, hk]; exact hget _ _), trivial⟩, _, rfl, rec_ (by simp [okW, wV, wK, e1, nt_f q3, nt_f q4]) (le_f q7) e1⟩⟩⟩⟩, fun q6 => no2 q6 k6⟩⟩⟩⟩⟩⟩⟩⟩⟩⟩, fun q0 => no2 q0 k0⟩
theorem loopb46_3t (hm : m ≤ 100000) (hsh : ∀ j, j < m → shortS (vs j) = true) : ∀ r i (far : Bool), i + r = m → resOK φ (goW ⟨3, 0, [], []⟩ far (restW vs i r)) → GoesS Tryz.prog (C7 prim W7 (spec46 3 true) sAl) (K0 H0 w0) 46 td46 (LF3 0 (fun _ => []) true m vs (i : Nat) far) [] emp (up φ)
 | 0, i, far, hi, hφ => by
  refine gSi (fn := Tryz.f46) (tb := tb46) (by kernel_rfl) (by kernel_rfl) ?_
  have ht : prim.toN (i : Int) = i := Int.toNat_natCast i
  have k0 : prim.lt (i : Int) (Int.ofNat m) = false := by simp [prim_lt]; omega
  have hφ : (if far = true then φ (zeroR 4) else φ (okR ⟨3, 0, [], []⟩)) := hφ
  have fin4 (h5 : far = true) : up φ (zeroX 4) := by rw [if_pos h5] at hφ; exact up_mk (s' := zeroR 4) ⟨⟨rfl, rfl, .inl ⟨rfl, rfl⟩, .inl ⟨rfl, rfl⟩, trivial⟩, rfl, trivial⟩ hφ
  have fin0 (h5 : far = false) : up φ (.tup [.agg [.i .i64 3, .i .i64 0, .sl 0 0 fun _ => [], .sl 0 0 fun _ => []], .v .nilIface]) := by rw [if_neg (by rw [h5]; simp)] at hφ; exact up_mk (s' := okR ⟨3, 0, [], []⟩) ⟨⟨rfl, rfl, .inl ⟨rfl, rfl⟩, .inl ⟨rfl, rfl⟩, trivial⟩, rfl, trivial⟩ hφ
  refine gSt (C7.ok _ _) (fok46 _ _ _) (hold := nH0) (m := 300) (n := 400) (ts := [⟨46, td46, LF3 1 (fnR (nth [valA (wV (vs i))])) false m vs (i : Nat) far, []⟩]) ?_
  rw [b46_3t prim W7 m vs 1 (nth [valA (wV (vs i))]) i ((i : Nat) : Int) far far, meetsT_eq]
  exact ⟨fun q0 => no2 k0 q0, fun q0 => ⟨fun q1 => fin4 q1, fun q1 => fin0 q1⟩⟩
 | r + 1, i, far, hi, hφ => by
  refine gSi (fn := Tryz.f46) (tb := tb46) (by kernel_rfl) (by kernel_rfl) ?_
  have ht : prim.toN (i : Int) = i := Int.toNat_natCast i
  have k0 : prim.lt (i : Int) (Int.ofNat m) = true := by simp [prim_lt]; omega
  have i1 : prim.inB (i : Int) m = true := by simp [prim_inB]; omega
  have hw : shortS (vs i) = true := hsh i (by omega)
  have w1 : prim.add .i64 (i : Int) (Int.ofNat 1) = ((i + 1 : Nat) : Int) := add1 (by omega)
  have hφ : resOK φ (if okW (3 : Int) (vs i) = true ∧ ((3 : Int) = (4 : Int) → rises [] (valA (wK (vs i))) = true) then goW (addS ⟨3, 0, [], []⟩ (vs i)) (far || farW (3 : Int) (vs i)) (restW vs (i + 1) r) else none) := hφ
  have hbad (h5 : okW (3 : Int) (vs i) = false) : up φ (zeroX 2) := by
   rw [if_neg (by rw [h5]; simp)] at hφ
   exact up_mk (s' := zeroR 2) ⟨⟨rfl, rfl, .inl ⟨rfl, rfl⟩, .inl ⟨rfl, rfl⟩, trivial⟩, rfl, trivial⟩ hφ
  have hnat : 1 = 1 := rfl
  have hget (v : Int) : ∀ j, j < 1 → nthL [[Sh.i .i64 v]] j = fnR (nth [v]) j := fun j hj => by
   obtain rfl : j = 0 := by omega
   rfl
  have rec_ (q1 : okW 3 (vs i) = true) : GoesS Tryz.prog (C7 prim W7 (spec46 3 true) sAl) (K0 H0 w0) 46 td46 (LF3 1 (fnR (nth [valA (wV (vs i))])) false m vs ((i + 1 : Nat) : Int) (far || farW 3 (vs i))) [] emp (up φ) := by
   rw [if_pos ⟨q1, fun h => by cases h⟩] at hφ
   exact loopb46_3f hm hsh r (i + 1) _ _ (by omega) (by simp) (by simp) hφ
  refine gSt (C7.ok _ _) (fok46 _ _ _) (hold := nH0) (m := 300) (n := 400) (ts := [⟨46, td46, LF3 1 (fnR (nth [valA (wV (vs i))])) false m vs ((i + 1 : Nat) : Int) (far || farW 3 (vs i)), []⟩]) ?_
  rw [b46_3t prim W7 m vs 1 (nth [valA (wV (vs i))]) i ((i + 1 : Nat) : Int) far (far || farW 3 (vs i)), meetsT_eq]
  simp only [ht]
  cases e1 : cutI (vs i) 58 with
  | false =>
   have k1 : prim.nt false = true := rfl
   have k2 : prim.nt (prim.beq false false) = false := rfl
   have hv : wV (vs i) = vs i := by simp [wV, e1]
   have hk : wK (vs i) = [48] := by simp [wK, e1]
   exact ⟨fun q0 => ⟨i1, ⟨hw, ⟨fun q1 => ⟨hw, ⟨rfl, ⟨fun q2 => no2 k2 q2, fun q2 => ⟨fun q3 => hbad (by simp [okW, wV, e1, nt_t q3]), fun q3 => ⟨fun q4 => hbad (by simp [okW, wK, e1, nt_t q4]), fun q4 => ⟨fun q5 => ⟨⟨rfl, (by show _ = _; simp [q5]), rfl, rfl, w1, rfl, rfl, rfl, rfl, hnat, (by rw [hv]; exact hget _), trivial⟩, _, rfl, rec_ (by simp [okW, wV, wK, e1, nt_f q3, nt_f q4])⟩, fun q5 => ⟨⟨rfl, (by show _ = _; simp [q5, farW, wV, wK, e1]), rfl, rfl, w1, rfl, rfl, rfl, rfl, hnat, (by rw [hv]; exact hget _), trivial⟩, _, rfl, rec_ (by simp [okW, wV, wK, e1, nt_f q3, nt_f q4])⟩⟩⟩⟩⟩⟩⟩, fun q1 => no2 q1 k1⟩⟩⟩, fun q0 => no2 q0 k0⟩
  | true =>
   have k1 : prim.nt true = false := rfl
   have k2 : prim.nt (prim.beq true false) = true := rfl
   have hv : wV (vs i) = cutB (vs i) 58 := by simp [wV, e1]
   have hk : wK (vs i) = cutA (vs i) 58 := by simp [wK, e1]
   exact ⟨fun q0 => ⟨i1, ⟨hw, ⟨fun q1 => no2 k1 q1, fun q1 => ⟨(short_cut hw).2, ⟨(short_cut hw).1, ⟨fun q2 => hbad (by simp [okW, e1]), fun q2 => no2 q2 k2⟩⟩⟩⟩⟩⟩, fun q0 => no2 q0 k0⟩
theorem loopb46_4t (hm : m ≤ 100000) (hsh : ∀ j, j < m → shortS (vs j) = true) : ∀ r i (far : Bool), i + r = m → resOK φ (goW ⟨4, 0, [], []⟩ far (restW vs i r)) → GoesS Tryz.prog (C7 prim W7 (spec46 4 true) sAl) (K0 H0 w0) 46 td46 (LF4 0 (fun _ => []) true m vs (i : Nat) far) [] emp (up φ)
 | 0, i, far, hi, hφ => by
  refine gSi (fn := Tryz.f46) (tb := tb46) (by kernel_rfl) (by kernel_rfl) ?_
  have ht : prim.toN (i : Int) = i := Int.toNat_natCast i
  have k0 : prim.lt (i : Int) (Int.ofNat m) = false := by simp [prim_lt]; omega
  have hφ : (if far = true then φ (zeroR 4) else φ (okR ⟨4, 0, [], []⟩)) := hφ
  have fin4 (h5 : far = true) : up φ (zeroX 4) := by rw [if_pos h5] at hφ; exact up_mk (s' := zeroR 4) ⟨⟨rfl, rfl, .inl ⟨rfl, rfl⟩, .inl ⟨rfl, rfl⟩, trivial⟩, rfl, trivial⟩ hφ
  have fin0 (h5 : far = false) : up φ (.tup [.agg [.i .i64 4, .i .i64 0, .sl 0 0 fun _ => [], .sl 0 0 fun _ => []], .v .nilIface]) := by rw [if_neg (by rw [h5]; simp)] at hφ; exact up_mk (s' := okR ⟨4, 0, [], []⟩) ⟨⟨rfl, rfl, .inl ⟨rfl, rfl⟩, .inl ⟨rfl, rfl⟩, trivial⟩, rfl, trivial⟩ hφ
  refine gSt (C7.ok _ _) (fok46 _ _ _) (hold := nH0) (m := 300) (n := 400) (ts := [⟨46, td46, LF4 1 (fnR (nth [(⟨valA (wK (vs i)), valA (wV (vs i))⟩ : Pr)])) false m vs (i : Nat) far, []⟩]) ?_
  rw [b46_4t prim W7 m vs 1 (nth [(⟨valA (wK (vs i)), valA (wV (vs i))⟩ : Pr)]) i ((i : Nat) : Int) far far, meetsT_eq]
  exact ⟨fun q0 => no2 k0 q0, fun q0 => ⟨fun q1 => fin4 q1, fun q1 => fin0 q1⟩⟩
 | r + 1, i, far, hi, hφ => by
  refine gSi (fn := Tryz.f46) (tb := tb46) (by kernel_rfl) (by kernel_rfl) ?_
  have ht : prim.toN (i : Int) = i := Int.toNat_natCast i
  have k0 : prim.lt (i : Int) (Int.ofNat m) = true := by simp [prim_lt]; omega
  have i1 : prim.inB (i : Int) m = true := by simp [prim_inB]; omega
  have hw : shortS (vs i) = true := hsh i (by omega)
  have w1 : prim.add .i64 (i : Int) (Int.ofNat 1) = ((i + 1 : Nat) : Int) := add1 (by omega)
  have hφ : resOK φ (if okW (4 : Int) (vs i) = true ∧ ((4 : Int) = (4 : Int) → rises [] (valA (wK (vs i))) = true) then goW (addS ⟨4, 0, [], []⟩ (vs i)) (far || farW (4 : Int) (vs i)) (restW vs (i + 1) r) else none) := hφ
  have hbad (h5 : okW (4 : Int) (vs i) = false) : up φ (zeroX 2) := by
   rw [if_neg (by rw [h5]; simp)] at hφ
   exact up_mk (s' := zeroR 2) ⟨⟨rfl, rfl, .inl ⟨rfl, rfl⟩, .inl ⟨rfl, rfl⟩, trivial⟩, rfl, trivial⟩ hφ
  have hnat : 1 = 1 := rfl
  have hget (k v : Int) : ∀ j, j < 1 → nthL [[Sh.i .i64 k, Sh.i .i64 v]] j = fnR (nth [(⟨k, v⟩ : Pr)]) j := fun j hj => by
   obtain rfl : j = 0 := by omega
   rfl
  have rec_ (q1 : okW 4 (vs i) = true) : GoesS Tryz.prog (C7 prim W7 (spec46 4 true) sAl) (K0 H0 w0) 46 td46 (LF4 1 (fnR (nth [(⟨valA (wK (vs i)), valA (wV (vs i))⟩ : Pr)])) false m vs ((i + 1 : Nat) : Int) (far || farW 4 (vs i))) [] emp (up φ) := by
   rw [if_pos ⟨q1, fun h => by rfl⟩] at hφ
   exact loopb46_4f hm hsh r (i + 1) _ _ (by omega) (by simp) (by simp) hφ
  refine gSt (C7.ok _ _) (fok46 _ _ _) (hold := nH0) (m := 300) (n := 400) (ts := [⟨46, td46, LF4 1 (fnR (nth [(⟨valA (wK (vs i)), valA (wV (vs i))⟩ : Pr)])) false m vs ((i + 1 : Nat) : Int) (far || farW 4 (vs i)), []⟩]) ?_
  rw [b46_4t prim W7 m vs 1 (nth [(⟨valA (wK (vs i)), valA (wV (vs i))⟩ : Pr)]) i ((i + 1 : Nat) : Int) far (far || farW 4 (vs i)), meetsT_eq]
  simp only [ht]
  cases e1 : cutI (vs i) 58 with
  | false =>
   have k1 : prim.nt false = true := rfl
   have k2 : prim.nt (prim.beq false true) = true := rfl
   have hv : wV (vs i) = vs i := by simp [wV, e1]
   have hk : wK (vs i) = [48] := by simp [wK, e1]
   exact ⟨fun q0 => ⟨i1, ⟨hw, ⟨fun q1 => ⟨hw, ⟨rfl, ⟨fun q2 => hbad (by simp [okW, e1]), fun q2 => no2 q2 k2⟩⟩⟩, fun q1 => no2 q1 k1⟩⟩⟩, fun q0 => no2 q0 k0⟩
  | true =>
   have k1 : prim.nt true = false := rfl
   have k2 : prim.nt (prim.beq true true) = false := rfl
   have hv : wV (vs i) = cutB (vs i) 58 := by simp [wV, e1]
   have hk : wK (vs i) = cutA (vs i) 58 := by simp [wK, e1]
   exact ⟨fun q0 => ⟨i1, ⟨hw, ⟨fun q1 => no2 k1 q1, fun q1 => ⟨(short_cut hw).2, ⟨(short_cut hw).1, ⟨fun q2 => no2 k2 q2, fun q2 => ⟨fun q3 => hbad (by simp [okW, wV, e1, nt_t q3]), fun q3 => ⟨fun q4 => hbad (by simp [okW, wK, e1, nt_t q4]), fun q4 => ⟨fun q5 => ⟨⟨rfl, (by show _ = _; simp [q5]), rfl, rfl, w1, rfl, rfl, rfl, rfl, hnat, (by rw [hv, hk]; exact hget _ _), trivial⟩, _, rfl, rec_ (by simp [okW, wV, wK, e1, nt_f q3, nt_f q4])⟩, fun q5 => ⟨⟨rfl, (by show _ = _; simp [q5, farW, wV, wK, e1]), rfl, rfl, w1, rfl, rfl, rfl, rfl, hnat, (by rw [hv, hk]; exact hget _ _), trivial⟩, _, rfl, rec_ (by simp [okW, wV, wK, e1, nt_f q3, nt_f q4])⟩⟩⟩⟩⟩⟩⟩⟩⟩⟩, fun q0 => no2 q0 k0⟩
end
end Go.Proofs
namespace Go.Pl
open Go Go.Sx Go.Proofs
def fromS (l : List UInt8) : Option (Sta × Bool) :=
 if kindW (nth (splitS l 32) 0) = 0 then none
 else if (kindW (nth (splitS l 32) 0) = 1 ∨ kindW (nth (splitS l 32) 0) = 2) ∧ (splitS l 32).length ≠ 2 then none
 else goW ⟨kindW (nth (splitS l 32) 0), 0, [], []⟩ false (restW (fun j => nth (splitS l 32) (1 + j)) 0 ((splitS l 32).length - 1))
def codF (l : List UInt8) : Nat := match fromS l with
 | none => 2
 | some (_, true) => 4
 | some (_, false) => 0
def stO (l : List UInt8) : Sta := match fromS l with
 | none => zeroT
 | some (s, _) => s
def isC6 (l : List UInt8) (c : Nat) : Bool := codF l == c
def lenK (l : List UInt8) : Bool := decide (l.length ≤ 99990)
theorem splitK_short (sep : List UInt8) : ∀ (k : Nat) (s : List UInt8), ∀ w ∈ Go.Lib.splitK sep 0 k s, w.length ≤ s.length
 | 0, s, w, hw => by
  obtain rfl : w = s := by simpa [Go.Lib.splitK] using hw
  exact Nat.le_refl _
 | k + 1, s, w, hw => by
  unfold Go.Lib.splitK at hw
  split at hw
  ·obtain rfl : w = s := by simpa using hw
   exact Nat.le_refl _
  ·rcases List.mem_cons.1 hw with rfl | hw
   ·simp only [List.length_take]; omega
   ·have := splitK_short sep k _ w hw
    simp only [List.length_drop] at this
    omega
theorem splitS_len (l : List UInt8) (c : UInt8) : 1 ≤ (splitS l c).length ∧ (splitS l c).length ≤ l.length + 2 := by
 have e := splitB_eq l c
 have h := Lib.splitB_all ⟨#[c]⟩ (Nat.le_refl 1) 0 _ ⟨l.toArray⟩ rfl
 have hle : Lib.countB (⟨l.toArray⟩ : ByteArray) ⟨#[c]⟩ ≤ l.length + 1 := by
  have := Lib.count_le l [c]
  exact this
 rw [← e, List.length_map, h]
 omega
theorem splitS_short {l : List UInt8} {c : UInt8} (h : l.length ≤ 1000000000) (j : Nat) : shortS (nth (splitS l c) j) = true := by
 unfold shortS
 refine decide_eq_true ?_
 by_cases hj : j < (splitS l c).length
 ·have : nth (splitS l c) j ∈ splitS l c := by
   have e : nth (splitS l c) j = (splitS l c)[j] := by simp [nth, hj]
   rw [e]; exact List.getElem_mem hj
  have := splitK_short [c] _ l _ this
  omega
 ·have e : nth (splitS l c) j = [] := by
   simp [nth, hj]
   rfl
  rw [e]; simp
end Go.Pl
namespace Go.Proofs
open Go Go.Sx Go.Pl
noncomputable def F46 : List Sh → Tree Sh
 | [.str l] => .need (lenK l) (.node (isC6 l 2) (.leaf (zeroR 2)) (.node (isC6 l 4) (.leaf (zeroR 4)) (.leaf (okR (stO l)))))
 | _ => .fail
theorem O46 : FnOK Tryz.prog (gls7 W7) 46 F46 := by
 refine fnOK_Su (C := C7 prim W7 (spec46 0 false) sAl) (C7.ok _ _) (fn := Tryz.f46) (by kernel_rfl) (by kernel_rfl) fun H w shs args φ hrep h => ?_
 have hn : Tryz.f46.ntmps = 139 := by kernel_rfl
 unfold F46 at h
 split at h
 ·rename_i l
  obtain ⟨h1, h2, h3⟩ := h
  have h1 : l.length ≤ 99990 := of_decide_eq_true h1
  refine ⟨[.str l], hrep, L0, ?_⟩
  have hφ : resOK φ (fromS l) := by
   unfold isC6 codF stO at *
   cases hf : fromS l with
   | none => rw [hf] at h2; exact h2 rfl
   | some p =>
    obtain ⟨s, far⟩ := p
    rw [hf] at h2 h3
    cases far with
    | true => exact (h3 rfl).1 rfl
    | false => exact (h3 rfl).2 rfl
  have hsl : shortS l = true := decide_eq_true (by omega)
  obtain ⟨n1, n2⟩ := splitS_len l 32
  have hin : prim.inB (Int.ofNat 0) (splitN l 32) = true := by
   unfold splitN
   simp [prim_inB]; omega
  have hup : prim.upTo (Int.ofNat 1) (splitN l 32) = true := by
   unfold splitN
   simp [prim_upTo]; omega
  have hsh : ∀ j, j < (splitS l 32).length - 1 → shortS ((fun j => nth (splitS l 32) (1 + j)) j) = true := fun j _ => splitS_short (by omega) (1 + j)
  have isk (k : Int) (b : Bool) (h : kindW (nth (splitS l 32) 0) = k) (hb : b = decide (k ≠ 0)) : isKind (nth (splitS l 32) 0) k b = true := decide_eq_true ⟨h, hb⟩
  have bad (q : fromS l = none) : up φ (zeroX 2) := by
   rw [q] at hφ
   exact up_mk (s' := zeroR 2) ⟨⟨rfl, rfl, .inl ⟨rfl, rfl⟩, .inl ⟨rfl, rfl⟩, trivial⟩, rfl, trivial⟩ hφ
  have sub1 : prim.subN (splitN l 32) 1 = (splitS l 32).length - 1 := rfl
  have hkk : kindW (nth (splitS l 32) 0) = 0 ∨ kindW (nth (splitS l 32) 0) = 1 ∨ kindW (nth (splitS l 32) 0) = 2 ∨ kindW (nth (splitS l 32) 0) = 3 ∨ kindW (nth (splitS l 32) 0) = 4 := by
   unfold kindW
   repeat' split
   all_goals omega
  have two (k : Int) (hk : kindW (nth (splitS l 32) 0) = k) (hk12 : k = 1 ∨ k = 2) :
    (prim.nt (prim.eq (prim.ofN (prim.subN (splitN l 32) 1)) (Int.ofNat 1)) = true → fromS l = none) ∧
    (prim.nt (prim.eq (prim.ofN (prim.subN (splitN l 32) 1)) (Int.ofNat 1)) = false → resOK φ (goW ⟨k, 0, [], []⟩ false (restW (fun j => nth (splitS l 32) (1 + j)) 0 ((splitS l 32).length - 1)))) := by
   rw [sub1]
   constructor
   ·intro q
    have : (splitS l 32).length ≠ 2 := fun e => by rw [e] at q; simp [prim_nt, prim_eq, prim_ofN] at q
    unfold fromS
    rw [if_neg (by rw [hk]; omega), if_pos ⟨by rw [hk]; exact hk12, this⟩]
   ·intro q
    have : (splitS l 32).length = 2 := by
     simp [prim_nt, prim_eq, prim_ofN] at q; omega
    unfold fromS at hφ
    rw [if_neg (by rw [hk]; omega), if_neg (fun h => h.2 this), hk] at hφ
    exact hφ
  rcases hkk with hk | hk | hk | hk | hk
  ·refine gSt (C7.ok _ _) (fok46 _ _ _) (hold := nH0) (m := 300) (n := 400) (ts := []) ?_
   rw [hn]
   exact all_n46 prim W7 l hsl hin (isk 0 false hk rfl) (bad (by unfold fromS; rw [if_pos hk]))
  ·obtain ⟨t1, t2⟩ := two 1 hk (.inl rfl)
   refine goesS_spec (s := spec46 1 true) (stop := sAl) ?_
   refine gSt (C7.ok _ _) (fok46 _ _ _) (hold := nH0) (m := 300) (n := 400) (ts := [⟨46, td46, LF1 1 0 ((splitS l 32).length - 1) (fun j => nth (splitS l 32) (1 + j)) (0 : Nat) false, []⟩]) ?_
   rw [hn]
   refine all_a46_1 prim W7 l 0 _ _ _ false hsl hin (isk 1 true hk rfl) hup (fun q => bad (t1 q)) (fun q => ⟨⟨rfl, rfl, rfl, rfl, rfl, rfl, rfl, rfl, rfl, trivial⟩, _, rfl, loopb46_1 (by omega) hsh _ 0 0 false (Nat.zero_add _) (t2 q)⟩)
  ·obtain ⟨t1, t2⟩ := two 2 hk (.inr rfl)
   refine goesS_spec (s := spec46 2 true) (stop := sAl) ?_
   refine gSt (C7.ok _ _) (fok46 _ _ _) (hold := nH0) (m := 300) (n := 400) (ts := [⟨46, td46, LF1 2 0 ((splitS l 32).length - 1) (fun j => nth (splitS l 32) (1 + j)) (0 : Nat) false, []⟩]) ?_
   rw [hn]
   refine all_a46_2 prim W7 l 0 _ _ _ false hsl hin (isk 2 true hk rfl) hup (fun q => bad (t1 q)) (fun q => ⟨⟨rfl, rfl, rfl, rfl, rfl, rfl, rfl, rfl, rfl, trivial⟩, _, rfl, loopb46_2 (by omega) hsh _ 0 0 false (Nat.zero_add _) (t2 q)⟩)
  ·have hφ3 : resOK φ (goW ⟨3, 0, [], []⟩ false (restW (fun j => nth (splitS l 32) (1 + j)) 0 ((splitS l 32).length - 1))) := by
    unfold fromS at hφ
    rw [if_neg (by rw [hk]; omega), if_neg (by rw [hk]; omega), hk] at hφ
    exact hφ
   refine goesS_spec (s := spec46 3 true) (stop := sAl) ?_
   refine gSt (C7.ok _ _) (fok46 _ _ _) (hold := nH0) (m := 300) (n := 400) (ts := [⟨46, td46, LF3 0 (fun _ => []) true ((splitS l 32).length - 1) (fun j => nth (splitS l 32) (1 + j)) (0 : Nat) false, []⟩]) ?_
   rw [hn]
   refine all_a46_3 prim W7 l _ _ _ false hsl hin (isk 3 true hk rfl) hup ⟨⟨rfl, rfl, rfl, rfl, rfl, rfl, rfl, rfl, rfl, trivial⟩, _, rfl, loopb46_3t (by omega) hsh _ 0 false (Nat.zero_add _) hφ3⟩
  ·have hφ4 : resOK φ (goW ⟨4, 0, [], []⟩ false (restW (fun j => nth (splitS l 32) (1 + j)) 0 ((splitS l 32).length - 1))) := by
    unfold fromS at hφ
    rw [if_neg (by rw [hk]; omega), if_neg (by rw [hk]; omega), hk] at hφ
    exact hφ
   refine goesS_spec (s := spec46 4 true) (stop := sAl) ?_
   refine gSt (C7.ok _ _) (fok46 _ _ _) (hold := nH0) (m := 300) (n := 400) (ts := [⟨46, td46, LF4 0 (fun _ => []) true ((splitS l 32).length - 1) (fun j => nth (splitS l 32) (1 + j)) (0 : Nat) false, []⟩]) ?_
   rw [hn]
   refine all_a46_4 prim W7 l _ _ _ false hsl hin (isk 4 true hk rfl) hup ⟨⟨rfl, rfl, rfl, rfl, rfl, rfl, rfl, rfl, rfl, trivial⟩, _, rfl, loopb46_4t (by omega) hsh _ 0 false (Nat.zero_add _) hφ4⟩
 ·exact h.elim
end Go.Proofs
namespace Go.Pl
open Go Go.Sx
structure Lg6 where
 key : Sta → List UInt8
 frm : List UInt8 → Sta
 isF : List UInt8 → Nat → Bool
 nx : Sta → Int → Int → Int → Sta
 rt : Sta → Int → Int → Int → Int
 gt : Sta → Int → Int → Int → Int
 isD : Sta → Int → Int → Int → Nat → Bool
def fitS (op : Int) (a : Nat) (h : Nat → List Sh) (b : Nat) (l : Nat → List Sh) : Bool := okB Int a h && okB Pr b l && roomB (a + 1) 8 && mapOK op b l
end Go.Pl
namespace Go.Proofs
open Go.Sx.Tree
open Go Go.Sx Go.Pl
noncomputable def H46 (L : Lg6) : List Sh → Tree Sh
 | [.str l] => bif Nat.beq l.length 7 then .need (L.isF l 0) (.leaf (.tup [.agg (staS (L.frm l)), .v .nilIface])) else .need (L.isF l 2) (.leaf (zeroR 2))
 | _ => .fail
noncomputable def H42 (L : Lg6) : List Sh → Tree Sh
 | [.agg [.i .i64 x, .i .i64 y, s2, s3], t, u, v] => match slN 1 s2, slN 2 s3, icode t, icode u, icode v with
  | some (a, h), some (b, l), some (Int.ofNat 1), some k, some v => .need (fitS 1 a h b l) (.need (L.isD (sQ x y a h b l) 1 k v 1) (.leaf (.tup [.agg (staS zeroT), .i .i64 0, .i .i64 0, .er 1 242])))
  | some (a, h), some (b, l), some op, some k, some v => .need (fitS op a h b l) (.need (L.isD (sQ x y a h b l) op k v 0) (.leaf (.tup [.agg (staS (L.nx (sQ x y a h b l) op k v)), .i .i64 (L.rt (sQ x y a h b l) op k v), .i .i64 (L.gt (sQ x y a h b l) op k v), .v .nilIface])))
  | _, _, _, _, _ => .fail
 | _ => .fail
noncomputable def H35 (L : Lg6) : List Sh → Tree Sh
 | [.agg [.i .i64 x, .i .i64 y, s2, s3]] => match slN 1 s2, slN 2 s3 with
  | some (a, h), some (b, l) => .need (keyB x y a h b l) (.leaf (.str (L.key (sQ x y a h b l))))
  | _, _ => .fail
 | _ => .fail
noncomputable def spec40 (L : Lg6) : Nat → Option (List Sh → Tree Sh)
 | 35 => some (H35 L)
 | 42 => some (H42 L)
 | 46 => some (H46 L)
 | _ => none
theorem a40 (A : Prim) (W : Wd) (L : Lg6) : runTo (C7 A W (spec40 L) sAl) nH0 300 400 40 [.code []] (start0 88 [] L0) [] [] = need (L.isF [109, 97, 112, 32, 51, 58, 55] 0) (need (fitS (Int.ofNat 7) (len (L.frm [109, 97, 112, 32, 51, 58, 55]).q) (fnR (nth (L.frm [109, 97, 112, 32, 51, 58, 55]).q)) (len (L.frm [109, 97, 112, 32, 51, 58, 55]).ps) (fnR (nth (L.frm [109, 97, 112, 32, 51, 58, 55]).ps))) (need (L.isD (sQ (L.frm [109, 97, 112, 32, 51, 58, 55]).kind (L.frm [109, 97, 112, 32, 51, 58, 55]).num (len (L.frm [109, 97, 112, 32, 51, 58, 55]).q) (fnR (nth (L.frm [109, 97, 112, 32, 51, 58, 55]).q)) (len (L.frm [109, 97, 112, 32, 51, 58, 55]).ps) (fnR (nth (L.frm [109, 97, 112, 32, 51, 58, 55]).ps))) (Int.ofNat 7) (Int.ofNat 1) (Int.ofNat 5) 0) (need (fitS (Int.ofNat 8) (len (L.frm [109, 97, 112, 32, 51, 58, 55]).q) (fnR (nth (L.frm [109, 97, 112, 32, 51, 58, 55]).q)) (len (L.frm [109, 97, 112, 32, 51, 58, 55]).ps) (fnR (nth (L.frm [109, 97, 112, 32, 51, 58, 55]).ps))) (need (L.isD (sQ (L.frm [109, 97, 112, 32, 51, 58, 55]).kind (L.frm [109, 97, 112, 32, 51, 58, 55]).num (len (L.frm [109, 97, 112, 32, 51, 58, 55]).q) (fnR (nth (L.frm [109, 97, 112, 32, 51, 58, 55]).q)) (len (L.frm [109, 97, 112, 32, 51, 58, 55]).ps) (fnR (nth (L.frm [109, 97, 112, 32, 51, 58, 55]).ps))) (Int.ofNat 8) (Int.ofNat 3) (Int.ofNat 0) 0) (need (fitS (Int.ofNat 1) (len (L.frm [109, 97, 112, 32, 51, 58, 55]).q) (fnR (nth (L.frm [109, 97, 112, 32, 51, 58, 55]).q)) (len (L.frm [109, 97, 112, 32, 51, 58, 55]).ps) (fnR (nth (L.frm [109, 97, 112, 32, 51, 58, 55]).ps))) (need (L.isD (sQ (L.frm [109, 97, 112, 32, 51, 58, 55]).kind (L.frm [109, 97, 112, 32, 51, 58, 55]).num (len (L.frm [109, 97, 112, 32, 51, 58, 55]).q) (fnR (nth (L.frm [109, 97, 112, 32, 51, 58, 55]).q)) (len (L.frm [109, 97, 112, 32, 51, 58, 55]).ps) (fnR (nth (L.frm [109, 97, 112, 32, 51, 58, 55]).ps))) (Int.ofNat 1) (Int.ofNat 0) (Int.ofNat 0) 1) (need (L.isF [114, 101, 103, 105, 115, 116, 101, 114, 32, 48, 49] 2) (node (A.eq (L.rt (sQ (L.frm [109, 97, 112, 32, 51, 58, 55]).kind (L.frm [109, 97, 112, 32, 51, 58, 55]).num (len (L.frm [109, 97, 112, 32, 51, 58, 55]).q) (fnR (nth (L.frm [109, 97, 112, 32, 51, 58, 55]).q)) (len (L.frm [109, 97, 112, 32, 51, 58, 55]).ps) (fnR (nth (L.frm [109, 97, 112, 32, 51, 58, 55]).ps))) (Int.ofNat 7) (Int.ofNat 1) (Int.ofNat 5)) (Int.ofNat 1)) (need (keyB (L.nx (sQ (L.frm [109, 97, 112, 32, 51, 58, 55]).kind (L.frm [109, 97, 112, 32, 51, 58, 55]).num (len (L.frm [109, 97, 112, 32, 51, 58, 55]).q) (fnR (nth (L.frm [109, 97, 112, 32, 51, 58, 55]).q)) (len (L.frm [109, 97, 112, 32, 51, 58, 55]).ps) (fnR (nth (L.frm [109, 97, 112, 32, 51, 58, 55]).ps))) (Int.ofNat 7) (Int.ofNat 1) (Int.ofNat 5)).kind (L.nx (sQ (L.frm [109, 97, 112, 32, 51, 58, 55]).kind (L.frm [109, 97, 112, 32, 51, 58, 55]).num (len (L.frm [109, 97, 112, 32, 51, 58, 55]).q) (fnR (nth (L.frm [109, 97, 112, 32, 51, 58, 55]).q)) (len (L.frm [109, 97, 112, 32, 51, 58, 55]).ps) (fnR (nth (L.frm [109, 97, 112, 32, 51, 58, 55]).ps))) (Int.ofNat 7) (Int.ofNat 1) (Int.ofNat 5)).num (len (L.nx (sQ (L.frm [109, 97, 112, 32, 51, 58, 55]).kind (L.frm [109, 97, 112, 32, 51, 58, 55]).num (len (L.frm [109, 97, 112, 32, 51, 58, 55]).q) (fnR (nth (L.frm [109, 97, 112, 32, 51, 58, 55]).q)) (len (L.frm [109, 97, 112, 32, 51, 58, 55]).ps) (fnR (nth (L.frm [109, 97, 112, 32, 51, 58, 55]).ps))) (Int.ofNat 7) (Int.ofNat 1) (Int.ofNat 5)).q) (fnR (nth (L.nx (sQ (L.frm [109, 97, 112, 32, 51, 58, 55]).kind (L.frm [109, 97, 112, 32, 51, 58, 55]).num (len (L.frm [109, 97, 112, 32, 51, 58, 55]).q) (fnR (nth (L.frm [109, 97, 112, 32, 51, 58, 55]).q)) (len (L.frm [109, 97, 112, 32, 51, 58, 55]).ps) (fnR (nth (L.frm [109, 97, 112, 32, 51, 58, 55]).ps))) (Int.ofNat 7) (Int.ofNat 1) (Int.ofNat 5)).q)) (len (L.nx (sQ (L.frm [109, 97, 112, 32, 51, 58, 55]).kind (L.frm [109, 97, 112, 32, 51, 58, 55]).num (len (L.frm [109, 97, 112, 32, 51, 58, 55]).q) (fnR (nth (L.frm [109, 97, 112, 32, 51, 58, 55]).q)) (len (L.frm [109, 97, 112, 32, 51, 58, 55]).ps) (fnR (nth (L.frm [109, 97, 112, 32, 51, 58, 55]).ps))) (Int.ofNat 7) (Int.ofNat 1) (Int.ofNat 5)).ps) (fnR (nth (L.nx (sQ (L.frm [109, 97, 112, 32, 51, 58, 55]).kind (L.frm [109, 97, 112, 32, 51, 58, 55]).num (len (L.frm [109, 97, 112, 32, 51, 58, 55]).q) (fnR (nth (L.frm [109, 97, 112, 32, 51, 58, 55]).q)) (len (L.frm [109, 97, 112, 32, 51, 58, 55]).ps) (fnR (nth (L.frm [109, 97, 112, 32, 51, 58, 55]).ps))) (Int.ofNat 7) (Int.ofNat 1) (Int.ofNat 5)).ps))) (node (A.seq (L.key (sQ (L.nx (sQ (L.frm [109, 97, 112, 32, 51, 58, 55]).kind (L.frm [109, 97, 112, 32, 51, 58, 55]).num (len (L.frm [109, 97, 112, 32, 51, 58, 55]).q) (fnR (nth (L.frm [109, 97, 112, 32, 51, 58, 55]).q)) (len (L.frm [109, 97, 112, 32, 51, 58, 55]).ps) (fnR (nth (L.frm [109, 97, 112, 32, 51, 58, 55]).ps))) (Int.ofNat 7) (Int.ofNat 1) (Int.ofNat 5)).kind (L.nx (sQ (L.frm [109, 97, 112, 32, 51, 58, 55]).kind (L.frm [109, 97, 112, 32, 51, 58, 55]).num (len (L.frm [109, 97, 112, 32, 51, 58, 55]).q) (fnR (nth (L.frm [109, 97, 112, 32, 51, 58, 55]).q)) (len (L.frm [109, 97, 112, 32, 51, 58, 55]).ps) (fnR (nth (L.frm [109, 97, 112, 32, 51, 58, 55]).ps))) (Int.ofNat 7) (Int.ofNat 1) (Int.ofNat 5)).num (len (L.nx (sQ (L.frm [109, 97, 112, 32, 51, 58, 55]).kind (L.frm [109, 97, 112, 32, 51, 58, 55]).num (len (L.frm [109, 97, 112, 32, 51, 58, 55]).q) (fnR (nth (L.frm [109, 97, 112, 32, 51, 58, 55]).q)) (len (L.frm [109, 97, 112, 32, 51, 58, 55]).ps) (fnR (nth (L.frm [109, 97, 112, 32, 51, 58, 55]).ps))) (Int.ofNat 7) (Int.ofNat 1) (Int.ofNat 5)).q) (fnR (nth (L.nx (sQ (L.frm [109, 97, 112, 32, 51, 58, 55]).kind (L.frm [109, 97, 112, 32, 51, 58, 55]).num (len (L.frm [109, 97, 112, 32, 51, 58, 55]).q) (fnR (nth (L.frm [109, 97, 112, 32, 51, 58, 55]).q)) (len (L.frm [109, 97, 112, 32, 51, 58, 55]).ps) (fnR (nth (L.frm [109, 97, 112, 32, 51, 58, 55]).ps))) (Int.ofNat 7) (Int.ofNat 1) (Int.ofNat 5)).q)) (len (L.nx (sQ (L.frm [109, 97, 112, 32, 51, 58, 55]).kind (L.frm [109, 97, 112, 32, 51, 58, 55]).num (len (L.frm [109, 97, 112, 32, 51, 58, 55]).q) (fnR (nth (L.frm [109, 97, 112, 32, 51, 58, 55]).q)) (len (L.frm [109, 97, 112, 32, 51, 58, 55]).ps) (fnR (nth (L.frm [109, 97, 112, 32, 51, 58, 55]).ps))) (Int.ofNat 7) (Int.ofNat 1) (Int.ofNat 5)).ps) (fnR (nth (L.nx (sQ (L.frm [109, 97, 112, 32, 51, 58, 55]).kind (L.frm [109, 97, 112, 32, 51, 58, 55]).num (len (L.frm [109, 97, 112, 32, 51, 58, 55]).q) (fnR (nth (L.frm [109, 97, 112, 32, 51, 58, 55]).q)) (len (L.frm [109, 97, 112, 32, 51, 58, 55]).ps) (fnR (nth (L.frm [109, 97, 112, 32, 51, 58, 55]).ps))) (Int.ofNat 7) (Int.ofNat 1) (Int.ofNat 5)).ps)))) [109, 97, 112, 32, 49, 58, 53, 32, 51, 58, 55]) (node (A.eq (L.rt (sQ (L.frm [109, 97, 112, 32, 51, 58, 55]).kind (L.frm [109, 97, 112, 32, 51, 58, 55]).num (len (L.frm [109, 97, 112, 32, 51, 58, 55]).q) (fnR (nth (L.frm [109, 97, 112, 32, 51, 58, 55]).q)) (len (L.frm [109, 97, 112, 32, 51, 58, 55]).ps) (fnR (nth (L.frm [109, 97, 112, 32, 51, 58, 55]).ps))) (Int.ofNat 8) (Int.ofNat 3) (Int.ofNat 0)) (Int.ofNat 3)) (node (A.eq (L.gt (sQ (L.frm [109, 97, 112, 32, 51, 58, 55]).kind (L.frm [109, 97, 112, 32, 51, 58, 55]).num (len (L.frm [109, 97, 112, 32, 51, 58, 55]).q) (fnR (nth (L.frm [109, 97, 112, 32, 51, 58, 55]).q)) (len (L.frm [109, 97, 112, 32, 51, 58, 55]).ps) (fnR (nth (L.frm [109, 97, 112, 32, 51, 58, 55]).ps))) (Int.ofNat 8) (Int.ofNat 3) (Int.ofNat 0)) (Int.ofNat 7)) (need (keyB (L.frm [109, 97, 112, 32, 51, 58, 55]).kind (L.frm [109, 97, 112, 32, 51, 58, 55]).num (len (L.frm [109, 97, 112, 32, 51, 58, 55]).q) (fnR (nth (L.frm [109, 97, 112, 32, 51, 58, 55]).q)) (len (L.frm [109, 97, 112, 32, 51, 58, 55]).ps) (fnR (nth (L.frm [109, 97, 112, 32, 51, 58, 55]).ps))) (leaf (Fe2.ret (Sh.b (A.seq (L.key (sQ (L.frm [109, 97, 112, 32, 51, 58, 55]).kind (L.frm [109, 97, 112, 32, 51, 58, 55]).num (len (L.frm [109, 97, 112, 32, 51, 58, 55]).q) (fnR (nth (L.frm [109, 97, 112, 32, 51, 58, 55]).q)) (len (L.frm [109, 97, 112, 32, 51, 58, 55]).ps) (fnR (nth (L.frm [109, 97, 112, 32, 51, 58, 55]).ps)))) [109, 97, 112, 32, 51, 58, 55]))))) (leaf (Fe2.ret (Sh.b false)))) (leaf (Fe2.ret (Sh.b false)))) (leaf (Fe2.ret (Sh.b false))))) (leaf (Fe2.ret (Sh.b false))))))))))) := by kernel_rfl
end Go.Proofs
namespace Go.Proofs
open Go.Sx.Tree
open Go Go.Sx Go.Pl
theorem all_a40 (A : Prim) (W : Wd) (L : Lg6) {ψ : Fe2 → Prop} {c0 c1 c2 c3 : Bool} (e0 : A.eq (L.rt (sQ (L.frm [109, 97, 112, 32, 51, 58, 55]).kind (L.frm [109, 97, 112, 32, 51, 58, 55]).num (len (L.frm [109, 97, 112, 32, 51, 58, 55]).q) (fnR (nth (L.frm [109, 97, 112, 32, 51, 58, 55]).q)) (len (L.frm [109, 97, 112, 32, 51, 58, 55]).ps) (fnR (nth (L.frm [109, 97, 112, 32, 51, 58, 55]).ps))) (Int.ofNat 7) (Int.ofNat 1) (Int.ofNat 5)) (Int.ofNat 1) = c0) (e1 : A.seq (L.key (sQ (L.nx (sQ (L.frm [109, 97, 112, 32, 51, 58, 55]).kind (L.frm [109, 97, 112, 32, 51, 58, 55]).num (len (L.frm [109, 97, 112, 32, 51, 58, 55]).q) (fnR (nth (L.frm [109, 97, 112, 32, 51, 58, 55]).q)) (len (L.frm [109, 97, 112, 32, 51, 58, 55]).ps) (fnR (nth (L.frm [109, 97, 112, 32, 51, 58, 55]).ps))) (Int.ofNat 7) (Int.ofNat 1) (Int.ofNat 5)).kind (L.nx (sQ (L.frm [109, 97, 112, 32, 51, 58, 55]).kind (L.frm [109, 97, 112, 32, 51, 58, 55]).num (len (L.frm [109, 97, 112, 32, 51, 58, 55]).q) (fnR (nth (L.frm [109, 97, 112, 32, 51, 58, 55]).q)) (len (L.frm [109, 97, 112, 32, 51, 58, 55]).ps) (fnR (nth (L.frm [109, 97, 112, 32, 51, 58, 55]).ps))) (Int.ofNat 7) (Int.ofNat 1) (Int.ofNat 5)).num (len (L.nx (sQ (L.frm [109, 97, 112, 32, 51, 58, 55]).kind (L.frm [109, 97, 112, 32, 51, 58, 55]).num (len (L.frm [109, 97, 112, 32, 51, 58, 55]).q) (fnR (nth (L.frm [109, 97, 112, 32, 51, 58, 55]).q)) (len (L.frm [109, 97, 112, 32, 51, 58, 55]).ps) (fnR (nth (L.frm [109, 97, 112, 32, 51, 58, 55]).ps))) (Int.ofNat 7) (Int.ofNat 1) (Int.ofNat 5)).q) (fnR (nth (L.nx (sQ (L.frm [109, 97, 112, 32, 51, 58, 55]).kind (L.frm [109, 97, 112, 32, 51, 58, 55]).num (len (L.frm [109, 97, 112, 32, 51, 58, 55]).q) (fnR (nth (L.frm [109, 97, 112, 32, 51, 58, 55]).q)) (len (L.frm [109, 97, 112, 32, 51, 58, 55]).ps) (fnR (nth (L.frm [109, 97, 112, 32, 51, 58, 55]).ps))) (Int.ofNat 7) (Int.ofNat 1) (Int.ofNat 5)).q)) (len (L.nx (sQ (L.frm [109, 97, 112, 32, 51, 58, 55]).kind (L.frm [109, 97, 112, 32, 51, 58, 55]).num (len (L.frm [109, 97, 112, 32, 51, 58, 55]).q) (fnR (nth (L.frm [109, 97, 112, 32, 51, 58, 55]).q)) (len (L.frm [109, 97, 112, 32, 51, 58, 55]).ps) (fnR (nth (L.frm [109, 97, 112, 32, 51, 58, 55]).ps))) (Int.ofNat 7) (Int.ofNat 1) (Int.ofNat 5)).ps) (fnR (nth (L.nx (sQ (L.frm [109, 97, 112, 32, 51, 58, 55]).kind (L.frm [109, 97, 112, 32, 51, 58, 55]).num (len (L.frm [109, 97, 112, 32, 51, 58, 55]).q) (fnR (nth (L.frm [109, 97, 112, 32, 51, 58, 55]).q)) (len (L.frm [109, 97, 112, 32, 51, 58, 55]).ps) (fnR (nth (L.frm [109, 97, 112, 32, 51, 58, 55]).ps))) (Int.ofNat 7) (Int.ofNat 1) (Int.ofNat 5)).ps)))) [109, 97, 112, 32, 49, 58, 53, 32, 51, 58, 55] = c1) (e2 : A.eq (L.rt (sQ (L.frm [109, 97, 112, 32, 51, 58, 55]).kind (L.frm [109, 97, 112, 32, 51, 58, 55]).num (len (L.frm [109, 97, 112, 32, 51, 58, 55]).q) (fnR (nth (L.frm [109, 97, 112, 32, 51, 58, 55]).q)) (len (L.frm [109, 97, 112, 32, 51, 58, 55]).ps) (fnR (nth (L.frm [109, 97, 112, 32, 51, 58, 55]).ps))) (Int.ofNat 8) (Int.ofNat 3) (Int.ofNat 0)) (Int.ofNat 3) = c2) (e3 : A.eq (L.gt (sQ (L.frm [109, 97, 112, 32, 51, 58, 55]).kind (L.frm [109, 97, 112, 32, 51, 58, 55]).num (len (L.frm [109, 97, 112, 32, 51, 58, 55]).q) (fnR (nth (L.frm [109, 97, 112, 32, 51, 58, 55]).q)) (len (L.frm [109, 97, 112, 32, 51, 58, 55]).ps) (fnR (nth (L.frm [109, 97, 112, 32, 51, 58, 55]).ps))) (Int.ofNat 8) (Int.ofNat 3) (Int.ofNat 0)) (Int.ofNat 7) = c3) (h1 : (L.isF [109, 97, 112, 32, 51, 58, 55] 0) = true) (h2 : (fitS (Int.ofNat 7) (len (L.frm [109, 97, 112, 32, 51, 58, 55]).q) (fnR (nth (L.frm [109, 97, 112, 32, 51, 58, 55]).q)) (len (L.frm [109, 97, 112, 32, 51, 58, 55]).ps) (fnR (nth (L.frm [109, 97, 112, 32, 51, 58, 55]).ps))) = true) (h3 : (L.isD (sQ (L.frm [109, 97, 112, 32, 51, 58, 55]).kind (L.frm [109, 97, 112, 32, 51, 58, 55]).num (len (L.frm [109, 97, 112, 32, 51, 58, 55]).q) (fnR (nth (L.frm [109, 97, 112, 32, 51, 58, 55]).q)) (len (L.frm [109, 97, 112, 32, 51, 58, 55]).ps) (fnR (nth (L.frm [109, 97, 112, 32, 51, 58, 55]).ps))) (Int.ofNat 7) (Int.ofNat 1) (Int.ofNat 5) 0) = true) (h4 : (fitS (Int.ofNat 8) (len (L.frm [109, 97, 112, 32, 51, 58, 55]).q) (fnR (nth (L.frm [109, 97, 112, 32, 51, 58, 55]).q)) (len (L.frm [109, 97, 112, 32, 51, 58, 55]).ps) (fnR (nth (L.frm [109, 97, 112, 32, 51, 58, 55]).ps))) = true) (h5 : (L.isD (sQ (L.frm [109, 97, 112, 32, 51, 58, 55]).kind (L.frm [109, 97, 112, 32, 51, 58, 55]).num (len (L.frm [109, 97, 112, 32, 51, 58, 55]).q) (fnR (nth (L.frm [109, 97, 112, 32, 51, 58, 55]).q)) (len (L.frm [109, 97, 112, 32, 51, 58, 55]).ps) (fnR (nth (L.frm [109, 97, 112, 32, 51, 58, 55]).ps))) (Int.ofNat 8) (Int.ofNat 3) (Int.ofNat 0) 0) = true) (h6 : (fitS (Int.ofNat 1) (len (L.frm [109, 97, 112, 32, 51, 58, 55]).q) (fnR (nth (L.frm [109, 97, 112, 32, 51, 58, 55]).q)) (len (L.frm [109, 97, 112, 32, 51, 58, 55]).ps) (fnR (nth (L.frm [109, 97, 112, 32, 51, 58, 55]).ps))) = true) (h7 : (L.isD (sQ (L.frm [109, 97, 112, 32, 51, 58, 55]).kind (L.frm [109, 97, 112, 32, 51, 58, 55]).num (len (L.frm [109, 97, 112, 32, 51, 58, 55]).q) (fnR (nth (L.frm [109, 97, 112, 32, 51, 58, 55]).q)) (len (L.frm [109, 97, 112, 32, 51, 58, 55]).ps) (fnR (nth (L.frm [109, 97, 112, 32, 51, 58, 55]).ps))) (Int.ofNat 1) (Int.ofNat 0) (Int.ofNat 0) 1) = true) (h8 : (L.isF [114, 101, 103, 105, 115, 116, 101, 114, 32, 48, 49] 2) = true) (h9 : c0 = true → (keyB (L.nx (sQ (L.frm [109, 97, 112, 32, 51, 58, 55]).kind (L.frm [109, 97, 112, 32, 51, 58, 55]).num (len (L.frm [109, 97, 112, 32, 51, 58, 55]).q) (fnR (nth (L.frm [109, 97, 112, 32, 51, 58, 55]).q)) (len (L.frm [109, 97, 112, 32, 51, 58, 55]).ps) (fnR (nth (L.frm [109, 97, 112, 32, 51, 58, 55]).ps))) (Int.ofNat 7) (Int.ofNat 1) (Int.ofNat 5)).kind (L.nx (sQ (L.frm [109, 97, 112, 32, 51, 58, 55]).kind (L.frm [109, 97, 112, 32, 51, 58, 55]).num (len (L.frm [109, 97, 112, 32, 51, 58, 55]).q) (fnR (nth (L.frm [109, 97, 112, 32, 51, 58, 55]).q)) (len (L.frm [109, 97, 112, 32, 51, 58, 55]).ps) (fnR (nth (L.frm [109, 97, 112, 32, 51, 58, 55]).ps))) (Int.ofNat 7) (Int.ofNat 1) (Int.ofNat 5)).num (len (L.nx (sQ (L.frm [109, 97, 112, 32, 51, 58, 55]).kind (L.frm [109, 97, 112, 32, 51, 58, 55]).num (len (L.frm [109, 97, 112, 32, 51, 58, 55]).q) (fnR (nth (L.frm [109, 97, 112, 32, 51, 58, 55]).q)) (len (L.frm [109, 97, 112, 32, 51, 58, 55]).ps) (fnR (nth (L.frm [109, 97, 112, 32, 51, 58, 55]).ps))) (Int.ofNat 7) (Int.ofNat 1) (Int.ofNat 5)).q) (fnR (nth (L.nx (sQ (L.frm [109, 97, 112, 32, 51, 58, 55]).kind (L.frm [109, 97, 112, 32, 51, 58, 55]).num (len (L.frm [109, 97, 112, 32, 51, 58, 55]).q) (fnR (nth (L.frm [109, 97, 112, 32, 51, 58, 55]).q)) (len (L.frm [109, 97, 112, 32, 51, 58, 55]).ps) (fnR (nth (L.frm [109, 97, 112, 32, 51, 58, 55]).ps))) (Int.ofNat 7) (Int.ofNat 1) (Int.ofNat 5)).q)) (len (L.nx (sQ (L.frm [109, 97, 112, 32, 51, 58, 55]).kind (L.frm [109, 97, 112, 32, 51, 58, 55]).num (len (L.frm [109, 97, 112, 32, 51, 58, 55]).q) (fnR (nth (L.frm [109, 97, 112, 32, 51, 58, 55]).q)) (len (L.frm [109, 97, 112, 32, 51, 58, 55]).ps) (fnR (nth (L.frm [109, 97, 112, 32, 51, 58, 55]).ps))) (Int.ofNat 7) (Int.ofNat 1) (Int.ofNat 5)).ps) (fnR (nth (L.nx (sQ (L.frm [109, 97, 112, 32, 51, 58, 55]).kind (L.frm [109, 97, 112, 32, 51, 58, 55]).num (len (L.frm [109, 97, 112, 32, 51, 58, 55]).q) (fnR (nth (L.frm [109, 97, 112, 32, 51, 58, 55]).q)) (len (L.frm [109, 97, 112, 32, 51, 58, 55]).ps) (fnR (nth (L.frm [109, 97, 112, 32, 51, 58, 55]).ps))) (Int.ofNat 7) (Int.ofNat 1) (Int.ofNat 5)).ps))) = true) (h10 : c0 = true → c1 = true → c2 = true → c3 = true → (keyB (L.frm [109, 97, 112, 32, 51, 58, 55]).kind (L.frm [109, 97, 112, 32, 51, 58, 55]).num (len (L.frm [109, 97, 112, 32, 51, 58, 55]).q) (fnR (nth (L.frm [109, 97, 112, 32, 51, 58, 55]).q)) (len (L.frm [109, 97, 112, 32, 51, 58, 55]).ps) (fnR (nth (L.frm [109, 97, 112, 32, 51, 58, 55]).ps))) = true) (y1 : c0 = true → c1 = true → c2 = true → c3 = true → ψ (Fe2.ret (Sh.b (A.seq (L.key (sQ (L.frm [109, 97, 112, 32, 51, 58, 55]).kind (L.frm [109, 97, 112, 32, 51, 58, 55]).num (len (L.frm [109, 97, 112, 32, 51, 58, 55]).q) (fnR (nth (L.frm [109, 97, 112, 32, 51, 58, 55]).q)) (len (L.frm [109, 97, 112, 32, 51, 58, 55]).ps) (fnR (nth (L.frm [109, 97, 112, 32, 51, 58, 55]).ps)))) [109, 97, 112, 32, 51, 58, 55])))) (y2 : c0 = true → c1 = true → c2 = true → c3 = false → ψ (Fe2.ret (Sh.b false))) (y3 : c0 = true → c1 = true → c2 = false → ψ (Fe2.ret (Sh.b false))) (y4 : c0 = true → c1 = false → ψ (Fe2.ret (Sh.b false))) (y5 : c0 = false → ψ (Fe2.ret (Sh.b false))) : MeetsT ψ (runTo (C7 A W (spec40 L) sAl) nH0 300 400 40 [.code []] (start0 88 [] L0) [] []) := by
 subst e0 e1 e2 e3
 rw [a40 A W L, meetsT_eq]
 exact ⟨(h1), ⟨(h2), ⟨(h3), ⟨(h4), ⟨(h5), ⟨(h6), ⟨(h7), ⟨(h8), ⟨fun q0 => ⟨(h9 q0), ⟨fun q1 => ⟨fun q2 => ⟨fun q3 => ⟨(h10 q0 q1 q2 q3), (y1 q0 q1 q2 q3)⟩, fun q3 => (y2 q0 q1 q2 q3)⟩, fun q2 => (y3 q0 q1 q2)⟩, fun q1 => (y4 q0 q1)⟩⟩, fun q0 => (y5 q0)⟩⟩⟩⟩⟩⟩⟩⟩⟩
end Go.Proofs
namespace Go.Pl
open Go Go.Sx Go.Proofs
def codD (s : Sta) (op k v : Int) : Nat := if badOp s.kind op = true then 1 else if badKV s.kind s.num op k v = true then 2 else 0
noncomputable def L6 : Lg6 where
 key := keyS
 frm := stO
 isF l c := isC6 l c && lenK l
 nx s op k v := (opT s op k v).1
 rt s op k v := (opT s op k v).2.1
 gt s op k v := (opT s op k v).2.2
 isD s op k v c := codD s op k v == c
theorem codD0 {s : Sta} {op k v : Int} (h : codD s op k v = 0) : badOp s.kind op = false ∧ badKV s.kind s.num op k v = false := by
 unfold codD at h
 cases h1 : badOp s.kind op <;> cases h2 : badKV s.kind s.num op k v <;> simp [h1, h2] at h ⊢
theorem codD1 {s : Sta} {op k v : Int} (h : codD s op k v = 1) : badOp s.kind op = true := by
 unfold codD at h
 cases h1 : badOp s.kind op <;> cases h2 : badKV s.kind s.num op k v <;> simp [h1, h2] at h ⊢
theorem from1 : fromS [109, 97, 112, 32, 51, 58, 55] = some (⟨4, 0, [], [⟨3, 7⟩]⟩, false) := by kernel_rfl
theorem from2 : fromS [114, 101, 103, 105, 115, 116, 101, 114, 32, 48, 49] = none := by kernel_rfl
end Go.Pl
namespace Go.Proofs
open Go Go.Sx Go.Pl
theorem OH46 : FnOK Tryz.prog (gls7 W7) 46 (H46 L6) := by
 intro H w shs args φ hon hg hr h
 refine O46 H w shs args φ hon hg hr ?_
 unfold H46 at h
 unfold F46
 split at h
 ·rename_i l
  have two (q : isC6 l 2 = true) (r : isC6 l 0 = true) : False := by
   have q := eq_of_beq q
   have r := eq_of_beq r
   omega
  have four (q : isC6 l 4 = true) (r : isC6 l 0 = true) : False := by
   have q := eq_of_beq q
   have r := eq_of_beq r
   omega
  cases hb : Nat.beq l.length 7 with
  | true =>
   rw [hb] at h
   obtain ⟨h1, h2⟩ := h
   have h1 : (isC6 l 0 && lenK l) = true := h1
   rw [Bool.and_eq_true] at h1
   exact ⟨h1.2, fun q => (two q h1.1).elim, fun _ => ⟨fun q => (four q h1.1).elim, fun _ => h2⟩⟩
  | false =>
   rw [hb] at h
   obtain ⟨h1, h2⟩ := h
   have h1 : (isC6 l 2 && lenK l) = true := h1
   rw [Bool.and_eq_true] at h1
   exact ⟨h1.2, fun _ => h2, fun q => by rw [h1.1] at q; cases q⟩
 ·exact h.elim
theorem OH42 : FnOK Tryz.prog (gls7 W7) 42 (H42 L6) := by
 intro H w shs args φ hon hg hr h
 refine O42 H w shs args φ hon hg hr ?_
 unfold H42 at h
 unfold F42
 split at h
 ·split at h
  ·rename_i e1 e2 e3 e4 e5
   obtain ⟨h1, h2, h3⟩ := h
   have h1 : (((_ && _) && _) && _) = true := h1
   rw [Bool.and_eq_true, Bool.and_eq_true, Bool.and_eq_true] at h1
   have h2 : codD _ _ _ _ = 1 := eq_of_beq h2
   simp only [e1, e2, e3, e4, e5]
   exact ⟨h1.1.1.1, h1.1.1.2, h1.1.2, fun _ => h3, fun q => no2 q (codD1 h2)⟩
  ·rename_i e1 e2 e3 e4 e5
   obtain ⟨h1, h2, h3⟩ := h
   have h1 : (((_ && _) && _) && _) = true := h1
   rw [Bool.and_eq_true, Bool.and_eq_true, Bool.and_eq_true] at h1
   have h2 : codD _ _ _ _ = 0 := eq_of_beq h2
   simp only [e1, e2, e3, e4, e5]
   obtain ⟨c1, c2⟩ := codD0 h2
   exact ⟨h1.1.1.1, h1.1.1.2, h1.1.2, fun q => no2 c1 q, fun q => ⟨fun q2 => no2 c2 q2, fun q2 => ⟨h1.2, h3⟩⟩⟩
  ·exact h.elim
 ·exact h.elim
theorem fok40 (stop : Nat → List Nat → Bool) : FnsOK Tryz.prog (C7 prim W7 (spec40 L6) stop) := C7.fok (fun g F h => by
 unfold spec40 at h
 split at h
 ·cases h; exact O35k
 ·cases h; exact OH42
 ·cases h; exact OH46
 ·cases h) fun g h => by
 unfold spec40 at h
 split at h
 all_goals first | (cases h; done) | kernel_rfl
def F40 : List Sh → Tree Sh
 | [] => .leaf (.v (.bool true))
 | _ => .fail
theorem O40 : FnOK Tryz.prog (gls7 W7) 40 F40 := by
 refine fnOK_Su (C := C7 prim W7 (spec40 L6) sAl) (C7.ok _ _) (fn := Tryz.f40) (by kernel_rfl) (by kernel_rfl) fun H w shs args φ hrep h => ?_
 have hn : Tryz.f40.ntmps = 88 := by kernel_rfl
 unfold F40 at h
 split at h
 ·refine ⟨[], hrep, L0, ?_⟩
  have hφ : up φ (.b true) := up_mk (s' := .v (.bool true)) (.inr rfl) h
  have s1 : L6.frm [109, 97, 112, 32, 51, 58, 55] = ⟨4, 0, [], [⟨3, 7⟩]⟩ := by show stO _ = _; unfold stO; rw [from1]
  refine gSt (C7.ok _ _) (fok40 _) (hold := nH0) (m := 300) (n := 400) (ts := []) ?_
  rw [hn]
  refine all_a40 prim W7 L6 rfl rfl rfl rfl ?_ ?_ ?_ ?_ ?_ ?_ ?_ ?_ ?_ ?_ ?_ ?_ ?_ ?_ ?_
  all_goals (try simp only [sQ_eq])
  all_goals (try simp only [s1])
  ·show (isC6 _ 0 && lenK _) = true
   unfold isC6 codF
   rw [from1]; rfl
  ·kernel_rfl
  ·kernel_rfl
  ·kernel_rfl
  ·kernel_rfl
  ·kernel_rfl
  ·kernel_rfl
  ·show (isC6 _ 2 && lenK _) = true
   unfold isC6 codF
   rw [from2]; rfl
  ·intro _; kernel_rfl
  ·intro _ _ _ _; kernel_rfl
  ·intro _ _ _ _
   have : prim.seq (L6.key ⟨4, 0, [], [⟨3, 7⟩]⟩) [109, 97, 112, 32, 51, 58, 55] = true := by kernel_rfl
   rw [this]
   exact hφ
  ·intro _ _ _ q; exact no2 q (by kernel_rfl)
  ·intro _ _ q; exact no2 q (by kernel_rfl)
  ·intro _ q; exact no2 q (by kernel_rfl)
  ·intro q; exact no2 q (by kernel_rfl)
 ·exact h.elim
end Go.Proofs
namespace Go.Pl
open Go Go.Sx
structure Ll6 where
 enq : (Nat → Int) → Nat → Nat → Int → Nat → Int
def inQ (n : Nat) : Bool := roomB (n + 1) 8
def fitQ (c : Nat) (v : Int) : Bool := inQ c && decide (-1000000000 ≤ v ∧ v ≤ 1000000000)
def snQ (q : Nat → Int) (n : Nat) (v : Int) : Nat → Int := fun i => if i < n then q i else v
def tlQ (q : Nat → Int) : Nat → Int := fun i => q (i + 1)
def hdQ (n : Nat) (q : Nat → Int) : Int := if n = 0 then 0 else q 0
def predQ (n : Nat) : Nat := n - 1
def deqQ (n : Nat) : Int := if n = 0 then 2 else 3
end Go.Pl
namespace Go.Proofs
open Go.Sx.Tree
open Go Go.Sx Go.Pl
noncomputable def Q42 : List Sh → Tree Sh
 | [.agg [.i .i64 3, .i .i64 0, s2, s3], t, u, v] => match slN 1 s2, slN 2 s3, icode t, icode u, icode v with
  | some (a, h), some (0, _), some (Int.ofNat 5), some (Int.ofNat 0), some v => .need (okB Int a h) (.need (fitQ a v) (.leaf (.tup [.agg [.v (.int .i64 3), .v (.int .i64 0), .sl 1 (a + 1) (fnR (snQ (rwAt h) a v)), .sl 2 0 noP], .v (.int .i64 1), .v (.int .i64 0), .v .nilIface])))
  | some (a, h), some (0, _), some (Int.ofNat 6), some (Int.ofNat 0), some (Int.ofNat 0) => .need (okB Int a h) (.need (inQ a) (.leaf (.tup [.agg [.v (.int .i64 3), .v (.int .i64 0), .sl 1 (predQ a) (fnR (tlQ (rwAt h))), .sl 2 0 noP], .i .i64 (deqQ a), .i .i64 (hdQ a (rwAt h)), .v .nilIface])))
  | _, _, _, _, _ => .fail
 | _ => .fail
noncomputable def Q41 : List Sh → Tree Sh
 | [.agg [t, u]] => match icode t, icode u with
  | some (Int.ofNat 3), some (Int.ofNat 0) => .leaf (.tup [.agg [.v (.int .i64 3), .v (.int .i64 0), .sl 1 0 noI, .sl 2 0 noP], .v .nilIface])
  | _, _ => .fail
 | _ => .fail
noncomputable def specQ : Nat → Option (List Sh → Tree Sh)
 | 40 => some F40
 | 41 => some Q41
 | 42 => some Q42
 | _ => none
def td9 : List It := [It.code [0, 1, 0, 1, 1, 1, 1], It.inBlock 0, It.code [1, 1, 1, 1, 1]]
def tb9 : List It := It.code [0, 0, 1, 0, 1, 1, 1, 1] :: td9
def td9b : List It := [It.code [0, 1, 0, 1, 1, 1, 1, 1], It.inBlock 2, It.code [1, 1, 1, 1, 1, 1]]
def tb9b : List It := It.code [0, 0, 1, 0, 1, 1, 1, 1, 1] :: td9b
def hp9 (c : Nat) (q : Nat → Int) : List (Nat × SB) := [(0, .box [.int .i64 3, .int .i64 0, .sh (.sl 1 c (fnR q)), .sh (.sl 2 0 noP)] 72)]
def LQ1 (n : Nat) (w : Nat → Int) (c : Nat) (q : Nat → Int) (i : Int) : Core := { tm := tmOf 124 [(0, .sh (.sl 1 n (fnR w))), (4, .ptr 0 0), (5, .nili), (6, .sym .i64 i)], hp := hp9 c q, nx := 1, lim := L0, tc := [] }
def LQ2 (n : Nat) (w : Nat → Int) (c : Nat) (q : Nat → Int) (i : Int) : Core := { tm := tmOf 124 [(0, .sh (.sl 1 n (fnR w))), (4, .ptr 0 0), (5, .nili), (11, .sym .i64 i)], hp := hp9 c q, nx := 1, lim := L0, tc := [] }
theorem a9 (A : Prim) (W : Wd) (n : Nat) (w : Nat → Int) (c' : Nat) (q' : Nat → Int) (i' : Int) : runTo (C7 A W specQ sAl) nH0 300 400 9 [.code []] (start0 124 [.sl 1 n (fnR w)] L0) [] [⟨9, td9, LQ1 n w c' q' i', []⟩] = node (A.lt (Int.ofNat 300) (A.ofN n)) (leaf (Fe2.ret (Sh.b true))) (leaf (Fe2.at_ 0 [Eqn.sh (Sh.sl 1 n (fnR w)) (Sh.sl 1 n (fnR w)), Eqn.int (Int.ofNat 0) i', Eqn.int (Int.ofNat 3) (Int.ofNat 3), Eqn.int (Int.ofNat 0) (Int.ofNat 0), Eqn.sh (Sh.sl 1 0 noI) (Sh.sl 1 c' (fnR q')), Eqn.sh (Sh.sl 2 0 noP) (Sh.sl 2 0 noP)])) := by kernel_rfl
theorem b9 (A : Prim) (W : Wd) (n : Nat) (w : Nat → Int) (c c' : Nat) (q q' : Nat → Int) (i i' j' : Int) : runTo (C7 A W specQ sAl) nH0 300 400 9 tb9 (LQ1 n w c q i) [] [⟨9, td9, LQ1 n w c' q' i', []⟩, ⟨9, td9b, LQ2 n w c q j', []⟩] = node (A.lt i (A.ofN n)) (need (A.inB i n) (node (A.lt (w (A.toN i)) (Int.negSucc 999999999)) (leaf (Fe2.ret (Sh.b true))) (need (A.inB i n) (node (A.lt (Int.ofNat 1000000000) (w (A.toN i))) (leaf (Fe2.ret (Sh.b true))) (need (A.inB i n) (need (okB Int c (fnR q)) (need (fitQ c (w (A.toN i))) (need (okB Int c (fnR q)) (need (fitQ c (w (A.toN i))) (must [Eqn.sh (Sh.sl 1 n (fnR w)) (Sh.sl 1 n (fnR w)), Eqn.int i i, Eqn.sh (Sh.sl 1 c (fnR q)) (Sh.sl 1 c (fnR q)), Eqn.sh (Sh.sl 2 0 noP) (Sh.sl 2 0 noP), Eqn.sh (Sh.sl 1 c.succ (fnR (snQ (rwAt (fnR q)) c (w (A.toN i))))) (Sh.sl 1 c.succ (fnR (snQ (rwAt (fnR q)) c (w (A.toN i))))), Eqn.sh (Sh.sl 2 0 noP) (Sh.sl 2 0 noP)] (node (A.nt (A.eq (A.ofN c.succ) (A.add .i64 i (Int.ofNat 1)))) (leaf (Fe2.ret (Sh.b false))) (leaf (Fe2.at_ 0 [Eqn.sh (Sh.sl 1 n (fnR w)) (Sh.sl 1 n (fnR w)), Eqn.int (A.add .i64 i (Int.ofNat 1)) i', Eqn.int (Int.ofNat 3) (Int.ofNat 3), Eqn.int (Int.ofNat 0) (Int.ofNat 0), Eqn.sh (Sh.sl 1 c.succ (fnR (snQ (rwAt (fnR q)) c (w (A.toN i))))) (Sh.sl 1 c' (fnR q')), Eqn.sh (Sh.sl 2 0 noP) (Sh.sl 2 0 noP)]))))))))))))) (leaf (Fe2.at_ 1 [Eqn.sh (Sh.sl 1 n (fnR w)) (Sh.sl 1 n (fnR w)), Eqn.int (Int.ofNat 0) j', Eqn.int (Int.ofNat 3) (Int.ofNat 3), Eqn.int (Int.ofNat 0) (Int.ofNat 0), Eqn.sh (Sh.sl 1 c (fnR q)) (Sh.sl 1 c (fnR q)), Eqn.sh (Sh.sl 2 0 noP) (Sh.sl 2 0 noP)])) := by kernel_rfl
theorem c9 (A : Prim) (W : Wd) (n : Nat) (w : Nat → Int) (c c' : Nat) (q q' : Nat → Int) (i i' : Int) : runTo (C7 A W specQ sAl) nH0 300 400 9 tb9b (LQ2 n w c q i) [] [⟨9, td9b, LQ2 n w c' q' i', []⟩] = node (A.le i (A.ofN n)) (need (okB Int c (fnR q)) (need (inQ c) (node (A.eq i (A.ofN n)) (node (A.nt (A.eq (deqQ c) (Int.ofNat 2))) (leaf (Fe2.ret (Sh.b false))) (node (A.nt (A.eq i (A.ofN n))) (node (A.nt (A.eq (deqQ c) (Int.ofNat 3))) (leaf (Fe2.ret (Sh.b false))) (need (A.inB i n) (node (A.nt (A.eq (hdQ c (rwAt (fnR q))) (w (A.toN i)))) (leaf (Fe2.ret (Sh.b false))) (leaf (Fe2.at_ 0 [Eqn.sh (Sh.sl 1 n (fnR w)) (Sh.sl 1 n (fnR w)), Eqn.int (A.add .i64 i (Int.ofNat 1)) i', Eqn.int (Int.ofNat 3) (Int.ofNat 3), Eqn.int (Int.ofNat 0) (Int.ofNat 0), Eqn.sh (Sh.sl 1 (predQ c) (fnR (tlQ (rwAt (fnR q))))) (Sh.sl 1 c' (fnR q')), Eqn.sh (Sh.sl 2 0 noP) (Sh.sl 2 0 noP)]))))) (leaf (Fe2.at_ 0 [Eqn.sh (Sh.sl 1 n (fnR w)) (Sh.sl 1 n (fnR w)), Eqn.int (A.add .i64 i (Int.ofNat 1)) i', Eqn.int (Int.ofNat 3) (Int.ofNat 3), Eqn.int (Int.ofNat 0) (Int.ofNat 0), Eqn.sh (Sh.sl 1 (predQ c) (fnR (tlQ (rwAt (fnR q))))) (Sh.sl 1 c' (fnR q')), Eqn.sh (Sh.sl 2 0 noP) (Sh.sl 2 0 noP)])))) (node (A.nt (A.eq i (A.ofN n))) (node (A.nt (A.eq (deqQ c) (Int.ofNat 3))) (leaf (Fe2.ret (Sh.b false))) (need (A.inB i n) (node (A.nt (A.eq (hdQ c (rwAt (fnR q))) (w (A.toN i)))) (leaf (Fe2.ret (Sh.b false))) (leaf (Fe2.at_ 0 [Eqn.sh (Sh.sl 1 n (fnR w)) (Sh.sl 1 n (fnR w)), Eqn.int (A.add .i64 i (Int.ofNat 1)) i', Eqn.int (Int.ofNat 3) (Int.ofNat 3), Eqn.int (Int.ofNat 0) (Int.ofNat 0), Eqn.sh (Sh.sl 1 (predQ c) (fnR (tlQ (rwAt (fnR q))))) (Sh.sl 1 c' (fnR q')), Eqn.sh (Sh.sl 2 0 noP) (Sh.sl 2 0 noP)]))))) (leaf (Fe2.at_ 0 [Eqn.sh (Sh.sl 1 n (fnR w)) (Sh.sl 1 n (fnR w)), Eqn.int (A.add .i64 i (Int.ofNat 1)) i', Eqn.int (Int.ofNat 3) (Int.ofNat 3), Eqn.int (Int.ofNat 0) (Int.ofNat 0), Eqn.sh (Sh.sl 1 (predQ c) (fnR (tlQ (rwAt (fnR q))))) (Sh.sl 1 c' (fnR q')), Eqn.sh (Sh.sl 2 0 noP) (Sh.sl 2 0 noP)])))))) (leaf (Fe2.ret (Sh.b (A.eq (A.ofN c) (Int.ofNat 0))))) := by kernel_rfl
end Go.Proofs
namespace Go.Proofs
open Go.Sx.Tree
open Go Go.Sx Go.Pl
theorem all_a9 (A : Prim) (W : Wd) (n : Nat) (w : Nat → Int) (c' : Nat) (q' : Nat → Int) (i' : Int) {ψ : Fe2 → Prop} {c0 : Bool} (e0 : A.lt (Int.ofNat 300) (A.ofN n) = c0) (y1 : c0 = true → ψ (Fe2.ret (Sh.b true))) (y2 : c0 = false → ψ (Fe2.at_ 0 [Eqn.sh (Sh.sl 1 n (fnR w)) (Sh.sl 1 n (fnR w)), Eqn.int (Int.ofNat 0) i', Eqn.int (Int.ofNat 3) (Int.ofNat 3), Eqn.int (Int.ofNat 0) (Int.ofNat 0), Eqn.sh (Sh.sl 1 0 noI) (Sh.sl 1 c' (fnR q')), Eqn.sh (Sh.sl 2 0 noP) (Sh.sl 2 0 noP)])) : MeetsT ψ (runTo (C7 A W specQ sAl) nH0 300 400 9 [.code []] (start0 124 [.sl 1 n (fnR w)] L0) [] [⟨9, td9, LQ1 n w c' q' i', []⟩]) := by
 subst e0
 rw [a9 A W n w c' q' i', meetsT_eq]
 exact ⟨fun q0 => (y1 q0), fun q0 => (y2 q0)⟩
theorem all_b9 (A : Prim) (W : Wd) (n : Nat) (w : Nat → Int) (c c' : Nat) (q q' : Nat → Int) (i i' j' : Int) {ψ : Fe2 → Prop} {c0 c1 c2 c3 : Bool} (e0 : A.lt i (A.ofN n) = c0) (e1 : A.lt (w (A.toN i)) (Int.negSucc 999999999) = c1) (e2 : A.lt (Int.ofNat 1000000000) (w (A.toN i)) = c2) (e3 : A.nt (A.eq (A.ofN c.succ) (A.add .i64 i (Int.ofNat 1))) = c3) (h1 : c0 = true → (A.inB i n) = true) (h2 : c0 = true → c1 = false → c2 = false → (okB Int c (fnR q)) = true) (h3 : c0 = true → c1 = false → c2 = false → (fitQ c (w (A.toN i))) = true) (y1 : c0 = true → c1 = true → ψ (Fe2.ret (Sh.b true))) (y2 : c0 = true → c1 = false → c2 = true → ψ (Fe2.ret (Sh.b true))) (y3 : c0 = true → c1 = false → c2 = false → c3 = true → ψ (Fe2.ret (Sh.b false))) (y4 : c0 = true → c1 = false → c2 = false → c3 = false → ψ (Fe2.at_ 0 [Eqn.sh (Sh.sl 1 n (fnR w)) (Sh.sl 1 n (fnR w)), Eqn.int (A.add .i64 i (Int.ofNat 1)) i', Eqn.int (Int.ofNat 3) (Int.ofNat 3), Eqn.int (Int.ofNat 0) (Int.ofNat 0), Eqn.sh (Sh.sl 1 c.succ (fnR (snQ (rwAt (fnR q)) c (w (A.toN i))))) (Sh.sl 1 c' (fnR q')), Eqn.sh (Sh.sl 2 0 noP) (Sh.sl 2 0 noP)])) (y5 : c0 = false → ψ (Fe2.at_ 1 [Eqn.sh (Sh.sl 1 n (fnR w)) (Sh.sl 1 n (fnR w)), Eqn.int (Int.ofNat 0) j', Eqn.int (Int.ofNat 3) (Int.ofNat 3), Eqn.int (Int.ofNat 0) (Int.ofNat 0), Eqn.sh (Sh.sl 1 c (fnR q)) (Sh.sl 1 c (fnR q)), Eqn.sh (Sh.sl 2 0 noP) (Sh.sl 2 0 noP)])) : MeetsT ψ (runTo (C7 A W specQ sAl) nH0 300 400 9 tb9 (LQ1 n w c q i) [] [⟨9, td9, LQ1 n w c' q' i', []⟩, ⟨9, td9b, LQ2 n w c q j', []⟩]) := by
 subst e0 e1 e2 e3
 rw [b9 A W n w c c' q q' i i' j', meetsT_eq]
 exact ⟨fun q0 => ⟨(h1 q0), ⟨fun q1 => (y1 q0 q1), fun q1 => ⟨(h1 q0), ⟨fun q2 => (y2 q0 q1 q2), fun q2 => ⟨(h1 q0), ⟨(h2 q0 q1 q2), ⟨(h3 q0 q1 q2), ⟨(h2 q0 q1 q2), ⟨(h3 q0 q1 q2), ⟨⟨rfl, rfl, rfl, rfl, rfl, rfl, trivial⟩, ⟨fun q3 => (y3 q0 q1 q2 q3), fun q3 => (y4 q0 q1 q2 q3)⟩⟩⟩⟩⟩⟩⟩⟩⟩⟩⟩, fun q0 => (y5 q0)⟩
theorem all_c9 (A : Prim) (W : Wd) (n : Nat) (w : Nat → Int) (c c' : Nat) (q q' : Nat → Int) (i i' : Int) {ψ : Fe2 → Prop} {c0 c1 c2 c3 c4 c5 : Bool} (e0 : A.le i (A.ofN n) = c0) (e1 : A.eq i (A.ofN n) = c1) (e2 : A.nt (A.eq (deqQ c) (Int.ofNat 2)) = c2) (e3 : A.nt (A.eq i (A.ofN n)) = c3) (e4 : A.nt (A.eq (deqQ c) (Int.ofNat 3)) = c4) (e5 : A.nt (A.eq (hdQ c (rwAt (fnR q))) (w (A.toN i))) = c5) (h1 : c0 = true → (okB Int c (fnR q)) = true) (h2 : c0 = true → (inQ c) = true) (h3 : c0 = true → c1 = true → c2 = false → c3 = true → c4 = false → (A.inB i n) = true) (h4 : c0 = true → c1 = false → c3 = true → c4 = false → (A.inB i n) = true) (y1 : c0 = true → c1 = true → c2 = true → ψ (Fe2.ret (Sh.b false))) (y2 : c0 = true → c1 = true → c2 = false → c3 = true → c4 = true → ψ (Fe2.ret (Sh.b false))) (y3 : c0 = true → c1 = true → c2 = false → c3 = true → c4 = false → c5 = true → ψ (Fe2.ret (Sh.b false))) (y4 : c0 = true → c1 = true → c2 = false → c3 = true → c4 = false → c5 = false → ψ (Fe2.at_ 0 [Eqn.sh (Sh.sl 1 n (fnR w)) (Sh.sl 1 n (fnR w)), Eqn.int (A.add .i64 i (Int.ofNat 1)) i', Eqn.int (Int.ofNat 3) (Int.ofNat 3), Eqn.int (Int.ofNat 0) (Int.ofNat 0), Eqn.sh (Sh.sl 1 (predQ c) (fnR (tlQ (rwAt (fnR q))))) (Sh.sl 1 c' (fnR q')), Eqn.sh (Sh.sl 2 0 noP) (Sh.sl 2 0 noP)])) (y5 : c0 = true → c1 = true → c2 = false → c3 = false → ψ (Fe2.at_ 0 [Eqn.sh (Sh.sl 1 n (fnR w)) (Sh.sl 1 n (fnR w)), Eqn.int (A.add .i64 i (Int.ofNat 1)) i', Eqn.int (Int.ofNat 3) (Int.ofNat 3), Eqn.int (Int.ofNat 0) (Int.ofNat 0), Eqn.sh (Sh.sl 1 (predQ c) (fnR (tlQ (rwAt (fnR q))))) (Sh.sl 1 c' (fnR q')), Eqn.sh (Sh.sl 2 0 noP) (Sh.sl 2 0 noP)])) (y6 : c0 = true → c1 = false → c3 = true → c4 = true → ψ (Fe2.ret (Sh.b false))) (y7 : c0 = true → c1 = false → c3 = true → c4 = false → c5 = true → ψ (Fe2.ret (Sh.b false))) (y8 : c0 = true → c1 = false → c3 = true → c4 = false → c5 = false → ψ (Fe2.at_ 0 [Eqn.sh (Sh.sl 1 n (fnR w)) (Sh.sl 1 n (fnR w)), Eqn.int (A.add .i64 i (Int.ofNat 1)) i', Eqn.int (Int.ofNat 3) (Int.ofNat 3), Eqn.int (Int.ofNat 0) (Int.ofNat 0), Eqn.sh (Sh.sl 1 (predQ c) (fnR (tlQ (rwAt (fnR q))))) (Sh.sl 1 c' (fnR q')), Eqn.sh (Sh.sl 2 0 noP) (Sh.sl 2 0 noP)])) (y9 : c0 = true → c1 = false → c3 = false → ψ (Fe2.at_ 0 [Eqn.sh (Sh.sl 1 n (fnR w)) (Sh.sl 1 n (fnR w)), Eqn.int (A.add .i64 i (Int.ofNat 1)) i', Eqn.int (Int.ofNat 3) (Int.ofNat 3), Eqn.int (Int.ofNat 0) (Int.ofNat 0), Eqn.sh (Sh.sl 1 (predQ c) (fnR (tlQ (rwAt (fnR q))))) (Sh.sl 1 c' (fnR q')), Eqn.sh (Sh.sl 2 0 noP) (Sh.sl 2 0 noP)])) (y10 : c0 = false → ψ (Fe2.ret (Sh.b (A.eq (A.ofN c) (Int.ofNat 0))))) : MeetsT ψ (runTo (C7 A W specQ sAl) nH0 300 400 9 tb9b (LQ2 n w c q i) [] [⟨9, td9b, LQ2 n w c' q' i', []⟩]) := by
 subst e0 e1 e2 e3 e4 e5
 rw [c9 A W n w c c' q q' i i', meetsT_eq]
 exact ⟨fun q0 => ⟨(h1 q0), ⟨(h2 q0), ⟨fun q1 => ⟨fun q2 => (y1 q0 q1 q2), fun q2 => ⟨fun q3 => ⟨fun q4 => (y2 q0 q1 q2 q3 q4), fun q4 => ⟨(h3 q0 q1 q2 q3 q4), ⟨fun q5 => (y3 q0 q1 q2 q3 q4 q5), fun q5 => (y4 q0 q1 q2 q3 q4 q5)⟩⟩⟩, fun q3 => (y5 q0 q1 q2 q3)⟩⟩, fun q1 => ⟨fun q2 => ⟨fun q3 => (y6 q0 q1 q2 q3), fun q3 => ⟨(h4 q0 q1 q2 q3), ⟨fun q4 => (y7 q0 q1 q2 q3 q4), fun q4 => (y8 q0 q1 q2 q3 q4)⟩⟩⟩, fun q2 => (y9 q0 q1 q2)⟩⟩⟩⟩, fun q0 => (y10 q0)⟩
end Go.Proofs
namespace Go.Proofs
open Go Go.Sx Go.Pl
theorem res_q4 {H H' : Mem} {w w' : World} {v : Value} {X Y Z : Sh} {a b r g : Int} (h : SpecRes H w (.tup [.agg [.i .i64 a, .i .i64 b, X, Y], .i .i64 r, .i .i64 g, Z]) v H' w') : SpecRes H w (.tup [.agg [.v (.int .i64 a), .v (.int .i64 b), X, Y], .v (.int .i64 r), .v (.int .i64 g), Z]) v H' w' :=
 ⟨h.Hle, h.on, h.os, h.tape, h.output, h.size, h.old, h.fresh, fun b0 => by
  obtain ⟨E1, a1, a2, ⟨⟨vs⟩, e, hd⟩, a4⟩ := h.res b0
  refine ⟨E1, a1, a2, ⟨⟨vs⟩, e, ?_⟩, a4⟩
  match vs, hd with
  | [x, y, z, u], ⟨h1, h2, h3, h4, _⟩ =>
   obtain ⟨⟨us⟩, e2, hd2⟩ := h1
   refine ⟨⟨⟨us⟩, e2, ?_⟩, h2, h3, h4, trivial⟩
   match us, hd2 with
   | [p, q, m, n], ⟨k1, k2, k3, k4, _⟩ => exact ⟨k1, k2, k3, k4, trivial⟩⟩
theorem res_q2 {H H' : Mem} {w w' : World} {v : Value} {X Y Z R G : Sh} {a b : Int} (h : SpecRes H w (.tup [.agg [.i .i64 a, .i .i64 b, X, Y], R, G, Z]) v H' w') : SpecRes H w (.tup [.agg [.v (.int .i64 a), .v (.int .i64 b), X, Y], R, G, Z]) v H' w' :=
 ⟨h.Hle, h.on, h.os, h.tape, h.output, h.size, h.old, h.fresh, fun b0 => by
  obtain ⟨E1, a1, a2, ⟨⟨vs⟩, e, hd⟩, a4⟩ := h.res b0
  refine ⟨E1, a1, a2, ⟨⟨vs⟩, e, ?_⟩, a4⟩
  match vs, hd with
  | [x, y, z, u], ⟨h1, h2, h3, h4, _⟩ =>
   obtain ⟨⟨us⟩, e2, hd2⟩ := h1
   refine ⟨⟨⟨us⟩, e2, ?_⟩, h2, h3, h4, trivial⟩
   match us, hd2 with
   | [p, q, m, n], ⟨k1, k2, k3, k4, _⟩ => exact ⟨k1, k2, k3, k4, trivial⟩⟩
theorem res_q1 {H H' : Mem} {w w' : World} {v : Value} {X Y Z : Sh} {a b : Int} (h : SpecRes H w (.tup [.agg [.i .i64 a, .i .i64 b, X, Y], Z]) v H' w') : SpecRes H w (.tup [.agg [.v (.int .i64 a), .v (.int .i64 b), X, Y], Z]) v H' w' :=
 ⟨h.Hle, h.on, h.os, h.tape, h.output, h.size, h.old, h.fresh, fun b0 => by
  obtain ⟨E1, a1, a2, ⟨⟨vs⟩, e, hd⟩, a4⟩ := h.res b0
  refine ⟨E1, a1, a2, ⟨⟨vs⟩, e, ?_⟩, a4⟩
  match vs, hd with
  | [x, u], ⟨h1, h4, _⟩ =>
   obtain ⟨⟨us⟩, e2, hd2⟩ := h1
   refine ⟨⟨⟨us⟩, e2, ?_⟩, h4, trivial⟩
   match us, hd2 with
   | [p, q, m, n], ⟨k1, k2, k3, k4, _⟩ => exact ⟨k1, k2, k3, k4, trivial⟩⟩
theorem nth_snQ {a : Nat} {h : Nat → List Sh} {v : Int} : ∀ i, i < a + 1 → fnR (nth (lst Int a h ++ [v])) i = fnR (snQ (rwAt h) a v) i := fun i hi => by
 show [Sh.i .i64 (nth (lst Int a h ++ [v]) i)] = [Sh.i .i64 (if i < a then rwAt h i else v)]
 have hl : (lst Int a h).length = a := by simp [lst]
 by_cases q : i < a
 ·rw [if_pos q]
  have : nth (lst Int a h ++ [v]) i = rwAt h i := by
   have := nth_lst (α := Int) (g := h) q
   rw [← this]
   unfold nth
   rw [List.getD_eq_getElem?_getD, List.getD_eq_getElem?_getD, List.getElem?_append_left (by omega)]
  rw [this]
 ·have : i = a := by omega
  subst this
  rw [if_neg q]
  have : nth (lst Int i h ++ [v]) i = v := by
   unfold nth
   rw [List.getD_eq_getElem?_getD, List.getElem?_append_right (by omega), hl, Nat.sub_self]
   rfl
  rw [this]
theorem nth_tlQ {a : Nat} {h : Nat → List Sh} : ∀ i, i < a - 1 → fnR (nth (lst Int a h).tail) i = fnR (tlQ (rwAt h)) i := fun i hi => by
 show [Sh.i .i64 (nth (lst Int a h).tail i)] = [Sh.i .i64 (rwAt h (i + 1))]
 have := nth_lst (α := Int) (g := h) (i := i + 1) (n := a) (by omega)
 have e : nth (lst Int a h).tail i = nth (lst Int a h) (i + 1) := by
  unfold nth
  rw [List.getD_eq_getElem?_getD, List.getD_eq_getElem?_getD, List.getElem?_tail]
 rw [e, this]
theorem lst_hd {a : Nat} {h : Nat → List Sh} : (lst Int a h).headD 0 = hdQ a (rwAt h) := by
 unfold hdQ
 cases a with
 | zero => rfl
 | succ a =>
  rw [if_neg (by omega)]
  have := nth_lst (α := Int) (g := h) (i := 0) (n := a + 1) (by omega)
  rw [← this]
  unfold nth
  cases lst Int (a + 1) h <;> rfl
theorem OQ42 : FnOK Tryz.prog (gls7 W7) 42 Q42 := by
 intro H w shs args φ hon hg hr h
 unfold Q42 at h
 split at h
 ·rename_i s2 s3 t u v
  split at h
  ·rename_i a g l v e1 e2 e3 e4 e5
   obtain ⟨h1, h2, hφ⟩ := h
   have h2 : (_ && _) = true := h2
   rw [Bool.and_eq_true] at h2
   have hv := of_decide_eq_true h2.2
   have hbad : badKV 3 0 5 0 v = false := by
    unfold badKV beyondB keyed valued
    simp; omega
   have hl : (lst Int a g).length = a := by simp [lst]
   refine (O42 H w _ args (fun s => s = .tup [.agg (staS (opT ⟨3, 0, lst Int a g, lst Pr 0 l⟩ 5 0 v).1), .i .i64 1, .i .i64 0, .v .nilIface]) hon hg hr ?_).mono fun e w' ⟨v', s, H', he, hs, r⟩ => ?_
   ·unfold F42
    simp only [e1, e2, e3, e4, e5]
    exact ⟨h1, rfl, h2.1, ⟨fun q => (Bool.false_ne_true q).elim, fun _ => ⟨fun q => no2 hbad q, fun _ => ⟨rfl, rfl⟩⟩⟩⟩
   ·subst hs
    obtain ⟨H2, r2⟩ := (res_q4 r).wk (s' := .tup [.agg [.v (.int .i64 3), .v (.int .i64 0), .sl 1 (a + 1) (fnR (snQ (rwAt g) a v)), .sl 2 0 noP], .v (.int .i64 1), .v (.int .i64 0), .v .nilIface]) ⟨⟨rfl, rfl, .inr ⟨rfl, by show (lst Int a g ++ [v]).length = a + 1; simp [hl], fun i hi => nth_snQ i (by have hi : i < (lst Int a g ++ [v]).length := hi; simp [hl] at hi; exact hi)⟩, .inl ⟨rfl, rfl⟩, trivial⟩, rfl, rfl, rfl, trivial⟩
    exact ⟨v', _, H2, he, hφ, r2⟩
  ·rename_i a g l e1 e2 e3 e4 e5
   obtain ⟨h1, h2, hφ⟩ := h
   have hl : (lst Int a g).length = a := by simp [lst]
   refine (O42 H w _ args (fun s => s = .tup [.agg (staS (opT ⟨3, 0, lst Int a g, lst Pr 0 l⟩ 6 0 0).1), .i .i64 (opT ⟨3, 0, lst Int a g, lst Pr 0 l⟩ 6 0 0).2.1, .i .i64 (opT ⟨3, 0, lst Int a g, lst Pr 0 l⟩ 6 0 0).2.2, .v .nilIface]) hon hg hr ?_).mono fun e w' ⟨v', s, H', he, hs, r⟩ => ?_
   ·unfold F42
    simp only [e1, e2, e3, e4, e5]
    exact ⟨h1, rfl, h2, ⟨fun q => (Bool.false_ne_true q).elim, fun _ => ⟨fun q => (Bool.false_ne_true q).elim, fun _ => ⟨rfl, rfl⟩⟩⟩⟩
   ·subst hs
    obtain ⟨H2, r2⟩ := (res_q2 r).wk (s' := .tup [.agg [.v (.int .i64 3), .v (.int .i64 0), .sl 1 (predQ a) (fnR (tlQ (rwAt g))), .sl 2 0 noP], .i .i64 (deqQ a), .i .i64 (hdQ a (rwAt g)), .v .nilIface]) ⟨⟨rfl, rfl, .inr ⟨rfl, by show (lst Int a g).tail.length = a - 1; simp [hl], fun i hi => nth_tlQ i (by have hi : i < (lst Int a g).tail.length := hi; simp [hl] at hi; exact hi)⟩, .inl ⟨rfl, rfl⟩, trivial⟩, by show Sh.i .i64 (deqR (lst Int a g).length) = _; rw [hl]; rfl, by show Sh.i .i64 ((lst Int a g).headD 0) = _; rw [lst_hd], rfl, trivial⟩
    exact ⟨v', _, H2, he, hφ, r2⟩
  ·exact h.elim
 ·exact h.elim
theorem OQ41 : FnOK Tryz.prog (gls7 W7) 41 Q41 := by
 intro H w shs args φ hon hg hr h
 unfold Q41 at h
 split at h
 ·rename_i t u
  split at h
  ·rename_i e1 e2
   match args, hr with
   | [v], ⟨r, _⟩ =>
    have r' : Rep H (.agg [.i .i64 3, .i .i64 0]) v := by
     cases r with
     | agg _ vs hl hr =>
      refine .agg _ _ hl fun j s' v' h1 h2 => ?_
      match j, h1 with
      | 0, h1 => cases h1; exact rep_num e1 (hr 0 _ _ rfl h2)
      | 1, h1 => cases h1; exact rep_num e2 (hr 1 _ _ rfl h2)
      | j + 2, h1 => cases h1
    refine (O41 H w [.agg [.i .i64 3, .i .i64 0]] [v] (fun s => s = .tup [.agg [.i .i64 3, .i .i64 0, .sl 1 0 noI, .sl 2 0 noP], .v .nilIface]) hon hg ⟨r', trivial⟩ ⟨rfl, ⟨fun q => (Bool.false_ne_true q).elim, fun _ => rfl⟩⟩).mono fun e w' ⟨v', s, H', he, hs, r⟩ => ?_
    subst hs
    exact ⟨v', _, H', he, h, res_q1 r⟩
  ·exact h.elim
 ·exact h.elim
theorem fokQ (stop : Nat → List Nat → Bool) : FnsOK Tryz.prog (C7 prim W7 specQ stop) := C7.fok (fun g F h => by
 unfold specQ at h
 split at h
 ·cases h; exact O40
 ·cases h; exact OQ41
 ·cases h; exact OQ42
 ·cases h) fun g h => by
 unfold specQ at h
 split at h
 all_goals first | (cases h; done) | kernel_rfl
section
variable {H0 : Mem} {w0 : World} {φ : Sh → Prop} {n : Nat} {w : Nat → Int}
theorem loop9b (hn : n ≤ 300) (hφ : φ (.b true)) : ∀ r i c q, i + r = n + 1 → c = n - i → (∀ j, j < c → q j = w (i + j)) → GoesS Tryz.prog (C7 prim W7 specQ sAl) (K0 H0 w0) 9 td9b (LQ2 n w c q (i : Nat)) [] emp φ
 | r, i, c, q, hi, hc, hq => by
  refine gSi (fn := Tryz.f9) (tb := tb9b) (by kernel_rfl) (by kernel_rfl) ?_
  refine gSt (C7.ok _ _) (fokQ _) (hold := nH0) (m := 300) (n := 400) (ts := [⟨9, td9b, LQ2 n w (predQ c) (tlQ q) ((i + 1 : Nat) : Int), []⟩]) ?_
  have nx (h : i ≤ n) : GoesS Tryz.prog (C7 prim W7 specQ sAl) (K0 H0 w0) 9 td9b (LQ2 n w (predQ c) (tlQ q) ((i + 1 : Nat) : Int)) [] emp φ := by
   match r, hi with
   | 0, hi => omega
   | r + 1, hi =>
    refine loop9b hn hφ r (i + 1) _ _ (by omega) (by unfold predQ; omega) fun j hj => ?_
    unfold predQ at hj
    show q (j + 1) = _
    rw [hq (j + 1) (by omega)]
    congr 1; omega
  have w1 : prim.add .i64 (i : Int) (Int.ofNat 1) = ((i + 1 : Nat) : Int) := add1 (by omega)
  have le (h : prim.le (i : Int) (prim.ofN n) = true) : i ≤ n := by simp [prim_le, prim_ofN] at h; omega
  refine all_c9 prim W7 n w c _ q _ i _ rfl rfl rfl rfl rfl rfl (fun _ => okB_put _ _) (fun _ => room_le (by omega) (by omega)) ?_ ?_ ?_ ?_ ?_ ?_ ?_ ?_ ?_ ?_ ?_ ?_
  ·intro q0 q1 q2 q3 q4
   rw [show prim.eq (i : Int) (prim.ofN n) = true from q1] at q3; cases q3
  ·intro q0 q1 q3 q4
   have := le q0
   have : ¬ i = n := fun e => by subst e; simp [prim_eq, prim_ofN] at q1
   simp [prim_inB]; omega
  ·intro q0 q1 q2
   have : i = n := by simp [prim_eq, prim_ofN] at q1; omega
   have : c = 0 := by omega
   subst this
   cases q2
  ·intro q0 q1 q2 q3; rw [show prim.eq (i : Int) (prim.ofN n) = true from q1] at q3; cases q3
  ·intro q0 q1 q2 q3; rw [show prim.eq (i : Int) (prim.ofN n) = true from q1] at q3; cases q3
  ·intro q0 q1 q2 q3; rw [show prim.eq (i : Int) (prim.ofN n) = true from q1] at q3; cases q3
  ·intro q0 q1 q2 q3
   exact ⟨⟨rfl, w1, rfl, rfl, rfl, rfl, trivial⟩, _, rfl, nx (le q0)⟩
  ·intro q0 q1 q3 q4
   have := le q0
   have hne : ¬ i = n := fun e => by subst e; simp [prim_eq, prim_ofN] at q1
   have : ¬ c = 0 := by omega
   unfold deqQ at q4
   rw [if_neg this] at q4
   cases q4
  ·intro q0 q1 q3 q4 q5
   have := le q0
   have hne : ¬ i = n := fun e => by subst e; simp [prim_eq, prim_ofN] at q1
   have hc0 : ¬ c = 0 := by omega
   have e : hdQ c (rwAt (fnR q)) = w (prim.toN (i : Int)) := by
    unfold hdQ
    rw [if_neg hc0, rwAt_fnR, hq 0 (by omega)]
    rfl
   rw [e] at q5
   simp [prim_nt, prim_eq] at q5
  ·intro q0 q1 q3 q4 q5
   exact ⟨⟨rfl, w1, rfl, rfl, rfl, rfl, trivial⟩, _, rfl, nx (le q0)⟩
  ·intro q0 q1 q3
   rw [show prim.eq (i : Int) (prim.ofN n) = false from q1] at q3; cases q3
  ·intro q0
   have : ¬ i ≤ n := fun h => by simp [prim_le, prim_ofN] at q0; omega
   have : c = 0 := by omega
   subst this
   exact hφ
theorem loop9 (hn : n ≤ 300) (hφ : φ (.b true)) : ∀ r i q, i + r = n → (∀ j, j < i → q j = w j) → GoesS Tryz.prog (C7 prim W7 specQ sAl) (K0 H0 w0) 9 td9 (LQ1 n w i q (i : Nat)) [] emp φ
 | r, i, q, hi, hq => by
  refine gSi (fn := Tryz.f9) (tb := tb9) (by kernel_rfl) (by kernel_rfl) ?_
  refine gSt (C7.ok _ _) (fokQ _) (hold := nH0) (m := 300) (n := 400) (ts := [⟨9, td9, LQ1 n w (i + 1) (snQ (rwAt (fnR q)) i (w (prim.toN (i : Int)))) ((i + 1 : Nat) : Int), []⟩, ⟨9, td9b, LQ2 n w i q ((0 : Nat) : Int), []⟩]) ?_
  have w1 : prim.add .i64 (i : Int) (Int.ofNat 1) = ((i + 1 : Nat) : Int) := add1 (by omega)
  have lt (h : prim.lt (i : Int) (prim.ofN n) = true) : i < n := by simp [prim_lt, prim_ofN] at h; omega
  refine all_b9 prim W7 n w i (i + 1) q _ i _ _ rfl rfl rfl rfl ?_ (fun _ _ _ => okB_put _ _) ?_ (fun _ _ => hφ) (fun _ _ _ => hφ) ?_ ?_ ?_
  ·intro q0
   have := lt q0
   simp [prim_inB]; omega
  ·intro q0 q1 q2
   have := lt q0
   simp [prim_lt] at q1 q2
   unfold fitQ inQ
   rw [Bool.and_eq_true]
   refine ⟨room_le (by omega) (by omega), decide_eq_true ⟨?_, ?_⟩⟩ <;> omega
  ·intro q0 q1 q2 q3
   rw [w1] at q3
   simp [prim_nt, prim_eq, prim_ofN] at q3
  ·intro q0 q1 q2 q3
   have hlt := lt q0
   refine ⟨⟨rfl, w1, rfl, rfl, rfl, rfl, trivial⟩, _, rfl, ?_⟩
   match r, hi with
   | 0, hi => omega
   | r + 1, hi =>
    refine loop9 hn hφ r (i + 1) _ (by omega) fun j hj => ?_
    show (if j < i then rwAt (fnR q) j else w (prim.toN (i : Int))) = w j
    by_cases h : j < i
    ·rw [if_pos h, rwAt_fnR]; exact hq j h
    ·rw [if_neg h]
     have : j = i := by omega
     subst this; rfl
  ·intro q0
   have : i = n := by simp [prim_lt, prim_ofN] at q0; omega
   subst this
   exact ⟨⟨rfl, rfl, rfl, rfl, rfl, rfl, trivial⟩, _, rfl, loop9b hn hφ (i + 1) 0 i q (by omega) (by omega) fun j hj => by rw [hq j hj, Nat.zero_add]⟩
end
def F9 : List Sh → Tree Sh
 | [.sl 1 n g] => .need (okB Int n g) (.leaf (.b true))
 | _ => .fail
theorem O9 : FnOK Tryz.prog (gls7 W7) 9 F9 := by
 refine fnOK_S (C := C7 prim W7 specQ sAl) (C7.ok _ _) (fn := Tryz.f9) (by kernel_rfl) (by kernel_rfl) fun H w shs args φ hrep h => ?_
 have hn : Tryz.f9.ntmps = 124 := by kernel_rfl
 unfold F9 at h
 split at h
 ·rename_i n g
  obtain ⟨h1, hφ⟩ := h
  match args, hrep with
  | [v], ⟨r, _⟩ =>
   refine ⟨[.sl 1 n (fnR (rwAt (α := Int) g))], ⟨rep_rows r h1, trivial⟩, L0, ?_⟩
   have hφ : φ (.b true) := hφ
   generalize rwAt (α := Int) g = w
   refine gSt (C7.ok _ _) (fokQ _) (hold := nH0) (m := 300) (n := 400) (ts := [⟨9, td9, LQ1 n w 0 (nth ([] : List Int)) ((0 : Nat) : Int), []⟩]) ?_
   rw [hn]
   exact all_a9 prim W7 n w 0 (nth ([] : List Int)) ((0 : Nat) : Int) rfl (fun _ => hφ) (fun q => ⟨⟨rfl, rfl, rfl, rfl, rfl, rfl, trivial⟩, _, rfl, loop9 (lt_f q) hφ n 0 _ (by omega) (fun j hj => by omega)⟩)
 ·exact h.elim
end Go.Proofs
namespace Go.Sx
open Go.RowKit Go.ChangeShapes Go.WideShapes Go.Deep
def memOf (w : World) : Mem := fun b => w.heap[b]?
theorem memOf_on (w : World) : (memOf w).on w := fun _ _ h => h
theorem hcell_memOf {w : World} {a : Addr} {v : Value} (h : w.cell? a = some v) : hcell (memOf w) a.block a.off = some v ∧ a.spot = none := by
 unfold World.cell? at h
 unfold hcell memOf
 split at h
 ·rename_i c t f hb
  rw [hb]
  cases hs : a.spot with
  | none => simp only [hs, Option.isSome_none, Bool.false_eq_true, if_false] at h; exact ⟨h, rfl⟩
  | some x => simp [hs] at h
 ·cases h
section
variable {H : Type} {enc : TypeId × Value → H} {P : Program} {w : World} {base : Nat} {spare : Nat → Bool} {held : Bool}
def flatB (P : Program) (fs : Array Field) (k : Nat) : Bool :=
 fs.size == k && (List.range k).all fun i => match fs[i]? with
  | some f => f.offset == i && (match P.underlying f.type with | some (.int .i64) => true | _ => false) && P.cellsOf f.type == 1
  | none => false
def rowB (P : Program) (e k : Nat) : Bool :=
 match P.underlying e with
 | some (.int .i64) => k == 1 && P.cellsOf e == 1
 | some (.struct fs) => flatB P fs k && P.cellsOf e == k
 | _ => false
def int64 (n : Int) : Prop := (Lit.int .i64 n).wf = true
theorem flat_cells {e k fuel : Nat} {cs : List Value} {x : DataW H × List MemPlace} (hr : rowB P e k = true) (h : DataW.trod enc P w base spare held fuel e cs = some x) :
  ∃ ns : List Int, ns.length = k ∧ cs = ns.map (Value.int .i64) ∧ ∀ n ∈ ns, int64 n := by
 unfold rowB at hr
 split at hr
 ·rename_i hu
  simp only [Bool.and_eq_true, beq_iff_eq] at hr
  obtain ⟨n, rfl, _, hw⟩ := DataW.trod_int hu h
  exact ⟨[n], hr.1.symm, rfl, fun m hm => by simp at hm; subst hm; exact hw⟩
 ·rename_i fs hu
  simp only [Bool.and_eq_true, beq_iff_eq] at hr
  obtain ⟨hf, hc⟩ := hr
  unfold flatB at hf
  simp only [Bool.and_eq_true, beq_iff_eq] at hf
  obtain ⟨hk, hf⟩ := hf
  obtain ⟨xs, m, _, _, hlen, hxs, hel⟩ := DataW.trod_struct hu h
  rw [hc] at hlen
  have cell : ∀ i, i < k → ∃ n, cs[i]? = some (.int .i64 n) ∧ int64 n := fun i hi => by
   have q := List.all_eq_true.1 hf i (List.mem_range.2 hi)
   split at q
   ·rename_i f hfi
    simp only [Bool.and_eq_true, beq_iff_eq] at q
    obtain ⟨⟨ho, ht⟩, h1⟩ := q
    have ht : P.underlying f.type = some (.int .i64) := by
     split at ht
     ·assumption
     ·cases ht
    have q2 := hel i f hfi
    rw [ho, h1] at q2
    have hxi : i < xs.length := by rw [hxs, hk]; exact hi
    rw [List.getElem?_eq_getElem hxi] at q2
    obtain ⟨n, e1, _, e3⟩ := DataW.trod_int ht q2
    refine ⟨n, ?_, e3⟩
    have : (List.take 1 (List.drop i cs))[0]? = some (.int .i64 n) := by rw [e1]; rfl
    simpa using this
   ·cases q
  clear hel h hf
  have : ∀ (j : Nat) (l : List Value), l.length = j → (∀ i, i < j → ∃ n, l[i]? = some (.int .i64 n) ∧ int64 n) → ∃ ns : List Int, ns.length = j ∧ l = ns.map (Value.int .i64) ∧ ∀ n ∈ ns, int64 n := by
   intro j
   induction j with
   | zero => intro l hl _; exact ⟨[], rfl, by simpa using hl, fun _ h => by simp at h⟩
   | succ j ih =>
    intro l hl hc
    match l, hl with
    | v :: l, hl =>
     obtain ⟨ns, h1, h2, h3⟩ := ih l (by simpa using hl) fun i hi => by simpa using hc (i + 1) (by omega)
     obtain ⟨n, q1, q2⟩ := hc 0 (by omega)
     simp at q1
     subst q1
     exact ⟨n :: ns, by simp [h1], by simp [h2], fun m hm => by
      rcases List.mem_cons.1 hm with rfl | hm
      ·exact q2
      ·exact h3 m hm⟩
  exact this k cs hlen cell
 ·cases hr
def shInts (ns : List Int) : List Sh := ns.map (Sh.i .i64)
theorem cells?_at {w : World} {base : Nat} {a : Addr} {n : Nat} {cs : List Value} (h : w.cells? base a n = some cs) : cs.length = n ∧ ∀ j, j < n → w.cell? (a.add j) = cs[j]? := by
 unfold World.cells? at h
 split at h
 ·have : ∀ (l : List Nat) (cs : List Value), l.mapM (fun i => w.cell? (a.add i)) = some cs → cs.length = l.length ∧ ∀ (j : Nat) (i : Nat), l[j]? = some i → w.cell? (a.add i) = cs[j]? := by
   intro l
   induction l with
   | nil => intro cs h; simp at h; subst h; exact ⟨rfl, fun j i e => by simp at e⟩
   | cons x l ih =>
    intro cs h
    rw [List.mapM_cons] at h
    simp only [Option.bind_eq_bind, Option.bind_eq_some_iff, Option.pure_def] at h
    obtain ⟨v, h1, vs, h2, h3⟩ := h
    cases h3
    obtain ⟨e1, e2⟩ := ih vs h2
    refine ⟨by simp [e1], fun j i e => ?_⟩
    match j, e with
    | 0, e => simp at e; subst e; simpa using h1
    | j + 1, e => simpa using e2 j i (by simpa using e)
  obtain ⟨e1, e2⟩ := this _ _ h
  rw [List.length_range] at e1
  exact ⟨e1, fun j hj => e2 j j (by simp [hj])⟩
 ·cases h
theorem add_off (a : Addr) (n : Nat) : (a.add n).off = a.off + n ∧ (a.add n).block = a.block := by
 unfold Addr.add
 split
 ·subst_vars; exact ⟨rfl, rfl⟩
 ·exact ⟨rfl, rfl⟩
theorem add_add' (a : Addr) (i j : Nat) : (a.add i).add j = a.add (i + j) := by
 unfold Addr.add
 by_cases hi : i = 0 <;> by_cases hj : j = 0 <;> simp [hi, hj, Nat.add_assoc]
theorem rep_rowsl {t e k fuel : Nat} {cs : List Value} {x : DataW H × List MemPlace} (ht : P.underlying t = some (.slice e)) (hr : rowB P e k = true) (hk : P.cellsOf e = k) (h0 : 0 < k)
  (h : DataW.trod enc P w base spare held fuel t cs = some x) :
  ∃ v n g, cs = [v] ∧ Rep (memOf w) (.sl k n g) v ∧ ∀ i, i < n → ∃ ns : List Int, ns.length = k ∧ g i = shInts ns ∧ ∀ n ∈ ns, int64 n := by
 rcases open_slice ht h with ⟨rfl, _⟩ | ⟨a, len, cap, m, n, D, Pl, rfl, hb, hl, hcap, hm, _, hel⟩
 ·exact ⟨_, 0, fun _ => [], rfl, .sl0 _ _ _ _ (Nat.zero_le _), fun i hi => by omega⟩
 have hlm : len ≤ m := by rw [hm]; split <;> omega
 rw [hk] at hel
 have row : ∀ i, i < len → ∃ ns : List Int, ns.length = k ∧ w.cells? base (a.add (i * k)) k = some (ns.map (Value.int .i64)) ∧ ∀ n ∈ ns, int64 n := fun i hi => by
  obtain ⟨cs', h1, h2⟩ := hel i (by omega)
  obtain ⟨ns, e1, rfl, e3⟩ := flat_cells hr h2
  exact ⟨ns, e1, h1, e3⟩
 by_cases hz : len = 0
 ·subst hz
  exact ⟨_, 0, fun _ => [], rfl, .sl0 _ _ _ _ hcap, fun i hi => by omega⟩
 let N : Nat → List Int := fun i => if h : i < len then (row i h).choose else []
 have hN : ∀ i, i < len → (N i).length = k ∧ w.cells? base (a.add (i * k)) k = some ((N i).map (Value.int .i64)) ∧ ∀ n ∈ N i, int64 n := fun i hi => by
  simp only [N, dif_pos hi]
  exact (row i hi).choose_spec
 have cell : ∀ i j, i < len → j < k → w.cell? (a.add (i * k + j)) = ((N i).map (Value.int .i64))[j]? := fun i j hi hj => by
  have := (cells?_at (hN i hi).2.1).2 j hj
  rwa [add_add'] at this
 have hspot : a.spot = none := by
  have h1 := cell 0 0 (by omega) h0
  have : ∃ v, w.cell? a = some v := by
   have hl0 := (hN 0 (by omega)).1
   match hq : N 0 with
   | [] => rw [hq] at hl0; simp at hl0; omega
   | x :: r =>
    rw [hq] at h1
    simp [Addr.add] at h1
    exact ⟨_, h1⟩
  obtain ⟨v, hv⟩ := this
  exact (hcell_memOf hv).2
 obtain ⟨blk, off, spot⟩ := a
 simp only at hspot
 subst hspot
 refine ⟨_, len, fun i => shInts (N i), rfl, .sl _ _ _ blk off cap (fun i j => ((N i).map (Value.int .i64)).getD j .nilFunc) hl hcap (fun i hi => by simp [shInts, (hN i hi).1]) (fun i j hi hj => ?_) (fun i j hi hj => ?_) (fun i j s hi e => ?_), fun i hi => ⟨N i, (hN i hi).1, rfl, (hN i hi).2.2⟩⟩
 ·have h1 := cell i j hi hj
  have hlt : j < ((N i).map (Value.int .i64)).length := by simpa [(hN i hi).1] using hj
  rw [List.getElem?_eq_getElem hlt] at h1
  have h2 := (hcell_memOf h1).1
  rw [(add_off _ _).1, (add_off _ _).2] at h2
  simp only [Nat.add_assoc] at h2 ⊢
  rw [h2, List.getD_eq_getElem?_getD, List.getElem?_eq_getElem hlt]; rfl
 ·have hlt : j < (N i).length := by rw [(hN i hi).1]; exact hj
  simp [List.getD_eq_getElem?_getD, hlt]; rfl
 ·simp only [shInts, List.getElem?_map, Option.map_eq_some_iff] at e
  obtain ⟨n, h3, rfl⟩ := e
  simp [List.getD_eq_getElem?_getD, h3]
  exact .i _ _
theorem rep_slice_arg {t e k : Nat} {v : Value} {d : DataW H} {ps : List MemPlace} (ht : P.underlying t = some (.slice e)) (hr : rowB P e k = true) (hk : P.cellsOf e = k) (h0 : 0 < k) {b0 : Nat} (hval : Value.okWide P w .any b0 t v) (hd : DataW.Trod enc P w base spare held t v d ps) :
  ∃ n g, Rep (memOf w) (.sl k n g) v ∧ ∀ i, i < n → ∃ ns : List Int, ns.length = k ∧ g i = shInts ns ∧ ∀ n ∈ ns, int64 n := by
 obtain ⟨fuel, hd⟩ := hd
 obtain ⟨u, n, g, h1, h2, h3⟩ := rep_rowsl ht hr hk h0 hd
 have : v = u := by
  unfold Value.okWide at hval
  rw [ht] at hval
  cases v <;> simp [Value.cells] at h1 <;> first | exact h1 | skip
  all_goals (unfold Cell.okWide at hval; simp [ht] at hval; try (simp [Cell.ok, ht] at hval))
 subst this
 exact ⟨n, g, h2, h3⟩
end
end Go.Sx
namespace Go.Sx
open Go.RowKit Go.ChangeShapes Go.WideShapes Go.Deep
theorem var_heap {P : Program} {W : World} {n : String} {g : Nat} {cs : Array Value} (hg : P.globalNamed n = some g) (h : W.var? P n = some cs) : ∃ e f, W.heap[g]? = some (.cells cs e f) := by
 unfold World.var? at h
 rw [hg] at h
 simp only [Option.bind_some] at h
 split at h
 ·rename_i c e f hb
  cases h
  exact ⟨_, _, hb⟩
 ·cases h
theorem laid_er {P : Program} {n nm : String} {text : List UInt8} {r : List (String × DataW Unit)} {W : World} {g : Nat} {ti tp te ts : TypeId} {ms : Array (String × TypeId)} {f : Field}
  (h : laidMet P ((n, .iface nm (.ptr (.agg [.lit (.string text)]))) :: r) W)
  (hg : P.globalNamed n = some g) (ht : (P.globals[g]?).map (·.type) = some ti) (hi : P.underlying ti = some (.interface ms)) (hrow : ∀ u, P.typeName? 3 u = some nm → u = tp)
  (hp : P.underlying tp = some (.pointer te)) (he : P.underlying te = some (.struct #[f])) (hft : f.type = ts) (hfo : f.offset = 0) (hs : P.underlying ts = some .string) (hc : P.cellsOf te = 1) (hcs : P.cellsOf ts = 1) :
  GlobAt (memOf W) g (.er g tp) := by
 obtain ⟨ps, ⟨g0, t0, cs0, f0, p0, q0, hg0, ht0, hv0, hd0, _, e0⟩, _, hrows⟩ := h
 obtain rfl := Option.some.inj (hg.symm.trans hg0)
 obtain rfl := Option.some.inj (ht.symm.trans ht0)
 subst e0
 obtain ⟨l0⟩ := cs0
 have ok0 : ∀ u v, l0 = [.iface u v] → Value.okWide P W .any 0 u v := fun u v e => by
  subst e
  exact (hrows g 0 (by simp [MemPlace.row])).2 u v (by simpa using World.var?_cell hg0 hv0 0)
 obtain ⟨a0, s0, rfl, hc0, hs0, hz0, rfl⟩ := errorString_of_trod hi hrow hp he hft hfo hs hc hcs hd0 ok0
 obtain ⟨c0, t0, hb0⟩ := (hrows a0.block a0.off (by simp [MemPlace.row])).1
 obtain ⟨e, f, hh⟩ := var_heap hg hv0
 have h1 : hcell (memOf W) g 0 = some (.iface tp (.pointer (some a0))) := by
  unfold hcell memOf
  rw [hh]; rfl
 exact ⟨_, h1, .er g tp a0 c0 t0 h1 hb0, rfl⟩
theorem laid_strs {P : Program} {n : String} {texts : List (List UInt8)} {r : List (String × DataW Unit)} {W : World} {g : Nat} {t e : TypeId} {k : Nat}
  (h : laidMet P ((n, .agg (texts.map fun s => .lit (.string s))) :: r) W)
  (hg : P.globalNamed n = some g) (ht : (P.globals[g]?).map (·.type) = some t) (hu : P.underlying t = some (.array k e)) (he : P.underlying e = some .string) (hce : P.cellsOf e = 1) (hct : P.cellsOf t = texts.length) :
  GlobAt (memOf W) g (.tup (texts.map Sh.str)) := by
 obtain ⟨ps, ⟨g0, t0, cs0, f0, p0, q0, hg0, ht0, hv0, hd0, _, e0⟩, _, hrows⟩ := h
 obtain rfl := Option.some.inj (hg.symm.trans hg0)
 obtain rfl := Option.some.inj (ht.symm.trans ht0)
 obtain ⟨e1, f1, hh⟩ := var_heap hg hv0
 obtain ⟨xs, m, _, hx, hlen, hxs, hel⟩ := DataW.trod_array hu hd0
 have hxs' : xs.map (·.1) = texts.map fun s => .lit (.string s) := by
  have := congrArg Prod.fst hx
  simp at this
  exact this.symm
 have hkt : k = texts.length := by
  have := congrArg List.length hxs'
  simp at this
  omega
 subst hkt
 have cell : ∀ j (hj : j < texts.length), cs0[j]? = some (.string ⟨texts[j].toArray⟩) := fun j hj => by
  have q := hel j hj
  rw [hce, Nat.mul_one] at q
  have hxj : j < xs.length := by omega
  rw [List.getElem?_eq_getElem hxj] at q
  obtain ⟨s, q1, q2, _⟩ := DataW.trod_string he q
  have q3 : (xs.map (·.1))[j]? = some (.lit (.string texts[j])) := by rw [hxs']; simp [hj]
  have q4 : (xs[j]).1 = .lit (.string texts[j]) := by
   rw [List.getElem?_map, List.getElem?_eq_getElem hxj] at q3
   simpa using q3
  rw [q2] at q4
  simp at q4
  have q5 : (List.take 1 (List.drop j cs0.toList))[0]? = some (.string s) := by rw [q1]; rfl
  have q6 : cs0[j]? = some (.string s) := by simpa using q5
  rw [q6]
  obtain ⟨⟨l⟩⟩ := s
  have : l = texts[j] := q4
  subst this; rfl
 refine ⟨⟨cs0, e1, f1, hh, by rw [List.length_map, ← hct, ← hlen]; simp⟩, fun j => .string ⟨(texts.getD j []).toArray⟩, fun j hj => ?_, fun j s hs => ?_⟩
 ·have hj' : j < texts.length := by simpa using hj
  refine ⟨?_, rfl⟩
  unfold hcell memOf
  rw [hh]
  simp only [cell j hj', List.getD_eq_getElem?_getD, List.getElem?_eq_getElem hj', Option.getD_some]
 ·rw [List.getElem?_map, Option.map_eq_some_iff] at hs
  obtain ⟨l, h1, rfl⟩ := hs
  show Rep (memOf W) (.str l) (.string ⟨(texts.getD j []).toArray⟩)
  rw [List.getD_eq_getElem?_getD, h1]
  exact .str l
theorem laid_nums {P : Program} {n : String} {kd : IntKind} {texts : List Int} {r : List (String × DataW Unit)} {W : World} {g : Nat} {t e : TypeId} {k : Nat}
  (h : laidMet P ((n, .agg (texts.map fun s => .lit (.int kd s))) :: r) W)
  (hg : P.globalNamed n = some g) (ht : (P.globals[g]?).map (·.type) = some t) (hu : P.underlying t = some (.array k e)) (he : P.underlying e = some (.int kd)) (hce : P.cellsOf e = 1) (hct : P.cellsOf t = texts.length) :
  GlobAt (memOf W) g (.tup (texts.map (Sh.i kd))) := by
 obtain ⟨ps, ⟨g0, t0, cs0, f0, p0, q0, hg0, ht0, hv0, hd0, _, e0⟩, _, hrows⟩ := h
 obtain rfl := Option.some.inj (hg.symm.trans hg0)
 obtain rfl := Option.some.inj (ht.symm.trans ht0)
 obtain ⟨e1, f1, hh⟩ := var_heap hg hv0
 obtain ⟨xs, m, _, hx, hlen, hxs, hel⟩ := DataW.trod_array hu hd0
 have hxs' : xs.map (·.1) = texts.map fun s => .lit (.int kd s) := by
  have := congrArg Prod.fst hx
  simp at this
  exact this.symm
 have hkt : k = texts.length := by
  have := congrArg List.length hxs'
  simp at this
  omega
 subst hkt
 have cell : ∀ j (hj : j < texts.length), cs0[j]? = some (.int kd texts[j]) := fun j hj => by
  have q := hel j hj
  rw [hce, Nat.mul_one] at q
  have hxj : j < xs.length := by omega
  rw [List.getElem?_eq_getElem hxj] at q
  obtain ⟨s, q1, q2, _⟩ := DataW.trod_int he q
  have q3 : (xs.map (·.1))[j]? = some (.lit (.int kd texts[j])) := by rw [hxs']; simp [hj]
  have q4 : (xs[j]).1 = .lit (.int kd texts[j]) := by
   rw [List.getElem?_map, List.getElem?_eq_getElem hxj] at q3
   simpa using q3
  rw [q2] at q4
  simp at q4
  have q5 : (List.take 1 (List.drop j cs0.toList))[0]? = some (.int kd s) := by rw [q1]; rfl
  have q6 : cs0[j]? = some (.int kd s) := by simpa using q5
  rw [q6]
  rw [q4]
 refine ⟨⟨cs0, e1, f1, hh, by rw [List.length_map, ← hct, ← hlen]; simp⟩, fun j => .int kd (texts.getD j 0), fun j hj => ?_, fun j s hs => ?_⟩
 ·have hj' : j < texts.length := by simpa using hj
  refine ⟨?_, rfl⟩
  unfold hcell memOf
  rw [hh]
  simp only [cell j hj', List.getD_eq_getElem?_getD, List.getElem?_eq_getElem hj', Option.getD_some]
 ·rw [List.getElem?_map, Option.map_eq_some_iff] at hs
  obtain ⟨l, h1, rfl⟩ := hs
  show Rep (memOf W) (.i kd l) (.int kd (texts.getD j 0))
  rw [List.getD_eq_getElem?_getD, h1]
  exact .i kd l
end Go.Sx
namespace Go.Proofs
open Go Go.Sx Go.RowKit Go.ChangeShapes
theorem star7 : "*" ++ "errors.errorString" = "*errors.errorString" := by decide
theorem row7 (u : TypeId) (h : Tryz.prog.typeName? 3 u = some "*errors.errorString") : u = 242 :=
 typeName_ptr_named (nm := "errors.errorString") (by rw [star7]; kernel_rfl) (by kernel_rfl) (by decide) u (by rw [star7]; exact h)
open YtikaakiadiaeoaaGreatDoor.Rows in
abbrev laid7 : List (String × DataW Unit) := specLineRow.laid
theorem gls_laid {W : World} (h : laidMetH Tryz.prog laid7 W) : GlobOK (gls7 W7) (memOf W) := by
 rw [MakeChecks.laidMetH_plain _ _ _ (by kernel_rfl)] at h
 have e16 : GlobAt (memOf W) 16 (.tup (pow10.map (Sh.i .u64))) := laid_nums (kd := .u64) (texts := pow10) h.tail.tail (by kernel_rfl) (by kernel_rfl) Tryz.underlying233 Tryz.underlying217 (by kernel_rfl) (by kernel_rfl)
 have e15 : GlobAt (memOf W) 15 (.er 15 242) := laid_er h.tail.tail.tail.tail (by kernel_rfl) (by kernel_rfl) Tryz.underlying52 row7 Tryz.underlying242 Tryz.underlying244 rfl rfl Tryz.underlying9 (by kernel_rfl) (by kernel_rfl)
 have e14 : GlobAt (memOf W) 14 (.er 14 242) := laid_er h.tail.tail.tail.tail.tail (by kernel_rfl) (by kernel_rfl) Tryz.underlying52 row7 Tryz.underlying242 Tryz.underlying244 rfl rfl Tryz.underlying9 (by kernel_rfl) (by kernel_rfl)
 have e4 : GlobAt (memOf W) 4 (.er 4 242) := laid_er h.tail.tail.tail.tail.tail.tail (by kernel_rfl) (by kernel_rfl) Tryz.underlying52 row7 Tryz.underlying242 Tryz.underlying244 rfl rfl Tryz.underlying9 (by kernel_rfl) (by kernel_rfl)
 have e2 : GlobAt (memOf W) 2 (.er 2 242) := laid_er h.tail.tail.tail.tail.tail.tail.tail (by kernel_rfl) (by kernel_rfl) Tryz.underlying52 row7 Tryz.underlying242 Tryz.underlying244 rfl rfl Tryz.underlying9 (by kernel_rfl) (by kernel_rfl)
 have e0 : GlobAt (memOf W) 0 (.er 0 242) := laid_er h.tail.tail.tail.tail.tail.tail.tail.tail (by kernel_rfl) (by kernel_rfl) Tryz.underlying52 row7 Tryz.underlying242 Tryz.underlying244 rfl rfl Tryz.underlying9 (by kernel_rfl) (by kernel_rfl)
 have e3 : GlobAt (memOf W) 3 (.er 3 242) := laid_er h.tail.tail.tail.tail.tail.tail.tail.tail.tail (by kernel_rfl) (by kernel_rfl) Tryz.underlying52 row7 Tryz.underlying242 Tryz.underlying244 rfl rfl Tryz.underlying9 (by kernel_rfl) (by kernel_rfl)
 have e1 : GlobAt (memOf W) 1 (.er 1 242) := laid_er h.tail.tail.tail.tail.tail.tail.tail.tail.tail.tail (by kernel_rfl) (by kernel_rfl) Tryz.underlying52 row7 Tryz.underlying242 Tryz.underlying244 rfl rfl Tryz.underlying9 (by kernel_rfl) (by kernel_rfl)
 have e7 : GlobAt (memOf W) 7 (.tup (wds W7 7 4)) := laid_strs (texts := [W7 7 0, W7 7 1, W7 7 2, W7 7 3]) h.tail.tail.tail.tail.tail.tail.tail.tail.tail.tail.tail (by kernel_rfl) (by kernel_rfl) Tryz.underlying182 Tryz.underlying9 (by kernel_rfl) (by kernel_rfl)
 have e8 : GlobAt (memOf W) 8 (.tup (wds W7 8 7)) := laid_strs (texts := [W7 8 0, W7 8 1, W7 8 2, W7 8 3, W7 8 4, W7 8 5, W7 8 6]) h.tail.tail.tail.tail.tail.tail.tail.tail.tail.tail.tail.tail (by kernel_rfl) (by kernel_rfl) Tryz.underlying183 Tryz.underlying9 (by kernel_rfl) (by kernel_rfl)
 have e9 : GlobAt (memOf W) 9 (.tup (wds W7 9 9)) := laid_strs (texts := [W7 9 0, W7 9 1, W7 9 2, W7 9 3, W7 9 4, W7 9 5, W7 9 6, W7 9 7, W7 9 8]) h.tail.tail.tail.tail.tail.tail.tail.tail.tail.tail.tail.tail.tail (by kernel_rfl) (by kernel_rfl) Tryz.underlying184 Tryz.underlying9 (by kernel_rfl) (by kernel_rfl)
 have e10 : GlobAt (memOf W) 10 (.tup (wds W7 10 3)) := laid_strs (texts := [W7 10 0, W7 10 1, W7 10 2]) h.tail.tail.tail.tail.tail.tail.tail.tail.tail.tail.tail.tail.tail.tail (by kernel_rfl) (by kernel_rfl) Tryz.underlying185 Tryz.underlying9 (by kernel_rfl) (by kernel_rfl)
 have e11 : GlobAt (memOf W) 11 (.tup (wds W7 11 4)) := laid_strs (texts := [W7 11 0, W7 11 1, W7 11 2, W7 11 3]) h.tail.tail.tail.tail.tail.tail.tail.tail.tail.tail.tail.tail.tail.tail.tail (by kernel_rfl) (by kernel_rfl) Tryz.underlying182 Tryz.underlying9 (by kernel_rfl) (by kernel_rfl)
 have e12 : GlobAt (memOf W) 12 (.tup (wds W7 12 4)) := laid_strs (texts := [W7 12 0, W7 12 1, W7 12 2, W7 12 3]) h.tail.tail.tail.tail.tail.tail.tail.tail.tail.tail.tail.tail.tail.tail.tail.tail (by kernel_rfl) (by kernel_rfl) Tryz.underlying182 Tryz.underlying9 (by kernel_rfl) (by kernel_rfl)
 intro g s hg
 match g, hg with
 | 0, hg => cases hg; exact e0
 | 1, hg => cases hg; exact e1
 | 2, hg => cases hg; exact e2
 | 3, hg => cases hg; exact e3
 | 4, hg => cases hg; exact e4
 | 5, hg => cases hg
 | 6, hg => cases hg
 | 7, hg => cases hg; exact e7
 | 8, hg => cases hg; exact e8
 | 9, hg => cases hg; exact e9
 | 10, hg => cases hg; exact e10
 | 11, hg => cases hg; exact e11
 | 12, hg => cases hg; exact e12
 | 13, hg => cases hg
 | 14, hg => cases hg; exact e14
 | 15, hg => cases hg; exact e15
 | 16, hg => cases hg; exact e16
 | n + 17, hg => simp [gls7, look?] at hg
end Go.Proofs
namespace Go.Sx
open Go.RowKit Go.ChangeShapes Go.WideShapes Go.Deep Go.Pl
theorem SpecRes.below {H : Mem} {w w' : World} {s : Sh} {v : Value} {H' : Mem} (h : SpecRes H w s v H' w') : Below w.heap.size w w' := ⟨h.os, h.tape, h.output, h.size, h.old⟩
theorem SpecRes.bool {H : Mem} {w w' : World} {b : Bool} {v : Value} {H' : Mem} (h : SpecRes H w (.b b) v H' w') : v = .bool b := by
 obtain ⟨E1, _, _, h1, _⟩ := h.res 0
 exact h1
def rowedB (P : Program) (ts : List TypeId) : Bool := ts.all fun t => P.readableRec t && decide (t < P.types.size)
section
variable {H : Type} {enc : TypeId × Value → H} {P : Program}
theorem below_all (hl : laidOutB P = true) {W W' : World} (hb : Below W.heap.size W W') :
  ∀ {ts : List TypeId} {vs : List Value} {ds : List (DataW H)} {p : List MemPlace}, rowedB P ts = true → DataW.TrodAll enc P W 0 (fun _ => true) true ts vs ds p → (∀ x ∈ p, x.block < W.heap.size) →
   DataW.TrodAll enc P W' 0 (fun b => decide (b < W.heap.size)) true ts vs ds p
 | [], _, _, _, _, h, _ => by
  obtain ⟨rfl, rfl, rfl⟩ := trodAll_nil h
  exact rfl
 | t :: ts, _, _, _, hr, h, hlt => by
  obtain ⟨v, vs1, d, ds1, a, b, rfl, rfl, rfl, h1, h2⟩ := trodAll_cons h
  simp only [rowedB, List.all_cons, Bool.and_eq_true, decide_eq_true_eq] at hr
  exact ⟨a, b, Below.trod hl hr.1.1 hr.1.2 h1 hb fun x hx => hlt x (List.mem_append_left _ hx), below_all hl hb (by simp only [rowedB]; exact hr.2) h2 fun x hx => hlt x (List.mem_append_right _ hx), rfl⟩
theorem post_law (hl : laidOutB P = true) {f : Func} {s : ChangeSpec} {W W' : World} {args : Array Value} {t : TypeId} {ds gs : List (DataW H)} {before : List MemPlace} (hs : s.vars = []) (hr : rowedB P f.params.toList = true) (ht : f.resultTypes = #[t]) (hu : P.underlying t = some .bool)
  (hW : DataW.Whole enc P f.params.toList s.vars false W args.toList ds gs before) (hb : Below W.heap.size W W')
  (h1 : (s.fn H (ds ++ gs)).results = [.lit (.bool true)]) (h2 : (s.fn H (ds ++ gs)).args = ds) (h3 : (s.fn H (ds ++ gs)).vars = []) :
  s.post enc P f false true false false W args (.bool true) W' := by
 have hlt := hW.lt
 have hW0 := hW
 obtain ⟨p, q, hA, hV, e, hfz, hnd⟩ := hW
 rw [hs] at hV
 obtain ⟨rfl, rfl⟩ := trodVars_none hV
 subst e
 refine ⟨ds, [], p ++ [], [], p, [], hW0, ?_, ?_, ?_, Below.frame hb _, fun e => by cases e⟩
 ·rw [h1, ht]
  exact trodAll_mk1 (shut_bool hu true)
 ·rw [h2]
  exact below_all hl hb hr hA fun x hx => hlt x (by simpa using hx)
 ·rw [h3, hs]
  exact rfl
end
theorem okB_rows {α : Type} [Row α] {k n : Nat} {g : Nat → List Sh} (hk : ∀ ns : List Int, ns.length = k → (Row.get (α := α) (shInts ns)).isSome = true) (h : ∀ i, i < n → ∃ ns : List Int, ns.length = k ∧ g i = shInts ns ∧ ∀ n ∈ ns, int64 n) : okB α n g = true := by
 induction n with
 | zero => rfl
 | succ n ih =>
  obtain ⟨ns, h1, h2, _⟩ := h n (by omega)
  simp only [okB, ih fun i hi => h i (by omega), Bool.true_and]
  rw [h2]
  exact hk ns h1
theorem okB_in {n : Nat} {g : Nat → List Sh} (h : ∀ i, i < n → ∃ ns : List Int, ns.length = 1 ∧ g i = shInts ns ∧ ∀ n ∈ ns, int64 n) : okB Int n g = true := okB_rows (fun ns hn => by
 match ns, hn with
 | [a], _ => rfl) h
end Go.Sx
namespace Go.Sx
open Go.RowKit Go.ChangeShapes Go.WideShapes Go.Deep Go.Pl
section
variable {H : Type} {enc : TypeId × Value → H} {P : Program} {w : World} {base : Nat} {spare : Nat → Bool} {held : Bool}
end
end Go.Sx
namespace Go.Proofs.YtikaakiadiaeoaaGreatDoor
open Go.ChangeShapes Go.WideShapes Go.ChangeAt Go.WideMaps Go.WideElems Go.RowKit Go.Sx Go.Pl
theorem own7 : ownKnob Tryz.prog.godebug = none := by kernel_rfl
theorem laidOut7 : laidOutB Tryz.prog = true := by kernel_rfl
noncomputable def firstG : Nat := (Tryz.prog.globalNamed "unicode/utf8.first").getD 0
noncomputable def door6 (os : Os) : World :=
 { World.doorLaid Tryz.prog 400 os with heap := (World.doorLaid Tryz.prog 400 os).heap.modify firstG fun o => match o with
  | .cells _ e f => .cells (Go.Pinned.utf8FirstZ.map fun n => Value.int .u8 (Int.ofNat n)).toArray e f
  | o => o }
theorem door7 (os : Os) (args : Array Value) : laidMetH Tryz.prog laid7 ((door6 os).forCall (fun _ _ => 0) ⟨#[], args, []⟩).memory :=
 laidMetH_of_parts3 (fuel := 8) (laidMet_of_run' 8 (by kernel_rfl) (by kernel_rfl)) (by kernel_rfl) (by kernel_rfl)
end Go.Proofs.YtikaakiadiaeoaaGreatDoor
namespace Go.Proofs.YtikaakiadiaeoaaGreatDoor
open Go.ChangeShapes Go.WideShapes Go.ChangeAt Go.WideMaps Go.WideElems Go.RowKit Go.Sx Go.Pl
set_option maxRecDepth 100000 in
theorem lifted9 (os : Os) (started : os.Started) (H : Type) (enc : TypeId × Value → H) :
  ReturnsInHanded {} Tryz.checked os 9 .any (fun w args => (Rows.specLineSpec.pre enc Tryz.prog Tryz.f9 [] false w args ∧ laidMetH Tryz.prog laid7 w) ∧ sizedMet enc Tryz.prog Tryz.f9 (OpenSpec.ofChange Rows.specLineSpec) false w args)
   (Rows.specLineSpec.post enc Tryz.prog Tryz.f9 false true false false) := by
 refine returnsInHanded_of_change_and (C := Tryz.checked) (X := fun w _ => laidMetH Tryz.prog laid7 w) (fun _ _ _ hh h => h.of_heap hh) own7 started (by kernel_rfl) Tryz.func9
  (ChangeSpec.witness_shaped (enc := enc) (C := Tryz.checked) (os := os) (X := fun w _ => laidMetH Tryz.prog laid7 w) false (door6 os) #[.slice none 0 0] 8 rfl (World.shaped_of_RefB (by kernel_rfl) (by kernel_rfl)) (by kernel_rfl) (by kernel_rfl) (by kernel_rfl) (door7 os _)) ?_
 intro W base args ds gs before hval0 hW _ _ hL _
 have hval : ∀ (j : Nat) t v, Tryz.f9.params[j]? = some t → args[j]? = some v → Value.okWide Tryz.prog W .any base t v := hval0
 have hW' := hW
 obtain ⟨p, q, hA0, hV, e, hfz, hnd⟩ := hW
 obtain ⟨rfl, rfl⟩ := trodVars_none hV
 have hA : DataW.TrodAll enc Tryz.prog W 0 (fun _ => true) true Tryz.f9.params.toList args.toList ds p := hA0
 rw [Tryz.params9] at hA hval
 obtain ⟨v0, vs0, d0, ds0, p0, q0, ea, rfl, rfl, t0, hA⟩ := trodAll_cons hA
 obtain ⟨rfl, rfl, rfl⟩ := trodAll_nil hA
 have at_ : ∀ (j : Nat) v, [v0][j]? = some v → args[j]? = some v := fun j v h => by rw [← Array.getElem?_toList, ea]; exact h
 obtain ⟨k0, s0, r0, a0⟩ := rep_slice_arg (k := 1) Tryz.underlying22 (by kernel_rfl) (by kernel_rfl) (by decide) (hval 0 22 v0 rfl (at_ 0 v0 rfl)) t0
 have hc := O9 (memOf W) W [.sl 1 k0 s0] [v0] (fun s => s = .b true) (memOf_on W) (gls_laid hL)
  ⟨r0, trivial⟩ ⟨okB_in a0, rfl⟩
 have eargs : args = [v0].toArray := by rw [← ea]
 rw [eargs]
 refine hc.mono fun e W' ⟨v, s, H', he, hs, hr⟩ => ?_
 subst he hs
 obtain rfl := hr.bool
 refine ⟨_, rfl, post_law laidOut7 rfl (by kernel_rfl) (by kernel_rfl) Tryz.underlying4 (by rw [eargs] at hW'; exact hW') hr.below rfl rfl rfl⟩
theorem specLine_holds : Rows.SpecLineSaid :=
 OpenClaim.holds_of_wide 9 Tryz.f9 rfl rfl rfl rfl rfl rfl rfl ⟨rfl, rfl, rfl, rfl, rfl⟩ rfl rfl rfl rfl rfl (by kernel_rfl) Tryz.func9 (by kernel_rfl)
  (of_decide_eq_true (by kernel_rfl)) (by unfold Func.isWrapper; first | (rw [if_pos (by decide +kernel)]; kernel_rfl) | (rw [if_neg (by decide +kernel)]; exact ⟨rfl, rfl⟩))
  (fun os started H enc _ => lifted9 os started H enc)
end Go.Proofs.YtikaakiadiaeoaaGreatDoor
namespace Go.Proofs.YtikaakiadiaeoaaGreatDoor
open Go
theorem specLine_card : Rows.SpecLineCardSaid :=
 Claim7.holds_tied_plain_at .later [] [.data, .data, .data, .data, .sentinel, .sentinel, .sentinel, .sentinel, .sentinel, .sentinel, .sentinel, .data, .data, .data, .data, .data, .data, .pinned] true (true, "4a60ae6fac43e9984ca8293a95a0ce4093e80da91277938538b84fd690e406b6") true
  specLine_holds (fun _ h => by cases h) (by kernel_rfl) (fun _ h => by cases h) specLine_row_tie rfl ⟨rfl, rfl⟩ (by kernel_rfl) rfl
  (fun f fn hf hfn => by
   obtain rfl : f = 9 := Option.some.inj ((show Tryz.prog.funcNamed "umpire/umpirelaw6.SpecLine" = some 9 by kernel_rfl).symm.trans hf) |>.symm
   obtain rfl : fn = Tryz.f9 := (Option.some.inj (Tryz.func9.symm.trans hfn)).symm
   exact ⟨by kernel_rfl, fun j t ht => by
    rw [Tryz.params9] at ht
    have hm : t ∈ [22] := by simpa using Array.mem_of_getElem? ht
    have hall : ([22].all fun u => !Tryz.prog.wantsStandIn u) = true := by kernel_rfl
    exact (show Tryz.prog.wantsStandIn t = false by simpa using List.all_eq_true.1 hall t hm)⟩)
  (by kernel_rfl)
#print axioms specLine_card
end Go.Proofs.YtikaakiadiaeoaaGreatDoor
