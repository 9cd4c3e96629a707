/-
  Chapter 6: the state that a key tells: the loops. Chapter 6: the state that a key tells. Chapter 6: the chapter's examples; evaluated. Chapter 6: the chapter's examples: the evaluated trees as lemmas, Chapter 6: the chapter's examples hold. Chapter 6: SpecLine: evaluated. Chapter 6: SpecLine: the evaluated trees as lemmas, Chapter 6: SpecLine. Chapter 6: the plain law of maps: what a key has. Chapter 6: SpecApart: evaluated. Chapter 6: SpecApart: the evaluated trees as lemmas,
-/
import Derived.Test.YtikaakiadiaeoaaGreatDoorB09
namespace Go.Pl
open Go Go.Sx Go.Proofs
def wV (w : List UInt8) : List UInt8 := bif cutI w 58 then cutB w 58 else w
def wK (w : List UInt8) : List UInt8 := bif cutI w 58 then cutA w 58 else [48]
def okW (k : Int) (w : List UInt8) : Bool := (cutI w 58 == decide (k = 4)) && spellsI (wV w) && spellsI (wK w)
def farW (k : Int) (w : List UInt8) : Bool := beyondB k (valA (wK w)) (valA (wV w))
def rises (ps : List Pr) (key : Int) : Bool := decide (ps = []) || !decide (key ≤ (nth ps (ps.length - 1)).key)
def addS (s : Sta) (w : List UInt8) : Sta := if s.kind = 3 then { s with q := s.q ++ [valA (wV w)] } else if s.kind = 4 then { s with ps := s.ps ++ [⟨valA (wK w), valA (wV w)⟩] } else { s with num := valA (wV w) }
def goW (s : Sta) (far : Bool) : List (List UInt8) → Option (Sta × Bool)
 | [] => some (s, far)
 | w :: ws => if okW s.kind w = true ∧ (s.kind = 4 → rises s.ps (valA (wK w)) = true) then goW (addS s w) (far || farW s.kind w) ws else none
def restW (vs : Nat → List UInt8) : Nat → Nat → List (List UInt8)
 | _, 0 => []
 | i, r + 1 => vs i :: restW vs (i + 1) r
noncomputable def zeroR (e : Nat) : Sh := .tup [.agg (staS zeroT), .er e 242]
noncomputable def zeroX (e : Nat) : Sh := .tup [.agg [.i .i64 (Int.ofNat 0), .i .i64 (Int.ofNat 0), .sl 0 0 fun _ => [], .sl 0 0 fun _ => []], .er e 242]
noncomputable def okR (s : Sta) : Sh := .tup [.agg (staS s), .v .nilIface]
def resOK (φ : Sh → Prop) : Option (Sta × Bool) → Prop
 | none => φ (zeroR 2)
 | some (s, far) => if far = true then φ (zeroR 4) else φ (okR s)
theorem nt_t {b : Bool} (h : prim.nt b = true) : b = false := by simpa [prim_nt] using h
theorem nt_f {b : Bool} (h : prim.nt b = false) : b = true := by simpa [prim_nt] using h
theorem short_cut {w : List UInt8} {c : UInt8} (h : shortS w = true) : shortS (cutA w c) = true ∧ shortS (cutB w c) = true := by
 have h : w.length ≤ 1000000000 := of_decide_eq_true h
 unfold cutA cutB cutS Go.Lib.cut
 split
 ·exact ⟨decide_eq_true (by simp only [List.length_take]; omega), decide_eq_true (by simp only [List.length_drop]; omega)⟩
 ·exact ⟨decide_eq_true h, decide_eq_true (by simp)⟩
end Go.Pl
namespace Go.Proofs
open Go Go.Sx Go.Pl
theorem res_lit2 {H H' : Mem} {w w' : World} {v : Value} {X : Sh} {a : Int} (r : SpecRes H w (.tup [.i .i64 a, X]) v H' w') : SpecRes H w (.tup [.v (.int .i64 a), X]) v H' w' :=
 ⟨r.Hle, r.on, r.os, r.tape, r.output, r.size, r.old, r.fresh, fun b0 => by
  obtain ⟨E1, a1, a2, ⟨⟨vs⟩, e, hd⟩, a4⟩ := r.res b0
  refine ⟨E1, a1, a2, ⟨⟨vs⟩, e, ?_⟩, a4⟩
  match vs, hd with
  | [a, b], ⟨h1, h2, _⟩ => exact ⟨h1, h2, trivial⟩⟩
theorem O74w (k : Int) (b : Bool) : FnOK Tryz.prog (gls7 W7) 74 (F74w k b) := by
 intro H w shs args φ on hg hr h
 unfold F74w at h
 split at h
 ·rename_i t w0
  split at h
  ·rename_i e1
   obtain ⟨h1, hφ⟩ := h
   obtain ⟨hk, hb⟩ := of_decide_eq_true h1
   match args, hr with
   | [v1, v2], ⟨r1, r2, _⟩ =>
    have O : FnOK Tryz.prog (gls7 W7) 74 (fun l => match l with | [.v (.int .i64 1), .str w] => .leaf (.tup [.i .i64 (kindW w), .v (.bool (decide (kindW w ≠ 0)))]) | _ => .fail) := by
     refine fnOK_Su (C := C7 prim W7 noSpec stopNone) (C7.ok _ _) (fn := Tryz.f74) (by kernel_rfl) (by kernel_rfl) fun H w shs args φ hrep h => ?_
     have hn : Tryz.f74.ntmps = 32 := by kernel_rfl
     split at h
     ·rename_i l
      refine ⟨[.v (.int .i64 1), .str l], hrep, L0, ?_⟩
      have key : ∀ (n : Int) (b : Bool), n = kindW l → b = decide (kindW l ≠ 0) → up φ (.tup [.i .i64 n, .b b]) := fun n b e1 e2 => up_mk (s' := .tup [.i .i64 (kindW l), .v (.bool (decide (kindW l ≠ 0)))]) ⟨by rw [e1]; rfl, .inr (by rw [e2]), trivial⟩ h
      refine gSt (C7.ok _ _) (fok0 _) (hold := nH0) (m := 3000) (n := 4000) (ts := []) ?_
      rw [hn]
      refine all_a74 prim W7 l ?_ ?_ ?_ ?_ ?_
      ·intro q0
       simp [prim_seq] at q0
       exact key _ _ (by unfold kindW; rw [if_pos q0]; rfl) (by unfold kindW; rw [if_pos q0]; rfl)
      ·intro q0 q1
       simp [prim_seq] at q0 q1
       exact key _ _ (by unfold kindW; rw [if_neg q0, if_pos q1]; rfl) (by unfold kindW; rw [if_neg q0, if_pos q1]; rfl)
      ·intro q0 q1 q2
       simp [prim_seq] at q0 q1 q2
       exact key _ _ (by unfold kindW; rw [if_neg q0, if_neg q1, if_pos q2]; rfl) (by unfold kindW; rw [if_neg q0, if_neg q1, if_pos q2]; rfl)
      ·intro q0 q1 q2 q3
       simp [prim_seq] at q0 q1 q2 q3
       exact key _ _ (by unfold kindW; rw [if_neg q0, if_neg q1, if_neg q2, if_pos q3]; rfl) (by unfold kindW; rw [if_neg q0, if_neg q1, if_neg q2, if_pos q3]; rfl)
      ·intro q0 q1 q2 q3
       simp [prim_seq] at q0 q1 q2 q3
       exact key _ _ (by unfold kindW; rw [if_neg q0, if_neg q1, if_neg q2, if_neg q3]; rfl) (by unfold kindW; rw [if_neg q0, if_neg q1, if_neg q2, if_neg q3]; rfl)
     ·exact h.elim
    refine (O H w [.v (.int .i64 1), .str w0] [v1, v2] (fun s => s = .tup [.i .i64 k, .v (.bool b)]) on hg ⟨rep_lit (rep_num e1 r1), r2, trivial⟩ ?_).mono fun e w' ⟨v, s, H', he, hs, r⟩ => ?_
    ·show Sh.tup _ = _
     rw [hk, hb]
    ·subst hs
     exact ⟨v, _, H', he, hφ, res_lit2 r⟩
  ·exact h.elim
 ·exact h.elim
theorem O108s : FnOK Tryz.prog (gls7 W7) 108 F108s := by
 intro H w shs args φ on hg hr h
 unfold F108s at h
 split at h
 ·split at h
  ·rename_i e1 e2
   match args, hr with
   | [v0, v1, v2, v3], ⟨r0, r1, r2, r3, _⟩ =>
    exact O108 H w [.str _, .str [_], .v (.int .i64 0), .v (.int .i64 (Int.negSucc 0))] [v0, v1, v2, v3] φ on hg ⟨r0, r1, rep_lit (rep_num e1 r2), rep_lit (rep_num e2 r3), trivial⟩ h
  ·exact h.elim
 ·exact h.elim
theorem fok46 (k : Int) (b : Bool) (stop : Nat → List Nat → Bool) : FnsOK Tryz.prog (C7 prim W7 (spec46 k b) stop) := C7.fok (fun g F h => by
 unfold spec46 at h
 split at h
 ·cases h; exact O69
 ·cases h; exact O74w k b
 ·cases h; exact O75
 ·cases h; exact O76
 ·cases h; exact O108s
 ·cases h) fun g h => by
 unfold spec46 at h
 split at h
 all_goals first | (cases h; done) | kernel_rfl
section
variable {H0 : Mem} {w0 : World} {φ : Sh → Prop} {m : Nat} {vs : Nat → List UInt8}
theorem loopb46_1 (hm : m ≤ 100000) (hsh : ∀ j, j < m → shortS (vs j) = true) : ∀ r i (x : Int) (far : Bool), i + r = m → resOK φ (goW ⟨1, x, [], []⟩ far (restW vs i r)) → GoesS Tryz.prog (C7 prim W7 (spec46 1 true) sAl) (K0 H0 w0) 46 td46 (LF1 1 x m vs (i : Nat) far) [] emp (up φ)
 | 0, i, x, far, hi, hφ => by
  refine gSi (fn := Tryz.f46) (tb := tb46) (by kernel_rfl) (by kernel_rfl) ?_
  have ht : prim.toN (i : Int) = i := Int.toNat_natCast i
  have k0 : prim.lt (i : Int) (Int.ofNat m) = false := by simp [prim_lt]; omega
  have hφ : (if far = true then φ (zeroR 4) else φ (okR ⟨1, x, [], []⟩)) := hφ
  have fin4 (h5 : far = true) : up φ (zeroX 4) := by rw [if_pos h5] at hφ; exact up_mk (s' := zeroR 4) ⟨⟨rfl, rfl, .inl ⟨rfl, rfl⟩, .inl ⟨rfl, rfl⟩, trivial⟩, rfl, trivial⟩ hφ
  have fin0 (h5 : far = false) : up φ (.tup [.agg [.i .i64 1, .i .i64 x, .sl 0 0 fun _ => [], .sl 0 0 fun _ => []], .v .nilIface]) := by rw [if_neg (by rw [h5]; simp)] at hφ; exact up_mk (s' := okR ⟨1, x, [], []⟩) ⟨⟨rfl, rfl, .inl ⟨rfl, rfl⟩, .inl ⟨rfl, rfl⟩, trivial⟩, rfl, trivial⟩ hφ
  refine gSt (C7.ok _ _) (fok46 _ _ _) (hold := nH0) (m := 300) (n := 400) (ts := [⟨46, td46, LF1 1 (valA (wV (vs i))) m vs (i : Nat) far, []⟩]) ?_
  rw [b46_1 prim W7 m vs x (valA (wV (vs i))) i ((i : Nat) : Int) far far, meetsT_eq]
  exact ⟨fun q0 => no2 k0 q0, fun q0 => ⟨fun q1 => fin4 q1, fun q1 => fin0 q1⟩⟩
 | r + 1, i, x, far, hi, hφ => by
  refine gSi (fn := Tryz.f46) (tb := tb46) (by kernel_rfl) (by kernel_rfl) ?_
  have ht : prim.toN (i : Int) = i := Int.toNat_natCast i
  have k0 : prim.lt (i : Int) (Int.ofNat m) = true := by simp [prim_lt]; omega
  have i1 : prim.inB (i : Int) m = true := by simp [prim_inB]; omega
  have hw : shortS (vs i) = true := hsh i (by omega)
  have w1 : prim.add .i64 (i : Int) (Int.ofNat 1) = ((i + 1 : Nat) : Int) := add1 (by omega)
  have hφ : resOK φ (if okW (1 : Int) (vs i) = true ∧ ((1 : Int) = (4 : Int) → rises [] (valA (wK (vs i))) = true) then goW (addS ⟨1, x, [], []⟩ (vs i)) (far || farW (1 : Int) (vs i)) (restW vs (i + 1) r) else none) := hφ
  have hbad (h5 : okW (1 : Int) (vs i) = false) : up φ (zeroX 2) := by
   rw [if_neg (by rw [h5]; simp)] at hφ
   exact up_mk (s' := zeroR 2) ⟨⟨rfl, rfl, .inl ⟨rfl, rfl⟩, .inl ⟨rfl, rfl⟩, trivial⟩, rfl, trivial⟩ hφ
  have rec_ (q : okW 1 (vs i) = true) : GoesS Tryz.prog (C7 prim W7 (spec46 1 true) sAl) (K0 H0 w0) 46 td46 (LF1 1 (valA (wV (vs i))) m vs ((i + 1 : Nat) : Int) (far || farW 1 (vs i))) [] emp (up φ) := by
   rw [if_pos ⟨q, fun h => by cases h⟩] at hφ
   exact loopb46_1 hm hsh r (i + 1) _ _ (by omega) hφ
  refine gSt (C7.ok _ _) (fok46 _ _ _) (hold := nH0) (m := 300) (n := 400) (ts := [⟨46, td46, LF1 1 (valA (wV (vs i))) m vs ((i + 1 : Nat) : Int) (far || farW 1 (vs i)), []⟩]) ?_
  rw [b46_1 prim W7 m vs x (valA (wV (vs i))) i ((i + 1 : Nat) : Int) far (far || farW 1 (vs i)), meetsT_eq]
  simp only [ht]
  cases e1 : cutI (vs i) 58 with
  | false =>
   have k1 : prim.nt false = true := rfl
   have k2 : prim.nt (prim.beq false false) = false := rfl
   have hv : wV (vs i) = vs i := by simp [wV, e1]
   have hk : wK (vs i) = [48] := by simp [wK, e1]
   exact ⟨fun q0 => ⟨i1, ⟨hw, ⟨fun q1 => ⟨hw, ⟨rfl, ⟨fun q2 => no2 k2 q2, fun q2 => ⟨fun q3 => hbad (by simp [okW, wV, e1, nt_t q3]), fun q3 => ⟨fun q4 => hbad (by simp [okW, wK, e1, nt_t q4]), fun q4 => ⟨fun q5 => ⟨⟨rfl, (by show _ = _; simp [q5]), rfl, rfl, w1, rfl, rfl, rfl, (by show _ = _; simp [wV, e1]), trivial⟩, _, rfl, rec_ (by simp [okW, wV, wK, e1, nt_f q3, nt_f q4])⟩, fun q5 => ⟨⟨rfl, (by show _ = _; simp [q5, farW, wV, wK, e1]), rfl, rfl, w1, rfl, rfl, rfl, (by show _ = _; simp [wV, e1]), trivial⟩, _, rfl, rec_ (by simp [okW, wV, wK, e1, nt_f q3, nt_f q4])⟩⟩⟩⟩⟩⟩⟩, fun q1 => no2 q1 k1⟩⟩⟩, fun q0 => no2 q0 k0⟩
  | true =>
   have k1 : prim.nt true = false := rfl
   have k2 : prim.nt (prim.beq true false) = true := rfl
   have hv : wV (vs i) = cutB (vs i) 58 := by simp [wV, e1]
   have hk : wK (vs i) = cutA (vs i) 58 := by simp [wK, e1]
   exact ⟨fun q0 => ⟨i1, ⟨hw, ⟨fun q1 => no2 k1 q1, fun q1 => ⟨(short_cut hw).2, ⟨(short_cut hw).1, ⟨fun q2 => hbad (by simp [okW, e1]), fun q2 => no2 q2 k2⟩⟩⟩⟩⟩⟩, fun q0 => no2 q0 k0⟩
theorem loopb46_2 (hm : m ≤ 100000) (hsh : ∀ j, j < m → shortS (vs j) = true) : ∀ r i (x : Int) (far : Bool), i + r = m → resOK φ (goW ⟨2, x, [], []⟩ far (restW vs i r)) → GoesS Tryz.prog (C7 prim W7 (spec46 2 true) sAl) (K0 H0 w0) 46 td46 (LF1 2 x m vs (i : Nat) far) [] emp (up φ)
 | 0, i, x, far, hi, hφ => by
  refine gSi (fn := Tryz.f46) (tb := tb46) (by kernel_rfl) (by kernel_rfl) ?_
  have ht : prim.toN (i : Int) = i := Int.toNat_natCast i
  have k0 : prim.lt (i : Int) (Int.ofNat m) = false := by simp [prim_lt]; omega
  have hφ : (if far = true then φ (zeroR 4) else φ (okR ⟨2, x, [], []⟩)) := hφ
  have fin4 (h5 : far = true) : up φ (zeroX 4) := by rw [if_pos h5] at hφ; exact up_mk (s' := zeroR 4) ⟨⟨rfl, rfl, .inl ⟨rfl, rfl⟩, .inl ⟨rfl, rfl⟩, trivial⟩, rfl, trivial⟩ hφ
  have fin0 (h5 : far = false) : up φ (.tup [.agg [.i .i64 2, .i .i64 x, .sl 0 0 fun _ => [], .sl 0 0 fun _ => []], .v .nilIface]) := by rw [if_neg (by rw [h5]; simp)] at hφ; exact up_mk (s' := okR ⟨2, x, [], []⟩) ⟨⟨rfl, rfl, .inl ⟨rfl, rfl⟩, .inl ⟨rfl, rfl⟩, trivial⟩, rfl, trivial⟩ hφ
  refine gSt (C7.ok _ _) (fok46 _ _ _) (hold := nH0) (m := 300) (n := 400) (ts := [⟨46, td46, LF1 2 (valA (wV (vs i))) m vs (i : Nat) far, []⟩]) ?_
  rw [b46_2 prim W7 m vs x (valA (wV (vs i))) i ((i : Nat) : Int) far far, meetsT_eq]
  exact ⟨fun q0 => no2 k0 q0, fun q0 => ⟨fun q1 => fin4 q1, fun q1 => fin0 q1⟩⟩
 | r + 1, i, x, far, hi, hφ => by
  refine gSi (fn := Tryz.f46) (tb := tb46) (by kernel_rfl) (by kernel_rfl) ?_
  have ht : prim.toN (i : Int) = i := Int.toNat_natCast i
  have k0 : prim.lt (i : Int) (Int.ofNat m) = true := by simp [prim_lt]; omega
  have i1 : prim.inB (i : Int) m = true := by simp [prim_inB]; omega
  have hw : shortS (vs i) = true := hsh i (by omega)
  have w1 : prim.add .i64 (i : Int) (Int.ofNat 1) = ((i + 1 : Nat) : Int) := add1 (by omega)
  have hφ : resOK φ (if okW (2 : Int) (vs i) = true ∧ ((2 : Int) = (4 : Int) → rises [] (valA (wK (vs i))) = true) then goW (addS ⟨2, x, [], []⟩ (vs i)) (far || farW (2 : Int) (vs i)) (restW vs (i + 1) r) else none) := hφ
  have hbad (h5 : okW (2 : Int) (vs i) = false) : up φ (zeroX 2) := by
   rw [if_neg (by rw [h5]; simp)] at hφ
   exact up_mk (s' := zeroR 2) ⟨⟨rfl, rfl, .inl ⟨rfl, rfl⟩, .inl ⟨rfl, rfl⟩, trivial⟩, rfl, trivial⟩ hφ
  have rec_ (q : okW 2 (vs i) = true) : GoesS Tryz.prog (C7 prim W7 (spec46 2 true) sAl) (K0 H0 w0) 46 td46 (LF1 2 (valA (wV (vs i))) m vs ((i + 1 : Nat) : Int) (far || farW 2 (vs i))) [] emp (up φ) := by
   rw [if_pos ⟨q, fun h => by cases h⟩] at hφ
   exact loopb46_2 hm hsh r (i + 1) _ _ (by omega) hφ
  refine gSt (C7.ok _ _) (fok46 _ _ _) (hold := nH0) (m := 300) (n := 400) (ts := [⟨46, td46, LF1 2 (valA (wV (vs i))) m vs ((i + 1 : Nat) : Int) (far || farW 2 (vs i)), []⟩]) ?_
  rw [b46_2 prim W7 m vs x (valA (wV (vs i))) i ((i + 1 : Nat) : Int) far (far || farW 2 (vs i)), meetsT_eq]
  simp only [ht]
  cases e1 : cutI (vs i) 58 with
  | false =>
   have k1 : prim.nt false = true := rfl
   have k2 : prim.nt (prim.beq false false) = false := rfl
   have hv : wV (vs i) = vs i := by simp [wV, e1]
   have hk : wK (vs i) = [48] := by simp [wK, e1]
   exact ⟨fun q0 => ⟨i1, ⟨hw, ⟨fun q1 => ⟨hw, ⟨rfl, ⟨fun q2 => no2 k2 q2, fun q2 => ⟨fun q3 => hbad (by simp [okW, wV, e1, nt_t q3]), fun q3 => ⟨fun q4 => hbad (by simp [okW, wK, e1, nt_t q4]), fun q4 => ⟨fun q5 => ⟨⟨rfl, (by show _ = _; simp [q5]), rfl, rfl, w1, rfl, rfl, rfl, (by show _ = _; simp [wV, e1]), trivial⟩, _, rfl, rec_ (by simp [okW, wV, wK, e1, nt_f q3, nt_f q4])⟩, fun q5 => ⟨⟨rfl, (by show _ = _; simp [q5, farW, wV, wK, e1]), rfl, rfl, w1, rfl, rfl, rfl, (by show _ = _; simp [wV, e1]), trivial⟩, _, rfl, rec_ (by simp [okW, wV, wK, e1, nt_f q3, nt_f q4])⟩⟩⟩⟩⟩⟩⟩, fun q1 => no2 q1 k1⟩⟩⟩, fun q0 => no2 q0 k0⟩
  | true =>
   have k1 : prim.nt true = false := rfl
   have k2 : prim.nt (prim.beq true false) = true := rfl
   have hv : wV (vs i) = cutB (vs i) 58 := by simp [wV, e1]
   have hk : wK (vs i) = cutA (vs i) 58 := by simp [wK, e1]
   exact ⟨fun q0 => ⟨i1, ⟨hw, ⟨fun q1 => no2 k1 q1, fun q1 => ⟨(short_cut hw).2, ⟨(short_cut hw).1, ⟨fun q2 => hbad (by simp [okW, e1]), fun q2 => no2 q2 k2⟩⟩⟩⟩⟩⟩, fun q0 => no2 q0 k0⟩
theorem loopb46_3f (hm : m ≤ 100000) (hsh : ∀ j, j < m → shortS (vs j) = true) : ∀ r i (q : List Int) (far : Bool), i + r = m → 0 < q.length → q.length ≤ i → resOK φ (goW ⟨3, 0, q, []⟩ far (restW vs i r)) → GoesS Tryz.prog (C7 prim W7 (spec46 3 true) sAl) (K0 H0 w0) 46 td46 (LF3 q.length (fnR (nth q)) false m vs (i : Nat) far) [] emp (up φ)
 | 0, i, q, far, hi, hq0, hq, hφ => by
  refine gSi (fn := Tryz.f46) (tb := tb46) (by kernel_rfl) (by kernel_rfl) ?_
  have ht : prim.toN (i : Int) = i := Int.toNat_natCast i
  have k0 : prim.lt (i : Int) (Int.ofNat m) = false := by simp [prim_lt]; omega
  have hφ : (if far = true then φ (zeroR 4) else φ (okR ⟨3, 0, q, []⟩)) := hφ
  have fin4 (h5 : far = true) : up φ (zeroX 4) := by rw [if_pos h5] at hφ; exact up_mk (s' := zeroR 4) ⟨⟨rfl, rfl, .inl ⟨rfl, rfl⟩, .inl ⟨rfl, rfl⟩, trivial⟩, rfl, trivial⟩ hφ
  have fin0 (h5 : far = false) : up φ (.tup [.agg [.i .i64 3, .i .i64 0, .os 3 1 q.length (fnR (nth q)), .sl 0 0 fun _ => []], .v .nilIface]) := by rw [if_neg (by rw [h5]; simp)] at hφ; exact up_mk (s' := okR ⟨3, 0, q, []⟩) ⟨⟨rfl, rfl, .inr ⟨rfl, rfl, fun _ _ => rfl⟩, .inl ⟨rfl, rfl⟩, trivial⟩, rfl, trivial⟩ hφ
  refine gSt (C7.ok _ _) (fok46 _ _ _) (hold := nH0) (m := 300) (n := 400) (ts := [⟨46, td46, LF3 (q ++ [valA (wV (vs i))]).length (fnR (nth (q ++ [valA (wV (vs i))]))) false m vs (i : Nat) far, []⟩]) ?_
  rw [b46_3f prim W7 m vs q.length (nth q) (q ++ [valA (wV (vs i))]).length (nth (q ++ [valA (wV (vs i))])) i ((i : Nat) : Int) far far, meetsT_eq]
  exact ⟨fun q0 => no2 k0 q0, fun q0 => ⟨fun q1 => fin4 q1, fun q1 => fin0 q1⟩⟩
 | r + 1, i, q, far, hi, hq0, hq, hφ => by
  refine gSi (fn := Tryz.f46) (tb := tb46) (by kernel_rfl) (by kernel_rfl) ?_
  have ht : prim.toN (i : Int) = i := Int.toNat_natCast i
  have k0 : prim.lt (i : Int) (Int.ofNat m) = true := by simp [prim_lt]; omega
  have i1 : prim.inB (i : Int) m = true := by simp [prim_inB]; omega
  have hw : shortS (vs i) = true := hsh i (by omega)
  have w1 : prim.add .i64 (i : Int) (Int.ofNat 1) = ((i + 1 : Nat) : Int) := add1 (by omega)
  have hφ : resOK φ (if okW (3 : Int) (vs i) = true ∧ ((3 : Int) = (4 : Int) → rises [] (valA (wK (vs i))) = true) then goW (addS ⟨3, 0, q, []⟩ (vs i)) (far || farW (3 : Int) (vs i)) (restW vs (i + 1) r) else none) := hφ
  have hbad (h5 : okW (3 : Int) (vs i) = false) : up φ (zeroX 2) := by
   rw [if_neg (by rw [h5]; simp)] at hφ
   exact up_mk (s' := zeroR 2) ⟨⟨rfl, rfl, .inl ⟨rfl, rfl⟩, .inl ⟨rfl, rfl⟩, trivial⟩, rfl, trivial⟩ hφ
  have hnat : prim.addN q.length 1 = (q ++ [valA (wV (vs i))]).length := by simp [prim_addN]
  have hget (v : Int) : ∀ j, j < q.length + 1 → prim.snoc (fnR (nth q)) q.length (nthL [[Sh.i .i64 v]]) j = fnR (nth (q ++ [v])) j := snoc_nth q v rfl
  have rr : prim.room (prim.addN q.length 1) 8 = true := room_le (show q.length + 1 ≤ _ by omega) (by decide)
  have rec_ (q1 : okW 3 (vs i) = true) : GoesS Tryz.prog (C7 prim W7 (spec46 3 true) sAl) (K0 H0 w0) 46 td46 (LF3 (q ++ [valA (wV (vs i))]).length (fnR (nth (q ++ [valA (wV (vs i))]))) false m vs ((i + 1 : Nat) : Int) (far || farW 3 (vs i))) [] emp (up φ) := by
   rw [if_pos ⟨q1, fun h => by cases h⟩] at hφ
   exact loopb46_3f hm hsh r (i + 1) _ _ (by omega) (by simp) (by simp; omega) hφ
  refine gSt (C7.ok _ _) (fok46 _ _ _) (hold := nH0) (m := 300) (n := 400) (ts := [⟨46, td46, LF3 (q ++ [valA (wV (vs i))]).length (fnR (nth (q ++ [valA (wV (vs i))]))) false m vs ((i + 1 : Nat) : Int) (far || farW 3 (vs i)), []⟩]) ?_
  rw [b46_3f prim W7 m vs q.length (nth q) (q ++ [valA (wV (vs i))]).length (nth (q ++ [valA (wV (vs i))])) i ((i + 1 : Nat) : Int) far (far || farW 3 (vs i)), meetsT_eq]
  simp only [ht]
  cases e1 : cutI (vs i) 58 with
  | false =>
   have k1 : prim.nt false = true := rfl
   have k2 : prim.nt (prim.beq false false) = false := rfl
   have hv : wV (vs i) = vs i := by simp [wV, e1]
   have hk : wK (vs i) = [48] := by simp [wK, e1]
   exact ⟨fun q0 => ⟨i1, ⟨hw, ⟨fun q1 => ⟨hw, ⟨rfl, ⟨fun q2 => no2 k2 q2, fun q2 => ⟨fun q3 => hbad (by simp [okW, wV, e1, nt_t q3]), fun q3 => ⟨fun q4 => hbad (by simp [okW, wK, e1, nt_t q4]), fun q4 => ⟨fun q5 => ⟨rr, ⟨⟨rfl, (by show _ = _; simp [q5]), rfl, rfl, w1, rfl, rfl, rfl, rfl, hnat, (by rw [hv]; exact hget _), trivial⟩, _, rfl, rec_ (by simp [okW, wV, wK, e1, nt_f q3, nt_f q4])⟩⟩, fun q5 => ⟨rr, ⟨⟨rfl, (by show _ = _; simp [q5, farW, wV, wK, e1]), rfl, rfl, w1, rfl, rfl, rfl, rfl, hnat, (by rw [hv]; exact hget _), trivial⟩, _, rfl, rec_ (by simp [okW, wV, wK, e1, nt_f q3, nt_f q4])⟩⟩⟩⟩⟩⟩⟩⟩, fun q1 => no2 q1 k1⟩⟩⟩, fun q0 => no2 q0 k0⟩
  | true =>
   have k1 : prim.nt true = false := rfl
   have k2 : prim.nt (prim.beq true false) = true := rfl
   have hv : wV (vs i) = cutB (vs i) 58 := by simp [wV, e1]
   have hk : wK (vs i) = cutA (vs i) 58 := by simp [wK, e1]
   exact ⟨fun q0 => ⟨i1, ⟨hw, ⟨fun q1 => no2 k1 q1, fun q1 => ⟨(short_cut hw).2, ⟨(short_cut hw).1, ⟨fun q2 => hbad (by simp [okW, e1]), fun q2 => no2 q2 k2⟩⟩⟩⟩⟩⟩, fun q0 => no2 q0 k0⟩
theorem loopb46_4f (hm : m ≤ 100000) (hsh : ∀ j, j < m → shortS (vs j) = true) : ∀ r i (q : List Pr) (far : Bool), i + r = m → 0 < q.length → q.length ≤ i → resOK φ (goW ⟨4, 0, [], q⟩ far (restW vs i r)) → GoesS Tryz.prog (C7 prim W7 (spec46 4 true) sAl) (K0 H0 w0) 46 td46 (LF4 q.length (fnR (nth q)) false m vs (i : Nat) far) [] emp (up φ)
 | 0, i, q, far, hi, hq0, hq, hφ => by
  refine gSi (fn := Tryz.f46) (tb := tb46) (by kernel_rfl) (by kernel_rfl) ?_
  have ht : prim.toN (i : Int) = i := Int.toNat_natCast i
  have k0 : prim.lt (i : Int) (Int.ofNat m) = false := by simp [prim_lt]; omega
  have hφ : (if far = true then φ (zeroR 4) else φ (okR ⟨4, 0, [], q⟩)) := hφ
  have fin4 (h5 : far = true) : up φ (zeroX 4) := by rw [if_pos h5] at hφ; exact up_mk (s' := zeroR 4) ⟨⟨rfl, rfl, .inl ⟨rfl, rfl⟩, .inl ⟨rfl, rfl⟩, trivial⟩, rfl, trivial⟩ hφ
  have fin0 (h5 : far = false) : up φ (.tup [.agg [.i .i64 4, .i .i64 0, .sl 0 0 fun _ => [], .os 116 2 q.length (fnR (nth q))], .v .nilIface]) := by rw [if_neg (by rw [h5]; simp)] at hφ; exact up_mk (s' := okR ⟨4, 0, [], q⟩) ⟨⟨rfl, rfl, .inl ⟨rfl, rfl⟩, .inr ⟨rfl, rfl, fun _ _ => rfl⟩, trivial⟩, rfl, trivial⟩ hφ
  refine gSt (C7.ok _ _) (fok46 _ _ _) (hold := nH0) (m := 300) (n := 400) (ts := [⟨46, td46, LF4 (q ++ [(⟨valA (wK (vs i)), valA (wV (vs i))⟩ : Pr)]).length (fnR (nth (q ++ [(⟨valA (wK (vs i)), valA (wV (vs i))⟩ : Pr)]))) false m vs (i : Nat) far, []⟩]) ?_
  rw [b46_4f prim W7 m vs q.length (nth q) (q ++ [(⟨valA (wK (vs i)), valA (wV (vs i))⟩ : Pr)]).length (nth (q ++ [(⟨valA (wK (vs i)), valA (wV (vs i))⟩ : Pr)])) i ((i : Nat) : Int) far far, meetsT_eq]
  exact ⟨fun q0 => no2 k0 q0, fun q0 => ⟨fun q1 => fin4 q1, fun q1 => fin0 q1⟩⟩
 | r + 1, i, q, far, hi, hq0, hq, hφ => by
  refine gSi (fn := Tryz.f46) (tb := tb46) (by kernel_rfl) (by kernel_rfl) ?_
  have ht : prim.toN (i : Int) = i := Int.toNat_natCast i
  have k0 : prim.lt (i : Int) (Int.ofNat m) = true := by simp [prim_lt]; omega
  have i1 : prim.inB (i : Int) m = true := by simp [prim_inB]; omega
  have hw : shortS (vs i) = true := hsh i (by omega)
  have w1 : prim.add .i64 (i : Int) (Int.ofNat 1) = ((i + 1 : Nat) : Int) := add1 (by omega)
  have hφ : resOK φ (if okW (4 : Int) (vs i) = true ∧ ((4 : Int) = (4 : Int) → rises q (valA (wK (vs i))) = true) then goW (addS ⟨4, 0, [], q⟩ (vs i)) (far || farW (4 : Int) (vs i)) (restW vs (i + 1) r) else none) := hφ
  have hbad (h5 : okW (4 : Int) (vs i) = false) : up φ (zeroX 2) := by
   rw [if_neg (by rw [h5]; simp)] at hφ
   exact up_mk (s' := zeroR 2) ⟨⟨rfl, rfl, .inl ⟨rfl, rfl⟩, .inl ⟨rfl, rfl⟩, trivial⟩, rfl, trivial⟩ hφ
  have hnat : prim.addN q.length 1 = (q ++ [(⟨valA (wK (vs i)), valA (wV (vs i))⟩ : Pr)]).length := by simp [prim_addN]
  have hget (k v : Int) : ∀ j, j < q.length + 1 → prim.snoc (fnR (nth q)) q.length (nthL [[Sh.i .i64 k, Sh.i .i64 v]]) j = fnR (nth (q ++ [(⟨k, v⟩ : Pr)])) j := snoc_nth q ⟨k, v⟩ rfl
  have rr : prim.room (prim.addN q.length 1) 16 = true := room_le (show q.length + 1 ≤ _ by omega) (by decide)
  have hls : prim.toN (prim.sub .i64 (prim.ofN q.length) (Int.ofNat 1)) = q.length - 1 := by
   show (IntKind.i64.wrap ((q.length : Int) - 1)).toNat = _
   rw [wrap_id (by omega) (by omega)]; omega
  have iS : prim.inB (prim.sub .i64 (prim.ofN q.length) (Int.ofNat 1)) q.length = true := by
   have : prim.sub .i64 (prim.ofN q.length) (Int.ofNat 1) = (q.length : Int) - 1 := by
    show IntKind.i64.wrap ((q.length : Int) - 1) = _
    rw [wrap_id (by omega) (by omega)]
   rw [this]; simp [prim_inB]; omega
  have k6 : prim.lt (Int.ofNat 0) (prim.ofN q.length) = true := by simp [prim_lt, prim_ofN]; omega
  have hne : q ≠ [] := fun h => by subst h; simp at hq0
  have le_t (h : prim.le (valA (cutA (vs i) 58)) (nth q (q.length - 1)).key = true) : rises q (valA (cutA (vs i) 58)) = false := by
   simp [prim_le] at h; simp [rises, hne, h]
  have le_f (h : prim.le (valA (cutA (vs i) 58)) (nth q (q.length - 1)).key = false) : rises q (valA (cutA (vs i) 58)) = true := by
   simp [prim_le] at h; simp [rises, h]
  have hbad2 (e1 : cutI (vs i) 58 = true) (h : rises q (valA (cutA (vs i) 58)) = false) : up φ (zeroX 2) := by
   rw [if_neg (by simp [wK, e1, h])] at hφ
   exact up_mk (s' := zeroR 2) ⟨⟨rfl, rfl, .inl ⟨rfl, rfl⟩, .inl ⟨rfl, rfl⟩, trivial⟩, rfl, trivial⟩ hφ
  have rec_ (q1 : okW 4 (vs i) = true) (q2 : rises q (valA (cutA (vs i) 58)) = true) (e1 : cutI (vs i) 58 = true) : GoesS Tryz.prog (C7 prim W7 (spec46 4 true) sAl) (K0 H0 w0) 46 td46 (LF4 (q ++ [(⟨valA (wK (vs i)), valA (wV (vs i))⟩ : Pr)]).length (fnR (nth (q ++ [(⟨valA (wK (vs i)), valA (wV (vs i))⟩ : Pr)]))) false m vs ((i + 1 : Nat) : Int) (far || farW 4 (vs i))) [] emp (up φ) := by
   rw [if_pos ⟨q1, fun h => by simpa [wK, e1] using q2⟩] at hφ
   exact loopb46_4f hm hsh r (i + 1) _ _ (by omega) (by simp) (by simp; omega) hφ
  refine gSt (C7.ok _ _) (fok46 _ _ _) (hold := nH0) (m := 300) (n := 400) (ts := [⟨46, td46, LF4 (q ++ [(⟨valA (wK (vs i)), valA (wV (vs i))⟩ : Pr)]).length (fnR (nth (q ++ [(⟨valA (wK (vs i)), valA (wV (vs i))⟩ : Pr)]))) false m vs ((i + 1 : Nat) : Int) (far || farW 4 (vs i)), []⟩]) ?_
  rw [b46_4f prim W7 m vs q.length (nth q) (q ++ [(⟨valA (wK (vs i)), valA (wV (vs i))⟩ : Pr)]).length (nth (q ++ [(⟨valA (wK (vs i)), valA (wV (vs i))⟩ : Pr)])) i ((i + 1 : Nat) : Int) far (far || farW 4 (vs i)), meetsT_eq]
  simp only [ht, hls]
  cases e1 : cutI (vs i) 58 with
  | false =>
   have k1 : prim.nt false = true := rfl
   have k2 : prim.nt (prim.beq false true) = true := rfl
   have hv : wV (vs i) = vs i := by simp [wV, e1]
   have hk : wK (vs i) = [48] := by simp [wK, e1]
   exact ⟨fun q0 => ⟨i1, ⟨hw, ⟨fun q1 => ⟨hw, ⟨rfl, ⟨fun q2 => hbad (by simp [okW, e1]), fun q2 => no2 q2 k2⟩⟩⟩, fun q1 => no2 q1 k1⟩⟩⟩, fun q0 => no2 q0 k0⟩
  | true =>
   have k1 : prim.nt true = false := rfl
   have k2 : prim.nt (prim.beq true true) = false := rfl
   have hv : wV (vs i) = cutB (vs i) 58 := by simp [wV, e1]
   have hk : wK (vs i) = cutA (vs i) 58 := by simp [wK, e1]
   exact ⟨fun q0 => ⟨i1, ⟨hw, ⟨fun q1 => no2 k1 q1, fun q1 => ⟨(short_cut hw).2, ⟨(short_cut hw).1, ⟨fun q2 => no2 k2 q2, fun q2 => ⟨fun q3 => hbad (by simp [okW, wV, e1, nt_t q3]), fun q3 => ⟨fun q4 => hbad (by simp [okW, wK, e1, nt_t q4]), fun q4 => ⟨fun q5 => ⟨fun q6 => ⟨iS, ⟨fun q7 => hbad2 e1 (le_t q7), fun q7 => ⟨rr, ⟨⟨rfl, (by show _ = _; simp [q5]), rfl, rfl, w1, rfl, rfl, rfl, rfl, hnat, (by rw [hv, hk]; exact hget _ _), trivial⟩, _, rfl, rec_ (by simp [okW, wV, wK, e1, nt_f q3, nt_f q4]) (le_f q7) e1⟩⟩⟩⟩, fun q6 => no2 q6 k6⟩, fun q5 => ⟨fun q6 => ⟨iS, ⟨fun q7 => hbad2 e1 (le_t q7), fun q7 => ⟨rr, ⟨⟨rfl, (by show _ = _; simp [q5, farW, wV, wK, e1]), rfl, rfl, w1, rfl, rfl, rfl, rfl, hnat, (by rw [hv, hk]; exact hget _ _), trivial⟩, _, rfl, rec_ (by simp [okW, wV, wK, e1, nt_f q3, nt_f q4]) (le_f q7) e1⟩⟩⟩⟩, fun q6 => no2 q6 k6⟩⟩⟩⟩⟩⟩⟩⟩⟩⟩, fun q0 => no2 q0 k0⟩
theorem loopb46_3t (hm : m ≤ 100000) (hsh : ∀ j, j < m → shortS (vs j) = true) : ∀ r i (far : Bool), i + r = m → resOK φ (goW ⟨3, 0, [], []⟩ far (restW vs i r)) → GoesS Tryz.prog (C7 prim W7 (spec46 3 true) sAl) (K0 H0 w0) 46 td46 (LF3 0 (fun _ => []) true m vs (i : Nat) far) [] emp (up φ)
 | 0, i, far, hi, hφ => by
  refine gSi (fn := Tryz.f46) (tb := tb46) (by kernel_rfl) (by kernel_rfl) ?_
  have ht : prim.toN (i : Int) = i := Int.toNat_natCast i
  have k0 : prim.lt (i : Int) (Int.ofNat m) = false := by simp [prim_lt]; omega
  have hφ : (if far = true then φ (zeroR 4) else φ (okR ⟨3, 0, [], []⟩)) := hφ
  have fin4 (h5 : far = true) : up φ (zeroX 4) := by rw [if_pos h5] at hφ; exact up_mk (s' := zeroR 4) ⟨⟨rfl, rfl, .inl ⟨rfl, rfl⟩, .inl ⟨rfl, rfl⟩, trivial⟩, rfl, trivial⟩ hφ
  have fin0 (h5 : far = false) : up φ (.tup [.agg [.i .i64 3, .i .i64 0, .sl 0 0 fun _ => [], .sl 0 0 fun _ => []], .v .nilIface]) := by rw [if_neg (by rw [h5]; simp)] at hφ; exact up_mk (s' := okR ⟨3, 0, [], []⟩) ⟨⟨rfl, rfl, .inl ⟨rfl, rfl⟩, .inl ⟨rfl, rfl⟩, trivial⟩, rfl, trivial⟩ hφ
  refine gSt (C7.ok _ _) (fok46 _ _ _) (hold := nH0) (m := 300) (n := 400) (ts := [⟨46, td46, LF3 1 (fnR (nth [valA (wV (vs i))])) false m vs (i : Nat) far, []⟩]) ?_
  rw [b46_3t prim W7 m vs 1 (nth [valA (wV (vs i))]) i ((i : Nat) : Int) far far, meetsT_eq]
  exact ⟨fun q0 => no2 k0 q0, fun q0 => ⟨fun q1 => fin4 q1, fun q1 => fin0 q1⟩⟩
 | r + 1, i, far, hi, hφ => by
  refine gSi (fn := Tryz.f46) (tb := tb46) (by kernel_rfl) (by kernel_rfl) ?_
  have ht : prim.toN (i : Int) = i := Int.toNat_natCast i
  have k0 : prim.lt (i : Int) (Int.ofNat m) = true := by simp [prim_lt]; omega
  have i1 : prim.inB (i : Int) m = true := by simp [prim_inB]; omega
  have hw : shortS (vs i) = true := hsh i (by omega)
  have w1 : prim.add .i64 (i : Int) (Int.ofNat 1) = ((i + 1 : Nat) : Int) := add1 (by omega)
  have hφ : resOK φ (if okW (3 : Int) (vs i) = true ∧ ((3 : Int) = (4 : Int) → rises [] (valA (wK (vs i))) = true) then goW (addS ⟨3, 0, [], []⟩ (vs i)) (far || farW (3 : Int) (vs i)) (restW vs (i + 1) r) else none) := hφ
  have hbad (h5 : okW (3 : Int) (vs i) = false) : up φ (zeroX 2) := by
   rw [if_neg (by rw [h5]; simp)] at hφ
   exact up_mk (s' := zeroR 2) ⟨⟨rfl, rfl, .inl ⟨rfl, rfl⟩, .inl ⟨rfl, rfl⟩, trivial⟩, rfl, trivial⟩ hφ
  have hnat : 1 = 1 := rfl
  have hget (v : Int) : ∀ j, j < 1 → nthL [[Sh.i .i64 v]] j = fnR (nth [v]) j := fun j hj => by
   obtain rfl : j = 0 := by omega
   rfl
  have rec_ (q1 : okW 3 (vs i) = true) : GoesS Tryz.prog (C7 prim W7 (spec46 3 true) sAl) (K0 H0 w0) 46 td46 (LF3 1 (fnR (nth [valA (wV (vs i))])) false m vs ((i + 1 : Nat) : Int) (far || farW 3 (vs i))) [] emp (up φ) := by
   rw [if_pos ⟨q1, fun h => by cases h⟩] at hφ
   exact loopb46_3f hm hsh r (i + 1) _ _ (by omega) (by simp) (by simp) hφ
  refine gSt (C7.ok _ _) (fok46 _ _ _) (hold := nH0) (m := 300) (n := 400) (ts := [⟨46, td46, LF3 1 (fnR (nth [valA (wV (vs i))])) false m vs ((i + 1 : Nat) : Int) (far || farW 3 (vs i)), []⟩]) ?_
  rw [b46_3t prim W7 m vs 1 (nth [valA (wV (vs i))]) i ((i + 1 : Nat) : Int) far (far || farW 3 (vs i)), meetsT_eq]
  simp only [ht]
  cases e1 : cutI (vs i) 58 with
  | false =>
   have k1 : prim.nt false = true := rfl
   have k2 : prim.nt (prim.beq false false) = false := rfl
   have hv : wV (vs i) = vs i := by simp [wV, e1]
   have hk : wK (vs i) = [48] := by simp [wK, e1]
   exact ⟨fun q0 => ⟨i1, ⟨hw, ⟨fun q1 => ⟨hw, ⟨rfl, ⟨fun q2 => no2 k2 q2, fun q2 => ⟨fun q3 => hbad (by simp [okW, wV, e1, nt_t q3]), fun q3 => ⟨fun q4 => hbad (by simp [okW, wK, e1, nt_t q4]), fun q4 => ⟨fun q5 => ⟨⟨rfl, (by show _ = _; simp [q5]), rfl, rfl, w1, rfl, rfl, rfl, rfl, hnat, (by rw [hv]; exact hget _), trivial⟩, _, rfl, rec_ (by simp [okW, wV, wK, e1, nt_f q3, nt_f q4])⟩, fun q5 => ⟨⟨rfl, (by show _ = _; simp [q5, farW, wV, wK, e1]), rfl, rfl, w1, rfl, rfl, rfl, rfl, hnat, (by rw [hv]; exact hget _), trivial⟩, _, rfl, rec_ (by simp [okW, wV, wK, e1, nt_f q3, nt_f q4])⟩⟩⟩⟩⟩⟩⟩, fun q1 => no2 q1 k1⟩⟩⟩, fun q0 => no2 q0 k0⟩
  | true =>
   have k1 : prim.nt true = false := rfl
   have k2 : prim.nt (prim.beq true false) = true := rfl
   have hv : wV (vs i) = cutB (vs i) 58 := by simp [wV, e1]
   have hk : wK (vs i) = cutA (vs i) 58 := by simp [wK, e1]
   exact ⟨fun q0 => ⟨i1, ⟨hw, ⟨fun q1 => no2 k1 q1, fun q1 => ⟨(short_cut hw).2, ⟨(short_cut hw).1, ⟨fun q2 => hbad (by simp [okW, e1]), fun q2 => no2 q2 k2⟩⟩⟩⟩⟩⟩, fun q0 => no2 q0 k0⟩
theorem loopb46_4t (hm : m ≤ 100000) (hsh : ∀ j, j < m → shortS (vs j) = true) : ∀ r i (far : Bool), i + r = m → resOK φ (goW ⟨4, 0, [], []⟩ far (restW vs i r)) → GoesS Tryz.prog (C7 prim W7 (spec46 4 true) sAl) (K0 H0 w0) 46 td46 (LF4 0 (fun _ => []) true m vs (i : Nat) far) [] emp (up φ)
 | 0, i, far, hi, hφ => by
  refine gSi (fn := Tryz.f46) (tb := tb46) (by kernel_rfl) (by kernel_rfl) ?_
  have ht : prim.toN (i : Int) = i := Int.toNat_natCast i
  have k0 : prim.lt (i : Int) (Int.ofNat m) = false := by simp [prim_lt]; omega
  have hφ : (if far = true then φ (zeroR 4) else φ (okR ⟨4, 0, [], []⟩)) := hφ
  have fin4 (h5 : far = true) : up φ (zeroX 4) := by rw [if_pos h5] at hφ; exact up_mk (s' := zeroR 4) ⟨⟨rfl, rfl, .inl ⟨rfl, rfl⟩, .inl ⟨rfl, rfl⟩, trivial⟩, rfl, trivial⟩ hφ
  have fin0 (h5 : far = false) : up φ (.tup [.agg [.i .i64 4, .i .i64 0, .sl 0 0 fun _ => [], .sl 0 0 fun _ => []], .v .nilIface]) := by rw [if_neg (by rw [h5]; simp)] at hφ; exact up_mk (s' := okR ⟨4, 0, [], []⟩) ⟨⟨rfl, rfl, .inl ⟨rfl, rfl⟩, .inl ⟨rfl, rfl⟩, trivial⟩, rfl, trivial⟩ hφ
  refine gSt (C7.ok _ _) (fok46 _ _ _) (hold := nH0) (m := 300) (n := 400) (ts := [⟨46, td46, LF4 1 (fnR (nth [(⟨valA (wK (vs i)), valA (wV (vs i))⟩ : Pr)])) false m vs (i : Nat) far, []⟩]) ?_
  rw [b46_4t prim W7 m vs 1 (nth [(⟨valA (wK (vs i)), valA (wV (vs i))⟩ : Pr)]) i ((i : Nat) : Int) far far, meetsT_eq]
  exact ⟨fun q0 => no2 k0 q0, fun q0 => ⟨fun q1 => fin4 q1, fun q1 => fin0 q1⟩⟩
 | r + 1, i, far, hi, hφ => by
  refine gSi (fn := Tryz.f46) (tb := tb46) (by kernel_rfl) (by kernel_rfl) ?_
  have ht : prim.toN (i : Int) = i := Int.toNat_natCast i
  have k0 : prim.lt (i : Int) (Int.ofNat m) = true := by simp [prim_lt]; omega
  have i1 : prim.inB (i : Int) m = true := by simp [prim_inB]; omega
  have hw : shortS (vs i) = true := hsh i (by omega)
  have w1 : prim.add .i64 (i : Int) (Int.ofNat 1) = ((i + 1 : Nat) : Int) := add1 (by omega)
  have hφ : resOK φ (if okW (4 : Int) (vs i) = true ∧ ((4 : Int) = (4 : Int) → rises [] (valA (wK (vs i))) = true) then goW (addS ⟨4, 0, [], []⟩ (vs i)) (far || farW (4 : Int) (vs i)) (restW vs (i + 1) r) else none) := hφ
  have hbad (h5 : okW (4 : Int) (vs i) = false) : up φ (zeroX 2) := by
   rw [if_neg (by rw [h5]; simp)] at hφ
   exact up_mk (s' := zeroR 2) ⟨⟨rfl, rfl, .inl ⟨rfl, rfl⟩, .inl ⟨rfl, rfl⟩, trivial⟩, rfl, trivial⟩ hφ
  have hnat : 1 = 1 := rfl
  have hget (k v : Int) : ∀ j, j < 1 → nthL [[Sh.i .i64 k, Sh.i .i64 v]] j = fnR (nth [(⟨k, v⟩ : Pr)]) j := fun j hj => by
   obtain rfl : j = 0 := by omega
   rfl
  have rec_ (q1 : okW 4 (vs i) = true) : GoesS Tryz.prog (C7 prim W7 (spec46 4 true) sAl) (K0 H0 w0) 46 td46 (LF4 1 (fnR (nth [(⟨valA (wK (vs i)), valA (wV (vs i))⟩ : Pr)])) false m vs ((i + 1 : Nat) : Int) (far || farW 4 (vs i))) [] emp (up φ) := by
   rw [if_pos ⟨q1, fun h => by rfl⟩] at hφ
   exact loopb46_4f hm hsh r (i + 1) _ _ (by omega) (by simp) (by simp) hφ
  refine gSt (C7.ok _ _) (fok46 _ _ _) (hold := nH0) (m := 300) (n := 400) (ts := [⟨46, td46, LF4 1 (fnR (nth [(⟨valA (wK (vs i)), valA (wV (vs i))⟩ : Pr)])) false m vs ((i + 1 : Nat) : Int) (far || farW 4 (vs i)), []⟩]) ?_
  rw [b46_4t prim W7 m vs 1 (nth [(⟨valA (wK (vs i)), valA (wV (vs i))⟩ : Pr)]) i ((i + 1 : Nat) : Int) far (far || farW 4 (vs i)), meetsT_eq]
  simp only [ht]
  cases e1 : cutI (vs i) 58 with
  | false =>
   have k1 : prim.nt false = true := rfl
   have k2 : prim.nt (prim.beq false true) = true := rfl
   have hv : wV (vs i) = vs i := by simp [wV, e1]
   have hk : wK (vs i) = [48] := by simp [wK, e1]
   exact ⟨fun q0 => ⟨i1, ⟨hw, ⟨fun q1 => ⟨hw, ⟨rfl, ⟨fun q2 => hbad (by simp [okW, e1]), fun q2 => no2 q2 k2⟩⟩⟩, fun q1 => no2 q1 k1⟩⟩⟩, fun q0 => no2 q0 k0⟩
  | true =>
   have k1 : prim.nt true = false := rfl
   have k2 : prim.nt (prim.beq true true) = false := rfl
   have hv : wV (vs i) = cutB (vs i) 58 := by simp [wV, e1]
   have hk : wK (vs i) = cutA (vs i) 58 := by simp [wK, e1]
   exact ⟨fun q0 => ⟨i1, ⟨hw, ⟨fun q1 => no2 k1 q1, fun q1 => ⟨(short_cut hw).2, ⟨(short_cut hw).1, ⟨fun q2 => no2 k2 q2, fun q2 => ⟨fun q3 => hbad (by simp [okW, wV, e1, nt_t q3]), fun q3 => ⟨fun q4 => hbad (by simp [okW, wK, e1, nt_t q4]), fun q4 => ⟨fun q5 => ⟨⟨rfl, (by show _ = _; simp [q5]), rfl, rfl, w1, rfl, rfl, rfl, rfl, hnat, (by rw [hv, hk]; exact hget _ _), trivial⟩, _, rfl, rec_ (by simp [okW, wV, wK, e1, nt_f q3, nt_f q4])⟩, fun q5 => ⟨⟨rfl, (by show _ = _; simp [q5, farW, wV, wK, e1]), rfl, rfl, w1, rfl, rfl, rfl, rfl, hnat, (by rw [hv, hk]; exact hget _ _), trivial⟩, _, rfl, rec_ (by simp [okW, wV, wK, e1, nt_f q3, nt_f q4])⟩⟩⟩⟩⟩⟩⟩⟩⟩⟩, fun q0 => no2 q0 k0⟩
end
end Go.Proofs
namespace Go.Pl
open Go Go.Sx Go.Proofs
def fromS (l : List UInt8) : Option (Sta × Bool) :=
 if kindW (nth (splitS l 32) 0) = 0 then none
 else if (kindW (nth (splitS l 32) 0) = 1 ∨ kindW (nth (splitS l 32) 0) = 2) ∧ (splitS l 32).length ≠ 2 then none
 else goW ⟨kindW (nth (splitS l 32) 0), 0, [], []⟩ false (restW (fun j => nth (splitS l 32) (1 + j)) 0 ((splitS l 32).length - 1))
def codF (l : List UInt8) : Nat := match fromS l with
 | none => 2
 | some (_, true) => 4
 | some (_, false) => 0
def stO (l : List UInt8) : Sta := match fromS l with
 | none => zeroT
 | some (s, _) => s
def isC6 (l : List UInt8) (c : Nat) : Bool := codF l == c
def lenK (l : List UInt8) : Bool := decide (l.length ≤ 99990)
theorem splitK_short (sep : List UInt8) : ∀ (k : Nat) (s : List UInt8), ∀ w ∈ Go.Lib.splitK sep 0 k s, w.length ≤ s.length
 | 0, s, w, hw => by
  obtain rfl : w = s := by simpa [Go.Lib.splitK] using hw
  exact Nat.le_refl _
 | k + 1, s, w, hw => by
  unfold Go.Lib.splitK at hw
  split at hw
  ·obtain rfl : w = s := by simpa using hw
   exact Nat.le_refl _
  ·rcases List.mem_cons.1 hw with rfl | hw
   ·simp only [List.length_take]; omega
   ·have := splitK_short sep k _ w hw
    simp only [List.length_drop] at this
    omega
theorem splitS_len (l : List UInt8) (c : UInt8) : 1 ≤ (splitS l c).length ∧ (splitS l c).length ≤ l.length + 2 := by
 have e := splitB_eq l c
 have h := Lib.splitB_all ⟨#[c]⟩ (Nat.le_refl 1) 0 _ ⟨l.toArray⟩ rfl
 have hle : Lib.countB (⟨l.toArray⟩ : ByteArray) ⟨#[c]⟩ ≤ l.length + 1 := by
  have := Lib.count_le l [c]
  exact this
 rw [← e, List.length_map, h]
 omega
theorem splitS_short {l : List UInt8} {c : UInt8} (h : l.length ≤ 1000000000) (j : Nat) : shortS (nth (splitS l c) j) = true := by
 unfold shortS
 refine decide_eq_true ?_
 by_cases hj : j < (splitS l c).length
 ·have : nth (splitS l c) j ∈ splitS l c := by
   have e : nth (splitS l c) j = (splitS l c)[j] := by simp [nth, hj]
   rw [e]; exact List.getElem_mem hj
  have := splitK_short [c] _ l _ this
  omega
 ·have e : nth (splitS l c) j = [] := by
   simp [nth, hj]
   rfl
  rw [e]; simp
end Go.Pl
namespace Go.Proofs
open Go Go.Sx Go.Pl
noncomputable def F46 : List Sh → Tree Sh
 | [.str l] => .need (lenK l) (.node (isC6 l 2) (.leaf (zeroR 2)) (.node (isC6 l 4) (.leaf (zeroR 4)) (.leaf (okR (stO l)))))
 | _ => .fail
theorem O46 : FnOK Tryz.prog (gls7 W7) 46 F46 := by
 refine fnOK_Su (C := C7 prim W7 (spec46 0 false) sAl) (C7.ok _ _) (fn := Tryz.f46) (by kernel_rfl) (by kernel_rfl) fun H w shs args φ hrep h => ?_
 have hn : Tryz.f46.ntmps = 139 := by kernel_rfl
 unfold F46 at h
 split at h
 ·rename_i l
  obtain ⟨h1, h2, h3⟩ := h
  have h1 : l.length ≤ 99990 := of_decide_eq_true h1
  refine ⟨[.str l], hrep, L0, ?_⟩
  have hφ : resOK φ (fromS l) := by
   unfold isC6 codF stO at *
   cases hf : fromS l with
   | none => rw [hf] at h2; exact h2 rfl
   | some p =>
    obtain ⟨s, far⟩ := p
    rw [hf] at h2 h3
    cases far with
    | true => exact (h3 rfl).1 rfl
    | false => exact (h3 rfl).2 rfl
  have hsl : shortS l = true := decide_eq_true (by omega)
  obtain ⟨n1, n2⟩ := splitS_len l 32
  have hin : prim.inB (Int.ofNat 0) (splitN l 32) = true := by
   unfold splitN
   simp [prim_inB]; omega
  have hup : prim.upTo (Int.ofNat 1) (splitN l 32) = true := by
   unfold splitN
   simp [prim_upTo]; omega
  have hsh : ∀ j, j < (splitS l 32).length - 1 → shortS ((fun j => nth (splitS l 32) (1 + j)) j) = true := fun j _ => splitS_short (by omega) (1 + j)
  have isk (k : Int) (b : Bool) (h : kindW (nth (splitS l 32) 0) = k) (hb : b = decide (k ≠ 0)) : isKind (nth (splitS l 32) 0) k b = true := decide_eq_true ⟨h, hb⟩
  have bad (q : fromS l = none) : up φ (zeroX 2) := by
   rw [q] at hφ
   exact up_mk (s' := zeroR 2) ⟨⟨rfl, rfl, .inl ⟨rfl, rfl⟩, .inl ⟨rfl, rfl⟩, trivial⟩, rfl, trivial⟩ hφ
  have sub1 : prim.subN (splitN l 32) 1 = (splitS l 32).length - 1 := rfl
  have hkk : kindW (nth (splitS l 32) 0) = 0 ∨ kindW (nth (splitS l 32) 0) = 1 ∨ kindW (nth (splitS l 32) 0) = 2 ∨ kindW (nth (splitS l 32) 0) = 3 ∨ kindW (nth (splitS l 32) 0) = 4 := by
   unfold kindW
   repeat' split
   all_goals omega
  have two (k : Int) (hk : kindW (nth (splitS l 32) 0) = k) (hk12 : k = 1 ∨ k = 2) :
    (prim.nt (prim.eq (prim.ofN (prim.subN (splitN l 32) 1)) (Int.ofNat 1)) = true → fromS l = none) ∧
    (prim.nt (prim.eq (prim.ofN (prim.subN (splitN l 32) 1)) (Int.ofNat 1)) = false → resOK φ (goW ⟨k, 0, [], []⟩ false (restW (fun j => nth (splitS l 32) (1 + j)) 0 ((splitS l 32).length - 1)))) := by
   rw [sub1]
   constructor
   ·intro q
    have : (splitS l 32).length ≠ 2 := fun e => by rw [e] at q; simp [prim_nt, prim_eq, prim_ofN] at q
    unfold fromS
    rw [if_neg (by rw [hk]; omega), if_pos ⟨by rw [hk]; exact hk12, this⟩]
   ·intro q
    have : (splitS l 32).length = 2 := by
     simp [prim_nt, prim_eq, prim_ofN] at q; omega
    unfold fromS at hφ
    rw [if_neg (by rw [hk]; omega), if_neg (fun h => h.2 this), hk] at hφ
    exact hφ
  rcases hkk with hk | hk | hk | hk | hk
  ·refine gSt (C7.ok _ _) (fok46 _ _ _) (hold := nH0) (m := 300) (n := 400) (ts := []) ?_
   rw [hn]
   exact all_n46 prim W7 l hsl hin (isk 0 false hk rfl) (bad (by unfold fromS; rw [if_pos hk]))
  ·obtain ⟨t1, t2⟩ := two 1 hk (.inl rfl)
   refine goesS_spec (s := spec46 1 true) (stop := sAl) ?_
   refine gSt (C7.ok _ _) (fok46 _ _ _) (hold := nH0) (m := 300) (n := 400) (ts := [⟨46, td46, LF1 1 0 ((splitS l 32).length - 1) (fun j => nth (splitS l 32) (1 + j)) (0 : Nat) false, []⟩]) ?_
   rw [hn]
   refine all_a46_1 prim W7 l 0 _ _ _ false hsl hin (isk 1 true hk rfl) hup (fun q => bad (t1 q)) (fun q => ⟨⟨rfl, rfl, rfl, rfl, rfl, rfl, rfl, rfl, rfl, trivial⟩, _, rfl, loopb46_1 (by omega) hsh _ 0 0 false (Nat.zero_add _) (t2 q)⟩)
  ·obtain ⟨t1, t2⟩ := two 2 hk (.inr rfl)
   refine goesS_spec (s := spec46 2 true) (stop := sAl) ?_
   refine gSt (C7.ok _ _) (fok46 _ _ _) (hold := nH0) (m := 300) (n := 400) (ts := [⟨46, td46, LF1 2 0 ((splitS l 32).length - 1) (fun j => nth (splitS l 32) (1 + j)) (0 : Nat) false, []⟩]) ?_
   rw [hn]
   refine all_a46_2 prim W7 l 0 _ _ _ false hsl hin (isk 2 true hk rfl) hup (fun q => bad (t1 q)) (fun q => ⟨⟨rfl, rfl, rfl, rfl, rfl, rfl, rfl, rfl, rfl, trivial⟩, _, rfl, loopb46_2 (by omega) hsh _ 0 0 false (Nat.zero_add _) (t2 q)⟩)
  ·have hφ3 : resOK φ (goW ⟨3, 0, [], []⟩ false (restW (fun j => nth (splitS l 32) (1 + j)) 0 ((splitS l 32).length - 1))) := by
    unfold fromS at hφ
    rw [if_neg (by rw [hk]; omega), if_neg (by rw [hk]; omega), hk] at hφ
    exact hφ
   refine goesS_spec (s := spec46 3 true) (stop := sAl) ?_
   refine gSt (C7.ok _ _) (fok46 _ _ _) (hold := nH0) (m := 300) (n := 400) (ts := [⟨46, td46, LF3 0 (fun _ => []) true ((splitS l 32).length - 1) (fun j => nth (splitS l 32) (1 + j)) (0 : Nat) false, []⟩]) ?_
   rw [hn]
   refine all_a46_3 prim W7 l _ _ _ false hsl hin (isk 3 true hk rfl) hup ⟨⟨rfl, rfl, rfl, rfl, rfl, rfl, rfl, rfl, rfl, trivial⟩, _, rfl, loopb46_3t (by omega) hsh _ 0 false (Nat.zero_add _) hφ3⟩
  ·have hφ4 : resOK φ (goW ⟨4, 0, [], []⟩ false (restW (fun j => nth (splitS l 32) (1 + j)) 0 ((splitS l 32).length - 1))) := by
    unfold fromS at hφ
    rw [if_neg (by rw [hk]; omega), if_neg (by rw [hk]; omega), hk] at hφ
    exact hφ
   refine goesS_spec (s := spec46 4 true) (stop := sAl) ?_
   refine gSt (C7.ok _ _) (fok46 _ _ _) (hold := nH0) (m := 300) (n := 400) (ts := [⟨46, td46, LF4 0 (fun _ => []) true ((splitS l 32).length - 1) (fun j => nth (splitS l 32) (1 + j)) (0 : Nat) false, []⟩]) ?_
   rw [hn]
   refine all_a46_4 prim W7 l _ _ _ false hsl hin (isk 4 true hk rfl) hup ⟨⟨rfl, rfl, rfl, rfl, rfl, rfl, rfl, rfl, rfl, trivial⟩, _, rfl, loopb46_4t (by omega) hsh _ 0 false (Nat.zero_add _) hφ4⟩
 ·exact h.elim
end Go.Proofs
namespace Go.Pl
open Go Go.Sx
structure Lg6 where
 key : Sta → List UInt8
 frm : List UInt8 → Sta
 isF : List UInt8 → Nat → Bool
 nx : Sta → Int → Int → Int → Sta
 rt : Sta → Int → Int → Int → Int
 gt : Sta → Int → Int → Int → Int
 isD : Sta → Int → Int → Int → Nat → Bool
def fitS (op : Int) (a : Nat) (h : Nat → List Sh) (b : Nat) (l : Nat → List Sh) : Bool := okB Int a h && okB Pr b l && roomB (a + 1) 8 && mapOK op b l
end Go.Pl
namespace Go.Proofs
open Go.Sx.Tree
open Go Go.Sx Go.Pl
noncomputable def H46 (L : Lg6) : List Sh → Tree Sh
 | [.str l] => bif Nat.beq l.length 7 then .need (L.isF l 0) (.leaf (.tup [.agg (staS (L.frm l)), .v .nilIface])) else .need (L.isF l 2) (.leaf (zeroR 2))
 | _ => .fail
noncomputable def H42 (L : Lg6) : List Sh → Tree Sh
 | [.agg [.i .i64 x, .i .i64 y, s2, s3], t, u, v] => match slN 1 s2, slN 2 s3, icode t, icode u, icode v with
  | some (a, h), some (b, l), some (Int.ofNat 1), some k, some v => .need (fitS 1 a h b l) (.need (L.isD (sQ x y a h b l) 1 k v 1) (.leaf (.tup [.agg (staS zeroT), .i .i64 0, .i .i64 0, .er 1 242])))
  | some (a, h), some (b, l), some op, some k, some v => .need (fitS op a h b l) (.need (L.isD (sQ x y a h b l) op k v 0) (.leaf (.tup [.agg (staS (L.nx (sQ x y a h b l) op k v)), .i .i64 (L.rt (sQ x y a h b l) op k v), .i .i64 (L.gt (sQ x y a h b l) op k v), .v .nilIface])))
  | _, _, _, _, _ => .fail
 | _ => .fail
noncomputable def H35 (L : Lg6) : List Sh → Tree Sh
 | [.agg [.i .i64 x, .i .i64 y, s2, s3]] => match slN 1 s2, slN 2 s3 with
  | some (a, h), some (b, l) => .need (keyB x y a h b l) (.leaf (.str (L.key (sQ x y a h b l))))
  | _, _ => .fail
 | _ => .fail
noncomputable def spec40 (L : Lg6) : Nat → Option (List Sh → Tree Sh)
 | 35 => some (H35 L)
 | 42 => some (H42 L)
 | 46 => some (H46 L)
 | _ => none
theorem a40 (A : Prim) (W : Wd) (L : Lg6) : runTo (C7 A W (spec40 L) sAl) nH0 300 400 40 [.code []] (start0 88 [] L0) [] [] = need (L.isF [109, 97, 112, 32, 51, 58, 55] 0) (need (fitS (Int.ofNat 7) (len (L.frm [109, 97, 112, 32, 51, 58, 55]).q) (fnR (nth (L.frm [109, 97, 112, 32, 51, 58, 55]).q)) (len (L.frm [109, 97, 112, 32, 51, 58, 55]).ps) (fnR (nth (L.frm [109, 97, 112, 32, 51, 58, 55]).ps))) (need (L.isD (sQ (L.frm [109, 97, 112, 32, 51, 58, 55]).kind (L.frm [109, 97, 112, 32, 51, 58, 55]).num (len (L.frm [109, 97, 112, 32, 51, 58, 55]).q) (fnR (nth (L.frm [109, 97, 112, 32, 51, 58, 55]).q)) (len (L.frm [109, 97, 112, 32, 51, 58, 55]).ps) (fnR (nth (L.frm [109, 97, 112, 32, 51, 58, 55]).ps))) (Int.ofNat 7) (Int.ofNat 1) (Int.ofNat 5) 0) (need (fitS (Int.ofNat 8) (len (L.frm [109, 97, 112, 32, 51, 58, 55]).q) (fnR (nth (L.frm [109, 97, 112, 32, 51, 58, 55]).q)) (len (L.frm [109, 97, 112, 32, 51, 58, 55]).ps) (fnR (nth (L.frm [109, 97, 112, 32, 51, 58, 55]).ps))) (need (L.isD (sQ (L.frm [109, 97, 112, 32, 51, 58, 55]).kind (L.frm [109, 97, 112, 32, 51, 58, 55]).num (len (L.frm [109, 97, 112, 32, 51, 58, 55]).q) (fnR (nth (L.frm [109, 97, 112, 32, 51, 58, 55]).q)) (len (L.frm [109, 97, 112, 32, 51, 58, 55]).ps) (fnR (nth (L.frm [109, 97, 112, 32, 51, 58, 55]).ps))) (Int.ofNat 8) (Int.ofNat 3) (Int.ofNat 0) 0) (need (fitS (Int.ofNat 1) (len (L.frm [109, 97, 112, 32, 51, 58, 55]).q) (fnR (nth (L.frm [109, 97, 112, 32, 51, 58, 55]).q)) (len (L.frm [109, 97, 112, 32, 51, 58, 55]).ps) (fnR (nth (L.frm [109, 97, 112, 32, 51, 58, 55]).ps))) (need (L.isD (sQ (L.frm [109, 97, 112, 32, 51, 58, 55]).kind (L.frm [109, 97, 112, 32, 51, 58, 55]).num (len (L.frm [109, 97, 112, 32, 51, 58, 55]).q) (fnR (nth (L.frm [109, 97, 112, 32, 51, 58, 55]).q)) (len (L.frm [109, 97, 112, 32, 51, 58, 55]).ps) (fnR (nth (L.frm [109, 97, 112, 32, 51, 58, 55]).ps))) (Int.ofNat 1) (Int.ofNat 0) (Int.ofNat 0) 1) (need (L.isF [114, 101, 103, 105, 115, 116, 101, 114, 32, 48, 49] 2) (node (A.eq (L.rt (sQ (L.frm [109, 97, 112, 32, 51, 58, 55]).kind (L.frm [109, 97, 112, 32, 51, 58, 55]).num (len (L.frm [109, 97, 112, 32, 51, 58, 55]).q) (fnR (nth (L.frm [109, 97, 112, 32, 51, 58, 55]).q)) (len (L.frm [109, 97, 112, 32, 51, 58, 55]).ps) (fnR (nth (L.frm [109, 97, 112, 32, 51, 58, 55]).ps))) (Int.ofNat 7) (Int.ofNat 1) (Int.ofNat 5)) (Int.ofNat 1)) (need (keyB (L.nx (sQ (L.frm [109, 97, 112, 32, 51, 58, 55]).kind (L.frm [109, 97, 112, 32, 51, 58, 55]).num (len (L.frm [109, 97, 112, 32, 51, 58, 55]).q) (fnR (nth (L.frm [109, 97, 112, 32, 51, 58, 55]).q)) (len (L.frm [109, 97, 112, 32, 51, 58, 55]).ps) (fnR (nth (L.frm [109, 97, 112, 32, 51, 58, 55]).ps))) (Int.ofNat 7) (Int.ofNat 1) (Int.ofNat 5)).kind (L.nx (sQ (L.frm [109, 97, 112, 32, 51, 58, 55]).kind (L.frm [109, 97, 112, 32, 51, 58, 55]).num (len (L.frm [109, 97, 112, 32, 51, 58, 55]).q) (fnR (nth (L.frm [109, 97, 112, 32, 51, 58, 55]).q)) (len (L.frm [109, 97, 112, 32, 51, 58, 55]).ps) (fnR (nth (L.frm [109, 97, 112, 32, 51, 58, 55]).ps))) (Int.ofNat 7) (Int.ofNat 1) (Int.ofNat 5)).num (len (L.nx (sQ (L.frm [109, 97, 112, 32, 51, 58, 55]).kind (L.frm [109, 97, 112, 32, 51, 58, 55]).num (len (L.frm [109, 97, 112, 32, 51, 58, 55]).q) (fnR (nth (L.frm [109, 97, 112, 32, 51, 58, 55]).q)) (len (L.frm [109, 97, 112, 32, 51, 58, 55]).ps) (fnR (nth (L.frm [109, 97, 112, 32, 51, 58, 55]).ps))) (Int.ofNat 7) (Int.ofNat 1) (Int.ofNat 5)).q) (fnR (nth (L.nx (sQ (L.frm [109, 97, 112, 32, 51, 58, 55]).kind (L.frm [109, 97, 112, 32, 51, 58, 55]).num (len (L.frm [109, 97, 112, 32, 51, 58, 55]).q) (fnR (nth (L.frm [109, 97, 112, 32, 51, 58, 55]).q)) (len (L.frm [109, 97, 112, 32, 51, 58, 55]).ps) (fnR (nth (L.frm [109, 97, 112, 32, 51, 58, 55]).ps))) (Int.ofNat 7) (Int.ofNat 1) (Int.ofNat 5)).q)) (len (L.nx (sQ (L.frm [109, 97, 112, 32, 51, 58, 55]).kind (L.frm [109, 97, 112, 32, 51, 58, 55]).num (len (L.frm [109, 97, 112, 32, 51, 58, 55]).q) (fnR (nth (L.frm [109, 97, 112, 32, 51, 58, 55]).q)) (len (L.frm [109, 97, 112, 32, 51, 58, 55]).ps) (fnR (nth (L.frm [109, 97, 112, 32, 51, 58, 55]).ps))) (Int.ofNat 7) (Int.ofNat 1) (Int.ofNat 5)).ps) (fnR (nth (L.nx (sQ (L.frm [109, 97, 112, 32, 51, 58, 55]).kind (L.frm [109, 97, 112, 32, 51, 58, 55]).num (len (L.frm [109, 97, 112, 32, 51, 58, 55]).q) (fnR (nth (L.frm [109, 97, 112, 32, 51, 58, 55]).q)) (len (L.frm [109, 97, 112, 32, 51, 58, 55]).ps) (fnR (nth (L.frm [109, 97, 112, 32, 51, 58, 55]).ps))) (Int.ofNat 7) (Int.ofNat 1) (Int.ofNat 5)).ps))) (node (A.seq (L.key (sQ (L.nx (sQ (L.frm [109, 97, 112, 32, 51, 58, 55]).kind (L.frm [109, 97, 112, 32, 51, 58, 55]).num (len (L.frm [109, 97, 112, 32, 51, 58, 55]).q) (fnR (nth (L.frm [109, 97, 112, 32, 51, 58, 55]).q)) (len (L.frm [109, 97, 112, 32, 51, 58, 55]).ps) (fnR (nth (L.frm [109, 97, 112, 32, 51, 58, 55]).ps))) (Int.ofNat 7) (Int.ofNat 1) (Int.ofNat 5)).kind (L.nx (sQ (L.frm [109, 97, 112, 32, 51, 58, 55]).kind (L.frm [109, 97, 112, 32, 51, 58, 55]).num (len (L.frm [109, 97, 112, 32, 51, 58, 55]).q) (fnR (nth (L.frm [109, 97, 112, 32, 51, 58, 55]).q)) (len (L.frm [109, 97, 112, 32, 51, 58, 55]).ps) (fnR (nth (L.frm [109, 97, 112, 32, 51, 58, 55]).ps))) (Int.ofNat 7) (Int.ofNat 1) (Int.ofNat 5)).num (len (L.nx (sQ (L.frm [109, 97, 112, 32, 51, 58, 55]).kind (L.frm [109, 97, 112, 32, 51, 58, 55]).num (len (L.frm [109, 97, 112, 32, 51, 58, 55]).q) (fnR (nth (L.frm [109, 97, 112, 32, 51, 58, 55]).q)) (len (L.frm [109, 97, 112, 32, 51, 58, 55]).ps) (fnR (nth (L.frm [109, 97, 112, 32, 51, 58, 55]).ps))) (Int.ofNat 7) (Int.ofNat 1) (Int.ofNat 5)).q) (fnR (nth (L.nx (sQ (L.frm [109, 97, 112, 32, 51, 58, 55]).kind (L.frm [109, 97, 112, 32, 51, 58, 55]).num (len (L.frm [109, 97, 112, 32, 51, 58, 55]).q) (fnR (nth (L.frm [109, 97, 112, 32, 51, 58, 55]).q)) (len (L.frm [109, 97, 112, 32, 51, 58, 55]).ps) (fnR (nth (L.frm [109, 97, 112, 32, 51, 58, 55]).ps))) (Int.ofNat 7) (Int.ofNat 1) (Int.ofNat 5)).q)) (len (L.nx (sQ (L.frm [109, 97, 112, 32, 51, 58, 55]).kind (L.frm [109, 97, 112, 32, 51, 58, 55]).num (len (L.frm [109, 97, 112, 32, 51, 58, 55]).q) (fnR (nth (L.frm [109, 97, 112, 32, 51, 58, 55]).q)) (len (L.frm [109, 97, 112, 32, 51, 58, 55]).ps) (fnR (nth (L.frm [109, 97, 112, 32, 51, 58, 55]).ps))) (Int.ofNat 7) (Int.ofNat 1) (Int.ofNat 5)).ps) (fnR (nth (L.nx (sQ (L.frm [109, 97, 112, 32, 51, 58, 55]).kind (L.frm [109, 97, 112, 32, 51, 58, 55]).num (len (L.frm [109, 97, 112, 32, 51, 58, 55]).q) (fnR (nth (L.frm [109, 97, 112, 32, 51, 58, 55]).q)) (len (L.frm [109, 97, 112, 32, 51, 58, 55]).ps) (fnR (nth (L.frm [109, 97, 112, 32, 51, 58, 55]).ps))) (Int.ofNat 7) (Int.ofNat 1) (Int.ofNat 5)).ps)))) [109, 97, 112, 32, 49, 58, 53, 32, 51, 58, 55]) (node (A.eq (L.rt (sQ (L.frm [109, 97, 112, 32, 51, 58, 55]).kind (L.frm [109, 97, 112, 32, 51, 58, 55]).num (len (L.frm [109, 97, 112, 32, 51, 58, 55]).q) (fnR (nth (L.frm [109, 97, 112, 32, 51, 58, 55]).q)) (len (L.frm [109, 97, 112, 32, 51, 58, 55]).ps) (fnR (nth (L.frm [109, 97, 112, 32, 51, 58, 55]).ps))) (Int.ofNat 8) (Int.ofNat 3) (Int.ofNat 0)) (Int.ofNat 3)) (node (A.eq (L.gt (sQ (L.frm [109, 97, 112, 32, 51, 58, 55]).kind (L.frm [109, 97, 112, 32, 51, 58, 55]).num (len (L.frm [109, 97, 112, 32, 51, 58, 55]).q) (fnR (nth (L.frm [109, 97, 112, 32, 51, 58, 55]).q)) (len (L.frm [109, 97, 112, 32, 51, 58, 55]).ps) (fnR (nth (L.frm [109, 97, 112, 32, 51, 58, 55]).ps))) (Int.ofNat 8) (Int.ofNat 3) (Int.ofNat 0)) (Int.ofNat 7)) (need (keyB (L.frm [109, 97, 112, 32, 51, 58, 55]).kind (L.frm [109, 97, 112, 32, 51, 58, 55]).num (len (L.frm [109, 97, 112, 32, 51, 58, 55]).q) (fnR (nth (L.frm [109, 97, 112, 32, 51, 58, 55]).q)) (len (L.frm [109, 97, 112, 32, 51, 58, 55]).ps) (fnR (nth (L.frm [109, 97, 112, 32, 51, 58, 55]).ps))) (leaf (Fe2.ret (Sh.b (A.seq (L.key (sQ (L.frm [109, 97, 112, 32, 51, 58, 55]).kind (L.frm [109, 97, 112, 32, 51, 58, 55]).num (len (L.frm [109, 97, 112, 32, 51, 58, 55]).q) (fnR (nth (L.frm [109, 97, 112, 32, 51, 58, 55]).q)) (len (L.frm [109, 97, 112, 32, 51, 58, 55]).ps) (fnR (nth (L.frm [109, 97, 112, 32, 51, 58, 55]).ps)))) [109, 97, 112, 32, 51, 58, 55]))))) (leaf (Fe2.ret (Sh.b false)))) (leaf (Fe2.ret (Sh.b false)))) (leaf (Fe2.ret (Sh.b false))))) (leaf (Fe2.ret (Sh.b false))))))))))) := by kernel_rfl
end Go.Proofs
namespace Go.Proofs
open Go.Sx.Tree
open Go Go.Sx Go.Pl
theorem all_a40 (A : Prim) (W : Wd) (L : Lg6) {ψ : Fe2 → Prop} {c0 c1 c2 c3 : Bool} (e0 : A.eq (L.rt (sQ (L.frm [109, 97, 112, 32, 51, 58, 55]).kind (L.frm [109, 97, 112, 32, 51, 58, 55]).num (len (L.frm [109, 97, 112, 32, 51, 58, 55]).q) (fnR (nth (L.frm [109, 97, 112, 32, 51, 58, 55]).q)) (len (L.frm [109, 97, 112, 32, 51, 58, 55]).ps) (fnR (nth (L.frm [109, 97, 112, 32, 51, 58, 55]).ps))) (Int.ofNat 7) (Int.ofNat 1) (Int.ofNat 5)) (Int.ofNat 1) = c0) (e1 : A.seq (L.key (sQ (L.nx (sQ (L.frm [109, 97, 112, 32, 51, 58, 55]).kind (L.frm [109, 97, 112, 32, 51, 58, 55]).num (len (L.frm [109, 97, 112, 32, 51, 58, 55]).q) (fnR (nth (L.frm [109, 97, 112, 32, 51, 58, 55]).q)) (len (L.frm [109, 97, 112, 32, 51, 58, 55]).ps) (fnR (nth (L.frm [109, 97, 112, 32, 51, 58, 55]).ps))) (Int.ofNat 7) (Int.ofNat 1) (Int.ofNat 5)).kind (L.nx (sQ (L.frm [109, 97, 112, 32, 51, 58, 55]).kind (L.frm [109, 97, 112, 32, 51, 58, 55]).num (len (L.frm [109, 97, 112, 32, 51, 58, 55]).q) (fnR (nth (L.frm [109, 97, 112, 32, 51, 58, 55]).q)) (len (L.frm [109, 97, 112, 32, 51, 58, 55]).ps) (fnR (nth (L.frm [109, 97, 112, 32, 51, 58, 55]).ps))) (Int.ofNat 7) (Int.ofNat 1) (Int.ofNat 5)).num (len (L.nx (sQ (L.frm [109, 97, 112, 32, 51, 58, 55]).kind (L.frm [109, 97, 112, 32, 51, 58, 55]).num (len (L.frm [109, 97, 112, 32, 51, 58, 55]).q) (fnR (nth (L.frm [109, 97, 112, 32, 51, 58, 55]).q)) (len (L.frm [109, 97, 112, 32, 51, 58, 55]).ps) (fnR (nth (L.frm [109, 97, 112, 32, 51, 58, 55]).ps))) (Int.ofNat 7) (Int.ofNat 1) (Int.ofNat 5)).q) (fnR (nth (L.nx (sQ (L.frm [109, 97, 112, 32, 51, 58, 55]).kind (L.frm [109, 97, 112, 32, 51, 58, 55]).num (len (L.frm [109, 97, 112, 32, 51, 58, 55]).q) (fnR (nth (L.frm [109, 97, 112, 32, 51, 58, 55]).q)) (len (L.frm [109, 97, 112, 32, 51, 58, 55]).ps) (fnR (nth (L.frm [109, 97, 112, 32, 51, 58, 55]).ps))) (Int.ofNat 7) (Int.ofNat 1) (Int.ofNat 5)).q)) (len (L.nx (sQ (L.frm [109, 97, 112, 32, 51, 58, 55]).kind (L.frm [109, 97, 112, 32, 51, 58, 55]).num (len (L.frm [109, 97, 112, 32, 51, 58, 55]).q) (fnR (nth (L.frm [109, 97, 112, 32, 51, 58, 55]).q)) (len (L.frm [109, 97, 112, 32, 51, 58, 55]).ps) (fnR (nth (L.frm [109, 97, 112, 32, 51, 58, 55]).ps))) (Int.ofNat 7) (Int.ofNat 1) (Int.ofNat 5)).ps) (fnR (nth (L.nx (sQ (L.frm [109, 97, 112, 32, 51, 58, 55]).kind (L.frm [109, 97, 112, 32, 51, 58, 55]).num (len (L.frm [109, 97, 112, 32, 51, 58, 55]).q) (fnR (nth (L.frm [109, 97, 112, 32, 51, 58, 55]).q)) (len (L.frm [109, 97, 112, 32, 51, 58, 55]).ps) (fnR (nth (L.frm [109, 97, 112, 32, 51, 58, 55]).ps))) (Int.ofNat 7) (Int.ofNat 1) (Int.ofNat 5)).ps)))) [109, 97, 112, 32, 49, 58, 53, 32, 51, 58, 55] = c1) (e2 : A.eq (L.rt (sQ (L.frm [109, 97, 112, 32, 51, 58, 55]).kind (L.frm [109, 97, 112, 32, 51, 58, 55]).num (len (L.frm [109, 97, 112, 32, 51, 58, 55]).q) (fnR (nth (L.frm [109, 97, 112, 32, 51, 58, 55]).q)) (len (L.frm [109, 97, 112, 32, 51, 58, 55]).ps) (fnR (nth (L.frm [109, 97, 112, 32, 51, 58, 55]).ps))) (Int.ofNat 8) (Int.ofNat 3) (Int.ofNat 0)) (Int.ofNat 3) = c2) (e3 : A.eq (L.gt (sQ (L.frm [109, 97, 112, 32, 51, 58, 55]).kind (L.frm [109, 97, 112, 32, 51, 58, 55]).num (len (L.frm [109, 97, 112, 32, 51, 58, 55]).q) (fnR (nth (L.frm [109, 97, 112, 32, 51, 58, 55]).q)) (len (L.frm [109, 97, 112, 32, 51, 58, 55]).ps) (fnR (nth (L.frm [109, 97, 112, 32, 51, 58, 55]).ps))) (Int.ofNat 8) (Int.ofNat 3) (Int.ofNat 0)) (Int.ofNat 7) = c3) (h1 : (L.isF [109, 97, 112, 32, 51, 58, 55] 0) = true) (h2 : (fitS (Int.ofNat 7) (len (L.frm [109, 97, 112, 32, 51, 58, 55]).q) (fnR (nth (L.frm [109, 97, 112, 32, 51, 58, 55]).q)) (len (L.frm [109, 97, 112, 32, 51, 58, 55]).ps) (fnR (nth (L.frm [109, 97, 112, 32, 51, 58, 55]).ps))) = true) (h3 : (L.isD (sQ (L.frm [109, 97, 112, 32, 51, 58, 55]).kind (L.frm [109, 97, 112, 32, 51, 58, 55]).num (len (L.frm [109, 97, 112, 32, 51, 58, 55]).q) (fnR (nth (L.frm [109, 97, 112, 32, 51, 58, 55]).q)) (len (L.frm [109, 97, 112, 32, 51, 58, 55]).ps) (fnR (nth (L.frm [109, 97, 112, 32, 51, 58, 55]).ps))) (Int.ofNat 7) (Int.ofNat 1) (Int.ofNat 5) 0) = true) (h4 : (fitS (Int.ofNat 8) (len (L.frm [109, 97, 112, 32, 51, 58, 55]).q) (fnR (nth (L.frm [109, 97, 112, 32, 51, 58, 55]).q)) (len (L.frm [109, 97, 112, 32, 51, 58, 55]).ps) (fnR (nth (L.frm [109, 97, 112, 32, 51, 58, 55]).ps))) = true) (h5 : (L.isD (sQ (L.frm [109, 97, 112, 32, 51, 58, 55]).kind (L.frm [109, 97, 112, 32, 51, 58, 55]).num (len (L.frm [109, 97, 112, 32, 51, 58, 55]).q) (fnR (nth (L.frm [109, 97, 112, 32, 51, 58, 55]).q)) (len (L.frm [109, 97, 112, 32, 51, 58, 55]).ps) (fnR (nth (L.frm [109, 97, 112, 32, 51, 58, 55]).ps))) (Int.ofNat 8) (Int.ofNat 3) (Int.ofNat 0) 0) = true) (h6 : (fitS (Int.ofNat 1) (len (L.frm [109, 97, 112, 32, 51, 58, 55]).q) (fnR (nth (L.frm [109, 97, 112, 32, 51, 58, 55]).q)) (len (L.frm [109, 97, 112, 32, 51, 58, 55]).ps) (fnR (nth (L.frm [109, 97, 112, 32, 51, 58, 55]).ps))) = true) (h7 : (L.isD (sQ (L.frm [109, 97, 112, 32, 51, 58, 55]).kind (L.frm [109, 97, 112, 32, 51, 58, 55]).num (len (L.frm [109, 97, 112, 32, 51, 58, 55]).q) (fnR (nth (L.frm [109, 97, 112, 32, 51, 58, 55]).q)) (len (L.frm [109, 97, 112, 32, 51, 58, 55]).ps) (fnR (nth (L.frm [109, 97, 112, 32, 51, 58, 55]).ps))) (Int.ofNat 1) (Int.ofNat 0) (Int.ofNat 0) 1) = true) (h8 : (L.isF [114, 101, 103, 105, 115, 116, 101, 114, 32, 48, 49] 2) = true) (h9 : c0 = true → (keyB (L.nx (sQ (L.frm [109, 97, 112, 32, 51, 58, 55]).kind (L.frm [109, 97, 112, 32, 51, 58, 55]).num (len (L.frm [109, 97, 112, 32, 51, 58, 55]).q) (fnR (nth (L.frm [109, 97, 112, 32, 51, 58, 55]).q)) (len (L.frm [109, 97, 112, 32, 51, 58, 55]).ps) (fnR (nth (L.frm [109, 97, 112, 32, 51, 58, 55]).ps))) (Int.ofNat 7) (Int.ofNat 1) (Int.ofNat 5)).kind (L.nx (sQ (L.frm [109, 97, 112, 32, 51, 58, 55]).kind (L.frm [109, 97, 112, 32, 51, 58, 55]).num (len (L.frm [109, 97, 112, 32, 51, 58, 55]).q) (fnR (nth (L.frm [109, 97, 112, 32, 51, 58, 55]).q)) (len (L.frm [109, 97, 112, 32, 51, 58, 55]).ps) (fnR (nth (L.frm [109, 97, 112, 32, 51, 58, 55]).ps))) (Int.ofNat 7) (Int.ofNat 1) (Int.ofNat 5)).num (len (L.nx (sQ (L.frm [109, 97, 112, 32, 51, 58, 55]).kind (L.frm [109, 97, 112, 32, 51, 58, 55]).num (len (L.frm [109, 97, 112, 32, 51, 58, 55]).q) (fnR (nth (L.frm [109, 97, 112, 32, 51, 58, 55]).q)) (len (L.frm [109, 97, 112, 32, 51, 58, 55]).ps) (fnR (nth (L.frm [109, 97, 112, 32, 51, 58, 55]).ps))) (Int.ofNat 7) (Int.ofNat 1) (Int.ofNat 5)).q) (fnR (nth (L.nx (sQ (L.frm [109, 97, 112, 32, 51, 58, 55]).kind (L.frm [109, 97, 112, 32, 51, 58, 55]).num (len (L.frm [109, 97, 112, 32, 51, 58, 55]).q) (fnR (nth (L.frm [109, 97, 112, 32, 51, 58, 55]).q)) (len (L.frm [109, 97, 112, 32, 51, 58, 55]).ps) (fnR (nth (L.frm [109, 97, 112, 32, 51, 58, 55]).ps))) (Int.ofNat 7) (Int.ofNat 1) (Int.ofNat 5)).q)) (len (L.nx (sQ (L.frm [109, 97, 112, 32, 51, 58, 55]).kind (L.frm [109, 97, 112, 32, 51, 58, 55]).num (len (L.frm [109, 97, 112, 32, 51, 58, 55]).q) (fnR (nth (L.frm [109, 97, 112, 32, 51, 58, 55]).q)) (len (L.frm [109, 97, 112, 32, 51, 58, 55]).ps) (fnR (nth (L.frm [109, 97, 112, 32, 51, 58, 55]).ps))) (Int.ofNat 7) (Int.ofNat 1) (Int.ofNat 5)).ps) (fnR (nth (L.nx (sQ (L.frm [109, 97, 112, 32, 51, 58, 55]).kind (L.frm [109, 97, 112, 32, 51, 58, 55]).num (len (L.frm [109, 97, 112, 32, 51, 58, 55]).q) (fnR (nth (L.frm [109, 97, 112, 32, 51, 58, 55]).q)) (len (L.frm [109, 97, 112, 32, 51, 58, 55]).ps) (fnR (nth (L.frm [109, 97, 112, 32, 51, 58, 55]).ps))) (Int.ofNat 7) (Int.ofNat 1) (Int.ofNat 5)).ps))) = true) (h10 : c0 = true → c1 = true → c2 = true → c3 = true → (keyB (L.frm [109, 97, 112, 32, 51, 58, 55]).kind (L.frm [109, 97, 112, 32, 51, 58, 55]).num (len (L.frm [109, 97, 112, 32, 51, 58, 55]).q) (fnR (nth (L.frm [109, 97, 112, 32, 51, 58, 55]).q)) (len (L.frm [109, 97, 112, 32, 51, 58, 55]).ps) (fnR (nth (L.frm [109, 97, 112, 32, 51, 58, 55]).ps))) = true) (y1 : c0 = true → c1 = true → c2 = true → c3 = true → ψ (Fe2.ret (Sh.b (A.seq (L.key (sQ (L.frm [109, 97, 112, 32, 51, 58, 55]).kind (L.frm [109, 97, 112, 32, 51, 58, 55]).num (len (L.frm [109, 97, 112, 32, 51, 58, 55]).q) (fnR (nth (L.frm [109, 97, 112, 32, 51, 58, 55]).q)) (len (L.frm [109, 97, 112, 32, 51, 58, 55]).ps) (fnR (nth (L.frm [109, 97, 112, 32, 51, 58, 55]).ps)))) [109, 97, 112, 32, 51, 58, 55])))) (y2 : c0 = true → c1 = true → c2 = true → c3 = false → ψ (Fe2.ret (Sh.b false))) (y3 : c0 = true → c1 = true → c2 = false → ψ (Fe2.ret (Sh.b false))) (y4 : c0 = true → c1 = false → ψ (Fe2.ret (Sh.b false))) (y5 : c0 = false → ψ (Fe2.ret (Sh.b false))) : MeetsT ψ (runTo (C7 A W (spec40 L) sAl) nH0 300 400 40 [.code []] (start0 88 [] L0) [] []) := by
 subst e0 e1 e2 e3
 rw [a40 A W L, meetsT_eq]
 exact ⟨(h1), ⟨(h2), ⟨(h3), ⟨(h4), ⟨(h5), ⟨(h6), ⟨(h7), ⟨(h8), ⟨fun q0 => ⟨(h9 q0), ⟨fun q1 => ⟨fun q2 => ⟨fun q3 => ⟨(h10 q0 q1 q2 q3), (y1 q0 q1 q2 q3)⟩, fun q3 => (y2 q0 q1 q2 q3)⟩, fun q2 => (y3 q0 q1 q2)⟩, fun q1 => (y4 q0 q1)⟩⟩, fun q0 => (y5 q0)⟩⟩⟩⟩⟩⟩⟩⟩⟩
end Go.Proofs
namespace Go.Pl
open Go Go.Sx Go.Proofs
def codD (s : Sta) (op k v : Int) : Nat := if badOp s.kind op = true then 1 else if badKV s.kind s.num op k v = true then 2 else 0
noncomputable def L6 : Lg6 where
 key := keyS
 frm := stO
 isF l c := isC6 l c && lenK l
 nx s op k v := (opT s op k v).1
 rt s op k v := (opT s op k v).2.1
 gt s op k v := (opT s op k v).2.2
 isD s op k v c := codD s op k v == c
theorem codD0 {s : Sta} {op k v : Int} (h : codD s op k v = 0) : badOp s.kind op = false ∧ badKV s.kind s.num op k v = false := by
 unfold codD at h
 cases h1 : badOp s.kind op <;> cases h2 : badKV s.kind s.num op k v <;> simp [h1, h2] at h ⊢
theorem codD1 {s : Sta} {op k v : Int} (h : codD s op k v = 1) : badOp s.kind op = true := by
 unfold codD at h
 cases h1 : badOp s.kind op <;> cases h2 : badKV s.kind s.num op k v <;> simp [h1, h2] at h ⊢
theorem from1 : fromS [109, 97, 112, 32, 51, 58, 55] = some (⟨4, 0, [], [⟨3, 7⟩]⟩, false) := by kernel_rfl
theorem from2 : fromS [114, 101, 103, 105, 115, 116, 101, 114, 32, 48, 49] = none := by kernel_rfl
end Go.Pl
namespace Go.Proofs
open Go Go.Sx Go.Pl
theorem OH46 : FnOK Tryz.prog (gls7 W7) 46 (H46 L6) := by
 intro H w shs args φ hon hg hr h
 refine O46 H w shs args φ hon hg hr ?_
 unfold H46 at h
 unfold F46
 split at h
 ·rename_i l
  have two (q : isC6 l 2 = true) (r : isC6 l 0 = true) : False := by
   have q := eq_of_beq q
   have r := eq_of_beq r
   omega
  have four (q : isC6 l 4 = true) (r : isC6 l 0 = true) : False := by
   have q := eq_of_beq q
   have r := eq_of_beq r
   omega
  cases hb : Nat.beq l.length 7 with
  | true =>
   rw [hb] at h
   obtain ⟨h1, h2⟩ := h
   have h1 : (isC6 l 0 && lenK l) = true := h1
   rw [Bool.and_eq_true] at h1
   exact ⟨h1.2, fun q => (two q h1.1).elim, fun _ => ⟨fun q => (four q h1.1).elim, fun _ => h2⟩⟩
  | false =>
   rw [hb] at h
   obtain ⟨h1, h2⟩ := h
   have h1 : (isC6 l 2 && lenK l) = true := h1
   rw [Bool.and_eq_true] at h1
   exact ⟨h1.2, fun _ => h2, fun q => by rw [h1.1] at q; cases q⟩
 ·exact h.elim
theorem OH42 : FnOK Tryz.prog (gls7 W7) 42 (H42 L6) := by
 intro H w shs args φ hon hg hr h
 refine O42 H w shs args φ hon hg hr ?_
 unfold H42 at h
 unfold F42
 split at h
 ·split at h
  ·rename_i e1 e2 e3 e4 e5
   obtain ⟨h1, h2, h3⟩ := h
   have h1 : (((_ && _) && _) && _) = true := h1
   rw [Bool.and_eq_true, Bool.and_eq_true, Bool.and_eq_true] at h1
   have h2 : codD _ _ _ _ = 1 := eq_of_beq h2
   simp only [e1, e2, e3, e4, e5]
   exact ⟨h1.1.1.1, h1.1.1.2, h1.1.2, fun _ => h3, fun q => no2 q (codD1 h2)⟩
  ·rename_i e1 e2 e3 e4 e5
   obtain ⟨h1, h2, h3⟩ := h
   have h1 : (((_ && _) && _) && _) = true := h1
   rw [Bool.and_eq_true, Bool.and_eq_true, Bool.and_eq_true] at h1
   have h2 : codD _ _ _ _ = 0 := eq_of_beq h2
   simp only [e1, e2, e3, e4, e5]
   obtain ⟨c1, c2⟩ := codD0 h2
   exact ⟨h1.1.1.1, h1.1.1.2, h1.1.2, fun q => no2 c1 q, fun q => ⟨fun q2 => no2 c2 q2, fun q2 => ⟨h1.2, h3⟩⟩⟩
  ·exact h.elim
 ·exact h.elim
theorem fok40 (stop : Nat → List Nat → Bool) : FnsOK Tryz.prog (C7 prim W7 (spec40 L6) stop) := C7.fok (fun g F h => by
 unfold spec40 at h
 split at h
 ·cases h; exact O35k
 ·cases h; exact OH42
 ·cases h; exact OH46
 ·cases h) fun g h => by
 unfold spec40 at h
 split at h
 all_goals first | (cases h; done) | kernel_rfl
def F40 : List Sh → Tree Sh
 | [] => .leaf (.v (.bool true))
 | _ => .fail
theorem O40 : FnOK Tryz.prog (gls7 W7) 40 F40 := by
 refine fnOK_Su (C := C7 prim W7 (spec40 L6) sAl) (C7.ok _ _) (fn := Tryz.f40) (by kernel_rfl) (by kernel_rfl) fun H w shs args φ hrep h => ?_
 have hn : Tryz.f40.ntmps = 88 := by kernel_rfl
 unfold F40 at h
 split at h
 ·refine ⟨[], hrep, L0, ?_⟩
  have hφ : up φ (.b true) := up_mk (s' := .v (.bool true)) (.inr rfl) h
  have s1 : L6.frm [109, 97, 112, 32, 51, 58, 55] = ⟨4, 0, [], [⟨3, 7⟩]⟩ := by show stO _ = _; unfold stO; rw [from1]
  refine gSt (C7.ok _ _) (fok40 _) (hold := nH0) (m := 300) (n := 400) (ts := []) ?_
  rw [hn]
  refine all_a40 prim W7 L6 rfl rfl rfl rfl ?_ ?_ ?_ ?_ ?_ ?_ ?_ ?_ ?_ ?_ ?_ ?_ ?_ ?_ ?_
  all_goals (try simp only [sQ_eq])
  all_goals (try simp only [s1])
  ·show (isC6 _ 0 && lenK _) = true
   unfold isC6 codF
   rw [from1]; rfl
  ·kernel_rfl
  ·kernel_rfl
  ·kernel_rfl
  ·kernel_rfl
  ·kernel_rfl
  ·kernel_rfl
  ·show (isC6 _ 2 && lenK _) = true
   unfold isC6 codF
   rw [from2]; rfl
  ·intro _; kernel_rfl
  ·intro _ _ _ _; kernel_rfl
  ·intro _ _ _ _
   have : prim.seq (L6.key ⟨4, 0, [], [⟨3, 7⟩]⟩) [109, 97, 112, 32, 51, 58, 55] = true := by kernel_rfl
   rw [this]
   exact hφ
  ·intro _ _ _ q; exact no2 q (by kernel_rfl)
  ·intro _ _ q; exact no2 q (by kernel_rfl)
  ·intro _ q; exact no2 q (by kernel_rfl)
  ·intro q; exact no2 q (by kernel_rfl)
 ·exact h.elim
end Go.Proofs
namespace Go.Pl
open Go Go.Sx
structure Ll6 where
 enq : (Nat → Int) → Nat → Nat → Int → Nat → Int
end Go.Pl
namespace Go.Proofs
open Go Go.Sx Go.Pl
end Go.Proofs
namespace Go.Proofs
open Go Go.Sx Go.Pl
end Go.Proofs
namespace Go.Proofs
open Go Go.Sx Go.Pl
theorem res_q4 {H H' : Mem} {w w' : World} {v : Value} {X Y Z : Sh} {a b r g : Int} (h : SpecRes H w (.tup [.agg [.i .i64 a, .i .i64 b, X, Y], .i .i64 r, .i .i64 g, Z]) v H' w') : SpecRes H w (.tup [.agg [.v (.int .i64 a), .v (.int .i64 b), X, Y], .v (.int .i64 r), .v (.int .i64 g), Z]) v H' w' :=
 ⟨h.Hle, h.on, h.os, h.tape, h.output, h.size, h.old, h.fresh, fun b0 => by
  obtain ⟨E1, a1, a2, ⟨⟨vs⟩, e, hd⟩, a4⟩ := h.res b0
  refine ⟨E1, a1, a2, ⟨⟨vs⟩, e, ?_⟩, a4⟩
  match vs, hd with
  | [x, y, z, u], ⟨h1, h2, h3, h4, _⟩ =>
   obtain ⟨⟨us⟩, e2, hd2⟩ := h1
   refine ⟨⟨⟨us⟩, e2, ?_⟩, h2, h3, h4, trivial⟩
   match us, hd2 with
   | [p, q, m, n], ⟨k1, k2, k3, k4, _⟩ => exact ⟨k1, k2, k3, k4, trivial⟩⟩
theorem res_q1 {H H' : Mem} {w w' : World} {v : Value} {X Y Z : Sh} {a b : Int} (h : SpecRes H w (.tup [.agg [.i .i64 a, .i .i64 b, X, Y], Z]) v H' w') : SpecRes H w (.tup [.agg [.v (.int .i64 a), .v (.int .i64 b), X, Y], Z]) v H' w' :=
 ⟨h.Hle, h.on, h.os, h.tape, h.output, h.size, h.old, h.fresh, fun b0 => by
  obtain ⟨E1, a1, a2, ⟨⟨vs⟩, e, hd⟩, a4⟩ := h.res b0
  refine ⟨E1, a1, a2, ⟨⟨vs⟩, e, ?_⟩, a4⟩
  match vs, hd with
  | [x, u], ⟨h1, h4, _⟩ =>
   obtain ⟨⟨us⟩, e2, hd2⟩ := h1
   refine ⟨⟨⟨us⟩, e2, ?_⟩, h4, trivial⟩
   match us, hd2 with
   | [p, q, m, n], ⟨k1, k2, k3, k4, _⟩ => exact ⟨k1, k2, k3, k4, trivial⟩⟩
section
variable {H0 : Mem} {w0 : World} {φ : Sh → Prop} {n : Nat} {w : Nat → Int}
end
end Go.Proofs
namespace Go.Pl
open Go Go.Sx Go.Proofs
def SortP (ps : List Pr) : Prop := ps.Pairwise fun a b => a.key < b.key
def getP (ps : List Pr) (k : Int) : Option Int := (ps.find? fun p => p.key == k).map (·.val)
theorem pos_lt {a : Pr} {ps : List Pr} {k : Int} (h : a.key < k) : posP (a :: ps) k = posP ps k + 1 := by simp [posP, List.takeWhile, h]
theorem pos_ge {a : Pr} {ps : List Pr} {k : Int} (h : ¬ a.key < k) : posP (a :: ps) k = 0 := by simp [posP, List.takeWhile, h]
theorem has_ne {a : Pr} {ps : List Pr} {k : Int} (h : a.key ≠ k) : hasP (a :: ps) k = hasP ps k := by simp [hasP, h]
theorem has_eq {a : Pr} {ps : List Pr} {k : Int} (h : a.key = k) : hasP (a :: ps) k = true := by simp [hasP, h]
theorem has_gt {ps : List Pr} {k : Int} (h : ∀ p ∈ ps, k < p.key) : hasP ps k = false := by
 unfold hasP
 rw [List.any_eq_false]
 intro p hp
 have := h p hp
 simp; omega
theorem sort_cons {a : Pr} {ps : List Pr} (h : SortP (a :: ps)) : (∀ p ∈ ps, a.key < p.key) ∧ SortP ps := List.pairwise_cons.1 h
theorem put_lt {a : Pr} {ps : List Pr} {k v : Int} (h : a.key < k) : putP (a :: ps) k v = a :: putP ps k v := by
 unfold putP
 rw [has_ne (by omega), pos_lt h]
 split <;> simp
theorem put_eq {a : Pr} {ps : List Pr} {k v : Int} (h : a.key = k) : putP (a :: ps) k v = ⟨k, v⟩ :: ps := by
 unfold putP
 rw [has_eq h, pos_ge (by omega)]
 simp
theorem put_gt {a : Pr} {ps : List Pr} {k v : Int} (hs : SortP (a :: ps)) (h : k < a.key) : putP (a :: ps) k v = ⟨k, v⟩ :: a :: ps := by
 have := (sort_cons hs).1
 unfold putP
 rw [has_ne (by omega), has_gt (fun p hp => by have := this p hp; omega), pos_ge (by omega)]
 simp
theorem del_lt {a : Pr} {ps : List Pr} {k : Int} (h : a.key < k) : delP (a :: ps) k = a :: delP ps k := by
 unfold delP
 rw [has_ne (by omega), pos_lt h]
 split <;> simp
theorem del_eq {a : Pr} {ps : List Pr} {k : Int} (h : a.key = k) : delP (a :: ps) k = ps := by
 unfold delP
 rw [has_eq h, pos_ge (by omega)]
 simp
theorem del_gt {a : Pr} {ps : List Pr} {k : Int} (hs : SortP (a :: ps)) (h : k < a.key) : delP (a :: ps) k = a :: ps := by
 have := (sort_cons hs).1
 unfold delP
 rw [has_ne (by omega), has_gt (fun p hp => by have := this p hp; omega)]
 simp
theorem put_keys {k v : Int} : ∀ {ps : List Pr}, SortP ps → (∀ p ∈ putP ps k v, p.key = k ∨ ∃ q ∈ ps, q.key = p.key) ∧ SortP (putP ps k v)
 | [], _ => by
  have e : putP [] k v = [⟨k, v⟩] := by simp [putP, hasP, posP]
  rw [e]
  exact ⟨fun p hp => .inl (by have e : p = ⟨k, v⟩ := (by simpa using hp); rw [e]), List.pairwise_singleton _ _⟩
 | a :: ps, hs => by
  obtain ⟨h1, h2⟩ := sort_cons hs
  obtain ⟨i1, i2⟩ := put_keys (k := k) (v := v) h2
  by_cases c1 : a.key < k
  ·rw [put_lt c1]
   refine ⟨fun p hp => ?_, List.pairwise_cons.2 ⟨fun p hp => ?_, i2⟩⟩
   ·rcases List.mem_cons.1 hp with rfl | hp
    ·exact .inr ⟨_, List.mem_cons_self, rfl⟩
    ·rcases i1 p hp with h | ⟨q, hq, e⟩
     ·exact .inl h
     ·exact .inr ⟨q, List.mem_cons_of_mem _ hq, e⟩
   ·rcases i1 p hp with h | ⟨q, hq, e⟩
    ·omega
    ·have := h1 q hq; omega
  ·by_cases c2 : a.key = k
   ·rw [put_eq c2]
    refine ⟨fun p hp => ?_, List.pairwise_cons.2 ⟨fun p hp => ?_, h2⟩⟩
    ·rcases List.mem_cons.1 hp with rfl | hp
     ·exact .inl rfl
     ·exact .inr ⟨p, List.mem_cons_of_mem _ hp, rfl⟩
    ·have := h1 p hp
     show k < p.key
     omega
   ·rw [put_gt hs (by omega)]
    refine ⟨fun p hp => ?_, List.pairwise_cons.2 ⟨fun p hp => ?_, hs⟩⟩
    ·rcases List.mem_cons.1 hp with rfl | hp
     ·exact .inl rfl
     ·exact .inr ⟨p, hp, rfl⟩
    ·show k < p.key
     rcases List.mem_cons.1 hp with rfl | hp
     ·omega
     ·have := h1 p hp; omega
theorem del_keys {k : Int} : ∀ {ps : List Pr}, SortP ps → (∀ p ∈ delP ps k, p ∈ ps) ∧ SortP (delP ps k)
 | [], hs => ⟨fun p hp => by simp [delP, hasP] at hp, by simp [delP, hasP]; exact List.Pairwise.nil⟩
 | a :: ps, hs => by
  obtain ⟨h1, h2⟩ := sort_cons hs
  obtain ⟨i1, i2⟩ := del_keys (k := k) h2
  by_cases c1 : a.key < k
  ·rw [del_lt c1]
   refine ⟨fun p hp => ?_, List.pairwise_cons.2 ⟨fun p hp => h1 p (i1 p hp), i2⟩⟩
   rcases List.mem_cons.1 hp with rfl | hp
   ·exact List.mem_cons_self
   ·exact List.mem_cons_of_mem _ (i1 p hp)
  ·by_cases c2 : a.key = k
   ·rw [del_eq c2]
    exact ⟨fun p hp => List.mem_cons_of_mem _ hp, h2⟩
   ·rw [del_gt hs (by omega)]
    exact ⟨fun p hp => hp, hs⟩
theorem get_cons (a : Pr) (ps : List Pr) (k : Int) : getP (a :: ps) k = if a.key = k then some a.val else getP ps k := by
 unfold getP
 by_cases h : a.key = k
 ·simp [List.find?, h]
 ·have e : (a.key == k) = false := by simp [h]
  simp [List.find?, e, h]
theorem get_put {k v : Int} : ∀ {ps : List Pr}, SortP ps → ∀ j, getP (putP ps k v) j = if j = k then some v else getP ps j
 | [], _, j => by
  have e : putP [] k v = [⟨k, v⟩] := by simp [putP, hasP, posP]
  rw [e, get_cons]
  by_cases h : j = k
  ·rw [if_pos h.symm, if_pos h]
  ·rw [if_neg (fun e => h e.symm), if_neg h]
 | a :: ps, hs, j => by
  have ih := get_put (k := k) (v := v) (sort_cons hs).2 j
  by_cases c1 : a.key < k
  ·rw [put_lt c1, get_cons, get_cons, ih]
   by_cases h : a.key = j
   ·rw [if_pos h, if_neg (by omega), if_pos h]
   ·rw [if_neg h, if_neg h]
  ·by_cases c2 : a.key = k
   ·rw [put_eq c2, get_cons, get_cons]
    by_cases h : j = k
    ·rw [if_pos h.symm, if_pos h]
    ·rw [if_neg (fun e => h e.symm), if_neg h, if_neg (by omega)]
   ·rw [put_gt hs (by omega), get_cons]
    by_cases h : j = k
    ·rw [if_pos h.symm, if_pos h]
    ·rw [if_neg (fun e => h e.symm), if_neg h]
end Go.Pl
namespace Go.Pl
open Go Go.Sx
structure Ca where
 op : Int
 key : Int
 val : Int
 deriving DecidableEq, Inhabited
def caR (e : Ca) : List Sh := [.i .i64 e.op, .i .i64 e.key, .i .i64 e.val]
instance : Row Ca where
 put := caR
 get l := match l with
  | [.i .i64 a, .i .i64 b, .i .i64 c] => some ⟨a, b, c⟩
  | _ => none
 put_get l a h := by
  split at h
  ·cases h; rfl
  ·cases h
 get_put a := rfl
 dft := ⟨0, 0, 0⟩
def okM (b : Nat) (l : Nat → List Sh) : Bool := wfG b l && roomB (b + 1) 16
end Go.Pl
namespace Go.Proofs
open Go Go.Sx Go.Pl
noncomputable def erZ (e : Nat) : Sh := .tup [.agg [.v (.int .i64 0), .v (.int .i64 0), .sl 1 0 noI, .sl 2 0 noP], .v (.int .i64 0), .v (.int .i64 0), .er e 242]
end Go.Proofs
namespace Go.Proofs
open Go Go.Sx Go.Pl
end Go.Proofs
