/-
  Chapters 6 and 7: summaries: what an operation makes of a state (but for maps); a store as it begins. Chapters 6 and 7: summaries: an operation on a state (but for maps); a store as it begins. Chapters 6 and 7: a store's key; evaluated. Chapters 6 and 7: summary: a store's key. Chapters 6 and 7: an operation on a store, a store's key; evaluated. Chapters 6 and 7: summary: an operation on a store (but for maps). Chapters 6 and 7: whether lists, states, stores are the same; evaluated. Chapters 6 and 7: whether lists are the same: summaries. Own work (the loops are written by program, mk714.py). Chapters 6 and 7: whether states, stores are the same; evaluated. Chapters 6 and 7: whether states are the same; the places at which stores differ: summaries. Chapter 6: a run's tree holds: said so that Lean does not unfold the run; small rules. Chapter 6: a word's kind, a word's number; evaluated. Chapter 6: a word's kind, number: the evaluated trees as lemmas, Chapter 6: a word cut, a word's kind, a word's number. Chapter 6: the state that a key tells; evaluated. Chapter 6: From, its beginning: the evaluated trees as lemmas,
-/
import Derived.Test.YtikaakiadiaeoaaGreatDoorB08
namespace Go.Pl
open Go Go.Sx
def badOp (x op : Int) : Bool := decide (x = 0) || !decide (ofOp op = x)
def badKV (x y op k v : Int) : Bool :=
 (!decide (k = 0) && !keyed op) || decide (k < 0) || decide (1000 < k) || (!decide (v = 0) && !valued op) || decide (v < -1000000000) || decide (1000000000 < v) || (decide (op = 3) && beyondB x 0 (addW y v))
end Go.Pl
namespace Go.Proofs
open Go Go.Sx Go.Pl
theorem O66 : FnOK Tryz.prog (gls7 W7) 66 F66 := by
 refine fnOK_Ru (C := C7 prim W7 specA sAl) (C7.ok _ _) (fokA _) (m := 300) (n := 400) (L := L0) (fn := Tryz.f66) (by kernel_rfl) (by kernel_rfl) fun H w shs args φ hrep h => ?_
 have hn : Tryz.f66.ntmps = 17 := by kernel_rfl
 unfold F66 at h
 split at h
 ·rename_i t
  split at h
  ·rename_i op ht
   match args, hrep with
   | [v], ⟨hv, _⟩ =>
    refine ⟨[.i .i64 op], ⟨icK ht hv, trivial⟩, ?_⟩
    rw [hn, a66 prim W7 op]
    have key (n : Int) (e : ofOp op = n) : up φ (.i .i64 n) := up_mk (s' := .i .i64 (ofOp op)) (by rw [e]; rfl) h
    have q1 : Int.ofNat 1 = 1 := rfl
    have q2 : Int.ofNat 2 = 2 := rfl
    have q3 : Int.ofNat 3 = 3 := rfl
    have q4 : Int.ofNat 4 = 4 := rfl
    have q5 : Int.ofNat 5 = 5 := rfl
    have q6 : Int.ofNat 6 = 6 := rfl
    have q7 : Int.ofNat 7 = 7 := rfl
    have q8 : Int.ofNat 8 = 8 := rfl
    have q9 : Int.ofNat 9 = 9 := rfl
    have q0 : Int.ofNat 0 = 0 := rfl
    simp only [prim_eq, q0, q1, q2, q3, q4, q5, q6, q7, q8, q9]
    refine ⟨fun _ => key _ ?_, fun _ => ⟨fun _ => key _ ?_, fun _ => ⟨fun _ => key _ ?_, fun _ => ⟨fun _ => key _ ?_, fun _ => ⟨fun _ => key _ ?_, fun _ => ⟨fun _ => key _ ?_, fun _ => ⟨fun _ => key _ ?_, fun _ => ⟨fun _ => key _ ?_, fun _ => ⟨fun _ => key _ ?_, fun _ => key _ ?_⟩⟩⟩⟩⟩⟩⟩⟩⟩
    all_goals (simp_all [ofOp])
  ·exact h.elim
 ·exact h.elim
theorem O67 : FnOK Tryz.prog (gls7 W7) 67 F67 := by
 refine fnOK_Ru (C := C7 prim W7 specA sAl) (C7.ok _ _) (fokA _) (m := 300) (n := 400) (L := L0) (fn := Tryz.f67) (by kernel_rfl) (by kernel_rfl) fun H w shs args φ hrep h => ?_
 have hn : Tryz.f67.ntmps = 13 := by kernel_rfl
 unfold F67 at h
 split at h
 ·rename_i t
  split at h
  ·rename_i op ht
   match args, hrep with
   | [v], ⟨hv, _⟩ =>
    refine ⟨[.i .i64 op], ⟨icK ht hv, trivial⟩, ?_⟩
    rw [hn, a67 prim W7 op]
    have key (n : Bool) (e : keyed op = n) : up φ (.b n) := up_mk (s' := .b (keyed op)) (by rw [e]; exact .inl rfl) h
    have q7 : Int.ofNat 7 = 7 := rfl
    have q8 : Int.ofNat 8 = 8 := rfl
    have q9 : Int.ofNat 9 = 9 := rfl
    simp only [prim_eq, q7, q8, q9]
    refine ⟨fun _ => key _ ?_, fun _ => ⟨fun _ => key _ ?_, fun _ => key _ ?_⟩⟩
    all_goals (simp_all [keyed] <;> rfl)
  ·exact h.elim
 ·exact h.elim
theorem O68 : FnOK Tryz.prog (gls7 W7) 68 F68 := by
 refine fnOK_Ru (C := C7 prim W7 specA sAl) (C7.ok _ _) (fokA _) (m := 300) (n := 400) (L := L0) (fn := Tryz.f68) (by kernel_rfl) (by kernel_rfl) fun H w shs args φ hrep h => ?_
 have hn : Tryz.f68.ntmps = 17 := by kernel_rfl
 unfold F68 at h
 split at h
 ·rename_i t
  split at h
  ·rename_i op ht
   match args, hrep with
   | [v], ⟨hv, _⟩ =>
    refine ⟨[.i .i64 op], ⟨icK ht hv, trivial⟩, ?_⟩
    rw [hn, a68 prim W7 op]
    have key (n : Bool) (e : valued op = n) : up φ (.b n) := up_mk (s' := .b (valued op)) (by rw [e]; exact .inl rfl) h
    have q2 : Int.ofNat 2 = 2 := rfl
    have q3 : Int.ofNat 3 = 3 := rfl
    have q5 : Int.ofNat 5 = 5 := rfl
    have q7 : Int.ofNat 7 = 7 := rfl
    simp only [prim_eq, q2, q3, q5, q7]
    refine ⟨fun _ => key _ ?_, fun _ => ⟨fun _ => key _ ?_, fun _ => ⟨fun _ => key _ ?_, fun _ => key _ ?_⟩⟩⟩
    all_goals (simp_all [valued] <;> rfl)
  ·exact h.elim
 ·exact h.elim
theorem O69 : FnOK Tryz.prog (gls7 W7) 69 F69 := by
 refine fnOK_Ru (C := C7 prim W7 specA sAl) (C7.ok _ _) (fokA _) (m := 300) (n := 400) (L := L0) (fn := Tryz.f69) (by kernel_rfl) (by kernel_rfl) fun H w shs args φ hrep h => ?_
 have hn : Tryz.f69.ntmps = 27 := by kernel_rfl
 unfold F69 at h
 split at h
 ·rename_i t u v
  split at h
  ·rename_i k x y ht hu hv
   match args, hrep with
   | [v1, v2, v3], ⟨r1, r2, r3, _⟩ =>
    refine ⟨[.i .i64 k, .i .i64 x, .i .i64 y], ⟨icK ht r1, icK hu r2, icK hv r3, trivial⟩, ?_⟩
    rw [hn, a69 prim W7 k x y]
    have key (n : Bool) (e : beyondB k x y = n) : up φ (.b n) := up_mk (s' := .b (beyondB k x y)) (by rw [e]; exact .inl rfl) h
    have q0 : Int.ofNat 0 = 0 := rfl
    have q2 : Int.ofNat 2 = 2 := rfl
    have q3 : Int.ofNat 1000 = 1000 := rfl
    have q4 : Int.ofNat 1000000000 = 1000000000 := rfl
    have q5 : Int.ofNat 1000000000000000 = 1000000000000000 := rfl
    have q6 : Int.negSucc 999999999 = -1000000000 := rfl
    have q7 : Int.negSucc 999999999999999 = -1000000000000000 := rfl
    simp only [prim_eq, prim_lt, q0, q2, q3, q4, q5, q6, q7]
    refine ⟨fun e => ⟨fun _ => key _ ?_, fun _ => ⟨fun _ => key _ ?_, fun _ => ⟨fun _ => key _ ?_, fun _ => key _ ?_⟩⟩⟩, fun e => ⟨fun _ => key _ ?_, fun _ => ⟨fun _ => key _ ?_, fun _ => ⟨fun _ => key _ ?_, fun _ => key _ ?_⟩⟩⟩⟩
    all_goals (simp_all [beyondB] <;> omega)
  ·exact h.elim
 ·exact h.elim
theorem rep_num {H : Mem} {t : Sh} {v : Value} {c : Int} (h : icode t = some c) (r : Rep H t v) : Rep H (.i .i64 c) v := icK h r
theorem O94 : FnOK Tryz.prog (gls7 W7) 94 F94 := by
 refine fnOK_Ru (C := C7 prim W7 specA sAl) (C7.ok _ _) (fokA _) (m := 300) (n := 400) (L := L0) (fn := Tryz.f94) (by kernel_rfl) (by kernel_rfl) fun H w shs args φ hrep h => ?_
 have hn : Tryz.f94.ntmps = 12 := by kernel_rfl
 unfold F94 at h
 split at h
 ·rename_i x y s2 s3 t u
  split at h
  ·rename_i a hh b l p q hs2 hs3 ht hu
   match args, hrep with
   | [v, v1, v2], ⟨hv, r1, r2, _⟩ =>
    refine ⟨[.agg [.i .i64 x, .i .i64 y, .sl 1 a hh, .sl 2 b l], .i .i64 p, .i .i64 q], ⟨rep_agg4 hv (fun u hu => rep_slN hs2 hu) (fun u hu => rep_slN hs3 hu), icK ht r1, icK hu r2, trivial⟩, ?_⟩
    rw [hn, a94 prim W7 x y a b hh l p q]
    exact up_mk (s' := .tup [.agg [.i .i64 x, .i .i64 y, .sl 1 a hh, .sl 2 b l], .i .i64 3, .i .i64 y]) (by simp [Wk, WkL]) h
  ·exact h.elim
 ·exact h.elim
theorem O95 : FnOK Tryz.prog (gls7 W7) 95 F95 := by
 refine fnOK_Ru (C := C7 prim W7 specA sAl) (C7.ok _ _) (fokA _) (m := 300) (n := 400) (L := L0) (fn := Tryz.f95) (by kernel_rfl) (by kernel_rfl) fun H w shs args φ hrep h => ?_
 have hn : Tryz.f95.ntmps = 12 := by kernel_rfl
 unfold F95 at h
 split at h
 ·rename_i x y s2 s3 t u
  split at h
  ·rename_i a hh b l p q hs2 hs3 ht hu
   match args, hrep with
   | [v, v1, v2], ⟨hv, r1, r2, _⟩ =>
    refine ⟨[.agg [.i .i64 x, .i .i64 y, .sl 1 a hh, .sl 2 b l], .i .i64 p, .i .i64 q], ⟨rep_agg4 hv (fun u hu => rep_slN hs2 hu) (fun u hu => rep_slN hs3 hu), icK ht r1, icK hu r2, trivial⟩, ?_⟩
    rw [hn, a95 prim W7 x y a b hh l p q]
    exact up_mk (s' := .tup [.agg [.i .i64 x, .i .i64 q, .sl 1 a hh, .sl 2 b l], .i .i64 1, .i .i64 0]) (by simp [Wk, WkL]) h
  ·exact h.elim
 ·exact h.elim
theorem O96 : FnOK Tryz.prog (gls7 W7) 96 F96 := by
 refine fnOK_Ru (C := C7 prim W7 specA sAl) (C7.ok _ _) (fokA _) (m := 300) (n := 400) (L := L0) (fn := Tryz.f96) (by kernel_rfl) (by kernel_rfl) fun H w shs args φ hrep h => ?_
 have hn : Tryz.f96.ntmps = 15 := by kernel_rfl
 unfold F96 at h
 split at h
 ·rename_i x y s2 s3 t u
  split at h
  ·rename_i a hh b l p q hs2 hs3 ht hu
   match args, hrep with
   | [v, v1, v2], ⟨hv, r1, r2, _⟩ =>
    refine ⟨[.agg [.i .i64 x, .i .i64 y, .sl 1 a hh, .sl 2 b l], .i .i64 p, .i .i64 q], ⟨rep_agg4 hv (fun u hu => rep_slN hs2 hu) (fun u hu => rep_slN hs3 hu), icK ht r1, icK hu r2, trivial⟩, ?_⟩
    rw [hn, a96 prim W7 x y a b hh l p q]
    exact up_mk (s' := .tup [.agg [.i .i64 x, .i .i64 (addW y q), .sl 1 a hh, .sl 2 b l], .i .i64 1, .i .i64 0]) (by simp [Wk, WkL]; rfl) h
  ·exact h.elim
 ·exact h.elim
theorem O97 : FnOK Tryz.prog (gls7 W7) 97 F97 := by
 refine fnOK_Ru (C := C7 prim W7 specA sAl) (C7.ok _ _) (fokA _) (m := 300) (n := 400) (L := L0) (fn := Tryz.f97) (by kernel_rfl) (by kernel_rfl) fun H w shs args φ hrep h => ?_
 have hn : Tryz.f97.ntmps = 17 := by kernel_rfl
 unfold F97 at h
 split at h
 ·rename_i x y s2 s3 t u
  split at h
  ·rename_i a hh b l p q hs2 hs3 ht hu
   obtain ⟨h1, hφ⟩ := h
   match args, hrep with
   | [v, v1, v2], ⟨hv, r1, r2, _⟩ =>
    refine ⟨[.agg [.i .i64 x, .i .i64 y, .sl 1 a hh, .sl 2 b l], .i .i64 p, .i .i64 q], ⟨rep_agg4 hv (fun u hu => rep_slN hs2 hu) (fun u hu => rep_slN hs3 hu), icK ht r1, icK hu r2, trivial⟩, ?_⟩
    have h0 := roomB_mono h1 (Nat.le_succ a)
    rw [hn, a97 prim W7 x y a b hh l p q, addN0, snoc0, addN1]
    have fin : up φ (.tup [.agg [.i .i64 x, .i .i64 y, .os 3 1 (a + 1) (prim.snoc hh a (nthL [[.i .i64 q]])), .sl 2 b l], .i .i64 (Int.ofNat 1), .i .i64 (Int.ofNat 0)]) :=
     up_mk (s' := .tup [.agg [.i .i64 x, .i .i64 y, .sl 1 (a + 1) (snocG a hh [.i .i64 q]), .sl 2 b l], .i .i64 1, .i .i64 0]) ⟨⟨rfl, rfl, .inr ⟨rfl, rfl, snocG_eq⟩, .inr ⟨rfl, rfl, fun _ _ => rfl⟩, trivial⟩, rfl, rfl, trivial⟩ hφ
    refine ⟨fun e => ⟨?_, h0, h1, fin⟩, fun _ => ⟨h0, h1, fin⟩⟩
    have e : a = 0 := by have := of_decide_eq_true (show decide (a ≤ 0) = true from e); omega
    subst e
    exact up_mk (s' := .tup [.agg [.i .i64 x, .i .i64 y, .sl 1 (0 + 1) (snocG 0 hh [.i .i64 q]), .sl 2 b l], .i .i64 1, .i .i64 0]) ⟨⟨rfl, rfl, .inr ⟨rfl, rfl, fun j hj => by
     obtain rfl : j = 0 := by omega
     rfl⟩, .inr ⟨rfl, rfl, fun _ _ => rfl⟩, trivial⟩, rfl, rfl, trivial⟩ hφ
  ·exact h.elim
 ·exact h.elim
theorem O99 : FnOK Tryz.prog (gls7 W7) 99 F99 := by
 refine fnOK_Ru (C := C7 prim W7 specA sAl) (C7.ok _ _) (fokA _) (m := 300) (n := 400) (L := L0) (fn := Tryz.f99) (by kernel_rfl) (by kernel_rfl) fun H w shs args φ hrep h => ?_
 have hn : Tryz.f99.ntmps = 25 := by kernel_rfl
 unfold F99 at h
 split at h
 ·rename_i x y s2 s3 t u
  split at h
  ·rename_i a hh b l p q hs2 hs3 ht hu
   obtain ⟨h1, hφ⟩ := h
   match args, hrep with
   | [v, v1, v2], ⟨hv, r1, r2, _⟩ =>
    refine ⟨[.agg [.i .i64 x, .i .i64 y, .sl 1 a (fnR (rwAt (α := Int) hh)), .sl 2 b l], .i .i64 p, .i .i64 q], ⟨rep_agg4 hv (fun u hu => rep_rows (rep_slN hs2 hu) h1) (fun u hu => rep_slN hs3 hu), icK ht r1, icK hu r2, trivial⟩, ?_⟩
    have hrow := okB_at h1
    generalize rwAt (α := Int) hh = o at *
    have hφ : φ (.tup [.agg [.i .i64 x, .i .i64 y, .sl 1 (predN a) (shiftG hh), .sl 2 b l], .i .i64 (deqR a), .i .i64 (headI a o)]) := hφ
    rw [hn, a99 prim W7 x y a b o l p q]
    refine ⟨fun e => ?_, fun e => ?_⟩
    ·have e : a = 0 := by simpa [prim_eq, prim_ofN] using e
     subst e
     exact up_mk (s' := .tup [.agg [.i .i64 x, .i .i64 y, .sl 1 (predN 0) (shiftG hh), .sl 2 b l], .i .i64 (deqR 0), .i .i64 (headI 0 o)]) ⟨⟨rfl, rfl, .inl ⟨rfl, rfl⟩, .inr ⟨rfl, rfl, fun _ _ => rfl⟩, trivial⟩, rfl, rfl, trivial⟩ hφ
    ·have e : ¬ a = 0 := by simpa [prim_eq, prim_ofN] using e
     refine ⟨by simp [prim_inB]; omega, by simp [prim_upTo]; omega, ?_⟩
     refine up_mk (s' := .tup [.agg [.i .i64 x, .i .i64 y, .sl 1 (predN a) (shiftG hh), .sl 2 b l], .i .i64 (deqR a), .i .i64 (headI a o)]) ⟨⟨rfl, rfl, .inr ⟨rfl, rfl, fun j hj => ?_⟩, .inr ⟨rfl, rfl, fun _ _ => rfl⟩, trivial⟩, ?_, ?_, trivial⟩ hφ
     ·have hj : j < a - 1 := hj
      show fnR o (1 + j) = hh (1 + j)
      rw [hrow (1 + j) (by omega)]; rfl
     ·simp [Wk, deqR, e]
     ·simp [Wk, headI, e]
  ·exact h.elim
 ·exact h.elim
end Go.Proofs
namespace Go.Pl
open Go Go.Sx
def opT (s : Sta) (op k v : Int) : Sta × Int × Int :=
 if op = 1 ∨ op = 4 then (s, 3, s.num)
 else if op = 2 then ({ s with num := v }, 1, 0)
 else if op = 3 then ({ s with num := addW s.num v }, 1, 0)
 else if op = 5 then ({ s with q := s.q ++ [v] }, 1, 0)
 else if op = 6 then ({ s with q := s.q.tail }, deqR s.q.length, s.q.headD 0)
 else if op = 7 then ({ s with ps := putP s.ps k v }, 1, 0)
 else if op = 8 then (s, retP s.ps k, valP s.ps k)
 else if op = 9 then ({ s with ps := delP s.ps k }, retP s.ps k, valP s.ps k)
 else (s, 0, 0)
end Go.Pl
namespace Go.Proofs
open Go Go.Sx Go.Pl
theorem ODs : ∀ g F, specD g = some F → FnOK Tryz.prog (gls7 W7) g F := fun g F h => by
 unfold specD at h
 split at h
 ·cases h; exact O66
 ·cases h; exact O67
 ·cases h; exact O68
 ·cases h; exact O69
 ·cases h; exact O94
 ·cases h; exact O95
 ·cases h; exact O96
 ·cases h; exact O97
 ·cases h; exact O99
 ·cases h; exact O100
 ·cases h; exact O104
 ·cases h; exact O106
 ·cases h
theorem fokD (stop : Nat → List Nat → Bool) : FnsOK Tryz.prog (C7 prim W7 specD stop) := C7.fok ODs fun g h => by
 unfold specD at h
 split at h
 all_goals first | (cases h; done) | kernel_rfl
def F42 : List Sh → Tree Sh
 | [.agg [.i .i64 x, .i .i64 y, s2, s3], t, u, v] => match slN 1 s2, slN 2 s3, icode t, icode u, icode v with
  | some (a, h), some (b, l), some op, some k, some v => .need (okB Int a h) (.need (okB Pr b l) (.need (roomB (a + 1) 8) (.node (badOp x op) (.leaf (.tup [.agg (staS zeroT), .i .i64 0, .i .i64 0, .er 1 242])) (.node (badKV x y op k v) (.leaf (.tup [.agg (staS zeroT), .i .i64 0, .i .i64 0, .er 3 242]))
    (.need (mapOK op b l) (.leaf (.tup [.agg (staS (opT ⟨x, y, lst Int a h, lst Pr b l⟩ op k v).1), .i .i64 (opT ⟨x, y, lst Int a h, lst Pr b l⟩ op k v).2.1, .i .i64 (opT ⟨x, y, lst Int a h, lst Pr b l⟩ op k v).2.2, .v .nilIface])))))))
  | _, _, _, _, _ => .fail
 | _ => .fail
theorem nth_put {α : Type} [Row α] (l : List α) (a : α) : ∀ i, i < l.length + 1 → snocG l.length (fnR (nth l)) (Row.put a) i = fnR (nth (l ++ [a])) i := fun i hi => by
 unfold snocG
 split
 ·rename_i h1
  simp only [fnR, nth]
  rw [List.getD_eq_getElem?_getD, List.getD_eq_getElem?_getD, List.getElem?_append_left h1]
 ·have : i = l.length := by omega
  subst this
  simp [fnR, nth]
theorem rwAt_fnR {α : Type} [Row α] (o : Nat → α) : rwAt (fnR o) = o := funext fun i => rowAt_put o i
section
variable {H0 : Mem} {w0 : World} {φ : Sh → Prop}
theorem go42 {x y op k v : Int} {q : List Int} {ps : List Pr} (hr : roomB (q.length + 1) 8 = true) (hop : op = 1 ∨ op = 2 ∨ op = 3 ∨ op = 4 ∨ op = 5 ∨ op = 6 ∨ op = 7 ∨ op = 8 ∨ op = 9) (hm : mapOK op ps.length (fnR (nth ps)) = true) (hkey : inKey k = true)
  (hφ : φ (.tup [.agg (staS (opT ⟨x, y, q, ps⟩ op k v).1), .i .i64 (opT ⟨x, y, q, ps⟩ op k v).2.1, .i .i64 (opT ⟨x, y, q, ps⟩ op k v).2.2, .v .nilIface])) :
  GoesS Tryz.prog (C7 prim W7 specD sAl) (K0 H0 w0) 42 td42 (L42 x y q.length ps.length (fnR (nth q)) (fnR (nth ps)) op k v) [] emp (up φ) := by
 have lit (n : Int) (h : GoesS Tryz.prog (C7 prim W7 specD sAl) (K0 H0 w0) 42 td42 (L42n x y q.length ps.length (fnR (nth q)) (fnR (nth ps)) n k v) [] emp (up φ)) : GoesS Tryz.prog (C7 prim W7 specD sAl) (K0 H0 w0) 42 td42 (L42 x y q.length ps.length (fnR (nth q)) (fnR (nth ps)) n k v) [] emp (up φ) :=
  goesS_tm _ (fun H E vs hd => den_num 1 rfl hd) h
 have fin (s' : Sta) (r g : Int) (e : opT ⟨x, y, q, ps⟩ op k v = (s', r, g)) (c : List Sh) (hc : WkL c (staS s')) : up φ (.tup [.agg c, .i .i64 r, .i .i64 g, .v .nilIface]) :=
  up_mk (s' := .tup [.agg (staS (opT ⟨x, y, q, ps⟩ op k v).1), .i .i64 (opT ⟨x, y, q, ps⟩ op k v).2.1, .i .i64 (opT ⟨x, y, q, ps⟩ op k v).2.2, .v .nilIface]) (by rw [e]; exact ⟨hc, rfl, rfl, rfl, trivial⟩) hφ
 rcases hop with rfl | rfl | rfl | rfl | rfl | rfl | rfl | rfl | rfl
 ·refine lit 1 (gSr (C7.ok _ _) (fokD _) (hold := nH0) (m := 300) (n := 400) (ts := []) ?_)
  rw [b42_1 prim W7 x y q.length ps.length (fnR (nth q)) (fnR (nth ps)) k v]
  have := fin _ _ _ rfl [.i .i64 x, .i .i64 y, .sl 1 q.length (fnR (nth q)), .sl 2 ps.length (fnR (nth ps))] (by simp [opT, staS, Wk, WkL, len])
  repeat' (first | exact trivial | exact rfl | exact this | refine And.intro ?_ ?_)
 ·refine lit 2 (gSr (C7.ok _ _) (fokD _) (hold := nH0) (m := 300) (n := 400) (ts := []) ?_)
  rw [b42_2 prim W7 x y q.length ps.length (fnR (nth q)) (fnR (nth ps)) k v]
  have := fin _ _ _ rfl [.i .i64 x, .i .i64 v, .sl 1 q.length (fnR (nth q)), .sl 2 ps.length (fnR (nth ps))] (by simp [opT, staS, Wk, WkL, len])
  repeat' (first | exact trivial | exact rfl | exact this | refine And.intro ?_ ?_)
 ·refine lit 3 (gSr (C7.ok _ _) (fokD _) (hold := nH0) (m := 300) (n := 400) (ts := []) ?_)
  rw [b42_3 prim W7 x y q.length ps.length (fnR (nth q)) (fnR (nth ps)) k v]
  have := fin _ _ _ rfl [.i .i64 x, .i .i64 (addW y v), .sl 1 q.length (fnR (nth q)), .sl 2 ps.length (fnR (nth ps))] (by simp [opT, staS, Wk, WkL, len])
  repeat' (first | exact trivial | exact rfl | exact this | refine And.intro ?_ ?_)
 ·refine lit 4 (gSr (C7.ok _ _) (fokD _) (hold := nH0) (m := 300) (n := 400) (ts := []) ?_)
  rw [b42_4 prim W7 x y q.length ps.length (fnR (nth q)) (fnR (nth ps)) k v]
  have := fin _ _ _ rfl [.i .i64 x, .i .i64 y, .sl 1 q.length (fnR (nth q)), .sl 2 ps.length (fnR (nth ps))] (by simp [opT, staS, Wk, WkL, len])
  repeat' (first | exact trivial | exact rfl | exact this | refine And.intro ?_ ?_)
 ·refine lit 5 (gSr (C7.ok _ _) (fokD _) (hold := nH0) (m := 300) (n := 400) (ts := []) ?_)
  rw [b42_5 prim W7 x y q.length ps.length (fnR (nth q)) (fnR (nth ps)) k v]
  have := fin _ _ _ rfl [.i .i64 x, .i .i64 y, .sl 1 (q.length + 1) (snocG q.length (fnR (nth q)) [.i .i64 v]), .sl 2 ps.length (fnR (nth ps))] ⟨rfl, rfl, .inr ⟨rfl, by simp [opT, len], nth_put q v⟩, .inr ⟨rfl, rfl, fun _ _ => rfl⟩, trivial⟩
  repeat' (first | exact trivial | exact hr | exact rfl | exact this | refine And.intro ?_ ?_)
 ·refine lit 6 (gSr (C7.ok _ _) (fokD _) (hold := nH0) (m := 300) (n := 400) (ts := []) ?_)
  rw [b42_6 prim W7 x y q.length ps.length (fnR (nth q)) (fnR (nth ps)) k v, rwAt_fnR]
  have hh : headI q.length (nth q) = q.headD 0 := by cases q <;> rfl
  rw [hh]
  have := fin _ _ _ rfl [.i .i64 x, .i .i64 y, .sl 1 (predN q.length) (shiftG (fnR (nth q))), .sl 2 ps.length (fnR (nth ps))] ⟨rfl, rfl, .inr ⟨rfl, by simp [opT, len, predN], fun j hj => by
   show fnR (nth q) (1 + j) = fnR (nth q.tail) j
   simp only [fnR, nth]
   cases q with
   | nil => rfl
   | cons z r => simp [Nat.add_comm 1 j]⟩, .inr ⟨rfl, rfl, fun _ _ => rfl⟩, trivial⟩
  repeat' (first | exact trivial | exact okB_put _ _ | exact rfl | exact this | refine And.intro ?_ ?_)
 all_goals
  have hm2 : (!decide (ofOp _ = 4) || (wfG ps.length (fnR (nth ps)) && roomB (ps.length + 1) 16)) = true := hm
  have hm3 : wfG ps.length (fnR (nth ps)) = true ∧ roomB (ps.length + 1) 16 = true := by
   rw [show decide (ofOp _ = 4) = true from rfl] at hm2
   simpa using hm2
  obtain ⟨m1, m2⟩ := hm3
  have el : lst Pr ps.length (fnR (nth ps)) = ps := lst_nth ps
 ·refine lit 7 (gSr (C7.ok _ _) (fokD _) (hold := nH0) (m := 300) (n := 400) (ts := []) ?_)
  rw [b42_7 prim W7 x y q.length ps.length (fnR (nth q)) (nth ps) k v, el]
  have := fin _ _ _ rfl [.i .i64 x, .i .i64 y, .sl 1 q.length (fnR (nth q)), .sl 2 (len (putP ps k v)) (fnR (nth (putP ps k v)))] (by simp [opT, staS, Wk, WkL, len])
  repeat' (first | exact trivial | exact m1 | exact m2 | exact hkey | exact rfl | exact this | refine And.intro ?_ ?_)
 ·refine lit 8 (gSr (C7.ok _ _) (fokD _) (hold := nH0) (m := 300) (n := 400) (ts := []) ?_)
  rw [b42_8 prim W7 x y q.length ps.length (fnR (nth q)) (nth ps) k v, el]
  have := fin _ _ _ rfl [.i .i64 x, .i .i64 y, .sl 1 q.length (fnR (nth q)), .sl 2 ps.length (fnR (nth ps))] (by simp [opT, staS, Wk, WkL, len])
  repeat' (first | exact trivial | exact m1 | exact m2 | exact hkey | exact rfl | exact this | refine And.intro ?_ ?_)
 ·refine lit 9 (gSr (C7.ok _ _) (fokD _) (hold := nH0) (m := 300) (n := 400) (ts := []) ?_)
  rw [b42_9 prim W7 x y q.length ps.length (fnR (nth q)) (nth ps) k v, el]
  have := fin _ _ _ rfl [.i .i64 x, .i .i64 y, .sl 1 q.length (fnR (nth q)), .sl 2 (len (delP ps k)) (fnR (nth (delP ps k)))] (by simp [opT, staS, Wk, WkL, len])
  repeat' (first | exact trivial | exact m1 | exact m2 | exact hkey | exact rfl | exact this | refine And.intro ?_ ?_)
end
theorem ofOp_cases {op : Int} (h0 : ofOp op ≠ 0) : op = 1 ∨ op = 2 ∨ op = 3 ∨ op = 4 ∨ op = 5 ∨ op = 6 ∨ op = 7 ∨ op = 8 ∨ op = 9 := by
 unfold ofOp at h0
 repeat' split at h0
 all_goals first | omega | simp_all
theorem O42 : FnOK Tryz.prog (gls7 W7) 42 F42 := by
 refine fnOK_Su (C := C7 prim W7 specD sAl) (C7.ok _ _) (fn := Tryz.f42) (by kernel_rfl) (by kernel_rfl) fun H w shs args φ hrep h => ?_
 have hn : Tryz.f42.ntmps = 88 := by kernel_rfl
 unfold F42 at h
 split at h
 ·rename_i x y s2 s3 t u v
  split at h
  ·rename_i a hh b l op k vv hs2 hs3 ht hu hv
   obtain ⟨h1, h2, h3, he, hb⟩ := h
   have hml : mapOK op b l = true → mapOK op (lst Pr b l).length (fnR (nth (lst Pr b l))) = true := fun hq => by
    unfold mapOK wfG at hq ⊢
    rw [lst_nth, lst_length, okB_put]
    simp only [Bool.or_eq_true, Bool.and_eq_true] at hq ⊢
    rcases hq with hq | hq
    ·exact .inl hq
    ·exact .inr ⟨⟨⟨trivial, hq.1.1.2⟩, hq.1.2⟩, hq.2⟩
   match args, hrep with
   | [v0, v1, v2, v3], ⟨r0, r1, r2, r3, _⟩ =>
    refine ⟨[.agg [.i .i64 x, .i .i64 y, .sl 1 (lst Int a hh).length (fnR (nth (lst Int a hh))), .sl 2 (lst Pr b l).length (fnR (nth (lst Pr b l)))], .i .i64 op, .i .i64 k, .i .i64 vv], ⟨rep_agg4 r0 (fun u hu => rep_rows_lst (rep_slN hs2 hu) h1) (fun u hu => rep_rows_lst (rep_slN hs3 hu) h2), icK ht r1, icK hu r2, icK hv r3, trivial⟩, L0, ?_⟩
    have h3 : roomB ((lst Int a hh).length + 1) 8 = true := by rw [lst_length]; exact h3
    have hb : badOp x op = false → (badKV x y op k vv = true → φ (.tup [.agg (staS zeroT), .i .i64 0, .i .i64 0, .er 3 242])) ∧ (badKV x y op k vv = false → mapOK op (lst Pr b l).length (fnR (nth (lst Pr b l))) = true ∧ φ (.tup [.agg (staS (opT ⟨x, y, lst Int a hh, lst Pr b l⟩ op k vv).1), .i .i64 (opT ⟨x, y, lst Int a hh, lst Pr b l⟩ op k vv).2.1, .i .i64 (opT ⟨x, y, lst Int a hh, lst Pr b l⟩ op k vv).2.2, .v .nilIface])) := fun e => ⟨(hb e).1, fun e2 => ⟨hml ((hb e).2 e2).1, ((hb e).2 e2).2⟩⟩
    clear hml
    generalize lst Int a hh = q at *
    generalize lst Pr b l = ps at *
    have e1 (e : badOp x op = true) : up φ (.tup [.agg [.i .i64 (Int.ofNat 0), .i .i64 (Int.ofNat 0), .sl 0 0 fun _ => [], .sl 0 0 fun _ => []], .i .i64 (Int.ofNat 0), .i .i64 (Int.ofNat 0), .er 1 242]) :=
     up_mk (s' := .tup [.agg (staS zeroT), .i .i64 0, .i .i64 0, .er 1 242]) ⟨⟨rfl, rfl, .inl ⟨rfl, rfl⟩, .inl ⟨rfl, rfl⟩, trivial⟩, rfl, rfl, rfl, trivial⟩ (he e)
    have e3 (e : badOp x op = false) (e2 : badKV x y op k vv = true) : up φ (.tup [.agg [.i .i64 (Int.ofNat 0), .i .i64 (Int.ofNat 0), .sl 0 0 fun _ => [], .sl 0 0 fun _ => []], .i .i64 (Int.ofNat 0), .i .i64 (Int.ofNat 0), .er 3 242]) :=
     up_mk (s' := .tup [.agg (staS zeroT), .i .i64 0, .i .i64 0, .er 3 242]) ⟨⟨rfl, rfl, .inl ⟨rfl, rfl⟩, .inl ⟨rfl, rfl⟩, trivial⟩, rfl, rfl, rfl, trivial⟩ ((hb e).1 e2)
    have go (e : badOp x op = false) (e2 : badKV x y op k vv = false) : ∃ t : Tgt, ([⟨42, td42, L42 x y q.length ps.length (fnR (nth q)) (fnR (nth ps)) op k vv, []⟩] : List Tgt)[0]? = some t ∧ GoesS Tryz.prog (C7 prim W7 specD sAl) (K0 H w) t.g t.td t.c t.stk emp (up φ) :=
     ⟨_, rfl, go42 h3 (ofOp_cases (by
      simp [badOp] at e
      rw [e.2]; exact e.1)) ((hb e).2 e2).1 (by
       simp [badKV] at e2
       unfold inKey
       exact decide_eq_true (by omega)) ((hb e).2 e2).2⟩
    refine goesS_runV (C7.ok _ _) (fokD _) (pause := pause42) (m := 300) (n := 400) (ts := [⟨42, td42, L42 x y q.length ps.length (fnR (nth q)) (fnR (nth ps)) op k vv, []⟩]) ?_
    rw [hn, a42 prim W7 x y q.length ps.length (fnR (nth q)) (fnR (nth ps)) op k vv]
    have q0 : Int.ofNat 0 = 0 := rfl
    have q3 : Int.ofNat 3 = 3 := rfl
    have qk : Int.ofNat 1000 = 1000 := rfl
    have q4 : Int.ofNat 1000000000 = 1000000000 := rfl
    have q6 : Int.negSucc 999999999 = -1000000000 := rfl
    have qa : prim.add .i64 y vv = addW y vv := rfl
    rw [q0] at e1 e3
    simp only [prim_eq, prim_nt, prim_lt, q0, q3, qk, q4, q6, qa]
    clear he hb h3 hn
    repeat' (first | exact trivial | exact rfl | (intro _) | refine And.intro ?_ ?_)
    all_goals first
     | exact e1 (by simp_all [badOp])
     | exact e3 (by simp_all [badOp]) (by simp_all [badKV])
     | exact go (by simp_all [badOp]) (by simp_all [badKV])
  ·exact h.elim
 ·exact h.elim
end Go.Proofs
namespace Go.Proofs
open Go Go.Sx Go.Pl
section
variable {H0 : Mem} {w0 : World} {φ : Sh → Prop}
end
end Go.Proofs
namespace Go.Pl
open Go Go.Sx
structure Lk7 where
 key : Sta → List UInt8
 join : Nat → (Nat → List Sh) → List UInt8 → List UInt8
def sQ (x y : Int) (a : Nat) (h : Nat → List Sh) (b : Nat) (l : Nat → List Sh) : Sta := ⟨x, y, lst Int a h, lst Pr b l⟩
def keyB (x y : Int) (a : Nat) (h : Nat → List Sh) (b : Nat) (l : Nat → List Sh) : Bool :=
 okB Int a h && okB Pr b l && in64 x && in64 y && numsB a (rwAt h) && prsB b (rwAt l) && decide (a ≤ 100000 ∧ b ≤ 100000)
end Go.Pl
namespace Go.Proofs
open Go Go.Sx Go.Pl
def G35 (L : Lk7) : List Sh → Tree Sh
 | [.agg [.i .i64 x, .i .i64 y, s2, s3]] => match slN 1 s2, slN 2 s3 with
  | some (a, h), some (b, l) => .need (keyB x y a h b l) (.leaf (.str (L.key (sQ x y a h b l))))
  | _, _ => .fail
 | _ => .fail
end Go.Proofs
namespace Go.Pl
open Go Go.Sx Go.Proofs
def LK : Lk7 where
 key := keyS
 join n g sep := joinS (lst (List UInt8) n g) sep
theorem sQ_eq (s : Sta) : sQ s.kind s.num (len s.q) (fnR (nth s.q)) (len s.ps) (fnR (nth s.ps)) = s := by
 show (⟨s.kind, s.num, lst Int s.q.length (fnR (nth s.q)), lst Pr s.ps.length (fnR (nth s.ps))⟩ : Sta) = s
 rw [lst_nth, lst_nth]
end Go.Pl
namespace Go.Proofs
open Go Go.Sx Go.Pl
theorem O35k : FnOK Tryz.prog (gls7 W7) 35 (G35 LK) := O35.mono fun H shs args φ hr h => by
 unfold G35 at h
 split at h
 ·split at h
  ·rename_i s2 s3 a hh b l hs2 hs3
   obtain ⟨h1, hφ⟩ := h
   simp only [keyB, Bool.and_eq_true] at h1
   obtain ⟨⟨⟨⟨⟨⟨q1, q2⟩, q3⟩, q4⟩, q5⟩, q6⟩, q7⟩ := h1
   simp only [F35, hs2, hs3]
   exact ⟨q1, q2, q3, q4, q5, q6, q7, hφ⟩
  ·exact h.elim
 ·exact h.elim
section
variable {H0 : Mem} {w0 : World} {φ : Sh → Prop} {n : Nat} {d : Nat → Sta}
end
end Go.Proofs
namespace Go.Pl
open Go Go.Sx
structure Lb7 where
 op : Sta → Int → Int → Int → Sta
 r : Sta → Int → Int → Int → Int
 g : Sta → Int → Int → Int → Int
 key : Sta → List UInt8
 join : List (List UInt8) → List UInt8 → List UInt8
 at_ : Nat → (Nat → List Sh) → Int → Sta
end Go.Pl
namespace Go.Proofs
open Go Go.Sx Go.Pl
end Go.Proofs
namespace Go.Pl
open Go Go.Sx Go.Proofs
end Go.Pl
namespace Go.Proofs
open Go Go.Sx Go.Pl
end Go.Proofs
namespace Go.Proofs
open Go.Sx.Tree
open Go Go.Sx Go.Pl
def td71 : List It := [It.code [0, 1, 0, 1, 1], It.inBlock 0, It.code [1, 1, 1]]
def tb71 : List It := It.code [0, 0, 1, 0, 1, 1] :: td71
def LO71 (n m : Nat) (o p : Nat → Int) (i : Int) : Core := { tm := tmOf 26 [(0, .sh (.sl 1 n (fnR o))), (1, .sh (.sl 1 m (fnR p))), (12, .sym .i64 (n : Int)), (13, .sym .i64 i)], hp := [], nx := 0, lim := L0, tc := [] }
def LO72 (n m : Nat) (o p : Nat → Pr) (i : Int) : Core := { tm := tmOf 26 [(0, .sh (.sl 2 n (fnR o))), (1, .sh (.sl 2 m (fnR p))), (12, .sym .i64 (n : Int)), (13, .sym .i64 i)], hp := [], nx := 0, lim := L0, tc := [] }
theorem a71 (A : Prim) (W : Wd) (n m : Nat) (o p : Nat → Int) (i' : Int) : runTo (C7 A W noSpec sAl) nH0 300 400 71 [.code []] (start0 26 [.sl 1 n (fnR o), .sl 1 m (fnR p)] L0) [] [⟨71, td71, LO71 n m o p i', []⟩] = node (A.nt (A.eq (A.ofN n) (A.ofN m))) (leaf (Fe2.ret (Sh.b false))) (leaf (Fe2.at_ 0 [Eqn.sh (Sh.sl 1 n (fnR o)) (Sh.sl 1 n (fnR o)), Eqn.sh (Sh.sl 1 m (fnR p)) (Sh.sl 1 m (fnR p)), Eqn.int (A.ofN n) (Int.ofNat n), Eqn.int (Int.ofNat 0) i'])) := by kernel_rfl
theorem b71 (A : Prim) (W : Wd) (n m : Nat) (o p : Nat → Int) (i i' : Int) : runTo (C7 A W noSpec sAl) nH0 300 400 71 tb71 (LO71 n m o p i) [] [⟨71, td71, LO71 n m o p i', []⟩] = node (A.lt i (Int.ofNat n)) (need (A.inB i n) (need (A.inB i m) (node (A.nt (A.eq (o (A.toN i)) (p (A.toN i)))) (leaf (Fe2.ret (Sh.b false))) (leaf (Fe2.at_ 0 [Eqn.sh (Sh.sl 1 n (fnR o)) (Sh.sl 1 n (fnR o)), Eqn.sh (Sh.sl 1 m (fnR p)) (Sh.sl 1 m (fnR p)), Eqn.int (Int.ofNat n) (Int.ofNat n), Eqn.int (A.add .i64 i (Int.ofNat 1)) i']))))) (leaf (Fe2.ret (Sh.b true))) := by kernel_rfl
theorem a72 (A : Prim) (W : Wd) (n m : Nat) (o p : Nat → Pr) (i' : Int) : runTo (C7 A W noSpec sAl) nH0 300 400 72 [.code []] (start0 26 [.sl 2 n (fnR o), .sl 2 m (fnR p)] L0) [] [⟨72, td71, LO72 n m o p i', []⟩] = node (A.nt (A.eq (A.ofN n) (A.ofN m))) (leaf (Fe2.ret (Sh.b false))) (leaf (Fe2.at_ 0 [Eqn.sh (Sh.sl 2 n (fnR o)) (Sh.sl 2 n (fnR o)), Eqn.sh (Sh.sl 2 m (fnR p)) (Sh.sl 2 m (fnR p)), Eqn.int (A.ofN n) (Int.ofNat n), Eqn.int (Int.ofNat 0) i'])) := by kernel_rfl
theorem b72 (A : Prim) (W : Wd) (n m : Nat) (o p : Nat → Pr) (i i' : Int) : runTo (C7 A W noSpec sAl) nH0 300 400 72 tb71 (LO72 n m o p i) [] [⟨72, td71, LO72 n m o p i', []⟩] = node (A.lt i (Int.ofNat n)) (need (A.inB i n) (need (A.inB i m) (node (A.nt (A.ite (A.eq (o (A.toN i)).key (p (A.toN i)).key) (A.ite (A.eq (o (A.toN i)).val (p (A.toN i)).val) true false) false)) (leaf (Fe2.ret (Sh.b false))) (leaf (Fe2.at_ 0 [Eqn.sh (Sh.sl 2 n (fnR o)) (Sh.sl 2 n (fnR o)), Eqn.sh (Sh.sl 2 m (fnR p)) (Sh.sl 2 m (fnR p)), Eqn.int (Int.ofNat n) (Int.ofNat n), Eqn.int (A.add .i64 i (Int.ofNat 1)) i']))))) (leaf (Fe2.ret (Sh.b true))) := by kernel_rfl
end Go.Proofs
namespace Go.Proofs
open Go Go.Sx Go.Pl
def F71 : List Sh → Tree Sh
 | [s0, s1] => match slN 1 s0, slN 1 s1 with
  | some (n, g), some (m, h) => .need (okB Int n g) (.need (okB Int m h) (.leaf (.b (sameL (lst Int n g) (lst Int m h)))))
  | _, _ => .fail
 | _ => .fail
theorem loop71 {H0 : Mem} {w0 : World} {n : Nat} {o p : Nat → Int} {φ : Sh → Prop} (hn : n ≤ maxLen) (hT : (∀ j, j < n → o j = p j) → φ (.b true)) (hF : (¬ ∀ j, j < n → o j = p j) → φ (.b false)) :
  ∀ m k, k + m = n → (∀ j, j < k → o j = p j) → GoesS Tryz.prog (C7 prim W7 noSpec sAl) (K0 H0 w0) 71 td71 (LO71 n n o p k) [] emp φ
 | m, k, hk, hE => by
  rw [maxLen_eq] at hn
  refine gSi (fn := Tryz.f71) (tb := tb71) (by kernel_rfl) (by kernel_rfl) ?_
  refine gSr (C7.ok _ _) (fok0 _) (hold := nH0) (m := 300) (n := 400) (ts := [⟨71, td71, LO71 n n o p (k + 1 : Nat), []⟩]) ?_
  rw [b71 prim W7 n n o p k (k + 1 : Nat)]
  have bad : k < n → o k ≠ p k → φ (.b false) := fun h1 h2 => hF fun e => h2 (e k h1)
  have good : k < n → o k = p k → GoesS Tryz.prog (C7 prim W7 noSpec sAl) (K0 H0 w0) 71 td71 (LO71 n n o p (k + 1 : Nat)) [] emp φ := fun h1 h2 => by
   match m, hk with
   | 0, hk => omega
   | m + 1, hk =>
    refine loop71 (by rw [maxLen_eq]; exact hn) hT hF m (k + 1) (by omega) fun j hj => ?_
    by_cases e : j = k
    ·subst e; exact h2
    ·exact hE j (by omega)
  refine ⟨fun h => ?_, fun h => ?_⟩
  ·have hlt : k < n := by simp [prim_lt] at h; omega
   refine ⟨by simp [prim_inB]; omega, by simp [prim_inB]; omega, fun hne => bad hlt fun e => ?_, fun heq => ⟨⟨rfl, rfl, rfl, ?_, trivial⟩, _, rfl, good hlt ?_⟩⟩
   ·have e' : o (prim.toN (k : Int)) = p (prim.toN (k : Int)) := e
    rw [e'] at hne
    simp [prim_nt, prim_eq, prim_ite] at hne
   ·simp only [Eqn.ok, prim_add, one_eq]
    rw [wrap_id (by omega) (by omega)]; rfl
   ·have e1 : prim.toN (k : Int) = k := rfl
    rw [e1] at heq
    simpa [prim_nt, prim_eq] using heq
  ·have : k = n := by simp [prim_lt] at h; omega
   subst this
   exact hT hE
theorem O71 : FnOK Tryz.prog (gls7 W7) 71 F71 := by
 refine fnOK_S (C := C7 prim W7 noSpec sAl) (C7.ok _ _) (fn := Tryz.f71) (by kernel_rfl) (by kernel_rfl) fun H w shs args φ hrep h => ?_
 unfold F71 at h
 split at h
 ·rename_i s0 s1
  split at h
  ·rename_i n g m h' hs0 hs1
   obtain ⟨h1, h2, h3⟩ := h
   match args, hrep with
   | [v, u], ⟨hv, hu, _⟩ =>
    refine ⟨[.sl 1 n (fnR (rwAt (α := Int) g)), .sl 1 m (fnR (rwAt (α := Int) h'))], ⟨rep_rows (rep_slN hs0 hv) h1, rep_rows (rep_slN hs1 hu) h2, trivial⟩, L0, ?_⟩
    have hmax := rep_len (rep_slN hs0 hv)
    refine gSr (C7.ok _ _) (fok0 _) (hold := nH0) (m := 300) (n := 400) (ts := [⟨71, td71, LO71 n m (rwAt g) (rwAt h') (0 : Nat), []⟩]) ?_
    have hn : Tryz.f71.ntmps = 26 := by kernel_rfl
    rw [hn, a71 prim W7 n m (rwAt g) (rwAt h') (0 : Nat)]
    have h3 : φ (.b (sameL (lst Int n g) (lst Int m h'))) := h3
    refine ⟨fun h => ?_, fun h => ⟨⟨rfl, rfl, rfl, rfl, trivial⟩, _, rfl, ?_⟩⟩
    ·have hne : n ≠ m := by simp [prim_nt, prim_eq, prim_ofN] at h; exact fun e => h (by rw [e])
     rwa [sameL_false fun e => hne (by have := congrArg List.length e; simpa using this)] at h3
    ·have : n = m := by simp [prim_nt, prim_eq, prim_ofN] at h; omega
     subst this
     refine loop71 hmax (fun hE => ?_) (fun hE => ?_) n 0 (by omega) fun j hj => by omega
     ·rwa [sameL_true (lst_ext hE)] at h3
     ·rwa [sameL_false fun e => hE (lst_ext' e)] at h3
  ·exact h.elim
 ·exact h.elim
def F72 : List Sh → Tree Sh
 | [s0, s1] => match slN 2 s0, slN 2 s1 with
  | some (n, g), some (m, h) => .need (okB Pr n g) (.need (okB Pr m h) (.leaf (.b (sameL (lst Pr n g) (lst Pr m h)))))
  | _, _ => .fail
 | _ => .fail
theorem loop72 {H0 : Mem} {w0 : World} {n : Nat} {o p : Nat → Pr} {φ : Sh → Prop} (hn : n ≤ maxLen) (hT : (∀ j, j < n → o j = p j) → φ (.b true)) (hF : (¬ ∀ j, j < n → o j = p j) → φ (.b false)) :
  ∀ m k, k + m = n → (∀ j, j < k → o j = p j) → GoesS Tryz.prog (C7 prim W7 noSpec sAl) (K0 H0 w0) 72 td71 (LO72 n n o p k) [] emp φ
 | m, k, hk, hE => by
  rw [maxLen_eq] at hn
  refine gSi (fn := Tryz.f72) (tb := tb71) (by kernel_rfl) (by kernel_rfl) ?_
  refine gSr (C7.ok _ _) (fok0 _) (hold := nH0) (m := 300) (n := 400) (ts := [⟨72, td71, LO72 n n o p (k + 1 : Nat), []⟩]) ?_
  rw [b72 prim W7 n n o p k (k + 1 : Nat)]
  have bad : k < n → o k ≠ p k → φ (.b false) := fun h1 h2 => hF fun e => h2 (e k h1)
  have good : k < n → o k = p k → GoesS Tryz.prog (C7 prim W7 noSpec sAl) (K0 H0 w0) 72 td71 (LO72 n n o p (k + 1 : Nat)) [] emp φ := fun h1 h2 => by
   match m, hk with
   | 0, hk => omega
   | m + 1, hk =>
    refine loop72 (by rw [maxLen_eq]; exact hn) hT hF m (k + 1) (by omega) fun j hj => ?_
    by_cases e : j = k
    ·subst e; exact h2
    ·exact hE j (by omega)
  refine ⟨fun h => ?_, fun h => ?_⟩
  ·have hlt : k < n := by simp [prim_lt] at h; omega
   refine ⟨by simp [prim_inB]; omega, by simp [prim_inB]; omega, fun hne => bad hlt fun e => ?_, fun heq => ⟨⟨rfl, rfl, rfl, ?_, trivial⟩, _, rfl, good hlt ?_⟩⟩
   ·have e' : o (prim.toN (k : Int)) = p (prim.toN (k : Int)) := e
    rw [e'] at hne
    simp [prim_nt, prim_eq, prim_ite] at hne
   ·simp only [Eqn.ok, prim_add, one_eq]
    rw [wrap_id (by omega) (by omega)]; rfl
   ·have e1 : prim.toN (k : Int) = k := rfl
    rw [e1] at heq
    cases ho : o k with
    | mk a b => cases hp : p k with
     | mk c d =>
      rw [ho, hp] at heq
      simp [prim_nt, prim_eq, prim_ite] at heq
      obtain ⟨rfl, rfl⟩ := heq
      rfl
  ·have : k = n := by simp [prim_lt] at h; omega
   subst this
   exact hT hE
theorem O72 : FnOK Tryz.prog (gls7 W7) 72 F72 := by
 refine fnOK_S (C := C7 prim W7 noSpec sAl) (C7.ok _ _) (fn := Tryz.f72) (by kernel_rfl) (by kernel_rfl) fun H w shs args φ hrep h => ?_
 unfold F72 at h
 split at h
 ·rename_i s0 s1
  split at h
  ·rename_i n g m h' hs0 hs1
   obtain ⟨h1, h2, h3⟩ := h
   match args, hrep with
   | [v, u], ⟨hv, hu, _⟩ =>
    refine ⟨[.sl 2 n (fnR (rwAt (α := Pr) g)), .sl 2 m (fnR (rwAt (α := Pr) h'))], ⟨rep_rows (rep_slN hs0 hv) h1, rep_rows (rep_slN hs1 hu) h2, trivial⟩, L0, ?_⟩
    have hmax := rep_len (rep_slN hs0 hv)
    refine gSr (C7.ok _ _) (fok0 _) (hold := nH0) (m := 300) (n := 400) (ts := [⟨72, td71, LO72 n m (rwAt g) (rwAt h') (0 : Nat), []⟩]) ?_
    have hn : Tryz.f72.ntmps = 26 := by kernel_rfl
    rw [hn, a72 prim W7 n m (rwAt g) (rwAt h') (0 : Nat)]
    have h3 : φ (.b (sameL (lst Pr n g) (lst Pr m h'))) := h3
    refine ⟨fun h => ?_, fun h => ⟨⟨rfl, rfl, rfl, rfl, trivial⟩, _, rfl, ?_⟩⟩
    ·have hne : n ≠ m := by simp [prim_nt, prim_eq, prim_ofN] at h; exact fun e => h (by rw [e])
     rwa [sameL_false fun e => hne (by have := congrArg List.length e; simpa using this)] at h3
    ·have : n = m := by simp [prim_nt, prim_eq, prim_ofN] at h; omega
     subst this
     refine loop72 hmax (fun hE => ?_) (fun hE => ?_) n 0 (by omega) fun j hj => by omega
     ·rwa [sameL_true (lst_ext hE)] at h3
     ·rwa [sameL_false fun e => hE (lst_ext' e)] at h3
  ·exact h.elim
 ·exact h.elim
end Go.Proofs
namespace Go.Pl
open Go Go.Sx
def eqI (n : Nat) (g : Nat → List Sh) (m : Nat) (h : Nat → List Sh) : Bool := sameL (lst Int n g) (lst Int m h)
def eqP (n : Nat) (g : Nat → List Sh) (m : Nat) (h : Nat → List Sh) : Bool := sameL (lst Pr n g) (lst Pr m h)
def eqT (s t : Sta) : Bool := decide (s = t)
end Go.Pl
namespace Go.Proofs
open Go.Sx.Tree
open Go Go.Sx Go.Pl
def G71 : List Sh → Tree Sh
 | [.sl 1 n g, .sl 1 m h] => .need (okB Int n g) (.need (okB Int m h) (.leaf (.b (eqI n g m h))))
 | _ => .fail
def G72 : List Sh → Tree Sh
 | [.sl 2 n g, .sl 2 m h] => .need (okB Pr n g) (.need (okB Pr m h) (.leaf (.b (eqP n g m h))))
 | _ => .fail
def spec45 : Nat → Option (List Sh → Tree Sh)
 | 71 => some G71
 | 72 => some G72
 | _ => none
def F45 : List Sh → Tree Sh
 | [.agg [.i .i64 x, .i .i64 y, s2, s3], .agg [.i .i64 x', .i .i64 y', t2, t3]] => match slN 1 s2, slN 2 s3, slN 1 t2, slN 2 t3 with
  | some (a, h), some (b, l), some (a', h'), some (b', l') => .need (okB Int a h) (.need (okB Pr b l) (.need (okB Int a' h') (.need (okB Pr b' l') (.leaf (.b (eqT ⟨x, y, lst Int a h, lst Pr b l⟩ ⟨x', y', lst Int a' h', lst Pr b' l'⟩))))))
  | _, _, _, _ => .fail
 | _ => .fail
structure Ld7 where
 at_ : Nat → (Nat → List Sh) → Int → Sta
 same : Sta → Sta → Bool
theorem a45 (A : Prim) (W : Wd) (x y : Int) (a b : Nat) (h l : Nat → List Sh) (x' y' : Int) (a' b' : Nat) (h' l' : Nat → List Sh) : runTo (C7 A W spec45 sAl) nH0 300 400 45 [.code []] (start0 31 [.agg [.i .i64 x, .i .i64 y, .sl 1 a h, .sl 2 b l], .agg [.i .i64 x', .i .i64 y', .sl 1 a' h', .sl 2 b' l']] L0) [] [] = node (A.eq x x') (node (A.eq y y') (need (okB Int a h) (need (okB Int a' h') (node (eqI a h a' h') (need (okB Pr b l) (need (okB Pr b' l') (leaf (Fe2.ret (Sh.b (eqP b l b' l')))))) (leaf (Fe2.ret (Sh.b false)))))) (leaf (Fe2.ret (Sh.b false)))) (leaf (Fe2.ret (Sh.b false))) := by kernel_rfl
end Go.Proofs
namespace Go.Pl
open Go Go.Sx Go.Proofs
end Go.Pl
namespace Go.Proofs
open Go Go.Sx Go.Pl
theorem O71g : FnOK Tryz.prog (gls7 W7) 71 G71 := O71.mono fun H shs args φ hr h => by
 unfold G71 at h
 split at h
 ·rename_i n g m g'
  have h1 : slN 1 (.sl 1 n g) = some (n, g) := rfl
  have h2 : slN 1 (.sl 1 m g') = some (m, g') := rfl
  simp only [F71, h1, h2]
  exact h
 ·exact h.elim
theorem O72g : FnOK Tryz.prog (gls7 W7) 72 G72 := O72.mono fun H shs args φ hr h => by
 unfold G72 at h
 split at h
 ·rename_i n g m g'
  have h1 : slN 2 (.sl 2 n g) = some (n, g) := rfl
  have h2 : slN 2 (.sl 2 m g') = some (m, g') := rfl
  simp only [F72, h1, h2]
  exact h
 ·exact h.elim
theorem O45s : ∀ g F, spec45 g = some F → FnOK Tryz.prog (gls7 W7) g F := fun g F h => by
 unfold spec45 at h
 split at h
 ·cases h; exact O71g
 ·cases h; exact O72g
 ·cases h
theorem fok45 (stop : Nat → List Nat → Bool) : FnsOK Tryz.prog (C7 prim W7 spec45 stop) := C7.fok O45s fun g h => by
 unfold spec45 at h
 split at h
 all_goals first | (cases h; done) | kernel_rfl
theorem O45 : FnOK Tryz.prog (gls7 W7) 45 F45 := by
 refine fnOK_Ru (C := C7 prim W7 spec45 sAl) (C7.ok _ _) (fok45 _) (m := 300) (n := 400) (L := L0) (fn := Tryz.f45) (by kernel_rfl) (by kernel_rfl) fun H w shs args φ hrep h => ?_
 have hn : Tryz.f45.ntmps = 31 := by kernel_rfl
 unfold F45 at h
 split at h
 ·rename_i x y s2 s3 x' y' t2 t3
  split at h
  ·rename_i a hh b l a' h' b' l' e2 e3 e4 e5
   obtain ⟨h1, h2, h3, h4, hφ⟩ := h
   match args, hrep with
   | [v, u], ⟨hv, hu, _⟩ =>
    refine ⟨[.agg [.i .i64 x, .i .i64 y, .sl 1 a hh, .sl 2 b l], .agg [.i .i64 x', .i .i64 y', .sl 1 a' h', .sl 2 b' l']], ⟨rep_agg4 hv (fun _ r => rep_slN e2 r) (fun _ r => rep_slN e3 r), rep_agg4 hu (fun _ r => rep_slN e4 r) (fun _ r => rep_slN e5 r), trivial⟩, ?_⟩
    rw [hn, a45 prim W7 x y a b hh l x' y' a' b' h' l']
    have hφ : φ (.b (eqT ⟨x, y, lst Int a hh, lst Pr b l⟩ ⟨x', y', lst Int a' h', lst Pr b' l'⟩)) := hφ
    have no (hne : (⟨x, y, lst Int a hh, lst Pr b l⟩ : Sta) ≠ ⟨x', y', lst Int a' h', lst Pr b' l'⟩) : up φ (.b false) := by
     have : eqT ⟨x, y, lst Int a hh, lst Pr b l⟩ ⟨x', y', lst Int a' h', lst Pr b' l'⟩ = false := decide_eq_false hne
     rw [this] at hφ
     exact up_mk (s' := .b false) (.inl rfl) hφ
    refine ⟨fun k1 => ⟨fun k2 => ⟨h1, h3, fun k3 => ⟨h2, h4, ?_⟩, fun k3 => no fun e => ?_⟩, fun k2 => no fun e => ?_⟩, fun k1 => no fun e => ?_⟩
    ·have q1 : x = x' := by simpa [prim_eq] using k1
     have q2 : y = y' := by simpa [prim_eq] using k2
     have q3 : lst Int a hh = lst Int a' h' := of_decide_eq_true k3
     have : eqP b l b' l' = eqT ⟨x, y, lst Int a hh, lst Pr b l⟩ ⟨x', y', lst Int a' h', lst Pr b' l'⟩ := by
      unfold eqP eqT sameL
      rw [q1, q2, q3]
      by_cases e : lst Pr b l = lst Pr b' l' <;> simp [e]
     exact up_mk (s' := .b (eqT ⟨x, y, lst Int a hh, lst Pr b l⟩ ⟨x', y', lst Int a' h', lst Pr b' l'⟩)) (.inl (by rw [this])) hφ
    ·simp only [Sta.mk.injEq] at e
     have : eqI a hh a' h' = true := decide_eq_true e.2.2.1
     rw [this] at k3; cases k3
    ·simp only [Sta.mk.injEq] at e
     simp [prim_eq, e.2.1] at k2
    ·simp only [Sta.mk.injEq] at e
     simp [prim_eq, e.1] at k1
  ·exact h.elim
 ·exact h.elim
end Go.Proofs
namespace Go.Sx
@[irreducible] def MeetsT (ψ : Fe2 → Prop) (t : Tree Fe2) : Prop := t.All ψ
theorem meetsT_eq (ψ : Fe2 → Prop) (t : Tree Fe2) : MeetsT ψ t = t.All ψ := by unfold MeetsT; rfl
theorem gSt {P : Program} {C : Ctx} {H0 : Mem} {w0 : World} (hC : CtxOK P C) (hF : FnsOK P C) {m n g : Nat} {td : List It} {c : Core} {stk : List Fr} {ts : List Tgt} {R : Hp → Prop} {φ : Sh → Prop} {hold : Nat → Bool}
  (h : MeetsT (Fe2OK P C (K0 H0 w0) ts R φ) (runTo C hold m n g td c stk ts)) : GoesS P C (K0 H0 w0) g td c stk R φ := gSr hC hF (by rw [meetsT_eq] at h; exact h)
end Go.Sx
namespace Go.Pl
theorem no2 {b : Bool} {P : Prop} (h : b = false) (h2 : b = true) : P := by rw [h] at h2; cases h2
end Go.Pl
namespace Go.Proofs
open Go Go.Sx Go.Pl
theorem goesS_spec {A : Prim} {W : Wd} {s s' : Nat → Option (List Sh → Tree Sh)} {stop stop' : Nat → List Nat → Bool} {K : Kx} {g : Nat} {td : List It} {c : Core} {R : Hp → Prop} {φ : Sh → Prop}
  (h : GoesS Tryz.prog (C7 A W s stop) K g td c [] R φ) : GoesS Tryz.prog (C7 A W s' stop') K g td c [] R φ := fun H E w a items ms cs fn hf st hi hs hx =>
 h H E w a items ms cs fn hf ⟨st.den, st.hp, st.wok, st.free, st.gl, st.defers⟩ hi (by cases ms with
  | nil => trivial
  | cons _ _ => exact hs.elim) hx
theorem rep_lit {H : Mem} {k : IntKind} {n : Int} {v : Value} (h : Rep H (.i k n) v) : Rep H (.v (.int k n)) v := by
 cases h
 exact .v _ rfl
theorem lt_f {a b : Nat} (h : prim.lt (Int.ofNat a) (prim.ofN b) = false) : b ≤ a := by
 simp [prim_lt, prim_ofN] at h; omega
theorem add1 {j : Nat} (h : j ≤ 100000) : prim.add .i64 (j : Int) (Int.ofNat 1) = ((j + 1 : Nat) : Int) := by
 show IntKind.i64.wrap ((j : Int) + 1) = _
 rw [wrap_id (by omega) (by omega)]; rfl
end Go.Proofs
namespace Go.Pl
open Go Go.Sx
def spellsI (l : List UInt8) : Bool := okA l && (itoaS (valA l) == l)
end Go.Pl
namespace Go.Proofs
open Go.Sx.Tree
open Go Go.Sx Go.Pl
def stopNone : Nat → List Nat → Bool := fun _ _ => false
noncomputable def spec76 : Nat → Option (List Sh → Tree Sh)
 | 92 => some F92
 | 110 => some F110
 | _ => none
noncomputable def spec75 : Nat → Option (List Sh → Tree Sh)
 | 109 => some F109
 | _ => none
theorem a74 (A : Prim) (W : Wd) (w : List UInt8) : runTo (C7 A W noSpec stopNone) nH0 3000 4000 74 [.code []] (start0 32 [.v (.int .i64 1), .str w] L0) [] [] = node (A.seq (W 7 0) w) (leaf (Fe2.ret (Sh.tup [Sh.i .i64 (Int.ofNat 1), Sh.b true]))) (node (A.seq (W 7 1) w) (leaf (Fe2.ret (Sh.tup [Sh.i .i64 (Int.ofNat 2), Sh.b true]))) (node (A.seq (W 7 2) w) (leaf (Fe2.ret (Sh.tup [Sh.i .i64 (Int.ofNat 3), Sh.b true]))) (node (A.seq (W 7 3) w) (leaf (Fe2.ret (Sh.tup [Sh.i .i64 (Int.ofNat 4), Sh.b true]))) (leaf (Fe2.ret (Sh.tup [Sh.i .i64 (Int.ofNat 0), Sh.b false])))))) := by kernel_rfl
theorem a76 (A : Prim) (W : Wd) (w : List UInt8) : runTo (C7 A W spec76 sAl) nH0 300 400 76 [.code []] (start0 20 [.str w] L0) [] [] = need (shortS w) (node (okA w) (need (in64 (valA w)) (leaf (Fe2.ret (Sh.tup [Sh.i .i64 (valA w), Sh.b (A.seq (itoaS (valA w)) w)])))) (leaf (Fe2.ret (Sh.tup [Sh.i .i64 (valA w), Sh.b false])))) := by kernel_rfl
theorem a75 (A : Prim) (W : Wd) (w : List UInt8) : runTo (C7 A W spec75 sAl) nH0 300 400 75 [.code []] (start0 13 [.str w, .str [58]] L0) [] [] = need (shortS w) (leaf (Fe2.ret (Sh.tup [Sh.str (cutA w 58), Sh.str (cutB w 58), Sh.b (cutI w 58)]))) := by kernel_rfl
end Go.Proofs
namespace Go.Proofs
open Go.Sx.Tree
open Go Go.Sx Go.Pl
theorem all_a74 (A : Prim) (W : Wd) (w : List UInt8) {ψ : Fe2 → Prop} (y1 : (A.seq (W 7 0) w) = true → ψ (Fe2.ret (Sh.tup [Sh.i .i64 (Int.ofNat 1), Sh.b true]))) (y2 : (A.seq (W 7 0) w) = false → (A.seq (W 7 1) w) = true → ψ (Fe2.ret (Sh.tup [Sh.i .i64 (Int.ofNat 2), Sh.b true]))) (y3 : (A.seq (W 7 0) w) = false → (A.seq (W 7 1) w) = false → (A.seq (W 7 2) w) = true → ψ (Fe2.ret (Sh.tup [Sh.i .i64 (Int.ofNat 3), Sh.b true]))) (y4 : (A.seq (W 7 0) w) = false → (A.seq (W 7 1) w) = false → (A.seq (W 7 2) w) = false → (A.seq (W 7 3) w) = true → ψ (Fe2.ret (Sh.tup [Sh.i .i64 (Int.ofNat 4), Sh.b true]))) (y5 : (A.seq (W 7 0) w) = false → (A.seq (W 7 1) w) = false → (A.seq (W 7 2) w) = false → (A.seq (W 7 3) w) = false → ψ (Fe2.ret (Sh.tup [Sh.i .i64 (Int.ofNat 0), Sh.b false]))) : MeetsT ψ (runTo (C7 A W noSpec stopNone) nH0 3000 4000 74 [.code []] (start0 32 [.v (.int .i64 1), .str w] L0) [] []) := by
 rw [a74 A W w, meetsT_eq]
 exact ⟨fun q0 => (y1 q0), fun q0 => ⟨fun q1 => (y2 q0 q1), fun q1 => ⟨fun q2 => (y3 q0 q1 q2), fun q2 => ⟨fun q3 => (y4 q0 q1 q2 q3), fun q3 => (y5 q0 q1 q2 q3)⟩⟩⟩⟩
theorem all_a76 (A : Prim) (W : Wd) (w : List UInt8) {ψ : Fe2 → Prop} (h1 : (shortS w) = true) (h2 : (okA w) = true → (in64 (valA w)) = true) (y1 : (okA w) = true → ψ (Fe2.ret (Sh.tup [Sh.i .i64 (valA w), Sh.b (A.seq (itoaS (valA w)) w)]))) (y2 : (okA w) = false → ψ (Fe2.ret (Sh.tup [Sh.i .i64 (valA w), Sh.b false]))) : MeetsT ψ (runTo (C7 A W spec76 sAl) nH0 300 400 76 [.code []] (start0 20 [.str w] L0) [] []) := by
 rw [a76 A W w, meetsT_eq]
 exact ⟨(h1), ⟨fun q0 => ⟨(h2 q0), (y1 q0)⟩, fun q0 => (y2 q0)⟩⟩
theorem all_a75 (A : Prim) (W : Wd) (w : List UInt8) {ψ : Fe2 → Prop} (h1 : (shortS w) = true) (y1 : ψ (Fe2.ret (Sh.tup [Sh.str (cutA w 58), Sh.str (cutB w 58), Sh.b (cutI w 58)]))) : MeetsT ψ (runTo (C7 A W spec75 sAl) nH0 300 400 75 [.code []] (start0 13 [.str w, .str [58]] L0) [] []) := by
 rw [a75 A W w, meetsT_eq]
 exact ⟨(h1), (y1)⟩
end Go.Proofs
namespace Go.Proofs
open Go Go.Sx Go.Pl
def F75 : List Sh → Tree Sh
 | [.str w, .str [58]] => .need (shortS w) (.leaf (.tup [.str (cutA w 58), .str (cutB w 58), .b (cutI w 58)]))
 | _ => .fail
theorem fok75 (stop : Nat → List Nat → Bool) : FnsOK Tryz.prog (C7 prim W7 spec75 stop) := C7.fok (fun g F h => by
 unfold spec75 at h
 split at h
 ·cases h; exact O109
 ·cases h) fun g h => by
 unfold spec75 at h
 split at h
 all_goals first | (cases h; done) | kernel_rfl
theorem O75 : FnOK Tryz.prog (gls7 W7) 75 F75 := by
 refine fnOK_S (C := C7 prim W7 spec75 sAl) (C7.ok _ _) (fn := Tryz.f75) (by kernel_rfl) (by kernel_rfl) fun H w shs args φ hrep h => ?_
 have hn : Tryz.f75.ntmps = 13 := by kernel_rfl
 unfold F75 at h
 split at h
 ·rename_i l
  obtain ⟨h1, hφ⟩ := h
  refine ⟨[.str l, .str [58]], hrep, L0, ?_⟩
  refine gSt (C7.ok _ _) (fok75 _) (hold := nH0) (m := 300) (n := 400) (ts := []) ?_
  rw [hn]
  exact all_a75 prim W7 l h1 hφ
 ·exact h.elim
noncomputable def F76 : List Sh → Tree Sh
 | [.str w] => .need (shortS w) (.leaf (.tup [.i .i64 (valA w), .b (spellsI w)]))
 | _ => .fail
theorem fok76 (stop : Nat → List Nat → Bool) : FnsOK Tryz.prog (C7 prim W7 spec76 stop) := C7.fok (fun g F h => by
 unfold spec76 at h
 split at h
 ·cases h; exact O92
 ·cases h; exact O110
 ·cases h) fun g h => by
 unfold spec76 at h
 split at h
 all_goals first | (cases h; done) | kernel_rfl
theorem O76 : FnOK Tryz.prog (gls7 W7) 76 F76 := by
 refine fnOK_Su (C := C7 prim W7 spec76 sAl) (C7.ok _ _) (fn := Tryz.f76) (by kernel_rfl) (by kernel_rfl) fun H w shs args φ hrep h => ?_
 have hn : Tryz.f76.ntmps = 20 := by kernel_rfl
 unfold F76 at h
 split at h
 ·rename_i l
  obtain ⟨h1, hφ⟩ := h
  refine ⟨[.str l], hrep, L0, ?_⟩
  have key : ∀ b, b = spellsI l → up φ (.tup [.i .i64 (valA l), .b b]) := fun b e => up_mk (s' := .tup [.i .i64 (valA l), .b (spellsI l)]) ⟨rfl, .inl (by rw [e]), trivial⟩ hφ
  refine gSt (C7.ok _ _) (fok76 _) (hold := nH0) (m := 300) (n := 400) (ts := []) ?_
  rw [hn]
  refine all_a76 prim W7 l h1 ?_ ?_ ?_
  ·intro q
   unfold okA at q
   rcases ha : Lib.atoiAll l with v | _ | _
   ·have hv : valA l = v := by unfold valA; rw [ha]
    have := Lib.atoiAll_bounds ha
    rw [hv]
    exact decide_eq_true ⟨by omega, by omega⟩
   ·rw [ha] at q; cases q
   ·rw [ha] at q; cases q
  ·intro q
   refine key _ ?_
   unfold spellsI
   rw [q]
   rw [Bool.true_and, Bool.eq_iff_iff]
   simp [prim_seq]
  ·intro q
   refine key _ ?_
   unfold spellsI
   rw [q]; rfl
 ·exact h.elim
end Go.Proofs
namespace Go.Pl
open Go Go.Sx
def kindW (w : List UInt8) : Int := if Go.Proofs.W7 7 0 = w then 1 else if Go.Proofs.W7 7 1 = w then 2 else if Go.Proofs.W7 7 2 = w then 3 else if Go.Proofs.W7 7 3 = w then 4 else 0
def isKind (w : List UInt8) (k : Int) (b : Bool) : Bool := decide (kindW w = k ∧ b = decide (k ≠ 0))
end Go.Pl
namespace Go.Proofs
open Go.Sx.Tree
open Go Go.Sx Go.Pl
noncomputable def F108s : List Sh → Tree Sh
 | [.str l, .str [c], t, u] => match icode t, icode u with
  | some (Int.ofNat 0), some (Int.negSucc 0) => .need (shortS l) (.leaf (.sl 1 (splitN l c) (fnR (nth (splitS l c)))))
  | _, _ => .fail
 | _ => .fail
def F74w (k : Int) (b : Bool) : List Sh → Tree Sh
 | [t, .str w] => match icode t with
  | some (Int.ofNat 1) => .need (isKind w k b) (.leaf (.tup [.v (.int .i64 k), .v (.bool b)]))
  | _ => .fail
 | _ => .fail
noncomputable def spec46 (k : Int) (b : Bool) : Nat → Option (List Sh → Tree Sh)
 | 69 => some F69
 | 74 => some (F74w k b)
 | 75 => some F75
 | 76 => some F76
 | 108 => some F108s
 | _ => none
def td46 : List It := [It.code [0, 1, 0, 1, 1, 1, 1, 1, 1, 1, 1], It.inBlock 0, It.code [1, 1, 1, 1, 1, 1, 1, 1, 1]]
def tb46 : List It := It.code [0, 0, 1, 0, 1, 1, 1, 1, 1, 1, 1, 1] :: td46
def cl46 (e st c : Nat) (gg : Nat → List Sh) : Bool → SV × List (Nat × SB)
 | true => (.nils, [])
 | false => (.gs 2, [(2, .own e st c gg)])
def nx46 : Bool → Nat
 | true => 2
 | false => 3
def tm46 (k : Int) (m : Nat) (vs : Nat → List UInt8) (i : Int) (far : Bool) : List SV := tmOf 139 [(2, .ptr 0 0), (5, .int .i64 k), (7, .ptr 1 0), (8, .test far), (49, .sh (.sl 1 m (fnR vs))), (50, .sym .i64 (m : Int)), (51, .sym .i64 i)]
def LF1 (k : Int) (x : Int) (m : Nat) (vs : Nat → List UInt8) (i : Int) (far : Bool) : Core := { tm := tm46 k m vs i far, hp := [(0, .box [.int .i64 0, .int .i64 0, .nils, .nils] 72), (1, .box [.int .i64 k, .sym .i64 x, .nils, .nils] 72)], nx := 2, lim := L0, tc := [] }
def LF3 (c : Nat) (gg : Nat → List Sh) (v : Bool) (m : Nat) (vs : Nat → List UInt8) (i : Int) (far : Bool) : Core := { tm := tm46 3 m vs i far, hp := [(0, .box [.int .i64 0, .int .i64 0, .nils, .nils] 72), (1, .box [.int .i64 3, .int .i64 0, (cl46 3 1 c gg v).1, .nils] 72)] ++ (cl46 3 1 c gg v).2, nx := nx46 v, lim := L0, tc := [] }
def LF4 (c : Nat) (gg : Nat → List Sh) (v : Bool) (m : Nat) (vs : Nat → List UInt8) (i : Int) (far : Bool) : Core := { tm := tm46 4 m vs i far, hp := [(0, .box [.int .i64 0, .int .i64 0, .nils, .nils] 72), (1, .box [.int .i64 4, .int .i64 0, .nils, (cl46 116 2 c gg v).1] 72)] ++ (cl46 116 2 c gg v).2, nx := nx46 v, lim := L0, tc := [] }
theorem n46 (A : Prim) (W : Wd) (l : List UInt8) : runTo (C7 A W (spec46 0 false) sAl) nH0 300 400 46 [.code []] (start0 139 [.str l] L0) [] [] = need (shortS l) (need (A.inB (Int.ofNat 0) (splitN l 32)) (need (isKind (nth (splitS l 32) 0) (Int.ofNat 0) false) (leaf (Fe2.ret (Sh.tup [Sh.agg [Sh.i .i64 (Int.ofNat 0), Sh.i .i64 (Int.ofNat 0), Sh.sl 0 0 fun _ => [], Sh.sl 0 0 fun _ => []], Sh.er 2 242]))))) := by kernel_rfl
theorem a46_1 (A : Prim) (W : Wd) (l : List UInt8) (x' : Int) (m' : Nat) (vs' : Nat → List UInt8) (i' : Int) (far' : Bool) : runTo (C7 A W (spec46 1 true) sAl) nH0 300 400 46 [.code []] (start0 139 [.str l] L0) [] [⟨46, td46, LF1 1 x' m' vs' i' far', []⟩] = need (shortS l) (need (A.inB (Int.ofNat 0) (splitN l 32)) (need (isKind (nth (splitS l 32) 0) (Int.ofNat 1) true) (need (A.upTo (Int.ofNat 1) (splitN l 32)) (node (A.nt (A.eq (A.ofN (A.subN (splitN l 32) 1)) (Int.ofNat 1))) (leaf (Fe2.ret (Sh.tup [Sh.agg [Sh.i .i64 (Int.ofNat 0), Sh.i .i64 (Int.ofNat 0), Sh.sl 0 0 fun _ => [], Sh.sl 0 0 fun _ => []], Sh.er 2 242]))) (leaf (Fe2.at_ 0 [Eqn.int (Int.ofNat 1) (Int.ofNat 1), Eqn.bool false far', Eqn.sh (Sh.sl 1 (A.subN (splitN l 32) 1) fun (j : Nat) => fnR (nth (splitS l 32)) (A.addN 1 j)) (Sh.sl 1 m' (fnR vs')), Eqn.int (A.ofN (A.subN (splitN l 32) 1)) (Int.ofNat m'), Eqn.int (Int.ofNat 0) i', Eqn.int (Int.ofNat 0) (Int.ofNat 0), Eqn.int (Int.ofNat 0) (Int.ofNat 0), Eqn.int (Int.ofNat 1) (Int.ofNat 1), Eqn.int (Int.ofNat 0) x'])))))) := by kernel_rfl
theorem b46_1 (A : Prim) (W : Wd) (m : Nat) (vs : Nat → List UInt8) (x x' : Int) (i i' : Int) (far far' : Bool) : runTo (C7 A W (spec46 1 true) sAl) nH0 300 400 46 tb46 (LF1 1 x m vs i far) [] [⟨46, td46, LF1 1 x' m vs i' far', []⟩] = node (A.lt i (Int.ofNat m)) (need (A.inB i m) (need (shortS (vs (A.toN i))) (node (A.nt (cutI (vs (A.toN i)) 58)) (need (shortS (vs (A.toN i))) (need (shortS [48]) (node (A.nt (A.beq (cutI (vs (A.toN i)) 58) false)) (leaf (Fe2.ret (Sh.tup [Sh.agg [Sh.i .i64 (Int.ofNat 0), Sh.i .i64 (Int.ofNat 0), Sh.sl 0 0 fun _ => [], Sh.sl 0 0 fun _ => []], Sh.er 2 242]))) (node (A.nt (spellsI (vs (A.toN i)))) (leaf (Fe2.ret (Sh.tup [Sh.agg [Sh.i .i64 (Int.ofNat 0), Sh.i .i64 (Int.ofNat 0), Sh.sl 0 0 fun _ => [], Sh.sl 0 0 fun _ => []], Sh.er 2 242]))) (node (A.nt (spellsI [48])) (leaf (Fe2.ret (Sh.tup [Sh.agg [Sh.i .i64 (Int.ofNat 0), Sh.i .i64 (Int.ofNat 0), Sh.sl 0 0 fun _ => [], Sh.sl 0 0 fun _ => []], Sh.er 2 242]))) (node far (leaf (Fe2.at_ 0 [Eqn.int (Int.ofNat 1) (Int.ofNat 1), Eqn.bool true far', Eqn.sh (Sh.sl 1 m (fnR vs)) (Sh.sl 1 m (fnR vs)), Eqn.int (Int.ofNat m) (Int.ofNat m), Eqn.int (A.add .i64 i (Int.ofNat 1)) i', Eqn.int (Int.ofNat 0) (Int.ofNat 0), Eqn.int (Int.ofNat 0) (Int.ofNat 0), Eqn.int (Int.ofNat 1) (Int.ofNat 1), Eqn.int (valA (vs (A.toN i))) x'])) (leaf (Fe2.at_ 0 [Eqn.int (Int.ofNat 1) (Int.ofNat 1), Eqn.bool (beyondB (Int.ofNat 1) (valA [48]) (valA (vs (A.toN i)))) far', Eqn.sh (Sh.sl 1 m (fnR vs)) (Sh.sl 1 m (fnR vs)), Eqn.int (Int.ofNat m) (Int.ofNat m), Eqn.int (A.add .i64 i (Int.ofNat 1)) i', Eqn.int (Int.ofNat 0) (Int.ofNat 0), Eqn.int (Int.ofNat 0) (Int.ofNat 0), Eqn.int (Int.ofNat 1) (Int.ofNat 1), Eqn.int (valA (vs (A.toN i))) x'])))))))) (need (shortS (cutB (vs (A.toN i)) 58)) (need (shortS (cutA (vs (A.toN i)) 58)) (node (A.nt (A.beq (cutI (vs (A.toN i)) 58) false)) (leaf (Fe2.ret (Sh.tup [Sh.agg [Sh.i .i64 (Int.ofNat 0), Sh.i .i64 (Int.ofNat 0), Sh.sl 0 0 fun _ => [], Sh.sl 0 0 fun _ => []], Sh.er 2 242]))) (node (A.nt (spellsI (cutB (vs (A.toN i)) 58))) (leaf (Fe2.ret (Sh.tup [Sh.agg [Sh.i .i64 (Int.ofNat 0), Sh.i .i64 (Int.ofNat 0), Sh.sl 0 0 fun _ => [], Sh.sl 0 0 fun _ => []], Sh.er 2 242]))) (node (A.nt (spellsI (cutA (vs (A.toN i)) 58))) (leaf (Fe2.ret (Sh.tup [Sh.agg [Sh.i .i64 (Int.ofNat 0), Sh.i .i64 (Int.ofNat 0), Sh.sl 0 0 fun _ => [], Sh.sl 0 0 fun _ => []], Sh.er 2 242]))) (node far (leaf (Fe2.at_ 0 [Eqn.int (Int.ofNat 1) (Int.ofNat 1), Eqn.bool true far', Eqn.sh (Sh.sl 1 m (fnR vs)) (Sh.sl 1 m (fnR vs)), Eqn.int (Int.ofNat m) (Int.ofNat m), Eqn.int (A.add .i64 i (Int.ofNat 1)) i', Eqn.int (Int.ofNat 0) (Int.ofNat 0), Eqn.int (Int.ofNat 0) (Int.ofNat 0), Eqn.int (Int.ofNat 1) (Int.ofNat 1), Eqn.int (valA (cutB (vs (A.toN i)) 58)) x'])) (leaf (Fe2.at_ 0 [Eqn.int (Int.ofNat 1) (Int.ofNat 1), Eqn.bool (beyondB (Int.ofNat 1) (valA (cutA (vs (A.toN i)) 58)) (valA (cutB (vs (A.toN i)) 58))) far', Eqn.sh (Sh.sl 1 m (fnR vs)) (Sh.sl 1 m (fnR vs)), Eqn.int (Int.ofNat m) (Int.ofNat m), Eqn.int (A.add .i64 i (Int.ofNat 1)) i', Eqn.int (Int.ofNat 0) (Int.ofNat 0), Eqn.int (Int.ofNat 0) (Int.ofNat 0), Eqn.int (Int.ofNat 1) (Int.ofNat 1), Eqn.int (valA (cutB (vs (A.toN i)) 58)) x']))))))))))) (node far (leaf (Fe2.ret (Sh.tup [Sh.agg [Sh.i .i64 (Int.ofNat 0), Sh.i .i64 (Int.ofNat 0), Sh.sl 0 0 fun _ => [], Sh.sl 0 0 fun _ => []], Sh.er 4 242]))) (leaf (Fe2.ret (Sh.tup [Sh.agg [Sh.i .i64 (Int.ofNat 1), Sh.i .i64 x, Sh.sl 0 0 fun _ => [], Sh.sl 0 0 fun _ => []], Sh.v Value.nilIface])))) := by kernel_rfl
theorem a46_2 (A : Prim) (W : Wd) (l : List UInt8) (x' : Int) (m' : Nat) (vs' : Nat → List UInt8) (i' : Int) (far' : Bool) : runTo (C7 A W (spec46 2 true) sAl) nH0 300 400 46 [.code []] (start0 139 [.str l] L0) [] [⟨46, td46, LF1 2 x' m' vs' i' far', []⟩] = need (shortS l) (need (A.inB (Int.ofNat 0) (splitN l 32)) (need (isKind (nth (splitS l 32) 0) (Int.ofNat 2) true) (need (A.upTo (Int.ofNat 1) (splitN l 32)) (node (A.nt (A.eq (A.ofN (A.subN (splitN l 32) 1)) (Int.ofNat 1))) (leaf (Fe2.ret (Sh.tup [Sh.agg [Sh.i .i64 (Int.ofNat 0), Sh.i .i64 (Int.ofNat 0), Sh.sl 0 0 fun _ => [], Sh.sl 0 0 fun _ => []], Sh.er 2 242]))) (leaf (Fe2.at_ 0 [Eqn.int (Int.ofNat 2) (Int.ofNat 2), Eqn.bool false far', Eqn.sh (Sh.sl 1 (A.subN (splitN l 32) 1) fun (j : Nat) => fnR (nth (splitS l 32)) (A.addN 1 j)) (Sh.sl 1 m' (fnR vs')), Eqn.int (A.ofN (A.subN (splitN l 32) 1)) (Int.ofNat m'), Eqn.int (Int.ofNat 0) i', Eqn.int (Int.ofNat 0) (Int.ofNat 0), Eqn.int (Int.ofNat 0) (Int.ofNat 0), Eqn.int (Int.ofNat 2) (Int.ofNat 2), Eqn.int (Int.ofNat 0) x'])))))) := by kernel_rfl
theorem b46_2 (A : Prim) (W : Wd) (m : Nat) (vs : Nat → List UInt8) (x x' : Int) (i i' : Int) (far far' : Bool) : runTo (C7 A W (spec46 2 true) sAl) nH0 300 400 46 tb46 (LF1 2 x m vs i far) [] [⟨46, td46, LF1 2 x' m vs i' far', []⟩] = node (A.lt i (Int.ofNat m)) (need (A.inB i m) (need (shortS (vs (A.toN i))) (node (A.nt (cutI (vs (A.toN i)) 58)) (need (shortS (vs (A.toN i))) (need (shortS [48]) (node (A.nt (A.beq (cutI (vs (A.toN i)) 58) false)) (leaf (Fe2.ret (Sh.tup [Sh.agg [Sh.i .i64 (Int.ofNat 0), Sh.i .i64 (Int.ofNat 0), Sh.sl 0 0 fun _ => [], Sh.sl 0 0 fun _ => []], Sh.er 2 242]))) (node (A.nt (spellsI (vs (A.toN i)))) (leaf (Fe2.ret (Sh.tup [Sh.agg [Sh.i .i64 (Int.ofNat 0), Sh.i .i64 (Int.ofNat 0), Sh.sl 0 0 fun _ => [], Sh.sl 0 0 fun _ => []], Sh.er 2 242]))) (node (A.nt (spellsI [48])) (leaf (Fe2.ret (Sh.tup [Sh.agg [Sh.i .i64 (Int.ofNat 0), Sh.i .i64 (Int.ofNat 0), Sh.sl 0 0 fun _ => [], Sh.sl 0 0 fun _ => []], Sh.er 2 242]))) (node far (leaf (Fe2.at_ 0 [Eqn.int (Int.ofNat 2) (Int.ofNat 2), Eqn.bool true far', Eqn.sh (Sh.sl 1 m (fnR vs)) (Sh.sl 1 m (fnR vs)), Eqn.int (Int.ofNat m) (Int.ofNat m), Eqn.int (A.add .i64 i (Int.ofNat 1)) i', Eqn.int (Int.ofNat 0) (Int.ofNat 0), Eqn.int (Int.ofNat 0) (Int.ofNat 0), Eqn.int (Int.ofNat 2) (Int.ofNat 2), Eqn.int (valA (vs (A.toN i))) x'])) (leaf (Fe2.at_ 0 [Eqn.int (Int.ofNat 2) (Int.ofNat 2), Eqn.bool (beyondB (Int.ofNat 2) (valA [48]) (valA (vs (A.toN i)))) far', Eqn.sh (Sh.sl 1 m (fnR vs)) (Sh.sl 1 m (fnR vs)), Eqn.int (Int.ofNat m) (Int.ofNat m), Eqn.int (A.add .i64 i (Int.ofNat 1)) i', Eqn.int (Int.ofNat 0) (Int.ofNat 0), Eqn.int (Int.ofNat 0) (Int.ofNat 0), Eqn.int (Int.ofNat 2) (Int.ofNat 2), Eqn.int (valA (vs (A.toN i))) x'])))))))) (need (shortS (cutB (vs (A.toN i)) 58)) (need (shortS (cutA (vs (A.toN i)) 58)) (node (A.nt (A.beq (cutI (vs (A.toN i)) 58) false)) (leaf (Fe2.ret (Sh.tup [Sh.agg [Sh.i .i64 (Int.ofNat 0), Sh.i .i64 (Int.ofNat 0), Sh.sl 0 0 fun _ => [], Sh.sl 0 0 fun _ => []], Sh.er 2 242]))) (node (A.nt (spellsI (cutB (vs (A.toN i)) 58))) (leaf (Fe2.ret (Sh.tup [Sh.agg [Sh.i .i64 (Int.ofNat 0), Sh.i .i64 (Int.ofNat 0), Sh.sl 0 0 fun _ => [], Sh.sl 0 0 fun _ => []], Sh.er 2 242]))) (node (A.nt (spellsI (cutA (vs (A.toN i)) 58))) (leaf (Fe2.ret (Sh.tup [Sh.agg [Sh.i .i64 (Int.ofNat 0), Sh.i .i64 (Int.ofNat 0), Sh.sl 0 0 fun _ => [], Sh.sl 0 0 fun _ => []], Sh.er 2 242]))) (node far (leaf (Fe2.at_ 0 [Eqn.int (Int.ofNat 2) (Int.ofNat 2), Eqn.bool true far', Eqn.sh (Sh.sl 1 m (fnR vs)) (Sh.sl 1 m (fnR vs)), Eqn.int (Int.ofNat m) (Int.ofNat m), Eqn.int (A.add .i64 i (Int.ofNat 1)) i', Eqn.int (Int.ofNat 0) (Int.ofNat 0), Eqn.int (Int.ofNat 0) (Int.ofNat 0), Eqn.int (Int.ofNat 2) (Int.ofNat 2), Eqn.int (valA (cutB (vs (A.toN i)) 58)) x'])) (leaf (Fe2.at_ 0 [Eqn.int (Int.ofNat 2) (Int.ofNat 2), Eqn.bool (beyondB (Int.ofNat 2) (valA (cutA (vs (A.toN i)) 58)) (valA (cutB (vs (A.toN i)) 58))) far', Eqn.sh (Sh.sl 1 m (fnR vs)) (Sh.sl 1 m (fnR vs)), Eqn.int (Int.ofNat m) (Int.ofNat m), Eqn.int (A.add .i64 i (Int.ofNat 1)) i', Eqn.int (Int.ofNat 0) (Int.ofNat 0), Eqn.int (Int.ofNat 0) (Int.ofNat 0), Eqn.int (Int.ofNat 2) (Int.ofNat 2), Eqn.int (valA (cutB (vs (A.toN i)) 58)) x']))))))))))) (node far (leaf (Fe2.ret (Sh.tup [Sh.agg [Sh.i .i64 (Int.ofNat 0), Sh.i .i64 (Int.ofNat 0), Sh.sl 0 0 fun _ => [], Sh.sl 0 0 fun _ => []], Sh.er 4 242]))) (leaf (Fe2.ret (Sh.tup [Sh.agg [Sh.i .i64 (Int.ofNat 2), Sh.i .i64 x, Sh.sl 0 0 fun _ => [], Sh.sl 0 0 fun _ => []], Sh.v Value.nilIface])))) := by kernel_rfl
theorem a46_3 (A : Prim) (W : Wd) (l : List UInt8) (m' : Nat) (vs' : Nat → List UInt8) (i' : Int) (far' : Bool) : runTo (C7 A W (spec46 3 true) sAl) nH0 300 400 46 [.code []] (start0 139 [.str l] L0) [] [⟨46, td46, LF3 0 (fun _ => []) true m' vs' i' far', []⟩] = need (shortS l) (need (A.inB (Int.ofNat 0) (splitN l 32)) (need (isKind (nth (splitS l 32) 0) (Int.ofNat 3) true) (need (A.upTo (Int.ofNat 1) (splitN l 32)) (leaf (Fe2.at_ 0 [Eqn.int (Int.ofNat 3) (Int.ofNat 3), Eqn.bool false far', Eqn.sh (Sh.sl 1 (A.subN (splitN l 32) 1) fun (j : Nat) => fnR (nth (splitS l 32)) (A.addN 1 j)) (Sh.sl 1 m' (fnR vs')), Eqn.int (A.ofN (A.subN (splitN l 32) 1)) (Int.ofNat m'), Eqn.int (Int.ofNat 0) i', Eqn.int (Int.ofNat 0) (Int.ofNat 0), Eqn.int (Int.ofNat 0) (Int.ofNat 0), Eqn.int (Int.ofNat 3) (Int.ofNat 3), Eqn.int (Int.ofNat 0) (Int.ofNat 0)]))))) := by kernel_rfl
theorem b46_3t (A : Prim) (W : Wd) (m : Nat) (vs : Nat → List UInt8) (c' : Nat) (gg' : Nat → Int) (i i' : Int) (far far' : Bool) : runTo (C7 A W (spec46 3 true) sAl) nH0 300 400 46 tb46 (LF3 0 (fun _ => []) true m vs i far) [] [⟨46, td46, LF3 c' (fnR gg') false m vs i' far', []⟩] = node (A.lt i (Int.ofNat m)) (need (A.inB i m) (need (shortS (vs (A.toN i))) (node (A.nt (cutI (vs (A.toN i)) 58)) (need (shortS (vs (A.toN i))) (need (shortS [48]) (node (A.nt (A.beq (cutI (vs (A.toN i)) 58) false)) (leaf (Fe2.ret (Sh.tup [Sh.agg [Sh.i .i64 (Int.ofNat 0), Sh.i .i64 (Int.ofNat 0), Sh.sl 0 0 fun _ => [], Sh.sl 0 0 fun _ => []], Sh.er 2 242]))) (node (A.nt (spellsI (vs (A.toN i)))) (leaf (Fe2.ret (Sh.tup [Sh.agg [Sh.i .i64 (Int.ofNat 0), Sh.i .i64 (Int.ofNat 0), Sh.sl 0 0 fun _ => [], Sh.sl 0 0 fun _ => []], Sh.er 2 242]))) (node (A.nt (spellsI [48])) (leaf (Fe2.ret (Sh.tup [Sh.agg [Sh.i .i64 (Int.ofNat 0), Sh.i .i64 (Int.ofNat 0), Sh.sl 0 0 fun _ => [], Sh.sl 0 0 fun _ => []], Sh.er 2 242]))) (node far (leaf (Fe2.at_ 0 [Eqn.int (Int.ofNat 3) (Int.ofNat 3), Eqn.bool true far', Eqn.sh (Sh.sl 1 m (fnR vs)) (Sh.sl 1 m (fnR vs)), Eqn.int (Int.ofNat m) (Int.ofNat m), Eqn.int (A.add .i64 i (Int.ofNat 1)) i', Eqn.int (Int.ofNat 0) (Int.ofNat 0), Eqn.int (Int.ofNat 0) (Int.ofNat 0), Eqn.int (Int.ofNat 3) (Int.ofNat 3), Eqn.int (Int.ofNat 0) (Int.ofNat 0), Eqn.nat 1 c', Eqn.get 1 (nthL [[Sh.i .i64 (valA (vs (A.toN i)))]]) (fnR gg')])) (leaf (Fe2.at_ 0 [Eqn.int (Int.ofNat 3) (Int.ofNat 3), Eqn.bool (beyondB (Int.ofNat 3) (valA [48]) (valA (vs (A.toN i)))) far', Eqn.sh (Sh.sl 1 m (fnR vs)) (Sh.sl 1 m (fnR vs)), Eqn.int (Int.ofNat m) (Int.ofNat m), Eqn.int (A.add .i64 i (Int.ofNat 1)) i', Eqn.int (Int.ofNat 0) (Int.ofNat 0), Eqn.int (Int.ofNat 0) (Int.ofNat 0), Eqn.int (Int.ofNat 3) (Int.ofNat 3), Eqn.int (Int.ofNat 0) (Int.ofNat 0), Eqn.nat 1 c', Eqn.get 1 (nthL [[Sh.i .i64 (valA (vs (A.toN i)))]]) (fnR gg')])))))))) (need (shortS (cutB (vs (A.toN i)) 58)) (need (shortS (cutA (vs (A.toN i)) 58)) (node (A.nt (A.beq (cutI (vs (A.toN i)) 58) false)) (leaf (Fe2.ret (Sh.tup [Sh.agg [Sh.i .i64 (Int.ofNat 0), Sh.i .i64 (Int.ofNat 0), Sh.sl 0 0 fun _ => [], Sh.sl 0 0 fun _ => []], Sh.er 2 242]))) (node (A.nt (spellsI (cutB (vs (A.toN i)) 58))) (leaf (Fe2.ret (Sh.tup [Sh.agg [Sh.i .i64 (Int.ofNat 0), Sh.i .i64 (Int.ofNat 0), Sh.sl 0 0 fun _ => [], Sh.sl 0 0 fun _ => []], Sh.er 2 242]))) (node (A.nt (spellsI (cutA (vs (A.toN i)) 58))) (leaf (Fe2.ret (Sh.tup [Sh.agg [Sh.i .i64 (Int.ofNat 0), Sh.i .i64 (Int.ofNat 0), Sh.sl 0 0 fun _ => [], Sh.sl 0 0 fun _ => []], Sh.er 2 242]))) (node far (leaf (Fe2.at_ 0 [Eqn.int (Int.ofNat 3) (Int.ofNat 3), Eqn.bool true far', Eqn.sh (Sh.sl 1 m (fnR vs)) (Sh.sl 1 m (fnR vs)), Eqn.int (Int.ofNat m) (Int.ofNat m), Eqn.int (A.add .i64 i (Int.ofNat 1)) i', Eqn.int (Int.ofNat 0) (Int.ofNat 0), Eqn.int (Int.ofNat 0) (Int.ofNat 0), Eqn.int (Int.ofNat 3) (Int.ofNat 3), Eqn.int (Int.ofNat 0) (Int.ofNat 0), Eqn.nat 1 c', Eqn.get 1 (nthL [[Sh.i .i64 (valA (cutB (vs (A.toN i)) 58))]]) (fnR gg')])) (leaf (Fe2.at_ 0 [Eqn.int (Int.ofNat 3) (Int.ofNat 3), Eqn.bool (beyondB (Int.ofNat 3) (valA (cutA (vs (A.toN i)) 58)) (valA (cutB (vs (A.toN i)) 58))) far', Eqn.sh (Sh.sl 1 m (fnR vs)) (Sh.sl 1 m (fnR vs)), Eqn.int (Int.ofNat m) (Int.ofNat m), Eqn.int (A.add .i64 i (Int.ofNat 1)) i', Eqn.int (Int.ofNat 0) (Int.ofNat 0), Eqn.int (Int.ofNat 0) (Int.ofNat 0), Eqn.int (Int.ofNat 3) (Int.ofNat 3), Eqn.int (Int.ofNat 0) (Int.ofNat 0), Eqn.nat 1 c', Eqn.get 1 (nthL [[Sh.i .i64 (valA (cutB (vs (A.toN i)) 58))]]) (fnR gg')]))))))))))) (node far (leaf (Fe2.ret (Sh.tup [Sh.agg [Sh.i .i64 (Int.ofNat 0), Sh.i .i64 (Int.ofNat 0), Sh.sl 0 0 fun _ => [], Sh.sl 0 0 fun _ => []], Sh.er 4 242]))) (leaf (Fe2.ret (Sh.tup [Sh.agg [Sh.i .i64 (Int.ofNat 3), Sh.i .i64 (Int.ofNat 0), Sh.sl 0 0 fun _ => [], Sh.sl 0 0 fun _ => []], Sh.v Value.nilIface])))) := by kernel_rfl
theorem b46_3f (A : Prim) (W : Wd) (m : Nat) (vs : Nat → List UInt8) (c : Nat) (gg : Nat → Int) (c' : Nat) (gg' : Nat → Int) (i i' : Int) (far far' : Bool) : runTo (C7 A W (spec46 3 true) sAl) nH0 300 400 46 tb46 (LF3 c (fnR gg) false m vs i far) [] [⟨46, td46, LF3 c' (fnR gg') false m vs i' far', []⟩] = node (A.lt i (Int.ofNat m)) (need (A.inB i m) (need (shortS (vs (A.toN i))) (node (A.nt (cutI (vs (A.toN i)) 58)) (need (shortS (vs (A.toN i))) (need (shortS [48]) (node (A.nt (A.beq (cutI (vs (A.toN i)) 58) false)) (leaf (Fe2.ret (Sh.tup [Sh.agg [Sh.i .i64 (Int.ofNat 0), Sh.i .i64 (Int.ofNat 0), Sh.sl 0 0 fun _ => [], Sh.sl 0 0 fun _ => []], Sh.er 2 242]))) (node (A.nt (spellsI (vs (A.toN i)))) (leaf (Fe2.ret (Sh.tup [Sh.agg [Sh.i .i64 (Int.ofNat 0), Sh.i .i64 (Int.ofNat 0), Sh.sl 0 0 fun _ => [], Sh.sl 0 0 fun _ => []], Sh.er 2 242]))) (node (A.nt (spellsI [48])) (leaf (Fe2.ret (Sh.tup [Sh.agg [Sh.i .i64 (Int.ofNat 0), Sh.i .i64 (Int.ofNat 0), Sh.sl 0 0 fun _ => [], Sh.sl 0 0 fun _ => []], Sh.er 2 242]))) (node far (need (A.room (A.addN c 1) 8) (leaf (Fe2.at_ 0 [Eqn.int (Int.ofNat 3) (Int.ofNat 3), Eqn.bool true far', Eqn.sh (Sh.sl 1 m (fnR vs)) (Sh.sl 1 m (fnR vs)), Eqn.int (Int.ofNat m) (Int.ofNat m), Eqn.int (A.add .i64 i (Int.ofNat 1)) i', Eqn.int (Int.ofNat 0) (Int.ofNat 0), Eqn.int (Int.ofNat 0) (Int.ofNat 0), Eqn.int (Int.ofNat 3) (Int.ofNat 3), Eqn.int (Int.ofNat 0) (Int.ofNat 0), Eqn.nat (A.addN c 1) c', Eqn.get (A.addN c 1) (A.snoc (fnR gg) c (nthL [[Sh.i .i64 (valA (vs (A.toN i)))]])) (fnR gg')]))) (need (A.room (A.addN c 1) 8) (leaf (Fe2.at_ 0 [Eqn.int (Int.ofNat 3) (Int.ofNat 3), Eqn.bool (beyondB (Int.ofNat 3) (valA [48]) (valA (vs (A.toN i)))) far', Eqn.sh (Sh.sl 1 m (fnR vs)) (Sh.sl 1 m (fnR vs)), Eqn.int (Int.ofNat m) (Int.ofNat m), Eqn.int (A.add .i64 i (Int.ofNat 1)) i', Eqn.int (Int.ofNat 0) (Int.ofNat 0), Eqn.int (Int.ofNat 0) (Int.ofNat 0), Eqn.int (Int.ofNat 3) (Int.ofNat 3), Eqn.int (Int.ofNat 0) (Int.ofNat 0), Eqn.nat (A.addN c 1) c', Eqn.get (A.addN c 1) (A.snoc (fnR gg) c (nthL [[Sh.i .i64 (valA (vs (A.toN i)))]])) (fnR gg')]))))))))) (need (shortS (cutB (vs (A.toN i)) 58)) (need (shortS (cutA (vs (A.toN i)) 58)) (node (A.nt (A.beq (cutI (vs (A.toN i)) 58) false)) (leaf (Fe2.ret (Sh.tup [Sh.agg [Sh.i .i64 (Int.ofNat 0), Sh.i .i64 (Int.ofNat 0), Sh.sl 0 0 fun _ => [], Sh.sl 0 0 fun _ => []], Sh.er 2 242]))) (node (A.nt (spellsI (cutB (vs (A.toN i)) 58))) (leaf (Fe2.ret (Sh.tup [Sh.agg [Sh.i .i64 (Int.ofNat 0), Sh.i .i64 (Int.ofNat 0), Sh.sl 0 0 fun _ => [], Sh.sl 0 0 fun _ => []], Sh.er 2 242]))) (node (A.nt (spellsI (cutA (vs (A.toN i)) 58))) (leaf (Fe2.ret (Sh.tup [Sh.agg [Sh.i .i64 (Int.ofNat 0), Sh.i .i64 (Int.ofNat 0), Sh.sl 0 0 fun _ => [], Sh.sl 0 0 fun _ => []], Sh.er 2 242]))) (node far (need (A.room (A.addN c 1) 8) (leaf (Fe2.at_ 0 [Eqn.int (Int.ofNat 3) (Int.ofNat 3), Eqn.bool true far', Eqn.sh (Sh.sl 1 m (fnR vs)) (Sh.sl 1 m (fnR vs)), Eqn.int (Int.ofNat m) (Int.ofNat m), Eqn.int (A.add .i64 i (Int.ofNat 1)) i', Eqn.int (Int.ofNat 0) (Int.ofNat 0), Eqn.int (Int.ofNat 0) (Int.ofNat 0), Eqn.int (Int.ofNat 3) (Int.ofNat 3), Eqn.int (Int.ofNat 0) (Int.ofNat 0), Eqn.nat (A.addN c 1) c', Eqn.get (A.addN c 1) (A.snoc (fnR gg) c (nthL [[Sh.i .i64 (valA (cutB (vs (A.toN i)) 58))]])) (fnR gg')]))) (need (A.room (A.addN c 1) 8) (leaf (Fe2.at_ 0 [Eqn.int (Int.ofNat 3) (Int.ofNat 3), Eqn.bool (beyondB (Int.ofNat 3) (valA (cutA (vs (A.toN i)) 58)) (valA (cutB (vs (A.toN i)) 58))) far', Eqn.sh (Sh.sl 1 m (fnR vs)) (Sh.sl 1 m (fnR vs)), Eqn.int (Int.ofNat m) (Int.ofNat m), Eqn.int (A.add .i64 i (Int.ofNat 1)) i', Eqn.int (Int.ofNat 0) (Int.ofNat 0), Eqn.int (Int.ofNat 0) (Int.ofNat 0), Eqn.int (Int.ofNat 3) (Int.ofNat 3), Eqn.int (Int.ofNat 0) (Int.ofNat 0), Eqn.nat (A.addN c 1) c', Eqn.get (A.addN c 1) (A.snoc (fnR gg) c (nthL [[Sh.i .i64 (valA (cutB (vs (A.toN i)) 58))]])) (fnR gg')])))))))))))) (node far (leaf (Fe2.ret (Sh.tup [Sh.agg [Sh.i .i64 (Int.ofNat 0), Sh.i .i64 (Int.ofNat 0), Sh.sl 0 0 fun _ => [], Sh.sl 0 0 fun _ => []], Sh.er 4 242]))) (leaf (Fe2.ret (Sh.tup [Sh.agg [Sh.i .i64 (Int.ofNat 3), Sh.i .i64 (Int.ofNat 0), Sh.os 3 1 c (fnR gg), Sh.sl 0 0 fun _ => []], Sh.v Value.nilIface])))) := by kernel_rfl
theorem a46_4 (A : Prim) (W : Wd) (l : List UInt8) (m' : Nat) (vs' : Nat → List UInt8) (i' : Int) (far' : Bool) : runTo (C7 A W (spec46 4 true) sAl) nH0 300 400 46 [.code []] (start0 139 [.str l] L0) [] [⟨46, td46, LF4 0 (fun _ => []) true m' vs' i' far', []⟩] = need (shortS l) (need (A.inB (Int.ofNat 0) (splitN l 32)) (need (isKind (nth (splitS l 32) 0) (Int.ofNat 4) true) (need (A.upTo (Int.ofNat 1) (splitN l 32)) (leaf (Fe2.at_ 0 [Eqn.int (Int.ofNat 4) (Int.ofNat 4), Eqn.bool false far', Eqn.sh (Sh.sl 1 (A.subN (splitN l 32) 1) fun (j : Nat) => fnR (nth (splitS l 32)) (A.addN 1 j)) (Sh.sl 1 m' (fnR vs')), Eqn.int (A.ofN (A.subN (splitN l 32) 1)) (Int.ofNat m'), Eqn.int (Int.ofNat 0) i', Eqn.int (Int.ofNat 0) (Int.ofNat 0), Eqn.int (Int.ofNat 0) (Int.ofNat 0), Eqn.int (Int.ofNat 4) (Int.ofNat 4), Eqn.int (Int.ofNat 0) (Int.ofNat 0)]))))) := by kernel_rfl
theorem b46_4t (A : Prim) (W : Wd) (m : Nat) (vs : Nat → List UInt8) (c' : Nat) (gg' : Nat → Pr) (i i' : Int) (far far' : Bool) : runTo (C7 A W (spec46 4 true) sAl) nH0 300 400 46 tb46 (LF4 0 (fun _ => []) true m vs i far) [] [⟨46, td46, LF4 c' (fnR gg') false m vs i' far', []⟩] = node (A.lt i (Int.ofNat m)) (need (A.inB i m) (need (shortS (vs (A.toN i))) (node (A.nt (cutI (vs (A.toN i)) 58)) (need (shortS (vs (A.toN i))) (need (shortS [48]) (node (A.nt (A.beq (cutI (vs (A.toN i)) 58) true)) (leaf (Fe2.ret (Sh.tup [Sh.agg [Sh.i .i64 (Int.ofNat 0), Sh.i .i64 (Int.ofNat 0), Sh.sl 0 0 fun _ => [], Sh.sl 0 0 fun _ => []], Sh.er 2 242]))) (node (A.nt (spellsI (vs (A.toN i)))) (leaf (Fe2.ret (Sh.tup [Sh.agg [Sh.i .i64 (Int.ofNat 0), Sh.i .i64 (Int.ofNat 0), Sh.sl 0 0 fun _ => [], Sh.sl 0 0 fun _ => []], Sh.er 2 242]))) (node (A.nt (spellsI [48])) (leaf (Fe2.ret (Sh.tup [Sh.agg [Sh.i .i64 (Int.ofNat 0), Sh.i .i64 (Int.ofNat 0), Sh.sl 0 0 fun _ => [], Sh.sl 0 0 fun _ => []], Sh.er 2 242]))) (node far (leaf (Fe2.at_ 0 [Eqn.int (Int.ofNat 4) (Int.ofNat 4), Eqn.bool true far', Eqn.sh (Sh.sl 1 m (fnR vs)) (Sh.sl 1 m (fnR vs)), Eqn.int (Int.ofNat m) (Int.ofNat m), Eqn.int (A.add .i64 i (Int.ofNat 1)) i', Eqn.int (Int.ofNat 0) (Int.ofNat 0), Eqn.int (Int.ofNat 0) (Int.ofNat 0), Eqn.int (Int.ofNat 4) (Int.ofNat 4), Eqn.int (Int.ofNat 0) (Int.ofNat 0), Eqn.nat 1 c', Eqn.get 1 (nthL [[Sh.i .i64 (valA [48]), Sh.i .i64 (valA (vs (A.toN i)))]]) (fnR gg')])) (leaf (Fe2.at_ 0 [Eqn.int (Int.ofNat 4) (Int.ofNat 4), Eqn.bool (beyondB (Int.ofNat 4) (valA [48]) (valA (vs (A.toN i)))) far', Eqn.sh (Sh.sl 1 m (fnR vs)) (Sh.sl 1 m (fnR vs)), Eqn.int (Int.ofNat m) (Int.ofNat m), Eqn.int (A.add .i64 i (Int.ofNat 1)) i', Eqn.int (Int.ofNat 0) (Int.ofNat 0), Eqn.int (Int.ofNat 0) (Int.ofNat 0), Eqn.int (Int.ofNat 4) (Int.ofNat 4), Eqn.int (Int.ofNat 0) (Int.ofNat 0), Eqn.nat 1 c', Eqn.get 1 (nthL [[Sh.i .i64 (valA [48]), Sh.i .i64 (valA (vs (A.toN i)))]]) (fnR gg')])))))))) (need (shortS (cutB (vs (A.toN i)) 58)) (need (shortS (cutA (vs (A.toN i)) 58)) (node (A.nt (A.beq (cutI (vs (A.toN i)) 58) true)) (leaf (Fe2.ret (Sh.tup [Sh.agg [Sh.i .i64 (Int.ofNat 0), Sh.i .i64 (Int.ofNat 0), Sh.sl 0 0 fun _ => [], Sh.sl 0 0 fun _ => []], Sh.er 2 242]))) (node (A.nt (spellsI (cutB (vs (A.toN i)) 58))) (leaf (Fe2.ret (Sh.tup [Sh.agg [Sh.i .i64 (Int.ofNat 0), Sh.i .i64 (Int.ofNat 0), Sh.sl 0 0 fun _ => [], Sh.sl 0 0 fun _ => []], Sh.er 2 242]))) (node (A.nt (spellsI (cutA (vs (A.toN i)) 58))) (leaf (Fe2.ret (Sh.tup [Sh.agg [Sh.i .i64 (Int.ofNat 0), Sh.i .i64 (Int.ofNat 0), Sh.sl 0 0 fun _ => [], Sh.sl 0 0 fun _ => []], Sh.er 2 242]))) (node far (leaf (Fe2.at_ 0 [Eqn.int (Int.ofNat 4) (Int.ofNat 4), Eqn.bool true far', Eqn.sh (Sh.sl 1 m (fnR vs)) (Sh.sl 1 m (fnR vs)), Eqn.int (Int.ofNat m) (Int.ofNat m), Eqn.int (A.add .i64 i (Int.ofNat 1)) i', Eqn.int (Int.ofNat 0) (Int.ofNat 0), Eqn.int (Int.ofNat 0) (Int.ofNat 0), Eqn.int (Int.ofNat 4) (Int.ofNat 4), Eqn.int (Int.ofNat 0) (Int.ofNat 0), Eqn.nat 1 c', Eqn.get 1 (nthL [[Sh.i .i64 (valA (cutA (vs (A.toN i)) 58)), Sh.i .i64 (valA (cutB (vs (A.toN i)) 58))]]) (fnR gg')])) (leaf (Fe2.at_ 0 [Eqn.int (Int.ofNat 4) (Int.ofNat 4), Eqn.bool (beyondB (Int.ofNat 4) (valA (cutA (vs (A.toN i)) 58)) (valA (cutB (vs (A.toN i)) 58))) far', Eqn.sh (Sh.sl 1 m (fnR vs)) (Sh.sl 1 m (fnR vs)), Eqn.int (Int.ofNat m) (Int.ofNat m), Eqn.int (A.add .i64 i (Int.ofNat 1)) i', Eqn.int (Int.ofNat 0) (Int.ofNat 0), Eqn.int (Int.ofNat 0) (Int.ofNat 0), Eqn.int (Int.ofNat 4) (Int.ofNat 4), Eqn.int (Int.ofNat 0) (Int.ofNat 0), Eqn.nat 1 c', Eqn.get 1 (nthL [[Sh.i .i64 (valA (cutA (vs (A.toN i)) 58)), Sh.i .i64 (valA (cutB (vs (A.toN i)) 58))]]) (fnR gg')]))))))))))) (node far (leaf (Fe2.ret (Sh.tup [Sh.agg [Sh.i .i64 (Int.ofNat 0), Sh.i .i64 (Int.ofNat 0), Sh.sl 0 0 fun _ => [], Sh.sl 0 0 fun _ => []], Sh.er 4 242]))) (leaf (Fe2.ret (Sh.tup [Sh.agg [Sh.i .i64 (Int.ofNat 4), Sh.i .i64 (Int.ofNat 0), Sh.sl 0 0 fun _ => [], Sh.sl 0 0 fun _ => []], Sh.v Value.nilIface])))) := by kernel_rfl
theorem b46_4f (A : Prim) (W : Wd) (m : Nat) (vs : Nat → List UInt8) (c : Nat) (gg : Nat → Pr) (c' : Nat) (gg' : Nat → Pr) (i i' : Int) (far far' : Bool) : runTo (C7 A W (spec46 4 true) sAl) nH0 300 400 46 tb46 (LF4 c (fnR gg) false m vs i far) [] [⟨46, td46, LF4 c' (fnR gg') false m vs i' far', []⟩] = node (A.lt i (Int.ofNat m)) (need (A.inB i m) (need (shortS (vs (A.toN i))) (node (A.nt (cutI (vs (A.toN i)) 58)) (need (shortS (vs (A.toN i))) (need (shortS [48]) (node (A.nt (A.beq (cutI (vs (A.toN i)) 58) true)) (leaf (Fe2.ret (Sh.tup [Sh.agg [Sh.i .i64 (Int.ofNat 0), Sh.i .i64 (Int.ofNat 0), Sh.sl 0 0 fun _ => [], Sh.sl 0 0 fun _ => []], Sh.er 2 242]))) (node (A.nt (spellsI (vs (A.toN i)))) (leaf (Fe2.ret (Sh.tup [Sh.agg [Sh.i .i64 (Int.ofNat 0), Sh.i .i64 (Int.ofNat 0), Sh.sl 0 0 fun _ => [], Sh.sl 0 0 fun _ => []], Sh.er 2 242]))) (node (A.nt (spellsI [48])) (leaf (Fe2.ret (Sh.tup [Sh.agg [Sh.i .i64 (Int.ofNat 0), Sh.i .i64 (Int.ofNat 0), Sh.sl 0 0 fun _ => [], Sh.sl 0 0 fun _ => []], Sh.er 2 242]))) (node far (node (A.lt (Int.ofNat 0) (A.ofN c)) (need (A.inB (A.sub .i64 (A.ofN c) (Int.ofNat 1)) c) (node (A.le (valA [48]) (gg (A.toN (A.sub .i64 (A.ofN c) (Int.ofNat 1)))).key) (leaf (Fe2.ret (Sh.tup [Sh.agg [Sh.i .i64 (Int.ofNat 0), Sh.i .i64 (Int.ofNat 0), Sh.sl 0 0 fun _ => [], Sh.sl 0 0 fun _ => []], Sh.er 2 242]))) (need (A.room (A.addN c 1) 16) (leaf (Fe2.at_ 0 [Eqn.int (Int.ofNat 4) (Int.ofNat 4), Eqn.bool true far', Eqn.sh (Sh.sl 1 m (fnR vs)) (Sh.sl 1 m (fnR vs)), Eqn.int (Int.ofNat m) (Int.ofNat m), Eqn.int (A.add .i64 i (Int.ofNat 1)) i', Eqn.int (Int.ofNat 0) (Int.ofNat 0), Eqn.int (Int.ofNat 0) (Int.ofNat 0), Eqn.int (Int.ofNat 4) (Int.ofNat 4), Eqn.int (Int.ofNat 0) (Int.ofNat 0), Eqn.nat (A.addN c 1) c', Eqn.get (A.addN c 1) (A.snoc (fnR gg) c (nthL [[Sh.i .i64 (valA [48]), Sh.i .i64 (valA (vs (A.toN i)))]])) (fnR gg')]))))) (need (A.room (A.addN c 1) 16) (leaf (Fe2.at_ 0 [Eqn.int (Int.ofNat 4) (Int.ofNat 4), Eqn.bool true far', Eqn.sh (Sh.sl 1 m (fnR vs)) (Sh.sl 1 m (fnR vs)), Eqn.int (Int.ofNat m) (Int.ofNat m), Eqn.int (A.add .i64 i (Int.ofNat 1)) i', Eqn.int (Int.ofNat 0) (Int.ofNat 0), Eqn.int (Int.ofNat 0) (Int.ofNat 0), Eqn.int (Int.ofNat 4) (Int.ofNat 4), Eqn.int (Int.ofNat 0) (Int.ofNat 0), Eqn.nat (A.addN c 1) c', Eqn.get (A.addN c 1) (A.snoc (fnR gg) c (nthL [[Sh.i .i64 (valA [48]), Sh.i .i64 (valA (vs (A.toN i)))]])) (fnR gg')])))) (node (A.lt (Int.ofNat 0) (A.ofN c)) (need (A.inB (A.sub .i64 (A.ofN c) (Int.ofNat 1)) c) (node (A.le (valA [48]) (gg (A.toN (A.sub .i64 (A.ofN c) (Int.ofNat 1)))).key) (leaf (Fe2.ret (Sh.tup [Sh.agg [Sh.i .i64 (Int.ofNat 0), Sh.i .i64 (Int.ofNat 0), Sh.sl 0 0 fun _ => [], Sh.sl 0 0 fun _ => []], Sh.er 2 242]))) (need (A.room (A.addN c 1) 16) (leaf (Fe2.at_ 0 [Eqn.int (Int.ofNat 4) (Int.ofNat 4), Eqn.bool (beyondB (Int.ofNat 4) (valA [48]) (valA (vs (A.toN i)))) far', Eqn.sh (Sh.sl 1 m (fnR vs)) (Sh.sl 1 m (fnR vs)), Eqn.int (Int.ofNat m) (Int.ofNat m), Eqn.int (A.add .i64 i (Int.ofNat 1)) i', Eqn.int (Int.ofNat 0) (Int.ofNat 0), Eqn.int (Int.ofNat 0) (Int.ofNat 0), Eqn.int (Int.ofNat 4) (Int.ofNat 4), Eqn.int (Int.ofNat 0) (Int.ofNat 0), Eqn.nat (A.addN c 1) c', Eqn.get (A.addN c 1) (A.snoc (fnR gg) c (nthL [[Sh.i .i64 (valA [48]), Sh.i .i64 (valA (vs (A.toN i)))]])) (fnR gg')]))))) (need (A.room (A.addN c 1) 16) (leaf (Fe2.at_ 0 [Eqn.int (Int.ofNat 4) (Int.ofNat 4), Eqn.bool (beyondB (Int.ofNat 4) (valA [48]) (valA (vs (A.toN i)))) far', Eqn.sh (Sh.sl 1 m (fnR vs)) (Sh.sl 1 m (fnR vs)), Eqn.int (Int.ofNat m) (Int.ofNat m), Eqn.int (A.add .i64 i (Int.ofNat 1)) i', Eqn.int (Int.ofNat 0) (Int.ofNat 0), Eqn.int (Int.ofNat 0) (Int.ofNat 0), Eqn.int (Int.ofNat 4) (Int.ofNat 4), Eqn.int (Int.ofNat 0) (Int.ofNat 0), Eqn.nat (A.addN c 1) c', Eqn.get (A.addN c 1) (A.snoc (fnR gg) c (nthL [[Sh.i .i64 (valA [48]), Sh.i .i64 (valA (vs (A.toN i)))]])) (fnR gg')])))))))))) (need (shortS (cutB (vs (A.toN i)) 58)) (need (shortS (cutA (vs (A.toN i)) 58)) (node (A.nt (A.beq (cutI (vs (A.toN i)) 58) true)) (leaf (Fe2.ret (Sh.tup [Sh.agg [Sh.i .i64 (Int.ofNat 0), Sh.i .i64 (Int.ofNat 0), Sh.sl 0 0 fun _ => [], Sh.sl 0 0 fun _ => []], Sh.er 2 242]))) (node (A.nt (spellsI (cutB (vs (A.toN i)) 58))) (leaf (Fe2.ret (Sh.tup [Sh.agg [Sh.i .i64 (Int.ofNat 0), Sh.i .i64 (Int.ofNat 0), Sh.sl 0 0 fun _ => [], Sh.sl 0 0 fun _ => []], Sh.er 2 242]))) (node (A.nt (spellsI (cutA (vs (A.toN i)) 58))) (leaf (Fe2.ret (Sh.tup [Sh.agg [Sh.i .i64 (Int.ofNat 0), Sh.i .i64 (Int.ofNat 0), Sh.sl 0 0 fun _ => [], Sh.sl 0 0 fun _ => []], Sh.er 2 242]))) (node far (node (A.lt (Int.ofNat 0) (A.ofN c)) (need (A.inB (A.sub .i64 (A.ofN c) (Int.ofNat 1)) c) (node (A.le (valA (cutA (vs (A.toN i)) 58)) (gg (A.toN (A.sub .i64 (A.ofN c) (Int.ofNat 1)))).key) (leaf (Fe2.ret (Sh.tup [Sh.agg [Sh.i .i64 (Int.ofNat 0), Sh.i .i64 (Int.ofNat 0), Sh.sl 0 0 fun _ => [], Sh.sl 0 0 fun _ => []], Sh.er 2 242]))) (need (A.room (A.addN c 1) 16) (leaf (Fe2.at_ 0 [Eqn.int (Int.ofNat 4) (Int.ofNat 4), Eqn.bool true far', Eqn.sh (Sh.sl 1 m (fnR vs)) (Sh.sl 1 m (fnR vs)), Eqn.int (Int.ofNat m) (Int.ofNat m), Eqn.int (A.add .i64 i (Int.ofNat 1)) i', Eqn.int (Int.ofNat 0) (Int.ofNat 0), Eqn.int (Int.ofNat 0) (Int.ofNat 0), Eqn.int (Int.ofNat 4) (Int.ofNat 4), Eqn.int (Int.ofNat 0) (Int.ofNat 0), Eqn.nat (A.addN c 1) c', Eqn.get (A.addN c 1) (A.snoc (fnR gg) c (nthL [[Sh.i .i64 (valA (cutA (vs (A.toN i)) 58)), Sh.i .i64 (valA (cutB (vs (A.toN i)) 58))]])) (fnR gg')]))))) (need (A.room (A.addN c 1) 16) (leaf (Fe2.at_ 0 [Eqn.int (Int.ofNat 4) (Int.ofNat 4), Eqn.bool true far', Eqn.sh (Sh.sl 1 m (fnR vs)) (Sh.sl 1 m (fnR vs)), Eqn.int (Int.ofNat m) (Int.ofNat m), Eqn.int (A.add .i64 i (Int.ofNat 1)) i', Eqn.int (Int.ofNat 0) (Int.ofNat 0), Eqn.int (Int.ofNat 0) (Int.ofNat 0), Eqn.int (Int.ofNat 4) (Int.ofNat 4), Eqn.int (Int.ofNat 0) (Int.ofNat 0), Eqn.nat (A.addN c 1) c', Eqn.get (A.addN c 1) (A.snoc (fnR gg) c (nthL [[Sh.i .i64 (valA (cutA (vs (A.toN i)) 58)), Sh.i .i64 (valA (cutB (vs (A.toN i)) 58))]])) (fnR gg')])))) (node (A.lt (Int.ofNat 0) (A.ofN c)) (need (A.inB (A.sub .i64 (A.ofN c) (Int.ofNat 1)) c) (node (A.le (valA (cutA (vs (A.toN i)) 58)) (gg (A.toN (A.sub .i64 (A.ofN c) (Int.ofNat 1)))).key) (leaf (Fe2.ret (Sh.tup [Sh.agg [Sh.i .i64 (Int.ofNat 0), Sh.i .i64 (Int.ofNat 0), Sh.sl 0 0 fun _ => [], Sh.sl 0 0 fun _ => []], Sh.er 2 242]))) (need (A.room (A.addN c 1) 16) (leaf (Fe2.at_ 0 [Eqn.int (Int.ofNat 4) (Int.ofNat 4), Eqn.bool (beyondB (Int.ofNat 4) (valA (cutA (vs (A.toN i)) 58)) (valA (cutB (vs (A.toN i)) 58))) far', Eqn.sh (Sh.sl 1 m (fnR vs)) (Sh.sl 1 m (fnR vs)), Eqn.int (Int.ofNat m) (Int.ofNat m), Eqn.int (A.add .i64 i (Int.ofNat 1)) i', Eqn.int (Int.ofNat 0) (Int.ofNat 0), Eqn.int (Int.ofNat 0) (Int.ofNat 0), Eqn.int (Int.ofNat 4) (Int.ofNat 4), Eqn.int (Int.ofNat 0) (Int.ofNat 0), Eqn.nat (A.addN c 1) c', Eqn.get (A.addN c 1) (A.snoc (fnR gg) c (nthL [[Sh.i .i64 (valA (cutA (vs (A.toN i)) 58)), Sh.i .i64 (valA (cutB (vs (A.toN i)) 58))]])) (fnR gg')]))))) (need (A.room (A.addN c 1) 16) (leaf (Fe2.at_ 0 [Eqn.int (Int.ofNat 4) (Int.ofNat 4), Eqn.bool (beyondB (Int.ofNat 4) (valA (cutA (vs (A.toN i)) 58)) (valA (cutB (vs (A.toN i)) 58))) far', Eqn.sh (Sh.sl 1 m (fnR vs)) (Sh.sl 1 m (fnR vs)), Eqn.int (Int.ofNat m) (Int.ofNat m), Eqn.int (A.add .i64 i (Int.ofNat 1)) i', Eqn.int (Int.ofNat 0) (Int.ofNat 0), Eqn.int (Int.ofNat 0) (Int.ofNat 0), Eqn.int (Int.ofNat 4) (Int.ofNat 4), Eqn.int (Int.ofNat 0) (Int.ofNat 0), Eqn.nat (A.addN c 1) c', Eqn.get (A.addN c 1) (A.snoc (fnR gg) c (nthL [[Sh.i .i64 (valA (cutA (vs (A.toN i)) 58)), Sh.i .i64 (valA (cutB (vs (A.toN i)) 58))]])) (fnR gg')]))))))))))))) (node far (leaf (Fe2.ret (Sh.tup [Sh.agg [Sh.i .i64 (Int.ofNat 0), Sh.i .i64 (Int.ofNat 0), Sh.sl 0 0 fun _ => [], Sh.sl 0 0 fun _ => []], Sh.er 4 242]))) (leaf (Fe2.ret (Sh.tup [Sh.agg [Sh.i .i64 (Int.ofNat 4), Sh.i .i64 (Int.ofNat 0), Sh.sl 0 0 fun _ => [], Sh.os 116 2 c (fnR gg)], Sh.v Value.nilIface])))) := by kernel_rfl
end Go.Proofs
namespace Go.Proofs
open Go.Sx.Tree
open Go Go.Sx Go.Pl
theorem all_n46 (A : Prim) (W : Wd) (l : List UInt8) {ψ : Fe2 → Prop} (h1 : (shortS l) = true) (h2 : (A.inB (Int.ofNat 0) (splitN l 32)) = true) (h3 : (isKind (nth (splitS l 32) 0) (Int.ofNat 0) false) = true) (y1 : ψ (Fe2.ret (Sh.tup [Sh.agg [Sh.i .i64 (Int.ofNat 0), Sh.i .i64 (Int.ofNat 0), Sh.sl 0 0 fun _ => [], Sh.sl 0 0 fun _ => []], Sh.er 2 242]))) : MeetsT ψ (runTo (C7 A W (spec46 0 false) sAl) nH0 300 400 46 [.code []] (start0 139 [.str l] L0) [] []) := by
 rw [n46 A W l, meetsT_eq]
 exact ⟨(h1), ⟨(h2), ⟨(h3), (y1)⟩⟩⟩
theorem all_a46_1 (A : Prim) (W : Wd) (l : List UInt8) (x' : Int) (m' : Nat) (vs' : Nat → List UInt8) (i' : Int) (far' : Bool) {ψ : Fe2 → Prop} (h1 : (shortS l) = true) (h2 : (A.inB (Int.ofNat 0) (splitN l 32)) = true) (h3 : (isKind (nth (splitS l 32) 0) (Int.ofNat 1) true) = true) (h4 : (A.upTo (Int.ofNat 1) (splitN l 32)) = true) (y1 : (A.nt (A.eq (A.ofN (A.subN (splitN l 32) 1)) (Int.ofNat 1))) = true → ψ (Fe2.ret (Sh.tup [Sh.agg [Sh.i .i64 (Int.ofNat 0), Sh.i .i64 (Int.ofNat 0), Sh.sl 0 0 fun _ => [], Sh.sl 0 0 fun _ => []], Sh.er 2 242]))) (y2 : (A.nt (A.eq (A.ofN (A.subN (splitN l 32) 1)) (Int.ofNat 1))) = false → ψ (Fe2.at_ 0 [Eqn.int (Int.ofNat 1) (Int.ofNat 1), Eqn.bool false far', Eqn.sh (Sh.sl 1 (A.subN (splitN l 32) 1) fun (j : Nat) => fnR (nth (splitS l 32)) (A.addN 1 j)) (Sh.sl 1 m' (fnR vs')), Eqn.int (A.ofN (A.subN (splitN l 32) 1)) (Int.ofNat m'), Eqn.int (Int.ofNat 0) i', Eqn.int (Int.ofNat 0) (Int.ofNat 0), Eqn.int (Int.ofNat 0) (Int.ofNat 0), Eqn.int (Int.ofNat 1) (Int.ofNat 1), Eqn.int (Int.ofNat 0) x'])) : MeetsT ψ (runTo (C7 A W (spec46 1 true) sAl) nH0 300 400 46 [.code []] (start0 139 [.str l] L0) [] [⟨46, td46, LF1 1 x' m' vs' i' far', []⟩]) := by
 rw [a46_1 A W l x' m' vs' i' far', meetsT_eq]
 exact ⟨(h1), ⟨(h2), ⟨(h3), ⟨(h4), ⟨fun q0 => (y1 q0), fun q0 => (y2 q0)⟩⟩⟩⟩⟩
theorem all_a46_2 (A : Prim) (W : Wd) (l : List UInt8) (x' : Int) (m' : Nat) (vs' : Nat → List UInt8) (i' : Int) (far' : Bool) {ψ : Fe2 → Prop} (h1 : (shortS l) = true) (h2 : (A.inB (Int.ofNat 0) (splitN l 32)) = true) (h3 : (isKind (nth (splitS l 32) 0) (Int.ofNat 2) true) = true) (h4 : (A.upTo (Int.ofNat 1) (splitN l 32)) = true) (y1 : (A.nt (A.eq (A.ofN (A.subN (splitN l 32) 1)) (Int.ofNat 1))) = true → ψ (Fe2.ret (Sh.tup [Sh.agg [Sh.i .i64 (Int.ofNat 0), Sh.i .i64 (Int.ofNat 0), Sh.sl 0 0 fun _ => [], Sh.sl 0 0 fun _ => []], Sh.er 2 242]))) (y2 : (A.nt (A.eq (A.ofN (A.subN (splitN l 32) 1)) (Int.ofNat 1))) = false → ψ (Fe2.at_ 0 [Eqn.int (Int.ofNat 2) (Int.ofNat 2), Eqn.bool false far', Eqn.sh (Sh.sl 1 (A.subN (splitN l 32) 1) fun (j : Nat) => fnR (nth (splitS l 32)) (A.addN 1 j)) (Sh.sl 1 m' (fnR vs')), Eqn.int (A.ofN (A.subN (splitN l 32) 1)) (Int.ofNat m'), Eqn.int (Int.ofNat 0) i', Eqn.int (Int.ofNat 0) (Int.ofNat 0), Eqn.int (Int.ofNat 0) (Int.ofNat 0), Eqn.int (Int.ofNat 2) (Int.ofNat 2), Eqn.int (Int.ofNat 0) x'])) : MeetsT ψ (runTo (C7 A W (spec46 2 true) sAl) nH0 300 400 46 [.code []] (start0 139 [.str l] L0) [] [⟨46, td46, LF1 2 x' m' vs' i' far', []⟩]) := by
 rw [a46_2 A W l x' m' vs' i' far', meetsT_eq]
 exact ⟨(h1), ⟨(h2), ⟨(h3), ⟨(h4), ⟨fun q0 => (y1 q0), fun q0 => (y2 q0)⟩⟩⟩⟩⟩
theorem all_a46_3 (A : Prim) (W : Wd) (l : List UInt8) (m' : Nat) (vs' : Nat → List UInt8) (i' : Int) (far' : Bool) {ψ : Fe2 → Prop} (h1 : (shortS l) = true) (h2 : (A.inB (Int.ofNat 0) (splitN l 32)) = true) (h3 : (isKind (nth (splitS l 32) 0) (Int.ofNat 3) true) = true) (h4 : (A.upTo (Int.ofNat 1) (splitN l 32)) = true) (y1 : ψ (Fe2.at_ 0 [Eqn.int (Int.ofNat 3) (Int.ofNat 3), Eqn.bool false far', Eqn.sh (Sh.sl 1 (A.subN (splitN l 32) 1) fun (j : Nat) => fnR (nth (splitS l 32)) (A.addN 1 j)) (Sh.sl 1 m' (fnR vs')), Eqn.int (A.ofN (A.subN (splitN l 32) 1)) (Int.ofNat m'), Eqn.int (Int.ofNat 0) i', Eqn.int (Int.ofNat 0) (Int.ofNat 0), Eqn.int (Int.ofNat 0) (Int.ofNat 0), Eqn.int (Int.ofNat 3) (Int.ofNat 3), Eqn.int (Int.ofNat 0) (Int.ofNat 0)])) : MeetsT ψ (runTo (C7 A W (spec46 3 true) sAl) nH0 300 400 46 [.code []] (start0 139 [.str l] L0) [] [⟨46, td46, LF3 0 (fun _ => []) true m' vs' i' far', []⟩]) := by
 rw [a46_3 A W l m' vs' i' far', meetsT_eq]
 exact ⟨(h1), ⟨(h2), ⟨(h3), ⟨(h4), (y1)⟩⟩⟩⟩
theorem all_a46_4 (A : Prim) (W : Wd) (l : List UInt8) (m' : Nat) (vs' : Nat → List UInt8) (i' : Int) (far' : Bool) {ψ : Fe2 → Prop} (h1 : (shortS l) = true) (h2 : (A.inB (Int.ofNat 0) (splitN l 32)) = true) (h3 : (isKind (nth (splitS l 32) 0) (Int.ofNat 4) true) = true) (h4 : (A.upTo (Int.ofNat 1) (splitN l 32)) = true) (y1 : ψ (Fe2.at_ 0 [Eqn.int (Int.ofNat 4) (Int.ofNat 4), Eqn.bool false far', Eqn.sh (Sh.sl 1 (A.subN (splitN l 32) 1) fun (j : Nat) => fnR (nth (splitS l 32)) (A.addN 1 j)) (Sh.sl 1 m' (fnR vs')), Eqn.int (A.ofN (A.subN (splitN l 32) 1)) (Int.ofNat m'), Eqn.int (Int.ofNat 0) i', Eqn.int (Int.ofNat 0) (Int.ofNat 0), Eqn.int (Int.ofNat 0) (Int.ofNat 0), Eqn.int (Int.ofNat 4) (Int.ofNat 4), Eqn.int (Int.ofNat 0) (Int.ofNat 0)])) : MeetsT ψ (runTo (C7 A W (spec46 4 true) sAl) nH0 300 400 46 [.code []] (start0 139 [.str l] L0) [] [⟨46, td46, LF4 0 (fun _ => []) true m' vs' i' far', []⟩]) := by
 rw [a46_4 A W l m' vs' i' far', meetsT_eq]
 exact ⟨(h1), ⟨(h2), ⟨(h3), ⟨(h4), (y1)⟩⟩⟩⟩
end Go.Proofs
