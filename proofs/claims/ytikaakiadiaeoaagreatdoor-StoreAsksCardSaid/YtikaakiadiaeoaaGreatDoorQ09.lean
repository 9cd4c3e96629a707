/-
  Chapters 6 and 7: summaries: an operation on a state (but for maps); a store as it begins. Chapters 6 and 7: a store's key; evaluated. Chapters 6 and 7: summary: a store's key. Chapters 6 and 7: an operation on a store, a store's key; evaluated. Chapters 6 and 7: summary: an operation on a store (but for maps). Chapters 6 and 7: whether lists, states, stores are the same; evaluated. Chapters 6 and 7: whether lists are the same: summaries. Own work (the loops are written by program, mk714.py). Chapters 6 and 7: whether states, stores are the same; evaluated. Chapters 6 and 7: whether states are the same; the places at which stores differ: summaries. Chapters 6 and 7: the places at which stores differ: the loop. Chapters 6 and 7: the document's stores as they begin; evaluated. Chapters 6 and 7: the document's stores as they begin. A run's tree holds: said so that Lean does not unfold the run.
-/
import Derived.Test.YtikaakiadiaeoaaGreatDoorQ08
namespace Go.Pl
open Go Go.Sx
def opT (s : Sta) (op k v : Int) : Sta × Int × Int :=
 if op = 1 ∨ op = 4 then (s, 3, s.num)
 else if op = 2 then ({ s with num := v }, 1, 0)
 else if op = 3 then ({ s with num := addW s.num v }, 1, 0)
 else if op = 5 then ({ s with q := s.q ++ [v] }, 1, 0)
 else if op = 6 then ({ s with q := s.q.tail }, deqR s.q.length, s.q.headD 0)
 else if op = 7 then ({ s with ps := putP s.ps k v }, 1, 0)
 else if op = 8 then (s, retP s.ps k, valP s.ps k)
 else if op = 9 then ({ s with ps := delP s.ps k }, retP s.ps k, valP s.ps k)
 else (s, 0, 0)
def newT (o : Nat → Oj) (j : Nat) : Sta := ⟨(o j).kind, (o j).init, [], []⟩
def noT : Nat → List Sh := fun _ => []
end Go.Pl
namespace Go.Proofs
open Go Go.Sx Go.Pl
theorem ODs : ∀ g F, specD g = some F → FnOK Tryz.prog (gls7 W7) g F := fun g F h => by
 unfold specD at h
 split at h
 ·cases h; exact O66
 ·cases h; exact O67
 ·cases h; exact O68
 ·cases h; exact O69
 ·cases h; exact O94
 ·cases h; exact O95
 ·cases h; exact O96
 ·cases h; exact O97
 ·cases h; exact O99
 ·cases h; exact O100
 ·cases h; exact O104
 ·cases h; exact O106
 ·cases h
theorem fokD (stop : Nat → List Nat → Bool) : FnsOK Tryz.prog (C7 prim W7 specD stop) := C7.fok ODs fun g h => by
 unfold specD at h
 split at h
 all_goals first | (cases h; done) | kernel_rfl
def F42 : List Sh → Tree Sh
 | [.agg [.i .i64 x, .i .i64 y, s2, s3], t, u, v] => match slN 1 s2, slN 2 s3, icode t, icode u, icode v with
  | some (a, h), some (b, l), some op, some k, some v => .need (okB Int a h) (.need (okB Pr b l) (.need (roomB (a + 1) 8) (.node (badOp x op) (.leaf (.tup [.agg (staS zeroT), .i .i64 0, .i .i64 0, .er 1 242])) (.node (badKV x y op k v) (.leaf (.tup [.agg (staS zeroT), .i .i64 0, .i .i64 0, .er 3 242]))
    (.need (mapOK op b l) (.leaf (.tup [.agg (staS (opT ⟨x, y, lst Int a h, lst Pr b l⟩ op k v).1), .i .i64 (opT ⟨x, y, lst Int a h, lst Pr b l⟩ op k v).2.1, .i .i64 (opT ⟨x, y, lst Int a h, lst Pr b l⟩ op k v).2.2, .v .nilIface])))))))
  | _, _, _, _, _ => .fail
 | _ => .fail
theorem nth_put {α : Type} [Row α] (l : List α) (a : α) : ∀ i, i < l.length + 1 → snocG l.length (fnR (nth l)) (Row.put a) i = fnR (nth (l ++ [a])) i := fun i hi => by
 unfold snocG
 split
 ·rename_i h1
  simp only [fnR, nth]
  rw [List.getD_eq_getElem?_getD, List.getD_eq_getElem?_getD, List.getElem?_append_left h1]
 ·have : i = l.length := by omega
  subst this
  simp [fnR, nth]
theorem rwAt_fnR {α : Type} [Row α] (o : Nat → α) : rwAt (fnR o) = o := funext fun i => rowAt_put o i
section
variable {H0 : Mem} {w0 : World} {φ : Sh → Prop}
theorem go42 {x y op k v : Int} {q : List Int} {ps : List Pr} (hr : roomB (q.length + 1) 8 = true) (hop : op = 1 ∨ op = 2 ∨ op = 3 ∨ op = 4 ∨ op = 5 ∨ op = 6 ∨ op = 7 ∨ op = 8 ∨ op = 9) (hm : mapOK op ps.length (fnR (nth ps)) = true) (hkey : inKey k = true)
  (hφ : φ (.tup [.agg (staS (opT ⟨x, y, q, ps⟩ op k v).1), .i .i64 (opT ⟨x, y, q, ps⟩ op k v).2.1, .i .i64 (opT ⟨x, y, q, ps⟩ op k v).2.2, .v .nilIface])) :
  GoesS Tryz.prog (C7 prim W7 specD sAl) (K0 H0 w0) 42 td42 (L42 x y q.length ps.length (fnR (nth q)) (fnR (nth ps)) op k v) [] emp (up φ) := by
 have lit (n : Int) (h : GoesS Tryz.prog (C7 prim W7 specD sAl) (K0 H0 w0) 42 td42 (L42n x y q.length ps.length (fnR (nth q)) (fnR (nth ps)) n k v) [] emp (up φ)) : GoesS Tryz.prog (C7 prim W7 specD sAl) (K0 H0 w0) 42 td42 (L42 x y q.length ps.length (fnR (nth q)) (fnR (nth ps)) n k v) [] emp (up φ) :=
  goesS_tm _ (fun H E vs hd => den_num 1 rfl hd) h
 have fin (s' : Sta) (r g : Int) (e : opT ⟨x, y, q, ps⟩ op k v = (s', r, g)) (c : List Sh) (hc : WkL c (staS s')) : up φ (.tup [.agg c, .i .i64 r, .i .i64 g, .v .nilIface]) :=
  up_mk (s' := .tup [.agg (staS (opT ⟨x, y, q, ps⟩ op k v).1), .i .i64 (opT ⟨x, y, q, ps⟩ op k v).2.1, .i .i64 (opT ⟨x, y, q, ps⟩ op k v).2.2, .v .nilIface]) (by rw [e]; exact ⟨hc, rfl, rfl, rfl, trivial⟩) hφ
 rcases hop with rfl | rfl | rfl | rfl | rfl | rfl | rfl | rfl | rfl
 ·refine lit 1 (gSr (C7.ok _ _) (fokD _) (hold := nH0) (m := 300) (n := 400) (ts := []) ?_)
  rw [b42_1 prim W7 x y q.length ps.length (fnR (nth q)) (fnR (nth ps)) k v]
  have := fin _ _ _ rfl [.i .i64 x, .i .i64 y, .sl 1 q.length (fnR (nth q)), .sl 2 ps.length (fnR (nth ps))] (by simp [opT, staS, Wk, WkL, len])
  repeat' (first | exact trivial | exact rfl | exact this | refine And.intro ?_ ?_)
 ·refine lit 2 (gSr (C7.ok _ _) (fokD _) (hold := nH0) (m := 300) (n := 400) (ts := []) ?_)
  rw [b42_2 prim W7 x y q.length ps.length (fnR (nth q)) (fnR (nth ps)) k v]
  have := fin _ _ _ rfl [.i .i64 x, .i .i64 v, .sl 1 q.length (fnR (nth q)), .sl 2 ps.length (fnR (nth ps))] (by simp [opT, staS, Wk, WkL, len])
  repeat' (first | exact trivial | exact rfl | exact this | refine And.intro ?_ ?_)
 ·refine lit 3 (gSr (C7.ok _ _) (fokD _) (hold := nH0) (m := 300) (n := 400) (ts := []) ?_)
  rw [b42_3 prim W7 x y q.length ps.length (fnR (nth q)) (fnR (nth ps)) k v]
  have := fin _ _ _ rfl [.i .i64 x, .i .i64 (addW y v), .sl 1 q.length (fnR (nth q)), .sl 2 ps.length (fnR (nth ps))] (by simp [opT, staS, Wk, WkL, len])
  repeat' (first | exact trivial | exact rfl | exact this | refine And.intro ?_ ?_)
 ·refine lit 4 (gSr (C7.ok _ _) (fokD _) (hold := nH0) (m := 300) (n := 400) (ts := []) ?_)
  rw [b42_4 prim W7 x y q.length ps.length (fnR (nth q)) (fnR (nth ps)) k v]
  have := fin _ _ _ rfl [.i .i64 x, .i .i64 y, .sl 1 q.length (fnR (nth q)), .sl 2 ps.length (fnR (nth ps))] (by simp [opT, staS, Wk, WkL, len])
  repeat' (first | exact trivial | exact rfl | exact this | refine And.intro ?_ ?_)
 ·refine lit 5 (gSr (C7.ok _ _) (fokD _) (hold := nH0) (m := 300) (n := 400) (ts := []) ?_)
  rw [b42_5 prim W7 x y q.length ps.length (fnR (nth q)) (fnR (nth ps)) k v]
  have := fin _ _ _ rfl [.i .i64 x, .i .i64 y, .sl 1 (q.length + 1) (snocG q.length (fnR (nth q)) [.i .i64 v]), .sl 2 ps.length (fnR (nth ps))] ⟨rfl, rfl, .inr ⟨rfl, by simp [opT, len], nth_put q v⟩, .inr ⟨rfl, rfl, fun _ _ => rfl⟩, trivial⟩
  repeat' (first | exact trivial | exact hr | exact rfl | exact this | refine And.intro ?_ ?_)
 ·refine lit 6 (gSr (C7.ok _ _) (fokD _) (hold := nH0) (m := 300) (n := 400) (ts := []) ?_)
  rw [b42_6 prim W7 x y q.length ps.length (fnR (nth q)) (fnR (nth ps)) k v, rwAt_fnR]
  have hh : headI q.length (nth q) = q.headD 0 := by cases q <;> rfl
  rw [hh]
  have := fin _ _ _ rfl [.i .i64 x, .i .i64 y, .sl 1 (predN q.length) (shiftG (fnR (nth q))), .sl 2 ps.length (fnR (nth ps))] ⟨rfl, rfl, .inr ⟨rfl, by simp [opT, len, predN], fun j hj => by
   show fnR (nth q) (1 + j) = fnR (nth q.tail) j
   simp only [fnR, nth]
   cases q with
   | nil => rfl
   | cons z r => simp [Nat.add_comm 1 j]⟩, .inr ⟨rfl, rfl, fun _ _ => rfl⟩, trivial⟩
  repeat' (first | exact trivial | exact okB_put _ _ | exact rfl | exact this | refine And.intro ?_ ?_)
 all_goals
  have hm2 : (!decide (ofOp _ = 4) || (wfG ps.length (fnR (nth ps)) && roomB (ps.length + 1) 16)) = true := hm
  have hm3 : wfG ps.length (fnR (nth ps)) = true ∧ roomB (ps.length + 1) 16 = true := by
   rw [show decide (ofOp _ = 4) = true from rfl] at hm2
   simpa using hm2
  obtain ⟨m1, m2⟩ := hm3
  have el : lst Pr ps.length (fnR (nth ps)) = ps := lst_nth ps
 ·refine lit 7 (gSr (C7.ok _ _) (fokD _) (hold := nH0) (m := 300) (n := 400) (ts := []) ?_)
  rw [b42_7 prim W7 x y q.length ps.length (fnR (nth q)) (nth ps) k v, el]
  have := fin _ _ _ rfl [.i .i64 x, .i .i64 y, .sl 1 q.length (fnR (nth q)), .sl 2 (len (putP ps k v)) (fnR (nth (putP ps k v)))] (by simp [opT, staS, Wk, WkL, len])
  repeat' (first | exact trivial | exact m1 | exact m2 | exact hkey | exact rfl | exact this | refine And.intro ?_ ?_)
 ·refine lit 8 (gSr (C7.ok _ _) (fokD _) (hold := nH0) (m := 300) (n := 400) (ts := []) ?_)
  rw [b42_8 prim W7 x y q.length ps.length (fnR (nth q)) (nth ps) k v, el]
  have := fin _ _ _ rfl [.i .i64 x, .i .i64 y, .sl 1 q.length (fnR (nth q)), .sl 2 ps.length (fnR (nth ps))] (by simp [opT, staS, Wk, WkL, len])
  repeat' (first | exact trivial | exact m1 | exact m2 | exact hkey | exact rfl | exact this | refine And.intro ?_ ?_)
 ·refine lit 9 (gSr (C7.ok _ _) (fokD _) (hold := nH0) (m := 300) (n := 400) (ts := []) ?_)
  rw [b42_9 prim W7 x y q.length ps.length (fnR (nth q)) (nth ps) k v, el]
  have := fin _ _ _ rfl [.i .i64 x, .i .i64 y, .sl 1 q.length (fnR (nth q)), .sl 2 (len (delP ps k)) (fnR (nth (delP ps k)))] (by simp [opT, staS, Wk, WkL, len])
  repeat' (first | exact trivial | exact m1 | exact m2 | exact hkey | exact rfl | exact this | refine And.intro ?_ ?_)
end
theorem ofOp_cases {op : Int} (h0 : ofOp op ≠ 0) : op = 1 ∨ op = 2 ∨ op = 3 ∨ op = 4 ∨ op = 5 ∨ op = 6 ∨ op = 7 ∨ op = 8 ∨ op = 9 := by
 unfold ofOp at h0
 repeat' split at h0
 all_goals first | omega | simp_all
theorem O42 : FnOK Tryz.prog (gls7 W7) 42 F42 := by
 refine fnOK_Su (C := C7 prim W7 specD sAl) (C7.ok _ _) (fn := Tryz.f42) (by kernel_rfl) (by kernel_rfl) fun H w shs args φ hrep h => ?_
 have hn : Tryz.f42.ntmps = 88 := by kernel_rfl
 unfold F42 at h
 split at h
 ·rename_i x y s2 s3 t u v
  split at h
  ·rename_i a hh b l op k vv hs2 hs3 ht hu hv
   obtain ⟨h1, h2, h3, he, hb⟩ := h
   have hml : mapOK op b l = true → mapOK op (lst Pr b l).length (fnR (nth (lst Pr b l))) = true := fun hq => by
    unfold mapOK wfG at hq ⊢
    rw [lst_nth, lst_length, okB_put]
    simp only [Bool.or_eq_true, Bool.and_eq_true] at hq ⊢
    rcases hq with hq | hq
    ·exact .inl hq
    ·exact .inr ⟨⟨⟨trivial, hq.1.1.2⟩, hq.1.2⟩, hq.2⟩
   match args, hrep with
   | [v0, v1, v2, v3], ⟨r0, r1, r2, r3, _⟩ =>
    refine ⟨[.agg [.i .i64 x, .i .i64 y, .sl 1 (lst Int a hh).length (fnR (nth (lst Int a hh))), .sl 2 (lst Pr b l).length (fnR (nth (lst Pr b l)))], .i .i64 op, .i .i64 k, .i .i64 vv], ⟨rep_agg4 r0 (fun u hu => rep_rows_lst (rep_slN hs2 hu) h1) (fun u hu => rep_rows_lst (rep_slN hs3 hu) h2), icK ht r1, icK hu r2, icK hv r3, trivial⟩, L0, ?_⟩
    have h3 : roomB ((lst Int a hh).length + 1) 8 = true := by rw [lst_length]; exact h3
    have hb : badOp x op = false → (badKV x y op k vv = true → φ (.tup [.agg (staS zeroT), .i .i64 0, .i .i64 0, .er 3 242])) ∧ (badKV x y op k vv = false → mapOK op (lst Pr b l).length (fnR (nth (lst Pr b l))) = true ∧ φ (.tup [.agg (staS (opT ⟨x, y, lst Int a hh, lst Pr b l⟩ op k vv).1), .i .i64 (opT ⟨x, y, lst Int a hh, lst Pr b l⟩ op k vv).2.1, .i .i64 (opT ⟨x, y, lst Int a hh, lst Pr b l⟩ op k vv).2.2, .v .nilIface])) := fun e => ⟨(hb e).1, fun e2 => ⟨hml ((hb e).2 e2).1, ((hb e).2 e2).2⟩⟩
    clear hml
    generalize lst Int a hh = q at *
    generalize lst Pr b l = ps at *
    have e1 (e : badOp x op = true) : up φ (.tup [.agg [.i .i64 (Int.ofNat 0), .i .i64 (Int.ofNat 0), .sl 0 0 fun _ => [], .sl 0 0 fun _ => []], .i .i64 (Int.ofNat 0), .i .i64 (Int.ofNat 0), .er 1 242]) :=
     up_mk (s' := .tup [.agg (staS zeroT), .i .i64 0, .i .i64 0, .er 1 242]) ⟨⟨rfl, rfl, .inl ⟨rfl, rfl⟩, .inl ⟨rfl, rfl⟩, trivial⟩, rfl, rfl, rfl, trivial⟩ (he e)
    have e3 (e : badOp x op = false) (e2 : badKV x y op k vv = true) : up φ (.tup [.agg [.i .i64 (Int.ofNat 0), .i .i64 (Int.ofNat 0), .sl 0 0 fun _ => [], .sl 0 0 fun _ => []], .i .i64 (Int.ofNat 0), .i .i64 (Int.ofNat 0), .er 3 242]) :=
     up_mk (s' := .tup [.agg (staS zeroT), .i .i64 0, .i .i64 0, .er 3 242]) ⟨⟨rfl, rfl, .inl ⟨rfl, rfl⟩, .inl ⟨rfl, rfl⟩, trivial⟩, rfl, rfl, rfl, trivial⟩ ((hb e).1 e2)
    have go (e : badOp x op = false) (e2 : badKV x y op k vv = false) : ∃ t : Tgt, ([⟨42, td42, L42 x y q.length ps.length (fnR (nth q)) (fnR (nth ps)) op k vv, []⟩] : List Tgt)[0]? = some t ∧ GoesS Tryz.prog (C7 prim W7 specD sAl) (K0 H w) t.g t.td t.c t.stk emp (up φ) :=
     ⟨_, rfl, go42 h3 (ofOp_cases (by
      simp [badOp] at e
      rw [e.2]; exact e.1)) ((hb e).2 e2).1 (by
       simp [badKV] at e2
       unfold inKey
       exact decide_eq_true (by omega)) ((hb e).2 e2).2⟩
    refine goesS_runV (C7.ok _ _) (fokD _) (pause := pause42) (m := 300) (n := 400) (ts := [⟨42, td42, L42 x y q.length ps.length (fnR (nth q)) (fnR (nth ps)) op k vv, []⟩]) ?_
    rw [hn, a42 prim W7 x y q.length ps.length (fnR (nth q)) (fnR (nth ps)) op k vv]
    have q0 : Int.ofNat 0 = 0 := rfl
    have q3 : Int.ofNat 3 = 3 := rfl
    have qk : Int.ofNat 1000 = 1000 := rfl
    have q4 : Int.ofNat 1000000000 = 1000000000 := rfl
    have q6 : Int.negSucc 999999999 = -1000000000 := rfl
    have qa : prim.add .i64 y vv = addW y vv := rfl
    rw [q0] at e1 e3
    simp only [prim_eq, prim_nt, prim_lt, q0, q3, qk, q4, q6, qa]
    clear he hb h3 hn
    repeat' (first | exact trivial | exact rfl | (intro _) | refine And.intro ?_ ?_)
    all_goals first
     | exact e1 (by simp_all [badOp])
     | exact e3 (by simp_all [badOp]) (by simp_all [badKV])
     | exact go (by simp_all [badOp]) (by simp_all [badKV])
  ·exact h.elim
 ·exact h.elim
end Go.Proofs
namespace Go.Proofs
open Go Go.Sx Go.Pl
theorem OCs : ∀ g F, specC g = some F → FnOK Tryz.prog (gls7 W7) g F := fun g F h => by
 unfold specC at h
 split at h
 ·cases h; exact O33
 ·cases h; exact O35
 ·cases h; exact O41
 ·cases h; exact O49
 ·cases h; exact O50
 ·cases h; exact O54
 ·cases h; exact O56
 ·cases h
theorem fokC (stop : Nat → List Nat → Bool) : FnsOK Tryz.prog (C7 prim W7 specC stop) := C7.fok OCs fun g h => by
 unfold specC at h
 split at h
 all_goals first | (cases h; done) | kernel_rfl
def F25 : List Sh → Tree Sh
 | [s0] => match slN 2 s0 with
  | some (n, g) => .need (okB Oj n g) (.need (kindsB n (rwAt g)) (.node (bigO n) (.leaf (.tup [.agg [.sl 4 0 noT], .er 5 242])) (.node (allOb n (rwAt g)) (.leaf (.tup [.agg [.sl 4 n (fnT (newT (rwAt g)))], .v .nilIface])) (.leaf (.tup [.agg [.sl 4 0 noT], .ifc 167 (.pt [.i .i64 (firstOb n (rwAt g)), .er 0 242])])))))
  | none => .fail
 | _ => .fail
theorem snocG_lt {n j : Nat} {g : Nat → List Sh} {r : List Sh} (h : j < n) : snocG n g r j = g j := if_pos h
theorem snocG_at {n : Nat} {g : Nat → List Sh} {r : List Sh} : snocG n g r n = r := if_neg (by omega)
section
variable {H0 : Mem} {w0 : World} {φ : Sh → Prop}
theorem loop25 {n : Nat} {o : Nat → Oj} (hn : n ≤ 8) (hk : ∀ j, j < n → in64 (o j).kind = true) (hT : ∀ j, j < n → badOb (o j).kind (o j).init = false) (hφ : φ (.tup [.agg [.sl 4 n (fnT (newT o))], .v .nilIface])) :
  ∀ r k (gg : Nat → List Sh), k + r = n → (∀ j, j < k → gg j = staS (newT o j)) → GoesS Tryz.prog (C7 prim W7 specC sAl) (K0 H0 w0) 25 td25 (LO25 n o (k : Int) k gg false) [] emp (up φ)
 | r, k, gg, hkr, hg => by
  refine gSi (fn := Tryz.f25) (tb := tb25) (by kernel_rfl) (by kernel_rfl) ?_
  refine gSr (C7.ok _ _) (fokC _) (hold := nH0) (m := 300) (n := 400) (ts := [⟨25, td25, LO25 n o (k + 1 : Nat) (k + 1) (snocG k gg (staS (newT o k))) false, []⟩]) ?_
  rw [b25 prim W7 n o k (k + 1 : Nat) k (k + 1) gg (snocG k gg (staS (newT o k)))]
  simp only [prim_lt, prim_inB, prim_toN, prim_add, one_eq, Int.toNat_natCast]
  refine ⟨fun h => ?_, fun h => ?_⟩
  ·have hlt : k < n := by simp at h; omega
   refine ⟨by simp; omega, hk k hlt, fun hb => (by rw [hT k hlt] at hb; cases hb), fun _ => ⟨room_le (by omega) (by omega), ⟨rfl, rfl, ?_, rfl, trivial⟩, _, rfl, ?_⟩⟩
   ·simp only [Eqn.ok]; rw [wrap_id (by omega) (by omega)]; rfl
   ·match r, hkr with
    | 0, hkr => omega
    | r + 1, hkr =>
     refine loop25 hn hk hT hφ r (k + 1) _ (by omega) fun j hj => ?_
     by_cases e : j = k
     ·subst e; exact snocG_at
     ·rw [snocG_lt (by omega)]; exact hg j (by omega)
  ·have : k = n := by simp at h; omega
   subst this
   exact up_mk (s' := .tup [.agg [.sl 4 k (fnT (newT o))], .v .nilIface]) ⟨⟨.inr ⟨rfl, rfl, hg⟩, trivial⟩, rfl, trivial⟩ hφ
end
theorem O25 : FnOK Tryz.prog (gls7 W7) 25 F25 := by
 refine fnOK_Su (C := C7 prim W7 specC sAl) (C7.ok _ _) (fn := Tryz.f25) (by kernel_rfl) (by kernel_rfl) fun H w shs args φ hrep h => ?_
 have hn : Tryz.f25.ntmps = 38 := by kernel_rfl
 unfold F25 at h
 split at h
 ·rename_i s0
  split at h
  ·rename_i n g hs0
   obtain ⟨h1, h2, hbig, hsm⟩ := h
   have hsm : bigO n = false → (allOb n (rwAt g) = true → φ (.tup [.agg [.sl 4 n (fnT (newT (rwAt g)))], .v .nilIface])) ∧ (allOb n (rwAt g) = false → φ (.tup [.agg [.sl 4 0 noT], .ifc 167 (.pt [.i .i64 (firstOb n (rwAt g)), .er 0 242])])) := hsm
   match args, hrep with
   | [v], ⟨hv, _⟩ =>
    refine ⟨[.sl 2 n (fnR (rwAt (α := Oj) g))], ⟨rep_rows (rep_slN hs0 hv) h1, trivial⟩, L0, ?_⟩
    generalize rwAt (α := Oj) g = o at *
    refine gSr (C7.ok _ _) (fokC _) (hold := nH0) (m := 300) (n := 400) (ts := [⟨25, td25, LO25 n o (0 : Nat) 0 noT true, []⟩]) ?_
    rw [hn, a25 prim W7 n o (0 : Nat) 0 noT, rwAt_fnR]
    refine ⟨okB_put _ _, h2, fun e => up_mk (s' := .tup [.agg [.sl 4 0 noT], .er 5 242]) ⟨⟨.inl ⟨rfl, rfl⟩, trivial⟩, rfl, trivial⟩ (hbig e), fun e => ?_⟩
    obtain ⟨q1, q2⟩ := hsm e
    have hn8 : n ≤ 8 := by simp [bigO] at e; omega
    refine ⟨fun e => ⟨⟨rfl, rfl, rfl, trivial⟩, _, rfl, ?_⟩, fun e => up_mk (s' := .tup [.agg [.sl 4 0 noT], .ifc 167 (.pt [.i .i64 (firstOb n o), .er 0 242])]) ⟨⟨.inl ⟨rfl, rfl⟩, trivial⟩, rfl, trivial⟩ (q2 e)⟩
    have hT : ∀ j, j < n → badOb (o j).kind (o j).init = false := fun j hj => by simpa using all_range e j hj
    refine gSi (fn := Tryz.f25) (tb := tb25) (by kernel_rfl) (by kernel_rfl) ?_
    refine gSr (C7.ok _ _) (fokC _) (hold := nH0) (m := 300) (n := 400) (ts := [⟨25, td25, LO25 n o (1 : Nat) 1 (snocG 0 (fun _ => []) (staS (newT o 0))) false, []⟩]) ?_
    rw [c25 prim W7 n o (0 : Nat) (1 : Nat) 0 1 noT (snocG 0 (fun _ => []) (staS (newT o 0)))]
    simp only [prim_lt, prim_inB, prim_toN, prim_add, one_eq, Int.toNat_natCast]
    refine ⟨fun h => ?_, fun h => ?_⟩
    ·have hlt : 0 < n := by simp at h; omega
     refine ⟨by simp; omega, all_range h2 0 hlt, fun hb => (by rw [hT 0 hlt] at hb; cases hb), fun _ => ⟨room_le (by omega) (by omega), ⟨rfl, rfl, ?_, rfl, trivial⟩, _, rfl, ?_⟩⟩
     ·simp only [Eqn.ok]; rw [wrap_id (by omega) (by omega)]; rfl
     ·refine loop25 hn8 (all_range h2) hT (q1 e) (n - 1) 1 _ (by omega) fun j hj => ?_
      obtain rfl : j = 0 := by omega
      exact snocG_at
    ·have : n = 0 := by simp at h; omega
     subst this
     exact up_mk (s' := .tup [.agg [.sl 4 0 (fnT (newT o))], .v .nilIface]) ⟨⟨.inl ⟨rfl, rfl⟩, trivial⟩, rfl, trivial⟩ (q1 e)
  ·exact h.elim
 ·exact h.elim
end Go.Proofs
namespace Go.Pl
open Go Go.Sx
structure Lk7 where
 key : Sta → List UInt8
 join : Nat → (Nat → List Sh) → List UInt8 → List UInt8
def sQ (x y : Int) (a : Nat) (h : Nat → List Sh) (b : Nat) (l : Nat → List Sh) : Sta := ⟨x, y, lst Int a h, lst Pr b l⟩
def keyB (x y : Int) (a : Nat) (h : Nat → List Sh) (b : Nat) (l : Nat → List Sh) : Bool :=
 okB Int a h && okB Pr b l && in64 x && in64 y && numsB a (rwAt h) && prsB b (rwAt l) && decide (a ≤ 100000 ∧ b ≤ 100000)
def joinB (n : Nat) (g : Nat → List Sh) (sep : List UInt8) : Bool := okB (List UInt8) n g && roomB n 16 && shortB (joinS (lst (List UInt8) n g) sep)
end Go.Pl
namespace Go.Proofs
open Go.Sx.Tree
open Go Go.Sx Go.Pl
def G35 (L : Lk7) : List Sh → Tree Sh
 | [.agg [.i .i64 x, .i .i64 y, s2, s3]] => match slN 1 s2, slN 2 s3 with
  | some (a, h), some (b, l) => .need (keyB x y a h b l) (.leaf (.str (L.key (sQ x y a h b l))))
  | _, _ => .fail
 | _ => .fail
def G56 (L : Lk7) : List Sh → Tree Sh
 | [s0, .str sep] => match slN 1 s0 with
  | some (n, g) => .need (joinB n g sep) (.leaf (.str (L.join n g sep)))
  | none => .fail
 | _ => .fail
def F64 : List Sh → Tree Sh
 | [.agg [s0]] => match slN 4 s0 with
  | some (n, g) => .need (roomB n 64) (.leaf (.sl 4 n g))
  | none => .fail
 | _ => .fail
def specK (L : Lk7) : Nat → Option (List Sh → Tree Sh)
 | 35 => some (G35 L)
 | 56 => some (G56 L)
 | 64 => some F64
 | _ => none
def pR32 : List Nat := [0, 1, 0, 1, 1]
def k32 : List It := [It.inBlock 0, It.code [1, 1, 1]]
def cl32 (j : Nat) (gg : Nat → List Sh) : Bool → SV × List (Nat × SB)
 | true => (.nils, [])
 | false => (.gs 2, [(2, .own 9 1 j gg)])
def hp32 (n : Nat) (d : Nat → Sta) (j : Nat) (gg : Nat → List Sh) (v : Bool) : List (Nat × SB) := [(0, .box [(cl32 j gg v).1] 34), (1, .box [.sh (.sl 4 n (fnT d))] 47)] ++ (cl32 j gg v).2
def tm32 : List SV := tmOf 17 [(3, .ptr 0 0), (7, .fn 63 [.ptr 1 0])]
def L32 (n : Nat) (d : Nat → Sta) : Core := { tm := tm32, hp := hp32 n d 0 (fun _ => []) true, nx := 2, lim := L0, tc := [] }
def s32 (l : Nat) : List Fw := [⟨32, none, k32, tm32, some (l, pR32, .ready)⟩]
def td63 : List It := [It.code [0, 1], It.inBlock 0]
def tb63 : List It := It.code [0, 0, 1] :: td63
def nx32 : Bool → Nat
 | true => 2
 | false => 3
def L63 (n : Nat) (d : Nat → Sta) (l : Nat) (k : Int) (j : Nat) (gg : Nat → List Sh) (v : Bool) : Core :=
 { tm := tmOf 20 [(0, .val (yv l)), (7, .sh (.sl 4 n (fnT d))), (8, .sym .i64 (n : Int)), (9, .sym .i64 k)], hp := hp32 n d j gg v, nx := nx32 v, lim := L0, tc := [] }
theorem a32 (A : Prim) (W : Wd) (L : Lk7) (n : Nat) (d : Nat → Sta) : runX (C7 A W (specK L) sAl) noPause 300 800 32 none [.code []] (start0 17 [.agg [.sl 4 n (fnT d)]] L0) [] [⟨32, none, .code pR32 :: k32, L32 n d, []⟩] = leaf (Fe2.at_ 0 [Eqn.sh (Sh.sl 4 n (fnT d)) (Sh.sl 4 n (fnT d))]) := by kernel_rfl
theorem t32 (A : Prim) (W : Wd) (L : Lk7) (n : Nat) (d : Nat → Sta) (l : Nat) (k : Int) (j : Nat) (gg : Nat → List Sh) : runX (C7 A W (specK L) sAl) noPause 300 800 63 none [.code []] { L32 n d with tm := (.val (yv l) :: [.ptr 1 0]) ++ List.replicate (20 - (1 + 1)) .any } (s32 l) [⟨63, none, td63, L63 n d l k j gg true, s32 l⟩] = need (roomB n 64) (leaf (Fe2.at_ 0 [Eqn.val (Value.func (Fn.yield l) { toList := [] } { toList := [] }) (Value.func (Fn.yield l) { toList := [] } { toList := [] }), Eqn.sh (Sh.sl 4 n (fnT d)) (Sh.sl 4 n (fnT d)), Eqn.int (A.ofN n) (Int.ofNat n), Eqn.int (Int.ofNat 0) k, Eqn.sh (Sh.sl 4 n (fnT d)) (Sh.sl 4 n (fnT d)), Eqn.nat l l])) := by kernel_rfl
noncomputable def b32t_e1 (A : Prim) (L : Lk7) (n : Nat) (d : Nat → Sta) (k : Int) : List Eqn := [Eqn.int k k, Eqn.int (d (A.toN k)).kind (d (A.toN k)).kind, Eqn.int (d (A.toN k)).num (d (A.toN k)).num, Eqn.sh (Sh.sl 1 (len (d (A.toN k)).q) (fnR (nth (d (A.toN k)).q))) (Sh.sl 1 (len (d (A.toN k)).q) (fnR (nth (d (A.toN k)).q))), Eqn.sh (Sh.sl 2 (len (d (A.toN k)).ps) (fnR (nth (d (A.toN k)).ps))) (Sh.sl 2 (len (d (A.toN k)).ps) (fnR (nth (d (A.toN k)).ps))), Eqn.sh (Sh.sl 4 n (fnT d)) (Sh.sl 4 n (fnT d)), Eqn.int (d (A.toN k)).kind (d (A.toN k)).kind, Eqn.int (d (A.toN k)).num (d (A.toN k)).num, Eqn.sh (Sh.sl 1 (len (d (A.toN k)).q) (fnR (nth (d (A.toN k)).q))) (Sh.sl 1 (len (d (A.toN k)).q) (fnR (nth (d (A.toN k)).q))), Eqn.sh (Sh.sl 2 (len (d (A.toN k)).ps) (fnR (nth (d (A.toN k)).ps))) (Sh.sl 2 (len (d (A.toN k)).ps) (fnR (nth (d (A.toN k)).ps))), Eqn.int (d (A.toN k)).kind (d (A.toN k)).kind, Eqn.int (d (A.toN k)).num (d (A.toN k)).num, Eqn.sh (Sh.sl 1 (len (d (A.toN k)).q) (fnR (nth (d (A.toN k)).q))) (Sh.sl 1 (len (d (A.toN k)).q) (fnR (nth (d (A.toN k)).q))), Eqn.sh (Sh.sl 2 (len (d (A.toN k)).ps) (fnR (nth (d (A.toN k)).ps))) (Sh.sl 2 (len (d (A.toN k)).ps) (fnR (nth (d (A.toN k)).ps))), Eqn.sh (Sh.str (L.key (sQ (d (A.toN k)).kind (d (A.toN k)).num (len (d (A.toN k)).q) (fnR (nth (d (A.toN k)).q)) (len (d (A.toN k)).ps) (fnR (nth (d (A.toN k)).ps))))) (Sh.str (L.key (sQ (d (A.toN k)).kind (d (A.toN k)).num (len (d (A.toN k)).q) (fnR (nth (d (A.toN k)).q)) (len (d (A.toN k)).ps) (fnR (nth (d (A.toN k)).ps))))), Eqn.sh (Sh.str (L.key (sQ (d (A.toN k)).kind (d (A.toN k)).num (len (d (A.toN k)).q) (fnR (nth (d (A.toN k)).q)) (len (d (A.toN k)).ps) (fnR (nth (d (A.toN k)).ps))))) (Sh.str (L.key (sQ (d (A.toN k)).kind (d (A.toN k)).num (len (d (A.toN k)).q) (fnR (nth (d (A.toN k)).q)) (len (d (A.toN k)).ps) (fnR (nth (d (A.toN k)).ps)))))]
theorem b32t (A : Prim) (W : Wd) (L : Lk7) (n : Nat) (d : Nat → Sta) (l : Nat) (k k' : Int) (j j' : Nat) (gg gg' : Nat → List Sh) : runX (C7 A W (specK L) sAl) noPause 300 800 63 none tb63 (L63 n d l k j gg true) (s32 l) [⟨63, none, td63, L63 n d l k' j' gg' false, s32 l⟩] = node (A.lt k (Int.ofNat n)) (need (A.inB k n) (must [Eqn.nat l l] (must [Eqn.nat l l] (need (keyB (d (A.toN k)).kind (d (A.toN k)).num (len (d (A.toN k)).q) (fnR (nth (d (A.toN k)).q)) (len (d (A.toN k)).ps) (fnR (nth (d (A.toN k)).ps))) (need (keyB (d (A.toN k)).kind (d (A.toN k)).num (len (d (A.toN k)).q) (fnR (nth (d (A.toN k)).q)) (len (d (A.toN k)).ps) (fnR (nth (d (A.toN k)).ps))) (must (b32t_e1 A L n d k) (must (b32t_e1 A L n d k) (must [Eqn.nat l l] (leaf (Fe2.at_ 0 [Eqn.val (Value.func (Fn.yield l) { toList := [] } { toList := [] }) (Value.func (Fn.yield l) { toList := [] } { toList := [] }), Eqn.sh (Sh.sl 4 n (fnT d)) (Sh.sl 4 n (fnT d)), Eqn.int (Int.ofNat n) (Int.ofNat n), Eqn.int (A.add .i64 k (Int.ofNat 1)) k', Eqn.sh (Sh.sl 4 n (fnT d)) (Sh.sl 4 n (fnT d)), Eqn.nat 1 j', Eqn.get 1 (nthL [[Sh.str (L.key (sQ (d (A.toN k)).kind (d (A.toN k)).num (len (d (A.toN k)).q) (fnR (nth (d (A.toN k)).q)) (len (d (A.toN k)).ps) (fnR (nth (d (A.toN k)).ps))))]]) gg', Eqn.nat l l])))))))))) (need (joinB 0 (fun (x : Nat) => []) [59, 32]) (leaf (Fe2.ret (Sh.str (L.join 0 (fun (x : Nat) => []) [59, 32]))))) := by kernel_rfl
noncomputable def b32f_e1 (A : Prim) (L : Lk7) (n : Nat) (d : Nat → Sta) (k : Int) (j : Nat) (gg : Nat → List Sh) : List Eqn := [Eqn.int k k, Eqn.int (d (A.toN k)).kind (d (A.toN k)).kind, Eqn.int (d (A.toN k)).num (d (A.toN k)).num, Eqn.sh (Sh.sl 1 (len (d (A.toN k)).q) (fnR (nth (d (A.toN k)).q))) (Sh.sl 1 (len (d (A.toN k)).q) (fnR (nth (d (A.toN k)).q))), Eqn.sh (Sh.sl 2 (len (d (A.toN k)).ps) (fnR (nth (d (A.toN k)).ps))) (Sh.sl 2 (len (d (A.toN k)).ps) (fnR (nth (d (A.toN k)).ps))), Eqn.sh (Sh.sl 4 n (fnT d)) (Sh.sl 4 n (fnT d)), Eqn.int (d (A.toN k)).kind (d (A.toN k)).kind, Eqn.int (d (A.toN k)).num (d (A.toN k)).num, Eqn.sh (Sh.sl 1 (len (d (A.toN k)).q) (fnR (nth (d (A.toN k)).q))) (Sh.sl 1 (len (d (A.toN k)).q) (fnR (nth (d (A.toN k)).q))), Eqn.sh (Sh.sl 2 (len (d (A.toN k)).ps) (fnR (nth (d (A.toN k)).ps))) (Sh.sl 2 (len (d (A.toN k)).ps) (fnR (nth (d (A.toN k)).ps))), Eqn.int (d (A.toN k)).kind (d (A.toN k)).kind, Eqn.int (d (A.toN k)).num (d (A.toN k)).num, Eqn.sh (Sh.sl 1 (len (d (A.toN k)).q) (fnR (nth (d (A.toN k)).q))) (Sh.sl 1 (len (d (A.toN k)).q) (fnR (nth (d (A.toN k)).q))), Eqn.sh (Sh.sl 2 (len (d (A.toN k)).ps) (fnR (nth (d (A.toN k)).ps))) (Sh.sl 2 (len (d (A.toN k)).ps) (fnR (nth (d (A.toN k)).ps))), Eqn.sh (Sh.str (L.key (sQ (d (A.toN k)).kind (d (A.toN k)).num (len (d (A.toN k)).q) (fnR (nth (d (A.toN k)).q)) (len (d (A.toN k)).ps) (fnR (nth (d (A.toN k)).ps))))) (Sh.str (L.key (sQ (d (A.toN k)).kind (d (A.toN k)).num (len (d (A.toN k)).q) (fnR (nth (d (A.toN k)).q)) (len (d (A.toN k)).ps) (fnR (nth (d (A.toN k)).ps))))), Eqn.nat (A.addN j 1) (A.addN j 1), Eqn.fun_ (A.snoc gg j (nthL [[Sh.str (L.key (sQ (d (A.toN k)).kind (d (A.toN k)).num (len (d (A.toN k)).q) (fnR (nth (d (A.toN k)).q)) (len (d (A.toN k)).ps) (fnR (nth (d (A.toN k)).ps))))]])) (A.snoc gg j (nthL [[Sh.str (L.key (sQ (d (A.toN k)).kind (d (A.toN k)).num (len (d (A.toN k)).q) (fnR (nth (d (A.toN k)).q)) (len (d (A.toN k)).ps) (fnR (nth (d (A.toN k)).ps))))]]))]
theorem b32f (A : Prim) (W : Wd) (L : Lk7) (n : Nat) (d : Nat → Sta) (l : Nat) (k k' : Int) (j j' : Nat) (gg gg' : Nat → List Sh) : runX (C7 A W (specK L) sAl) noPause 300 800 63 none tb63 (L63 n d l k j gg false) (s32 l) [⟨63, none, td63, L63 n d l k' j' gg' false, s32 l⟩] = node (A.lt k (Int.ofNat n)) (need (A.inB k n) (must [Eqn.nat l l] (must [Eqn.nat l l] (need (keyB (d (A.toN k)).kind (d (A.toN k)).num (len (d (A.toN k)).q) (fnR (nth (d (A.toN k)).q)) (len (d (A.toN k)).ps) (fnR (nth (d (A.toN k)).ps))) (need (A.room (A.addN j 1) 16) (need (keyB (d (A.toN k)).kind (d (A.toN k)).num (len (d (A.toN k)).q) (fnR (nth (d (A.toN k)).q)) (len (d (A.toN k)).ps) (fnR (nth (d (A.toN k)).ps))) (need (A.room (A.addN j 1) 16) (need (A.room (A.addN j 1) 16) (must (b32f_e1 A L n d k j gg) (must (b32f_e1 A L n d k j gg) (must [Eqn.nat l l] (leaf (Fe2.at_ 0 [Eqn.val (Value.func (Fn.yield l) { toList := [] } { toList := [] }) (Value.func (Fn.yield l) { toList := [] } { toList := [] }), Eqn.sh (Sh.sl 4 n (fnT d)) (Sh.sl 4 n (fnT d)), Eqn.int (Int.ofNat n) (Int.ofNat n), Eqn.int (A.add .i64 k (Int.ofNat 1)) k', Eqn.sh (Sh.sl 4 n (fnT d)) (Sh.sl 4 n (fnT d)), Eqn.nat (A.addN j 1) j', Eqn.get (A.addN j 1) (A.snoc gg j (nthL [[Sh.str (L.key (sQ (d (A.toN k)).kind (d (A.toN k)).num (len (d (A.toN k)).q) (fnR (nth (d (A.toN k)).q)) (len (d (A.toN k)).ps) (fnR (nth (d (A.toN k)).ps))))]])) gg', Eqn.nat l l]))))))))))))) (need (joinB j gg [59, 32]) (leaf (Fe2.ret (Sh.str (L.join j gg [59, 32]))))) := by kernel_rfl
end Go.Proofs
namespace Go.Pl
open Go Go.Sx Go.Proofs
def okT (s : Sta) : Bool := in64 s.kind && in64 s.num && s.q.all in64 && s.ps.all (fun p => in64 p.key && in64 p.val) && decide (s.q.length ≤ 100000 ∧ s.ps.length ≤ 100000)
def keysB (n : Nat) (d : Nat → Sta) : Bool := decide (n ≤ 1000) && (List.range n).all fun j => okT (d j)
def keyT (l : List Sta) : List UInt8 := joinS (l.map keyS) [59, 32]
def LK : Lk7 where
 key := keyS
 join n g sep := joinS (lst (List UInt8) n g) sep
theorem keyB_ok {s : Sta} (h : okT s = true) : keyB s.kind s.num (len s.q) (fnR (nth s.q)) (len s.ps) (fnR (nth s.ps)) = true := by
 unfold okT at h
 simp only [Bool.and_eq_true, decide_eq_true_eq] at h
 obtain ⟨⟨⟨⟨h1, h2⟩, h3⟩, h4⟩, h5⟩ := h
 unfold keyB
 simp only [Bool.and_eq_true, decide_eq_true_eq]
 refine ⟨⟨⟨⟨⟨⟨okB_put _ _, okB_put _ _⟩, h1⟩, h2⟩, ?_⟩, ?_⟩, h5⟩
 ·rw [rwAt_fnR]
  refine List.all_eq_true.2 fun j hj => ?_
  have hj : j < s.q.length := List.mem_range.1 hj
  have e : nth s.q j = s.q[j] := by simp [nth, hj]
  rw [e]
  exact List.all_eq_true.1 h3 _ (List.getElem_mem hj)
 ·rw [rwAt_fnR]
  refine List.all_eq_true.2 fun j hj => ?_
  have hj : j < s.ps.length := List.mem_range.1 hj
  have e : nth s.ps j = s.ps[j] := by simp [nth, hj]
  rw [e]
  exact List.all_eq_true.1 h4 _ (List.getElem_mem hj)
theorem sQ_eq (s : Sta) : sQ s.kind s.num (len s.q) (fnR (nth s.q)) (len s.ps) (fnR (nth s.ps)) = s := by
 show (⟨s.kind, s.num, lst Int s.q.length (fnR (nth s.q)), lst Pr s.ps.length (fnR (nth s.ps))⟩ : Sta) = s
 rw [lst_nth, lst_nth]
theorem partsS_len {s : Sta} (h : okT s = true) : (partsS s).length ≤ 100001 ∧ ∀ x ∈ partsS s, x.length ≤ 50 := by
 unfold okT at h
 simp only [Bool.and_eq_true, decide_eq_true_eq] at h
 obtain ⟨⟨⟨⟨h1, h2⟩, h3⟩, h4⟩, h5⟩ := h
 unfold partsS
 refine ⟨?_, fun x hx => ?_⟩
 ·simp only [List.length_cons]
  repeat' split
  all_goals (simp; try omega)
 ·rcases List.mem_cons.1 hx with rfl | hx
  ·exact wordO_len _
  ·split at hx
   ·simp at hx
    subst hx
    have := itoa_len h2; omega
   ·split at hx
    ·obtain ⟨y, hy, rfl⟩ := List.mem_map.1 hx
     have := itoa_len (List.all_eq_true.1 h3 y hy); omega
    ·split at hx
     ·obtain ⟨y, hy, rfl⟩ := List.mem_map.1 hx
      have h6 := List.all_eq_true.1 h4 y hy
      simp only [Bool.and_eq_true] at h6
      exact pair_len h6.1 h6.2
     ·simp at hx
theorem keyS_len {s : Sta} (h : okT s = true) : (keyS s).length ≤ 6000000 := by
 obtain ⟨h1, h2⟩ := partsS_len h
 have h3 := join_len (partsS s) [32] h2
 have h4 : (partsS s).length * (50 + [(32 : UInt8)].length) ≤ 100001 * 51 := Nat.mul_le_mul_right _ h1
 unfold keyS
 omega
theorem keyT_short {l : List Sta} (hl : l.length ≤ 1000) (h : ∀ s ∈ l, okT s = true) : shortB (joinS (l.map keyS) [59, 32]) = true := by
 have h3 := join_len (l.map keyS) [59, 32] (m := 6000000) fun x hx => by
  obtain ⟨s, hs, rfl⟩ := List.mem_map.1 hx
  exact keyS_len (h s hs)
 have h4 : (l.map keyS).length * (6000000 + [(59 : UInt8), 32].length) ≤ 1000 * 6000002 := Nat.mul_le_mul_right _ (by simpa using hl)
 exact decide_eq_true (by omega)
end Go.Pl
namespace Go.Proofs
open Go Go.Sx Go.Pl
theorem O35k : FnOK Tryz.prog (gls7 W7) 35 (G35 LK) := O35.mono fun H shs args φ hr h => by
 unfold G35 at h
 split at h
 ·split at h
  ·rename_i s2 s3 a hh b l hs2 hs3
   obtain ⟨h1, hφ⟩ := h
   simp only [keyB, Bool.and_eq_true] at h1
   obtain ⟨⟨⟨⟨⟨⟨q1, q2⟩, q3⟩, q4⟩, q5⟩, q6⟩, q7⟩ := h1
   simp only [F35, hs2, hs3]
   exact ⟨q1, q2, q3, q4, q5, q6, q7, hφ⟩
  ·exact h.elim
 ·exact h.elim
theorem O56k : FnOK Tryz.prog (gls7 W7) 56 (G56 LK) := fun H w shs args φ on hg hr h => by
 unfold G56 at h
 split at h
 ·rename_i s0 sep
  split at h
  ·rename_i n g hs
   obtain ⟨h1, hφ⟩ := h
   simp only [joinB, Bool.and_eq_true] at h1
   match args, hr with
   | [v, u], ⟨hv, hu, _⟩ => exact O56 H w [.sl 1 n g, .str sep] [v, u] φ on hg ⟨rep_slN hs hv, hu, trivial⟩ ⟨h1.1.1, h1.1.2, h1.2, hφ⟩
  ·exact h.elim
 ·exact h.elim
theorem O64 : FnOK Tryz.prog (gls7 W7) 64 F64 := by
 refine fnOK_Ru (C := C7 prim W7 specA sAl) (C7.ok _ _) (fokA _) (m := 300) (n := 400) (L := L0) (fn := Tryz.f64) (by kernel_rfl) (by kernel_rfl) fun H w shs args φ hrep h => ?_
 have hn : Tryz.f64.ntmps = 10 := by kernel_rfl
 unfold F64 at h
 split at h
 ·rename_i s0
  split at h
  ·rename_i n g hs
   obtain ⟨h1, hφ⟩ := h
   match args, hrep with
   | [v], ⟨hv, _⟩ =>
    refine ⟨[.agg [.sl 4 n g]], ⟨rep_agg1 hv fun u hu => rep_slN hs hu, trivial⟩, ?_⟩
    rw [hn, a64 prim W7 n g, addN0, snoc0, toN_ofN]
    exact ⟨le0 n, h1, h1, up_mk (s' := .sl 4 n g) (.inr ⟨rfl, rfl, fun _ _ => rfl⟩) hφ⟩
  ·exact h.elim
 ·exact h.elim
theorem OKs : ∀ g F, specK LK g = some F → FnOK Tryz.prog (gls7 W7) g F := fun g F h => by
 unfold specK at h
 split at h
 ·cases h; exact O35k
 ·cases h; exact O56k
 ·cases h; exact O64
 ·cases h
theorem fokK (stop : Nat → List Nat → Bool) : FnsOK Tryz.prog (C7 prim W7 (specK LK) stop) := C7.fok OKs fun g h => by
 unfold specK at h
 split at h
 all_goals first | (cases h; done) | kernel_rfl
theorem nd7 : noDeferAll Tryz.fns = true := by kernel_rfl
noncomputable def F32 : List Sh → Tree Sh
 | [.agg [s0]] => match slN 4 s0 with
  | some (n, g) => .need (stB n g) (.need (keysB n (stF n g)) (.leaf (.str (keyT ((List.range n).map (stF n g))))))
  | none => .fail
 | _ => .fail
section
variable {H0 : Mem} {w0 : World} {φ : Sh → Prop} {n : Nat} {d : Nat → Sta}
theorem loop63 (hn : n ≤ 1000) (hd : ∀ j, j < n → okT (d j) = true) (hφ : φ (.str (keyT ((List.range n).map d)))) {l : Nat} : ∀ r k, k + r = n → 0 < k →
  GoesW Tryz.prog (C7 prim W7 (specK LK) sAl) (K0 H0 w0) 63 none td63 (L63 n d l (k : Int) k (fnR (nth (((List.range k).map d).map keyS))) false) (s32 l) φ
 | r, k, hkr, h0 => by
  refine goesW_into (fn := Tryz.f63) (tb := tb63) (by kernel_rfl) (by kernel_rfl) ?_
  refine goesW_runX (C7.ok _ _) (fokK _) nd7 (pause := noPause) (m := 300) (n := 800) (ts := [⟨63, none, td63, L63 n d l ((k + 1 : Nat) : Int) (k + 1) (fnR (nth (((List.range (k + 1)).map d).map keyS))) false, s32 l⟩]) ?_
  refine (congrArg (MeetsW _) (b32f prim W7 LK n d l k (k + 1 : Nat) k (k + 1) (fnR (nth (((List.range k).map d).map keyS))) (fnR (nth (((List.range (k + 1)).map d).map keyS))))).mpr ?_
  rw [meetsW_eq]
  have hlen : (((List.range k).map d).map keyS).length = k := by simp
  simp only [prim_lt, prim_inB, prim_toN, prim_add, one_eq, Int.toNat_natCast, addN1]
  rw [sQ_eq (d k)]
  refine ⟨fun h => ?_, fun h => ?_⟩
  ·have hlt : k < n := by simp at h; omega
   have hk := keyB_ok (hd k hlt)
   have hr : prim.room (k + 1) 16 = true := room_le (by omega) (by omega)
   have hin : decide (0 ≤ (k : Int) ∧ (k : Int) < (n : Int)) = true := by simp; omega
   have hw : IntKind.i64.wrap ((k : Int) + 1) = ((k + 1 : Nat) : Int) := by rw [wrap_id (by omega) (by omega)]; rfl
   have hs : ∀ i, i < k + 1 → prim.snoc (fnR (nth (((List.range k).map d).map keyS))) k (nthL [[.str (keyS (d k))]]) i = fnR (nth (((List.range (k + 1)).map d).map keyS)) i := fun i hi => by
    have := snoc_nth (((List.range k).map d).map keyS) (keyS (d k)) (r := [[.str (keyS (d k))]]) rfl i (by rw [hlen]; exact hi)
    rw [hlen] at this
    rw [this, List.range_succ, List.map_append, List.map_append]
    rfl
   have next : ∃ t : TgtW, ([⟨63, none, td63, L63 n d l ((k + 1 : Nat) : Int) (k + 1) (fnR (nth (((List.range (k + 1)).map d).map keyS))) false, s32 l⟩] : List TgtW)[0]? = some t ∧ GoesW Tryz.prog (C7 prim W7 (specK LK) sAl) (K0 H0 w0) t.g t.r t.td t.c t.stk φ := by
    match r, hkr with
    | 0, hkr => omega
    | r + 1, hkr => exact ⟨_, rfl, loop63 hn hd hφ r (k + 1) (by omega) (by omega)⟩
   repeat' (first | exact trivial | exact next | exact hk | exact hr | exact hin | exact hw | exact hs | exact rfl | refine And.intro ?_ ?_)
  ·have hk : k = n := by simp at h; omega
   subst hk
   have e : lst (List UInt8) k (fnR (nth (((List.range k).map d).map keyS))) = ((List.range k).map d).map keyS := lst_fn _ hlen
   have hsh : shortB (joinS (((List.range k).map d).map keyS) [59, 32]) = true := keyT_short (by simpa using hn) fun s hs => by
    obtain ⟨j, hj, rfl⟩ := List.mem_map.1 hs
    exact hd j (List.mem_range.1 hj)
   refine ⟨?_, ?_⟩
   ·simp only [joinB, Bool.and_eq_true]
    exact ⟨⟨okB_put _ _, room_le (by omega) (by omega)⟩, by rw [e]; exact hsh⟩
   ·show φ (.str (joinS (lst (List UInt8) k (fnR (nth (((List.range k).map d).map keyS)))) [59, 32]))
    rw [e]
    exact hφ
end
theorem O32 : FnOK Tryz.prog (gls7 W7) 32 F32 := by
 refine fnOK_W (C := C7 prim W7 (specK LK) sAl) (C7.ok _ _) (fn := Tryz.f32) (by kernel_rfl) (by kernel_rfl) fun H w shs args φ hrep h => ?_
 have hn : Tryz.f32.ntmps = 17 := by kernel_rfl
 unfold F32 at h
 split at h
 ·rename_i s0
  split at h
  ·rename_i n g hs
   obtain ⟨h1, h2, hφ⟩ := h
   match args, hrep with
   | [v], ⟨hv, _⟩ =>
    refine ⟨[.agg [.sl 4 n (fnT (stF n g))]], ⟨rep_agg1 hv fun u hu => rep_sl_congr (rep_slN hs hu) (stB_at h1), trivial⟩, L0, ?_⟩
    generalize stF n g = d at *
    have hφ : φ (.str (keyT ((List.range n).map d))) := hφ
    simp only [keysB, Bool.and_eq_true, decide_eq_true_eq] at h2
    obtain ⟨h2, h3⟩ := h2
    have hd := all_range h3
    refine goesW_runX (C7.ok _ _) (fokK _) nd7 (pause := noPause) (m := 300) (n := 800) (ts := [⟨32, none, .code pR32 :: k32, L32 n d, []⟩]) ?_
    rw [hn, a32 prim W7 LK n d, meetsW_eq]
    refine ⟨⟨rfl, trivial⟩, _, rfl, ?_⟩
    refine goesW_range (C7.ok _ _) (fokK _) (fn := Tryz.f32) (fn2 := Tryz.f63) (g2 := 63) (caps := [.ptr 1 0]) (by kernel_rfl) (x := .tmp 7) (ps := #[8, 9]) (ca := codeAt (bodyOf Tryz.f32) (0 :: pR32)) (cb := codeAt (bodyOf Tryz.f32) (1 :: pR32)) (by kernel_rfl) (by kernel_rfl) (by kernel_rfl) (by kernel_rfl) fun l => ?_
    have hn63 : Tryz.f63.ntmps = 20 := by kernel_rfl
    rw [hn63]
    refine goesW_runX (C7.ok _ _) (fokK _) nd7 (pause := noPause) (m := 300) (n := 800) (ts := [⟨63, none, td63, L63 n d l ((0 : Nat) : Int) 0 noT true, s32 l⟩]) ?_
    refine (congrArg (MeetsW _) (t32 prim W7 LK n d l ((0 : Nat) : Int) 0 noT)).mpr ?_
    rw [meetsW_eq]
    refine ⟨room_le (by omega) (by omega), ?_, _, rfl, ?_⟩
    ·repeat' (first | exact trivial | exact rfl | exact fun _ _ => rfl | refine And.intro ?_ ?_)
    refine goesW_into (fn := Tryz.f63) (tb := tb63) (by kernel_rfl) (by kernel_rfl) ?_
    refine goesW_runX (C7.ok _ _) (fokK _) nd7 (pause := noPause) (m := 300) (n := 800) (ts := [⟨63, none, td63, L63 n d l ((1 : Nat) : Int) 1 (fnR (nth (((List.range 1).map d).map keyS))) false, s32 l⟩]) ?_
    refine (congrArg (MeetsW _) (b32t prim W7 LK n d l ((0 : Nat) : Int) ((1 : Nat) : Int) 0 1 noT (fnR (nth (((List.range 1).map d).map keyS))))).mpr ?_
    rw [meetsW_eq]
    simp only [prim_lt, prim_inB, prim_toN, prim_add, one_eq, Int.toNat_natCast]
    rw [sQ_eq (d 0)]
    refine ⟨fun h => ?_, fun h => ?_⟩
    ·have hlt : 0 < n := by simp at h; omega
     have hk := keyB_ok (hd 0 hlt)
     have hin : decide (0 ≤ ((0 : Nat) : Int) ∧ ((0 : Nat) : Int) < (n : Int)) = true := by simp; omega
     have hw : IntKind.i64.wrap (((0 : Nat) : Int) + 1) = ((1 : Nat) : Int) := by rw [wrap_id (by omega) (by omega)]; rfl
     have hs : ∀ i, i < 1 → nthL [[.str (keyS (d 0))]] i = fnR (nth (((List.range 1).map d).map keyS)) i := fun i hi => by
      obtain rfl : i = 0 := by omega
      rfl
     have next : ∃ t : TgtW, ([⟨63, none, td63, L63 n d l ((1 : Nat) : Int) 1 (fnR (nth (((List.range 1).map d).map keyS))) false, s32 l⟩] : List TgtW)[0]? = some t ∧ GoesW Tryz.prog (C7 prim W7 (specK LK) sAl) (K0 H w) t.g t.r t.td t.c t.stk φ :=
      ⟨_, rfl, loop63 h2 hd hφ (n - 1) 1 (by omega) (by omega)⟩
     repeat' (first | exact trivial | exact next | exact hk | exact hin | exact hw | exact hs | exact rfl | refine And.intro ?_ ?_)
    ·have : n = 0 := by simp at h; omega
     subst this
     refine ⟨rfl, hφ⟩
  ·exact h.elim
 ·exact h.elim
end Go.Proofs
namespace Go.Pl
open Go Go.Sx
structure Lb7 where
 op : Sta → Int → Int → Int → Sta
 r : Sta → Int → Int → Int → Int
 g : Sta → Int → Int → Int → Int
 key : Sta → List UInt8
 join : List (List UInt8) → List UInt8 → List UInt8
 at_ : Nat → (Nat → List Sh) → Int → Sta
def roomS (a : Nat) : Bool := roomB (a + 1) 8
end Go.Pl
namespace Go.Proofs
open Go.Sx.Tree
open Go Go.Sx Go.Pl
noncomputable def G33 (L : Lb7) : List Sh → Tree Sh
 | [.agg [s0], t] => match slN 4 s0, icode t with
  | some (n, g), some i => .need (stB n g) (.leaf (.tup [.agg [.i .i64 (L.at_ n g i).kind, .i .i64 (L.at_ n g i).num, .sl 1 (len (L.at_ n g i).q) (fnR (nth (L.at_ n g i).q)), .sl 2 (len (L.at_ n g i).ps) (fnR (nth (L.at_ n g i).ps))], .b (inI n i)]))
  | _, _ => .fail
 | _ => .fail
def G42 (L : Lb7) : List Sh → Tree Sh
 | [.agg [.i .i64 x, .i .i64 y, s2, s3], t, u, v] => match slN 1 s2, slN 2 s3, icode t, icode u, icode v with
  | some (a, h), some (b, l), some op, some k, some v => .need (okB Int a h) (.need (okB Pr b l) (.need (roomS a) (.node (badOp x op) (.leaf (.tup [.agg [.i .i64 0, .i .i64 0, .sl 1 0 noI, .sl 2 0 noP], .i .i64 0, .i .i64 0, .er 1 242])) (.node (badKV x y op k v) (.leaf (.tup [.agg [.i .i64 0, .i .i64 0, .sl 1 0 noI, .sl 2 0 noP], .i .i64 0, .i .i64 0, .er 3 242]))
    (.need (mapOK op b l) (.leaf (.tup [.agg [.i .i64 (L.op (sQ x y a h b l) op k v).kind, .i .i64 (L.op (sQ x y a h b l) op k v).num, .sl 1 (len (L.op (sQ x y a h b l) op k v).q) (fnR (nth (L.op (sQ x y a h b l) op k v).q)), .sl 2 (len (L.op (sQ x y a h b l) op k v).ps) (fnR (nth (L.op (sQ x y a h b l) op k v).ps))], .i .i64 (L.r (sQ x y a h b l) op k v), .i .i64 (L.g (sQ x y a h b l) op k v), .v .nilIface])))))))
  | _, _, _, _, _ => .fail
 | _ => .fail
noncomputable def specE (L : Lb7) : Nat → Option (List Sh → Tree Sh)
 | 33 => some (G33 L)
 | 42 => some (G42 L)
 | 54 => some F54
 | _ => none
theorem a29 (A : Prim) (W : Wd) (L : Lb7) (n : Nat) (d : Nat → Sta) (i op k v : Int) : runTo (C7 A W (specE L) sAl) nH0 300 400 29 [.code []] (start0 52 [.agg [.sl 4 n (fnT d)], .i .i64 i, .i .i64 op, .i .i64 k, .i .i64 v] L0) [] [] = need (stB n (fnT d)) (node (A.nt (inI n i)) (leaf (Fe2.ret (Sh.tup [Sh.agg [Sh.sl 0 0 fun (x : Nat) => []], Sh.i .i64 (Int.ofNat 0), Sh.i .i64 (Int.ofNat 0), Sh.er 0 242]))) (need (okB Int (len (L.at_ n (fnT d) i).q) (fnR (nth (L.at_ n (fnT d) i).q))) (need (okB Pr (len (L.at_ n (fnT d) i).ps) (fnR (nth (L.at_ n (fnT d) i).ps))) (need (roomS (len (L.at_ n (fnT d) i).q)) (node (badOp (L.at_ n (fnT d) i).kind op) (leaf (Fe2.ret (Sh.tup [Sh.agg [Sh.sl 0 0 fun (x : Nat) => []], Sh.i .i64 (Int.ofNat 0), Sh.i .i64 (Int.ofNat 0), Sh.er 1 242]))) (node (badKV (L.at_ n (fnT d) i).kind (L.at_ n (fnT d) i).num op k v) (leaf (Fe2.ret (Sh.tup [Sh.agg [Sh.sl 0 0 fun (x : Nat) => []], Sh.i .i64 (Int.ofNat 0), Sh.i .i64 (Int.ofNat 0), Sh.er 3 242]))) (need (mapOK op (len (L.at_ n (fnT d) i).ps) (fnR (nth (L.at_ n (fnT d) i).ps))) (need (roomB n 64) (need (stB n (fnT d)) (leaf (Fe2.ret (Sh.tup [Sh.agg [Sh.sl 4 n (updG n (fnT d) i [Sh.i .i64 (L.op (sQ (L.at_ n (fnT d) i).kind (L.at_ n (fnT d) i).num (len (L.at_ n (fnT d) i).q) (fnR (nth (L.at_ n (fnT d) i).q)) (len (L.at_ n (fnT d) i).ps) (fnR (nth (L.at_ n (fnT d) i).ps))) op k v).kind, Sh.i .i64 (L.op (sQ (L.at_ n (fnT d) i).kind (L.at_ n (fnT d) i).num (len (L.at_ n (fnT d) i).q) (fnR (nth (L.at_ n (fnT d) i).q)) (len (L.at_ n (fnT d) i).ps) (fnR (nth (L.at_ n (fnT d) i).ps))) op k v).num, Sh.sl 1 (len (L.op (sQ (L.at_ n (fnT d) i).kind (L.at_ n (fnT d) i).num (len (L.at_ n (fnT d) i).q) (fnR (nth (L.at_ n (fnT d) i).q)) (len (L.at_ n (fnT d) i).ps) (fnR (nth (L.at_ n (fnT d) i).ps))) op k v).q) (fnR (nth (L.op (sQ (L.at_ n (fnT d) i).kind (L.at_ n (fnT d) i).num (len (L.at_ n (fnT d) i).q) (fnR (nth (L.at_ n (fnT d) i).q)) (len (L.at_ n (fnT d) i).ps) (fnR (nth (L.at_ n (fnT d) i).ps))) op k v).q)), Sh.sl 2 (len (L.op (sQ (L.at_ n (fnT d) i).kind (L.at_ n (fnT d) i).num (len (L.at_ n (fnT d) i).q) (fnR (nth (L.at_ n (fnT d) i).q)) (len (L.at_ n (fnT d) i).ps) (fnR (nth (L.at_ n (fnT d) i).ps))) op k v).ps) (fnR (nth (L.op (sQ (L.at_ n (fnT d) i).kind (L.at_ n (fnT d) i).num (len (L.at_ n (fnT d) i).q) (fnR (nth (L.at_ n (fnT d) i).q)) (len (L.at_ n (fnT d) i).ps) (fnR (nth (L.at_ n (fnT d) i).ps))) op k v).ps))])], Sh.i .i64 (L.r (sQ (L.at_ n (fnT d) i).kind (L.at_ n (fnT d) i).num (len (L.at_ n (fnT d) i).q) (fnR (nth (L.at_ n (fnT d) i).q)) (len (L.at_ n (fnT d) i).ps) (fnR (nth (L.at_ n (fnT d) i).ps))) op k v), Sh.i .i64 (L.g (sQ (L.at_ n (fnT d) i).kind (L.at_ n (fnT d) i).num (len (L.at_ n (fnT d) i).q) (fnR (nth (L.at_ n (fnT d) i).q)) (len (L.at_ n (fnT d) i).ps) (fnR (nth (L.at_ n (fnT d) i).ps))) op k v), Sh.v Value.nilIface])))))))))))) := by kernel_rfl
end Go.Proofs
namespace Go.Pl
open Go Go.Sx Go.Proofs
noncomputable def L7 : Lb7 where
 op s o k v := (opT s o k v).1
 r s o k v := (opT s o k v).2.1
 g s o k v := (opT s o k v).2.2
 key := keyS
 join := joinS
 at_ n g i := atT n (stF n g) i
end Go.Pl
namespace Go.Proofs
open Go Go.Sx Go.Pl
theorem O33g : FnOK Tryz.prog (gls7 W7) 33 (G33 L7) := O33
theorem O42g : FnOK Tryz.prog (gls7 W7) 42 (G42 L7) := O42
theorem OEs : ∀ g F, specE L7 g = some F → FnOK Tryz.prog (gls7 W7) g F := fun g F h => by
 unfold specE at h
 split at h
 ·cases h; exact O33g
 ·cases h; exact O42g
 ·cases h; exact O54
 ·cases h
theorem fokE (stop : Nat → List Nat → Bool) : FnsOK Tryz.prog (C7 prim W7 (specE L7) stop) := C7.fok OEs fun g h => by
 unfold specE at h
 split at h
 all_goals first | (cases h; done) | kernel_rfl
noncomputable def F29 : List Sh → Tree Sh
 | [.agg [s0], t, u, v, w] => match slN 4 s0, icode t, icode u, icode v, icode w with
  | some (n, g), some i, some op, some k, some v => .need (stB n g) (.need (roomB n 64) (.node (inI n i) (.need (roomS (stF n g i.toNat).q.length) (.node (badOp (stF n g i.toNat).kind op) (.leaf (.tup [.agg [.sl 4 0 noT], .i .i64 0, .i .i64 0, .er 1 242])) (.node (badKV (stF n g i.toNat).kind (stF n g i.toNat).num op k v) (.leaf (.tup [.agg [.sl 4 0 noT], .i .i64 0, .i .i64 0, .er 3 242]))
    (.need (mapOK op (len (stF n g i.toNat).ps) (fnR (nth (stF n g i.toNat).ps))) (.leaf (.tup [.agg [.sl 4 n (updG n g i (staS (opT (stF n g i.toNat) op k v).1))], .i .i64 (opT (stF n g i.toNat) op k v).2.1, .i .i64 (opT (stF n g i.toNat) op k v).2.2, .v .nilIface]))))))
   (.leaf (.tup [.agg [.sl 4 0 noT], .i .i64 0, .i .i64 0, .er 0 242]))))
  | _, _, _, _, _ => .fail
 | _ => .fail
theorem O29 : FnOK Tryz.prog (gls7 W7) 29 F29 := by
 refine fnOK_Ru (C := C7 prim W7 (specE L7) sAl) (C7.ok _ _) (fokE _) (m := 300) (n := 400) (L := L0) (fn := Tryz.f29) (by kernel_rfl) (by kernel_rfl) fun H w shs args φ hrep h => ?_
 have hn : Tryz.f29.ntmps = 52 := by kernel_rfl
 unfold F29 at h
 split at h
 ·rename_i s0 t u v ww
  split at h
  ·rename_i n g i op k vv hs ht hu hv hw
   obtain ⟨h1, h2, hin, hout⟩ := h
   have hout : inI n i = false → φ (.tup [.agg [.sl 4 0 noT], .i .i64 0, .i .i64 0, .er 0 242]) := hout
   match args, hrep with
   | [v0, v1, v2, v3, v4], ⟨r0, r1, r2, r3, r4, _⟩ =>
    refine ⟨[.agg [.sl 4 n (fnT (stF n g))], .i .i64 i, .i .i64 op, .i .i64 k, .i .i64 vv], ⟨rep_agg1 r0 fun u hu => rep_sl_congr (rep_slN hs hu) (stB_at h1), icK ht r1, icK hu r2, icK hv r3, icK hw r4, trivial⟩, ?_⟩
    have hrow := stB_at h1
    have her (T : Nat) (g0 : Nat) (hp : φ (.tup [.agg [.sl 4 0 noT], .i .i64 0, .i .i64 0, .er g0 242])) : up φ (.tup [.agg [.sl 0 0 fun _ => []], .i .i64 (Int.ofNat 0), .i .i64 (Int.ofNat 0), .er g0 242]) :=
     up_mk (s' := .tup [.agg [.sl 4 0 noT], .i .i64 0, .i .i64 0, .er g0 242]) ⟨⟨.inl ⟨rfl, rfl⟩, trivial⟩, rfl, rfl, rfl, trivial⟩ hp
    rw [hn, a29 prim W7 L7 n (stF n g) i op k vv]
    have e1 : L7.at_ n (fnT (stF n g)) i = atT n (stF n (fnT (stF n g))) i := rfl
    rw [e1]
    refine ⟨stB_fnT n _, fun e => her 0 0 (hout (by simpa [prim_nt] using e)), fun e => ?_⟩
    have e : inI n i = true := by simpa [prim_nt] using e
    obtain ⟨q1, q3, q4⟩ := hin e
    have hlt : i.toNat < n := by simp [inI] at e; omega
    have e2 : atT n (stF n (fnT (stF n g))) i = stF n g i.toNat := by simp [atT, e, stF_fnT i.toNat hlt]
    rw [e2, sQ_eq]
    have q4 : badOp (stF n g i.toNat).kind op = false → (badKV (stF n g i.toNat).kind (stF n g i.toNat).num op k vv = true → φ (.tup [.agg [.sl 4 0 noT], .i .i64 0, .i .i64 0, .er 3 242])) ∧ (badKV (stF n g i.toNat).kind (stF n g i.toNat).num op k vv = false → mapOK op (len (stF n g i.toNat).ps) (fnR (nth (stF n g i.toNat).ps)) = true ∧ φ (.tup [.agg [.sl 4 n (updG n g i (staS (opT (stF n g i.toNat) op k vv).1))], .i .i64 (opT (stF n g i.toNat) op k vv).2.1, .i .i64 (opT (stF n g i.toNat) op k vv).2.2, .v .nilIface])) := q4
    refine ⟨okB_put _ _, okB_put _ _, q1, fun e => her 0 1 (q3 e), fun e => ⟨fun e' => her 0 3 ((q4 e).1 e'), fun e' => ⟨((q4 e).2 e').1, h2, stB_fnT n _, up_mk (s' := .tup [.agg [.sl 4 n (updG n g i (staS (opT (stF n g i.toNat) op k vv).1))], .i .i64 (opT (stF n g i.toNat) op k vv).2.1, .i .i64 (opT (stF n g i.toNat) op k vv).2.2, .v .nilIface]) ⟨⟨.inr ⟨rfl, rfl, fun j hj => ?_⟩, trivial⟩, rfl, rfl, rfl, trivial⟩ ((q4 e).2 e').2⟩⟩⟩
    unfold updG
    split
    ·rfl
    ·exact (hrow j hj).symm
  ·exact h.elim
 ·exact h.elim
end Go.Proofs
namespace Go.Proofs
open Go.Sx.Tree
open Go Go.Sx Go.Pl
def td71 : List It := [It.code [0, 1, 0, 1, 1], It.inBlock 0, It.code [1, 1, 1]]
def tb71 : List It := It.code [0, 0, 1, 0, 1, 1] :: td71
def LO71 (n m : Nat) (o p : Nat → Int) (i : Int) : Core := { tm := tmOf 26 [(0, .sh (.sl 1 n (fnR o))), (1, .sh (.sl 1 m (fnR p))), (12, .sym .i64 (n : Int)), (13, .sym .i64 i)], hp := [], nx := 0, lim := L0, tc := [] }
def LO72 (n m : Nat) (o p : Nat → Pr) (i : Int) : Core := { tm := tmOf 26 [(0, .sh (.sl 2 n (fnR o))), (1, .sh (.sl 2 m (fnR p))), (12, .sym .i64 (n : Int)), (13, .sym .i64 i)], hp := [], nx := 0, lim := L0, tc := [] }
theorem a71 (A : Prim) (W : Wd) (n m : Nat) (o p : Nat → Int) (i' : Int) : runTo (C7 A W noSpec sAl) nH0 300 400 71 [.code []] (start0 26 [.sl 1 n (fnR o), .sl 1 m (fnR p)] L0) [] [⟨71, td71, LO71 n m o p i', []⟩] = node (A.nt (A.eq (A.ofN n) (A.ofN m))) (leaf (Fe2.ret (Sh.b false))) (leaf (Fe2.at_ 0 [Eqn.sh (Sh.sl 1 n (fnR o)) (Sh.sl 1 n (fnR o)), Eqn.sh (Sh.sl 1 m (fnR p)) (Sh.sl 1 m (fnR p)), Eqn.int (A.ofN n) (Int.ofNat n), Eqn.int (Int.ofNat 0) i'])) := by kernel_rfl
theorem b71 (A : Prim) (W : Wd) (n m : Nat) (o p : Nat → Int) (i i' : Int) : runTo (C7 A W noSpec sAl) nH0 300 400 71 tb71 (LO71 n m o p i) [] [⟨71, td71, LO71 n m o p i', []⟩] = node (A.lt i (Int.ofNat n)) (need (A.inB i n) (need (A.inB i m) (node (A.nt (A.eq (o (A.toN i)) (p (A.toN i)))) (leaf (Fe2.ret (Sh.b false))) (leaf (Fe2.at_ 0 [Eqn.sh (Sh.sl 1 n (fnR o)) (Sh.sl 1 n (fnR o)), Eqn.sh (Sh.sl 1 m (fnR p)) (Sh.sl 1 m (fnR p)), Eqn.int (Int.ofNat n) (Int.ofNat n), Eqn.int (A.add .i64 i (Int.ofNat 1)) i']))))) (leaf (Fe2.ret (Sh.b true))) := by kernel_rfl
theorem a72 (A : Prim) (W : Wd) (n m : Nat) (o p : Nat → Pr) (i' : Int) : runTo (C7 A W noSpec sAl) nH0 300 400 72 [.code []] (start0 26 [.sl 2 n (fnR o), .sl 2 m (fnR p)] L0) [] [⟨72, td71, LO72 n m o p i', []⟩] = node (A.nt (A.eq (A.ofN n) (A.ofN m))) (leaf (Fe2.ret (Sh.b false))) (leaf (Fe2.at_ 0 [Eqn.sh (Sh.sl 2 n (fnR o)) (Sh.sl 2 n (fnR o)), Eqn.sh (Sh.sl 2 m (fnR p)) (Sh.sl 2 m (fnR p)), Eqn.int (A.ofN n) (Int.ofNat n), Eqn.int (Int.ofNat 0) i'])) := by kernel_rfl
theorem b72 (A : Prim) (W : Wd) (n m : Nat) (o p : Nat → Pr) (i i' : Int) : runTo (C7 A W noSpec sAl) nH0 300 400 72 tb71 (LO72 n m o p i) [] [⟨72, td71, LO72 n m o p i', []⟩] = node (A.lt i (Int.ofNat n)) (need (A.inB i n) (need (A.inB i m) (node (A.nt (A.ite (A.eq (o (A.toN i)).key (p (A.toN i)).key) (A.ite (A.eq (o (A.toN i)).val (p (A.toN i)).val) true false) false)) (leaf (Fe2.ret (Sh.b false))) (leaf (Fe2.at_ 0 [Eqn.sh (Sh.sl 2 n (fnR o)) (Sh.sl 2 n (fnR o)), Eqn.sh (Sh.sl 2 m (fnR p)) (Sh.sl 2 m (fnR p)), Eqn.int (Int.ofNat n) (Int.ofNat n), Eqn.int (A.add .i64 i (Int.ofNat 1)) i']))))) (leaf (Fe2.ret (Sh.b true))) := by kernel_rfl
end Go.Proofs
namespace Go.Proofs
open Go Go.Sx Go.Pl
def F71 : List Sh → Tree Sh
 | [s0, s1] => match slN 1 s0, slN 1 s1 with
  | some (n, g), some (m, h) => .need (okB Int n g) (.need (okB Int m h) (.leaf (.b (sameL (lst Int n g) (lst Int m h)))))
  | _, _ => .fail
 | _ => .fail
theorem loop71 {H0 : Mem} {w0 : World} {n : Nat} {o p : Nat → Int} {φ : Sh → Prop} (hn : n ≤ maxLen) (hT : (∀ j, j < n → o j = p j) → φ (.b true)) (hF : (¬ ∀ j, j < n → o j = p j) → φ (.b false)) :
  ∀ m k, k + m = n → (∀ j, j < k → o j = p j) → GoesS Tryz.prog (C7 prim W7 noSpec sAl) (K0 H0 w0) 71 td71 (LO71 n n o p k) [] emp φ
 | m, k, hk, hE => by
  rw [maxLen_eq] at hn
  refine gSi (fn := Tryz.f71) (tb := tb71) (by kernel_rfl) (by kernel_rfl) ?_
  refine gSr (C7.ok _ _) (fok0 _) (hold := nH0) (m := 300) (n := 400) (ts := [⟨71, td71, LO71 n n o p (k + 1 : Nat), []⟩]) ?_
  rw [b71 prim W7 n n o p k (k + 1 : Nat)]
  have bad : k < n → o k ≠ p k → φ (.b false) := fun h1 h2 => hF fun e => h2 (e k h1)
  have good : k < n → o k = p k → GoesS Tryz.prog (C7 prim W7 noSpec sAl) (K0 H0 w0) 71 td71 (LO71 n n o p (k + 1 : Nat)) [] emp φ := fun h1 h2 => by
   match m, hk with
   | 0, hk => omega
   | m + 1, hk =>
    refine loop71 (by rw [maxLen_eq]; exact hn) hT hF m (k + 1) (by omega) fun j hj => ?_
    by_cases e : j = k
    ·subst e; exact h2
    ·exact hE j (by omega)
  refine ⟨fun h => ?_, fun h => ?_⟩
  ·have hlt : k < n := by simp [prim_lt] at h; omega
   refine ⟨by simp [prim_inB]; omega, by simp [prim_inB]; omega, fun hne => bad hlt fun e => ?_, fun heq => ⟨⟨rfl, rfl, rfl, ?_, trivial⟩, _, rfl, good hlt ?_⟩⟩
   ·have e' : o (prim.toN (k : Int)) = p (prim.toN (k : Int)) := e
    rw [e'] at hne
    simp [prim_nt, prim_eq, prim_ite] at hne
   ·simp only [Eqn.ok, prim_add, one_eq]
    rw [wrap_id (by omega) (by omega)]; rfl
   ·have e1 : prim.toN (k : Int) = k := rfl
    rw [e1] at heq
    simpa [prim_nt, prim_eq] using heq
  ·have : k = n := by simp [prim_lt] at h; omega
   subst this
   exact hT hE
theorem O71 : FnOK Tryz.prog (gls7 W7) 71 F71 := by
 refine fnOK_S (C := C7 prim W7 noSpec sAl) (C7.ok _ _) (fn := Tryz.f71) (by kernel_rfl) (by kernel_rfl) fun H w shs args φ hrep h => ?_
 unfold F71 at h
 split at h
 ·rename_i s0 s1
  split at h
  ·rename_i n g m h' hs0 hs1
   obtain ⟨h1, h2, h3⟩ := h
   match args, hrep with
   | [v, u], ⟨hv, hu, _⟩ =>
    refine ⟨[.sl 1 n (fnR (rwAt (α := Int) g)), .sl 1 m (fnR (rwAt (α := Int) h'))], ⟨rep_rows (rep_slN hs0 hv) h1, rep_rows (rep_slN hs1 hu) h2, trivial⟩, L0, ?_⟩
    have hmax := rep_len (rep_slN hs0 hv)
    refine gSr (C7.ok _ _) (fok0 _) (hold := nH0) (m := 300) (n := 400) (ts := [⟨71, td71, LO71 n m (rwAt g) (rwAt h') (0 : Nat), []⟩]) ?_
    have hn : Tryz.f71.ntmps = 26 := by kernel_rfl
    rw [hn, a71 prim W7 n m (rwAt g) (rwAt h') (0 : Nat)]
    have h3 : φ (.b (sameL (lst Int n g) (lst Int m h'))) := h3
    refine ⟨fun h => ?_, fun h => ⟨⟨rfl, rfl, rfl, rfl, trivial⟩, _, rfl, ?_⟩⟩
    ·have hne : n ≠ m := by simp [prim_nt, prim_eq, prim_ofN] at h; exact fun e => h (by rw [e])
     rwa [sameL_false fun e => hne (by have := congrArg List.length e; simpa using this)] at h3
    ·have : n = m := by simp [prim_nt, prim_eq, prim_ofN] at h; omega
     subst this
     refine loop71 hmax (fun hE => ?_) (fun hE => ?_) n 0 (by omega) fun j hj => by omega
     ·rwa [sameL_true (lst_ext hE)] at h3
     ·rwa [sameL_false fun e => hE (lst_ext' e)] at h3
  ·exact h.elim
 ·exact h.elim
def F72 : List Sh → Tree Sh
 | [s0, s1] => match slN 2 s0, slN 2 s1 with
  | some (n, g), some (m, h) => .need (okB Pr n g) (.need (okB Pr m h) (.leaf (.b (sameL (lst Pr n g) (lst Pr m h)))))
  | _, _ => .fail
 | _ => .fail
theorem loop72 {H0 : Mem} {w0 : World} {n : Nat} {o p : Nat → Pr} {φ : Sh → Prop} (hn : n ≤ maxLen) (hT : (∀ j, j < n → o j = p j) → φ (.b true)) (hF : (¬ ∀ j, j < n → o j = p j) → φ (.b false)) :
  ∀ m k, k + m = n → (∀ j, j < k → o j = p j) → GoesS Tryz.prog (C7 prim W7 noSpec sAl) (K0 H0 w0) 72 td71 (LO72 n n o p k) [] emp φ
 | m, k, hk, hE => by
  rw [maxLen_eq] at hn
  refine gSi (fn := Tryz.f72) (tb := tb71) (by kernel_rfl) (by kernel_rfl) ?_
  refine gSr (C7.ok _ _) (fok0 _) (hold := nH0) (m := 300) (n := 400) (ts := [⟨72, td71, LO72 n n o p (k + 1 : Nat), []⟩]) ?_
  rw [b72 prim W7 n n o p k (k + 1 : Nat)]
  have bad : k < n → o k ≠ p k → φ (.b false) := fun h1 h2 => hF fun e => h2 (e k h1)
  have good : k < n → o k = p k → GoesS Tryz.prog (C7 prim W7 noSpec sAl) (K0 H0 w0) 72 td71 (LO72 n n o p (k + 1 : Nat)) [] emp φ := fun h1 h2 => by
   match m, hk with
   | 0, hk => omega
   | m + 1, hk =>
    refine loop72 (by rw [maxLen_eq]; exact hn) hT hF m (k + 1) (by omega) fun j hj => ?_
    by_cases e : j = k
    ·subst e; exact h2
    ·exact hE j (by omega)
  refine ⟨fun h => ?_, fun h => ?_⟩
  ·have hlt : k < n := by simp [prim_lt] at h; omega
   refine ⟨by simp [prim_inB]; omega, by simp [prim_inB]; omega, fun hne => bad hlt fun e => ?_, fun heq => ⟨⟨rfl, rfl, rfl, ?_, trivial⟩, _, rfl, good hlt ?_⟩⟩
   ·have e' : o (prim.toN (k : Int)) = p (prim.toN (k : Int)) := e
    rw [e'] at hne
    simp [prim_nt, prim_eq, prim_ite] at hne
   ·simp only [Eqn.ok, prim_add, one_eq]
    rw [wrap_id (by omega) (by omega)]; rfl
   ·have e1 : prim.toN (k : Int) = k := rfl
    rw [e1] at heq
    cases ho : o k with
    | mk a b => cases hp : p k with
     | mk c d =>
      rw [ho, hp] at heq
      simp [prim_nt, prim_eq, prim_ite] at heq
      obtain ⟨rfl, rfl⟩ := heq
      rfl
  ·have : k = n := by simp [prim_lt] at h; omega
   subst this
   exact hT hE
theorem O72 : FnOK Tryz.prog (gls7 W7) 72 F72 := by
 refine fnOK_S (C := C7 prim W7 noSpec sAl) (C7.ok _ _) (fn := Tryz.f72) (by kernel_rfl) (by kernel_rfl) fun H w shs args φ hrep h => ?_
 unfold F72 at h
 split at h
 ·rename_i s0 s1
  split at h
  ·rename_i n g m h' hs0 hs1
   obtain ⟨h1, h2, h3⟩ := h
   match args, hrep with
   | [v, u], ⟨hv, hu, _⟩ =>
    refine ⟨[.sl 2 n (fnR (rwAt (α := Pr) g)), .sl 2 m (fnR (rwAt (α := Pr) h'))], ⟨rep_rows (rep_slN hs0 hv) h1, rep_rows (rep_slN hs1 hu) h2, trivial⟩, L0, ?_⟩
    have hmax := rep_len (rep_slN hs0 hv)
    refine gSr (C7.ok _ _) (fok0 _) (hold := nH0) (m := 300) (n := 400) (ts := [⟨72, td71, LO72 n m (rwAt g) (rwAt h') (0 : Nat), []⟩]) ?_
    have hn : Tryz.f72.ntmps = 26 := by kernel_rfl
    rw [hn, a72 prim W7 n m (rwAt g) (rwAt h') (0 : Nat)]
    have h3 : φ (.b (sameL (lst Pr n g) (lst Pr m h'))) := h3
    refine ⟨fun h => ?_, fun h => ⟨⟨rfl, rfl, rfl, rfl, trivial⟩, _, rfl, ?_⟩⟩
    ·have hne : n ≠ m := by simp [prim_nt, prim_eq, prim_ofN] at h; exact fun e => h (by rw [e])
     rwa [sameL_false fun e => hne (by have := congrArg List.length e; simpa using this)] at h3
    ·have : n = m := by simp [prim_nt, prim_eq, prim_ofN] at h; omega
     subst this
     refine loop72 hmax (fun hE => ?_) (fun hE => ?_) n 0 (by omega) fun j hj => by omega
     ·rwa [sameL_true (lst_ext hE)] at h3
     ·rwa [sameL_false fun e => hE (lst_ext' e)] at h3
  ·exact h.elim
 ·exact h.elim
end Go.Proofs
namespace Go.Pl
open Go Go.Sx
def eqI (n : Nat) (g : Nat → List Sh) (m : Nat) (h : Nat → List Sh) : Bool := sameL (lst Int n g) (lst Int m h)
def eqP (n : Nat) (g : Nat → List Sh) (m : Nat) (h : Nat → List Sh) : Bool := sameL (lst Pr n g) (lst Pr m h)
def eqT (s t : Sta) : Bool := decide (s = t)
end Go.Pl
namespace Go.Proofs
open Go.Sx.Tree
open Go Go.Sx Go.Pl
def G71 : List Sh → Tree Sh
 | [.sl 1 n g, .sl 1 m h] => .need (okB Int n g) (.need (okB Int m h) (.leaf (.b (eqI n g m h))))
 | _ => .fail
def G72 : List Sh → Tree Sh
 | [.sl 2 n g, .sl 2 m h] => .need (okB Pr n g) (.need (okB Pr m h) (.leaf (.b (eqP n g m h))))
 | _ => .fail
def spec45 : Nat → Option (List Sh → Tree Sh)
 | 71 => some G71
 | 72 => some G72
 | _ => none
def F45 : List Sh → Tree Sh
 | [.agg [.i .i64 x, .i .i64 y, s2, s3], .agg [.i .i64 x', .i .i64 y', t2, t3]] => match slN 1 s2, slN 2 s3, slN 1 t2, slN 2 t3 with
  | some (a, h), some (b, l), some (a', h'), some (b', l') => .need (okB Int a h) (.need (okB Pr b l) (.need (okB Int a' h') (.need (okB Pr b' l') (.leaf (.b (eqT ⟨x, y, lst Int a h, lst Pr b l⟩ ⟨x', y', lst Int a' h', lst Pr b' l'⟩))))))
  | _, _, _, _ => .fail
 | _ => .fail
structure Ld7 where
 at_ : Nat → (Nat → List Sh) → Int → Sta
 same : Sta → Sta → Bool
noncomputable def H33 (L : Ld7) : List Sh → Tree Sh
 | [.agg [.sl 4 n g], .i .i64 i] => .need (stB n g) (.leaf (.tup [.agg [.i .i64 (L.at_ n g i).kind, .i .i64 (L.at_ n g i).num, .sl 1 (len (L.at_ n g i).q) (fnR (nth (L.at_ n g i).q)), .sl 2 (len (L.at_ n g i).ps) (fnR (nth (L.at_ n g i).ps))], .b (inI n i)]))
 | _ => .fail
def H45 (L : Ld7) : List Sh → Tree Sh
 | [.agg [.i .i64 x, .i .i64 y, .sl 1 a h, .sl 2 b l], .agg [.i .i64 x', .i .i64 y', .sl 1 a' h', .sl 2 b' l']] => .need (okB Int a h) (.need (okB Pr b l) (.need (okB Int a' h') (.need (okB Pr b' l') (.leaf (.b (L.same (sQ x y a h b l) (sQ x' y' a' h' b' l')))))))
 | _ => .fail
noncomputable def spec27 (L : Ld7) : Nat → Option (List Sh → Tree Sh)
 | 33 => some (H33 L)
 | 45 => some (H45 L)
 | _ => none
def td27 : List It := [It.code [0, 1, 0, 1, 1], It.inBlock 0, It.code [1, 1, 1]]
def tb27 : List It := It.code [0, 0, 1, 0, 1, 1] :: td27
def LO27 (n m : Nat) (d e : Nat → Sta) (mx k : Int) (c : Nat) (gg : Nat → List Sh) : Core := { tm := tmOf 46 [(2, .ptr 0 0), (3, .ptr 1 0), (5, .gs 2), (15, .sym .i64 mx), (16, .sym .i64 k)], hp := [(0, .box [.sh (.sl 4 n (fnT d))] 47), (1, .box [.sh (.sl 4 m (fnT e))] 47), (2, .own 3 1 c gg)], nx := 3, lim := L0, tc := [] }
theorem a45 (A : Prim) (W : Wd) (x y : Int) (a b : Nat) (h l : Nat → List Sh) (x' y' : Int) (a' b' : Nat) (h' l' : Nat → List Sh) : runTo (C7 A W spec45 sAl) nH0 300 400 45 [.code []] (start0 31 [.agg [.i .i64 x, .i .i64 y, .sl 1 a h, .sl 2 b l], .agg [.i .i64 x', .i .i64 y', .sl 1 a' h', .sl 2 b' l']] L0) [] [] = node (A.eq x x') (node (A.eq y y') (need (okB Int a h) (need (okB Int a' h') (node (eqI a h a' h') (need (okB Pr b l) (need (okB Pr b' l') (leaf (Fe2.ret (Sh.b (eqP b l b' l')))))) (leaf (Fe2.ret (Sh.b false)))))) (leaf (Fe2.ret (Sh.b false)))) (leaf (Fe2.ret (Sh.b false))) := by kernel_rfl
theorem a27 (A : Prim) (W : Wd) (L : Ld7) (n m : Nat) (d e : Nat → Sta) (mx k' : Int) (c' : Nat) (gg' : Nat → List Sh) : runTo (C7 A W (spec27 L) sAl) nH0 300 400 27 [.code []] (start0 46 [.agg [.sl 4 n (fnT d)], .agg [.sl 4 m (fnT e)]] L0) [] [⟨27, td27, LO27 n m d e mx k' c' gg', []⟩] = leaf (Fe2.at_ 0 [Eqn.int (A.max (A.ofN n) (A.ofN m)) mx, Eqn.int (Int.ofNat 0) k', Eqn.sh (Sh.sl 4 n (fnT d)) (Sh.sl 4 n (fnT d)), Eqn.sh (Sh.sl 4 m (fnT e)) (Sh.sl 4 m (fnT e)), Eqn.nat c' 0]) := by kernel_rfl
theorem b27 (A : Prim) (W : Wd) (L : Ld7) (n m : Nat) (d e : Nat → Sta) (mx k k' : Int) (c c' : Nat) (gg gg' : Nat → List Sh) : runTo (C7 A W (spec27 L) sAl) nH0 300 400 27 tb27 (LO27 n m d e mx k c gg) [] [⟨27, td27, LO27 n m d e mx k' c' gg', []⟩] = node (A.lt k mx) (need (stB n (fnT d)) (need (stB m (fnT e)) (node (A.nt (A.beq (inI n k) (inI m k))) (need (A.room (A.addN c 1) 8) (leaf (Fe2.at_ 0 [Eqn.int mx mx, Eqn.int (A.add .i64 k (Int.ofNat 1)) k', Eqn.sh (Sh.sl 4 n (fnT d)) (Sh.sl 4 n (fnT d)), Eqn.sh (Sh.sl 4 m (fnT e)) (Sh.sl 4 m (fnT e)), Eqn.nat (A.addN c 1) c', Eqn.get (A.addN c 1) (A.snoc gg c (nthL [[Sh.i .i64 k]])) gg']))) (need (okB Int (len (L.at_ n (fnT d) k).q) (fnR (nth (L.at_ n (fnT d) k).q))) (need (okB Pr (len (L.at_ n (fnT d) k).ps) (fnR (nth (L.at_ n (fnT d) k).ps))) (need (okB Int (len (L.at_ m (fnT e) k).q) (fnR (nth (L.at_ m (fnT e) k).q))) (need (okB Pr (len (L.at_ m (fnT e) k).ps) (fnR (nth (L.at_ m (fnT e) k).ps))) (node (A.nt (L.same (sQ (L.at_ n (fnT d) k).kind (L.at_ n (fnT d) k).num (len (L.at_ n (fnT d) k).q) (fnR (nth (L.at_ n (fnT d) k).q)) (len (L.at_ n (fnT d) k).ps) (fnR (nth (L.at_ n (fnT d) k).ps))) (sQ (L.at_ m (fnT e) k).kind (L.at_ m (fnT e) k).num (len (L.at_ m (fnT e) k).q) (fnR (nth (L.at_ m (fnT e) k).q)) (len (L.at_ m (fnT e) k).ps) (fnR (nth (L.at_ m (fnT e) k).ps))))) (need (A.room (A.addN c 1) 8) (leaf (Fe2.at_ 0 [Eqn.int mx mx, Eqn.int (A.add .i64 k (Int.ofNat 1)) k', Eqn.sh (Sh.sl 4 n (fnT d)) (Sh.sl 4 n (fnT d)), Eqn.sh (Sh.sl 4 m (fnT e)) (Sh.sl 4 m (fnT e)), Eqn.nat (A.addN c 1) c', Eqn.get (A.addN c 1) (A.snoc gg c (nthL [[Sh.i .i64 k]])) gg']))) (leaf (Fe2.at_ 0 [Eqn.int mx mx, Eqn.int (A.add .i64 k (Int.ofNat 1)) k', Eqn.sh (Sh.sl 4 n (fnT d)) (Sh.sl 4 n (fnT d)), Eqn.sh (Sh.sl 4 m (fnT e)) (Sh.sl 4 m (fnT e)), Eqn.nat c c', Eqn.get c gg gg'])))))))))) (leaf (Fe2.ret (Sh.os 3 1 c gg))) := by kernel_rfl
end Go.Proofs
namespace Go.Pl
open Go Go.Sx Go.Proofs
def unT (n : Nat) (d : Nat → Sta) (m : Nat) (e : Nat → Sta) (k : Nat) : Bool := !((inI n k == inI m k) && decide (atT n d k = atT m e k))
def diffN (n : Nat) (d : Nat → Sta) (m : Nat) (e : Nat → Sta) (k : Nat) : List Int := ((List.range k).filter (unT n d m e)).map Int.ofNat
def diffL (n : Nat) (d : Nat → Sta) (m : Nat) (e : Nat → Sta) : List Int := diffN n d m e (max n m)
noncomputable def LD : Ld7 where
 at_ n g i := atT n (stF n g) i
 same s t := eqT s t
theorem diffN_succ {n m : Nat} {d e : Nat → Sta} {k : Nat} : diffN n d m e (k + 1) = if unT n d m e k = true then diffN n d m e k ++ [(k : Int)] else diffN n d m e k := by
 unfold diffN
 rw [List.range_succ, List.filter_append, List.map_append]
 split
 ·rename_i h; simp [h]
 ·rename_i h; simp [h]
theorem diffN_len (n : Nat) (d : Nat → Sta) (m : Nat) (e : Nat → Sta) (k : Nat) : (diffN n d m e k).length ≤ k := by
 unfold diffN
 rw [List.length_map]
 have := List.length_filter_le (unT n d m e) (List.range k)
 simpa using this
end Go.Pl
namespace Go.Proofs
open Go Go.Sx Go.Pl
theorem O71g : FnOK Tryz.prog (gls7 W7) 71 G71 := O71.mono fun H shs args φ hr h => by
 unfold G71 at h
 split at h
 ·rename_i n g m g'
  have h1 : slN 1 (.sl 1 n g) = some (n, g) := rfl
  have h2 : slN 1 (.sl 1 m g') = some (m, g') := rfl
  simp only [F71, h1, h2]
  exact h
 ·exact h.elim
theorem O72g : FnOK Tryz.prog (gls7 W7) 72 G72 := O72.mono fun H shs args φ hr h => by
 unfold G72 at h
 split at h
 ·rename_i n g m g'
  have h1 : slN 2 (.sl 2 n g) = some (n, g) := rfl
  have h2 : slN 2 (.sl 2 m g') = some (m, g') := rfl
  simp only [F72, h1, h2]
  exact h
 ·exact h.elim
theorem O45s : ∀ g F, spec45 g = some F → FnOK Tryz.prog (gls7 W7) g F := fun g F h => by
 unfold spec45 at h
 split at h
 ·cases h; exact O71g
 ·cases h; exact O72g
 ·cases h
theorem fok45 (stop : Nat → List Nat → Bool) : FnsOK Tryz.prog (C7 prim W7 spec45 stop) := C7.fok O45s fun g h => by
 unfold spec45 at h
 split at h
 all_goals first | (cases h; done) | kernel_rfl
theorem O45 : FnOK Tryz.prog (gls7 W7) 45 F45 := by
 refine fnOK_Ru (C := C7 prim W7 spec45 sAl) (C7.ok _ _) (fok45 _) (m := 300) (n := 400) (L := L0) (fn := Tryz.f45) (by kernel_rfl) (by kernel_rfl) fun H w shs args φ hrep h => ?_
 have hn : Tryz.f45.ntmps = 31 := by kernel_rfl
 unfold F45 at h
 split at h
 ·rename_i x y s2 s3 x' y' t2 t3
  split at h
  ·rename_i a hh b l a' h' b' l' e2 e3 e4 e5
   obtain ⟨h1, h2, h3, h4, hφ⟩ := h
   match args, hrep with
   | [v, u], ⟨hv, hu, _⟩ =>
    refine ⟨[.agg [.i .i64 x, .i .i64 y, .sl 1 a hh, .sl 2 b l], .agg [.i .i64 x', .i .i64 y', .sl 1 a' h', .sl 2 b' l']], ⟨rep_agg4 hv (fun _ r => rep_slN e2 r) (fun _ r => rep_slN e3 r), rep_agg4 hu (fun _ r => rep_slN e4 r) (fun _ r => rep_slN e5 r), trivial⟩, ?_⟩
    rw [hn, a45 prim W7 x y a b hh l x' y' a' b' h' l']
    have hφ : φ (.b (eqT ⟨x, y, lst Int a hh, lst Pr b l⟩ ⟨x', y', lst Int a' h', lst Pr b' l'⟩)) := hφ
    have no (hne : (⟨x, y, lst Int a hh, lst Pr b l⟩ : Sta) ≠ ⟨x', y', lst Int a' h', lst Pr b' l'⟩) : up φ (.b false) := by
     have : eqT ⟨x, y, lst Int a hh, lst Pr b l⟩ ⟨x', y', lst Int a' h', lst Pr b' l'⟩ = false := decide_eq_false hne
     rw [this] at hφ
     exact up_mk (s' := .b false) (.inl rfl) hφ
    refine ⟨fun k1 => ⟨fun k2 => ⟨h1, h3, fun k3 => ⟨h2, h4, ?_⟩, fun k3 => no fun e => ?_⟩, fun k2 => no fun e => ?_⟩, fun k1 => no fun e => ?_⟩
    ·have q1 : x = x' := by simpa [prim_eq] using k1
     have q2 : y = y' := by simpa [prim_eq] using k2
     have q3 : lst Int a hh = lst Int a' h' := of_decide_eq_true k3
     have : eqP b l b' l' = eqT ⟨x, y, lst Int a hh, lst Pr b l⟩ ⟨x', y', lst Int a' h', lst Pr b' l'⟩ := by
      unfold eqP eqT sameL
      rw [q1, q2, q3]
      by_cases e : lst Pr b l = lst Pr b' l' <;> simp [e]
     exact up_mk (s' := .b (eqT ⟨x, y, lst Int a hh, lst Pr b l⟩ ⟨x', y', lst Int a' h', lst Pr b' l'⟩)) (.inl (by rw [this])) hφ
    ·simp only [Sta.mk.injEq] at e
     have : eqI a hh a' h' = true := decide_eq_true e.2.2.1
     rw [this] at k3; cases k3
    ·simp only [Sta.mk.injEq] at e
     simp [prim_eq, e.2.1] at k2
    ·simp only [Sta.mk.injEq] at e
     simp [prim_eq, e.1] at k1
  ·exact h.elim
 ·exact h.elim
theorem O33h : FnOK Tryz.prog (gls7 W7) 33 (H33 LD) := O33.mono fun H shs args φ hr h => by
 unfold H33 at h
 split at h
 ·rename_i n g i
  have h1 : slN 4 (.sl 4 n g) = some (n, g) := rfl
  simp only [F33, h1]
  exact h
 ·exact h.elim
theorem O45h : FnOK Tryz.prog (gls7 W7) 45 (H45 LD) := O45.mono fun H shs args φ hr h => by
 unfold H45 at h
 split at h
 ·rename_i x y a hh b l x' y' a' h' b' l'
  have h1 : slN 1 (.sl 1 a hh) = some (a, hh) := rfl
  have h2 : slN 2 (.sl 2 b l) = some (b, l) := rfl
  have h3 : slN 1 (.sl 1 a' h') = some (a', h') := rfl
  have h4 : slN 2 (.sl 2 b' l') = some (b', l') := rfl
  simp only [F45, h1, h2, h3, h4]
  exact h
 ·exact h.elim
theorem O27s : ∀ g F, spec27 LD g = some F → FnOK Tryz.prog (gls7 W7) g F := fun g F h => by
 unfold spec27 at h
 split at h
 ·cases h; exact O33h
 ·cases h; exact O45h
 ·cases h
theorem fok27 (stop : Nat → List Nat → Bool) : FnsOK Tryz.prog (C7 prim W7 (spec27 LD) stop) := C7.fok O27s fun g h => by
 unfold spec27 at h
 split at h
 all_goals first | (cases h; done) | kernel_rfl
end Go.Proofs
namespace Go.Proofs
open Go Go.Sx Go.Pl
noncomputable def F27 : List Sh → Tree Sh
 | [.agg [s0], .agg [s1]] => match slN 4 s0, slN 4 s1 with
  | some (n, g), some (m, h) => .need (stB n g) (.need (stB m h) (.need (decide (n ≤ 100000 ∧ m ≤ 100000)) (.leaf (.os 3 1 (len (diffL n (stF n g) m (stF m h))) (fnR (nth (diffL n (stF n g) m (stF m h))))))))
  | _, _ => .fail
 | _ => .fail
theorem loop27 {H0 : Mem} {w0 : World} {n m : Nat} {d e : Nat → Sta} {φ : Sh → Prop} (hn : n ≤ 100000) (hm : m ≤ 100000) (hφ : φ (.os 3 1 (len (diffL n d m e)) (fnR (nth (diffL n d m e))))) :
  ∀ r k, k + r = max n m → GoesS Tryz.prog (C7 prim W7 (spec27 LD) sAl) (K0 H0 w0) 27 td27 (LO27 n m d e (max n m : Nat) k (diffN n d m e k).length (fnR (nth (diffN n d m e k)))) [] emp φ
 | r, k, hk => by
  refine gSi (fn := Tryz.f27) (tb := tb27) (by kernel_rfl) (by kernel_rfl) ?_
  have hlen := diffN_len n d m e k
  have hmx : max n m ≤ 100000 := by omega
  have ea : LD.at_ n (fnT d) k = atT n d k := by
   show atT n (stF n (fnT d)) k = atT n d k
   unfold atT
   cases h : inI n k with
   | false => rfl
   | true =>
    have : k < n := by simp [inI] at h; exact h
    exact stF_fnT k this
  have eb : LD.at_ m (fnT e) k = atT m e k := by
   show atT m (stF m (fnT e)) k = atT m e k
   unfold atT
   cases h : inI m k with
   | false => rfl
   | true =>
    have : k < m := by simp [inI] at h; exact h
    exact stF_fnT k this
  have next (c' : List Int) (hc : k < max n m → diffN n d m e (k + 1) = c') : k < max n m → GoesS Tryz.prog (C7 prim W7 (spec27 LD) sAl) (K0 H0 w0) 27 td27 (LO27 n m d e (max n m : Nat) (k + 1 : Nat) c'.length (fnR (nth c'))) [] emp φ := fun h => by
   match r, hk with
   | 0, hk => omega
   | r + 1, hk =>
    have := loop27 (H0 := H0) (w0 := w0) hn hm hφ r (k + 1) (by omega)
    rwa [hc h] at this
  have hadd : IntKind.i64.wrap ((k : Int) + Int.ofNat 1) = ((k + 1 : Nat) : Int) := by
   show IntKind.i64.wrap ((k : Int) + 1) = _
   by_cases hk2 : k ≤ 1000000
   ·rw [wrap_id (by omega) (by omega)]; rfl
   ·omega
  have rr : prim.room (prim.addN (diffN n d m e k).length 1) 8 = true := room_le (show (diffN n d m e k).length + 1 ≤ _ by omega) (by decide)
  by_cases hun : unT n d m e k = true
  ·have hd : diffN n d m e (k + 1) = diffN n d m e k ++ [(k : Int)] := by rw [diffN_succ, if_pos hun]
   refine gSr (C7.ok _ _) (fok27 _) (hold := nH0) (m := 300) (n := 400) (ts := [⟨27, td27, LO27 n m d e (max n m : Nat) (k + 1 : Nat) (diffN n d m e k ++ [(k : Int)]).length (fnR (nth (diffN n d m e k ++ [(k : Int)]))), []⟩]) ?_
   rw [b27 prim W7 LD n m d e (max n m : Nat) k (k + 1 : Nat) (diffN n d m e k).length (diffN n d m e k ++ [(k : Int)]).length (fnR (nth (diffN n d m e k))) (fnR (nth (diffN n d m e k ++ [(k : Int)]))), ea, eb, sQ_eq, sQ_eq]
   have push : Eqn.all [Eqn.int ((max n m : Nat) : Int) ((max n m : Nat) : Int), Eqn.int (prim.add .i64 k (Int.ofNat 1)) ((k + 1 : Nat) : Int), Eqn.sh (Sh.sl 4 n (fnT d)) (Sh.sl 4 n (fnT d)), Eqn.sh (Sh.sl 4 m (fnT e)) (Sh.sl 4 m (fnT e)), Eqn.nat (prim.addN (diffN n d m e k).length 1) (diffN n d m e k ++ [(k : Int)]).length, Eqn.get (prim.addN (diffN n d m e k).length 1) (prim.snoc (fnR (nth (diffN n d m e k))) (diffN n d m e k).length (nthL [[Sh.i .i64 k]])) (fnR (nth (diffN n d m e k ++ [(k : Int)])))] :=
    ⟨rfl, hadd, rfl, rfl, by simp [Eqn.ok, prim_addN], snoc_nth _ _ rfl, trivial⟩
   refine ⟨fun h => ⟨stB_fnT _ _, stB_fnT _ _, fun h1 => ⟨rr, push, _, rfl, next _ (fun _ => hd) ?_⟩, fun h1 => ⟨okB_put _ _, okB_put _ _, okB_put _ _, okB_put _ _, fun h2 => ⟨rr, push, _, rfl, next _ (fun _ => hd) ?_⟩, fun h2 => ?_⟩⟩, fun h => ?_⟩
   ·simp [prim_lt] at h; omega
   ·simp [prim_lt] at h; omega
   ·exfalso
    have h1 : inI n k = inI m k := by simpa [prim_nt, prim_beq] using h1
    have h2 : eqT (atT n d k) (atT m e k) = true := by
     have : prim.nt (eqT (atT n d k) (atT m e k)) = false := h2
     simpa [prim_nt] using this
    have h2 := of_decide_eq_true h2
    simp [unT, h1, h2] at hun
   ·have : k = max n m := by simp [prim_lt] at h; omega
    subst this
    exact hφ
  ·have hun : unT n d m e k = false := by simpa using hun
   have hd : diffN n d m e (k + 1) = diffN n d m e k := by rw [diffN_succ, if_neg (by rw [hun]; simp)]
   refine gSr (C7.ok _ _) (fok27 _) (hold := nH0) (m := 300) (n := 400) (ts := [⟨27, td27, LO27 n m d e (max n m : Nat) (k + 1 : Nat) (diffN n d m e k).length (fnR (nth (diffN n d m e k))), []⟩]) ?_
   rw [b27 prim W7 LD n m d e (max n m : Nat) k (k + 1 : Nat) (diffN n d m e k).length (diffN n d m e k).length (fnR (nth (diffN n d m e k))) (fnR (nth (diffN n d m e k))), ea, eb, sQ_eq, sQ_eq]
   have hi : inI n k = inI m k ∧ atT n d k = atT m e k := by simpa [unT] using hun
   refine ⟨fun h => ⟨stB_fnT _ _, stB_fnT _ _, fun h1 => ?_, fun h1 => ⟨okB_put _ _, okB_put _ _, okB_put _ _, okB_put _ _, fun h2 => ?_, fun h2 => ⟨⟨rfl, hadd, rfl, rfl, rfl, fun _ _ => rfl, trivial⟩, _, rfl, next _ (fun _ => hd) ?_⟩⟩⟩, fun h => ?_⟩
   ·exfalso
    simp [prim_nt, prim_beq, hi.1] at h1
   ·exfalso
    have h2 : prim.nt (eqT (atT n d k) (atT m e k)) = true := h2
    rw [hi.2] at h2
    simp [prim_nt, eqT] at h2
   ·simp [prim_lt] at h; omega
   ·have : k = max n m := by simp [prim_lt] at h; omega
    subst this
    exact hφ
theorem O27 : FnOK Tryz.prog (gls7 W7) 27 F27 := by
 refine fnOK_S (C := C7 prim W7 (spec27 LD) sAl) (C7.ok _ _) (fn := Tryz.f27) (by kernel_rfl) (by kernel_rfl) fun H w shs args φ hrep h => ?_
 unfold F27 at h
 split at h
 ·rename_i s0 s1
  split at h
  ·rename_i n g m h' hs0 hs1
   obtain ⟨h1, h2, h3, hφ⟩ := h
   obtain ⟨h3, h4⟩ := of_decide_eq_true h3
   match args, hrep with
   | [v, u], ⟨hv, hu, _⟩ =>
    refine ⟨[.agg [.sl 4 n (fnT (stF n g))], .agg [.sl 4 m (fnT (stF m h'))]], ⟨rep_agg1 hv fun u hu => rep_sl_congr (rep_slN hs0 hu) (stB_at h1), rep_agg1 hu fun u hu => rep_sl_congr (rep_slN hs1 hu) (stB_at h2), trivial⟩, L0, ?_⟩
    have hn : Tryz.f27.ntmps = 46 := by kernel_rfl
    refine gSr (C7.ok _ _) (fok27 _) (hold := nH0) (m := 300) (n := 400) (ts := [⟨27, td27, LO27 n m (stF n g) (stF m h') (max n m : Nat) (0 : Nat) (diffN n (stF n g) m (stF m h') 0).length (fnR (nth (diffN n (stF n g) m (stF m h') 0))), []⟩]) ?_
    rw [hn, a27 prim W7 LD n m (stF n g) (stF m h') (max n m : Nat) (0 : Nat)]
    refine ⟨⟨?_, rfl, rfl, rfl, rfl, trivial⟩, _, rfl, loop27 h3 h4 hφ (max n m) 0 (by omega)⟩
    simp only [Eqn.ok, prim_max, prim_ofN]
    split <;> omega
  ·exact h.elim
 ·exact h.elim
end Go.Proofs
namespace Go.Pl
open Go Go.Sx
structure Rf where
 kind : Int
 num : Int
 keys : List Int
 vals : List Int
 deriving DecidableEq, Inhabited
def rfS (s : Rf) : List Sh := [.i .i64 s.kind, .i .i64 s.num, .sl 1 (len s.keys) (fnR (nth s.keys)), .sl 1 (len s.vals) (fnR (nth s.vals))]
def fnU (d : Nat → Rf) : Nat → List Sh := fun j => rfS (d j)
def codeOb (k i : Int) : Int := if badOb k i = true then 109 else 0
def okOb (k i : Int) : Bool := !badOb k i
def newU (o : Nat → Oj) (j : Nat) : Rf := ⟨(o j).kind, (o j).init, [], []⟩
def oneI (k : Int) : Nat → List Sh := fun _ => [.i .i64 k]
end Go.Pl
namespace Go.Proofs
open Go.Sx.Tree
open Go Go.Sx Go.Pl
def F83 : List Sh → Tree Sh
 | [.agg [t, u]] => match icode t, icode u with
  | some k, some i => .leaf (.i .i64 (codeOb k i))
  | _, _ => .fail
 | _ => .fail
def z8 : Nat → List Sh := fun _ => [.i .i64 0, .i .i64 0, .i .i64 0, .i .i64 0, .i .i64 0, .i .i64 0, .i .i64 0, .i .i64 0]
def spec51 : Nat → Option (List Sh → Tree Sh)
 | 83 => some F83
 | 85 => some (fun _ => .fail)
 | _ => none
def td51 : List It := [It.code [0, 1, 0, 1, 1], It.inBlock 0, It.code [1, 1, 1]]
def tb51 : List It := It.code [0, 0, 1, 0, 1, 1] :: td51
def td51b : List It := [It.code [0, 1, 0, 1, 1, 1], It.inBlock 2, It.code [1, 1, 1, 1]]
def tb51b : List It := It.code [0, 0, 1, 0, 1, 1, 1] :: td51b
def LO51 (n : Nat) (o : Nat → Oj) (e : Nat → List Sh) (i : Int) : Core := { tm := tmOf 57 [(1, .ptr 0 0), (2, .ptr 1 0), (3, .sym .i64 i)], hp := [(0, .box [.sh (.sl 2 n (fnR o)), .sh (.sl 8 0 e)] 105), (1, .box [.int .i64 0, .nils] 56)], nx := 2, lim := L0, tc := [] }
def LO51b (n : Nat) (o : Nat → Oj) (e : Nat → List Sh) (i : Int) : Core := { tm := tmOf 57 [(1, .ptr 0 0), (2, .ptr 1 0), (5, .sym .i64 i)], hp := [(0, .box [.sh (.sl 2 n (fnR o)), .sh (.sl 8 0 e)] 105), (1, .box [.int .i64 0, .nils] 56)], nx := 2, lim := L0, tc := [] }
def spec52 : Nat → Option (List Sh → Tree Sh)
 | 83 => some F83
 | _ => none
def F51 : List Sh → Tree Sh
 | [.agg [s0, s1]] => match slN 2 s0, slN 8 s1 with
  | some (n, g), some (0, _) => .need (okB Oj n g) (.node (bigO n) (.leaf (.agg [.i .i64 105, .sl 1 0 noI])) (.node (allOb n (rwAt g)) (.leaf (.agg [.i .i64 0, .sl 1 0 noI])) (.leaf (.agg [.i .i64 109, .sl 1 1 (oneI (firstOb n (rwAt g)))]))))
  | _, _ => .fail
 | _ => .fail
def F52w : List Sh → Tree Sh
 | [.agg [.i .i64 k, .i .i64 i]] => .need (okOb k i) (.leaf (.tup [.agg [.i .i64 k, .i .i64 i, .sl 1 0 noI, .sl 1 0 noI], .i .i64 0]))
 | _ => .fail
def spec26 : Nat → Option (List Sh → Tree Sh)
 | 51 => some F51
 | 52 => some F52w
 | _ => none
def td26 : List It := [It.code [0, 1, 0, 1, 1, 1, 1], It.inBlock 0, It.code [1, 1, 1, 1, 1]]
def tb26 : List It := It.code [0, 0, 1, 0, 1, 1, 1, 1] :: td26
def LO26 (n : Nat) (o : Nat → Oj) (i : Int) (k : Nat) (gg : Nat → List Sh) : Core := { tm := tmOf 36 [(0, .sh (.sl 2 n (fnR o))), (3, .ptr 0 0), (4, .ptr 1 0), (5, .gs 2), (6, .sym .i64 i)], hp := [(0, .box [.int .i64 0, .nils] 56), (1, .box [.int .i64 0, .sh (.sl 1 0 noI)] 56), (2, .own 76 4 k gg)], nx := 3, lim := L0, tc := [] }
theorem a83 (A : Prim) (W : Wd) (k i : Int) : runTo (C7 A W noSpec sAl) nH0 300 400 83 [.code []] (start0 31 [.agg [.i .i64 k, .i .i64 i]] L0) [] [] = node (A.lt k (Int.ofNat 1)) (leaf (Fe2.ret (Sh.i .i64 (Int.ofNat 109)))) (node (A.lt (Int.ofNat 4) k) (leaf (Fe2.ret (Sh.i .i64 (Int.ofNat 109)))) (node (A.lt i (Int.negSucc 999999999)) (leaf (Fe2.ret (Sh.i .i64 (Int.ofNat 109)))) (node (A.lt (Int.ofNat 1000000000) i) (leaf (Fe2.ret (Sh.i .i64 (Int.ofNat 109)))) (node (A.lt (Int.ofNat 2) k) (node (A.nt (A.eq i (Int.ofNat 0))) (leaf (Fe2.ret (Sh.i .i64 (Int.ofNat 109)))) (leaf (Fe2.ret (Sh.i .i64 (Int.ofNat 0))))) (leaf (Fe2.ret (Sh.i .i64 (Int.ofNat 0)))))))) := by kernel_rfl
theorem a51 (A : Prim) (W : Wd) (n : Nat) (o : Nat → Oj) (i' : Int) : runTo (C7 A W spec51 sAl) nH0 300 400 51 [.code []] (start0 57 [.agg [.sl 2 n (fnR o), .sl 8 0 z8]] L0) [] [⟨51, td51, LO51 n o z8 i', []⟩] = node (A.lt (Int.ofNat 8) (A.ofN n)) (leaf (Fe2.ret (Sh.agg [Sh.i .i64 (Int.ofNat 105), Sh.sl 0 0 fun (x : Nat) => []]))) (node (A.lt (Int.ofNat 400) (A.ofN 0)) (leaf (Fe2.ret (Sh.agg [Sh.i .i64 (Int.ofNat 105), Sh.sl 0 0 fun (x : Nat) => []]))) (leaf (Fe2.at_ 0 [Eqn.int (Int.ofNat 0) i', Eqn.sh (Sh.sl 2 n (fnR o)) (Sh.sl 2 n (fnR o)), Eqn.sh (Sh.sl 8 0 z8) (Sh.sl 8 0 z8), Eqn.int (Int.ofNat 0) (Int.ofNat 0)]))) := by kernel_rfl
theorem b51 (A : Prim) (W : Wd) (n : Nat) (o : Nat → Oj) (i i' : Int) : runTo (C7 A W spec51 sAl) nH0 300 400 51 tb51 (LO51 n o z8 i) [] [⟨51, td51, LO51 n o z8 i', []⟩, ⟨51, td51b, LO51b n o z8 i', []⟩] = node (A.lt i (A.ofN n)) (need (A.inB i n) (node (A.nt (A.eq (codeOb (o (A.toN i)).kind (o (A.toN i)).init) (Int.ofNat 0))) (node (A.eq (codeOb (o (A.toN i)).kind (o (A.toN i)).init) (Int.ofNat 0)) (leaf (Fe2.ret (Sh.agg [Sh.i .i64 (Int.ofNat 0), Sh.sl 0 0 fun (x : Nat) => []]))) (leaf (Fe2.ret (Sh.agg [Sh.i .i64 (codeOb (o (A.toN i)).kind (o (A.toN i)).init), Sh.os 3 1 1 (nthL [[Sh.i .i64 i]])])))) (leaf (Fe2.at_ 0 [Eqn.int (A.add .i64 i (Int.ofNat 1)) i', Eqn.sh (Sh.sl 2 n (fnR o)) (Sh.sl 2 n (fnR o)), Eqn.sh (Sh.sl 8 0 z8) (Sh.sl 8 0 z8), Eqn.int (Int.ofNat 0) (Int.ofNat 0)])))) (leaf (Fe2.at_ 1 [Eqn.int (Int.ofNat 0) i', Eqn.sh (Sh.sl 2 n (fnR o)) (Sh.sl 2 n (fnR o)), Eqn.sh (Sh.sl 8 0 z8) (Sh.sl 8 0 z8), Eqn.int (Int.ofNat 0) (Int.ofNat 0)])) := by kernel_rfl
theorem c51 (A : Prim) (W : Wd) (n : Nat) (o : Nat → Oj) (i i' : Int) : runTo (C7 A W spec51 sAl) nH0 300 400 51 tb51b (LO51b n o z8 i) [] [⟨51, td51b, LO51b n o z8 i', []⟩] = node (A.lt i (A.ofN 0)) (need (A.inB i 0) Tree.fail) (leaf (Fe2.ret (Sh.agg [Sh.i .i64 (Int.ofNat 0), Sh.sl 0 0 fun (x : Nat) => []]))) := by kernel_rfl
theorem a52 (A : Prim) (W : Wd) (k i : Int) : runTo (C7 A W spec52 sAl) nH0 300 400 52 [.code []] (start0 17 [.agg [.i .i64 k, .i .i64 i]] L0) [] [] = node (A.nt (A.eq (codeOb k i) (Int.ofNat 0))) (leaf (Fe2.ret (Sh.tup [Sh.agg [Sh.i .i64 (Int.ofNat 0), Sh.i .i64 (Int.ofNat 0), Sh.sl 0 0 fun (x : Nat) => [], Sh.sl 0 0 fun (x : Nat) => []], Sh.i .i64 (codeOb k i)]))) (leaf (Fe2.ret (Sh.tup [Sh.agg [Sh.i .i64 k, Sh.i .i64 i, Sh.sl 0 0 fun (x : Nat) => [], Sh.sl 0 0 fun (x : Nat) => []], Sh.i .i64 (codeOb k i)]))) := by kernel_rfl
theorem a26 (A : Prim) (W : Wd) (n : Nat) (o : Nat → Oj) (i' : Int) (k' : Nat) (gg' : Nat → List Sh) : runTo (C7 A W spec26 sAl) nH0 300 400 26 [.code []] (start0 36 [.sl 2 n (fnR o)] L0) [] [⟨26, td26, LO26 n o i' k' gg', []⟩] = need (okB Oj n (fnR o)) (node (bigO n) (node (A.nt (A.eq (Int.ofNat 105) (Int.ofNat 0))) (leaf (Fe2.ret (Sh.tup [Sh.sl 0 0 fun (x : Nat) => [], Sh.agg [Sh.i .i64 (Int.ofNat 105), Sh.sl 1 0 noI]]))) (leaf (Fe2.at_ 0 [Eqn.sh (Sh.sl 2 n (fnR o)) (Sh.sl 2 n (fnR o)), Eqn.int (Int.ofNat 0) i', Eqn.int (Int.ofNat 0) (Int.ofNat 0), Eqn.int (Int.ofNat 105) (Int.ofNat 0), Eqn.sh (Sh.sl 1 0 noI) (Sh.sl 1 0 noI), Eqn.nat k' 0]))) (node (allOb n (rwAt (fnR o))) (node (A.nt (A.eq (Int.ofNat 0) (Int.ofNat 0))) (leaf (Fe2.ret (Sh.tup [Sh.sl 0 0 fun (x : Nat) => [], Sh.agg [Sh.i .i64 (Int.ofNat 0), Sh.sl 1 0 noI]]))) (leaf (Fe2.at_ 0 [Eqn.sh (Sh.sl 2 n (fnR o)) (Sh.sl 2 n (fnR o)), Eqn.int (Int.ofNat 0) i', Eqn.int (Int.ofNat 0) (Int.ofNat 0), Eqn.int (Int.ofNat 0) (Int.ofNat 0), Eqn.sh (Sh.sl 1 0 noI) (Sh.sl 1 0 noI), Eqn.nat k' 0]))) (node (A.nt (A.eq (Int.ofNat 109) (Int.ofNat 0))) (leaf (Fe2.ret (Sh.tup [Sh.sl 0 0 fun (x : Nat) => [], Sh.agg [Sh.i .i64 (Int.ofNat 109), Sh.sl 1 1 (oneI (Int.ofNat (firstOb n (rwAt (fnR o)))))]]))) (leaf (Fe2.at_ 0 [Eqn.sh (Sh.sl 2 n (fnR o)) (Sh.sl 2 n (fnR o)), Eqn.int (Int.ofNat 0) i', Eqn.int (Int.ofNat 0) (Int.ofNat 0), Eqn.int (Int.ofNat 109) (Int.ofNat 0), Eqn.sh (Sh.sl 1 1 (oneI (Int.ofNat (firstOb n (rwAt (fnR o)))))) (Sh.sl 1 0 noI), Eqn.nat k' 0]))))) := by kernel_rfl
theorem b26 (A : Prim) (W : Wd) (n : Nat) (o : Nat → Oj) (i i' : Int) (k k' : Nat) (gg gg' : Nat → List Sh) : runTo (C7 A W spec26 sAl) nH0 300 400 26 tb26 (LO26 n o i k gg) [] [⟨26, td26, LO26 n o i' k' gg', []⟩] = node (A.lt i (A.ofN n)) (need (A.inB i n) (need (okOb (o (A.toN i)).kind (o (A.toN i)).init) (need (A.room (A.addN k 1) 64) (leaf (Fe2.at_ 0 [Eqn.sh (Sh.sl 2 n (fnR o)) (Sh.sl 2 n (fnR o)), Eqn.int (A.add .i64 i (Int.ofNat 1)) i', Eqn.int (Int.ofNat 0) (Int.ofNat 0), Eqn.int (Int.ofNat 0) (Int.ofNat 0), Eqn.sh (Sh.sl 1 0 noI) (Sh.sl 1 0 noI), Eqn.nat (A.addN k 1) k', Eqn.get (A.addN k 1) (A.snoc gg k (nthL [[Sh.i .i64 (o (A.toN i)).kind, Sh.i .i64 (o (A.toN i)).init, Sh.sl 1 0 noI, Sh.sl 1 0 noI]])) gg']))))) (leaf (Fe2.ret (Sh.tup [Sh.os 76 4 k gg, Sh.agg [Sh.i .i64 (Int.ofNat 0), Sh.sl 1 0 noI]]))) := by kernel_rfl
end Go.Proofs
namespace Go.Proofs
open Go Go.Sx Go.Pl
theorem code_t {k i : Int} (h : badOb k i = true) : codeOb k i = 109 := by unfold codeOb; rw [if_pos h]
theorem code_f {k i : Int} (h : badOb k i = false) : codeOb k i = 0 := by unfold codeOb; rw [if_neg (by simp [h])]
theorem code_z {k i : Int} : codeOb k i = 0 ↔ badOb k i = false := by
 cases h : badOb k i
 ·simp [code_f h]
 ·simp [code_t h]
theorem O83 : FnOK Tryz.prog (gls7 W7) 83 F83 := by
 refine fnOK_Ru (C := C7 prim W7 noSpec sAl) (C7.ok _ _) (fok0 _) (m := 300) (n := 400) (L := L0) (fn := Tryz.f83) (by kernel_rfl) (by kernel_rfl) fun H w shs args φ hrep h => ?_
 have hn : Tryz.f83.ntmps = 31 := by kernel_rfl
 unfold F83 at h
 split at h
 ·rename_i t u
  split at h
  ·rename_i k i hk hi
   have hφ : φ (.i .i64 (codeOb k i)) := h
   match args, hrep with
   | [v], ⟨hv, _⟩ =>
    refine ⟨[.agg [.i .i64 k, .i .i64 i]], ⟨rep_agg2 hv (fun _ r => rep_num hk r) (fun _ r => rep_num hi r), trivial⟩, ?_⟩
    rw [hn, a83 prim W7 k i]
    have hb (h : badOb k i = true) : up φ (.i .i64 (Int.ofNat 109)) := by
     rw [code_t h] at hφ
     exact up_mk (s' := .i .i64 109) rfl hφ
    have hg (h : badOb k i = false) : up φ (.i .i64 (Int.ofNat 0)) := by
     rw [code_f h] at hφ
     exact up_mk (s' := .i .i64 0) rfl hφ
    refine ⟨fun h => hb ?_, fun h1 => ⟨fun h => hb ?_, fun h2 => ⟨fun h => hb ?_, fun h3 => ⟨fun h => hb ?_, fun h4 => ⟨fun h5 => ⟨fun h => hb ?_, fun h6 => hg ?_⟩, fun h5 => hg ?_⟩⟩⟩⟩⟩
    all_goals simp only [show Int.ofNat 1 = (1 : Int) from rfl, show Int.ofNat 2 = (2 : Int) from rfl, show Int.ofNat 4 = (4 : Int) from rfl, show Int.ofNat 0 = (0 : Int) from rfl, show Int.ofNat 1000000000 = (1000000000 : Int) from rfl, show Int.negSucc 999999999 = (-1000000000 : Int) from rfl, prim_lt, prim_nt, prim_eq, badOb, Bool.or_eq_true, Bool.or_eq_false_iff, Bool.and_eq_true, Bool.and_eq_false_iff, Bool.not_eq_true', Bool.not_eq_false', decide_eq_true_eq, decide_eq_false_iff_not] at *
    all_goals (try simp at *)
    all_goals omega
  ·exact h.elim
 ·exact h.elim
theorem OUs : ∀ g F, spec51 g = some F → FnOK Tryz.prog (gls7 W7) g F := fun g F h => by
 unfold spec51 at h
 split at h
 ·cases h; exact O83
 ·cases h; exact fun H w shs args φ hon hg hr hφ => hφ.elim
 ·cases h
theorem fok51 (stop : Nat → List Nat → Bool) : FnsOK Tryz.prog (C7 prim W7 spec51 stop) := C7.fok OUs fun g h => by
 unfold spec51 at h
 split at h
 all_goals first | (cases h; done) | kernel_rfl
theorem fok52 (stop : Nat → List Nat → Bool) : FnsOK Tryz.prog (C7 prim W7 spec52 stop) := C7.fok (fun g F h => by
 unfold spec52 at h
 split at h
 ·cases h; exact O83
 ·cases h) fun g h => by
 unfold spec52 at h
 split at h
 all_goals first | (cases h; done) | kernel_rfl
section
variable {H0 : Mem} {w0 : World} {φ : Sh → Prop}
theorem loop51 {n : Nat} {o : Nat → Oj} (hn : n ≤ 8) (hT : (∀ j, j < n → badOb (o j).kind (o j).init = false) → φ (.agg [.i .i64 0, .sl 1 0 noI]))
  (hF : ∀ k, k < n → badOb (o k).kind (o k).init = true → (∀ j, j < k → badOb (o j).kind (o j).init = false) → φ (.agg [.i .i64 109, .sl 1 1 (oneI k)])) :
  ∀ r k, k + r = n → (∀ j, j < k → badOb (o j).kind (o j).init = false) → GoesS Tryz.prog (C7 prim W7 spec51 sAl) (K0 H0 w0) 51 td51 (LO51 n o z8 (k : Int)) [] emp (up φ)
 | r, k, hkr, hE => by
  refine gSi (fn := Tryz.f51) (tb := tb51) (by kernel_rfl) (by kernel_rfl) ?_
  by_cases hkn : k < n
  ·refine gSr (C7.ok _ _) (fok51 _) (hold := nH0) (m := 300) (n := 400) (ts := [⟨51, td51, LO51 n o z8 (k + 1 : Nat), []⟩, ⟨51, td51b, LO51b n o z8 (k + 1 : Nat), []⟩]) ?_
   rw [b51 prim W7 n o k (k + 1 : Nat)]
   simp only [prim_lt, prim_inB, prim_toN, prim_add, prim_nt, prim_eq, prim_ofN, one_eq, Int.toNat_natCast]
   refine ⟨fun _ => ⟨by simp; omega, fun hb => ⟨fun hz => ?_, fun _ => ?_⟩, fun hb => ⟨⟨?_, rfl, rfl, rfl, trivial⟩, _, rfl, ?_⟩⟩, fun h => ?_⟩
   ·simp at hb hz; exact absurd hz hb
   ·have hb : badOb (o k).kind (o k).init = true := by
     cases e : badOb (o k).kind (o k).init
     ·simp [code_f e] at hb
     ·rfl
    rw [code_t hb]
    refine up_mk (s' := .agg [.i .i64 109, .sl 1 1 (oneI k)]) ⟨rfl, .inr ⟨rfl, rfl, fun i hi => ?_⟩, trivial⟩ (hF k hkn hb hE)
    obtain rfl : i = 0 := by omega
    rfl
   ·simp only [Eqn.ok]; rw [wrap_id (by omega) (by omega)]; rfl
   ·match r, hkr with
    | 0, hkr => omega
    | r + 1, hkr =>
     refine loop51 hn hT hF r (k + 1) (by omega) fun j hj => ?_
     by_cases e : j = k
     ·subst e
      have hb : codeOb (o j).kind (o j).init = 0 := by simpa using hb
      exact code_z.1 hb
     ·exact hE j (by omega)
   ·simp at h; omega
  ·have : k = n := by omega
   subst this
   refine gSr (C7.ok _ _) (fok51 _) (hold := nH0) (m := 300) (n := 400) (ts := [⟨51, td51, LO51 k o z8 (0 : Nat), []⟩, ⟨51, td51b, LO51b k o z8 (0 : Nat), []⟩]) ?_
   rw [b51 prim W7 k o k (0 : Nat)]
   simp only [prim_lt, prim_inB, prim_toN, prim_add, prim_nt, prim_eq, prim_ofN, one_eq, Int.toNat_natCast]
   refine ⟨fun h => ?_, fun _ => ⟨⟨rfl, rfl, rfl, rfl, trivial⟩, _, rfl, ?_⟩⟩
   ·simp at h
   ·refine gSi (fn := Tryz.f51) (tb := tb51b) (by kernel_rfl) (by kernel_rfl) ?_
    refine gSr (C7.ok _ _) (fok51 _) (hold := nH0) (m := 300) (n := 400) (ts := [⟨51, td51b, LO51b k o z8 (0 : Nat), []⟩]) ?_
    rw [c51 prim W7 k o (0 : Nat) (0 : Nat)]
    refine ⟨fun h => by simp [prim_lt, prim_ofN] at h, fun _ => ?_⟩
    exact up_mk (s' := .agg [.i .i64 0, .sl 1 0 noI]) ⟨rfl, .inl ⟨rfl, rfl⟩, trivial⟩ (hT hE)
end
theorem O51 : FnOK Tryz.prog (gls7 W7) 51 F51 := by
 refine fnOK_Su (C := C7 prim W7 spec51 sAl) (C7.ok _ _) (fn := Tryz.f51) (by kernel_rfl) (by kernel_rfl) fun H w shs args φ hrep h => ?_
 have hn : Tryz.f51.ntmps = 57 := by kernel_rfl
 unfold F51 at h
 split at h
 ·rename_i s0 s1
  split at h
  ·rename_i n g e hs0 hs1
   obtain ⟨h1, hbig, hsm⟩ := h
   have hbig : bigO n = true → φ (.agg [.i .i64 105, .sl 1 0 noI]) := hbig
   have hsm : bigO n = false → (allOb n (rwAt g) = true → φ (.agg [.i .i64 0, .sl 1 0 noI])) ∧ (allOb n (rwAt g) = false → φ (.agg [.i .i64 109, .sl 1 1 (oneI (firstOb n (rwAt g)))])) := hsm
   match args, hrep with
   | [v], ⟨hv, _⟩ =>
    refine ⟨[.agg [.sl 2 n (fnR (rwAt (α := Oj) g)), .sl 8 0 z8]], ⟨rep_agg2 hv (fun u hu => rep_rows (rep_slN hs0 hu) h1) (fun u hu => rep_sl_congr (rep_slN hs1 hu) (fun j hj => by omega)), trivial⟩, L0, ?_⟩
    generalize rwAt (α := Oj) g = o at *
    refine gSr (C7.ok _ _) (fok51 _) (hold := nH0) (m := 300) (n := 400) (ts := [⟨51, td51, LO51 n o z8 (0 : Nat), []⟩]) ?_
    rw [hn, a51 prim W7 n o (0 : Nat)]
    refine ⟨fun h => up_mk (s' := .agg [.i .i64 105, .sl 1 0 noI]) ⟨rfl, .inl ⟨rfl, rfl⟩, trivial⟩ (hbig ?_), fun h => ⟨fun h => ?_, fun _ => ⟨⟨rfl, rfl, rfl, rfl, trivial⟩, _, rfl, ?_⟩⟩⟩
    ·simp [prim_lt, prim_ofN] at h; simp [bigO]; omega
    ·simp [prim_lt, prim_ofN] at h
    ·have hn8 : n ≤ 8 := by simp [prim_lt, prim_ofN] at h; omega
     obtain ⟨q1, q2⟩ := hsm (by simp [bigO]; omega)
     refine loop51 hn8 (fun hE => q1 (allOb_t hE)) (fun k hk hb hE => ?_) n 0 (by omega) fun j hj => by omega
     have := q2 (allOb_f hk hb)
     rwa [firstOb_eq hk hb hE] at this
  ·exact h.elim
 ·exact h.elim
theorem O52 : FnOK Tryz.prog (gls7 W7) 52 F52w := by
 refine fnOK_Ru (C := C7 prim W7 spec52 sAl) (C7.ok _ _) (fok52 _) (m := 300) (n := 400) (L := L0) (fn := Tryz.f52) (by kernel_rfl) (by kernel_rfl) fun H w shs args φ hrep h => ?_
 have hn : Tryz.f52.ntmps = 17 := by kernel_rfl
 unfold F52w at h
 split at h
 ·rename_i k i
  obtain ⟨h1, hφ⟩ := h
  refine ⟨_, hrep, ?_⟩
  have hc : codeOb k i = 0 := code_f (by simpa [okOb] using h1)
  rw [hn, a52 prim W7 k i, hc]
  refine ⟨fun e => by simp [prim_nt, prim_eq] at e, fun _ => up_mk (s' := .tup [.agg [.i .i64 k, .i .i64 i, .sl 1 0 noI, .sl 1 0 noI], .i .i64 0]) ?_ hφ⟩
  simp [Wk, WkL]
 ·exact h.elim
theorem fok26 (stop : Nat → List Nat → Bool) : FnsOK Tryz.prog (C7 prim W7 spec26 stop) := C7.fok (fun g F h => by
 unfold spec26 at h
 split at h
 ·cases h; exact O51
 ·cases h; exact O52
 ·cases h) fun g h => by
 unfold spec26 at h
 split at h
 all_goals first | (cases h; done) | kernel_rfl
def F26 : List Sh → Tree Sh
 | [t] => match slN 2 t with
  | some (n, g) => .need (okB Oj n g) (.node (bigO n) (.leaf (.tup [.sl 0 0 noT, .agg [.i .i64 105, .sl 1 0 noI]])) (.node (allOb n (rwAt g)) (.leaf (.tup [.os 76 4 n (fnU (newU (rwAt g))), .agg [.i .i64 0, .sl 1 0 noI]])) (.leaf (.tup [.sl 0 0 noT, .agg [.i .i64 109, .sl 1 1 (oneI (firstOb n (rwAt g)))]]))))
  | none => .fail
 | _ => .fail
section
variable {H0 : Mem} {w0 : World} {φ : Sh → Prop}
theorem loop26 {n : Nat} {o : Nat → Oj} (hn : n ≤ 8) (hT : ∀ j, j < n → badOb (o j).kind (o j).init = false) (hφ : φ (.tup [.os 76 4 n (fnU (newU o)), .agg [.i .i64 0, .sl 1 0 noI]])) :
  ∀ r k, k + r = n → GoesS Tryz.prog (C7 prim W7 spec26 sAl) (K0 H0 w0) 26 td26 (LO26 n o (k : Int) k (fnU (newU o))) [] emp φ
 | r, k, hkr => by
  refine gSi (fn := Tryz.f26) (tb := tb26) (by kernel_rfl) (by kernel_rfl) ?_
  refine gSr (C7.ok _ _) (fok26 _) (hold := nH0) (m := 300) (n := 400) (ts := [⟨26, td26, LO26 n o (k + 1 : Nat) (k + 1) (fnU (newU o)), []⟩]) ?_
  rw [b26 prim W7 n o k (k + 1 : Nat) k (k + 1) (fnU (newU o)) (fnU (newU o))]
  refine ⟨fun h => ?_, fun h => ?_⟩
  ·have hlt : k < n := by simp [prim_lt, prim_ofN] at h; omega
   refine ⟨by simp [prim_inB]; omega, ?_, room_le (show k + 1 ≤ _ by omega) (by omega), ⟨rfl, ?_, rfl, rfl, rfl, rfl, fun j hj => ?_, trivial⟩, _, rfl, ?_⟩
   ·simp only [prim_toN, Int.toNat_natCast, okOb, hT k hlt]; rfl
   ·show IntKind.i64.wrap ((k : Int) + 1) = _
    rw [wrap_id (by omega) (by omega)]; rfl
   ·have hj : j < k + 1 := hj
    rw [prim_snoc]
    split
    ·rfl
    ·obtain rfl : j = k := by omega
     simp only [prim_toN, Int.toNat_natCast, Nat.sub_self]
     rfl
   ·match r, hkr with
    | 0, hkr => omega
    | r + 1, hkr => exact loop26 hn hT hφ r (k + 1) (by omega)
  ·have : k = n := by simp [prim_lt, prim_ofN] at h; omega
   subst this
   exact hφ
end
theorem O26 : FnOK Tryz.prog (gls7 W7) 26 F26 := by
 refine fnOK_S (C := C7 prim W7 spec26 sAl) (C7.ok _ _) (fn := Tryz.f26) (by kernel_rfl) (by kernel_rfl) fun H w shs args φ hrep h => ?_
 have hn : Tryz.f26.ntmps = 36 := by kernel_rfl
 unfold F26 at h
 split at h
 ·rename_i s0
  split at h
  ·rename_i n g hs0
   obtain ⟨h1, hbig, hsm⟩ := h
   have hbig : bigO n = true → φ (.tup [.sl 0 0 noT, .agg [.i .i64 105, .sl 1 0 noI]]) := hbig
   have hsm : bigO n = false → (allOb n (rwAt g) = true → φ (.tup [.os 76 4 n (fnU (newU (rwAt g))), .agg [.i .i64 0, .sl 1 0 noI]])) ∧ (allOb n (rwAt g) = false → φ (.tup [.sl 0 0 noT, .agg [.i .i64 109, .sl 1 1 (oneI (firstOb n (rwAt g)))]])) := hsm
   match args, hrep with
   | [v], ⟨hv, _⟩ =>
    refine ⟨[.sl 2 n (fnR (rwAt (α := Oj) g))], ⟨rep_rows (rep_slN hs0 hv) h1, trivial⟩, L0, ?_⟩
    generalize rwAt (α := Oj) g = o at *
    refine gSr (C7.ok _ _) (fok26 _) (hold := nH0) (m := 300) (n := 400) (ts := [⟨26, td26, LO26 n o (0 : Nat) 0 (fnU (newU o)), []⟩]) ?_
    rw [hn, a26 prim W7 n o (0 : Nat) 0 (fnU (newU o)), rwAt_fnR]
    refine ⟨okB_put _ _, fun e => ⟨fun _ => hbig e, fun h => ?_⟩, fun e => ⟨fun e' => ⟨fun h => ?_, fun _ => ⟨⟨rfl, rfl, rfl, rfl, rfl, rfl, trivial⟩, _, rfl, ?_⟩⟩, fun e' => ⟨fun _ => (hsm e).2 e', fun h => ?_⟩⟩⟩
    ·simp [prim_nt, prim_eq] at h
    ·simp [prim_nt, prim_eq] at h
    ·exact loop26 (by simp [bigO] at e; omega) (fun j hj => by simpa using all_range e' j hj) ((hsm e).1 e') n 0 (by omega)
    ·simp [prim_nt, prim_eq] at h
  ·exact h.elim
 ·exact h.elim
end Go.Proofs
namespace Go.Sx
@[irreducible] def MeetsT (ψ : Fe2 → Prop) (t : Tree Fe2) : Prop := t.All ψ
theorem meetsT_eq (ψ : Fe2 → Prop) (t : Tree Fe2) : MeetsT ψ t = t.All ψ := by unfold MeetsT; rfl
theorem gSt {P : Program} {C : Ctx} {H0 : Mem} {w0 : World} (hC : CtxOK P C) (hF : FnsOK P C) {m n g : Nat} {td : List It} {c : Core} {stk : List Fr} {ts : List Tgt} {R : Hp → Prop} {φ : Sh → Prop} {hold : Nat → Bool}
  (h : MeetsT (Fe2OK P C (K0 H0 w0) ts R φ) (runTo C hold m n g td c stk ts)) : GoesS P C (K0 H0 w0) g td c stk R φ := gSr hC hF (by rw [meetsT_eq] at h; exact h)
end Go.Sx
