/-
  Chapters 6 and 7: summaries without loops: a store's states; objects; a state as it begins. Chapters 6 and 7: a state as it begins, its key; whether objects may be; evaluated. Chapters 6 and 7: summaries: a state as it begins, its key; whether objects may be. slices.Insert of one element into a row of pairs that the caller owns, whatever its capacity. Chapters 6 and 7: a map's keys: where one stands, what it has; put and taken away; evaluated. Chapters 6 and 7: where a key of a map stands (binary search). Chapters 6 and 7: a key of a map is found, put, taken away; evaluated. Chapters 6 and 7: a key of a map: found, put, taken away: summaries. Chapters 6 and 7: look and del of a map. A number that is known may be taken for a literal. Chapters 6 and 7: a store as it begins, its key; a value put into a queue; evaluated.
-/
import Derived.Test.YtikaakiadiaeoaaGreatDoorB07
import Derived.Lib.ItoaLen
import Derived.Shelf.Spec.SlicesInsert
import Derived.Lib.AppendZerosOnto
import Derived.Laws.NewBlocks
namespace Go.Proofs
open Go Go.Sx Go.Pl
def F65 : List Sh → Tree Sh
 | [.agg [.i .i64 k, .i .i64 i]] => .need (in64 k) (.node (badOb k i) (.leaf (.er 0 242)) (.leaf (.v .nilIface)))
 | _ => .fail
theorem wordO_nil {k : Int} : prim.seq (wordO k) [] = !(decide (1 ≤ k) && decide (k ≤ 4)) := by
 by_cases h1 : k = 1
 ·subst h1; rfl
 by_cases h2 : k = 2
 ·subst h2; rfl
 by_cases h3 : k = 3
 ·subst h3; rfl
 by_cases h4 : k = 4
 ·subst h4; rfl
 have : wordO k = [] := by simp [wordO, h1, h2, h3, h4]
 rw [this, prim_seq]
 by_cases h5 : 1 ≤ k
 ·have : ¬ k ≤ 4 := by omega
  simp [this]
 ·simp [h5]
theorem O65 : FnOK Tryz.prog (gls7 W7) 65 F65 := by
 refine fnOK_S (C := C7 prim W7 specA sAl) (C7.ok _ _) (fn := Tryz.f65) (by kernel_rfl) (by kernel_rfl) fun H w shs args φ hrep h => ?_
 have hn : Tryz.f65.ntmps = 36 := by kernel_rfl
 unfold F65 at h
 split at h
 ·rename_i k i
  obtain ⟨h1, hb, hg⟩ := h
  refine ⟨_, hrep, L0, gSr (C7.ok _ _) (fokA _) (hold := nH0) (m := 300) (n := 400) (ts := []) ?_⟩
  rw [hn, a65 prim W7 k i, wordO_nil]
  have q0 : Int.ofNat 0 = 0 := rfl
  have q1 : Int.ofNat 1 = 1 := rfl
  have q2 : Int.ofNat 2 = 2 := rfl
  have q3 : Int.ofNat 1000000000 = 1000000000 := rfl
  have q4 : Int.negSucc 999999999 = -1000000000 := rfl
  simp only [prim_lt, prim_eq, prim_nt, q0, q1, q2, q3, q4]
  have bad (h : badOb k i = true) : φ (.er 0 242) := hb h
  have good (h : badOb k i = false) : φ (.v .nilIface) := hg h
  refine ⟨fun e => ⟨rfl, h1, fun e1 => bad ?_, fun e1 => ⟨fun e2 => bad ?_, fun e2 => ⟨fun e3 => bad ?_, fun e3 => good ?_⟩⟩⟩, fun e => ⟨rfl, h1, fun e1 => bad ?_, fun e1 => ⟨fun e2 => bad ?_, fun e2 => ⟨fun e3 => bad ?_, fun e3 => ⟨fun e4 => ⟨fun e5 => bad ?_, fun e5 => good ?_⟩, fun e4 => good ?_⟩⟩⟩⟩⟩
  all_goals (simp at *; simp [badOb]; omega)
 ·exact h.elim
end Go.Proofs
namespace Go.Pl
open Go Go.Sx
def tmOf (n : Nat) (l : List (Nat × SV)) : List SV := l.foldl (fun t p => t.set p.1 p.2) (List.replicate n .any)
end Go.Pl
namespace Go.Proofs
open Go.Sx.Tree
open Go Go.Sx Go.Pl
def F60 : List Sh → Tree Sh
 | [.sl 1 n g] => .need (okB (List UInt8) n g) (.need (roomB n 16) (.need (shortB (joinS (lst (List UInt8) n g) [32])) (.leaf (.str (joinS (lst (List UInt8) n g) [32])))))
 | _ => .fail
def specB : Nat → Option (List Sh → Tree Sh)
 | 58 => some F58
 | 59 => some F92
 | 60 => some F60
 | 65 => some F65
 | _ => none
def LO35q (a : Nat) (o : Nat → Int) (i : Int) (k : Nat) (gg : Nat → List Sh) : Core := { tm := tmOf 61 [(3, .gs 0), (26, .sh (.sl 1 a (fnR o))), (27, .sym .i64 (a : Int)), (28, .sym .i64 i)], hp := [(0, .own 9 1 k gg)], nx := 1, lim := L0, tc := [] }
def LO35p (b : Nat) (p : Nat → Pr) (i : Int) (k : Nat) (gg : Nat → List Sh) : Core := { tm := tmOf 61 [(3, .gs 0), (41, .sh (.sl 2 b (fnR p))), (42, .sym .i64 (b : Int)), (43, .sym .i64 i)], hp := [(0, .own 9 1 k gg)], nx := 1, lim := L0, tc := [] }
def td35q : List It := [It.code [0, 1, 0, 1, 1, 1, 0, 1, 0, 1, 1], It.inBlock 1, It.inBlock 0, It.code [1, 1, 1]]
def td35p : List It := [It.code [0, 1, 0, 1, 1, 1, 1, 1, 0, 1, 0, 1, 1], It.inBlock 3, It.inBlock 0, It.code [1, 1, 1]]
def tb35q : List It := It.code [0, 0, 1, 0, 1, 1, 1, 0, 1, 0, 1, 1] :: td35q
def tb35p : List It := It.code [0, 0, 1, 0, 1, 1, 1, 1, 1, 0, 1, 0, 1, 1] :: td35p
theorem a41 (A : Prim) (W : Wd) (k i : Int) : runTo (C7 A W specB sAl) nH0 300 400 41 [.code []] (start0 16 [.agg [.i .i64 k, .i .i64 i]] L0) [] [] = need (in64 k) (node (badOb k i) (leaf (Fe2.ret (Sh.tup [Sh.agg [Sh.i .i64 (Int.ofNat 0), Sh.i .i64 (Int.ofNat 0), Sh.sl 0 0 fun _ => [], Sh.sl 0 0 fun _ => []], Sh.er 0 242]))) (leaf (Fe2.ret (Sh.tup [Sh.agg [Sh.i .i64 k, Sh.i .i64 i, Sh.sl 0 0 fun _ => [], Sh.sl 0 0 fun _ => []], Sh.v Value.nilIface])))) := by kernel_rfl
theorem a35 (A : Prim) (W : Wd) (x y : Int) (a b : Nat) (o : Nat → Int) (p : Nat → Pr) (i' : Int) (k' : Nat) (gg' : Nat → List Sh) : runTo (C7 A W specB sAl) nH0 300 400 35 [.code []] (start0 61 [.agg [.i .i64 x, .i .i64 y, .sl 1 a (fnR o), .sl 2 b (fnR p)]] L0) [] [⟨35, td35q, LO35q a o i' k' gg', []⟩, ⟨35, td35p, LO35p b p i' k' gg', []⟩] = need true (need (in64 x) (node (A.eq x (Int.ofNat 1)) (need (in64 y) (need (okB (List UInt8) 2 (nthL (chunks 1 (1 + 1) [Sh.str (wordO x), Sh.str (itoaS y)]))) (need (roomB 2 16) (need (shortB (joinS (lst (List UInt8) 2 (nthL (chunks 1 (1 + 1) [Sh.str (wordO x), Sh.str (itoaS y)]))) [32])) (leaf (Fe2.ret (Sh.str (joinS (lst (List UInt8) 2 (nthL (chunks 1 (1 + 1) [Sh.str (wordO x), Sh.str (itoaS y)]))) [32])))))))) (node (A.eq x (Int.ofNat 2)) (need (in64 y) (need (okB (List UInt8) 2 (nthL (chunks 1 (1 + 1) [Sh.str (wordO x), Sh.str (itoaS y)]))) (need (roomB 2 16) (need (shortB (joinS (lst (List UInt8) 2 (nthL (chunks 1 (1 + 1) [Sh.str (wordO x), Sh.str (itoaS y)]))) [32])) (leaf (Fe2.ret (Sh.str (joinS (lst (List UInt8) 2 (nthL (chunks 1 (1 + 1) [Sh.str (wordO x), Sh.str (itoaS y)]))) [32])))))))) (node (A.eq x (Int.ofNat 3)) (leaf (Fe2.at_ 0 [Eqn.sh (Sh.sl 1 a (fnR o)) (Sh.sl 1 a (fnR o)), Eqn.int (A.ofN a) (Int.ofNat a), Eqn.int (Int.ofNat 0) i', Eqn.nat 1 k', Eqn.get 1 (nthL [[Sh.str (wordO x)]]) gg'])) (node (A.eq x (Int.ofNat 4)) (leaf (Fe2.at_ 1 [Eqn.sh (Sh.sl 2 b (fnR p)) (Sh.sl 2 b (fnR p)), Eqn.int (A.ofN b) (Int.ofNat b), Eqn.int (Int.ofNat 0) i', Eqn.nat 1 k', Eqn.get 1 (nthL [[Sh.str (wordO x)]]) gg'])) (need (okB (List UInt8) 1 (nthL (chunks 1 1 [Sh.str (wordO x)]))) (need (roomB 1 16) (need (shortB (joinS (lst (List UInt8) 1 (nthL (chunks 1 1 [Sh.str (wordO x)]))) [32])) (leaf (Fe2.ret (Sh.str (joinS (lst (List UInt8) 1 (nthL (chunks 1 1 [Sh.str (wordO x)]))) [32])))))))))))) := by kernel_rfl
theorem b35q (A : Prim) (W : Wd) (a : Nat) (o : Nat → Int) (i i' : Int) (k k' : Nat) (gg gg' : Nat → List Sh) : runTo (C7 A W specB sAl) nH0 300 400 35 tb35q (LO35q a o i k gg) [] [⟨35, td35q, LO35q a o i' k' gg', []⟩] = node (A.lt i (Int.ofNat a)) (need (A.inB i a) (need (in64 (o (A.toN i))) (need (A.room (A.addN k 1) 16) (leaf (Fe2.at_ 0 [Eqn.sh (Sh.sl 1 a (fnR o)) (Sh.sl 1 a (fnR o)), Eqn.int (Int.ofNat a) (Int.ofNat a), Eqn.int (A.add .i64 i (Int.ofNat 1)) i', Eqn.nat (A.addN k 1) k', Eqn.get (A.addN k 1) (A.snoc gg k (nthL [[Sh.str (itoaS (o (A.toN i)))]])) gg']))))) (need (okB (List UInt8) k gg) (need (roomB k 16) (need (shortB (joinS (lst (List UInt8) k gg) [32])) (leaf (Fe2.ret (Sh.str (joinS (lst (List UInt8) k gg) [32]))))))) := by kernel_rfl
theorem b35p (A : Prim) (W : Wd) (b : Nat) (p : Nat → Pr) (i i' : Int) (k k' : Nat) (gg gg' : Nat → List Sh) : runTo (C7 A W specB sAl) nH0 300 400 35 tb35p (LO35p b p i k gg) [] [⟨35, td35p, LO35p b p i' k' gg', []⟩] = node (A.lt i (Int.ofNat b)) (need (A.inB i b) (need (in64 (p (A.toN i)).key) (need (A.leN (A.addN (A.len (itoaS (p (A.toN i)).key)) (A.len [58])) 9223372036854775807) (need (in64 (p (A.toN i)).val) (need (A.leN (A.addN (A.len (A.app (itoaS (p (A.toN i)).key) [58])) (A.len (itoaS (p (A.toN i)).val))) 9223372036854775807) (need (A.room (A.addN k 1) 16) (leaf (Fe2.at_ 0 [Eqn.sh (Sh.sl 2 b (fnR p)) (Sh.sl 2 b (fnR p)), Eqn.int (Int.ofNat b) (Int.ofNat b), Eqn.int (A.add .i64 i (Int.ofNat 1)) i', Eqn.nat (A.addN k 1) k', Eqn.get (A.addN k 1) (A.snoc gg k (nthL [[Sh.str (A.app (A.app (itoaS (p (A.toN i)).key) [58]) (itoaS (p (A.toN i)).val))]])) gg'])))))))) (need (okB (List UInt8) k gg) (need (roomB k 16) (need (shortB (joinS (lst (List UInt8) k gg) [32])) (leaf (Fe2.ret (Sh.str (joinS (lst (List UInt8) k gg) [32]))))))) := by kernel_rfl
end Go.Proofs
namespace Go.Pl
open Go Go.Sx
def partsS (s : Sta) : List (List UInt8) := wordO s.kind :: (if s.kind = 1 ∨ s.kind = 2 then [itoaS s.num] else if s.kind = 3 then s.q.map itoaS else if s.kind = 4 then s.ps.map (fun p => itoaS p.key ++ [58] ++ itoaS p.val) else [])
def noI : Nat → List Sh := fnR (nth ([] : List Int))
def noP : Nat → List Sh := fnR (nth ([] : List Pr))
def keyS (s : Sta) : List UInt8 := joinS (partsS s) [32]
theorem all_range {n : Nat} {p : Nat → Bool} (h : (List.range n).all p = true) : ∀ j, j < n → p j = true := fun j hj => List.all_eq_true.1 h j (List.mem_range.2 hj)
def numsB (n : Nat) (o : Nat → Int) : Bool := (List.range n).all fun j => in64 (o j)
def prsB (n : Nat) (o : Nat → Pr) : Bool := (List.range n).all fun j => in64 (o j).key && in64 (o j).val
end Go.Pl
namespace Go.Proofs
open Go Go.Sx Go.Pl
theorem O59 : FnOK Tryz.prog (gls7 W7) 59 F92 := by
 refine fnOK_Ru (C := C7 prim W7 specA sAl) (C7.ok _ _) (fokA _) (m := 300) (n := 400) (L := L0) (fn := Tryz.f59) (by kernel_rfl) (by kernel_rfl) fun H w shs args φ hrep h => ?_
 have hn : Tryz.f59.ntmps = 5 := by kernel_rfl
 unfold F92 at h
 split at h
 ·obtain ⟨h1, hφ⟩ := h
  refine ⟨_, hrep, ?_⟩
  rw [hn, a59 prim W7]
  exact ⟨h1, up_mk (s' := .str _) rfl hφ⟩
 ·exact h.elim
theorem O60 : FnOK Tryz.prog (gls7 W7) 60 F60 := by
 refine fnOK_Ru (C := C7 prim W7 specA sAl) (C7.ok _ _) (fokA _) (m := 300) (n := 400) (L := L0) (fn := Tryz.f60) (by kernel_rfl) (by kernel_rfl) fun H w shs args φ hrep h => ?_
 have hn : Tryz.f60.ntmps = 5 := by kernel_rfl
 unfold F60 at h
 split at h
 ·obtain ⟨h1, h2, h3, hφ⟩ := h
  refine ⟨_, hrep, ?_⟩
  rw [hn, a60 prim W7]
  exact ⟨h1, h2, h3, up_mk (s' := .str _) rfl hφ⟩
 ·exact h.elim
theorem OBs : ∀ g F, specB g = some F → FnOK Tryz.prog (gls7 W7) g F := fun g F h => by
 unfold specB at h
 split at h
 ·cases h; exact O58
 ·cases h; exact O59
 ·cases h; exact O60
 ·cases h; exact O65
 ·cases h
theorem fokB (stop : Nat → List Nat → Bool) : FnsOK Tryz.prog (C7 prim W7 specB stop) := C7.fok OBs fun g h => by
 unfold specB at h
 split at h
 all_goals first | (cases h; done) | kernel_rfl
def F41 : List Sh → Tree Sh
 | [.agg [.i .i64 k, .i .i64 i]] => .need (in64 k) (.node (badOb k i) (.leaf (.tup [.agg (staS zeroT), .er 0 242])) (.leaf (.tup [.agg [.i .i64 k, .i .i64 i, .sl 1 0 noI, .sl 2 0 noP], .v .nilIface])))
 | _ => .fail
theorem O41 : FnOK Tryz.prog (gls7 W7) 41 F41 := by
 refine fnOK_Ru (C := C7 prim W7 specB sAl) (C7.ok _ _) (fokB _) (m := 300) (n := 400) (L := L0) (fn := Tryz.f41) (by kernel_rfl) (by kernel_rfl) fun H w shs args φ hrep h => ?_
 have hn : Tryz.f41.ntmps = 16 := by kernel_rfl
 unfold F41 at h
 split at h
 ·rename_i k i
  obtain ⟨h1, hb, hg⟩ := h
  refine ⟨_, hrep, ?_⟩
  rw [hn, a41 prim W7 k i]
  refine ⟨h1, fun e => up_mk (s' := .tup [.agg (staS zeroT), .er 0 242]) ?_ (hb e), fun e => up_mk (s' := .tup [.agg [.i .i64 k, .i .i64 i, .sl 1 0 noI, .sl 2 0 noP], .v .nilIface]) ?_ (hg e)⟩
  ·simp [staS, zeroT, Wk, WkL, len]
  ·simp [staS, Wk, WkL, len]
 ·exact h.elim
end Go.Proofs
namespace Go.Pl
open Go Go.Sx Go.Proofs
theorem lst_two {a b : List UInt8} : lst (List UInt8) 2 (nthL (chunks 1 (1 + 1) [Sh.str a, Sh.str b])) = [a, b] := rfl
theorem lst_one {a : List UInt8} : lst (List UInt8) 1 (nthL (chunks 1 1 [Sh.str a])) = [a] := rfl
theorem itoa_len {n : Int} (h : in64 n = true) : (itoaS n).length ≤ 21 := by
 have h := of_decide_eq_true h
 exact Go.Lib.itoa_length_le n h.1 h.2
theorem lst_fn {α : Type} [Row α] (l : List α) {k : Nat} (h : l.length = k) : lst α k (fnR (nth l)) = l := by subst h; exact lst_nth l
theorem snoc_nth {α : Type} [Row α] (l : List α) (a : α) {r : List (List Sh)} (h : nthL r 0 = Row.put a) : ∀ i, i < l.length + 1 → prim.snoc (fnR (nth l)) l.length (nthL r) i = fnR (nth (l ++ [a])) i := fun i hi => by
 rw [prim_snoc]
 split
 ·rename_i h1
  simp only [fnR, nth]
  rw [List.getD_eq_getElem?_getD, List.getD_eq_getElem?_getD, List.getElem?_append_left h1]
 ·have : i = l.length := by omega
  subst this
  rw [Nat.sub_self, h]
  simp [fnR, nth]
end Go.Pl
namespace Go.Proofs
open Go Go.Sx Go.Pl
def F35 : List Sh → Tree Sh
 | [.agg [.i .i64 x, .i .i64 y, s2, s3]] => match slN 1 s2, slN 2 s3 with
  | some (a, h), some (b, l) => .need (okB Int a h) (.need (okB Pr b l) (.need (in64 x) (.need (in64 y) (.need (numsB a (rwAt h)) (.need (prsB b (rwAt l)) (.need (decide (a ≤ 100000 ∧ b ≤ 100000)) (.leaf (.str (keyS ⟨x, y, lst Int a h, lst Pr b l⟩)))))))))
  | _, _ => .fail
 | _ => .fail
theorem join_len (l : List (List UInt8)) (sep : List UInt8) {m : Nat} (h : ∀ x ∈ l, x.length ≤ m) : (joinS l sep).length ≤ l.length * (m + sep.length) := by
 induction l with
 | nil => simp [joinS, Go.Lib.join_nil]
 | cons x r ih =>
  have h1 := h x (by simp)
  have h2 : (Go.Lib.joinTail sep r).length ≤ r.length * (m + sep.length) := by
   clear ih
   induction r with
   | nil => simp [Go.Lib.joinTail]
   | cons y r ih2 =>
    have h3 := ih2 fun z hz => h z (by
     rcases List.mem_cons.1 hz with rfl | hz
     ·simp
     ·simp [hz])
    have h4 := h y (by simp)
    simp only [Go.Lib.joinTail, List.map_cons, List.flatten_cons, List.length_append, List.length_cons, Nat.add_mul, Nat.one_mul] at h3 ⊢
    omega
  unfold joinS
  rw [Go.Lib.join_cons, List.length_append, List.length_cons, Nat.add_mul, Nat.one_mul]
  omega
theorem short_join {l : List (List UInt8)} (hl : l.length ≤ 200000) (h : ∀ x ∈ l, x.length ≤ 50) : shortB (joinS l [32]) = true := by
 have := join_len l [32] h
 have h2 : l.length * (50 + [(32 : UInt8)].length) ≤ 200000 * 51 := Nat.mul_le_mul_right _ hl
 exact decide_eq_true (by omega)
theorem room_le {n b : Nat} (h : n ≤ 1000000) (hb : b ≤ 1000) : roomB n b = true := by
 show decide (n * b ≤ 140737488355328 ∧ n ≤ maxLen) = true
 rw [maxLen_eq]
 have : n * b ≤ 1000000 * 1000 := Nat.mul_le_mul h hb
 exact decide_eq_true ⟨by omega, by omega⟩
theorem wordO_len (k : Int) : (wordO k).length ≤ 50 := by
 unfold wordO
 repeat' split
 all_goals decide
theorem loop35q {H0 : Mem} {w0 : World} {q : List Int} {W : List UInt8} {φ : Sh → Prop} (hq : q.length ≤ 100000) (h64 : ∀ x ∈ q, in64 x = true) (hW : W.length ≤ 50) (hφ : φ (.str (joinS (W :: q.map itoaS) [32]))) :
  ∀ r k, k + r = q.length → GoesS Tryz.prog (C7 prim W7 specB sAl) (K0 H0 w0) 35 td35q (LO35q q.length (nth q) (k : Int) (k + 1) (fnR (nth (W :: (q.take k).map itoaS)))) [] emp φ
 | r, k, hkr => by
  refine gSi (fn := Tryz.f35) (tb := tb35q) (by kernel_rfl) (by kernel_rfl) ?_
  refine gSr (C7.ok _ _) (fokB _) (hold := nH0) (m := 300) (n := 400) (ts := [⟨35, td35q, LO35q q.length (nth q) (k + 1 : Nat) (k + 1 + 1) (fnR (nth (W :: (q.take (k + 1)).map itoaS))), []⟩]) ?_
  rw [b35q prim W7 q.length (nth q) k (k + 1 : Nat) (k + 1) (k + 1 + 1) (fnR (nth (W :: (q.take k).map itoaS))) (fnR (nth (W :: (q.take (k + 1)).map itoaS)))]
  have hlen : (W :: (q.take k).map itoaS).length = k + 1 := by simp; omega
  simp only [prim_lt, prim_inB, prim_toN, prim_add, one_eq, Int.toNat_natCast, addN1]
  refine ⟨fun h => ?_, fun h => ?_⟩
  ·have hlt : k < q.length := by simp at h; omega
   have hx : nth q k = q[k] := by simp [nth, hlt]
   refine ⟨by simp; omega, by rw [hx]; exact h64 _ (List.getElem_mem hlt), room_le (by omega) (by omega), ⟨rfl, rfl, ?_, rfl, ?_, trivial⟩, _, rfl, ?_⟩
   ·simp only [Eqn.ok]; rw [wrap_id (by omega) (by omega)]; rfl
   ·have e : W :: (q.take (k + 1)).map itoaS = (W :: (q.take k).map itoaS) ++ [itoaS (nth q k)] := by
     rw [hx, List.take_succ_eq_append_getElem hlt, List.map_append]; rfl
    have := snoc_nth (W :: (q.take k).map itoaS) (itoaS (nth q k)) (r := [[.str (itoaS (nth q k))]]) rfl
    rw [hlen] at this
    rw [e]
    exact this
   ·match r, hkr with
    | 0, hkr => omega
    | r + 1, hkr => exact loop35q hq h64 hW hφ r (k + 1) (by omega)
  ·have hk : k = q.length := by simp at h; omega
   subst hk
   rw [List.take_length] at hlen ⊢
   rw [lst_fn _ hlen]
   refine ⟨okB_put _ _, room_le (by omega) (by omega), short_join (by simp; omega) fun x hx => ?_, hφ⟩
   rcases List.mem_cons.1 hx with rfl | hx
   ·exact hW
   ·obtain ⟨y, hy, rfl⟩ := List.mem_map.1 hx
    have := itoa_len (h64 y hy); omega
theorem pair_len {p : Pr} (h1 : in64 p.key = true) (h2 : in64 p.val = true) : (itoaS p.key ++ [58] ++ itoaS p.val).length ≤ 50 := by
 have := itoa_len h1; have := itoa_len h2
 simp; omega
theorem loop35p {H0 : Mem} {w0 : World} {q : List Pr} {W : List UInt8} {φ : Sh → Prop} (hq : q.length ≤ 100000) (h64 : ∀ x ∈ q, in64 x.key = true ∧ in64 x.val = true) (hW : W.length ≤ 50) (hφ : φ (.str (joinS (W :: q.map (fun p => itoaS p.key ++ [58] ++ itoaS p.val)) [32]))) :
  ∀ r k, k + r = q.length → GoesS Tryz.prog (C7 prim W7 specB sAl) (K0 H0 w0) 35 td35p (LO35p q.length (nth q) (k : Int) (k + 1) (fnR (nth (W :: (q.take k).map (fun p => itoaS p.key ++ [58] ++ itoaS p.val))))) [] emp φ
 | r, k, hkr => by
  refine gSi (fn := Tryz.f35) (tb := tb35p) (by kernel_rfl) (by kernel_rfl) ?_
  refine gSr (C7.ok _ _) (fokB _) (hold := nH0) (m := 300) (n := 400) (ts := [⟨35, td35p, LO35p q.length (nth q) (k + 1 : Nat) (k + 1 + 1) (fnR (nth (W :: (q.take (k + 1)).map (fun p => itoaS p.key ++ [58] ++ itoaS p.val)))), []⟩]) ?_
  rw [b35p prim W7 q.length (nth q) k (k + 1 : Nat) (k + 1) (k + 1 + 1) (fnR (nth (W :: (q.take k).map (fun p => itoaS p.key ++ [58] ++ itoaS p.val)))) (fnR (nth (W :: (q.take (k + 1)).map (fun p => itoaS p.key ++ [58] ++ itoaS p.val))))]
  have hlen : (W :: (q.take k).map (fun p => itoaS p.key ++ [58] ++ itoaS p.val)).length = k + 1 := by simp; omega
  simp only [prim_lt, prim_inB, prim_toN, prim_add, one_eq, Int.toNat_natCast, addN1]
  refine ⟨fun h => ?_, fun h => ?_⟩
  ·have hlt : k < q.length := by simp at h; omega
   have hx : nth q k = q[k] := by simp [nth, hlt]
   obtain ⟨p1, p2⟩ := h64 _ (List.getElem_mem hlt)
   rw [← hx] at p1 p2
   have l1 := itoa_len p1
   have l2 := itoa_len p2
   refine ⟨by simp; omega, p1, ?_, p2, ?_, room_le (by omega) (by omega), ⟨rfl, rfl, ?_, rfl, ?_, trivial⟩, _, rfl, ?_⟩
   ·show decide ((itoaS (nth q k).key).length + 1 ≤ 9223372036854775807) = true
    exact decide_eq_true (by omega)
   ·show decide ((itoaS (nth q k).key ++ [58]).length + (itoaS (nth q k).val).length ≤ 9223372036854775807) = true
    exact decide_eq_true (by rw [List.length_append]; simp; omega)
   ·simp only [Eqn.ok]; rw [wrap_id (by omega) (by omega)]; rfl
   ·have e : W :: (q.take (k + 1)).map (fun p => itoaS p.key ++ [58] ++ itoaS p.val) = (W :: (q.take k).map (fun p => itoaS p.key ++ [58] ++ itoaS p.val)) ++ [itoaS (nth q k).key ++ [58] ++ itoaS (nth q k).val] := by
     rw [hx, List.take_succ_eq_append_getElem hlt, List.map_append]; rfl
    have := snoc_nth (W :: (q.take k).map (fun p => itoaS p.key ++ [58] ++ itoaS p.val)) (itoaS (nth q k).key ++ [58] ++ itoaS (nth q k).val) (r := [[.str (itoaS (nth q k).key ++ [58] ++ itoaS (nth q k).val)]]) rfl
    rw [hlen] at this
    rw [e]
    exact this
   ·match r, hkr with
    | 0, hkr => omega
    | r + 1, hkr => exact loop35p hq h64 hW hφ r (k + 1) (by omega)
  ·have hk : k = q.length := by simp at h; omega
   subst hk
   rw [List.take_length] at hlen ⊢
   rw [lst_fn _ hlen]
   refine ⟨okB_put _ _, room_le (by omega) (by omega), short_join (by simp; omega) fun x hx => ?_, hφ⟩
   rcases List.mem_cons.1 hx with rfl | hx
   ·exact hW
   ·obtain ⟨y, hy, rfl⟩ := List.mem_map.1 hx
    exact pair_len (h64 y hy).1 (h64 y hy).2
theorem lst_mem {α : Type} [Row α] {n : Nat} {g : Nat → List Sh} {x : α} (h : x ∈ lst α n g) : ∃ j, j < n ∧ x = rwAt g j := by
 obtain ⟨j, hj, rfl⟩ := List.mem_map.1 h
 exact ⟨j, List.mem_range.1 hj, rfl⟩
theorem rep_rows_lst {α : Type} [Row α] {H : Mem} {st n : Nat} {g : Nat → List Sh} {v : Value} (h : Rep H (.sl st n g) v) (hg : okB α n g = true) : Rep H (.sl st (lst α n g).length (fnR (nth (lst α n g)))) v := by
 rw [lst_length]
 refine rep_sl_congr h fun j hj => ?_
 rw [okB_at hg j hj]
 simp only [fnR, nth_lst hj]
theorem O35 : FnOK Tryz.prog (gls7 W7) 35 F35 := by
 refine fnOK_S (C := C7 prim W7 specB sAl) (C7.ok _ _) (fn := Tryz.f35) (by kernel_rfl) (by kernel_rfl) fun H w shs args φ hrep h => ?_
 have hn : Tryz.f35.ntmps = 61 := by kernel_rfl
 unfold F35 at h
 split at h
 ·rename_i x y s2 s3
  split at h
  ·rename_i a hh b l hs2 hs3
   obtain ⟨h1, h2, h3, h4, h5, h6, h7, hφ⟩ := h
   have h7 := of_decide_eq_true h7
   match args, hrep with
   | [v], ⟨hv, _⟩ =>
    have l1 : (lst Int a hh).length = a := lst_length _ _
    have l2 : (lst Pr b l).length = b := lst_length _ _
    have m1 : ∀ z ∈ lst Int a hh, in64 z = true := fun z hz => by
     obtain ⟨j, hj, rfl⟩ := lst_mem hz
     exact all_range h5 j hj
    have m2 : ∀ z ∈ lst Pr b l, in64 z.key = true ∧ in64 z.val = true := fun z hz => by
     obtain ⟨j, hj, rfl⟩ := lst_mem hz
     simpa using all_range h6 j hj
    refine ⟨[.agg [.i .i64 x, .i .i64 y, .sl 1 (lst Int a hh).length (fnR (nth (lst Int a hh))), .sl 2 (lst Pr b l).length (fnR (nth (lst Pr b l)))]], ⟨rep_agg4 hv (fun u hu => rep_rows_lst (rep_slN hs2 hu) h1) (fun u hu => rep_rows_lst (rep_slN hs3 hu) h2), trivial⟩, L0, ?_⟩
    generalize lst Int a hh = q at *
    generalize lst Pr b l = ps at *
    have hφ : φ (.str (joinS (partsS ⟨x, y, q, ps⟩) [32])) := hφ
    refine gSr (C7.ok _ _) (fokB _) (hold := nH0) (m := 300) (n := 400) (ts := [⟨35, td35q, LO35q q.length (nth q) (0 : Nat) 1 (fnR (nth [wordO x])), []⟩, ⟨35, td35p, LO35p ps.length (nth ps) (0 : Nat) 1 (fnR (nth [wordO x])), []⟩]) ?_
    rw [hn, a35 prim W7 x y q.length ps.length (nth q) (nth ps) (0 : Nat) 1 (fnR (nth [wordO x])), lst_two, lst_one]
    have hw := wordO_len x
    have hy := itoa_len h4
    have two : shortB (joinS [wordO x, itoaS y] [32]) = true := short_join (by simp) fun z hz => by
     simp at hz
     rcases hz with rfl | rfl
     ·exact hw
     ·omega
    refine ⟨rfl, h3, fun e => ⟨h4, rfl, room_le (by omega) (by omega), two, ?_⟩, fun e1 => ⟨fun e => ⟨h4, rfl, room_le (by omega) (by omega), two, ?_⟩, fun e2 => ⟨fun e => ⟨⟨rfl, rfl, rfl, rfl, fun j hj => ?_, trivial⟩, _, rfl, ?_⟩, fun e3 => ⟨fun e => ⟨⟨rfl, rfl, rfl, rfl, fun j hj => ?_, trivial⟩, _, rfl, ?_⟩, fun e4 => ⟨rfl, room_le (by omega) (by omega), short_join (by simp) fun z hz => ?_, ?_⟩⟩⟩⟩⟩
    ·have e : x = 1 := by simpa [prim_eq] using e
     subst e
     exact hφ
    ·have e : x = 2 := by simpa [prim_eq] using e
     subst e
     exact hφ
    ·obtain rfl : j = 0 := by omega
     rfl
    ·have e : x = 3 := by simpa [prim_eq] using e
     subst e
     exact loop35q (by omega) m1 hw hφ q.length 0 (by omega)
    ·obtain rfl : j = 0 := by omega
     rfl
    ·have e : x = 4 := by simpa [prim_eq] using e
     subst e
     exact loop35p (by omega) m2 hw hφ ps.length 0 (by omega)
    ·simp at hz; subst hz; exact hw
    ·have e1 : ¬ x = 1 := by simpa [prim_eq] using e1
     have e2 : ¬ x = 2 := by simpa [prim_eq] using e2
     have e3 : ¬ x = 3 := by simpa [prim_eq] using e3
     have e4 : ¬ x = 4 := by simpa [prim_eq] using e4
     have e : partsS ⟨x, y, q, ps⟩ = [wordO x] := by simp [partsS, e1, e2, e3, e4]
     rw [e] at hφ
     exact hφ
  ·exact h.elim
 ·exact h.elim
end Go.Proofs
namespace Go.Sx
open Go.RowKit Go.Lib
section
variable {P : Program}
theorem copy_rowN (w : World) (dT sT ty elem : TypeId) (sz g o dLen dCap : Nat) (a : Addr) (sLen sCap : Nat) (cur : Array Value) (t : TypeId) (cs : List Value)
  (hu : P.underlying dT = some (.slice elem)) (hs : (P.info? elem).map (·.size) = some sz)
  (hg : w.heap[g]? = some (.cells cur t (0, 0))) (hn : cs.length = Nat.min sLen dLen * sz)
  (hsrc : ∀ j v, cs[j]? = some v → w.cell? (a.add j) = some v) (hfit : o + cs.length ≤ cur.size) (h1 : ∀ v ∈ cs, v.oneCell' = true) :
  (Builtin.copy_ #[dT, sT] ty #[.slice (some ⟨g, o, none⟩) dLen dCap, .slice (some a) sLen sCap]).run P w =
   .ok (goInt (Nat.min sLen dLen)) (w.setRow g (cur.toList.take o ++ cs ++ cur.toList.drop (o + cs.length)).toArray) := by
 have hl := run_loadCells_list (P := P) w a cs hsrc
 have hst := run_storeCells_at P g o t cs 0 cur w hg (by simpa using hfit) h1
 cases hq : P.info? elem with
 | none => simp [hq] at hs
 | some i =>
  have hi : i.size = sz := by simpa [hq] using hs
  simp [Builtin.copy_, run_underlying hu, Builtin.lenOf, Builtin.firstCells, sizeOf, typeInfo, hq, hi, ← hn, hl, hst]
end
end Go.Sx
namespace Go.Proofs
open Go Go.Sx Go.RowKit Go.Lib
theorem info116 : ∃ (i : TypeInfo) (z : Value), Tryz.prog.info? 116 = some i ∧ i.size = 2 ∧ i.bytes = 16 ∧ i.zero = some z ∧ z.cells.size = 2 ∧ ∃ cs, z = .agg cs := by
 obtain ⟨inf, z, h1, h2, h3, h4, _, h6, h7, _⟩ := ((C7.ok noSpec unroll).ty 116 ⟨.struct [(0, 1, false), (1, 1, false)], 2, 16, [.int .i64 0, .int .i64 0]⟩ (by kernel_rfl)).info
 exact ⟨inf, z, h1, h2, h3, h4, h6, h7 rfl⟩
set_option maxHeartbeats 4000000 in
set_option maxRecDepth 100000 in
theorem ins_shift (w : World) (g n c i vb vc : Nat) (cur : Array Value) (cs vs : List Value) (hg : w.heap[g]? = some (.cells cur 116 (0, 0))) (cur2 : Array Value) (hgb : w.heap[vb]? = some (.cells cur2 116 (0, 0)))
  (hi : i < n) (hroom : n + 1 ≤ c) (hc63 : c ≤ 9223372036854775807) (hvb : vb ≠ g) (hcap : cur.size = c * 2) (hcs : cur.toList.take (n * 2) = cs) (hvs : cur2.toList.take 2 = vs) (hvl : vs.length = 2) (hv2 : 2 ≤ cur2.size)
  (h1c : ∀ v ∈ cs, v.oneCell' = true) (h1v : ∀ v ∈ vs, v.oneCell' = true) :
  Calls Tryz.prog 103 #[.slice (some ⟨g, 0, none⟩) n c, .int .i64 i, .slice (some ⟨vb, 0, none⟩) 1 vc] w fun e w' =>
   e = .returned (.slice (some ⟨g, 0, none⟩) (n + 1) c) ∧ ∃ cur', w'.heap[g]? = some (.cells cur' 116 (0, 0)) ∧ cur'.size = c * 2 ∧ cur'.toList.take ((n + 1) * 2) = cs.take (i * 2) ++ vs ++ cs.drop (i * 2) ∧ w.grownBy w' (some g) := by
 obtain ⟨inf, z, i1, i2, i3, i4, i5, _⟩ := info116
 have hsz : (Tryz.prog.info? 116).map (·.size) = some 2 := by rw [i1]; simp [i2]
 have hse : ∀ w, (Go.sizeOf 116).run Tryz.prog w = .ok 2 w := fun w => by simp [Go.sizeOf, typeInfo, i1, i2]
 have hov : ∀ lb cb, (callFunc 128 #[.slice (some ⟨vb, 0, none⟩) 1 vc, .slice (some ⟨g, (i + 1) * 2, none⟩) lb cb]).run Tryz.prog w = .ok (.value (.bool false)) w := fun lb cb => by
  rw [run_callFunc_extern Tryz.func128 (by kernel_rfl) (by kernel_rfl) (by kernel_rfl) (e := Extern.SlicesOverlaps.overlaps #[70, 70] #[4]) (by kernel_rfl),
   Lib.run_overlaps_apart w 70 4 116 Tryz.underlying70 2 hse ⟨vb, 0, none⟩ ⟨g, (i + 1) * 2, none⟩ 1 vc lb cb hvb 116 116 cur2.size cur.size (by simp [World.shape?, hgb]) (by simp [World.shape?, hg]) (by omega) (by simp [World.frozen?, hgb]) (by simp [World.frozen?, hgb])]
  rfl
 have hw1 : IntKind.i64.wrap ((i : Int) + 1) = (i : Int) + 1 := by rw [IntKind.wrap_i64]; omega
 have hw2 : IntKind.i64.wrap ((n : Int) + 1) = (n : Int) + 1 := by rw [IntKind.wrap_i64]; omega
 have hcl : cs.length = n * 2 := by rw [← hcs, List.length_take, Array.length_toList]; omega
 have hdl : (cs.drop (i * 2)).length = (n - i) * 2 := by rw [List.length_drop, hcl]; omega
 obtain ⟨R1, hR1⟩ : ∃ R1, R1 = (cur.toList.take ((i + 1) * 2) ++ cs.drop (i * 2) ++ cur.toList.drop ((i + 1) * 2 + (cs.drop (i * 2)).length)).toArray := ⟨_, rfl⟩
 have hR1s : R1.size = c * 2 := by rw [hR1]; simp only [List.size_toArray, List.length_append, List.length_take, List.length_drop, Array.length_toList, hcl]; omega
 obtain ⟨R2, hR2⟩ : ∃ R2, R2 = (R1.toList.take (i * 2) ++ vs ++ R1.toList.drop (i * 2 + vs.length)).toArray := ⟨_, rfl⟩
 have hcur : ∀ j v, cs[j]? = some v → cur.toList[j]? = some v := fun j v hj => by
  rw [← hcs, List.getElem?_take] at hj
  split at hj
  ·exact hj
  ·cases hj
 have hcp1 : ∀ (W : World), W.heap[g]? = some (.cells cur 116 (0, 0)) → ∀ ty dc sc, (Builtin.copy_ #[70, 70] ty #[.slice (some ⟨g, (i + 1) * 2, none⟩) (n - i) dc, .slice (some ⟨g, i * 2, none⟩) (n + 1 - i) sc]).run Tryz.prog W = .ok (goInt ((n - i : Nat) : Int)) (W.setRow g R1) := fun W hW ty dc sc => by
  have hmin : Nat.min (n + 1 - i) (n - i) = n - i := by simp only [Nat.min_def]; split <;> omega
  have := copy_rowN W 70 70 ty 116 2 g ((i + 1) * 2) (n - i) dc ⟨g, i * 2, none⟩ (n + 1 - i) sc cur 116 (cs.drop (i * 2)) Tryz.underlying70 hsz hW (by rw [hmin, hdl]) (fun j v hj => by
    rw [Addr.add_lit, cell_of_row W g _ cur 116 (0, 0) hW]
    rw [List.getElem?_drop] at hj
    have := hcur _ _ hj
    simpa using this) (by rw [hdl, hcap]; omega) (fun v hv => h1c v (List.mem_of_mem_drop hv))
  rw [hmin, ← hR1] at this
  exact this
 have hcp2 : ∀ (W : World), W.heap[g]? = some (.cells R1 116 (0, 0)) → W.heap[vb]? = some (.cells cur2 116 (0, 0)) → ∀ ty dc, (Builtin.copy_ #[70, 70] ty #[.slice (some ⟨g, i * 2, none⟩) (n + 1 - i) dc, .slice (some ⟨vb, 0, none⟩) 1 vc]).run Tryz.prog W = .ok (goInt 1) (W.setRow g R2) := fun W hW hW2 ty dc => by
  have hmin : Nat.min 1 (n + 1 - i) = 1 := by simp only [Nat.min_def]; split <;> omega
  have := copy_rowN W 70 70 ty 116 2 g (i * 2) (n + 1 - i) dc ⟨vb, 0, none⟩ 1 vc R1 116 vs Tryz.underlying70 hsz hW (by rw [hmin, hvl]) (fun j v hj => by
    rw [Addr.add_lit, cell_of_row W vb _ cur2 116 (0, 0) hW2]
    rw [← hvs, List.getElem?_take] at hj
    split at hj
    ·simpa using hj
    ·cases hj) (by rw [hvl, hR1s]; omega) h1v
  rw [hmin, ← hR2] at this
  exact this
 have hfin : R2.size = c * 2 ∧ R2.toList.take ((n + 1) * 2) = cs.take (i * 2) ++ vs ++ cs.drop (i * 2) := by
  have hl1 : R1.toList.length = c * 2 := by rw [Array.length_toList, hR1s]
  refine ⟨by rw [hR2]; simp only [List.size_toArray, List.length_append, List.length_take, List.length_drop, hl1, hvl]; omega, ?_⟩
  have ht1 : R1.toList.take (i * 2) = cs.take (i * 2) := by
   rw [hR1]
   simp only [List.append_assoc]
   rw [List.take_append_of_le_length (by rw [List.length_take, Array.length_toList]; omega), List.take_take, ← hcs, List.take_take]
   congr 1
   omega
  have hd1 : R1.toList.drop (i * 2 + 2) = cs.drop (i * 2) ++ cur.toList.drop ((n + 1) * 2) := by
   rw [hR1]
   have e1 : (cur.toList.take ((i + 1) * 2)).length = i * 2 + 2 := by rw [List.length_take, Array.length_toList]; omega
   simp only [List.append_assoc]
   have e3 : List.drop (i * 2 + 2) (cur.toList.take ((i + 1) * 2) ++ (cs.drop (i * 2) ++ cur.toList.drop ((i + 1) * 2 + (cs.drop (i * 2)).length))) = cs.drop (i * 2) ++ cur.toList.drop ((i + 1) * 2 + (cs.drop (i * 2)).length) := by
    conv => lhs; rw [← e1]
    exact List.drop_left
   rw [e3, hdl]
   congr 2
   omega
  rw [hR2, hvl, hd1, ht1]
  simp only [← List.append_assoc]
  have e2 : (cs.take (i * 2) ++ vs ++ cs.drop (i * 2)).length = (n + 1) * 2 := by
   rw [List.length_append, List.length_append, List.length_take, hvl, hdl, hcl]; omega
  rw [← e2]
  exact List.take_left
 have hgl : g < w.heap.size := (Array.getElem?_eq_some_iff.1 hg).1
 have mixed : Tryz.prog.follows .mixedOrders = true := Tryz.mixed_
 have hb1 : (0 : Int) ≤ (i : Int) + 1 := by omega
 have hin : i ≤ n := by omega
 have htn : ((i : Int) + 1).toNat = i + 1 := by omega
 have hb2 : ¬ (c = i + 1) := by omega
 have hb3 : (i : Int) ≤ (n : Int) + 1 := by omega
 have hb4 : ¬ (c = i) := by omega
 clear hcs hvs h1c h1v hcur hR1 hR2
 have hc2 := hcp2 (w.drew.setRow g R1) (setRow_heap w.drew g cur R1 116 (0, 0) hg) (by rw [setRow_other _ _ _ _ hvb]; exact hgb) 3 (c - i)
 go_enter Tryz.func103, Tryz.ntmps103
 go_wp2_with (simp only [hov])
 go_region_law_o (refine step_copy_runI rfl (.tmp 73) (.tmp 76) 70 70 rfl (.slice (some ⟨g, (i + 1) * 2, none⟩) (n - i) (c - (i + 1))) (.slice (some ⟨g, i * 2, none⟩) (n + 1 - i) (c - i)) (by simp [Act.eval, Act.put]) (by simp [Act.eval, Act.put]) (hcp1 w.drew hg 3 (c - (i + 1)) (c - i)) ?_)
 go_wp2
 go_ret
 refine ⟨rfl, R2, setRow_heap _ g R1 R2 116 (0, 0) (setRow_heap w.drew g cur R1 116 (0, 0) hg), hfin.1, hfin.2, ⟨rfl, rfl, rfl, by simp [World.setRow], fun k hk hne => ?_⟩⟩
 have hkg : k ≠ g := fun e => hne (by rw [e])
 rw [setRow_other _ _ _ _ hkg, setRow_other _ _ _ _ hkg]
 rfl
set_option maxHeartbeats 4000000 in
set_option maxRecDepth 100000 in
theorem ins_end (w : World) (v x : Value) (n vc : Nat) (xs news : List Value) (vb : Nat) (hv : w.ownsRow 0 116 2 v n xs) (hx : x = .slice (some ⟨vb, 0, none⟩) 1 vc) (hnews : ∀ j u, news[j]? = some u → w.cell? ((⟨vb, 0, none⟩ : Addr).add j) = some u) (hl : news.length = 2) (h1 : ∀ u ∈ news, u.oneCell' = true)
  (h63 : n + 1 ≤ maxLen) (hbytes : (n + 1) * 16 ≤ 140737488355328) :
  Calls Tryz.prog 103 #[v, .int .i64 n, x] w fun e w' => ∃ v', e = .returned v' ∧ w'.ownsRow 0 116 2 v' (n + 1) (xs ++ news) ∧ w.grownBy w' (blkV v) ∧ ∀ b, blkV v' = some b → blkV v = some b ∨ w.heap.size ≤ b := by
 obtain ⟨inf, z, i1, i2, i3, i4, i5, _⟩ := info116
 obtain ⟨v', w', hr, h2, h3, h4⟩ := append_own (P := Tryz.prog) (w := w) 70 70 116 inf z 2 16 Tryz.underlying70 i1 i4 i2 i3 i5 (by decide) v n xs hv ⟨vb, 0, none⟩ 1 vc news (by rw [hl]) hnews h1 h63 hbytes
 subst hx
 have hsmall : n + 1 ≤ 9223372036854775807 := by simp only [maxLen] at h63; omega
 have hov2 : v = .slice none 0 0 ∧ n = 0 ∨ ∃ g c, v = .slice (some ⟨g, 0, none⟩) n c ∧ n ≤ c ∧ c ≤ 9223372036854775807 := by
  rcases hv.2 with ⟨e1, e2⟩ | ⟨g, c, cur, e1, _, _, e2, e3, _⟩
  ·exact .inl ⟨e1, e2⟩
  ·exact .inr ⟨g, c, e1, e2, by simp only [maxLen] at e3; omega⟩
 clear hv hnews h1
 rcases hov2 with ⟨rfl, rfl⟩ | ⟨g, c, rfl, hnc, hc63⟩
 ·go_enter Tryz.func103, Tryz.ntmps103
  go_wp2_with (at_builtin; refine Lib.wpList_append_run _ rfl _ _ _ _ rfl _ _ rfl rfl _ _ hr ?_)
  go_ret
  exact ⟨v', rfl, h2, h3, h4⟩
 ·go_enter Tryz.func103, Tryz.ntmps103
  go_wp2_with (at_builtin; refine Lib.wpList_append_run _ rfl _ _ _ _ rfl _ _ rfl rfl _ _ hr ?_)
  all_goals
   go_ret
   exact ⟨v', rfl, h2, h3, h4⟩
set_option maxHeartbeats 4000000 in
set_option maxRecDepth 100000 in
theorem ins_grow (w : World) (g n c i vb vc : Nat) (cur : Array Value) (cs vs : List Value) (hg : w.heap[g]? = some (.cells cur 116 (0, 0))) (cur2 : Array Value) (hgb : w.heap[vb]? = some (.cells cur2 116 (0, 0)))
  (hi : i < n) (hnc : n ≤ c) (hroom : c < n + 1) (hn63 : n + 1 ≤ maxLen) (hbig : (n + 1) * 16 ≤ 140737488355328) (hcap : cur.size = c * 2) (hcs : cur.toList.take (n * 2) = cs) (hvs : cur2.toList.take 2 = vs) (hvl : vs.length = 2)
  (h1c : ∀ v ∈ cs, v.oneCell' = true) (h1v : ∀ v ∈ vs, v.oneCell' = true) :
  Calls Tryz.prog 103 #[.slice (some ⟨g, 0, none⟩) n c, .int .i64 i, .slice (some ⟨vb, 0, none⟩) 1 vc] w fun e w' =>
   ∃ G cur', e = .returned (.slice (some ⟨w.heap.size, 0, none⟩) (n + 1) G) ∧ w'.heap[w.heap.size]? = some (.cells cur' 116 (0, 0)) ∧ n + 1 ≤ G ∧ G ≤ maxLen ∧ cur'.size = G * 2 ∧ cur'.toList.take ((n + 1) * 2) = cs.take (i * 2) ++ vs ++ cs.drop (i * 2) ∧ w.grownBy w' (some g) := by
 obtain ⟨inf, z, i1, i2, i3, i4, i5, zs, hz⟩ := info116
 have hsz : (Tryz.prog.info? 116).map (·.size) = some 2 := by rw [i1]; simp [i2]
 have hse : ∀ w, (Go.sizeOf 116).run Tryz.prog w = .ok 2 w := fun w => by simp [Go.sizeOf, typeInfo, i1, i2]
 have hsmall : n + 1 ≤ 9223372036854775807 := by simp only [maxLen] at hn63; omega
 have hw1 : IntKind.i64.wrap ((i : Int) + 1) = (i : Int) + 1 := by rw [IntKind.wrap_i64]; omega
 have hw2 : IntKind.i64.wrap ((n : Int) + 1) = (n : Int) + 1 := by rw [IntKind.wrap_i64]; omega
 have hw3 : IntKind.i64.wrap ((n : Int) + 1 - (i : Int)) = (n : Int) + 1 - (i : Int) := by rw [IntKind.wrap_i64]; omega
 have hcl : cs.length = n * 2 := by rw [← hcs, List.length_take, Array.length_toList]; omega
 have hdl : (cs.drop (i * 2)).length = (n - i) * 2 := by rw [List.length_drop, hcl]; omega
 have htl : (cs.take (i * 2)).length = i * 2 := by rw [List.length_take, hcl]; omega
 have hcur : ∀ j v, cs[j]? = some v → cur.toList[j]? = some v := fun j v hj => by
  rw [← hcs, List.getElem?_take] at hj
  split at hj
  ·exact hj
  ·cases hj
 have hgl : g < w.heap.size := (Array.getElem?_eq_some_iff.1 hg).1
 have hvl2 : vb < w.heap.size := (Array.getElem?_eq_some_iff.1 hgb).1
 have hold : (Builtin.firstCells inf.size i (.slice (some ⟨g, 0, none⟩) i c)).run Tryz.prog w.drew = .ok (cs.take (i * 2)).toArray w.drew := by
  rw [i2]
  exact run_firstCells_some w.drew 2 i ⟨g, 0, none⟩ i c (cs.take (i * 2)) htl (fun j v hj => by
   rw [Addr.add_lit, cell_of_row w.drew g _ cur 116 (0, 0) hg]
   rw [List.getElem?_take] at hj
   split at hj
   ·have := hcur _ _ hj
    simpa using this
   ·cases hj)
 obtain ⟨G, hG⟩ : ∃ G, G = grownCap w (n + 1) c 116 := ⟨_, rfl⟩
 obtain ⟨ROW, hROW⟩ : ∃ ROW : Array Value, ROW = (cs.take (i * 2)).toArray ++ Builtin.zeroCells z.cells (n + 1 - i) ++ Builtin.zeroCells z.cells (G - (n + 1)) := ⟨_, rfl⟩
 have hGn : n + 1 ≤ G := by rw [hG]; exact grownCap_ge w _ _ _
 have hGm : G ≤ maxLen := by rw [hG]; exact grownCap_le_maxLen w (n + 1) c 116 hn63
 have hG63 : G ≤ 9223372036854775807 := by simp only [maxLen] at hGm; omega
 have hrz : ∀ ty, (Builtin.append_ #[70, 3] ty #[.slice (some ⟨g, 0, none⟩) i c, .int .i64 ((n : Int) + 1 - (i : Int))]).run Tryz.prog w =
   .ok (.slice (some ⟨w.heap.size, 0, none⟩) (n + 1) G) (w.drew.alloc (.cells ROW 116)) := fun ty => by
  have h := Lib.run_append_grow_zeros w 70 3 ty 116 inf z .i64 .i64 Tryz.underlying70 Tryz.underlying3 i1 i4 (some ⟨g, 0, none⟩) i c (cs.take (i * 2)) hold (n + 1 - i) (by omega) (by omega) (by omega) (by omega) (by rw [i3]; omega) (by rw [i3, show i + (n + 1 - i) = n + 1 by omega]; exact growslice_fits (by omega) hbig)
  rw [show i + (n + 1 - i) = n + 1 by omega, show (((n + 1 - i : Nat)) : Int) = (n : Int) + 1 - (i : Int) by omega, ← hG, ← hROW] at h
  exact h
 have hRs : ROW.size = G * 2 := by
  rw [hROW]
  simp only [Array.size_append, List.size_toArray, size_zeroCells, i5, htl]
  omega
 obtain ⟨R1, hR1⟩ : ∃ R1, R1 = (ROW.toList.take (i * 2) ++ vs ++ ROW.toList.drop (i * 2 + vs.length)).toArray := ⟨_, rfl⟩
 have hR1s : R1.size = G * 2 := by rw [hR1]; simp only [List.size_toArray, List.length_append, List.length_take, List.length_drop, Array.length_toList, hvl]; omega
 obtain ⟨R2, hR2⟩ : ∃ R2, R2 = (R1.toList.take ((i + 1) * 2) ++ cs.drop (i * 2) ++ R1.toList.drop ((i + 1) * 2 + (cs.drop (i * 2)).length)).toArray := ⟨_, rfl⟩
 obtain ⟨W1, hW1⟩ : ∃ W1, W1 = w.drew.alloc (.cells ROW 116) := ⟨_, rfl⟩
 rw [← hW1] at hrz
 have hW1g : W1.heap[w.heap.size]? = some (.cells ROW 116 (0, 0)) := by rw [hW1]; exact heap_alloc_new w.drew _
 have hW1o : ∀ k, k < w.heap.size → W1.heap[k]? = w.heap[k]? := fun k hk => by rw [hW1]; first | exact Go.heap_alloc_old w.drew _ k hk | exact heap_alloc_old w.drew _ hk
 have hcp1 : (Builtin.copy_ #[70, 70] 3 #[.slice (some ⟨w.heap.size, i * 2, none⟩) (n + 1 - i) (G - i), .slice (some ⟨vb, 0, none⟩) 1 vc]).run Tryz.prog W1 = .ok (goInt 1) (W1.setRow w.heap.size R1) := by
  have hmin : Nat.min 1 (n + 1 - i) = 1 := by simp only [Nat.min_def]; split <;> omega
  have := copy_rowN W1 70 70 3 116 2 w.heap.size (i * 2) (n + 1 - i) (G - i) ⟨vb, 0, none⟩ 1 vc ROW 116 vs Tryz.underlying70 hsz hW1g (by rw [hmin, hvl]) (fun j v hj => by
    rw [Addr.add_lit, cell_of_row W1 vb _ cur2 116 (0, 0) (by rw [hW1o vb hvl2]; exact hgb)]
    rw [← hvs, List.getElem?_take] at hj
    split at hj
    ·simpa using hj
    ·cases hj) (by rw [hvl, hRs]; omega) h1v
  rw [hmin, ← hR1] at this
  exact this
 have hW2g : (W1.setRow w.heap.size R1).drew.heap[w.heap.size]? = some (.cells R1 116 (0, 0)) := setRow_heap W1 w.heap.size ROW R1 116 (0, 0) hW1g
 have hcp2 : (Builtin.copy_ #[70, 70] 3 #[.slice (some ⟨w.heap.size, (i + 1) * 2, none⟩) (n - i) (G - (i + 1)), .slice (some ⟨g, i * 2, none⟩) (n - i) (c - i)]).run Tryz.prog (W1.setRow w.heap.size R1).drew = .ok (goInt ((n - i : Nat) : Int)) ((W1.setRow w.heap.size R1).drew.setRow w.heap.size R2) := by
  have hmin : Nat.min (n - i) (n - i) = n - i := Nat.min_self _
  have := copy_rowN (W1.setRow w.heap.size R1).drew 70 70 3 116 2 w.heap.size ((i + 1) * 2) (n - i) (G - (i + 1)) ⟨g, i * 2, none⟩ (n - i) (c - i) R1 116 (cs.drop (i * 2)) Tryz.underlying70 hsz hW2g (by rw [hmin, hdl]) (fun j v hj => by
    rw [Addr.add_lit, cell_of_row (W1.setRow w.heap.size R1).drew g _ cur 116 (0, 0) (by
     show (W1.setRow w.heap.size R1).heap[g]? = _
     rw [setRow_other _ _ _ _ (by omega), hW1o g hgl]; exact hg)]
    rw [List.getElem?_drop] at hj
    have := hcur _ _ hj
    simpa using this) (by rw [hdl, hR1s]; omega) (fun v hv => h1c v (List.mem_of_mem_drop hv))
  rw [hmin, ← hR2] at this
  exact this
 have hfin : R2.size = G * 2 ∧ R2.toList.take ((n + 1) * 2) = cs.take (i * 2) ++ vs ++ cs.drop (i * 2) := by
  have hl1 : R1.toList.length = G * 2 := by rw [Array.length_toList, hR1s]
  refine ⟨by rw [hR2]; simp only [List.size_toArray, List.length_append, List.length_take, List.length_drop, hl1, hdl]; omega, ?_⟩
  have ht0 : ROW.toList.take (i * 2) = cs.take (i * 2) := by
   rw [hROW]
   simp only [Array.toList_append, List.append_assoc]
   exact List.take_left' htl
  have ht1 : R1.toList.take ((i + 1) * 2) = cs.take (i * 2) ++ vs := by
   rw [hR1, ht0]
   have e1 : (cs.take (i * 2) ++ vs).length = (i + 1) * 2 := by rw [List.length_append, htl, hvl]; omega
   rw [← e1]
   exact List.take_left
  rw [hR2, ht1]
  have e2 : (cs.take (i * 2) ++ vs ++ cs.drop (i * 2)).length = (n + 1) * 2 := by
   rw [List.length_append, List.length_append, htl, hvl, hdl]; omega
  rw [← e2]
  exact List.take_left
 have mixed : Tryz.prog.follows .mixedOrders = true := Tryz.mixed_
 have hb1 : (0 : Int) ≤ (i : Int) + 1 := by omega
 have hin : i ≤ n := by omega
 have htn : ((i : Int) + 1).toNat = i + 1 := by omega
 have hb2 : ¬ (c = i + 1) ∨ c = i + 1 := by omega
 have hb3 : (i : Int) ≤ (n : Int) + 1 := by omega
 have hb4 : ¬ (c = i) := by omega
 have hGi : ¬ (G = i) := by omega
 have hGim : ¬ (G = i + 1) := by omega
 have hz1 : ¬ ((i : Int) = (n : Int)) := by omega
 have hz3 : (c : Int) < (n : Int) + 1 := by omega
 have hr1 := hrz 70
 have hsz1 : W1.heap.size = w.heap.size + 1 := by rw [hW1]; simp
 have hos : W1.os = w.os ∧ W1.tape = w.tape ∧ W1.output = w.output := by rw [hW1]; exact ⟨rfl, rfl, rfl⟩
 clear hcs hvs h1c h1v hcur hR1 hR2 hROW hG hold hrz hb2 hW1
 go_enter Tryz.func103, Tryz.ntmps103
 go_wp2_with (first
  |(at_builtin; refine Lib.wpList_append_run _ rfl _ _ _ _ rfl _ _ rfl rfl _ _ hr1 ?_))
 go_region_law_o (refine step_copy_runI rfl (.tmp 50) (.tmp 53) 70 70 rfl (.slice (some ⟨w.heap.size, (i + 1) * 2, none⟩) (n - i) (G - (i + 1))) (.slice (some ⟨g, i * 2, none⟩) (n - i) (c - i)) (by simp [Act.eval, Act.put]) (by simp [Act.eval, Act.put]) hcp2 ?_)
 go_wp2
 go_ret
 refine ⟨G, R2, rfl, setRow_heap _ w.heap.size R1 R2 116 (0, 0) hW2g, hGn, hGm, hfin.1, hfin.2, ⟨hos.1, hos.2.1, hos.2.2, ?_, fun k hk hne => ?_⟩⟩
 ·have : ((W1.setRow w.heap.size R1).drew.setRow w.heap.size R2).heap.size = W1.heap.size := by simp [World.setRow, World.drew]
  rw [this, hsz1]; omega
 ·have hkg : k ≠ w.heap.size := by omega
  rw [setRow_other _ _ _ _ hkg]
  show (W1.setRow w.heap.size R1).heap[k]? = _
  rw [setRow_other _ _ _ _ hkg, hW1o k hk]
theorem ins103 : InsOK Tryz.prog 103 116 2 16 := by
 intro w v x n i xs news hv hx hne h1 h1n hi h63 hbytes
 have hl : news.length = 2 := by rw [hx.1]
 rcases hx.2 with ⟨_, h0⟩ | ⟨vb, vc, cur2, ex, _, hgb, hvc, hvm, hvs, hvt⟩
 ·omega
 have hb2 : blkV x = some vb := by rw [ex]; rfl
 have hcell : ∀ j u, news[j]? = some u → w.cell? ((⟨vb, 0, none⟩ : Addr).add j) = some u := fun j u hj => by
  rw [Addr.add_lit, cell_of_row w vb _ cur2 116 (0, 0) hgb]
  rw [← hvt, List.getElem?_take] at hj
  split at hj
  ·simpa using hj
  ·cases hj
 by_cases hin : i = n
 ·subst hin
  refine (ins_end w v x i vc xs news vb hv ex hcell hl h1n h63 hbytes).mono fun e w' ⟨v', e1, e2, e3, e4⟩ => ⟨v', e1, ?_, e3, e4⟩
  rw [List.take_of_length_le (by rw [hv.1]; exact Nat.le_refl _), List.drop_of_length_le (by rw [hv.1]; exact Nat.le_refl _), List.append_nil]
  exact e2
 rcases hv.2 with ⟨_, h0⟩ | ⟨g, c, cur, ev, _, hg, hnc, hcm, hcs, hct⟩
 ·omega
 have hb : blkV v = some g := by rw [ev]; rfl
 have hvg : vb ≠ g := fun e => hne g hb (by rw [hb2, e])
 have hlen : (xs.take (i * 2) ++ news ++ xs.drop (i * 2)).length = (n + 1) * 2 := by
  rw [List.length_append, List.length_append, List.length_take, List.length_drop, hl, hv.1]; omega
 have hvt2 : cur2.toList.take 2 = news := by simpa using hvt
 by_cases hroom : n + 1 ≤ c
 ·rw [hb, ev, ex]
  refine (ins_shift w g n c i vb vc cur xs news hg cur2 hgb (by omega) hroom (by simp only [maxLen] at hcm; omega) hvg hcs hct hvt2 hl (by omega) h1 h1n).mono fun e w' ⟨e1, cur', e2, e3, e4, e5⟩ => ⟨_, e1, ⟨hlen, .inr ⟨g, c, cur', rfl, Nat.zero_le _, e2, hroom, hcm, e3, e4⟩⟩, e5, fun b hb' => .inl hb'⟩
 ·rw [hb, ev, ex]
  refine (ins_grow w g n c i vb vc cur xs news hg cur2 hgb (by omega) hnc (by omega) h63 hbytes hcs hct hvt2 hl h1 h1n).mono fun e w' ⟨G, cur', e1, e2, e3, e4, e5, e6, e7⟩ => ⟨_, e1, ⟨hlen, .inr ⟨w.heap.size, G, cur', rfl, Nat.zero_le _, e2, e3, e4, e5, e6⟩⟩, e7, fun b hb' => .inr (by simp [blkV] at hb'; omega)⟩
end Go.Proofs
namespace Go.Pl
open Go Go.Sx
structure Lm7 where
 pos : Nat → (Nat → List Sh) → Int → Nat
 has : Nat → (Nat → List Sh) → Int → Bool
 wf : Nat → (Nat → List Sh) → Int → Bool
end Go.Pl
namespace Go.Proofs
open Go.Sx.Tree
open Go Go.Sx Go.Pl
def td126 : List It := [It.code [0, 0, 1, 1, 1], It.inBlock 0, It.code [1, 1, 1, 1]]
def tb126 : List It := It.code [0, 0, 0, 1, 1, 1] :: td126
def LO126 (n : Nat) (p : Nat → Pr) (key i j : Int) : Core := { tm := tmOf 49 [(0, .sh (.sl 2 n (fnR p))), (1, .sym .i64 key), (2, .fn 127 []), (8, .sym .i64 (n : Int)), (9, .sym .i64 i), (10, .sym .i64 j)], hp := [], nx := 0, lim := L0, tc := [] }
theorem a126 (A : Prim) (W : Wd) (n : Nat) (p : Nat → Pr) (key i' j' : Int) : runTo (C7 A W noSpec sAl) nH0 300 400 126 [.code []] (start0 49 [.sl 2 n (fnR p), .i .i64 key, .fn 127 []] L0) [] [⟨126, td126, LO126 n p key i' j', []⟩] = leaf (Fe2.at_ 0 [Eqn.sh (Sh.sl 2 n (fnR p)) (Sh.sl 2 n (fnR p)), Eqn.int key key, Eqn.int (A.ofN n) (Int.ofNat n), Eqn.int (Int.ofNat 0) i', Eqn.int (A.ofN n) j']) := by kernel_rfl
theorem b126 (A : Prim) (W : Wd) (n : Nat) (p : Nat → Pr) (key i j i' j' : Int) : runTo (C7 A W noSpec sAl) nH0 300 400 126 tb126 (LO126 n p key i j) [] [⟨126, td126, LO126 n p key i' j', []⟩] = node (A.lt i j) (need (A.inB (A.conv .i64 (A.bin BinOp.shr .u64 (A.conv .u64 (A.add .i64 i j)) (Int.ofNat 1))) n) (node (A.lt (A.sub .i64 (p (A.toN (A.conv .i64 (A.bin BinOp.shr .u64 (A.conv .u64 (A.add .i64 i j)) (Int.ofNat 1))))).key key) (Int.ofNat 0)) (leaf (Fe2.at_ 0 [Eqn.sh (Sh.sl 2 n (fnR p)) (Sh.sl 2 n (fnR p)), Eqn.int key key, Eqn.int (Int.ofNat n) (Int.ofNat n), Eqn.int (A.add .i64 (A.conv .i64 (A.bin BinOp.shr .u64 (A.conv .u64 (A.add .i64 i j)) (Int.ofNat 1))) (Int.ofNat 1)) i', Eqn.int j j'])) (leaf (Fe2.at_ 0 [Eqn.sh (Sh.sl 2 n (fnR p)) (Sh.sl 2 n (fnR p)), Eqn.int key key, Eqn.int (Int.ofNat n) (Int.ofNat n), Eqn.int i i', Eqn.int (A.conv .i64 (A.bin BinOp.shr .u64 (A.conv .u64 (A.add .i64 i j)) (Int.ofNat 1))) j'])))) (node (A.lt i (Int.ofNat n)) (need (A.inB i n) (leaf (Fe2.ret (Sh.tup [Sh.i .i64 i, Sh.b (A.eq (A.sub .i64 (p (A.toN i)).key key) (Int.ofNat 0))])))) (leaf (Fe2.ret (Sh.tup [Sh.i .i64 i, Sh.b false])))) := by kernel_rfl
end Go.Proofs
namespace Go.Pl
open Go Go.Sx Go.Proofs
def wfP (ps : List Pr) : Bool := decide (ps.Pairwise fun a b => a.key < b.key) && ps.all fun p => decide (0 ≤ p.key ∧ p.key ≤ 1000)
def inKey (key : Int) : Bool := decide (0 ≤ key ∧ key ≤ 1000)
def posP (ps : List Pr) (key : Int) : Nat := (ps.takeWhile fun p => decide (p.key < key)).length
def hasP (ps : List Pr) (key : Int) : Bool := ps.any fun p => p.key == key
theorem posP_eq : ∀ {ps : List Pr} {key : Int} {k : Nat}, k ≤ ps.length → (∀ t (h : t < ps.length), t < k → ps[t].key < key) → (∀ t (h : t < ps.length), k ≤ t → key ≤ ps[t].key) → posP ps key = k
 | [], key, k, hk, _, _ => by simp at hk; subst hk; rfl
 | a :: ps, key, 0, _, _, h2 => by
  have := h2 0 (by simp) (Nat.le_refl _)
  simp only [List.getElem_cons_zero] at this
  have hd : decide (a.key < key) = false := decide_eq_false (by omega)
  simp [posP, List.takeWhile, hd]
 | a :: ps, key, k + 1, hk, h1, h2 => by
  have ha := h1 0 (by simp) (by omega)
  simp only [List.getElem_cons_zero] at ha
  have hd : decide (a.key < key) = true := decide_eq_true ha
  have ih := posP_eq (ps := ps) (key := key) (k := k) (by simpa using hk) (fun t ht hlt => h1 (t + 1) (by simp; omega) (by omega)) (fun t ht hle => h2 (t + 1) (by simp; omega) (by omega))
  unfold posP at ih ⊢
  simp only [List.takeWhile, hd, List.length_cons, ih]
theorem hasP_eq {ps : List Pr} {key : Int} {k : Nat} (hs : ps.Pairwise fun a b => a.key < b.key) (h1 : ∀ t (h : t < ps.length), t < k → ps[t].key < key) (h2 : ∀ t (h : t < ps.length), k ≤ t → key ≤ ps[t].key) :
  hasP ps key = true ↔ ∃ h : k < ps.length, ps[k].key = key := by
 unfold hasP
 rw [List.any_eq_true]
 constructor
 ·rintro ⟨x, hx, he⟩
  obtain ⟨t, ht, rfl⟩ := List.getElem_of_mem hx
  have he : ps[t].key = key := by simpa using he
  have htk : ¬ t < k := fun h => by have := h1 t ht h; omega
  have hkl : k < ps.length := by omega
  refine ⟨hkl, ?_⟩
  by_cases e : t = k
  ·subst e; exact he
  ·have hlt : ps[k].key < ps[t].key := List.pairwise_iff_getElem.1 hs k t hkl ht (by omega)
   have := h2 k hkl (Nat.le_refl _)
   omega
 ·rintro ⟨h, he⟩
  exact ⟨ps[k], List.getElem_mem _, by simp [he]⟩
theorem wfP_sorted {ps : List Pr} (h : wfP ps = true) : ps.Pairwise fun a b => a.key < b.key := by
 simp only [wfP, Bool.and_eq_true] at h
 exact of_decide_eq_true h.1
theorem wfP_key {ps : List Pr} (h : wfP ps = true) {t : Nat} (ht : t < ps.length) : 0 ≤ ps[t].key ∧ ps[t].key ≤ 1000 := by
 simp only [wfP, Bool.and_eq_true] at h
 have := List.all_eq_true.1 h.2 ps[t] (List.getElem_mem _)
 exact of_decide_eq_true this
theorem mid_eq {i j : Nat} (h : i + j ≤ 1000000) : prim.conv .i64 (prim.bin .shr .u64 (prim.conv .u64 (prim.add .i64 i j)) (Int.ofNat 1)) = (((i + j) / 2 : Nat) : Int) := by
 have e1 : prim.add .i64 i j = ((i + j : Nat) : Int) := by rw [prim_add, wrap_id (by omega) (by omega)]; omega
 rw [e1]
 have e2 : prim.conv .u64 ((i + j : Nat) : Int) = ((i + j : Nat) : Int) := by
  show IntKind.u64.wrap _ = _
  rw [IntKind.wrap_u64]; omega
 rw [e2]
 have e3 : prim.bin .shr .u64 ((i + j : Nat) : Int) (Int.ofNat 1) = (((i + j) / 2 : Nat) : Int) := by
  show Int.fdiv ((i + j : Nat) : Int) (2 ^ (min 1 64)) = _
  rw [show (min 1 64) = 1 from rfl, Int.fdiv_eq_ediv_of_nonneg _ (by decide)]
  omega
 rw [e3]
 show IntKind.i64.wrap _ = _
 exact wrap_id (by omega) (by omega)
end Go.Pl
namespace Go.Proofs
open Go Go.Sx Go.Pl
def F126 : List Sh → Tree Sh
 | [.sl 2 n g, .i .i64 key, .fn 127 []] => .need (okB Pr n g) (.need (decide (n ≤ 100000)) (.need (wfP (lst Pr n g)) (.need (inKey key) (.leaf (.tup [.i .i64 (posP (lst Pr n g) key), .b (hasP (lst Pr n g) key)])))))
 | _ => .fail
theorem loop126 {H0 : Mem} {w0 : World} {n : Nat} {p : Nat → Pr} {key : Int} {φ : Sh → Prop} (hn : n ≤ 100000) (hs : wfP ((List.range n).map p) = true) (hk : inKey key = true)
  (hφ : φ (.tup [.i .i64 (posP ((List.range n).map p) key), .b (hasP ((List.range n).map p) key)])) :
  ∀ m i j, j - i ≤ m → i ≤ j → j ≤ n → (∀ t, t < i → (p t).key < key) → (∀ t, t < n → j ≤ t → key ≤ (p t).key) → GoesS Tryz.prog (C7 prim W7 noSpec sAl) (K0 H0 w0) 126 td126 (LO126 n p key i j) [] emp φ
 | m, i, j, hm, hij, hjn, h1, h2 => by
  have hkey : 0 ≤ key ∧ key ≤ 1000 := of_decide_eq_true hk
  have hp : ∀ t, t < n → 0 ≤ (p t).key ∧ (p t).key ≤ 1000 := fun t ht => by
   have := wfP_key hs (t := t) (by simpa using ht)
   simpa using this
  have hso := wfP_sorted hs
  have hlt : ∀ a b, a < b → b < n → (p a).key < (p b).key := fun a b hab hb => by
   have := List.pairwise_iff_getElem.1 hso a b (by simp; omega) (by simpa using hb) hab
   simpa using this
  have sub_eq : ∀ t, t < n → prim.sub .i64 (p t).key key = (p t).key - key := fun t ht => by
   have := hp t ht
   rw [prim_sub, wrap_id (by omega) (by omega)]
  have hfin : i = j → (i < n → (p i).key = key → φ (.tup [.i .i64 i, .b true])) ∧ ((i < n → (p i).key ≠ key) → φ (.tup [.i .i64 i, .b false])) := fun e => by
   subst e
   have hl : ((List.range n).map p).length = n := by simp
   have q1 : ∀ t (h : t < ((List.range n).map p).length), t < i → ((List.range n).map p)[t].key < key := fun t ht hlt => by simpa using h1 t hlt
   have q2 : ∀ t (h : t < ((List.range n).map p).length), i ≤ t → key ≤ ((List.range n).map p)[t].key := fun t ht hle => by simpa using h2 t (by simpa using ht) hle
   rw [posP_eq (k := i) (by rw [hl]; exact hjn) q1 q2] at hφ
   have hh := hasP_eq hso q1 q2
   constructor
   ·intro a b
    have : hasP ((List.range n).map p) key = true := hh.2 ⟨by rw [hl]; exact a, by simpa using b⟩
    rwa [this] at hφ
   ·intro a
    have : hasP ((List.range n).map p) key = false := by
     cases hx : hasP ((List.range n).map p) key with
     | false => rfl
     | true =>
      obtain ⟨b, c⟩ := hh.1 hx
      exact (a (by rw [hl] at b; exact b) (by simpa using c)).elim
    rwa [this] at hφ
  have hmid := mid_eq (i := i) (j := j) (by omega)
  refine gSi (fn := Tryz.f126) (tb := tb126) (by kernel_rfl) (by kernel_rfl) ?_
  by_cases hlt2 : i < j
  ·by_cases hcmp : (p ((i + j) / 2)).key < key
   ·refine gSr (C7.ok _ _) (fok0 _) (hold := noHold) (m := 300) (n := 400) (ts := [⟨126, td126, LO126 n p key ((i + j) / 2 + 1 : Nat) j, []⟩]) ?_
    rw [show noHold = nH0 from rfl, b126 prim W7 n p key i j ((i + j) / 2 + 1 : Nat) j, hmid]
    refine ⟨fun _ => ⟨by simp [prim_inB]; omega, fun _ => ⟨⟨rfl, rfl, rfl, ?_, rfl, trivial⟩, _, rfl, ?_⟩, fun h => ?_⟩, fun h => ?_⟩
    ·simp only [Eqn.ok, prim_add, one_eq]
     rw [wrap_id (by omega) (by omega)]; rfl
    ·match m, hm with
     | 0, hm => omega
     | m + 1, hm =>
      refine loop126 hn hs hk hφ m ((i + j) / 2 + 1) j (by omega) (by omega) hjn (fun t ht => ?_) h2
      by_cases e : t = (i + j) / 2
      ·subst e; exact hcmp
      ·have := hlt t ((i + j) / 2) (by omega) (by omega); omega
    ·have e : prim.toN (((i + j) / 2 : Nat) : Int) = (i + j) / 2 := rfl
     rw [e, sub_eq _ (by omega)] at h
     simp [prim_lt] at h
     omega
    ·simp [prim_lt] at h; omega
   ·refine gSr (C7.ok _ _) (fok0 _) (hold := noHold) (m := 300) (n := 400) (ts := [⟨126, td126, LO126 n p key i ((i + j) / 2 : Nat), []⟩]) ?_
    rw [show noHold = nH0 from rfl, b126 prim W7 n p key i j i ((i + j) / 2 : Nat), hmid]
    refine ⟨fun _ => ⟨by simp [prim_inB]; omega, fun h => ?_, fun _ => ⟨⟨rfl, rfl, rfl, rfl, rfl, trivial⟩, _, rfl, ?_⟩⟩, fun h => ?_⟩
    ·have e : prim.toN (((i + j) / 2 : Nat) : Int) = (i + j) / 2 := rfl
     rw [e, sub_eq _ (by omega)] at h
     simp [prim_lt] at h
     omega
    ·match m, hm with
     | 0, hm => omega
     | m + 1, hm =>
      refine loop126 hn hs hk hφ m i ((i + j) / 2) (by omega) (by omega) (by omega) h1 (fun t ht hle => ?_)
      by_cases e : t = (i + j) / 2
      ·subst e; omega
      ·have := hlt ((i + j) / 2) t (by omega) ht; omega
    ·simp [prim_lt] at h; omega
  ·have e : i = j := by omega
   obtain ⟨f1, f2⟩ := hfin e
   refine gSr (C7.ok _ _) (fok0 _) (hold := noHold) (m := 300) (n := 400) (ts := [⟨126, td126, LO126 n p key i j, []⟩]) ?_
   rw [show noHold = nH0 from rfl, b126 prim W7 n p key i j i j]
   refine ⟨fun h => ?_, fun _ => ⟨fun h => ⟨?_, ?_⟩, fun h => ?_⟩⟩
   ·simp [prim_lt] at h; omega
   ·simp [prim_lt] at h; simp [prim_inB]; omega
   ·have hi : i < n := by simp [prim_lt] at h; omega
    show φ _
    have e1 : prim.toN (i : Int) = i := rfl
    rw [e1, sub_eq i hi]
    by_cases he : (p i).key = key
    ·have : prim.eq ((p i).key - key) (Int.ofNat 0) = true := by simp [prim_eq]; omega
     rw [this]; exact f1 hi he
    ·have : prim.eq ((p i).key - key) (Int.ofNat 0) = false := by simp [prim_eq]; omega
     rw [this]; exact f2 fun _ => he
   ·exact f2 fun hi => by simp [prim_lt] at h; omega
theorem O126 : FnOK Tryz.prog (gls7 W7) 126 F126 := by
 refine fnOK_S (C := C7 prim W7 noSpec sAl) (C7.ok _ _) (fn := Tryz.f126) (by kernel_rfl) (by kernel_rfl) fun H w shs args φ hrep h => ?_
 unfold F126 at h
 split at h
 ·rename_i n g key
  obtain ⟨h1, h2, h3, h4, hφ⟩ := h
  match args, hrep with
  | [v, u1, u2], ⟨hv, r1, r2, _⟩ =>
   refine ⟨[.sl 2 n (fnR (rwAt (α := Pr) g)), .i .i64 key, .fn 127 []], ⟨rep_rows hv h1, r1, r2, trivial⟩, L0, ?_⟩
   have e : lst Pr n g = (List.range n).map (rwAt g) := rfl
   rw [e] at h3 hφ
   generalize rwAt (α := Pr) g = p at *
   have h2 := of_decide_eq_true h2
   have hn : Tryz.f126.ntmps = 49 := by kernel_rfl
   refine gSr (C7.ok _ _) (fok0 _) (hold := noHold) (m := 300) (n := 400) (ts := [⟨126, td126, LO126 n p key (0 : Nat) n, []⟩]) ?_
   rw [show noHold = nH0 from rfl, hn, a126 prim W7 n p key (0 : Nat) n]
   exact ⟨⟨rfl, rfl, rfl, rfl, rfl, trivial⟩, _, rfl, loop126 h2 h3 h4 hφ n 0 n (by omega) (Nat.zero_le _) (Nat.le_refl _) (fun t ht => by omega) (fun t ht hle => by omega)⟩
 ·exact h.elim
end Go.Proofs
namespace Go.Pl
open Go Go.Sx
def posI (n : Nat) (g : Nat → List Sh) (key : Int) : Int := (posP (lst Pr n g) key : Int)
def hasG (n : Nat) (g : Nat → List Sh) (key : Int) : Bool := hasP (lst Pr n g) key
def wfG (n : Nat) (g : Nat → List Sh) : Bool := okB Pr n g && decide (n ≤ 100000) && wfP (lst Pr n g)
def valI (n : Nat) (g : Nat → List Sh) (key : Int) : Int := if hasG n g key = true then (rwAt (α := Pr) g (posP (lst Pr n g) key)).val else 0
def retI (n : Nat) (g : Nat → List Sh) (key : Int) : Int := if hasG n g key = true then 3 else 2
def catN (n m : Nat) : Nat := n + m
def catG (g : Nat → List Sh) (n : Nat) (h : Nat → List Sh) : Nat → List Sh := prim.snoc g n h
end Go.Pl
namespace Go.Proofs
open Go.Sx.Tree
open Go Go.Sx Go.Pl
def F126w : List Sh → Tree Sh
 | [.sl 2 n g, .i .i64 key, .fn 127 []] => .need (wfG n g) (.need (inKey key) (.leaf (.tup [.i .i64 (posI n g key), .b (hasG n g key)])))
 | _ => .fail
def spec102 : Nat → Option (List Sh → Tree Sh)
 | 126 => some F126w
 | _ => none
def F102 : List Sh → Tree Sh
 | [.agg [.i .i64 _, .i .i64 _, s2, s3], .i .i64 key] => match slN 1 s2, slN 2 s3 with
  | some _, some (n, g) => .need (wfG n g) (.need (inKey key) (.leaf (.tup [.i .i64 (posI n g key), .b (hasG n g key)])))
  | _, _ => .fail
 | _ => .fail
def spec105 : Nat → Option (List Sh → Tree Sh)
 | 102 => some F102
 | 103 => some (fun _ => .fail)
 | _ => none
def F105 : List Sh → Tree Sh
 | [.agg [.i .i64 _, .i .i64 _, s2, s3], .i .i64 key] => match slN 1 s2, slN 2 s3 with
  | some _, some (n, g) => .need (wfG n g) (.need (inKey key) (.leaf (.tup [.i .i64 (retI n g key), .i .i64 (valI n g key)])))
  | _, _ => .fail
 | _ => .fail
def spec107 : Nat → Option (List Sh → Tree Sh)
 | 130 => some (fun _ => .fail)
 | _ => none
def F107 : List Sh → Tree Sh
 | [.sl 1 2 g] => match g 0, g 1 with
  | [.sl 2 n g1], [.sl 2 m g2] => .need (roomB (catN n m) 16) (.leaf (.sl 2 (catN n m) (catG g1 n g2)))
  | _, _ => .fail
 | _ => .fail
def spec106 : Nat → Option (List Sh → Tree Sh)
 | 102 => some F102
 | 105 => some F105
 | 107 => some F107
 | _ => none
theorem a102 (A : Prim) (W : Wd) (x y : Int) (a b : Nat) (h : Nat → List Sh) (p : Nat → Pr) (key : Int) : runTo (C7 A W spec102 sAl) nH0 300 400 102 [.code []] (start0 12 [.agg [.i .i64 x, .i .i64 y, .sl 1 a h, .sl 2 b (fnR p)], .i .i64 key] L0) [] [] = need (wfG b (fnR p)) (need (inKey key) (leaf (Fe2.ret (Sh.tup [Sh.i .i64 (posI b (fnR p) key), Sh.b (hasG b (fnR p) key)])))) := by kernel_rfl
theorem a105 (A : Prim) (W : Wd) (x y : Int) (a b : Nat) (h : Nat → List Sh) (p : Nat → Pr) (key : Int) : runTo (C7 A W spec105 sAl) nH0 300 400 105 [.code []] (start0 21 [.agg [.i .i64 x, .i .i64 y, .sl 1 a h, .sl 2 b (fnR p)], .i .i64 key] L0) [] [] = need (wfG b (fnR p)) (need (inKey key) (node (hasG b (fnR p) key) (need (A.inB (posI b (fnR p) key) b) (leaf (Fe2.ret (Sh.tup [Sh.i .i64 (Int.ofNat 3), Sh.i .i64 (p (A.toN (posI b (fnR p) key))).val])))) (leaf (Fe2.ret (Sh.tup [Sh.i .i64 (Int.ofNat 2), Sh.i .i64 (Int.ofNat 0)]))))) := by kernel_rfl
theorem a104 (A : Prim) (W : Wd) (x y : Int) (a b : Nat) (h : Nat → List Sh) (p : Nat → Pr) (key v : Int) : runTo (C7 A W spec106 sAl) nH0 300 400 104 [.code []] (start0 20 [.agg [.i .i64 x, .i .i64 y, .sl 1 a h, .sl 2 b (fnR p)], .i .i64 key, .i .i64 v] L0) [] [] = need (wfG b (fnR p)) (need (inKey key) (leaf (Fe2.ret (Sh.tup [Sh.agg [Sh.i .i64 x, Sh.i .i64 y, Sh.sl 1 a h, Sh.sl 2 b (fnR p)], Sh.i .i64 (retI b (fnR p) key), Sh.i .i64 (valI b (fnR p) key)])))) := by kernel_rfl
theorem a100 (A : Prim) (W : Wd) (x y : Int) (a b : Nat) (h : Nat → List Sh) (p : Nat → Pr) (key v : Int) : runTo (C7i A W spec105 sAl) nH0 300 400 100 [.code []] (start0 38 [.agg [.i .i64 x, .i .i64 y, .sl 1 a h, .sl 2 b (fnR p)], .i .i64 key, .i .i64 v] L0) [] [] = node (A.leN b 0) ((need (wfG 0 fun _ => []) (need (inKey key) (node (hasG 0 (fun _ => []) key) Tree.fail (need (A.upTo (posI 0 (fun _ => []) key) 0) (need (A.room (A.addN 0 1) 16) (leaf (Fe2.ret (Sh.tup [Sh.agg [Sh.i .i64 x, Sh.i .i64 y, Sh.sl 1 a h, Sh.os 116 2 (A.addN 0 1) (A.ins (fun _ => []) (A.toN (posI 0 (fun _ => []) key)) [Sh.i .i64 key, Sh.i .i64 v])], Sh.i .i64 (Int.ofNat 1), Sh.i .i64 (Int.ofNat 0)])))))))).both (need (A.room (A.addN 0 b) 16) (need (wfG (A.addN 0 b) (A.snoc (nthL []) 0 (fnR p))) (need (inKey key) (node (hasG (A.addN 0 b) (A.snoc (nthL []) 0 (fnR p)) key) (need (A.inB (posI (A.addN 0 b) (A.snoc (nthL []) 0 (fnR p)) key) (A.addN 0 b)) (leaf (Fe2.ret (Sh.tup [Sh.agg [Sh.i .i64 x, Sh.i .i64 y, Sh.sl 1 a h, Sh.os 116 2 (A.addN 0 b) (A.upd (A.snoc (nthL []) 0 (fnR p)) (A.toN (posI (A.addN 0 b) (A.snoc (nthL []) 0 (fnR p)) key)) 1 [Sh.i .i64 v])], Sh.i .i64 (Int.ofNat 1), Sh.i .i64 (Int.ofNat 0)])))) (need (A.upTo (posI (A.addN 0 b) (A.snoc (nthL []) 0 (fnR p)) key) (A.addN 0 b)) (need (A.room (A.addN (A.addN 0 b) 1) 16) (leaf (Fe2.ret (Sh.tup [Sh.agg [Sh.i .i64 x, Sh.i .i64 y, Sh.sl 1 a h, Sh.os 116 2 (A.addN (A.addN 0 b) 1) (A.ins (A.snoc (nthL []) 0 (fnR p)) (A.toN (posI (A.addN 0 b) (A.snoc (nthL []) 0 (fnR p)) key)) [Sh.i .i64 key, Sh.i .i64 v])], Sh.i .i64 (Int.ofNat 1), Sh.i .i64 (Int.ofNat 0)])))))))))) (need (A.room (A.addN 0 b) 16) (need (wfG (A.addN 0 b) (A.snoc (nthL []) 0 (fnR p))) (need (inKey key) (node (hasG (A.addN 0 b) (A.snoc (nthL []) 0 (fnR p)) key) (need (A.inB (posI (A.addN 0 b) (A.snoc (nthL []) 0 (fnR p)) key) (A.addN 0 b)) (leaf (Fe2.ret (Sh.tup [Sh.agg [Sh.i .i64 x, Sh.i .i64 y, Sh.sl 1 a h, Sh.os 116 2 (A.addN 0 b) (A.upd (A.snoc (nthL []) 0 (fnR p)) (A.toN (posI (A.addN 0 b) (A.snoc (nthL []) 0 (fnR p)) key)) 1 [Sh.i .i64 v])], Sh.i .i64 (Int.ofNat 1), Sh.i .i64 (Int.ofNat 0)])))) (need (A.upTo (posI (A.addN 0 b) (A.snoc (nthL []) 0 (fnR p)) key) (A.addN 0 b)) (need (A.room (A.addN (A.addN 0 b) 1) 16) (leaf (Fe2.ret (Sh.tup [Sh.agg [Sh.i .i64 x, Sh.i .i64 y, Sh.sl 1 a h, Sh.os 116 2 (A.addN (A.addN 0 b) 1) (A.ins (A.snoc (nthL []) 0 (fnR p)) (A.toN (posI (A.addN 0 b) (A.snoc (nthL []) 0 (fnR p)) key)) [Sh.i .i64 key, Sh.i .i64 v])], Sh.i .i64 (Int.ofNat 1), Sh.i .i64 (Int.ofNat 0)]))))))))) := by kernel_rfl
theorem a107 (A : Prim) (W : Wd) (n m : Nat) (g1 g2 : Nat → List Sh) : runTo (C7i A W spec107 unroll) nH0 300 400 107 [.code []] (start0 36 [.sl 1 2 (nthL [[.sl 2 n g1], [.sl 2 m g2]])] L0) [] [] = node (A.lt (Int.ofNat 0) (A.ofN 2)) (need (A.inB (Int.ofNat 0) 2) (node (A.lt (A.add .i64 (Int.ofNat 0) (A.ofN n)) (Int.ofNat 0)) Tree.fail (node (A.lt (Int.ofNat 1) (A.ofN 2)) (need (A.inB (Int.ofNat 1) 2) (node (A.lt (A.add .i64 (A.add .i64 (Int.ofNat 0) (A.ofN n)) (A.ofN m)) (Int.ofNat 0)) Tree.fail (node (A.lt (Int.ofNat 2) (A.ofN 2)) (need (A.inB (Int.ofNat 2) 2) Tree.fail) (need (A.le (Int.ofNat 0) (A.add .i64 (A.add .i64 (Int.ofNat 0) (A.ofN n)) (A.ofN m))) (need (A.room (A.toN (A.add .i64 (A.add .i64 (Int.ofNat 0) (A.ofN n)) (A.ofN m))) 16) (node (A.lt (Int.ofNat 0) (A.ofN 2)) (need (A.inB (Int.ofNat 0) 2) (need (A.room (A.addN 0 n) 16) (node (A.lt (Int.ofNat 1) (A.ofN 2)) (need (A.inB (Int.ofNat 1) 2) (need (A.room (A.addN (A.addN 0 n) m) 16) (node (A.lt (Int.ofNat 2) (A.ofN 2)) (need (A.inB (Int.ofNat 2) 2) Tree.fail) (leaf (Fe2.ret (Sh.os 116 2 (A.addN (A.addN 0 n) m) (A.snoc (A.snoc (fun _ => []) 0 g1) (A.addN 0 n) g2))))))) (leaf (Fe2.ret (Sh.os 116 2 (A.addN 0 n) (A.snoc (fun _ => []) 0 g1))))))) (leaf (Fe2.ret (Sh.os 116 2 0 fun _ => []))))))))) (need (A.le (Int.ofNat 0) (A.add .i64 (Int.ofNat 0) (A.ofN n))) (need (A.room (A.toN (A.add .i64 (Int.ofNat 0) (A.ofN n))) 16) (node (A.lt (Int.ofNat 0) (A.ofN 2)) (need (A.inB (Int.ofNat 0) 2) (need (A.room (A.addN 0 n) 16) (node (A.lt (Int.ofNat 1) (A.ofN 2)) (need (A.inB (Int.ofNat 1) 2) (need (A.room (A.addN (A.addN 0 n) m) 16) (node (A.lt (Int.ofNat 2) (A.ofN 2)) (need (A.inB (Int.ofNat 2) 2) Tree.fail) (leaf (Fe2.ret (Sh.os 116 2 (A.addN (A.addN 0 n) m) (A.snoc (A.snoc (fun _ => []) 0 g1) (A.addN 0 n) g2))))))) (leaf (Fe2.ret (Sh.os 116 2 (A.addN 0 n) (A.snoc (fun _ => []) 0 g1))))))) (leaf (Fe2.ret (Sh.os 116 2 0 fun _ => []))))))))) (need (A.le (Int.ofNat 0) (Int.ofNat 0)) (need (A.room 0 16) (node (A.lt (Int.ofNat 0) (A.ofN 2)) (need (A.inB (Int.ofNat 0) 2) (need (A.room (A.addN 0 n) 16) (node (A.lt (Int.ofNat 1) (A.ofN 2)) (need (A.inB (Int.ofNat 1) 2) (need (A.room (A.addN (A.addN 0 n) m) 16) (node (A.lt (Int.ofNat 2) (A.ofN 2)) (need (A.inB (Int.ofNat 2) 2) Tree.fail) (leaf (Fe2.ret (Sh.os 116 2 (A.addN (A.addN 0 n) m) (A.snoc (A.snoc (fun _ => []) 0 g1) (A.addN 0 n) g2))))))) (leaf (Fe2.ret (Sh.os 116 2 (A.addN 0 n) (A.snoc (fun _ => []) 0 g1))))))) (leaf (Fe2.ret (Sh.os 116 2 0 fun _ => [])))))) := by kernel_rfl
noncomputable def a106_e1 (A : Prim) (W : Wd) (x y : Int) (a b : Nat) (h : Nat → List Sh) (p : Nat → Pr) (key : Int) : List Eqn := [Eqn.int x x, Eqn.int y y, Eqn.sh (Sh.sl 1 a h) (Sh.sl 1 a h), Eqn.sh (Sh.sl 2 b (fnR p)) (Sh.sl 2 b (fnR p)), Eqn.int key key, Eqn.int (retI b (fnR p) key) (retI b (fnR p) key), Eqn.int (valI b (fnR p) key) (valI b (fnR p) key), Eqn.int (posI b (fnR p) key) (posI b (fnR p) key), Eqn.bool (hasG b (fnR p) key) (hasG b (fnR p) key), Eqn.int x x, Eqn.int y y, Eqn.sh (Sh.sl 1 a h) (Sh.sl 1 a h), Eqn.sh (Sh.sl 2 (catN (A.toN (posI b (fnR p) key)) (A.subN b (A.toN (A.add .i64 (posI b (fnR p) key) (Int.ofNat 1))))) (catG (fnR p) (A.toN (posI b (fnR p) key)) fun (j : Nat) => fnR p ((C7 A W spec106 sAl).A.addN ((C7 A W spec106 sAl).A.toN ((C7 A W spec106 sAl).A.add .i64 (posI b (fnR p) key) 1)) j))) (Sh.sl 2 (catN (A.toN (posI b (fnR p) key)) (A.subN b (A.toN (A.add .i64 (posI b (fnR p) key) (Int.ofNat 1))))) (catG (fnR p) (A.toN (posI b (fnR p) key)) fun (j : Nat) => fnR p ((C7 A W spec106 sAl).A.addN ((C7 A W spec106 sAl).A.toN ((C7 A W spec106 sAl).A.add .i64 (posI b (fnR p) key) 1)) j))), Eqn.nat 2 2, Eqn.fun_ (nthL [[Sh.sl 2 (A.toN (posI b (fnR p) key)) (fnR p)], [Sh.sl 2 (A.subN b (A.toN (A.add .i64 (posI b (fnR p) key) (Int.ofNat 1)))) fun (j : Nat) => fnR p (A.addN (A.toN (A.add .i64 (posI b (fnR p) key) (Int.ofNat 1))) j)]]) (nthL [[Sh.sl 2 (A.toN (posI b (fnR p) key)) (fnR p)], [Sh.sl 2 (A.subN b (A.toN (A.add .i64 (posI b (fnR p) key) (Int.ofNat 1)))) fun (j : Nat) => fnR p (A.addN (A.toN (A.add .i64 (posI b (fnR p) key) (Int.ofNat 1))) j)]])]
theorem a106 (A : Prim) (W : Wd) (x y : Int) (a b : Nat) (h : Nat → List Sh) (p : Nat → Pr) (key v : Int) : runTo (C7 A W spec106 sAl) nH0 600 800 106 [.code []] (start0 41 [.agg [.i .i64 x, .i .i64 y, .sl 1 a h, .sl 2 b (fnR p)], .i .i64 key, .i .i64 v] L0) [] [] = need (wfG b (fnR p)) (need (inKey key) (need (wfG b (fnR p)) (need (inKey key) (node (hasG b (fnR p) key) (need (A.upTo (posI b (fnR p) key) b) (need (A.upTo (A.add .i64 (posI b (fnR p) key) (Int.ofNat 1)) b) (need (roomB (catN (A.toN (posI b (fnR p) key)) (A.subN b (A.toN (A.add .i64 (posI b (fnR p) key) (Int.ofNat 1))))) 16) (need (A.upTo (posI b (fnR p) key) b) (need (A.upTo (A.add .i64 (posI b (fnR p) key) (Int.ofNat 1)) b) (need (roomB (catN (A.toN (posI b (fnR p) key)) (A.subN b (A.toN (A.add .i64 (posI b (fnR p) key) (Int.ofNat 1))))) 16) (need (A.upTo (A.add .i64 (posI b (fnR p) key) (Int.ofNat 1)) b) (need (A.upTo (posI b (fnR p) key) b) (need (roomB (catN (A.toN (posI b (fnR p) key)) (A.subN b (A.toN (A.add .i64 (posI b (fnR p) key) (Int.ofNat 1))))) 16) (must (a106_e1 A W x y a b h p key) (must (a106_e1 A W x y a b h p key) (need (A.upTo (posI b (fnR p) key) b) (need (A.upTo (A.add .i64 (posI b (fnR p) key) (Int.ofNat 1)) b) (need (roomB (catN (A.toN (posI b (fnR p) key)) (A.subN b (A.toN (A.add .i64 (posI b (fnR p) key) (Int.ofNat 1))))) 16) (need (A.upTo (A.add .i64 (posI b (fnR p) key) (Int.ofNat 1)) b) (need (A.upTo (posI b (fnR p) key) b) (need (roomB (catN (A.toN (posI b (fnR p) key)) (A.subN b (A.toN (A.add .i64 (posI b (fnR p) key) (Int.ofNat 1))))) 16) (must (a106_e1 A W x y a b h p key) (need (A.upTo (A.add .i64 (posI b (fnR p) key) (Int.ofNat 1)) b) (need (A.upTo (posI b (fnR p) key) b) (need (roomB (catN (A.toN (posI b (fnR p) key)) (A.subN b (A.toN (A.add .i64 (posI b (fnR p) key) (Int.ofNat 1))))) 16) (must (a106_e1 A W x y a b h p key) (must (a106_e1 A W x y a b h p key) (leaf (Fe2.ret (Sh.tup [Sh.agg [Sh.i .i64 x, Sh.i .i64 y, Sh.sl 1 a h, Sh.sl 2 (catN (A.toN (posI b (fnR p) key)) (A.subN b (A.toN (A.add .i64 (posI b (fnR p) key) (Int.ofNat 1))))) (catG (fnR p) (A.toN (posI b (fnR p) key)) fun (j : Nat) => fnR p ((C7 A W spec106 sAl).A.addN ((C7 A W spec106 sAl).A.toN ((C7 A W spec106 sAl).A.add .i64 (posI b (fnR p) key) 1)) j))], Sh.i .i64 (retI b (fnR p) key), Sh.i .i64 (valI b (fnR p) key)])))))))))))))))))))))))))) (leaf (Fe2.ret (Sh.tup [Sh.agg [Sh.i .i64 x, Sh.i .i64 y, Sh.sl 1 a h, Sh.sl 2 b (fnR p)], Sh.i .i64 (retI b (fnR p) key), Sh.i .i64 (valI b (fnR p) key)]))))))) := by kernel_rfl
end Go.Proofs
namespace Go.Pl
open Go Go.Sx Go.Proofs
def putP (ps : List Pr) (key v : Int) : List Pr := if hasP ps key = true then ps.set (posP ps key) ⟨key, v⟩ else ps.take (posP ps key) ++ ⟨key, v⟩ :: ps.drop (posP ps key)
def delP (ps : List Pr) (key : Int) : List Pr := if hasP ps key = true then ps.take (posP ps key) ++ ps.drop (posP ps key + 1) else ps
def valP (ps : List Pr) (key : Int) : Int := if hasP ps key = true then (nth ps (posP ps key)).val else 0
def retP (ps : List Pr) (key : Int) : Int := if hasP ps key = true then 3 else 2
theorem posP_le (ps : List Pr) (key : Int) : posP ps key ≤ ps.length := by unfold posP; exact (List.takeWhile_prefix _).length_le
theorem tw_mem {α : Type} {p : α → Bool} {x : α} : ∀ {l : List α}, x ∈ l.takeWhile p → p x = true
 | [], h => by simp at h
 | a :: l, h => by
  cases ha : p a with
  | false => simp [List.takeWhile, ha] at h
  | true =>
   simp only [List.takeWhile, ha, List.mem_cons] at h
   rcases h with rfl | h
   ·exact ha
   ·exact tw_mem h
theorem posP_lt (ps : List Pr) (key : Int) : ∀ t (h : t < ps.length), t < posP ps key → ps[t].key < key := by
 intro t h ht
 have h2 : (ps.takeWhile fun p => decide (p.key < key))[t]? = ps[t]? := by
  have := List.takeWhile_prefix (p := fun p : Pr => decide (p.key < key)) (l := ps)
  obtain ⟨r, hr⟩ := this
  conv => rhs; rw [← hr]
  rw [List.getElem?_append_left ht]
 have h3 : ps[t] ∈ ps.takeWhile fun p => decide (p.key < key) := by
  rw [List.getElem?_eq_getElem h] at h2
  exact List.mem_of_getElem? h2
 have := tw_mem h3
 simpa using this
theorem posP_ge {ps : List Pr} {key : Int} (hs : ps.Pairwise fun a b => a.key < b.key) : ∀ t (h : t < ps.length), posP ps key ≤ t → key ≤ ps[t].key := by
 intro t h ht
 have hk : posP ps key < ps.length := by omega
 have h0 : ¬ ps[posP ps key].key < key := by
  intro hlt
  have : posP ps key < (ps.takeWhile fun p => decide (p.key < key)).length := by
   have key2 : ∀ (l : List Pr), (h : (l.takeWhile fun p => decide (p.key < key)).length < l.length) → ¬ (l[(l.takeWhile fun p => decide (p.key < key)).length].key < key) := by
    intro l
    induction l with
    | nil => intro h; simp at h
    | cons a l ih =>
     intro h
     by_cases ha : a.key < key
     ·have hd : decide (a.key < key) = true := decide_eq_true ha
      simp only [List.takeWhile, hd, List.length_cons] at h ⊢
      exact ih (by omega)
     ·have hd : decide (a.key < key) = false := decide_eq_false ha
      simp only [List.takeWhile, hd, List.length_nil] at h ⊢
      exact ha
   exact (key2 ps hk hlt).elim
  unfold posP at this
  omega
 by_cases e : t = posP ps key
 ·subst e; omega
 ·have := List.pairwise_iff_getElem.1 hs (posP ps key) t hk h (by omega)
  omega
theorem hasP_at {ps : List Pr} {key : Int} (hs : ps.Pairwise fun a b => a.key < b.key) (h : hasP ps key = true) : ∃ h : posP ps key < ps.length, ps[posP ps key].key = key := (hasP_eq hs (posP_lt ps key) (posP_ge hs)).1 h
theorem nth_get {α : Type} [Row α] {l : List α} {j : Nat} (h : j < l.length) : nth l j = l[j] := by simp [nth, h]
theorem nth_set {α : Type} [Row α] {l : List α} {k j : Nat} {a : α} (hk : k < l.length) (hj : j < l.length) : nth (l.set k a) j = if j = k then a else nth l j := by
 rw [nth_get (by simpa using hj), nth_get hj, List.getElem_set]
 by_cases e : k = j
 ·subst e; simp
 ·rw [if_neg e, if_neg (Ne.symm e)]
theorem nth_ins {α : Type} [Row α] {l : List α} {k j : Nat} {a : α} (hk : k ≤ l.length) (hj : j < l.length + 1) : nth (l.take k ++ a :: l.drop k) j = if j < k then nth l j else if j = k then a else nth l (j - 1) := by
 have hlen : (l.take k ++ a :: l.drop k).length = l.length + 1 := by simp; omega
 have ht : (l.take k).length = k := by simp; omega
 unfold nth
 split
 ·rename_i h
  simp only [List.getD_eq_getElem?_getD]
  rw [List.getElem?_append_left (by omega), List.getElem?_take, if_pos h]
 ·split
  ·rename_i h
   subst h
   simp only [List.getD_eq_getElem?_getD]
   rw [List.getElem?_append_right (by omega), ht, Nat.sub_self]
   rfl
  ·rename_i h1 h2
   simp only [List.getD_eq_getElem?_getD]
   rw [List.getElem?_append_right (by omega), ht]
   obtain ⟨m, hm⟩ : ∃ m, j - k = m + 1 := ⟨j - k - 1, by omega⟩
   rw [hm, List.getElem?_cons_succ, List.getElem?_drop]
   congr 2
   omega
theorem nth_del {α : Type} [Row α] {l : List α} {k j : Nat} (hk : k < l.length) (hj : j < l.length - 1) : nth (l.take k ++ l.drop (k + 1)) j = if j < k then nth l j else nth l (j + 1) := by
 have ht : (l.take k).length = k := by simp; omega
 unfold nth
 split
 ·rename_i h
  simp only [List.getD_eq_getElem?_getD]
  rw [List.getElem?_append_left (by omega), List.getElem?_take, if_pos h]
 ·simp only [List.getD_eq_getElem?_getD]
  rw [List.getElem?_append_right (by omega), ht, List.getElem?_drop]
  congr 2
  omega
theorem putP_f {ps : List Pr} {key v : Int} (h : hasP ps key = false) : putP ps key v = ps.take (posP ps key) ++ ⟨key, v⟩ :: ps.drop (posP ps key) := if_neg (by rw [h]; simp)
theorem putP_t {ps : List Pr} {key v : Int} (h : hasP ps key = true) : putP ps key v = ps.set (posP ps key) ⟨key, v⟩ := if_pos h
theorem delP_f {ps : List Pr} {key : Int} (h : hasP ps key = false) : delP ps key = ps := if_neg (by rw [h]; simp)
theorem delP_t {ps : List Pr} {key : Int} (h : hasP ps key = true) : delP ps key = ps.take (posP ps key) ++ ps.drop (posP ps key + 1) := if_pos h
theorem len_put {ps : List Pr} {key v : Int} : (putP ps key v).length = if hasP ps key = true then ps.length else ps.length + 1 := by
 have := posP_le ps key
 unfold putP
 split
 ·simp
 ·simp; omega
theorem len_del {ps : List Pr} {key : Int} (hs : wfP ps = true) : (delP ps key).length = if hasP ps key = true then ps.length - 1 else ps.length := by
 have := posP_le ps key
 unfold delP
 split
 ·rename_i h
  obtain ⟨h1, _⟩ := hasP_at (wfP_sorted hs) h
  simp; omega
 ·rfl
theorem valI_eq {n : Nat} {g : Nat → List Sh} {key : Int} (hs : wfP (lst Pr n g) = true) : valI n g key = valP (lst Pr n g) key := by
 unfold valI valP hasG
 split
 ·rename_i h
  obtain ⟨h1, _⟩ := hasP_at (wfP_sorted hs) h
  rw [nth_lst (by simpa using h1)]
 ·rfl
theorem wfG_def {n : Nat} {g : Nat → List Sh} : wfG n g = true ↔ okB Pr n g = true ∧ n ≤ 100000 ∧ wfP (lst Pr n g) = true := by
 simp [wfG, and_assoc]
end Go.Pl
namespace Go.Proofs
open Go Go.Sx Go.Pl Go.Lib
theorem O126w : FnOK Tryz.prog (gls7 W7) 126 F126w := O126.mono fun H shs args φ hr h => by
 unfold F126w at h
 split at h
 ·rename_i n g key
  obtain ⟨h1, h2, hφ⟩ := h
  obtain ⟨q1, q2, q3⟩ := wfG_def.1 h1
  simp only [F126]
  exact ⟨q1, decide_eq_true q2, q3, h2, hφ⟩
 ·exact h.elim
theorem O102s : ∀ g F, spec102 g = some F → FnOK Tryz.prog (gls7 W7) g F := fun g F h => by
 unfold spec102 at h
 split at h
 ·cases h; exact O126w
 ·cases h
theorem fok102 (stop : Nat → List Nat → Bool) : FnsOK Tryz.prog (C7 prim W7 spec102 stop) := C7.fok O102s fun g h => by
 unfold spec102 at h
 split at h
 all_goals first | (cases h; done) | kernel_rfl
theorem rep_prs {H : Mem} {x y : Int} {s2 s3 : Sh} {n b : Nat} {g l : Nat → List Sh} {v : Value} (hs2 : slN 1 s2 = some (n, g)) (hs : slN 2 s3 = some (b, l)) (hw : okB Pr b l = true) (r : Rep H (.agg [.i .i64 x, .i .i64 y, s2, s3]) v) :
  Rep H (.agg [.i .i64 x, .i .i64 y, .sl 1 n g, .sl 2 b (fnR (rwAt (α := Pr) l))]) v := rep_agg4 r (fun u hu => rep_slN hs2 hu) fun u hu => rep_rows (rep_slN hs hu) hw
theorem wfG_row {b : Nat} {l : Nat → List Sh} (h : wfG b l = true) : wfG b (fnR (rwAt (α := Pr) l)) = true ∧ ∀ key, hasG b (fnR (rwAt (α := Pr) l)) key = hasG b l key ∧ posI b (fnR (rwAt (α := Pr) l)) key = posI b l key := by
 have e : lst Pr b (fnR (rwAt (α := Pr) l)) = lst Pr b l := by rw [lst_put]; rfl
 obtain ⟨h1, h2, h3⟩ := wfG_def.1 h
 exact ⟨wfG_def.2 ⟨okB_put _ _, h2, by rw [e]; exact h3⟩, fun key => ⟨by unfold hasG; rw [e], by unfold posI; rw [e]⟩⟩
theorem O102 : FnOK Tryz.prog (gls7 W7) 102 F102 := by
 refine fnOK_Ru (C := C7 prim W7 spec102 sAl) (C7.ok _ _) (fok102 _) (m := 300) (n := 400) (L := L0) (fn := Tryz.f102) (by kernel_rfl) (by kernel_rfl) fun H w shs args φ hrep h => ?_
 have hn : Tryz.f102.ntmps = 12 := by kernel_rfl
 unfold F102 at h
 split at h
 ·rename_i x y s2 s3 key
  split at h
  ·rename_i z b l hs2 hs
   obtain ⟨a, hh⟩ := z
   obtain ⟨h1, h2, hφ⟩ := h
   match args, hrep with
   | [v, u1], ⟨hv, r1, _⟩ =>
    obtain ⟨q1, q2⟩ := wfG_row h1
    refine ⟨[.agg [.i .i64 x, .i .i64 y, .sl 1 a hh, .sl 2 b (fnR (rwAt (α := Pr) l))], .i .i64 key], ⟨rep_prs hs2 hs (wfG_def.1 h1).1 hv, r1, trivial⟩, ?_⟩
    rw [hn, a102 prim W7 x y a b hh (rwAt l) key, (q2 key).1, (q2 key).2]
    exact ⟨q1, h2, up_mk (s' := .tup [.i .i64 (posI b l key), .b (hasG b l key)]) ⟨rfl, .inl rfl, trivial⟩ hφ⟩
  ·exact h.elim
 ·exact h.elim
theorem O105s : ∀ g F, spec105 g = some F → FnOK Tryz.prog (gls7 W7) g F := fun g F h => by
 unfold spec105 at h
 split at h
 ·cases h; exact O102
 ·cases h; exact fun H w shs args φ _ _ _ h => h.elim
 ·cases h
theorem fok105 (stop : Nat → List Nat → Bool) : FnsOK Tryz.prog (C7 prim W7 spec105 stop) := C7.fok O105s fun g h => by
 unfold spec105 at h
 split at h
 all_goals first | (cases h; done) | kernel_rfl
theorem ty116 : Tryz.tys.get 116 = some ⟨.struct [(0, 1, false), (1, 1, false)], 2, 16, [.int .i64 0, .int .i64 0]⟩ := by kernel_rfl
set_option maxHeartbeats 4000000 in
set_option maxRecDepth 100000 in
theorem grow130 : GrowOK Tryz.prog 130 116 2 16 := by
 intro w k hk hb
 obtain ⟨inf, z, i1, i2, i3, i4, i5, zs, hz⟩ := info116
 have hsmall : k ≤ 9223372036854775807 := by simp only [maxLen] at hk; omega
 have hse : ∀ w, (Go.sizeOf 116).run Tryz.prog w = .ok 2 w := fun w => by simp [Go.sizeOf, typeInfo, i1, i2]
 by_cases h0 : k = 0
 ·subst h0
  go_enter Tryz.func130, Tryz.ntmps130
  go_wp2
  go_ret
  exact ⟨_, rfl, owns_nil _ _ _, ⟨rfl, rfl, rfl, Nat.le_refl _, fun _ _ _ => rfl⟩, fun b hb => by simp [blkV] at hb⟩
 ·obtain ⟨G, hG⟩ : ∃ G, G = grownCap w (0 + k) 0 116 := ⟨_, rfl⟩
  have hGn : k ≤ G := by rw [hG]; have := grownCap_ge w (0 + k) 0 116; omega
  have hGm : G ≤ maxLen := by rw [hG]; exact grownCap_le_maxLen w (0 + k) 0 116 (by omega)
  have hG63 : G ≤ 9223372036854775807 := by simp only [maxLen] at hGm; omega
  obtain ⟨ROW, hROW⟩ : ∃ ROW : Array Value, ROW = ([] : List Value).toArray ++ Builtin.zeroCells z.cells k ++ Builtin.zeroCells z.cells (G - (0 + k)) := ⟨_, rfl⟩
  have hRs : ROW.size = G * 2 := by
   rw [hROW]
   simp only [Array.size_append, List.size_toArray, size_zeroCells, i5, List.length_nil]
   omega
  have hr : ∀ ty, (Builtin.append_ #[70, 3] ty #[.slice none 0 0, .int .i64 k]).run Tryz.prog w = .ok (.slice (some ⟨w.heap.size, 0, none⟩) k G) (w.drew.alloc (.cells ROW 116)) := fun ty => by
   have h := Lib.run_append_grow_zeros w 70 3 ty 116 inf z .i64 .i64 Tryz.underlying70 Tryz.underlying3 i1 i4 none 0 0 [] (by simp [Builtin.firstCells]) k (by omega) (by omega) (by omega) (by omega) (by rw [i3]; omega) (by rw [i3]; exact growslice_fits (by omega) (by omega))
   rw [← hG, ← hROW, Nat.zero_add] at h
   exact h
  obtain ⟨W1, hW1⟩ : ∃ W1, W1 = w.drew.alloc (.cells ROW 116) := ⟨_, rfl⟩
  have f1 : W1.heap[w.heap.size]? = some (.cells ROW 116 (0, 0)) := by rw [hW1]; exact heap_alloc_new w.drew _
  have f2 : w.grownBy W1 none := ⟨by rw [hW1]; rfl, by rw [hW1]; rfl, by rw [hW1]; rfl, by rw [hW1]; simp, fun j hj _ => by rw [hW1]; first | exact Go.heap_alloc_old w.drew _ j hj | exact heap_alloc_old w.drew _ hj⟩
  have hr1 := hr 70
  rw [← hW1] at hr1
  have hk0 : ¬ ((k : Int) = 0) := by omega
  have hk1 : (0 : Int) < k := by omega
  clear hROW hr hG hW1
  go_enter Tryz.func130, Tryz.ntmps130
  go_wp2_with (first
   |(at_builtin; refine Lib.wpList_append_run _ rfl _ _ _ _ rfl _ _ rfl rfl _ _ hr1 ?_))
  go_ret
  exact ⟨_, rfl, ⟨by simp, .inr ⟨w.heap.size, G, ROW, rfl, Nat.zero_le _, f1, Nat.zero_le _, hGm, hRs, by simp⟩⟩, f2, fun b hb => by simp [blkV] at hb; omega⟩
theorem isOK7 : ∀ g e te, ins7 g = some e → Tryz.tys.get e = some te → Go.Sx.Enters Tryz.prog g ∧ InsOK Tryz.prog g e te.size te.bytes := fun g e te h ht => by
 unfold ins7 at h
 split at h
 ·cases h
  rw [ty116] at ht
  cases ht
  exact ⟨entersB_ok Tryz.fnsAre_ Tryz.entersB_ 103 (by kernel_rfl), ins103⟩
 ·cases h
theorem grOK7 : ∀ g e te, grow7 g = some e → Tryz.tys.get e = some te → Go.Sx.Enters Tryz.prog g ∧ GrowOK Tryz.prog g e te.size te.bytes := fun g e te h ht => by
 unfold grow7 at h
 split at h
 ·cases h
  rw [ty116] at ht
  cases ht
  exact ⟨entersB_ok Tryz.fnsAre_ Tryz.entersB_ 130 (by kernel_rfl), grow130⟩
 ·cases h
theorem C7i.fok {spec : Nat → Option (List Sh → Tree Sh)} {stop : Nat → List Nat → Bool} (hs : ∀ g F, spec g = some F → FnOK Tryz.prog (gls7 W7) g F) (he : ∀ g, (spec g).isSome = true → (Tryz.fns.get g).isSome = true) : FnsOK Tryz.prog (C7i prim W7 spec stop) := ⟨hs, (fun g h => by
  rcases h with h | h
  ·exact entersB_ok Tryz.fnsAre_ Tryz.entersB_ g (he g h)
  ·exact entersB_ok Tryz.fnsAre_ Tryz.entersB_ g h), isOK7, grOK7⟩
theorem fok105i (stop : Nat → List Nat → Bool) : FnsOK Tryz.prog (C7i prim W7 spec105 stop) := C7i.fok O105s fun g h => by
 unfold spec105 at h
 split at h
 all_goals first | (cases h; done) | kernel_rfl
theorem posI_in {b : Nat} {l : Nat → List Sh} {key : Int} (h1 : wfG b l = true) (h : hasG b l key = true) : posP (lst Pr b l) key < b := by
 obtain ⟨_, _, h3⟩ := wfG_def.1 h1
 obtain ⟨h4, _⟩ := hasP_at (wfP_sorted h3) h
 simpa using h4
theorem O105 : FnOK Tryz.prog (gls7 W7) 105 F105 := by
 refine fnOK_Ru (C := C7 prim W7 spec105 sAl) (C7.ok _ _) (fok105 _) (m := 300) (n := 400) (L := L0) (fn := Tryz.f105) (by kernel_rfl) (by kernel_rfl) fun H w shs args φ hrep h => ?_
 have hn : Tryz.f105.ntmps = 21 := by kernel_rfl
 unfold F105 at h
 split at h
 ·rename_i x y s2 s3 key
  split at h
  ·rename_i z b l hs2 hs
   obtain ⟨a, hh⟩ := z
   obtain ⟨h1, h2, hφ⟩ := h
   match args, hrep with
   | [v, u1], ⟨hv, r1, _⟩ =>
    obtain ⟨q1, q2⟩ := wfG_row h1
    refine ⟨[.agg [.i .i64 x, .i .i64 y, .sl 1 a hh, .sl 2 b (fnR (rwAt (α := Pr) l))], .i .i64 key], ⟨rep_prs hs2 hs (wfG_def.1 h1).1 hv, r1, trivial⟩, ?_⟩
    rw [hn, a105 prim W7 x y a b hh (rwAt l) key, (q2 key).1, (q2 key).2]
    have e : prim.toN (posI b l key) = posP (lst Pr b l) key := rfl
    refine ⟨q1, h2, fun h => ⟨?_, up_mk (s' := .tup [.i .i64 (retI b l key), .i .i64 (valI b l key)]) ⟨?_, ?_, trivial⟩ hφ⟩, fun h => up_mk (s' := .tup [.i .i64 (retI b l key), .i .i64 (valI b l key)]) ⟨?_, ?_, trivial⟩ hφ⟩
    ·have := posI_in h1 h
     simp [prim_inB, posI]; exact this
    ·show Sh.i _ _ = _; simp [retI, h]
    ·show Sh.i _ _ = _; rw [e]; simp [valI, h]
    ·show Sh.i _ _ = _; simp [retI, h]
    ·show Sh.i _ _ = _; simp [valI, h]
  ·exact h.elim
 ·exact h.elim
/-! The table's functions. -/
def F104 : List Sh → Tree Sh
 | [.agg [.i .i64 x, .i .i64 y, s2, s3], u, t] => match slN 1 s2, slN 2 s3, icode u, icode t with
  | some (a, h), some (b, l), some key, some _ => .need (wfG b l) (.need (inKey key) (.leaf (.tup [.agg [.i .i64 x, .i .i64 y, .sl 1 a h, .sl 2 b l], .i .i64 (retP (lst Pr b l) key), .i .i64 (valP (lst Pr b l) key)])))
  | _, _, _, _ => .fail
 | _ => .fail
def F100 : List Sh → Tree Sh
 | [.agg [.i .i64 x, .i .i64 y, s2, s3], u, t] => match slN 1 s2, slN 2 s3, icode u, icode t with
  | some (a, h), some (b, l), some key, some v => .need (wfG b l) (.need (inKey key) (.need (roomB (b + 1) 16) (.leaf (.tup [.agg [.i .i64 x, .i .i64 y, .sl 1 a h, .sl 2 (len (putP (lst Pr b l) key v)) (fnR (nth (putP (lst Pr b l) key v)))], .i .i64 1, .i .i64 0]))))
  | _, _, _, _ => .fail
 | _ => .fail
def F106 : List Sh → Tree Sh
 | [.agg [.i .i64 x, .i .i64 y, s2, s3], u, t] => match slN 1 s2, slN 2 s3, icode u, icode t with
  | some (a, h), some (b, l), some key, some v => .need (wfG b l) (.need (inKey key) (.need (roomB (b + 1) 16) (.leaf (.tup [.agg [.i .i64 x, .i .i64 y, .sl 1 a h, .sl 2 (len (delP (lst Pr b l) key)) (fnR (nth (delP (lst Pr b l) key)))], .i .i64 (retP (lst Pr b l) key), .i .i64 (valP (lst Pr b l) key)]))))
  | _, _, _, _ => .fail
 | _ => .fail
theorem O100 : FnOK Tryz.prog (gls7 W7) 100 F100 := by
 refine fnOK_Ru (C := C7i prim W7 spec105 sAl) (C7i.ok _ _) (fok105i _) (m := 300) (n := 400) (L := L0) (fn := Tryz.f100) (by kernel_rfl) (by kernel_rfl) fun H w shs args φ hrep h => ?_
 have hn : Tryz.f100.ntmps = 38 := by kernel_rfl
 unfold F100 at h
 split at h
 ·rename_i x y s2 s3 u t
  split at h
  ·rename_i a hh b l key vv hs2 hs hu ht
   obtain ⟨h1, h2, h3, hφ⟩ := h
   match args, hrep with
   | [v, u1, u2], ⟨hv, r1, r2, _⟩ =>
    obtain ⟨q1, q2⟩ := wfG_row h1
    obtain ⟨w1, w2, w3⟩ := wfG_def.1 h1
    have hso := wfP_sorted w3
    refine ⟨[.agg [.i .i64 x, .i .i64 y, .sl 1 a hh, .sl 2 b (fnR (rwAt (α := Pr) l))], .i .i64 key, .i .i64 vv], ⟨rep_prs hs2 hs w1 hv, icK hu r1, icK ht r2, trivial⟩, ?_⟩
    rw [hn, a100 prim W7 x y a b hh (rwAt l) key vv, addN0 b, snoc0, (q2 key).1, (q2 key).2]
    have hll : (lst Pr b l).length = b := lst_length b l
    have hat : ∀ j (hj : j < b), nth (lst Pr b l) j = rwAt (α := Pr) l j := fun j hj => nth_lst hj
    have e : prim.toN (posI b l key) = posP (lst Pr b l) key := rfl
    have hple : posP (lst Pr b l) key ≤ b := by have := posP_le (lst Pr b l) key; rw [hll] at this; exact this
    have hup : prim.upTo (posI b l key) b = true := by simp [prim_upTo, posI]; omega
    have r0 : prim.room b 16 = true := roomB_mono h3 (Nat.le_succ b)
    have fin (n' : Nat) (g' : Nat → List Sh) (hn' : n' = len (putP (lst Pr b l) key vv)) (hg : ∀ j, j < n' → g' j = fnR (nth (putP (lst Pr b l) key vv)) j) :
      up φ (.tup [.agg [.i .i64 x, .i .i64 y, .sl 1 a hh, .os 116 2 n' g'], .i .i64 (Int.ofNat 1), .i .i64 (Int.ofNat 0)]) :=
     up_mk (s' := .tup [.agg [.i .i64 x, .i .i64 y, .sl 1 a hh, .sl 2 (len (putP (lst Pr b l) key vv)) (fnR (nth (putP (lst Pr b l) key vv)))], .i .i64 1, .i .i64 0]) ⟨⟨rfl, rfl, .inr ⟨rfl, rfl, fun _ _ => rfl⟩, .inr ⟨rfl, hn', hg⟩, trivial⟩, rfl, rfl, trivial⟩ hφ
    have hput (hb : hasG b l key = true) : len (putP (lst Pr b l) key vv) = b := by
     have hb : hasP (lst Pr b l) key = true := hb
     show (putP (lst Pr b l) key vv).length = b
     rw [len_put, if_pos hb, hll]
    have hput2 (hb : hasG b l key = false) : len (putP (lst Pr b l) key vv) = b + 1 := by
     have hb : hasP (lst Pr b l) key = false := hb
     show (putP (lst Pr b l) key vv).length = b + 1
     rw [len_put, if_neg (by rw [hb]; simp), hll]
    have yes (hb : hasG b l key = true) : prim.inB (posI b l key) b = true ∧ up φ (.tup [.agg [.i .i64 x, .i .i64 y, .sl 1 a hh, .os 116 2 b (prim.upd (fnR (rwAt (α := Pr) l)) (prim.toN (posI b l key)) 1 [.i .i64 vv])], .i .i64 (Int.ofNat 1), .i .i64 (Int.ofNat 0)]) := by
     have hlt := posI_in h1 hb
     refine ⟨by simp [prim_inB, posI]; omega, fin b _ (hput hb).symm fun j hj => ?_⟩
     have hb' : hasP (lst Pr b l) key = true := hb
     obtain ⟨k1, k2⟩ := hasP_at hso hb'
     rw [prim_upd, e]
     show _ = prR (nth (putP (lst Pr b l) key vv) j)
     rw [putP_t hb', nth_set k1 (by rw [hll]; exact hj)]
     by_cases ej : j = posP (lst Pr b l) key
     ·rw [if_pos ej, if_pos ej]
      have hk : (rwAt (α := Pr) l (posP (lst Pr b l) key)).key = key := by rw [← hat _ hlt, nth_get k1]; exact k2
      subst ej
      simp [fnR, Row.put, prR, hk]
     ·rw [if_neg ej, if_neg ej, hat j hj]; rfl
    have no (hb : hasG b l key = false) : up φ (.tup [.agg [.i .i64 x, .i .i64 y, .sl 1 a hh, .os 116 2 (prim.addN b 1) (prim.ins (fnR (rwAt (α := Pr) l)) (prim.toN (posI b l key)) [.i .i64 key, .i .i64 vv])], .i .i64 (Int.ofNat 1), .i .i64 (Int.ofNat 0)]) := by
     refine fin (b + 1) _ (hput2 hb).symm fun j hj => ?_
     have hb' : hasP (lst Pr b l) key = false := hb
     rw [e]
     show (if j < _ then _ else if j = _ then _ else _) = prR (nth (putP (lst Pr b l) key vv) j)
     rw [putP_f hb', nth_ins (by rw [hll]; exact hple) (by rw [hll]; exact hj)]
     split
     ·rw [hat j (by omega)]; rfl
     ·split
      ·rfl
      ·rw [hat (j - 1) (by omega)]; rfl
    refine ⟨fun h0 => ⟨?_, ?_⟩, fun _ => ?_⟩
    ·-- nothing there
     have hb0 : b = 0 := by simp [prim_leN] at h0; exact h0
     subst hb0
     have hnil : ∀ g' : Nat → List Sh, lst Pr 0 g' = [] := fun _ => rfl
     have wf0 : wfG 0 (fun _ => []) = true := by unfold wfG; rw [hnil]; rfl
     have hh0 : hasG 0 (fun _ => []) key = false := by unfold hasG; rw [hnil]; rfl
     have hh1 : hasG 0 l key = false := by unfold hasG; rw [hnil]; rfl
     have hp0 : posI 0 (fun _ => []) key = 0 := by unfold posI; rw [hnil]; rfl
     refine ⟨wf0, h2, fun hx => (by rw [hh0] at hx; cases hx), fun _ => ⟨by rw [hp0]; rfl, h3, ?_⟩⟩
     refine fin 1 _ (hput2 hh1).symm fun j hj => ?_
     obtain rfl : j = 0 := by omega
     rw [hp0]
     show [Sh.i .i64 key, .i .i64 vv] = prR (nth (putP [] key vv) 0)
     rfl
    all_goals exact ⟨r0, q1, h2, fun hb => yes hb, fun hb => ⟨hup, h3, no hb⟩⟩
  ·exact h.elim
 ·exact h.elim
theorem fok107 (stop : Nat → List Nat → Bool) : FnsOK Tryz.prog (C7i prim W7 spec107 stop) := C7i.fok (fun g F h => by
  unfold spec107 at h
  split at h
  ·cases h; exact fun H w shs args φ _ _ _ h => h.elim
  ·cases h) fun g h => by
 unfold spec107 at h
 split at h
 all_goals first | (cases h; done) | kernel_rfl
theorem O107 : FnOK Tryz.prog (gls7 W7) 107 F107 := by
 refine fnOK_Su (C := C7i prim W7 spec107 unroll) (C7i.ok _ _) (fn := Tryz.f107) (by kernel_rfl) (by kernel_rfl) fun H w shs args φ hrep h => ?_
 have hn : Tryz.f107.ntmps = 36 := by kernel_rfl
 unfold F107 at h
 split at h
 ·rename_i g
  split at h
  ·rename_i n g1 m g2 h0 h1
   obtain ⟨hr, hφ⟩ := h
   match args, hrep with
   | [v], ⟨hv, _⟩ =>
    refine ⟨[.sl 1 2 (nthL [[.sl 2 n g1], [.sl 2 m g2]])], ⟨rep_sl_congr hv fun j hj => ?_, trivial⟩, L0, gSr (C7i.ok _ _) (fok107 _) (hold := nH0) (m := 300) (n := 400) (ts := []) ?_⟩
    ·have : j = 0 ∨ j = 1 := by omega
     rcases this with rfl | rfl
     ·rw [h0]; rfl
     ·rw [h1]; rfl
    ·rw [hn, a107 prim W7 n m g1 g2]
     have hr : prim.room (n + m) 16 = true := hr
     obtain ⟨hr1, hr2⟩ := room_spec hr
     rw [maxLen_eq] at hr2
     have e0 : prim.add .i64 (Int.ofNat 0) (prim.ofN n) = (n : Int) := by
      rw [prim_add, prim_ofN]
      show IntKind.i64.wrap (0 + (n : Int)) = n
      rw [Int.zero_add]
      exact wrap_id (by omega) (by omega)
     have e1 : prim.add .i64 (n : Int) (prim.ofN m) = ((n + m : Nat) : Int) := by
      rw [prim_add, prim_ofN, wrap_id (by omega) (by omega)]; omega
     rw [e0, e1]
     have ng (k : Nat) : prim.lt (k : Int) (Int.ofNat 0) = false := by simp [prim_lt]
     have r0 : prim.room (prim.addN 0 n) 16 = true := by rw [addN0]; exact roomB_mono hr (Nat.le_add_right n m)
     have r1 : prim.room (prim.addN (prim.addN 0 n) m) 16 = true := by rw [addN0]; exact hr
     have le : prim.le (Int.ofNat 0) ((n + m : Nat) : Int) = true := by simp [prim_le]; omega
     have fin := up_mk (φ := φ) (s := .os 116 2 (prim.addN (prim.addN 0 n) m) (prim.snoc (prim.snoc (fun (x : Nat) => []) 0 g1) (prim.addN 0 n) g2)) (s' := .sl 2 (catN n m) (catG g1 n g2)) (.inr ⟨rfl, by rw [addN0]; rfl, fun j hj => by rw [addN0, snoc0]; rfl⟩)
     exact ⟨fun _ => ⟨rfl, fun h => (by rw [ng] at h; cases h), fun _ => ⟨fun _ => ⟨rfl, fun h => (by rw [ng] at h; cases h), fun _ => ⟨fun h => (by cases h), fun _ => ⟨le, hr, fun _ => ⟨rfl, r0, fun _ => ⟨rfl, r1, fun h => (by cases h), fun _ => fin hφ⟩, fun h => (by cases h)⟩, fun h => (by cases h)⟩⟩⟩, fun h => (by cases h)⟩⟩, fun h => (by cases h)⟩
  ·exact h.elim
 ·exact h.elim
end Go.Proofs
namespace Go.Pl
open Go Go.Sx Go.Proofs
def mapOK (op : Int) (b : Nat) (l : Nat → List Sh) : Bool := !decide (ofOp op = 4) || (wfG b l && roomB (b + 1) 16)
end Go.Pl
namespace Go.Proofs
open Go Go.Sx Go.Pl
theorem O106s : ∀ g F, spec106 g = some F → FnOK Tryz.prog (gls7 W7) g F := fun g F h => by
 unfold spec106 at h
 split at h
 ·cases h; exact O102
 ·cases h; exact O105
 ·cases h; exact O107
 ·cases h
theorem fok106 (stop : Nat → List Nat → Bool) : FnsOK Tryz.prog (C7 prim W7 spec106 stop) := C7.fok O106s fun g h => by
 unfold spec106 at h
 split at h
 all_goals first | (cases h; done) | kernel_rfl
theorem wfG_row2 {b : Nat} {l : Nat → List Sh} (h : wfG b l = true) (key : Int) : retI b (fnR (rwAt (α := Pr) l)) key = retP (lst Pr b l) key ∧ valI b (fnR (rwAt (α := Pr) l)) key = valP (lst Pr b l) key := by
 have e : lst Pr b (fnR (rwAt (α := Pr) l)) = lst Pr b l := by rw [lst_put]; rfl
 obtain ⟨h1, h2, h3⟩ := wfG_def.1 h
 refine ⟨by unfold retI retP hasG; rw [e], ?_⟩
 rw [valI_eq (by rw [e]; exact h3), e]
theorem O104 : FnOK Tryz.prog (gls7 W7) 104 F104 := by
 refine fnOK_Ru (C := C7 prim W7 spec106 sAl) (C7.ok _ _) (fok106 _) (m := 300) (n := 400) (L := L0) (fn := Tryz.f104) (by kernel_rfl) (by kernel_rfl) fun H w shs args φ hrep h => ?_
 have hn : Tryz.f104.ntmps = 20 := by kernel_rfl
 unfold F104 at h
 split at h
 ·rename_i x y s2 s3 u t
  split at h
  ·rename_i a hh b l key vv hs2 hs hu ht
   obtain ⟨h1, h2, hφ⟩ := h
   match args, hrep with
   | [v, u1, u2], ⟨hv, r1, r2, _⟩ =>
    obtain ⟨q1, q2⟩ := wfG_row h1
    obtain ⟨e1, e2⟩ := wfG_row2 h1 key
    refine ⟨[.agg [.i .i64 x, .i .i64 y, .sl 1 a hh, .sl 2 b (fnR (rwAt (α := Pr) l))], .i .i64 key, .i .i64 vv], ⟨rep_prs hs2 hs (wfG_def.1 h1).1 hv, icK hu r1, icK ht r2, trivial⟩, ?_⟩
    rw [hn, a104 prim W7 x y a b hh (rwAt l) key vv, e1, e2]
    exact ⟨q1, h2, up_mk (s' := .tup [.agg [.i .i64 x, .i .i64 y, .sl 1 a hh, .sl 2 b l], .i .i64 (retP (lst Pr b l) key), .i .i64 (valP (lst Pr b l) key)]) ⟨⟨rfl, rfl, .inr ⟨rfl, rfl, fun _ _ => rfl⟩, .inr ⟨rfl, rfl, fun j hj => (okB_at (wfG_def.1 h1).1 j hj).symm⟩, trivial⟩, rfl, rfl, trivial⟩ hφ⟩
  ·exact h.elim
 ·exact h.elim
theorem O106 : FnOK Tryz.prog (gls7 W7) 106 F106 := by
 refine fnOK_Ru (C := C7 prim W7 spec106 sAl) (C7.ok _ _) (fok106 _) (m := 600) (n := 800) (L := L0) (fn := Tryz.f106) (by kernel_rfl) (by kernel_rfl) fun H w shs args φ hrep h => ?_
 have hn : Tryz.f106.ntmps = 41 := by kernel_rfl
 unfold F106 at h
 split at h
 ·rename_i x y s2 s3 u t
  split at h
  ·rename_i a hh b l key vv hs2 hs hu ht
   obtain ⟨h1, h2, h3, hφ⟩ := h
   match args, hrep with
   | [v, u1, u2], ⟨hv, r1, r2, _⟩ =>
    obtain ⟨q1, q2⟩ := wfG_row h1
    obtain ⟨e1, e2⟩ := wfG_row2 h1 key
    obtain ⟨w1, w2, w3⟩ := wfG_def.1 h1
    refine ⟨[.agg [.i .i64 x, .i .i64 y, .sl 1 a hh, .sl 2 b (fnR (rwAt (α := Pr) l))], .i .i64 key, .i .i64 vv], ⟨rep_prs hs2 hs w1 hv, icK hu r1, icK ht r2, trivial⟩, ?_⟩
    have hll : (lst Pr b l).length = b := lst_length b l
    have hat : ∀ j (hj : j < b), nth (lst Pr b l) j = rwAt (α := Pr) l j := fun j hj => nth_lst hj
    have e : prim.toN (posI b l key) = posP (lst Pr b l) key := rfl
    have e1' : prim.toN (prim.add .i64 (posI b l key) (Int.ofNat 1)) = posP (lst Pr b l) key + 1 := by
     have : posP (lst Pr b l) key ≤ b := by have := posP_le (lst Pr b l) key; rw [hll] at this; exact this
     rw [prim_add]
     show (IntKind.i64.wrap ((posP (lst Pr b l) key : Int) + 1)).toNat = _
     rw [wrap_id (by omega) (by omega)]; omega
    have e1i : hasG b l key = true → prim.upTo (prim.add .i64 (posI b l key) (Int.ofNat 1)) b = true := fun hb => by
     have := posI_in h1 hb
     rw [prim_add]
     show prim.upTo (IntKind.i64.wrap ((posP (lst Pr b l) key : Int) + 1)) b = true
     rw [wrap_id (by omega) (by omega)]
     simp [prim_upTo]; omega
    have hup : prim.upTo (posI b l key) b = true := by
     have : posP (lst Pr b l) key ≤ b := by have := posP_le (lst Pr b l) key; rw [hll] at this; exact this
     simp [prim_upTo, posI]; omega
    rw [hn, a106 prim W7 x y a b hh (rwAt l) key vv, e1, e2, (q2 key).1, (q2 key).2]
    have fin (n' : Nat) (g' : Nat → List Sh) (hn' : n' = len (delP (lst Pr b l) key)) (hg : ∀ j, j < n' → g' j = fnR (nth (delP (lst Pr b l) key)) j) :
      up φ (.tup [.agg [.i .i64 x, .i .i64 y, .sl 1 a hh, .sl 2 n' g'], .i .i64 (retP (lst Pr b l) key), .i .i64 (valP (lst Pr b l) key)]) :=
     up_mk (s' := .tup [.agg [.i .i64 x, .i .i64 y, .sl 1 a hh, .sl 2 (len (delP (lst Pr b l) key)) (fnR (nth (delP (lst Pr b l) key)))], .i .i64 (retP (lst Pr b l) key), .i .i64 (valP (lst Pr b l) key)]) ⟨⟨rfl, rfl, .inr ⟨rfl, rfl, fun _ _ => rfl⟩, .inr ⟨rfl, hn', hg⟩, trivial⟩, rfl, rfl, trivial⟩ hφ
    have hdl : len (delP (lst Pr b l) key) = if hasP (lst Pr b l) key = true then b - 1 else b := by
     show (delP (lst Pr b l) key).length = _
     rw [len_del w3, hll]
    refine ⟨q1, h2, q1, h2, fun hb => ?_, fun hb => ?_⟩
    ·have hup1 := e1i hb
     have hlt := posI_in h1 hb
     have hb' : hasP (lst Pr b l) key = true := hb
     have rr : roomB (catN (prim.toN (posI b l key)) (prim.subN b (prim.toN (prim.add .i64 (posI b l key) (Int.ofNat 1))))) 16 = true := by
      rw [e, e1', prim_subN]
      exact roomB_mono h3 (by show posP (lst Pr b l) key + (b - (posP (lst Pr b l) key + 1)) ≤ b + 1; omega)
     have last : up φ (.tup [.agg [.i .i64 x, .i .i64 y, .sl 1 a hh, .sl 2 (catN (prim.toN (posI b l key)) (prim.subN b (prim.toN (prim.add .i64 (posI b l key) (Int.ofNat 1))))) (catG (fnR (rwAt (α := Pr) l)) (prim.toN (posI b l key)) fun (j : Nat) => fnR (rwAt (α := Pr) l) (prim.addN (prim.toN (prim.add .i64 (posI b l key) 1)) j))], .i .i64 (retP (lst Pr b l) key), .i .i64 (valP (lst Pr b l) key)]) := by
      have e2' : prim.toN (prim.add .i64 (posI b l key) 1) = posP (lst Pr b l) key + 1 := e1'
      rw [e1', e2', e, prim_subN]
      refine fin _ _ (by rw [hdl, if_pos hb']; show posP (lst Pr b l) key + (b - (posP (lst Pr b l) key + 1)) = _; omega) fun j hj => ?_
      have hj : j < posP (lst Pr b l) key + (b - (posP (lst Pr b l) key + 1)) := hj
      obtain ⟨k1, _⟩ := hasP_at (wfP_sorted w3) hb'
      show prim.snoc _ _ _ j = prR (nth (delP (lst Pr b l) key) j)
      rw [delP_t hb', nth_del k1 (by rw [hll]; omega), prim_snoc]
      split
      ·rw [hat j (by omega)]; rfl
      ·rw [hat (j + 1) (by omega), prim_addN]
       show prR (rwAt l (posP (lst Pr b l) key + 1 + (j - posP (lst Pr b l) key))) = _
       rw [show posP (lst Pr b l) key + 1 + (j - posP (lst Pr b l) key) = j + 1 by omega]
     clear hφ fin hat
     rw [hup, hup1, rr]
     generalize prim.toN (posI b l key) = n1 at *
     generalize prim.subN b (prim.toN (prim.add .i64 (posI b l key) (Int.ofNat 1))) = n2 at *
     repeat' (first | exact rfl | exact trivial | exact last | refine And.intro ?_ ?_)
    ·have hb' : hasP (lst Pr b l) key = false := hb
     exact fin b _ (by rw [hdl, if_neg (by rw [hb']; simp)]) fun j hj => by
      show prR (rwAt l j) = prR (nth (delP (lst Pr b l) key) j)
      rw [delP_f hb', hat j hj]
  ·exact h.elim
 ·exact h.elim
end Go.Proofs
namespace Go.Sx
section
variable {P : Program} {C : Ctx} {K : Kx}
theorem goesS_tm {g : Nat} {td : List It} {c : Core} {stk : List Fr} {R : Hp → Prop} {φ : Sh → Prop} (tm' : List SV) (h : ∀ (H : Mem) (E : Env) (vs : List Value), DenL H E c.tm vs → DenL H E tm' vs) (hgo : GoesS P C K g td { c with tm := tm' } stk R φ) : GoesS P C K g td c stk R φ := by
 intro H E w a items ms cs fn hfn st hi hs hx
 exact hgo H E w a items ms cs fn hfn ⟨h H E _ st.den, st.hp, st.wok, st.free, st.gl, st.defers⟩ hi hs hx
theorem den_num {H : Mem} {E : Env} {k : IntKind} {n : Int} : ∀ (i : Nat) {l : List SV} {vs : List Value}, l[i]? = some (.sym k n) → DenL H E l vs → DenL H E (l.set i (.int k n)) vs
 | _, [], _, h, _ => by simp at h
 | _, _ :: _, [], _, h => h.elim
 | 0, x :: l, v :: vs, h, ⟨h1, h2⟩ => by
  simp at h
  subst h
  exact ⟨h1, h2⟩
 | i + 1, x :: l, v :: vs, h, ⟨h1, h2⟩ => ⟨h1, den_num i (by simpa using h) h2⟩
end
end Go.Sx
namespace Go.Pl
open Go Go.Sx
def addW (a b : Int) : Int := IntKind.i64.wrap (a + b)
def shiftG (h : Nat → List Sh) : Nat → List Sh := fun j => h (1 + j)
def predN (a : Nat) : Nat := a - 1
def deqR (a : Nat) : Int := if a = 0 then 2 else 3
def headI (a : Nat) (o : Nat → Int) : Int := if a = 0 then 0 else o 0
end Go.Pl
namespace Go.Proofs
open Go.Sx.Tree
open Go Go.Sx Go.Pl
def F66 : List Sh → Tree Sh
 | [t] => match icode t with
  | some op => .leaf (.i .i64 (ofOp op))
  | none => .fail
 | _ => .fail
def F67 : List Sh → Tree Sh
 | [t] => match icode t with
  | some op => .leaf (.b (keyed op))
  | none => .fail
 | _ => .fail
def F68 : List Sh → Tree Sh
 | [t] => match icode t with
  | some op => .leaf (.b (valued op))
  | none => .fail
 | _ => .fail
def F69 : List Sh → Tree Sh
 | [t, u, v] => match icode t, icode u, icode v with
  | some k, some x, some y => .leaf (.b (beyondB k x y))
  | _, _, _ => .fail
 | _ => .fail
def F94 : List Sh → Tree Sh
 | [.agg [.i .i64 x, .i .i64 y, s2, s3], u, t] => match slN 1 s2, slN 2 s3, icode u, icode t with
  | some (a, h), some (b, l), some _, some _ => .leaf (.tup [.agg [.i .i64 x, .i .i64 y, .sl 1 a h, .sl 2 b l], .i .i64 3, .i .i64 y])
  | _, _, _, _ => .fail
 | _ => .fail
def F95 : List Sh → Tree Sh
 | [.agg [.i .i64 x, .i .i64 _, s2, s3], u, t] => match slN 1 s2, slN 2 s3, icode u, icode t with
  | some (a, h), some (b, l), some _, some v => .leaf (.tup [.agg [.i .i64 x, .i .i64 v, .sl 1 a h, .sl 2 b l], .i .i64 1, .i .i64 0])
  | _, _, _, _ => .fail
 | _ => .fail
def F96 : List Sh → Tree Sh
 | [.agg [.i .i64 x, .i .i64 y, s2, s3], u, t] => match slN 1 s2, slN 2 s3, icode u, icode t with
  | some (a, h), some (b, l), some _, some v => .leaf (.tup [.agg [.i .i64 x, .i .i64 (addW y v), .sl 1 a h, .sl 2 b l], .i .i64 1, .i .i64 0])
  | _, _, _, _ => .fail
 | _ => .fail
def F97 : List Sh → Tree Sh
 | [.agg [.i .i64 x, .i .i64 y, s2, s3], u, t] => match slN 1 s2, slN 2 s3, icode u, icode t with
  | some (a, h), some (b, l), some _, some v => .need (roomB (a + 1) 8) (.leaf (.tup [.agg [.i .i64 x, .i .i64 y, .sl 1 (a + 1) (snocG a h [.i .i64 v]), .sl 2 b l], .i .i64 1, .i .i64 0]))
  | _, _, _, _ => .fail
 | _ => .fail
def F99 : List Sh → Tree Sh
 | [.agg [.i .i64 x, .i .i64 y, s2, s3], u, t] => match slN 1 s2, slN 2 s3, icode u, icode t with
  | some (a, h), some (b, l), some _, some _ => .need (okB Int a h) (.leaf (.tup [.agg [.i .i64 x, .i .i64 y, .sl 1 (predN a) (shiftG h), .sl 2 b l], .i .i64 (deqR a), .i .i64 (headI a (rwAt h))]))
  | _, _, _, _ => .fail
 | _ => .fail
def specD : Nat → Option (List Sh → Tree Sh)
 | 66 => some F66
 | 67 => some F67
 | 68 => some F68
 | 69 => some F69
 | 94 => some F94
 | 95 => some F95
 | 96 => some F96
 | 97 => some F97
 | 99 => some F99
 | 100 => some F100
 | 104 => some F104
 | 106 => some F106
 | _ => none
def natsEq : List Nat → List Nat → Bool
 | [], [] => true
 | x :: l, y :: r => Nat.beq x y && natsEq l r
 | _, _ => false
def pauseAt (f : Nat) (ps : List (List Nat)) (g : Nat) (td : List It) : Bool := Nat.beq g f && match td with
 | .code r :: _ => ps.any (natsEq r)
 | _ => false
def pause42 : Nat → List It → Bool := pauseAt 42 [[0, 1, 1, 1, 1]]
def L42 (x y : Int) (a b : Nat) (h l : Nat → List Sh) (op k v : Int) : Core := { tm := tmOf 88 [(1, .sym .i64 op), (2, .sym .i64 k), (3, .sym .i64 v), (4, .ptr 0 0), (8, .ptr 1 0)], hp := [(0, .box [.sym .i64 x, .sym .i64 y, .sh (.sl 1 a h), .sh (.sl 2 b l)] 72), (1, .box [.int .i64 0, .int .i64 0, .nils, .nils] 72)], nx := 2, lim := L0, tc := [] }
def L42n (x y : Int) (a b : Nat) (h l : Nat → List Sh) (n : Int) (k v : Int) : Core := { tm := (L42 x y a b h l n k v).tm.set 1 (.int .i64 n), hp := (L42 x y a b h l n k v).hp, nx := 2, lim := L0, tc := [] }
def td42 : List It := [It.code [0, 1, 1, 1, 1], It.code [1, 1, 1, 1, 1]]
theorem a94 (A : Prim) (W : Wd) (x y : Int) (a b : Nat) (h l : Nat → List Sh) (k v : Int) : runTo (C7 A W specA sAl) nH0 300 400 94 [.code []] (start0 12 [.agg [.i .i64 x, .i .i64 y, .sl 1 a h, .sl 2 b l], .i .i64 k, .i .i64 v] L0) [] [] = leaf (Fe2.ret (Sh.tup [Sh.agg [Sh.i .i64 x, Sh.i .i64 y, Sh.sl 1 a h, Sh.sl 2 b l], Sh.i .i64 (Int.ofNat 3), Sh.i .i64 y])) := by kernel_rfl
theorem a95 (A : Prim) (W : Wd) (x y : Int) (a b : Nat) (h l : Nat → List Sh) (k v : Int) : runTo (C7 A W specA sAl) nH0 300 400 95 [.code []] (start0 12 [.agg [.i .i64 x, .i .i64 y, .sl 1 a h, .sl 2 b l], .i .i64 k, .i .i64 v] L0) [] [] = leaf (Fe2.ret (Sh.tup [Sh.agg [Sh.i .i64 x, Sh.i .i64 v, Sh.sl 1 a h, Sh.sl 2 b l], Sh.i .i64 (Int.ofNat 1), Sh.i .i64 (Int.ofNat 0)])) := by kernel_rfl
theorem a96 (A : Prim) (W : Wd) (x y : Int) (a b : Nat) (h l : Nat → List Sh) (k v : Int) : runTo (C7 A W specA sAl) nH0 300 400 96 [.code []] (start0 15 [.agg [.i .i64 x, .i .i64 y, .sl 1 a h, .sl 2 b l], .i .i64 k, .i .i64 v] L0) [] [] = leaf (Fe2.ret (Sh.tup [Sh.agg [Sh.i .i64 x, Sh.i .i64 (A.add .i64 y v), Sh.sl 1 a h, Sh.sl 2 b l], Sh.i .i64 (Int.ofNat 1), Sh.i .i64 (Int.ofNat 0)])) := by kernel_rfl
theorem a97 (A : Prim) (W : Wd) (x y : Int) (a b : Nat) (h l : Nat → List Sh) (k v : Int) : runTo (C7 A W specA sAl) nH0 300 400 97 [.code []] (start0 17 [.agg [.i .i64 x, .i .i64 y, .sl 1 a h, .sl 2 b l], .i .i64 k, .i .i64 v] L0) [] [] = node (A.leN a 0) ((leaf (Fe2.ret (Sh.tup [Sh.agg [Sh.i .i64 x, Sh.i .i64 y, Sh.os 3 1 1 (nthL [[Sh.i .i64 v]]), Sh.sl 2 b l], Sh.i .i64 (Int.ofNat 1), Sh.i .i64 (Int.ofNat 0)]))).both (need (A.room (A.addN 0 a) 8) (need (A.room (A.addN (A.addN 0 a) 1) 8) (leaf (Fe2.ret (Sh.tup [Sh.agg [Sh.i .i64 x, Sh.i .i64 y, Sh.os 3 1 (A.addN (A.addN 0 a) 1) (A.snoc (A.snoc (nthL []) 0 h) (A.addN 0 a) (nthL [[Sh.i .i64 v]])), Sh.sl 2 b l], Sh.i .i64 (Int.ofNat 1), Sh.i .i64 (Int.ofNat 0)])))))) (need (A.room (A.addN 0 a) 8) (need (A.room (A.addN (A.addN 0 a) 1) 8) (leaf (Fe2.ret (Sh.tup [Sh.agg [Sh.i .i64 x, Sh.i .i64 y, Sh.os 3 1 (A.addN (A.addN 0 a) 1) (A.snoc (A.snoc (nthL []) 0 h) (A.addN 0 a) (nthL [[Sh.i .i64 v]])), Sh.sl 2 b l], Sh.i .i64 (Int.ofNat 1), Sh.i .i64 (Int.ofNat 0)]))))) := by kernel_rfl
theorem a99 (A : Prim) (W : Wd) (x y : Int) (a b : Nat) (o : Nat → Int) (l : Nat → List Sh) (k v : Int) : runTo (C7 A W specA sAl) nH0 300 400 99 [.code []] (start0 25 [.agg [.i .i64 x, .i .i64 y, .sl 1 a (fnR o), .sl 2 b l], .i .i64 k, .i .i64 v] L0) [] [] = node (A.eq (A.ofN a) (Int.ofNat 0)) (leaf (Fe2.ret (Sh.tup [Sh.agg [Sh.i .i64 x, Sh.i .i64 y, Sh.sl 1 a (fnR o), Sh.sl 2 b l], Sh.i .i64 (Int.ofNat 2), Sh.i .i64 (Int.ofNat 0)]))) (need (A.inB (Int.ofNat 0) a) (need (A.upTo (Int.ofNat 1) a) (leaf (Fe2.ret (Sh.tup [Sh.agg [Sh.i .i64 x, Sh.i .i64 y, Sh.sl 1 (A.subN a 1) fun (j : Nat) => fnR o (A.addN 1 j), Sh.sl 2 b l], Sh.i .i64 (Int.ofNat 3), Sh.i .i64 (o 0)]))))) := by kernel_rfl
theorem a42 (A : Prim) (W : Wd) (x y : Int) (a b : Nat) (h l : Nat → List Sh) (op k v : Int) : runV (C7 A W specD sAl) pause42 300 400 42 [.code []] (start0 88 [.agg [.i .i64 x, .i .i64 y, .sl 1 a h, .sl 2 b l], .i .i64 op, .i .i64 k, .i .i64 v] L0) [] [⟨42, td42, L42 x y a b h l op k v, []⟩] = node (A.eq x (Int.ofNat 0)) (leaf (Fe2.ret (Sh.tup [Sh.agg [Sh.i .i64 (Int.ofNat 0), Sh.i .i64 (Int.ofNat 0), Sh.sl 0 0 fun _ => [], Sh.sl 0 0 fun _ => []], Sh.i .i64 (Int.ofNat 0), Sh.i .i64 (Int.ofNat 0), Sh.er 1 242]))) (node (A.nt (A.eq (ofOp op) x)) (leaf (Fe2.ret (Sh.tup [Sh.agg [Sh.i .i64 (Int.ofNat 0), Sh.i .i64 (Int.ofNat 0), Sh.sl 0 0 fun _ => [], Sh.sl 0 0 fun _ => []], Sh.i .i64 (Int.ofNat 0), Sh.i .i64 (Int.ofNat 0), Sh.er 1 242]))) (node (A.nt (A.eq k (Int.ofNat 0))) (node (A.nt (keyed op)) (leaf (Fe2.ret (Sh.tup [Sh.agg [Sh.i .i64 (Int.ofNat 0), Sh.i .i64 (Int.ofNat 0), Sh.sl 0 0 fun _ => [], Sh.sl 0 0 fun _ => []], Sh.i .i64 (Int.ofNat 0), Sh.i .i64 (Int.ofNat 0), Sh.er 3 242]))) (node (A.lt k (Int.ofNat 0)) (leaf (Fe2.ret (Sh.tup [Sh.agg [Sh.i .i64 (Int.ofNat 0), Sh.i .i64 (Int.ofNat 0), Sh.sl 0 0 fun _ => [], Sh.sl 0 0 fun _ => []], Sh.i .i64 (Int.ofNat 0), Sh.i .i64 (Int.ofNat 0), Sh.er 3 242]))) (node (A.lt (Int.ofNat 1000) k) (leaf (Fe2.ret (Sh.tup [Sh.agg [Sh.i .i64 (Int.ofNat 0), Sh.i .i64 (Int.ofNat 0), Sh.sl 0 0 fun _ => [], Sh.sl 0 0 fun _ => []], Sh.i .i64 (Int.ofNat 0), Sh.i .i64 (Int.ofNat 0), Sh.er 3 242]))) (node (A.nt (A.eq v (Int.ofNat 0))) (node (A.nt (valued op)) (leaf (Fe2.ret (Sh.tup [Sh.agg [Sh.i .i64 (Int.ofNat 0), Sh.i .i64 (Int.ofNat 0), Sh.sl 0 0 fun _ => [], Sh.sl 0 0 fun _ => []], Sh.i .i64 (Int.ofNat 0), Sh.i .i64 (Int.ofNat 0), Sh.er 3 242]))) (node (A.lt v (Int.negSucc 999999999)) (leaf (Fe2.ret (Sh.tup [Sh.agg [Sh.i .i64 (Int.ofNat 0), Sh.i .i64 (Int.ofNat 0), Sh.sl 0 0 fun _ => [], Sh.sl 0 0 fun _ => []], Sh.i .i64 (Int.ofNat 0), Sh.i .i64 (Int.ofNat 0), Sh.er 3 242]))) (node (A.lt (Int.ofNat 1000000000) v) (leaf (Fe2.ret (Sh.tup [Sh.agg [Sh.i .i64 (Int.ofNat 0), Sh.i .i64 (Int.ofNat 0), Sh.sl 0 0 fun _ => [], Sh.sl 0 0 fun _ => []], Sh.i .i64 (Int.ofNat 0), Sh.i .i64 (Int.ofNat 0), Sh.er 3 242]))) (node (A.eq op (Int.ofNat 3)) (node (beyondB x (Int.ofNat 0) (A.add .i64 y v)) (leaf (Fe2.ret (Sh.tup [Sh.agg [Sh.i .i64 (Int.ofNat 0), Sh.i .i64 (Int.ofNat 0), Sh.sl 0 0 fun _ => [], Sh.sl 0 0 fun _ => []], Sh.i .i64 (Int.ofNat 0), Sh.i .i64 (Int.ofNat 0), Sh.er 3 242]))) (leaf (Fe2.at_ 0 [Eqn.int op op, Eqn.int k k, Eqn.int v v, Eqn.int x x, Eqn.int y y, Eqn.sh (Sh.sl 1 a h) (Sh.sl 1 a h), Eqn.sh (Sh.sl 2 b l) (Sh.sl 2 b l), Eqn.int (Int.ofNat 0) (Int.ofNat 0), Eqn.int (Int.ofNat 0) (Int.ofNat 0)]))) (leaf (Fe2.at_ 0 [Eqn.int op op, Eqn.int k k, Eqn.int v v, Eqn.int x x, Eqn.int y y, Eqn.sh (Sh.sl 1 a h) (Sh.sl 1 a h), Eqn.sh (Sh.sl 2 b l) (Sh.sl 2 b l), Eqn.int (Int.ofNat 0) (Int.ofNat 0), Eqn.int (Int.ofNat 0) (Int.ofNat 0)])))))) (node (A.lt v (Int.negSucc 999999999)) (leaf (Fe2.ret (Sh.tup [Sh.agg [Sh.i .i64 (Int.ofNat 0), Sh.i .i64 (Int.ofNat 0), Sh.sl 0 0 fun _ => [], Sh.sl 0 0 fun _ => []], Sh.i .i64 (Int.ofNat 0), Sh.i .i64 (Int.ofNat 0), Sh.er 3 242]))) (node (A.lt (Int.ofNat 1000000000) v) (leaf (Fe2.ret (Sh.tup [Sh.agg [Sh.i .i64 (Int.ofNat 0), Sh.i .i64 (Int.ofNat 0), Sh.sl 0 0 fun _ => [], Sh.sl 0 0 fun _ => []], Sh.i .i64 (Int.ofNat 0), Sh.i .i64 (Int.ofNat 0), Sh.er 3 242]))) (node (A.eq op (Int.ofNat 3)) (node (beyondB x (Int.ofNat 0) (A.add .i64 y v)) (leaf (Fe2.ret (Sh.tup [Sh.agg [Sh.i .i64 (Int.ofNat 0), Sh.i .i64 (Int.ofNat 0), Sh.sl 0 0 fun _ => [], Sh.sl 0 0 fun _ => []], Sh.i .i64 (Int.ofNat 0), Sh.i .i64 (Int.ofNat 0), Sh.er 3 242]))) (leaf (Fe2.at_ 0 [Eqn.int op op, Eqn.int k k, Eqn.int v v, Eqn.int x x, Eqn.int y y, Eqn.sh (Sh.sl 1 a h) (Sh.sl 1 a h), Eqn.sh (Sh.sl 2 b l) (Sh.sl 2 b l), Eqn.int (Int.ofNat 0) (Int.ofNat 0), Eqn.int (Int.ofNat 0) (Int.ofNat 0)]))) (leaf (Fe2.at_ 0 [Eqn.int op op, Eqn.int k k, Eqn.int v v, Eqn.int x x, Eqn.int y y, Eqn.sh (Sh.sl 1 a h) (Sh.sl 1 a h), Eqn.sh (Sh.sl 2 b l) (Sh.sl 2 b l), Eqn.int (Int.ofNat 0) (Int.ofNat 0), Eqn.int (Int.ofNat 0) (Int.ofNat 0)]))))))))) (node (A.lt k (Int.ofNat 0)) (leaf (Fe2.ret (Sh.tup [Sh.agg [Sh.i .i64 (Int.ofNat 0), Sh.i .i64 (Int.ofNat 0), Sh.sl 0 0 fun _ => [], Sh.sl 0 0 fun _ => []], Sh.i .i64 (Int.ofNat 0), Sh.i .i64 (Int.ofNat 0), Sh.er 3 242]))) (node (A.lt (Int.ofNat 1000) k) (leaf (Fe2.ret (Sh.tup [Sh.agg [Sh.i .i64 (Int.ofNat 0), Sh.i .i64 (Int.ofNat 0), Sh.sl 0 0 fun _ => [], Sh.sl 0 0 fun _ => []], Sh.i .i64 (Int.ofNat 0), Sh.i .i64 (Int.ofNat 0), Sh.er 3 242]))) (node (A.nt (A.eq v (Int.ofNat 0))) (node (A.nt (valued op)) (leaf (Fe2.ret (Sh.tup [Sh.agg [Sh.i .i64 (Int.ofNat 0), Sh.i .i64 (Int.ofNat 0), Sh.sl 0 0 fun _ => [], Sh.sl 0 0 fun _ => []], Sh.i .i64 (Int.ofNat 0), Sh.i .i64 (Int.ofNat 0), Sh.er 3 242]))) (node (A.lt v (Int.negSucc 999999999)) (leaf (Fe2.ret (Sh.tup [Sh.agg [Sh.i .i64 (Int.ofNat 0), Sh.i .i64 (Int.ofNat 0), Sh.sl 0 0 fun _ => [], Sh.sl 0 0 fun _ => []], Sh.i .i64 (Int.ofNat 0), Sh.i .i64 (Int.ofNat 0), Sh.er 3 242]))) (node (A.lt (Int.ofNat 1000000000) v) (leaf (Fe2.ret (Sh.tup [Sh.agg [Sh.i .i64 (Int.ofNat 0), Sh.i .i64 (Int.ofNat 0), Sh.sl 0 0 fun _ => [], Sh.sl 0 0 fun _ => []], Sh.i .i64 (Int.ofNat 0), Sh.i .i64 (Int.ofNat 0), Sh.er 3 242]))) (node (A.eq op (Int.ofNat 3)) (node (beyondB x (Int.ofNat 0) (A.add .i64 y v)) (leaf (Fe2.ret (Sh.tup [Sh.agg [Sh.i .i64 (Int.ofNat 0), Sh.i .i64 (Int.ofNat 0), Sh.sl 0 0 fun _ => [], Sh.sl 0 0 fun _ => []], Sh.i .i64 (Int.ofNat 0), Sh.i .i64 (Int.ofNat 0), Sh.er 3 242]))) (leaf (Fe2.at_ 0 [Eqn.int op op, Eqn.int k k, Eqn.int v v, Eqn.int x x, Eqn.int y y, Eqn.sh (Sh.sl 1 a h) (Sh.sl 1 a h), Eqn.sh (Sh.sl 2 b l) (Sh.sl 2 b l), Eqn.int (Int.ofNat 0) (Int.ofNat 0), Eqn.int (Int.ofNat 0) (Int.ofNat 0)]))) (leaf (Fe2.at_ 0 [Eqn.int op op, Eqn.int k k, Eqn.int v v, Eqn.int x x, Eqn.int y y, Eqn.sh (Sh.sl 1 a h) (Sh.sl 1 a h), Eqn.sh (Sh.sl 2 b l) (Sh.sl 2 b l), Eqn.int (Int.ofNat 0) (Int.ofNat 0), Eqn.int (Int.ofNat 0) (Int.ofNat 0)])))))) (node (A.lt v (Int.negSucc 999999999)) (leaf (Fe2.ret (Sh.tup [Sh.agg [Sh.i .i64 (Int.ofNat 0), Sh.i .i64 (Int.ofNat 0), Sh.sl 0 0 fun _ => [], Sh.sl 0 0 fun _ => []], Sh.i .i64 (Int.ofNat 0), Sh.i .i64 (Int.ofNat 0), Sh.er 3 242]))) (node (A.lt (Int.ofNat 1000000000) v) (leaf (Fe2.ret (Sh.tup [Sh.agg [Sh.i .i64 (Int.ofNat 0), Sh.i .i64 (Int.ofNat 0), Sh.sl 0 0 fun _ => [], Sh.sl 0 0 fun _ => []], Sh.i .i64 (Int.ofNat 0), Sh.i .i64 (Int.ofNat 0), Sh.er 3 242]))) (node (A.eq op (Int.ofNat 3)) (node (beyondB x (Int.ofNat 0) (A.add .i64 y v)) (leaf (Fe2.ret (Sh.tup [Sh.agg [Sh.i .i64 (Int.ofNat 0), Sh.i .i64 (Int.ofNat 0), Sh.sl 0 0 fun _ => [], Sh.sl 0 0 fun _ => []], Sh.i .i64 (Int.ofNat 0), Sh.i .i64 (Int.ofNat 0), Sh.er 3 242]))) (leaf (Fe2.at_ 0 [Eqn.int op op, Eqn.int k k, Eqn.int v v, Eqn.int x x, Eqn.int y y, Eqn.sh (Sh.sl 1 a h) (Sh.sl 1 a h), Eqn.sh (Sh.sl 2 b l) (Sh.sl 2 b l), Eqn.int (Int.ofNat 0) (Int.ofNat 0), Eqn.int (Int.ofNat 0) (Int.ofNat 0)]))) (leaf (Fe2.at_ 0 [Eqn.int op op, Eqn.int k k, Eqn.int v v, Eqn.int x x, Eqn.int y y, Eqn.sh (Sh.sl 1 a h) (Sh.sl 1 a h), Eqn.sh (Sh.sl 2 b l) (Sh.sl 2 b l), Eqn.int (Int.ofNat 0) (Int.ofNat 0), Eqn.int (Int.ofNat 0) (Int.ofNat 0)])))))))))) := by kernel_rfl
noncomputable def b42_1_e1 (x y : Int) (a b : Nat) (h l : Nat → List Sh) (k v : Int) : List Eqn := [Eqn.int k k, Eqn.int v v, Eqn.int (Int.ofNat 3) (Int.ofNat 3), Eqn.int y y, Eqn.int x x, Eqn.int y y, Eqn.sh (Sh.sl 1 a h) (Sh.sl 1 a h), Eqn.sh (Sh.sl 2 b l) (Sh.sl 2 b l), Eqn.int x x, Eqn.int y y, Eqn.sh (Sh.sl 1 a h) (Sh.sl 1 a h), Eqn.sh (Sh.sl 2 b l) (Sh.sl 2 b l)]
theorem b42_1 (A : Prim) (W : Wd) (x y : Int) (a b : Nat) (h l : Nat → List Sh) (k v : Int) : runTo (C7 A W specD sAl) nH0 300 400 42 td42 (L42n x y a b h l 1 k v) [] [] = must (b42_1_e1 x y a b h l k v) (must (b42_1_e1 x y a b h l k v) (must (b42_1_e1 x y a b h l k v) (leaf (Fe2.ret (Sh.tup [Sh.agg [Sh.i .i64 x, Sh.i .i64 y, Sh.sl 1 a h, Sh.sl 2 b l], Sh.i .i64 (Int.ofNat 3), Sh.i .i64 y, Sh.v Value.nilIface]))))) := by kernel_rfl
noncomputable def b42_2_e1 (x y : Int) (a b : Nat) (h l : Nat → List Sh) (k v : Int) : List Eqn := [Eqn.int k k, Eqn.int v v, Eqn.int (Int.ofNat 1) (Int.ofNat 1), Eqn.int (Int.ofNat 0) (Int.ofNat 0), Eqn.int x x, Eqn.int y y, Eqn.sh (Sh.sl 1 a h) (Sh.sl 1 a h), Eqn.sh (Sh.sl 2 b l) (Sh.sl 2 b l), Eqn.int x x, Eqn.int v v, Eqn.sh (Sh.sl 1 a h) (Sh.sl 1 a h), Eqn.sh (Sh.sl 2 b l) (Sh.sl 2 b l)]
theorem b42_2 (A : Prim) (W : Wd) (x y : Int) (a b : Nat) (h l : Nat → List Sh) (k v : Int) : runTo (C7 A W specD sAl) nH0 300 400 42 td42 (L42n x y a b h l 2 k v) [] [] = must (b42_2_e1 x y a b h l k v) (must (b42_2_e1 x y a b h l k v) (must (b42_2_e1 x y a b h l k v) (leaf (Fe2.ret (Sh.tup [Sh.agg [Sh.i .i64 x, Sh.i .i64 v, Sh.sl 1 a h, Sh.sl 2 b l], Sh.i .i64 (Int.ofNat 1), Sh.i .i64 (Int.ofNat 0), Sh.v Value.nilIface]))))) := by kernel_rfl
noncomputable def b42_3_e1 (x y : Int) (a b : Nat) (h l : Nat → List Sh) (k v : Int) : List Eqn := [Eqn.int k k, Eqn.int v v, Eqn.int (Int.ofNat 1) (Int.ofNat 1), Eqn.int (Int.ofNat 0) (Int.ofNat 0), Eqn.int x x, Eqn.int y y, Eqn.sh (Sh.sl 1 a h) (Sh.sl 1 a h), Eqn.sh (Sh.sl 2 b l) (Sh.sl 2 b l), Eqn.int x x, Eqn.int (addW y v) (addW y v), Eqn.sh (Sh.sl 1 a h) (Sh.sl 1 a h), Eqn.sh (Sh.sl 2 b l) (Sh.sl 2 b l)]
theorem b42_3 (A : Prim) (W : Wd) (x y : Int) (a b : Nat) (h l : Nat → List Sh) (k v : Int) : runTo (C7 A W specD sAl) nH0 300 400 42 td42 (L42n x y a b h l 3 k v) [] [] = must (b42_3_e1 x y a b h l k v) (must (b42_3_e1 x y a b h l k v) (must (b42_3_e1 x y a b h l k v) (leaf (Fe2.ret (Sh.tup [Sh.agg [Sh.i .i64 x, Sh.i .i64 (addW y v), Sh.sl 1 a h, Sh.sl 2 b l], Sh.i .i64 (Int.ofNat 1), Sh.i .i64 (Int.ofNat 0), Sh.v Value.nilIface]))))) := by kernel_rfl
noncomputable def b42_4_e1 (x y : Int) (a b : Nat) (h l : Nat → List Sh) (k v : Int) : List Eqn := [Eqn.int k k, Eqn.int v v, Eqn.int (Int.ofNat 3) (Int.ofNat 3), Eqn.int y y, Eqn.int x x, Eqn.int y y, Eqn.sh (Sh.sl 1 a h) (Sh.sl 1 a h), Eqn.sh (Sh.sl 2 b l) (Sh.sl 2 b l), Eqn.int x x, Eqn.int y y, Eqn.sh (Sh.sl 1 a h) (Sh.sl 1 a h), Eqn.sh (Sh.sl 2 b l) (Sh.sl 2 b l)]
theorem b42_4 (A : Prim) (W : Wd) (x y : Int) (a b : Nat) (h l : Nat → List Sh) (k v : Int) : runTo (C7 A W specD sAl) nH0 300 400 42 td42 (L42n x y a b h l 4 k v) [] [] = must (b42_4_e1 x y a b h l k v) (must (b42_4_e1 x y a b h l k v) (must (b42_4_e1 x y a b h l k v) (leaf (Fe2.ret (Sh.tup [Sh.agg [Sh.i .i64 x, Sh.i .i64 y, Sh.sl 1 a h, Sh.sl 2 b l], Sh.i .i64 (Int.ofNat 3), Sh.i .i64 y, Sh.v Value.nilIface]))))) := by kernel_rfl
noncomputable def b42_5_e1 (x y : Int) (a b : Nat) (h l : Nat → List Sh) (k v : Int) : List Eqn := [Eqn.int k k, Eqn.int v v, Eqn.int (Int.ofNat 1) (Int.ofNat 1), Eqn.int (Int.ofNat 0) (Int.ofNat 0), Eqn.int x x, Eqn.int y y, Eqn.sh (Sh.sl 1 a h) (Sh.sl 1 a h), Eqn.sh (Sh.sl 2 b l) (Sh.sl 2 b l), Eqn.int x x, Eqn.int y y, Eqn.sh (Sh.sl 1 a.succ (snocG a h [Sh.i .i64 v])) (Sh.sl 1 a.succ (snocG a h [Sh.i .i64 v])), Eqn.sh (Sh.sl 2 b l) (Sh.sl 2 b l)]
theorem b42_5 (A : Prim) (W : Wd) (x y : Int) (a b : Nat) (h l : Nat → List Sh) (k v : Int) : runTo (C7 A W specD sAl) nH0 300 400 42 td42 (L42n x y a b h l 5 k v) [] [] = need (roomB a.succ 8) (need (roomB a.succ 8) (must (b42_5_e1 x y a b h l k v) (need (roomB a.succ 8) (must (b42_5_e1 x y a b h l k v) (need (roomB a.succ 8) (must (b42_5_e1 x y a b h l k v) (leaf (Fe2.ret (Sh.tup [Sh.agg [Sh.i .i64 x, Sh.i .i64 y, Sh.sl 1 a.succ (snocG a h [Sh.i .i64 v]), Sh.sl 2 b l], Sh.i .i64 (Int.ofNat 1), Sh.i .i64 (Int.ofNat 0), Sh.v Value.nilIface]))))))))) := by kernel_rfl
noncomputable def b42_6_e1 (x y : Int) (a b : Nat) (h l : Nat → List Sh) (k v : Int) : List Eqn := [Eqn.int k k, Eqn.int v v, Eqn.int (deqR a) (deqR a), Eqn.int (headI a (rwAt h)) (headI a (rwAt h)), Eqn.int x x, Eqn.int y y, Eqn.sh (Sh.sl 1 a h) (Sh.sl 1 a h), Eqn.sh (Sh.sl 2 b l) (Sh.sl 2 b l), Eqn.int x x, Eqn.int y y, Eqn.sh (Sh.sl 1 (predN a) (shiftG h)) (Sh.sl 1 (predN a) (shiftG h)), Eqn.sh (Sh.sl 2 b l) (Sh.sl 2 b l)]
theorem b42_6 (A : Prim) (W : Wd) (x y : Int) (a b : Nat) (h l : Nat → List Sh) (k v : Int) : runTo (C7 A W specD sAl) nH0 300 400 42 td42 (L42n x y a b h l 6 k v) [] [] = need (okB Int a h) (need (okB Int a h) (must (b42_6_e1 x y a b h l k v) (need (okB Int a h) (must (b42_6_e1 x y a b h l k v) (need (okB Int a h) (must (b42_6_e1 x y a b h l k v) (leaf (Fe2.ret (Sh.tup [Sh.agg [Sh.i .i64 x, Sh.i .i64 y, Sh.sl 1 (predN a) (shiftG h), Sh.sl 2 b l], Sh.i .i64 (deqR a), Sh.i .i64 (headI a (rwAt h)), Sh.v Value.nilIface]))))))))) := by kernel_rfl
noncomputable def b42_7_e1 (x y : Int) (a b : Nat) (h : Nat → List Sh) (p : Nat → Pr) (k v : Int) : List Eqn := [Eqn.int k k, Eqn.int v v, Eqn.int (Int.ofNat 1) (Int.ofNat 1), Eqn.int (Int.ofNat 0) (Int.ofNat 0), Eqn.int x x, Eqn.int y y, Eqn.sh (Sh.sl 1 a h) (Sh.sl 1 a h), Eqn.sh (Sh.sl 2 b (fnR p)) (Sh.sl 2 b (fnR p)), Eqn.int x x, Eqn.int y y, Eqn.sh (Sh.sl 1 a h) (Sh.sl 1 a h), Eqn.sh (Sh.sl 2 (len (putP (lst Pr b (fnR p)) k v)) (fnR (nth (putP (lst Pr b (fnR p)) k v)))) (Sh.sl 2 (len (putP (lst Pr b (fnR p)) k v)) (fnR (nth (putP (lst Pr b (fnR p)) k v))))]
theorem b42_7 (A : Prim) (W : Wd) (x y : Int) (a b : Nat) (h : Nat → List Sh) (p : Nat → Pr) (k v : Int) : runTo (C7 A W specD sAl) nH0 300 400 42 td42 (L42n x y a b h (fnR p) 7 k v) [] [] = need (wfG b (fnR p)) (need (inKey k) (need (roomB b.succ 16) (need (wfG b (fnR p)) (need (inKey k) (need (roomB b.succ 16) (must (b42_7_e1 x y a b h p k v) (need (wfG b (fnR p)) (need (inKey k) (need (roomB b.succ 16) (must (b42_7_e1 x y a b h p k v) (need (wfG b (fnR p)) (need (inKey k) (need (roomB b.succ 16) (must (b42_7_e1 x y a b h p k v) (leaf (Fe2.ret (Sh.tup [Sh.agg [Sh.i .i64 x, Sh.i .i64 y, Sh.sl 1 a h, Sh.sl 2 (len (putP (lst Pr b (fnR p)) k v)) (fnR (nth (putP (lst Pr b (fnR p)) k v)))], Sh.i .i64 (Int.ofNat 1), Sh.i .i64 (Int.ofNat 0), Sh.v Value.nilIface]))))))))))))))))) := by kernel_rfl
noncomputable def b42_8_e1 (x y : Int) (a b : Nat) (h : Nat → List Sh) (p : Nat → Pr) (k v : Int) : List Eqn := [Eqn.int k k, Eqn.int v v, Eqn.int (retP (lst Pr b (fnR p)) k) (retP (lst Pr b (fnR p)) k), Eqn.int (valP (lst Pr b (fnR p)) k) (valP (lst Pr b (fnR p)) k), Eqn.int x x, Eqn.int y y, Eqn.sh (Sh.sl 1 a h) (Sh.sl 1 a h), Eqn.sh (Sh.sl 2 b (fnR p)) (Sh.sl 2 b (fnR p)), Eqn.int x x, Eqn.int y y, Eqn.sh (Sh.sl 1 a h) (Sh.sl 1 a h), Eqn.sh (Sh.sl 2 b (fnR p)) (Sh.sl 2 b (fnR p))]
theorem b42_8 (A : Prim) (W : Wd) (x y : Int) (a b : Nat) (h : Nat → List Sh) (p : Nat → Pr) (k v : Int) : runTo (C7 A W specD sAl) nH0 300 400 42 td42 (L42n x y a b h (fnR p) 8 k v) [] [] = need (wfG b (fnR p)) (need (inKey k) (need (wfG b (fnR p)) (need (inKey k) (must (b42_8_e1 x y a b h p k v) (need (wfG b (fnR p)) (need (inKey k) (must (b42_8_e1 x y a b h p k v) (need (wfG b (fnR p)) (need (inKey k) (must (b42_8_e1 x y a b h p k v) (leaf (Fe2.ret (Sh.tup [Sh.agg [Sh.i .i64 x, Sh.i .i64 y, Sh.sl 1 a h, Sh.sl 2 b (fnR p)], Sh.i .i64 (retP (lst Pr b (fnR p)) k), Sh.i .i64 (valP (lst Pr b (fnR p)) k), Sh.v Value.nilIface]))))))))))))) := by kernel_rfl
noncomputable def b42_9_e1 (x y : Int) (a b : Nat) (h : Nat → List Sh) (p : Nat → Pr) (k v : Int) : List Eqn := [Eqn.int k k, Eqn.int v v, Eqn.int (retP (lst Pr b (fnR p)) k) (retP (lst Pr b (fnR p)) k), Eqn.int (valP (lst Pr b (fnR p)) k) (valP (lst Pr b (fnR p)) k), Eqn.int x x, Eqn.int y y, Eqn.sh (Sh.sl 1 a h) (Sh.sl 1 a h), Eqn.sh (Sh.sl 2 b (fnR p)) (Sh.sl 2 b (fnR p)), Eqn.int x x, Eqn.int y y, Eqn.sh (Sh.sl 1 a h) (Sh.sl 1 a h), Eqn.sh (Sh.sl 2 (len (delP (lst Pr b (fnR p)) k)) (fnR (nth (delP (lst Pr b (fnR p)) k)))) (Sh.sl 2 (len (delP (lst Pr b (fnR p)) k)) (fnR (nth (delP (lst Pr b (fnR p)) k))))]
theorem b42_9 (A : Prim) (W : Wd) (x y : Int) (a b : Nat) (h : Nat → List Sh) (p : Nat → Pr) (k v : Int) : runTo (C7 A W specD sAl) nH0 300 400 42 td42 (L42n x y a b h (fnR p) 9 k v) [] [] = need (wfG b (fnR p)) (need (inKey k) (need (roomB b.succ 16) (need (wfG b (fnR p)) (need (inKey k) (need (roomB b.succ 16) (must (b42_9_e1 x y a b h p k v) (need (wfG b (fnR p)) (need (inKey k) (need (roomB b.succ 16) (must (b42_9_e1 x y a b h p k v) (need (wfG b (fnR p)) (need (inKey k) (need (roomB b.succ 16) (must (b42_9_e1 x y a b h p k v) (leaf (Fe2.ret (Sh.tup [Sh.agg [Sh.i .i64 x, Sh.i .i64 y, Sh.sl 1 a h, Sh.sl 2 (len (delP (lst Pr b (fnR p)) k)) (fnR (nth (delP (lst Pr b (fnR p)) k)))], Sh.i .i64 (retP (lst Pr b (fnR p)) k), Sh.i .i64 (valP (lst Pr b (fnR p)) k), Sh.v Value.nilIface]))))))))))))))))) := by kernel_rfl
end Go.Proofs
