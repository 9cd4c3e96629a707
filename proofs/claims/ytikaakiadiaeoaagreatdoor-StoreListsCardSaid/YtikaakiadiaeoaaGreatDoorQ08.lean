/-
  Chapters 6 and 7: summaries: a state as it begins, its key; whether objects may be. Own work. A number that is known may be taken for a literal. Own work. Chapters 6 and 7: a store as it begins, its key; a value put into a queue; evaluated. The equations are written by program (gen2.py). Own work. Chapters 6 and 7: summaries: what an operation makes of a state (but for maps); a store as it begins. Own work. Chapters 6 and 7: summaries: an operation on a state (but for maps); a store as it begins. Own work. Chapters 6 and 7: a store's key; evaluated. The equations are written by program (gen2.py). Own work. Chapters 6 and 7: summary: a store's key. Own work. Chapters 6 and 7: an operation on a store, a store's key; evaluated. The equations are written by program (gen2.py). Own work. Chapters 6 and 7: summary: an operation on a store (but for maps). Own work. Chapter 7: the chapter's examples; evaluated. The equations are written by program (gen2.py). Own work. Chapter 7: summary: the chapter's examples are right. Own work. Chapter 7: the law StoreLists; evaluated. The equations are written by program (gen2.py). Own work.
-/
import Derived.Test.YtikaakiadiaeoaaGreatDoorQ07
import Derived.Lib.ItoaLen
namespace Go.Pl
open Go Go.Sx
/-- A state's words. -/
def partsS (s : Sta) : List (List UInt8) := wordO s.kind :: (if s.kind = 1 ∨ s.kind = 2 then [itoaS s.num] else if s.kind = 3 then s.q.map itoaS else if s.kind = 4 then s.ps.map (fun p => itoaS p.key ++ [58] ++ itoaS p.val) else [])
/-- No elements. -/
def noI : Nat → List Sh := fnR (nth ([] : List Int))
def noP : Nat → List Sh := fnR (nth ([] : List Pr))
def keyS (s : Sta) : List UInt8 := joinS (partsS s) [32]
/-- Too many objects. -/
def bigO (n : Nat) : Bool := decide (8 < n)
/-- May these objects be? -/
def allOb (n : Nat) (o : Nat → Oj) : Bool := (List.range n).all fun j => !badOb (o j).kind (o j).init
def firstOb (n : Nat) (o : Nat → Oj) : Nat := ((List.range n).find? fun j => badOb (o j).kind (o j).init).getD 0
def kindsB (n : Nat) (o : Nat → Oj) : Bool := (List.range n).all fun j => in64 (o j).kind
theorem all_range {n : Nat} {p : Nat → Bool} (h : (List.range n).all p = true) : ∀ j, j < n → p j = true := fun j hj => List.all_eq_true.1 h j (List.mem_range.2 hj)
theorem allOb_t {n : Nat} {o : Nat → Oj} (h : ∀ j, j < n → badOb (o j).kind (o j).init = false) : allOb n o = true := List.all_eq_true.2 fun j hj => by simp [h j (List.mem_range.1 hj)]
theorem allOb_f {n k : Nat} {o : Nat → Oj} (hk : k < n) (h : badOb (o k).kind (o k).init = true) : allOb n o = false := by
  unfold allOb
  rw [List.all_eq_false]
  exact ⟨k, List.mem_range.2 hk, by simp [h]⟩
theorem find_range {n k : Nat} {p : Nat → Bool} (hk : k < n) (h : p k = true) (hb : ∀ j, j < k → p j = false) : (List.range n).find? p = some k := by
  rw [List.find?_range_eq_some]
  exact ⟨h, List.mem_range.2 hk, fun j hj => by simp [hb j hj]⟩
theorem firstOb_eq {n k : Nat} {o : Nat → Oj} (hk : k < n) (h : badOb (o k).kind (o k).init = true) (hb : ∀ j, j < k → badOb (o j).kind (o j).init = false) : firstOb n o = k := by
  unfold firstOb
  rw [find_range hk h hb]; rfl
/-- Numbers that an int of 64 bits is. -/
def numsB (n : Nat) (o : Nat → Int) : Bool := (List.range n).all fun j => in64 (o j)
def prsB (n : Nat) (o : Nat → Pr) : Bool := (List.range n).all fun j => in64 (o j).key && in64 (o j).val
end Go.Pl
namespace Go.Proofs
open Go Go.Sx Go.Pl
theorem O59 : FnOK Tryz.prog (gls7 W7) 59 F92 := by
  refine fnOK_Ru (C := C7 prim W7 specA stopAll) (C7.ok _ _) (fokA _) (m := 300) (n := 400) (L := L0) (fn := Tryz.f59) (by kernel_rfl) (by kernel_rfl) fun H w shs args φ hrep h => ?_
  have hn : Tryz.f59.ntmps = 5 := by kernel_rfl
  unfold F92 at h
  split at h
  · obtain ⟨h1, hφ⟩ := h
    refine ⟨_, hrep, ?_⟩
    rw [hn, a59 prim W7]
    exact ⟨h1, up_mk (s' := .str _) rfl hφ⟩
  · exact h.elim
theorem O60 : FnOK Tryz.prog (gls7 W7) 60 F60 := by
  refine fnOK_Ru (C := C7 prim W7 specA stopAll) (C7.ok _ _) (fokA _) (m := 300) (n := 400) (L := L0) (fn := Tryz.f60) (by kernel_rfl) (by kernel_rfl) fun H w shs args φ hrep h => ?_
  have hn : Tryz.f60.ntmps = 5 := by kernel_rfl
  unfold F60 at h
  split at h
  · obtain ⟨h1, h2, h3, hφ⟩ := h
    refine ⟨_, hrep, ?_⟩
    rw [hn, a60 prim W7]
    exact ⟨h1, h2, h3, up_mk (s' := .str _) rfl hφ⟩
  · exact h.elim
theorem OBs : ∀ g F, specB g = some F → FnOK Tryz.prog (gls7 W7) g F := fun g F h => by
  unfold specB at h
  split at h
  · cases h; exact O58
  · cases h; exact O59
  · cases h; exact O60
  · cases h; exact O65
  · cases h
theorem fokB (stop : Nat → List Nat → Bool) : FnsOK Tryz.prog (C7 prim W7 specB stop) := C7.fok OBs fun g h => by
  unfold specB at h
  split at h
  all_goals first | (cases h; done) | kernel_rfl
def F41 : List Sh → Tree Sh
  | [.agg [.i .i64 k, .i .i64 i]] => .need (in64 k) (.node (badOb k i) (.leaf (.tup [.agg (staS zeroT), .er 0 242])) (.leaf (.tup [.agg [.i .i64 k, .i .i64 i, .sl 1 0 noI, .sl 2 0 noP], .v .nilIface])))
  | _ => .fail
theorem O41 : FnOK Tryz.prog (gls7 W7) 41 F41 := by
  refine fnOK_Ru (C := C7 prim W7 specB stopAll) (C7.ok _ _) (fokB _) (m := 300) (n := 400) (L := L0) (fn := Tryz.f41) (by kernel_rfl) (by kernel_rfl) fun H w shs args φ hrep h => ?_
  have hn : Tryz.f41.ntmps = 16 := by kernel_rfl
  unfold F41 at h
  split at h
  · rename_i k i
    obtain ⟨h1, hb, hg⟩ := h
    refine ⟨_, hrep, ?_⟩
    rw [hn, a41 prim W7 k i]
    refine ⟨h1, fun e => up_mk (s' := .tup [.agg (staS zeroT), .er 0 242]) ?_ (hb e), fun e => up_mk (s' := .tup [.agg [.i .i64 k, .i .i64 i, .sl 1 0 noI, .sl 2 0 noP], .v .nilIface]) ?_ (hg e)⟩
    · simp [staS, zeroT, Wk, WkL, len]
    · simp [staS, Wk, WkL, len]
  · exact h.elim
def F49 : List Sh → Tree Sh
  | [.agg [s0, s1]] => match slN 2 s0, slN 8 s1 with
    | some (n, g), some (0, _) => .need (okB Oj n g) (.need (kindsB n (rwAt g)) (.node (bigO n) (.leaf (.er 5 242)) (.node (allOb n (rwAt g)) (.leaf (.v .nilIface)) (.leaf (.ifc 167 (.pt [.i .i64 (firstOb n (rwAt g)), .er 0 242]))))))
    | _, _ => .fail
  | _ => .fail
theorem loop49 {H0 : Mem} {w0 : World} {n : Nat} {o : Nat → Oj} {e : Nat → List Sh} {φ : Sh → Prop} (hn : n ≤ 8) (hk : ∀ j, j < n → in64 (o j).kind = true) (hT : (∀ j, j < n → badOb (o j).kind (o j).init = false) → φ (.v .nilIface))
    (hF : ∀ k, k < n → badOb (o k).kind (o k).init = true → (∀ j, j < k → badOb (o j).kind (o j).init = false) → φ (.ifc 167 (.pt [.i .i64 k, .er 0 242]))) :
    ∀ r k, k + r = n → (∀ j, j < k → badOb (o j).kind (o j).init = false) → GoesS Tryz.prog (C7 prim W7 specB stopAll) (K0 H0 w0) 49 td10 (LO49 n o e (k : Int)) [] emp φ
  | r, k, hkr, hE => by
    refine goesS_into (fn := Tryz.f49) (tb := tb10) (by kernel_rfl) (by kernel_rfl) ?_
    refine goesS_runTo (C7.ok _ _) (fokB _) (hold := hold81) (m := 300) (n := 400) (ts := [⟨49, td10, LO49 n o e (k + 1 : Nat), []⟩, ⟨49, td49b, LO49b n o e, []⟩]) ?_
    rw [b49 prim W7 n o e k (k + 1 : Nat)]
    simp only [prim_lt, prim_inB, prim_toN, prim_add, one_eq, Int.toNat_natCast]
    refine ⟨fun h => ?_, fun h => ?_⟩
    · have hlt : k < n := by simp at h; omega
      refine ⟨by simp; omega, hk k hlt, fun hb => hF k hlt hb hE, fun hb => ⟨⟨rfl, rfl, ?_, rfl, rfl, trivial⟩, _, rfl, ?_⟩⟩
      · simp only [Eqn.ok]; rw [wrap_id (by omega) (by omega)]; rfl
      · match r, hkr with
        | 0, hkr => omega
        | r + 1, hkr =>
          refine loop49 hn hk hT hF r (k + 1) (by omega) fun j hj => ?_
          by_cases e : j = k
          · subst e; exact hb
          · exact hE j (by omega)
    · have : k = n := by simp at h; omega
      subst this
      refine ⟨⟨rfl, rfl, trivial⟩, _, rfl, ?_⟩
      refine goesS_into (fn := Tryz.f49) (tb := tb49b) (by kernel_rfl) (by kernel_rfl) ?_
      refine goesS_runTo (C7.ok _ _) (fokB _) (hold := hold81) (m := 300) (n := 400) (ts := []) ?_
      rw [c49 prim W7 k o e]
      exact ⟨fun h => by simp [prim_lt] at h, fun _ => hT hE⟩
theorem O49 : FnOK Tryz.prog (gls7 W7) 49 F49 := by
  refine fnOK_S (C := C7 prim W7 specB stopAll) (C7.ok _ _) (fn := Tryz.f49) (by kernel_rfl) (by kernel_rfl) fun H w shs args φ hrep h => ?_
  have hn : Tryz.f49.ntmps = 78 := by kernel_rfl
  unfold F49 at h
  split at h
  · rename_i s0 s1
    split at h
    · rename_i n g e hs0 hs1
      obtain ⟨h1, h2, hbig, hsm⟩ := h
      have hbig : bigO n = true → φ (.er 5 242) := hbig
      have hsm : bigO n = false → (allOb n (rwAt g) = true → φ (.v .nilIface)) ∧ (allOb n (rwAt g) = false → φ (.ifc 167 (.pt [.i .i64 (firstOb n (rwAt g)), .er 0 242]))) := hsm
      match args, hrep with
      | [v], ⟨hv, _⟩ =>
        refine ⟨[.agg [.sl 2 n (fnR (rwAt (α := Oj) g)), .sl 8 0 e]], ⟨rep_agg2 hv (fun u hu => rep_rows (rep_slN hs0 hu) h1) (fun u hu => rep_slN hs1 hu), trivial⟩, L0, ?_⟩
        generalize rwAt (α := Oj) g = o at *
        refine goesS_runTo (C7.ok _ _) (fokB _) (hold := hold81) (m := 300) (n := 400) (ts := [⟨49, td10, LO49 n o e (0 : Nat), []⟩]) ?_
        rw [hn, a49 prim W7 n o e (0 : Nat)]
        refine ⟨fun h => hbig ?_, fun h => ⟨fun h => ?_, fun _ => ⟨⟨rfl, rfl, rfl, rfl, rfl, trivial⟩, _, rfl, ?_⟩⟩⟩
        · simp [prim_lt, prim_ofN] at h; simp [bigO]; omega
        · simp [prim_lt, prim_ofN] at h
        · have hn8 : n ≤ 8 := by simp [prim_lt, prim_ofN] at h; omega
          obtain ⟨q1, q2⟩ := hsm (by simp [bigO]; omega)
          refine loop49 hn8 (all_range h2) (fun hE => q1 (allOb_t hE)) (fun k hk hb hE => ?_) n 0 (by omega) fun j hj => by omega
          have := q2 (allOb_f hk hb)
          rwa [firstOb_eq hk hb hE] at this
    · exact h.elim
  · exact h.elim
end Go.Proofs
namespace Go.Pl
open Go Go.Sx Go.Proofs
theorem lst_two {a b : List UInt8} : lst (List UInt8) 2 (nthL (chunks 1 (1 + 1) [Sh.str a, Sh.str b])) = [a, b] := rfl
theorem lst_one {a : List UInt8} : lst (List UInt8) 1 (nthL (chunks 1 1 [Sh.str a])) = [a] := rfl
theorem itoa_len {n : Int} (h : in64 n = true) : (itoaS n).length ≤ 21 := by
  have h := of_decide_eq_true h
  exact Go.Lib.itoa_length_le n h.1 h.2
theorem lst_fn {α : Type} [Row α] (l : List α) {k : Nat} (h : l.length = k) : lst α k (fnR (nth l)) = l := by subst h; exact lst_nth l
theorem snoc_nth {α : Type} [Row α] (l : List α) (a : α) {r : List (List Sh)} (h : nthL r 0 = Row.put a) : ∀ i, i < l.length + 1 → prim.snoc (fnR (nth l)) l.length (nthL r) i = fnR (nth (l ++ [a])) i := fun i hi => by
  rw [prim_snoc]
  split
  · rename_i h1
    simp only [fnR, nth]
    rw [List.getD_eq_getElem?_getD, List.getD_eq_getElem?_getD, List.getElem?_append_left h1]
  · have : i = l.length := by omega
    subst this
    rw [Nat.sub_self, h]
    simp [fnR, nth]
end Go.Pl
namespace Go.Proofs
open Go Go.Sx Go.Pl
def F35 : List Sh → Tree Sh
  | [.agg [.i .i64 x, .i .i64 y, s2, s3]] => match slN 1 s2, slN 2 s3 with
    | some (a, h), some (b, l) => .need (okB Int a h) (.need (okB Pr b l) (.need (in64 x) (.need (in64 y) (.need (numsB a (rwAt h)) (.need (prsB b (rwAt l)) (.need (decide (a ≤ 100000 ∧ b ≤ 100000)) (.leaf (.str (keyS ⟨x, y, lst Int a h, lst Pr b l⟩)))))))))
    | _, _ => .fail
  | _ => .fail
theorem join_len (l : List (List UInt8)) (sep : List UInt8) {m : Nat} (h : ∀ x ∈ l, x.length ≤ m) : (joinS l sep).length ≤ l.length * (m + sep.length) := by
  induction l with
  | nil => simp [joinS, Go.Lib.join_nil]
  | cons x r ih =>
    have h1 := h x (by simp)
    have h2 : (Go.Lib.joinTail sep r).length ≤ r.length * (m + sep.length) := by
      clear ih
      induction r with
      | nil => simp [Go.Lib.joinTail]
      | cons y r ih2 =>
        have h3 := ih2 fun z hz => h z (by
          rcases List.mem_cons.1 hz with rfl | hz
          · simp
          · simp [hz])
        have h4 := h y (by simp)
        simp only [Go.Lib.joinTail, List.map_cons, List.flatten_cons, List.length_append, List.length_cons, Nat.add_mul, Nat.one_mul] at h3 ⊢
        omega
    unfold joinS
    rw [Go.Lib.join_cons, List.length_append, List.length_cons, Nat.add_mul, Nat.one_mul]
    omega
theorem short_join {l : List (List UInt8)} (hl : l.length ≤ 200000) (h : ∀ x ∈ l, x.length ≤ 50) : shortB (joinS l [32]) = true := by
  have := join_len l [32] h
  have h2 : l.length * (50 + [(32 : UInt8)].length) ≤ 200000 * 51 := Nat.mul_le_mul_right _ hl
  exact decide_eq_true (by omega)
theorem room_le {n b : Nat} (h : n ≤ 1000000) (hb : b ≤ 1000) : roomB n b = true := by
  show decide (n * b ≤ 140737488355328 ∧ n ≤ maxLen) = true
  rw [maxLen_eq]
  have : n * b ≤ 1000000 * 1000 := Nat.mul_le_mul h hb
  exact decide_eq_true ⟨by omega, by omega⟩
theorem wordO_len (k : Int) : (wordO k).length ≤ 50 := by
  unfold wordO
  repeat' split
  all_goals decide
theorem loop35q {H0 : Mem} {w0 : World} {q : List Int} {W : List UInt8} {φ : Sh → Prop} (hq : q.length ≤ 100000) (h64 : ∀ x ∈ q, in64 x = true) (hW : W.length ≤ 50) (hφ : φ (.str (joinS (W :: q.map itoaS) [32]))) :
    ∀ r k, k + r = q.length → GoesS Tryz.prog (C7 prim W7 specB stopAll) (K0 H0 w0) 35 td35q (LO35q q.length (nth q) (k : Int) (k + 1) (fnR (nth (W :: (q.take k).map itoaS)))) [] emp φ
  | r, k, hkr => by
    refine goesS_into (fn := Tryz.f35) (tb := tb35q) (by kernel_rfl) (by kernel_rfl) ?_
    refine goesS_runTo (C7.ok _ _) (fokB _) (hold := noHold0) (m := 300) (n := 400) (ts := [⟨35, td35q, LO35q q.length (nth q) (k + 1 : Nat) (k + 1 + 1) (fnR (nth (W :: (q.take (k + 1)).map itoaS))), []⟩]) ?_
    rw [b35q prim W7 q.length (nth q) k (k + 1 : Nat) (k + 1) (k + 1 + 1) (fnR (nth (W :: (q.take k).map itoaS))) (fnR (nth (W :: (q.take (k + 1)).map itoaS)))]
    have hlen : (W :: (q.take k).map itoaS).length = k + 1 := by simp; omega
    simp only [prim_lt, prim_inB, prim_toN, prim_add, one_eq, Int.toNat_natCast, addN1]
    refine ⟨fun h => ?_, fun h => ?_⟩
    · have hlt : k < q.length := by simp at h; omega
      have hx : nth q k = q[k] := by simp [nth, hlt]
      refine ⟨by simp; omega, by rw [hx]; exact h64 _ (List.getElem_mem hlt), room_le (by omega) (by omega), ⟨rfl, rfl, ?_, rfl, ?_, trivial⟩, _, rfl, ?_⟩
      · simp only [Eqn.ok]; rw [wrap_id (by omega) (by omega)]; rfl
      · have e : W :: (q.take (k + 1)).map itoaS = (W :: (q.take k).map itoaS) ++ [itoaS (nth q k)] := by
          rw [hx, List.take_succ_eq_append_getElem hlt, List.map_append]; rfl
        have := snoc_nth (W :: (q.take k).map itoaS) (itoaS (nth q k)) (r := [[.str (itoaS (nth q k))]]) rfl
        rw [hlen] at this
        rw [e]
        exact this
      · match r, hkr with
        | 0, hkr => omega
        | r + 1, hkr => exact loop35q hq h64 hW hφ r (k + 1) (by omega)
    · have hk : k = q.length := by simp at h; omega
      subst hk
      rw [List.take_length] at hlen ⊢
      rw [lst_fn _ hlen]
      refine ⟨okB_put _ _, room_le (by omega) (by omega), short_join (by simp; omega) fun x hx => ?_, hφ⟩
      rcases List.mem_cons.1 hx with rfl | hx
      · exact hW
      · obtain ⟨y, hy, rfl⟩ := List.mem_map.1 hx
        have := itoa_len (h64 y hy); omega
theorem pair_len {p : Pr} (h1 : in64 p.key = true) (h2 : in64 p.val = true) : (itoaS p.key ++ [58] ++ itoaS p.val).length ≤ 50 := by
  have := itoa_len h1; have := itoa_len h2
  simp; omega
theorem loop35p {H0 : Mem} {w0 : World} {q : List Pr} {W : List UInt8} {φ : Sh → Prop} (hq : q.length ≤ 100000) (h64 : ∀ x ∈ q, in64 x.key = true ∧ in64 x.val = true) (hW : W.length ≤ 50) (hφ : φ (.str (joinS (W :: q.map (fun p => itoaS p.key ++ [58] ++ itoaS p.val)) [32]))) :
    ∀ r k, k + r = q.length → GoesS Tryz.prog (C7 prim W7 specB stopAll) (K0 H0 w0) 35 td35p (LO35p q.length (nth q) (k : Int) (k + 1) (fnR (nth (W :: (q.take k).map (fun p => itoaS p.key ++ [58] ++ itoaS p.val))))) [] emp φ
  | r, k, hkr => by
    refine goesS_into (fn := Tryz.f35) (tb := tb35p) (by kernel_rfl) (by kernel_rfl) ?_
    refine goesS_runTo (C7.ok _ _) (fokB _) (hold := noHold0) (m := 300) (n := 400) (ts := [⟨35, td35p, LO35p q.length (nth q) (k + 1 : Nat) (k + 1 + 1) (fnR (nth (W :: (q.take (k + 1)).map (fun p => itoaS p.key ++ [58] ++ itoaS p.val)))), []⟩]) ?_
    rw [b35p prim W7 q.length (nth q) k (k + 1 : Nat) (k + 1) (k + 1 + 1) (fnR (nth (W :: (q.take k).map (fun p => itoaS p.key ++ [58] ++ itoaS p.val)))) (fnR (nth (W :: (q.take (k + 1)).map (fun p => itoaS p.key ++ [58] ++ itoaS p.val))))]
    have hlen : (W :: (q.take k).map (fun p => itoaS p.key ++ [58] ++ itoaS p.val)).length = k + 1 := by simp; omega
    simp only [prim_lt, prim_inB, prim_toN, prim_add, one_eq, Int.toNat_natCast, addN1]
    refine ⟨fun h => ?_, fun h => ?_⟩
    · have hlt : k < q.length := by simp at h; omega
      have hx : nth q k = q[k] := by simp [nth, hlt]
      obtain ⟨p1, p2⟩ := h64 _ (List.getElem_mem hlt)
      rw [← hx] at p1 p2
      have l1 := itoa_len p1
      have l2 := itoa_len p2
      refine ⟨by simp; omega, p1, ?_, p2, ?_, room_le (by omega) (by omega), ⟨rfl, rfl, ?_, rfl, ?_, trivial⟩, _, rfl, ?_⟩
      · show decide ((itoaS (nth q k).key).length + 1 ≤ 9223372036854775807) = true
        exact decide_eq_true (by omega)
      · show decide ((itoaS (nth q k).key ++ [58]).length + (itoaS (nth q k).val).length ≤ 9223372036854775807) = true
        exact decide_eq_true (by rw [List.length_append]; simp; omega)
      · simp only [Eqn.ok]; rw [wrap_id (by omega) (by omega)]; rfl
      · have e : W :: (q.take (k + 1)).map (fun p => itoaS p.key ++ [58] ++ itoaS p.val) = (W :: (q.take k).map (fun p => itoaS p.key ++ [58] ++ itoaS p.val)) ++ [itoaS (nth q k).key ++ [58] ++ itoaS (nth q k).val] := by
          rw [hx, List.take_succ_eq_append_getElem hlt, List.map_append]; rfl
        have := snoc_nth (W :: (q.take k).map (fun p => itoaS p.key ++ [58] ++ itoaS p.val)) (itoaS (nth q k).key ++ [58] ++ itoaS (nth q k).val) (r := [[.str (itoaS (nth q k).key ++ [58] ++ itoaS (nth q k).val)]]) rfl
        rw [hlen] at this
        rw [e]
        exact this
      · match r, hkr with
        | 0, hkr => omega
        | r + 1, hkr => exact loop35p hq h64 hW hφ r (k + 1) (by omega)
    · have hk : k = q.length := by simp at h; omega
      subst hk
      rw [List.take_length] at hlen ⊢
      rw [lst_fn _ hlen]
      refine ⟨okB_put _ _, room_le (by omega) (by omega), short_join (by simp; omega) fun x hx => ?_, hφ⟩
      rcases List.mem_cons.1 hx with rfl | hx
      · exact hW
      · obtain ⟨y, hy, rfl⟩ := List.mem_map.1 hx
        exact pair_len (h64 y hy).1 (h64 y hy).2
theorem lst_mem {α : Type} [Row α] {n : Nat} {g : Nat → List Sh} {x : α} (h : x ∈ lst α n g) : ∃ j, j < n ∧ x = rwAt g j := by
  obtain ⟨j, hj, rfl⟩ := List.mem_map.1 h
  exact ⟨j, List.mem_range.1 hj, rfl⟩
theorem rep_rows_lst {α : Type} [Row α] {H : Mem} {st n : Nat} {g : Nat → List Sh} {v : Value} (h : Rep H (.sl st n g) v) (hg : okB α n g = true) : Rep H (.sl st (lst α n g).length (fnR (nth (lst α n g)))) v := by
  rw [lst_length]
  refine rep_sl_congr h fun j hj => ?_
  rw [okB_at hg j hj]
  simp only [fnR, nth_lst hj]
theorem O35 : FnOK Tryz.prog (gls7 W7) 35 F35 := by
  refine fnOK_S (C := C7 prim W7 specB stopAll) (C7.ok _ _) (fn := Tryz.f35) (by kernel_rfl) (by kernel_rfl) fun H w shs args φ hrep h => ?_
  have hn : Tryz.f35.ntmps = 61 := by kernel_rfl
  unfold F35 at h
  split at h
  · rename_i x y s2 s3
    split at h
    · rename_i a hh b l hs2 hs3
      obtain ⟨h1, h2, h3, h4, h5, h6, h7, hφ⟩ := h
      have h7 := of_decide_eq_true h7
      match args, hrep with
      | [v], ⟨hv, _⟩ =>
        have l1 : (lst Int a hh).length = a := lst_length _ _
        have l2 : (lst Pr b l).length = b := lst_length _ _
        have m1 : ∀ z ∈ lst Int a hh, in64 z = true := fun z hz => by
          obtain ⟨j, hj, rfl⟩ := lst_mem hz
          exact all_range h5 j hj
        have m2 : ∀ z ∈ lst Pr b l, in64 z.key = true ∧ in64 z.val = true := fun z hz => by
          obtain ⟨j, hj, rfl⟩ := lst_mem hz
          simpa using all_range h6 j hj
        refine ⟨[.agg [.i .i64 x, .i .i64 y, .sl 1 (lst Int a hh).length (fnR (nth (lst Int a hh))), .sl 2 (lst Pr b l).length (fnR (nth (lst Pr b l)))]], ⟨rep_agg4 hv (fun u hu => rep_rows_lst (rep_slN hs2 hu) h1) (fun u hu => rep_rows_lst (rep_slN hs3 hu) h2), trivial⟩, L0, ?_⟩
        generalize lst Int a hh = q at *
        generalize lst Pr b l = ps at *
        have hφ : φ (.str (joinS (partsS ⟨x, y, q, ps⟩) [32])) := hφ
        refine goesS_runTo (C7.ok _ _) (fokB _) (hold := noHold0) (m := 300) (n := 400) (ts := [⟨35, td35q, LO35q q.length (nth q) (0 : Nat) 1 (fnR (nth [wordO x])), []⟩, ⟨35, td35p, LO35p ps.length (nth ps) (0 : Nat) 1 (fnR (nth [wordO x])), []⟩]) ?_
        rw [hn, a35 prim W7 x y q.length ps.length (nth q) (nth ps) (0 : Nat) 1 (fnR (nth [wordO x])), lst_two, lst_one]
        have hw := wordO_len x
        have hy := itoa_len h4
        have two : shortB (joinS [wordO x, itoaS y] [32]) = true := short_join (by simp) fun z hz => by
          simp at hz
          rcases hz with rfl | rfl
          · exact hw
          · omega
        refine ⟨rfl, h3, fun e => ⟨h4, rfl, room_le (by omega) (by omega), two, ?_⟩, fun e1 => ⟨fun e => ⟨h4, rfl, room_le (by omega) (by omega), two, ?_⟩, fun e2 => ⟨fun e => ⟨⟨rfl, rfl, rfl, rfl, fun j hj => ?_, trivial⟩, _, rfl, ?_⟩, fun e3 => ⟨fun e => ⟨⟨rfl, rfl, rfl, rfl, fun j hj => ?_, trivial⟩, _, rfl, ?_⟩, fun e4 => ⟨rfl, room_le (by omega) (by omega), short_join (by simp) fun z hz => ?_, ?_⟩⟩⟩⟩⟩
        · have e : x = 1 := by simpa [prim_eq] using e
          subst e
          exact hφ
        · have e : x = 2 := by simpa [prim_eq] using e
          subst e
          exact hφ
        · obtain rfl : j = 0 := by omega
          rfl
        · have e : x = 3 := by simpa [prim_eq] using e
          subst e
          exact loop35q (by omega) m1 hw hφ q.length 0 (by omega)
        · obtain rfl : j = 0 := by omega
          rfl
        · have e : x = 4 := by simpa [prim_eq] using e
          subst e
          exact loop35p (by omega) m2 hw hφ ps.length 0 (by omega)
        · simp at hz; subst hz; exact hw
        · have e1 : ¬ x = 1 := by simpa [prim_eq] using e1
          have e2 : ¬ x = 2 := by simpa [prim_eq] using e2
          have e3 : ¬ x = 3 := by simpa [prim_eq] using e3
          have e4 : ¬ x = 4 := by simpa [prim_eq] using e4
          have e : partsS ⟨x, y, q, ps⟩ = [wordO x] := by simp [partsS, e1, e2, e3, e4]
          rw [e] at hφ
          exact hφ
    · exact h.elim
  · exact h.elim
end Go.Proofs
namespace Go.Sx
section
variable {P : Program} {C : Ctx} {K : Kx}
theorem goesS_tm {g : Nat} {td : List It} {c : Core} {stk : List Fr} {R : Hp → Prop} {φ : Sh → Prop} (tm' : List SV) (h : ∀ (H : Mem) (E : Env) (vs : List Value), DenL H E c.tm vs → DenL H E tm' vs) (hgo : GoesS P C K g td { c with tm := tm' } stk R φ) : GoesS P C K g td c stk R φ := by
  intro H E w a items ms cs fn hfn st hi hs hx
  exact hgo H E w a items ms cs fn hfn ⟨h H E _ st.den, st.hp, st.wok, st.free, st.gl, st.defers⟩ hi hs hx
theorem den_num {H : Mem} {E : Env} {k : IntKind} {n : Int} : ∀ (i : Nat) {l : List SV} {vs : List Value}, l[i]? = some (.sym k n) → DenL H E l vs → DenL H E (l.set i (.int k n)) vs
  | _, [], _, h, _ => by simp at h
  | _, _ :: _, [], _, h => h.elim
  | 0, x :: l, v :: vs, h, ⟨h1, h2⟩ => by
    simp at h
    subst h
    exact ⟨h1, h2⟩
  | i + 1, x :: l, v :: vs, h, ⟨h1, h2⟩ => ⟨h1, den_num i (by simpa using h) h2⟩
end
end Go.Sx
namespace Go.Pl
open Go Go.Sx
def addW (a b : Int) : Int := IntKind.i64.wrap (a + b)
/-- All but the first. -/
def shiftG (h : Nat → List Sh) : Nat → List Sh := fun j => h (1 + j)
def predN (a : Nat) : Nat := a - 1
def deqR (a : Nat) : Int := if a = 0 then 2 else 3
def headI (a : Nat) (o : Nat → Int) : Int := if a = 0 then 0 else o 0
end Go.Pl
namespace Go.Proofs
open Go Go.Sx Go.Pl
def F66 : List Sh → Tree Sh
  | [t] => match icode t with
    | some op => .leaf (.i .i64 (ofOp op))
    | none => .fail
  | _ => .fail
def F67 : List Sh → Tree Sh
  | [t] => match icode t with
    | some op => .leaf (.b (keyed op))
    | none => .fail
  | _ => .fail
def F68 : List Sh → Tree Sh
  | [t] => match icode t with
    | some op => .leaf (.b (valued op))
    | none => .fail
  | _ => .fail
def F69 : List Sh → Tree Sh
  | [t, u, v] => match icode t, icode u, icode v with
    | some k, some x, some y => .leaf (.b (beyondB k x y))
    | _, _, _ => .fail
  | _ => .fail
/-- The state, the two lists told apart. -/
def F94 : List Sh → Tree Sh
  | [.agg [.i .i64 x, .i .i64 y, s2, s3], u, t] => match slN 1 s2, slN 2 s3, icode u, icode t with
    | some (a, h), some (b, l), some _, some _ => .leaf (.tup [.agg [.i .i64 x, .i .i64 y, .sl 1 a h, .sl 2 b l], .i .i64 3, .i .i64 y])
    | _, _, _, _ => .fail
  | _ => .fail
def F95 : List Sh → Tree Sh
  | [.agg [.i .i64 x, .i .i64 _, s2, s3], u, t] => match slN 1 s2, slN 2 s3, icode u, icode t with
    | some (a, h), some (b, l), some _, some v => .leaf (.tup [.agg [.i .i64 x, .i .i64 v, .sl 1 a h, .sl 2 b l], .i .i64 1, .i .i64 0])
    | _, _, _, _ => .fail
  | _ => .fail
def F96 : List Sh → Tree Sh
  | [.agg [.i .i64 x, .i .i64 y, s2, s3], u, t] => match slN 1 s2, slN 2 s3, icode u, icode t with
    | some (a, h), some (b, l), some _, some v => .leaf (.tup [.agg [.i .i64 x, .i .i64 (addW y v), .sl 1 a h, .sl 2 b l], .i .i64 1, .i .i64 0])
    | _, _, _, _ => .fail
  | _ => .fail
def F97 : List Sh → Tree Sh
  | [.agg [.i .i64 x, .i .i64 y, s2, s3], u, t] => match slN 1 s2, slN 2 s3, icode u, icode t with
    | some (a, h), some (b, l), some _, some v => .need (roomB (a + 1) 8) (.leaf (.tup [.agg [.i .i64 x, .i .i64 y, .sl 1 (a + 1) (snocG a h [.i .i64 v]), .sl 2 b l], .i .i64 1, .i .i64 0]))
    | _, _, _, _ => .fail
  | _ => .fail
def F99 : List Sh → Tree Sh
  | [.agg [.i .i64 x, .i .i64 y, s2, s3], u, t] => match slN 1 s2, slN 2 s3, icode u, icode t with
    | some (a, h), some (b, l), some _, some _ => .need (okB Int a h) (.leaf (.tup [.agg [.i .i64 x, .i .i64 y, .sl 1 (predN a) (shiftG h), .sl 2 b l], .i .i64 (deqR a), .i .i64 (headI a (rwAt h))]))
    | _, _, _, _ => .fail
  | _ => .fail
def specD : Nat → Option (List Sh → Tree Sh)
  | 66 => some F66
  | 67 => some F67
  | 68 => some F68
  | 69 => some F69
  | 94 => some F94
  | 95 => some F95
  | 96 => some F96
  | 97 => some F97
  | 99 => some F99
  | _ => none
def natsEq : List Nat → List Nat → Bool
  | [], [] => true
  | x :: l, y :: r => Nat.beq x y && natsEq l r
  | _, _ => false
/-- A run stops where one of these pieces of code comes next. -/
def pauseAt (f : Nat) (ps : List (List Nat)) (g : Nat) (td : List It) : Bool := Nat.beq g f && match td with
  | .code r :: _ => ps.any (natsEq r)
  | _ => false
def pause42 : Nat → List It → Bool := pauseAt 42 [[0, 1, 1, 1, 1]]
/-- Ahead of the table of deeds. -/
def L42 (x y : Int) (a b : Nat) (h l : Nat → List Sh) (op k v : Int) : Core := { tm := tmOf 88 [(1, .sym .i64 op), (2, .sym .i64 k), (3, .sym .i64 v), (4, .ptr 0 0), (8, .ptr 1 0)], hp := [(0, .box [.sym .i64 x, .sym .i64 y, .sh (.sl 1 a h), .sh (.sl 2 b l)] 72), (1, .box [.int .i64 0, .int .i64 0, .nils, .nils] 72)], nx := 2, lim := L0, tc := [] }
/-- The operation as a literal. -/
def L42n (x y : Int) (a b : Nat) (h l : Nat → List Sh) (n : Int) (k v : Int) : Core := { tm := (L42 x y a b h l n k v).tm.set 1 (.int .i64 n), hp := (L42 x y a b h l n k v).hp, nx := 2, lim := L0, tc := [] }
def td42 : List It := [It.code [0, 1, 1, 1, 1], It.code [1, 1, 1, 1, 1]]
noncomputable def specC : Nat → Option (List Sh → Tree Sh)
  | 33 => some F33
  | 35 => some F35
  | 41 => some F41
  | 49 => some F49
  | 50 => some F50
  | 54 => some F54
  | 56 => some F56
  | _ => none
def td25 : List It := [It.code [0, 1, 0, 1, 1, 1], It.inBlock 0, It.code [1, 1, 1, 1]]
def tb25 : List It := It.code [0, 0, 1, 0, 1, 1, 1] :: td25
def cl25 (k : Nat) (gg : Nat → List Sh) : Bool → SV
  | true => .nils
  | false => .sh (.sl 4 k gg)
def LO25 (n : Nat) (o : Nat → Oj) (i : Int) (k : Nat) (gg : Nat → List Sh) (v : Bool) : Core := { tm := tmOf 38 [(2, .ptr 0 0), (5, .ptr 1 0), (17, .sh (.sl 2 n (fnR o))), (18, .sym .i64 (n : Int)), (19, .sym .i64 i)], hp := [(0, .box [.nils] 47), (1, .box [cl25 k gg v] 45)], nx := 2, lim := L0, tc := [] }

theorem a25 (A : Prim) (W : Wd) (n : Nat) (o : Nat → Oj) (i' : Int) (k' : Nat) (gg' : Nat → List Sh) : runTo (C7 A W specC stopAll) noHold0 300 400 25 [.code []] (start0 38 [.sl 2 n (fnR o)] L0) [] [⟨25, td25, LO25 n o i' k' gg' true, []⟩] = Tree.need (okB Oj n (fnR o)) (Tree.need (kindsB n (rwAt (fnR o))) (Tree.node (bigO n) (Tree.leaf (Fe2.ret (Sh.tup [Sh.agg [Sh.sl 0 0 fun (x : Nat) => []], Sh.er 5 242]))) (Tree.node (allOb n (rwAt (fnR o))) (Tree.leaf (Fe2.at_ 0 [Eqn.sh (Sh.sl 2 n (fnR o)) (Sh.sl 2 n (fnR o)), Eqn.int (A.ofN n) (Int.ofNat n), Eqn.int (Int.ofNat 0) i'])) (Tree.leaf (Fe2.ret (Sh.tup [Sh.agg [Sh.sl 0 0 fun (x : Nat) => []], Sh.ifc 167 (Sh.pt [Sh.i IntKind.i64 (Int.ofNat (firstOb n (rwAt (fnR o)))), Sh.er 0 242])])))))) := by kernel_rfl
theorem b25 (A : Prim) (W : Wd) (n : Nat) (o : Nat → Oj) (i i' : Int) (k k' : Nat) (gg gg' : Nat → List Sh) : runTo (C7 A W specC stopAll) noHold0 300 400 25 tb25 (LO25 n o i k gg false) [] [⟨25, td25, LO25 n o i' k' gg' false, []⟩] = Tree.node (A.lt i (Int.ofNat n)) (Tree.need (A.inB i n) (Tree.need (in64 (o (A.toN i)).kind) (Tree.node (badOb (o (A.toN i)).kind (o (A.toN i)).init) (Tree.leaf (Fe2.ret (Sh.tup [Sh.agg [Sh.sl 0 0 fun (x : Nat) => []], Sh.er 0 242]))) (Tree.need (roomB k.succ 64) (Tree.leaf (Fe2.at_ 0 [Eqn.sh (Sh.sl 2 n (fnR o)) (Sh.sl 2 n (fnR o)), Eqn.int (Int.ofNat n) (Int.ofNat n), Eqn.int (A.add IntKind.i64 i (Int.ofNat 1)) i', Eqn.sh (Sh.sl 4 k.succ (snocG k gg [Sh.i IntKind.i64 (o (A.toN i)).kind, Sh.i IntKind.i64 (o (A.toN i)).init, Sh.sl 1 0 noI, Sh.sl 2 0 noP])) (Sh.sl 4 k' gg')])))))) (Tree.leaf (Fe2.ret (Sh.tup [Sh.agg [Sh.sl 4 k gg], Sh.v Value.nilIface]))) := by kernel_rfl
theorem c25 (A : Prim) (W : Wd) (n : Nat) (o : Nat → Oj) (i i' : Int) (k k' : Nat) (gg gg' : Nat → List Sh) : runTo (C7 A W specC stopAll) noHold0 300 400 25 tb25 (LO25 n o i k gg true) [] [⟨25, td25, LO25 n o i' k' gg' false, []⟩] = Tree.node (A.lt i (Int.ofNat n)) (Tree.need (A.inB i n) (Tree.need (in64 (o (A.toN i)).kind) (Tree.node (badOb (o (A.toN i)).kind (o (A.toN i)).init) (Tree.leaf (Fe2.ret (Sh.tup [Sh.agg [Sh.sl 0 0 fun (x : Nat) => []], Sh.er 0 242]))) (Tree.need (roomB 1 64) (Tree.leaf (Fe2.at_ 0 [Eqn.sh (Sh.sl 2 n (fnR o)) (Sh.sl 2 n (fnR o)), Eqn.int (Int.ofNat n) (Int.ofNat n), Eqn.int (A.add IntKind.i64 i (Int.ofNat 1)) i', Eqn.sh (Sh.sl 4 1 (snocG 0 (fun (x : Nat) => []) [Sh.i IntKind.i64 (o (A.toN i)).kind, Sh.i IntKind.i64 (o (A.toN i)).init, Sh.sl 1 0 noI, Sh.sl 2 0 noP])) (Sh.sl 4 k' gg')])))))) (Tree.leaf (Fe2.ret (Sh.tup [Sh.agg [Sh.sl 0 0 fun (x : Nat) => []], Sh.v Value.nilIface]))) := by kernel_rfl
theorem a94 (A : Prim) (W : Wd) (x y : Int) (a b : Nat) (h l : Nat → List Sh) (k v : Int) : runTo (C7 A W specA stopAll) noHold0 300 400 94 [.code []] (start0 12 [.agg [.i .i64 x, .i .i64 y, .sl 1 a h, .sl 2 b l], .i .i64 k, .i .i64 v] L0) [] [] = Tree.leaf (Fe2.ret (Sh.tup [Sh.agg [Sh.i IntKind.i64 x, Sh.i IntKind.i64 y, Sh.sl 1 a h, Sh.sl 2 b l], Sh.i IntKind.i64 (Int.ofNat 3), Sh.i IntKind.i64 y])) := by kernel_rfl
theorem a95 (A : Prim) (W : Wd) (x y : Int) (a b : Nat) (h l : Nat → List Sh) (k v : Int) : runTo (C7 A W specA stopAll) noHold0 300 400 95 [.code []] (start0 12 [.agg [.i .i64 x, .i .i64 y, .sl 1 a h, .sl 2 b l], .i .i64 k, .i .i64 v] L0) [] [] = Tree.leaf (Fe2.ret (Sh.tup [Sh.agg [Sh.i IntKind.i64 x, Sh.i IntKind.i64 v, Sh.sl 1 a h, Sh.sl 2 b l], Sh.i IntKind.i64 (Int.ofNat 1), Sh.i IntKind.i64 (Int.ofNat 0)])) := by kernel_rfl
theorem a96 (A : Prim) (W : Wd) (x y : Int) (a b : Nat) (h l : Nat → List Sh) (k v : Int) : runTo (C7 A W specA stopAll) noHold0 300 400 96 [.code []] (start0 15 [.agg [.i .i64 x, .i .i64 y, .sl 1 a h, .sl 2 b l], .i .i64 k, .i .i64 v] L0) [] [] = Tree.leaf (Fe2.ret (Sh.tup [Sh.agg [Sh.i IntKind.i64 x, Sh.i IntKind.i64 (A.add IntKind.i64 y v), Sh.sl 1 a h, Sh.sl 2 b l], Sh.i IntKind.i64 (Int.ofNat 1), Sh.i IntKind.i64 (Int.ofNat 0)])) := by kernel_rfl
theorem a97 (A : Prim) (W : Wd) (x y : Int) (a b : Nat) (h l : Nat → List Sh) (k v : Int) : runTo (C7 A W specA stopAll) noHold0 300 400 97 [.code []] (start0 17 [.agg [.i .i64 x, .i .i64 y, .sl 1 a h, .sl 2 b l], .i .i64 k, .i .i64 v] L0) [] [] = Tree.node (A.leN a 0) ((Tree.leaf (Fe2.ret (Sh.tup [Sh.agg [Sh.i IntKind.i64 x, Sh.i IntKind.i64 y, Sh.os 3 1 1 (nthL [[Sh.i IntKind.i64 v]]), Sh.sl 2 b l], Sh.i IntKind.i64 (Int.ofNat 1), Sh.i IntKind.i64 (Int.ofNat 0)]))).both (Tree.need (A.room (A.addN 0 a) 8) (Tree.need (A.room (A.addN (A.addN 0 a) 1) 8) (Tree.leaf (Fe2.ret (Sh.tup [Sh.agg [Sh.i IntKind.i64 x, Sh.i IntKind.i64 y, Sh.os 3 1 (A.addN (A.addN 0 a) 1) (A.snoc (A.snoc (nthL []) 0 h) (A.addN 0 a) (nthL [[Sh.i IntKind.i64 v]])), Sh.sl 2 b l], Sh.i IntKind.i64 (Int.ofNat 1), Sh.i IntKind.i64 (Int.ofNat 0)])))))) (Tree.need (A.room (A.addN 0 a) 8) (Tree.need (A.room (A.addN (A.addN 0 a) 1) 8) (Tree.leaf (Fe2.ret (Sh.tup [Sh.agg [Sh.i IntKind.i64 x, Sh.i IntKind.i64 y, Sh.os 3 1 (A.addN (A.addN 0 a) 1) (A.snoc (A.snoc (nthL []) 0 h) (A.addN 0 a) (nthL [[Sh.i IntKind.i64 v]])), Sh.sl 2 b l], Sh.i IntKind.i64 (Int.ofNat 1), Sh.i IntKind.i64 (Int.ofNat 0)]))))) := by kernel_rfl
theorem a99 (A : Prim) (W : Wd) (x y : Int) (a b : Nat) (o : Nat → Int) (l : Nat → List Sh) (k v : Int) : runTo (C7 A W specA stopAll) noHold0 300 400 99 [.code []] (start0 25 [.agg [.i .i64 x, .i .i64 y, .sl 1 a (fnR o), .sl 2 b l], .i .i64 k, .i .i64 v] L0) [] [] = Tree.node (A.eq (A.ofN a) (Int.ofNat 0)) (Tree.leaf (Fe2.ret (Sh.tup [Sh.agg [Sh.i IntKind.i64 x, Sh.i IntKind.i64 y, Sh.sl 1 a (fnR o), Sh.sl 2 b l], Sh.i IntKind.i64 (Int.ofNat 2), Sh.i IntKind.i64 (Int.ofNat 0)]))) (Tree.need (A.inB (Int.ofNat 0) a) (Tree.need (A.upTo (Int.ofNat 1) a) (Tree.leaf (Fe2.ret (Sh.tup [Sh.agg [Sh.i IntKind.i64 x, Sh.i IntKind.i64 y, Sh.sl 1 (A.subN a 1) fun (j : Nat) => fnR o (A.addN 1 j), Sh.sl 2 b l], Sh.i IntKind.i64 (Int.ofNat 3), Sh.i IntKind.i64 (o 0)]))))) := by kernel_rfl
theorem a42 (A : Prim) (W : Wd) (x y : Int) (a b : Nat) (h l : Nat → List Sh) (op k v : Int) : runV (C7 A W specD stopAll) pause42 300 400 42 [.code []] (start0 88 [.agg [.i .i64 x, .i .i64 y, .sl 1 a h, .sl 2 b l], .i .i64 op, .i .i64 k, .i .i64 v] L0) [] [⟨42, td42, L42 x y a b h l op k v, []⟩] = Tree.node (A.eq x (Int.ofNat 0)) (Tree.leaf (Fe2.ret (Sh.tup [Sh.agg [Sh.i IntKind.i64 (Int.ofNat 0), Sh.i IntKind.i64 (Int.ofNat 0), Sh.sl 0 0 fun (x : Nat) => [], Sh.sl 0 0 fun (x : Nat) => []], Sh.i IntKind.i64 (Int.ofNat 0), Sh.i IntKind.i64 (Int.ofNat 0), Sh.er 1 242]))) (Tree.node (A.nt (A.eq (ofOp op) x)) (Tree.leaf (Fe2.ret (Sh.tup [Sh.agg [Sh.i IntKind.i64 (Int.ofNat 0), Sh.i IntKind.i64 (Int.ofNat 0), Sh.sl 0 0 fun (x : Nat) => [], Sh.sl 0 0 fun (x : Nat) => []], Sh.i IntKind.i64 (Int.ofNat 0), Sh.i IntKind.i64 (Int.ofNat 0), Sh.er 1 242]))) (Tree.node (A.nt (A.eq k (Int.ofNat 0))) (Tree.node (A.nt (keyed op)) (Tree.leaf (Fe2.ret (Sh.tup [Sh.agg [Sh.i IntKind.i64 (Int.ofNat 0), Sh.i IntKind.i64 (Int.ofNat 0), Sh.sl 0 0 fun (x : Nat) => [], Sh.sl 0 0 fun (x : Nat) => []], Sh.i IntKind.i64 (Int.ofNat 0), Sh.i IntKind.i64 (Int.ofNat 0), Sh.er 3 242]))) (Tree.node (A.lt k (Int.ofNat 0)) (Tree.leaf (Fe2.ret (Sh.tup [Sh.agg [Sh.i IntKind.i64 (Int.ofNat 0), Sh.i IntKind.i64 (Int.ofNat 0), Sh.sl 0 0 fun (x : Nat) => [], Sh.sl 0 0 fun (x : Nat) => []], Sh.i IntKind.i64 (Int.ofNat 0), Sh.i IntKind.i64 (Int.ofNat 0), Sh.er 3 242]))) (Tree.node (A.lt (Int.ofNat 1000) k) (Tree.leaf (Fe2.ret (Sh.tup [Sh.agg [Sh.i IntKind.i64 (Int.ofNat 0), Sh.i IntKind.i64 (Int.ofNat 0), Sh.sl 0 0 fun (x : Nat) => [], Sh.sl 0 0 fun (x : Nat) => []], Sh.i IntKind.i64 (Int.ofNat 0), Sh.i IntKind.i64 (Int.ofNat 0), Sh.er 3 242]))) (Tree.node (A.nt (A.eq v (Int.ofNat 0))) (Tree.node (A.nt (valued op)) (Tree.leaf (Fe2.ret (Sh.tup [Sh.agg [Sh.i IntKind.i64 (Int.ofNat 0), Sh.i IntKind.i64 (Int.ofNat 0), Sh.sl 0 0 fun (x : Nat) => [], Sh.sl 0 0 fun (x : Nat) => []], Sh.i IntKind.i64 (Int.ofNat 0), Sh.i IntKind.i64 (Int.ofNat 0), Sh.er 3 242]))) (Tree.node (A.lt v (Int.negSucc 999999999)) (Tree.leaf (Fe2.ret (Sh.tup [Sh.agg [Sh.i IntKind.i64 (Int.ofNat 0), Sh.i IntKind.i64 (Int.ofNat 0), Sh.sl 0 0 fun (x : Nat) => [], Sh.sl 0 0 fun (x : Nat) => []], Sh.i IntKind.i64 (Int.ofNat 0), Sh.i IntKind.i64 (Int.ofNat 0), Sh.er 3 242]))) (Tree.node (A.lt (Int.ofNat 1000000000) v) (Tree.leaf (Fe2.ret (Sh.tup [Sh.agg [Sh.i IntKind.i64 (Int.ofNat 0), Sh.i IntKind.i64 (Int.ofNat 0), Sh.sl 0 0 fun (x : Nat) => [], Sh.sl 0 0 fun (x : Nat) => []], Sh.i IntKind.i64 (Int.ofNat 0), Sh.i IntKind.i64 (Int.ofNat 0), Sh.er 3 242]))) (Tree.node (A.eq op (Int.ofNat 3)) (Tree.node (beyondB x (Int.ofNat 0) (A.add IntKind.i64 y v)) (Tree.leaf (Fe2.ret (Sh.tup [Sh.agg [Sh.i IntKind.i64 (Int.ofNat 0), Sh.i IntKind.i64 (Int.ofNat 0), Sh.sl 0 0 fun (x : Nat) => [], Sh.sl 0 0 fun (x : Nat) => []], Sh.i IntKind.i64 (Int.ofNat 0), Sh.i IntKind.i64 (Int.ofNat 0), Sh.er 3 242]))) (Tree.leaf (Fe2.at_ 0 [Eqn.int op op, Eqn.int k k, Eqn.int v v, Eqn.int x x, Eqn.int y y, Eqn.sh (Sh.sl 1 a h) (Sh.sl 1 a h), Eqn.sh (Sh.sl 2 b l) (Sh.sl 2 b l), Eqn.int (Int.ofNat 0) (Int.ofNat 0), Eqn.int (Int.ofNat 0) (Int.ofNat 0)]))) (Tree.leaf (Fe2.at_ 0 [Eqn.int op op, Eqn.int k k, Eqn.int v v, Eqn.int x x, Eqn.int y y, Eqn.sh (Sh.sl 1 a h) (Sh.sl 1 a h), Eqn.sh (Sh.sl 2 b l) (Sh.sl 2 b l), Eqn.int (Int.ofNat 0) (Int.ofNat 0), Eqn.int (Int.ofNat 0) (Int.ofNat 0)])))))) (Tree.node (A.lt v (Int.negSucc 999999999)) (Tree.leaf (Fe2.ret (Sh.tup [Sh.agg [Sh.i IntKind.i64 (Int.ofNat 0), Sh.i IntKind.i64 (Int.ofNat 0), Sh.sl 0 0 fun (x : Nat) => [], Sh.sl 0 0 fun (x : Nat) => []], Sh.i IntKind.i64 (Int.ofNat 0), Sh.i IntKind.i64 (Int.ofNat 0), Sh.er 3 242]))) (Tree.node (A.lt (Int.ofNat 1000000000) v) (Tree.leaf (Fe2.ret (Sh.tup [Sh.agg [Sh.i IntKind.i64 (Int.ofNat 0), Sh.i IntKind.i64 (Int.ofNat 0), Sh.sl 0 0 fun (x : Nat) => [], Sh.sl 0 0 fun (x : Nat) => []], Sh.i IntKind.i64 (Int.ofNat 0), Sh.i IntKind.i64 (Int.ofNat 0), Sh.er 3 242]))) (Tree.node (A.eq op (Int.ofNat 3)) (Tree.node (beyondB x (Int.ofNat 0) (A.add IntKind.i64 y v)) (Tree.leaf (Fe2.ret (Sh.tup [Sh.agg [Sh.i IntKind.i64 (Int.ofNat 0), Sh.i IntKind.i64 (Int.ofNat 0), Sh.sl 0 0 fun (x : Nat) => [], Sh.sl 0 0 fun (x : Nat) => []], Sh.i IntKind.i64 (Int.ofNat 0), Sh.i IntKind.i64 (Int.ofNat 0), Sh.er 3 242]))) (Tree.leaf (Fe2.at_ 0 [Eqn.int op op, Eqn.int k k, Eqn.int v v, Eqn.int x x, Eqn.int y y, Eqn.sh (Sh.sl 1 a h) (Sh.sl 1 a h), Eqn.sh (Sh.sl 2 b l) (Sh.sl 2 b l), Eqn.int (Int.ofNat 0) (Int.ofNat 0), Eqn.int (Int.ofNat 0) (Int.ofNat 0)]))) (Tree.leaf (Fe2.at_ 0 [Eqn.int op op, Eqn.int k k, Eqn.int v v, Eqn.int x x, Eqn.int y y, Eqn.sh (Sh.sl 1 a h) (Sh.sl 1 a h), Eqn.sh (Sh.sl 2 b l) (Sh.sl 2 b l), Eqn.int (Int.ofNat 0) (Int.ofNat 0), Eqn.int (Int.ofNat 0) (Int.ofNat 0)]))))))))) (Tree.node (A.lt k (Int.ofNat 0)) (Tree.leaf (Fe2.ret (Sh.tup [Sh.agg [Sh.i IntKind.i64 (Int.ofNat 0), Sh.i IntKind.i64 (Int.ofNat 0), Sh.sl 0 0 fun (x : Nat) => [], Sh.sl 0 0 fun (x : Nat) => []], Sh.i IntKind.i64 (Int.ofNat 0), Sh.i IntKind.i64 (Int.ofNat 0), Sh.er 3 242]))) (Tree.node (A.lt (Int.ofNat 1000) k) (Tree.leaf (Fe2.ret (Sh.tup [Sh.agg [Sh.i IntKind.i64 (Int.ofNat 0), Sh.i IntKind.i64 (Int.ofNat 0), Sh.sl 0 0 fun (x : Nat) => [], Sh.sl 0 0 fun (x : Nat) => []], Sh.i IntKind.i64 (Int.ofNat 0), Sh.i IntKind.i64 (Int.ofNat 0), Sh.er 3 242]))) (Tree.node (A.nt (A.eq v (Int.ofNat 0))) (Tree.node (A.nt (valued op)) (Tree.leaf (Fe2.ret (Sh.tup [Sh.agg [Sh.i IntKind.i64 (Int.ofNat 0), Sh.i IntKind.i64 (Int.ofNat 0), Sh.sl 0 0 fun (x : Nat) => [], Sh.sl 0 0 fun (x : Nat) => []], Sh.i IntKind.i64 (Int.ofNat 0), Sh.i IntKind.i64 (Int.ofNat 0), Sh.er 3 242]))) (Tree.node (A.lt v (Int.negSucc 999999999)) (Tree.leaf (Fe2.ret (Sh.tup [Sh.agg [Sh.i IntKind.i64 (Int.ofNat 0), Sh.i IntKind.i64 (Int.ofNat 0), Sh.sl 0 0 fun (x : Nat) => [], Sh.sl 0 0 fun (x : Nat) => []], Sh.i IntKind.i64 (Int.ofNat 0), Sh.i IntKind.i64 (Int.ofNat 0), Sh.er 3 242]))) (Tree.node (A.lt (Int.ofNat 1000000000) v) (Tree.leaf (Fe2.ret (Sh.tup [Sh.agg [Sh.i IntKind.i64 (Int.ofNat 0), Sh.i IntKind.i64 (Int.ofNat 0), Sh.sl 0 0 fun (x : Nat) => [], Sh.sl 0 0 fun (x : Nat) => []], Sh.i IntKind.i64 (Int.ofNat 0), Sh.i IntKind.i64 (Int.ofNat 0), Sh.er 3 242]))) (Tree.node (A.eq op (Int.ofNat 3)) (Tree.node (beyondB x (Int.ofNat 0) (A.add IntKind.i64 y v)) (Tree.leaf (Fe2.ret (Sh.tup [Sh.agg [Sh.i IntKind.i64 (Int.ofNat 0), Sh.i IntKind.i64 (Int.ofNat 0), Sh.sl 0 0 fun (x : Nat) => [], Sh.sl 0 0 fun (x : Nat) => []], Sh.i IntKind.i64 (Int.ofNat 0), Sh.i IntKind.i64 (Int.ofNat 0), Sh.er 3 242]))) (Tree.leaf (Fe2.at_ 0 [Eqn.int op op, Eqn.int k k, Eqn.int v v, Eqn.int x x, Eqn.int y y, Eqn.sh (Sh.sl 1 a h) (Sh.sl 1 a h), Eqn.sh (Sh.sl 2 b l) (Sh.sl 2 b l), Eqn.int (Int.ofNat 0) (Int.ofNat 0), Eqn.int (Int.ofNat 0) (Int.ofNat 0)]))) (Tree.leaf (Fe2.at_ 0 [Eqn.int op op, Eqn.int k k, Eqn.int v v, Eqn.int x x, Eqn.int y y, Eqn.sh (Sh.sl 1 a h) (Sh.sl 1 a h), Eqn.sh (Sh.sl 2 b l) (Sh.sl 2 b l), Eqn.int (Int.ofNat 0) (Int.ofNat 0), Eqn.int (Int.ofNat 0) (Int.ofNat 0)])))))) (Tree.node (A.lt v (Int.negSucc 999999999)) (Tree.leaf (Fe2.ret (Sh.tup [Sh.agg [Sh.i IntKind.i64 (Int.ofNat 0), Sh.i IntKind.i64 (Int.ofNat 0), Sh.sl 0 0 fun (x : Nat) => [], Sh.sl 0 0 fun (x : Nat) => []], Sh.i IntKind.i64 (Int.ofNat 0), Sh.i IntKind.i64 (Int.ofNat 0), Sh.er 3 242]))) (Tree.node (A.lt (Int.ofNat 1000000000) v) (Tree.leaf (Fe2.ret (Sh.tup [Sh.agg [Sh.i IntKind.i64 (Int.ofNat 0), Sh.i IntKind.i64 (Int.ofNat 0), Sh.sl 0 0 fun (x : Nat) => [], Sh.sl 0 0 fun (x : Nat) => []], Sh.i IntKind.i64 (Int.ofNat 0), Sh.i IntKind.i64 (Int.ofNat 0), Sh.er 3 242]))) (Tree.node (A.eq op (Int.ofNat 3)) (Tree.node (beyondB x (Int.ofNat 0) (A.add IntKind.i64 y v)) (Tree.leaf (Fe2.ret (Sh.tup [Sh.agg [Sh.i IntKind.i64 (Int.ofNat 0), Sh.i IntKind.i64 (Int.ofNat 0), Sh.sl 0 0 fun (x : Nat) => [], Sh.sl 0 0 fun (x : Nat) => []], Sh.i IntKind.i64 (Int.ofNat 0), Sh.i IntKind.i64 (Int.ofNat 0), Sh.er 3 242]))) (Tree.leaf (Fe2.at_ 0 [Eqn.int op op, Eqn.int k k, Eqn.int v v, Eqn.int x x, Eqn.int y y, Eqn.sh (Sh.sl 1 a h) (Sh.sl 1 a h), Eqn.sh (Sh.sl 2 b l) (Sh.sl 2 b l), Eqn.int (Int.ofNat 0) (Int.ofNat 0), Eqn.int (Int.ofNat 0) (Int.ofNat 0)]))) (Tree.leaf (Fe2.at_ 0 [Eqn.int op op, Eqn.int k k, Eqn.int v v, Eqn.int x x, Eqn.int y y, Eqn.sh (Sh.sl 1 a h) (Sh.sl 1 a h), Eqn.sh (Sh.sl 2 b l) (Sh.sl 2 b l), Eqn.int (Int.ofNat 0) (Int.ofNat 0), Eqn.int (Int.ofNat 0) (Int.ofNat 0)])))))))))) := by kernel_rfl
theorem b42_1 (A : Prim) (W : Wd) (x y : Int) (a b : Nat) (h l : Nat → List Sh) (k v : Int) : runTo (C7 A W specD stopAll) noHold0 300 400 42 td42 (L42n x y a b h l 1 k v) [] [] = Tree.must [Eqn.int k k, Eqn.int v v, Eqn.int (Int.ofNat 3) (Int.ofNat 3), Eqn.int y y, Eqn.int x x, Eqn.int y y, Eqn.sh (Sh.sl 1 a h) (Sh.sl 1 a h), Eqn.sh (Sh.sl 2 b l) (Sh.sl 2 b l), Eqn.int x x, Eqn.int y y, Eqn.sh (Sh.sl 1 a h) (Sh.sl 1 a h), Eqn.sh (Sh.sl 2 b l) (Sh.sl 2 b l)] (Tree.must [Eqn.int k k, Eqn.int v v, Eqn.int (Int.ofNat 3) (Int.ofNat 3), Eqn.int y y, Eqn.int x x, Eqn.int y y, Eqn.sh (Sh.sl 1 a h) (Sh.sl 1 a h), Eqn.sh (Sh.sl 2 b l) (Sh.sl 2 b l), Eqn.int x x, Eqn.int y y, Eqn.sh (Sh.sl 1 a h) (Sh.sl 1 a h), Eqn.sh (Sh.sl 2 b l) (Sh.sl 2 b l)] (Tree.must [Eqn.int k k, Eqn.int v v, Eqn.int (Int.ofNat 3) (Int.ofNat 3), Eqn.int y y, Eqn.int x x, Eqn.int y y, Eqn.sh (Sh.sl 1 a h) (Sh.sl 1 a h), Eqn.sh (Sh.sl 2 b l) (Sh.sl 2 b l), Eqn.int x x, Eqn.int y y, Eqn.sh (Sh.sl 1 a h) (Sh.sl 1 a h), Eqn.sh (Sh.sl 2 b l) (Sh.sl 2 b l)] (Tree.leaf (Fe2.ret (Sh.tup [Sh.agg [Sh.i IntKind.i64 x, Sh.i IntKind.i64 y, Sh.sl 1 a h, Sh.sl 2 b l], Sh.i IntKind.i64 (Int.ofNat 3), Sh.i IntKind.i64 y, Sh.v Value.nilIface]))))) := by kernel_rfl
theorem b42_2 (A : Prim) (W : Wd) (x y : Int) (a b : Nat) (h l : Nat → List Sh) (k v : Int) : runTo (C7 A W specD stopAll) noHold0 300 400 42 td42 (L42n x y a b h l 2 k v) [] [] = Tree.must [Eqn.int k k, Eqn.int v v, Eqn.int (Int.ofNat 1) (Int.ofNat 1), Eqn.int (Int.ofNat 0) (Int.ofNat 0), Eqn.int x x, Eqn.int y y, Eqn.sh (Sh.sl 1 a h) (Sh.sl 1 a h), Eqn.sh (Sh.sl 2 b l) (Sh.sl 2 b l), Eqn.int x x, Eqn.int v v, Eqn.sh (Sh.sl 1 a h) (Sh.sl 1 a h), Eqn.sh (Sh.sl 2 b l) (Sh.sl 2 b l)] (Tree.must [Eqn.int k k, Eqn.int v v, Eqn.int (Int.ofNat 1) (Int.ofNat 1), Eqn.int (Int.ofNat 0) (Int.ofNat 0), Eqn.int x x, Eqn.int y y, Eqn.sh (Sh.sl 1 a h) (Sh.sl 1 a h), Eqn.sh (Sh.sl 2 b l) (Sh.sl 2 b l), Eqn.int x x, Eqn.int v v, Eqn.sh (Sh.sl 1 a h) (Sh.sl 1 a h), Eqn.sh (Sh.sl 2 b l) (Sh.sl 2 b l)] (Tree.must [Eqn.int k k, Eqn.int v v, Eqn.int (Int.ofNat 1) (Int.ofNat 1), Eqn.int (Int.ofNat 0) (Int.ofNat 0), Eqn.int x x, Eqn.int y y, Eqn.sh (Sh.sl 1 a h) (Sh.sl 1 a h), Eqn.sh (Sh.sl 2 b l) (Sh.sl 2 b l), Eqn.int x x, Eqn.int v v, Eqn.sh (Sh.sl 1 a h) (Sh.sl 1 a h), Eqn.sh (Sh.sl 2 b l) (Sh.sl 2 b l)] (Tree.leaf (Fe2.ret (Sh.tup [Sh.agg [Sh.i IntKind.i64 x, Sh.i IntKind.i64 v, Sh.sl 1 a h, Sh.sl 2 b l], Sh.i IntKind.i64 (Int.ofNat 1), Sh.i IntKind.i64 (Int.ofNat 0), Sh.v Value.nilIface]))))) := by kernel_rfl
theorem b42_3 (A : Prim) (W : Wd) (x y : Int) (a b : Nat) (h l : Nat → List Sh) (k v : Int) : runTo (C7 A W specD stopAll) noHold0 300 400 42 td42 (L42n x y a b h l 3 k v) [] [] = Tree.must [Eqn.int k k, Eqn.int v v, Eqn.int (Int.ofNat 1) (Int.ofNat 1), Eqn.int (Int.ofNat 0) (Int.ofNat 0), Eqn.int x x, Eqn.int y y, Eqn.sh (Sh.sl 1 a h) (Sh.sl 1 a h), Eqn.sh (Sh.sl 2 b l) (Sh.sl 2 b l), Eqn.int x x, Eqn.int (addW y v) (addW y v), Eqn.sh (Sh.sl 1 a h) (Sh.sl 1 a h), Eqn.sh (Sh.sl 2 b l) (Sh.sl 2 b l)] (Tree.must [Eqn.int k k, Eqn.int v v, Eqn.int (Int.ofNat 1) (Int.ofNat 1), Eqn.int (Int.ofNat 0) (Int.ofNat 0), Eqn.int x x, Eqn.int y y, Eqn.sh (Sh.sl 1 a h) (Sh.sl 1 a h), Eqn.sh (Sh.sl 2 b l) (Sh.sl 2 b l), Eqn.int x x, Eqn.int (addW y v) (addW y v), Eqn.sh (Sh.sl 1 a h) (Sh.sl 1 a h), Eqn.sh (Sh.sl 2 b l) (Sh.sl 2 b l)] (Tree.must [Eqn.int k k, Eqn.int v v, Eqn.int (Int.ofNat 1) (Int.ofNat 1), Eqn.int (Int.ofNat 0) (Int.ofNat 0), Eqn.int x x, Eqn.int y y, Eqn.sh (Sh.sl 1 a h) (Sh.sl 1 a h), Eqn.sh (Sh.sl 2 b l) (Sh.sl 2 b l), Eqn.int x x, Eqn.int (addW y v) (addW y v), Eqn.sh (Sh.sl 1 a h) (Sh.sl 1 a h), Eqn.sh (Sh.sl 2 b l) (Sh.sl 2 b l)] (Tree.leaf (Fe2.ret (Sh.tup [Sh.agg [Sh.i IntKind.i64 x, Sh.i IntKind.i64 (addW y v), Sh.sl 1 a h, Sh.sl 2 b l], Sh.i IntKind.i64 (Int.ofNat 1), Sh.i IntKind.i64 (Int.ofNat 0), Sh.v Value.nilIface]))))) := by kernel_rfl
theorem b42_4 (A : Prim) (W : Wd) (x y : Int) (a b : Nat) (h l : Nat → List Sh) (k v : Int) : runTo (C7 A W specD stopAll) noHold0 300 400 42 td42 (L42n x y a b h l 4 k v) [] [] = Tree.must [Eqn.int k k, Eqn.int v v, Eqn.int (Int.ofNat 3) (Int.ofNat 3), Eqn.int y y, Eqn.int x x, Eqn.int y y, Eqn.sh (Sh.sl 1 a h) (Sh.sl 1 a h), Eqn.sh (Sh.sl 2 b l) (Sh.sl 2 b l), Eqn.int x x, Eqn.int y y, Eqn.sh (Sh.sl 1 a h) (Sh.sl 1 a h), Eqn.sh (Sh.sl 2 b l) (Sh.sl 2 b l)] (Tree.must [Eqn.int k k, Eqn.int v v, Eqn.int (Int.ofNat 3) (Int.ofNat 3), Eqn.int y y, Eqn.int x x, Eqn.int y y, Eqn.sh (Sh.sl 1 a h) (Sh.sl 1 a h), Eqn.sh (Sh.sl 2 b l) (Sh.sl 2 b l), Eqn.int x x, Eqn.int y y, Eqn.sh (Sh.sl 1 a h) (Sh.sl 1 a h), Eqn.sh (Sh.sl 2 b l) (Sh.sl 2 b l)] (Tree.must [Eqn.int k k, Eqn.int v v, Eqn.int (Int.ofNat 3) (Int.ofNat 3), Eqn.int y y, Eqn.int x x, Eqn.int y y, Eqn.sh (Sh.sl 1 a h) (Sh.sl 1 a h), Eqn.sh (Sh.sl 2 b l) (Sh.sl 2 b l), Eqn.int x x, Eqn.int y y, Eqn.sh (Sh.sl 1 a h) (Sh.sl 1 a h), Eqn.sh (Sh.sl 2 b l) (Sh.sl 2 b l)] (Tree.leaf (Fe2.ret (Sh.tup [Sh.agg [Sh.i IntKind.i64 x, Sh.i IntKind.i64 y, Sh.sl 1 a h, Sh.sl 2 b l], Sh.i IntKind.i64 (Int.ofNat 3), Sh.i IntKind.i64 y, Sh.v Value.nilIface]))))) := by kernel_rfl
theorem b42_5 (A : Prim) (W : Wd) (x y : Int) (a b : Nat) (h l : Nat → List Sh) (k v : Int) : runTo (C7 A W specD stopAll) noHold0 300 400 42 td42 (L42n x y a b h l 5 k v) [] [] = Tree.need (roomB a.succ 8) (Tree.need (roomB a.succ 8) (Tree.must [Eqn.int k k, Eqn.int v v, Eqn.int (Int.ofNat 1) (Int.ofNat 1), Eqn.int (Int.ofNat 0) (Int.ofNat 0), Eqn.int x x, Eqn.int y y, Eqn.sh (Sh.sl 1 a h) (Sh.sl 1 a h), Eqn.sh (Sh.sl 2 b l) (Sh.sl 2 b l), Eqn.int x x, Eqn.int y y, Eqn.sh (Sh.sl 1 a.succ (snocG a h [Sh.i IntKind.i64 v])) (Sh.sl 1 a.succ (snocG a h [Sh.i IntKind.i64 v])), Eqn.sh (Sh.sl 2 b l) (Sh.sl 2 b l)] (Tree.need (roomB a.succ 8) (Tree.must [Eqn.int k k, Eqn.int v v, Eqn.int (Int.ofNat 1) (Int.ofNat 1), Eqn.int (Int.ofNat 0) (Int.ofNat 0), Eqn.int x x, Eqn.int y y, Eqn.sh (Sh.sl 1 a h) (Sh.sl 1 a h), Eqn.sh (Sh.sl 2 b l) (Sh.sl 2 b l), Eqn.int x x, Eqn.int y y, Eqn.sh (Sh.sl 1 a.succ (snocG a h [Sh.i IntKind.i64 v])) (Sh.sl 1 a.succ (snocG a h [Sh.i IntKind.i64 v])), Eqn.sh (Sh.sl 2 b l) (Sh.sl 2 b l)] (Tree.need (roomB a.succ 8) (Tree.must [Eqn.int k k, Eqn.int v v, Eqn.int (Int.ofNat 1) (Int.ofNat 1), Eqn.int (Int.ofNat 0) (Int.ofNat 0), Eqn.int x x, Eqn.int y y, Eqn.sh (Sh.sl 1 a h) (Sh.sl 1 a h), Eqn.sh (Sh.sl 2 b l) (Sh.sl 2 b l), Eqn.int x x, Eqn.int y y, Eqn.sh (Sh.sl 1 a.succ (snocG a h [Sh.i IntKind.i64 v])) (Sh.sl 1 a.succ (snocG a h [Sh.i IntKind.i64 v])), Eqn.sh (Sh.sl 2 b l) (Sh.sl 2 b l)] (Tree.leaf (Fe2.ret (Sh.tup [Sh.agg [Sh.i IntKind.i64 x, Sh.i IntKind.i64 y, Sh.sl 1 a.succ (snocG a h [Sh.i IntKind.i64 v]), Sh.sl 2 b l], Sh.i IntKind.i64 (Int.ofNat 1), Sh.i IntKind.i64 (Int.ofNat 0), Sh.v Value.nilIface]))))))))) := by kernel_rfl
theorem b42_6 (A : Prim) (W : Wd) (x y : Int) (a b : Nat) (h l : Nat → List Sh) (k v : Int) : runTo (C7 A W specD stopAll) noHold0 300 400 42 td42 (L42n x y a b h l 6 k v) [] [] = Tree.need (okB Int a h) (Tree.need (okB Int a h) (Tree.must [Eqn.int k k, Eqn.int v v, Eqn.int (deqR a) (deqR a), Eqn.int (headI a (rwAt h)) (headI a (rwAt h)), Eqn.int x x, Eqn.int y y, Eqn.sh (Sh.sl 1 a h) (Sh.sl 1 a h), Eqn.sh (Sh.sl 2 b l) (Sh.sl 2 b l), Eqn.int x x, Eqn.int y y, Eqn.sh (Sh.sl 1 (predN a) (shiftG h)) (Sh.sl 1 (predN a) (shiftG h)), Eqn.sh (Sh.sl 2 b l) (Sh.sl 2 b l)] (Tree.need (okB Int a h) (Tree.must [Eqn.int k k, Eqn.int v v, Eqn.int (deqR a) (deqR a), Eqn.int (headI a (rwAt h)) (headI a (rwAt h)), Eqn.int x x, Eqn.int y y, Eqn.sh (Sh.sl 1 a h) (Sh.sl 1 a h), Eqn.sh (Sh.sl 2 b l) (Sh.sl 2 b l), Eqn.int x x, Eqn.int y y, Eqn.sh (Sh.sl 1 (predN a) (shiftG h)) (Sh.sl 1 (predN a) (shiftG h)), Eqn.sh (Sh.sl 2 b l) (Sh.sl 2 b l)] (Tree.need (okB Int a h) (Tree.must [Eqn.int k k, Eqn.int v v, Eqn.int (deqR a) (deqR a), Eqn.int (headI a (rwAt h)) (headI a (rwAt h)), Eqn.int x x, Eqn.int y y, Eqn.sh (Sh.sl 1 a h) (Sh.sl 1 a h), Eqn.sh (Sh.sl 2 b l) (Sh.sl 2 b l), Eqn.int x x, Eqn.int y y, Eqn.sh (Sh.sl 1 (predN a) (shiftG h)) (Sh.sl 1 (predN a) (shiftG h)), Eqn.sh (Sh.sl 2 b l) (Sh.sl 2 b l)] (Tree.leaf (Fe2.ret (Sh.tup [Sh.agg [Sh.i IntKind.i64 x, Sh.i IntKind.i64 y, Sh.sl 1 (predN a) (shiftG h), Sh.sl 2 b l], Sh.i IntKind.i64 (deqR a), Sh.i IntKind.i64 (headI a (rwAt h)), Sh.v Value.nilIface]))))))))) := by kernel_rfl
end Go.Proofs
namespace Go.Pl
open Go Go.Sx
/-- Not an operation of that kind. -/
def badOp (x op : Int) : Bool := decide (x = 0) || !decide (ofOp op = x)
/-- Key or value out of bounds. -/
def badKV (x y op k v : Int) : Bool :=
  (!decide (k = 0) && !keyed op) || decide (k < 0) || decide (1000 < k) || (!decide (v = 0) && !valued op) || decide (v < -1000000000) || decide (1000000000 < v) || (decide (op = 3) && beyondB x 0 (addW y v))
theorem addN1' (n m : Nat) : prim.addN n m = n + m := rfl
end Go.Pl
namespace Go.Proofs
open Go Go.Sx Go.Pl
theorem O66 : FnOK Tryz.prog (gls7 W7) 66 F66 := by
  refine fnOK_Ru (C := C7 prim W7 specA stopAll) (C7.ok _ _) (fokA _) (m := 300) (n := 400) (L := L0) (fn := Tryz.f66) (by kernel_rfl) (by kernel_rfl) fun H w shs args φ hrep h => ?_
  have hn : Tryz.f66.ntmps = 17 := by kernel_rfl
  unfold F66 at h
  split at h
  · rename_i t
    split at h
    · rename_i op ht
      match args, hrep with
      | [v], ⟨hv, _⟩ =>
        refine ⟨[.i .i64 op], ⟨icode_ok ht hv, trivial⟩, ?_⟩
        rw [hn, a66 prim W7 op]
        have key (n : Int) (e : ofOp op = n) : up φ (.i .i64 n) := up_mk (s' := .i .i64 (ofOp op)) (by rw [e]; rfl) h
        have q1 : Int.ofNat 1 = 1 := rfl
        have q2 : Int.ofNat 2 = 2 := rfl
        have q3 : Int.ofNat 3 = 3 := rfl
        have q4 : Int.ofNat 4 = 4 := rfl
        have q5 : Int.ofNat 5 = 5 := rfl
        have q6 : Int.ofNat 6 = 6 := rfl
        have q7 : Int.ofNat 7 = 7 := rfl
        have q8 : Int.ofNat 8 = 8 := rfl
        have q9 : Int.ofNat 9 = 9 := rfl
        have q0 : Int.ofNat 0 = 0 := rfl
        simp only [prim_eq, q0, q1, q2, q3, q4, q5, q6, q7, q8, q9]
        refine ⟨fun _ => key _ ?_, fun _ => ⟨fun _ => key _ ?_, fun _ => ⟨fun _ => key _ ?_, fun _ => ⟨fun _ => key _ ?_, fun _ => ⟨fun _ => key _ ?_, fun _ => ⟨fun _ => key _ ?_, fun _ => ⟨fun _ => key _ ?_, fun _ => ⟨fun _ => key _ ?_, fun _ => ⟨fun _ => key _ ?_, fun _ => key _ ?_⟩⟩⟩⟩⟩⟩⟩⟩⟩
        all_goals (simp_all [ofOp])
    · exact h.elim
  · exact h.elim
theorem O67 : FnOK Tryz.prog (gls7 W7) 67 F67 := by
  refine fnOK_Ru (C := C7 prim W7 specA stopAll) (C7.ok _ _) (fokA _) (m := 300) (n := 400) (L := L0) (fn := Tryz.f67) (by kernel_rfl) (by kernel_rfl) fun H w shs args φ hrep h => ?_
  have hn : Tryz.f67.ntmps = 13 := by kernel_rfl
  unfold F67 at h
  split at h
  · rename_i t
    split at h
    · rename_i op ht
      match args, hrep with
      | [v], ⟨hv, _⟩ =>
        refine ⟨[.i .i64 op], ⟨icode_ok ht hv, trivial⟩, ?_⟩
        rw [hn, a67 prim W7 op]
        have key (n : Bool) (e : keyed op = n) : up φ (.b n) := up_mk (s' := .b (keyed op)) (by rw [e]; exact .inl rfl) h
        have q7 : Int.ofNat 7 = 7 := rfl
        have q8 : Int.ofNat 8 = 8 := rfl
        have q9 : Int.ofNat 9 = 9 := rfl
        simp only [prim_eq, q7, q8, q9]
        refine ⟨fun _ => key _ ?_, fun _ => ⟨fun _ => key _ ?_, fun _ => key _ ?_⟩⟩
        all_goals (simp_all [keyed] <;> rfl)
    · exact h.elim
  · exact h.elim
theorem O68 : FnOK Tryz.prog (gls7 W7) 68 F68 := by
  refine fnOK_Ru (C := C7 prim W7 specA stopAll) (C7.ok _ _) (fokA _) (m := 300) (n := 400) (L := L0) (fn := Tryz.f68) (by kernel_rfl) (by kernel_rfl) fun H w shs args φ hrep h => ?_
  have hn : Tryz.f68.ntmps = 17 := by kernel_rfl
  unfold F68 at h
  split at h
  · rename_i t
    split at h
    · rename_i op ht
      match args, hrep with
      | [v], ⟨hv, _⟩ =>
        refine ⟨[.i .i64 op], ⟨icode_ok ht hv, trivial⟩, ?_⟩
        rw [hn, a68 prim W7 op]
        have key (n : Bool) (e : valued op = n) : up φ (.b n) := up_mk (s' := .b (valued op)) (by rw [e]; exact .inl rfl) h
        have q2 : Int.ofNat 2 = 2 := rfl
        have q3 : Int.ofNat 3 = 3 := rfl
        have q5 : Int.ofNat 5 = 5 := rfl
        have q7 : Int.ofNat 7 = 7 := rfl
        simp only [prim_eq, q2, q3, q5, q7]
        refine ⟨fun _ => key _ ?_, fun _ => ⟨fun _ => key _ ?_, fun _ => ⟨fun _ => key _ ?_, fun _ => key _ ?_⟩⟩⟩
        all_goals (simp_all [valued] <;> rfl)
    · exact h.elim
  · exact h.elim
theorem O69 : FnOK Tryz.prog (gls7 W7) 69 F69 := by
  refine fnOK_Ru (C := C7 prim W7 specA stopAll) (C7.ok _ _) (fokA _) (m := 300) (n := 400) (L := L0) (fn := Tryz.f69) (by kernel_rfl) (by kernel_rfl) fun H w shs args φ hrep h => ?_
  have hn : Tryz.f69.ntmps = 27 := by kernel_rfl
  unfold F69 at h
  split at h
  · rename_i t u v
    split at h
    · rename_i k x y ht hu hv
      match args, hrep with
      | [v1, v2, v3], ⟨r1, r2, r3, _⟩ =>
        refine ⟨[.i .i64 k, .i .i64 x, .i .i64 y], ⟨icode_ok ht r1, icode_ok hu r2, icode_ok hv r3, trivial⟩, ?_⟩
        rw [hn, a69 prim W7 k x y]
        have key (n : Bool) (e : beyondB k x y = n) : up φ (.b n) := up_mk (s' := .b (beyondB k x y)) (by rw [e]; exact .inl rfl) h
        have q0 : Int.ofNat 0 = 0 := rfl
        have q2 : Int.ofNat 2 = 2 := rfl
        have q3 : Int.ofNat 1000 = 1000 := rfl
        have q4 : Int.ofNat 1000000000 = 1000000000 := rfl
        have q5 : Int.ofNat 1000000000000000 = 1000000000000000 := rfl
        have q6 : Int.negSucc 999999999 = -1000000000 := rfl
        have q7 : Int.negSucc 999999999999999 = -1000000000000000 := rfl
        simp only [prim_eq, prim_lt, q0, q2, q3, q4, q5, q6, q7]
        refine ⟨fun e => ⟨fun _ => key _ ?_, fun _ => ⟨fun _ => key _ ?_, fun _ => ⟨fun _ => key _ ?_, fun _ => key _ ?_⟩⟩⟩, fun e => ⟨fun _ => key _ ?_, fun _ => ⟨fun _ => key _ ?_, fun _ => ⟨fun _ => key _ ?_, fun _ => key _ ?_⟩⟩⟩⟩
        all_goals (simp_all [beyondB] <;> omega)
    · exact h.elim
  · exact h.elim
/-- A number where anything may stand. -/
theorem rep_num {H : Mem} {t : Sh} {v : Value} {c : Int} (h : icode t = some c) (r : Rep H t v) : Rep H (.i .i64 c) v := icode_ok h r
theorem O94 : FnOK Tryz.prog (gls7 W7) 94 F94 := by
  refine fnOK_Ru (C := C7 prim W7 specA stopAll) (C7.ok _ _) (fokA _) (m := 300) (n := 400) (L := L0) (fn := Tryz.f94) (by kernel_rfl) (by kernel_rfl) fun H w shs args φ hrep h => ?_
  have hn : Tryz.f94.ntmps = 12 := by kernel_rfl
  unfold F94 at h
  split at h
  · rename_i x y s2 s3 t u
    split at h
    · rename_i a hh b l p q hs2 hs3 ht hu
      match args, hrep with
      | [v, v1, v2], ⟨hv, r1, r2, _⟩ =>
        refine ⟨[.agg [.i .i64 x, .i .i64 y, .sl 1 a hh, .sl 2 b l], .i .i64 p, .i .i64 q], ⟨rep_agg4 hv (fun u hu => rep_slN hs2 hu) (fun u hu => rep_slN hs3 hu), icode_ok ht r1, icode_ok hu r2, trivial⟩, ?_⟩
        rw [hn, a94 prim W7 x y a b hh l p q]
        exact up_mk (s' := .tup [.agg [.i .i64 x, .i .i64 y, .sl 1 a hh, .sl 2 b l], .i .i64 3, .i .i64 y]) (by simp [Wk, WkL]) h
    · exact h.elim
  · exact h.elim
theorem O95 : FnOK Tryz.prog (gls7 W7) 95 F95 := by
  refine fnOK_Ru (C := C7 prim W7 specA stopAll) (C7.ok _ _) (fokA _) (m := 300) (n := 400) (L := L0) (fn := Tryz.f95) (by kernel_rfl) (by kernel_rfl) fun H w shs args φ hrep h => ?_
  have hn : Tryz.f95.ntmps = 12 := by kernel_rfl
  unfold F95 at h
  split at h
  · rename_i x y s2 s3 t u
    split at h
    · rename_i a hh b l p q hs2 hs3 ht hu
      match args, hrep with
      | [v, v1, v2], ⟨hv, r1, r2, _⟩ =>
        refine ⟨[.agg [.i .i64 x, .i .i64 y, .sl 1 a hh, .sl 2 b l], .i .i64 p, .i .i64 q], ⟨rep_agg4 hv (fun u hu => rep_slN hs2 hu) (fun u hu => rep_slN hs3 hu), icode_ok ht r1, icode_ok hu r2, trivial⟩, ?_⟩
        rw [hn, a95 prim W7 x y a b hh l p q]
        exact up_mk (s' := .tup [.agg [.i .i64 x, .i .i64 q, .sl 1 a hh, .sl 2 b l], .i .i64 1, .i .i64 0]) (by simp [Wk, WkL]) h
    · exact h.elim
  · exact h.elim
theorem O96 : FnOK Tryz.prog (gls7 W7) 96 F96 := by
  refine fnOK_Ru (C := C7 prim W7 specA stopAll) (C7.ok _ _) (fokA _) (m := 300) (n := 400) (L := L0) (fn := Tryz.f96) (by kernel_rfl) (by kernel_rfl) fun H w shs args φ hrep h => ?_
  have hn : Tryz.f96.ntmps = 15 := by kernel_rfl
  unfold F96 at h
  split at h
  · rename_i x y s2 s3 t u
    split at h
    · rename_i a hh b l p q hs2 hs3 ht hu
      match args, hrep with
      | [v, v1, v2], ⟨hv, r1, r2, _⟩ =>
        refine ⟨[.agg [.i .i64 x, .i .i64 y, .sl 1 a hh, .sl 2 b l], .i .i64 p, .i .i64 q], ⟨rep_agg4 hv (fun u hu => rep_slN hs2 hu) (fun u hu => rep_slN hs3 hu), icode_ok ht r1, icode_ok hu r2, trivial⟩, ?_⟩
        rw [hn, a96 prim W7 x y a b hh l p q]
        exact up_mk (s' := .tup [.agg [.i .i64 x, .i .i64 (addW y q), .sl 1 a hh, .sl 2 b l], .i .i64 1, .i .i64 0]) (by simp [Wk, WkL]; rfl) h
    · exact h.elim
  · exact h.elim
theorem O97 : FnOK Tryz.prog (gls7 W7) 97 F97 := by
  refine fnOK_Ru (C := C7 prim W7 specA stopAll) (C7.ok _ _) (fokA _) (m := 300) (n := 400) (L := L0) (fn := Tryz.f97) (by kernel_rfl) (by kernel_rfl) fun H w shs args φ hrep h => ?_
  have hn : Tryz.f97.ntmps = 17 := by kernel_rfl
  unfold F97 at h
  split at h
  · rename_i x y s2 s3 t u
    split at h
    · rename_i a hh b l p q hs2 hs3 ht hu
      obtain ⟨h1, hφ⟩ := h
      match args, hrep with
      | [v, v1, v2], ⟨hv, r1, r2, _⟩ =>
        refine ⟨[.agg [.i .i64 x, .i .i64 y, .sl 1 a hh, .sl 2 b l], .i .i64 p, .i .i64 q], ⟨rep_agg4 hv (fun u hu => rep_slN hs2 hu) (fun u hu => rep_slN hs3 hu), icode_ok ht r1, icode_ok hu r2, trivial⟩, ?_⟩
        have h0 := roomB_mono h1 (Nat.le_succ a)
        rw [hn, a97 prim W7 x y a b hh l p q, addN0, snoc0, addN1]
        have fin : up φ (.tup [.agg [.i .i64 x, .i .i64 y, .os 3 1 (a + 1) (prim.snoc hh a (nthL [[.i .i64 q]])), .sl 2 b l], .i .i64 (Int.ofNat 1), .i .i64 (Int.ofNat 0)]) :=
          up_mk (s' := .tup [.agg [.i .i64 x, .i .i64 y, .sl 1 (a + 1) (snocG a hh [.i .i64 q]), .sl 2 b l], .i .i64 1, .i .i64 0]) ⟨⟨rfl, rfl, .inr ⟨rfl, rfl, snocG_eq⟩, .inr ⟨rfl, rfl, fun _ _ => rfl⟩, trivial⟩, rfl, rfl, trivial⟩ hφ
        refine ⟨fun e => ⟨?_, h0, h1, fin⟩, fun _ => ⟨h0, h1, fin⟩⟩
        have e : a = 0 := by have := of_decide_eq_true (show decide (a ≤ 0) = true from e); omega
        subst e
        exact up_mk (s' := .tup [.agg [.i .i64 x, .i .i64 y, .sl 1 (0 + 1) (snocG 0 hh [.i .i64 q]), .sl 2 b l], .i .i64 1, .i .i64 0]) ⟨⟨rfl, rfl, .inr ⟨rfl, rfl, fun j hj => by
          obtain rfl : j = 0 := by omega
          rfl⟩, .inr ⟨rfl, rfl, fun _ _ => rfl⟩, trivial⟩, rfl, rfl, trivial⟩ hφ
    · exact h.elim
  · exact h.elim
theorem O99 : FnOK Tryz.prog (gls7 W7) 99 F99 := by
  refine fnOK_Ru (C := C7 prim W7 specA stopAll) (C7.ok _ _) (fokA _) (m := 300) (n := 400) (L := L0) (fn := Tryz.f99) (by kernel_rfl) (by kernel_rfl) fun H w shs args φ hrep h => ?_
  have hn : Tryz.f99.ntmps = 25 := by kernel_rfl
  unfold F99 at h
  split at h
  · rename_i x y s2 s3 t u
    split at h
    · rename_i a hh b l p q hs2 hs3 ht hu
      obtain ⟨h1, hφ⟩ := h
      match args, hrep with
      | [v, v1, v2], ⟨hv, r1, r2, _⟩ =>
        refine ⟨[.agg [.i .i64 x, .i .i64 y, .sl 1 a (fnR (rwAt (α := Int) hh)), .sl 2 b l], .i .i64 p, .i .i64 q], ⟨rep_agg4 hv (fun u hu => rep_rows (rep_slN hs2 hu) h1) (fun u hu => rep_slN hs3 hu), icode_ok ht r1, icode_ok hu r2, trivial⟩, ?_⟩
        have hrow := okB_at h1
        generalize rwAt (α := Int) hh = o at *
        have hφ : φ (.tup [.agg [.i .i64 x, .i .i64 y, .sl 1 (predN a) (shiftG hh), .sl 2 b l], .i .i64 (deqR a), .i .i64 (headI a o)]) := hφ
        rw [hn, a99 prim W7 x y a b o l p q]
        refine ⟨fun e => ?_, fun e => ?_⟩
        · have e : a = 0 := by simpa [prim_eq, prim_ofN] using e
          subst e
          exact up_mk (s' := .tup [.agg [.i .i64 x, .i .i64 y, .sl 1 (predN 0) (shiftG hh), .sl 2 b l], .i .i64 (deqR 0), .i .i64 (headI 0 o)]) ⟨⟨rfl, rfl, .inl ⟨rfl, rfl⟩, .inr ⟨rfl, rfl, fun _ _ => rfl⟩, trivial⟩, rfl, rfl, trivial⟩ hφ
        · have e : ¬ a = 0 := by simpa [prim_eq, prim_ofN] using e
          refine ⟨by simp [prim_inB]; omega, by simp [prim_upTo]; omega, ?_⟩
          refine up_mk (s' := .tup [.agg [.i .i64 x, .i .i64 y, .sl 1 (predN a) (shiftG hh), .sl 2 b l], .i .i64 (deqR a), .i .i64 (headI a o)]) ⟨⟨rfl, rfl, .inr ⟨rfl, rfl, fun j hj => ?_⟩, .inr ⟨rfl, rfl, fun _ _ => rfl⟩, trivial⟩, ?_, ?_, trivial⟩ hφ
          · have hj : j < a - 1 := hj
            show fnR o (1 + j) = hh (1 + j)
            rw [hrow (1 + j) (by omega)]; rfl
          · simp [Wk, deqR, e]
          · simp [Wk, headI, e]
    · exact h.elim
  · exact h.elim
end Go.Proofs
namespace Go.Pl
open Go Go.Sx
/-- The next state, the answer, the value: of an operation that may be (but for maps). -/
def opT (s : Sta) (op k v : Int) : Sta × Int × Int :=
  if op = 1 ∨ op = 4 then (s, 3, s.num)
  else if op = 2 then ({ s with num := v }, 1, 0)
  else if op = 3 then ({ s with num := addW s.num v }, 1, 0)
  else if op = 5 then ({ s with q := s.q ++ [v] }, 1, 0)
  else if op = 6 then ({ s with q := s.q.tail }, deqR s.q.length, s.q.headD 0)
  else (s, 0, 0)
/-- Not an operation of a map. -/
def noMap (op : Int) : Bool := !decide (ofOp op = 4)
/-- A state as it begins. -/
def newT (o : Nat → Oj) (j : Nat) : Sta := ⟨(o j).kind, (o j).init, [], []⟩
/-- No store. -/
def noT : Nat → List Sh := fun _ => []
end Go.Pl
namespace Go.Proofs
open Go Go.Sx Go.Pl
theorem ODs : ∀ g F, specD g = some F → FnOK Tryz.prog (gls7 W7) g F := fun g F h => by
  unfold specD at h
  split at h
  · cases h; exact O66
  · cases h; exact O67
  · cases h; exact O68
  · cases h; exact O69
  · cases h; exact O94
  · cases h; exact O95
  · cases h; exact O96
  · cases h; exact O97
  · cases h; exact O99
  · cases h
theorem fokD (stop : Nat → List Nat → Bool) : FnsOK Tryz.prog (C7 prim W7 specD stop) := C7.fok ODs fun g h => by
  unfold specD at h
  split at h
  all_goals first | (cases h; done) | kernel_rfl
def F42 : List Sh → Tree Sh
  | [.agg [.i .i64 x, .i .i64 y, s2, s3], t, u, v] => match slN 1 s2, slN 2 s3, icode t, icode u, icode v with
    | some (a, h), some (b, l), some op, some k, some v => .need (okB Int a h) (.need (okB Pr b l) (.need (roomB (a + 1) 8) (.need (noMap op) (.node (badOp x op) (.leaf (.tup [.agg (staS zeroT), .i .i64 0, .i .i64 0, .er 1 242])) (.node (badKV x y op k v) (.leaf (.tup [.agg (staS zeroT), .i .i64 0, .i .i64 0, .er 3 242]))
        (.leaf (.tup [.agg (staS (opT ⟨x, y, lst Int a h, lst Pr b l⟩ op k v).1), .i .i64 (opT ⟨x, y, lst Int a h, lst Pr b l⟩ op k v).2.1, .i .i64 (opT ⟨x, y, lst Int a h, lst Pr b l⟩ op k v).2.2, .v .nilIface])))))))
    | _, _, _, _, _ => .fail
  | _ => .fail
theorem nth_put {α : Type} [Row α] (l : List α) (a : α) : ∀ i, i < l.length + 1 → snocG l.length (fnR (nth l)) (Row.put a) i = fnR (nth (l ++ [a])) i := fun i hi => by
  unfold snocG
  split
  · rename_i h1
    simp only [fnR, nth]
    rw [List.getD_eq_getElem?_getD, List.getD_eq_getElem?_getD, List.getElem?_append_left h1]
  · have : i = l.length := by omega
    subst this
    simp [fnR, nth]
theorem rwAt_fnR {α : Type} [Row α] (o : Nat → α) : rwAt (fnR o) = o := funext fun i => rowAt_put o i
section
variable {H0 : Mem} {w0 : World} {φ : Sh → Prop}
theorem go42 {x y op k v : Int} {q : List Int} {ps : List Pr} (hr : roomB (q.length + 1) 8 = true) (hop : op = 1 ∨ op = 2 ∨ op = 3 ∨ op = 4 ∨ op = 5 ∨ op = 6)
    (hφ : φ (.tup [.agg (staS (opT ⟨x, y, q, ps⟩ op k v).1), .i .i64 (opT ⟨x, y, q, ps⟩ op k v).2.1, .i .i64 (opT ⟨x, y, q, ps⟩ op k v).2.2, .v .nilIface])) :
    GoesS Tryz.prog (C7 prim W7 specD stopAll) (K0 H0 w0) 42 td42 (L42 x y q.length ps.length (fnR (nth q)) (fnR (nth ps)) op k v) [] emp (up φ) := by
  have lit (n : Int) (h : GoesS Tryz.prog (C7 prim W7 specD stopAll) (K0 H0 w0) 42 td42 (L42n x y q.length ps.length (fnR (nth q)) (fnR (nth ps)) n k v) [] emp (up φ)) : GoesS Tryz.prog (C7 prim W7 specD stopAll) (K0 H0 w0) 42 td42 (L42 x y q.length ps.length (fnR (nth q)) (fnR (nth ps)) n k v) [] emp (up φ) :=
    goesS_tm _ (fun H E vs hd => den_num 1 rfl hd) h
  have fin (s' : Sta) (r g : Int) (e : opT ⟨x, y, q, ps⟩ op k v = (s', r, g)) (c : List Sh) (hc : WkL c (staS s')) : up φ (.tup [.agg c, .i .i64 r, .i .i64 g, .v .nilIface]) :=
    up_mk (s' := .tup [.agg (staS (opT ⟨x, y, q, ps⟩ op k v).1), .i .i64 (opT ⟨x, y, q, ps⟩ op k v).2.1, .i .i64 (opT ⟨x, y, q, ps⟩ op k v).2.2, .v .nilIface]) (by rw [e]; exact ⟨hc, rfl, rfl, rfl, trivial⟩) hφ
  rcases hop with rfl | rfl | rfl | rfl | rfl | rfl
  · refine lit 1 (goesS_runTo (C7.ok _ _) (fokD _) (hold := noHold0) (m := 300) (n := 400) (ts := []) ?_)
    rw [b42_1 prim W7 x y q.length ps.length (fnR (nth q)) (fnR (nth ps)) k v]
    have := fin _ _ _ rfl [.i .i64 x, .i .i64 y, .sl 1 q.length (fnR (nth q)), .sl 2 ps.length (fnR (nth ps))] (by simp [opT, staS, Wk, WkL, len])
    repeat' (first | exact trivial | exact rfl | exact this | refine And.intro ?_ ?_)
  · refine lit 2 (goesS_runTo (C7.ok _ _) (fokD _) (hold := noHold0) (m := 300) (n := 400) (ts := []) ?_)
    rw [b42_2 prim W7 x y q.length ps.length (fnR (nth q)) (fnR (nth ps)) k v]
    have := fin _ _ _ rfl [.i .i64 x, .i .i64 v, .sl 1 q.length (fnR (nth q)), .sl 2 ps.length (fnR (nth ps))] (by simp [opT, staS, Wk, WkL, len])
    repeat' (first | exact trivial | exact rfl | exact this | refine And.intro ?_ ?_)
  · refine lit 3 (goesS_runTo (C7.ok _ _) (fokD _) (hold := noHold0) (m := 300) (n := 400) (ts := []) ?_)
    rw [b42_3 prim W7 x y q.length ps.length (fnR (nth q)) (fnR (nth ps)) k v]
    have := fin _ _ _ rfl [.i .i64 x, .i .i64 (addW y v), .sl 1 q.length (fnR (nth q)), .sl 2 ps.length (fnR (nth ps))] (by simp [opT, staS, Wk, WkL, len])
    repeat' (first | exact trivial | exact rfl | exact this | refine And.intro ?_ ?_)
  · refine lit 4 (goesS_runTo (C7.ok _ _) (fokD _) (hold := noHold0) (m := 300) (n := 400) (ts := []) ?_)
    rw [b42_4 prim W7 x y q.length ps.length (fnR (nth q)) (fnR (nth ps)) k v]
    have := fin _ _ _ rfl [.i .i64 x, .i .i64 y, .sl 1 q.length (fnR (nth q)), .sl 2 ps.length (fnR (nth ps))] (by simp [opT, staS, Wk, WkL, len])
    repeat' (first | exact trivial | exact rfl | exact this | refine And.intro ?_ ?_)
  · refine lit 5 (goesS_runTo (C7.ok _ _) (fokD _) (hold := noHold0) (m := 300) (n := 400) (ts := []) ?_)
    rw [b42_5 prim W7 x y q.length ps.length (fnR (nth q)) (fnR (nth ps)) k v]
    have := fin _ _ _ rfl [.i .i64 x, .i .i64 y, .sl 1 (q.length + 1) (snocG q.length (fnR (nth q)) [.i .i64 v]), .sl 2 ps.length (fnR (nth ps))] ⟨rfl, rfl, .inr ⟨rfl, by simp [opT, len], nth_put q v⟩, .inr ⟨rfl, rfl, fun _ _ => rfl⟩, trivial⟩
    repeat' (first | exact trivial | exact hr | exact rfl | exact this | refine And.intro ?_ ?_)
  · refine lit 6 (goesS_runTo (C7.ok _ _) (fokD _) (hold := noHold0) (m := 300) (n := 400) (ts := []) ?_)
    rw [b42_6 prim W7 x y q.length ps.length (fnR (nth q)) (fnR (nth ps)) k v, rwAt_fnR]
    have hh : headI q.length (nth q) = q.headD 0 := by cases q <;> rfl
    rw [hh]
    have := fin _ _ _ rfl [.i .i64 x, .i .i64 y, .sl 1 (predN q.length) (shiftG (fnR (nth q))), .sl 2 ps.length (fnR (nth ps))] ⟨rfl, rfl, .inr ⟨rfl, by simp [opT, len, predN], fun j hj => by
      show fnR (nth q) (1 + j) = fnR (nth q.tail) j
      simp only [fnR, nth]
      cases q with
      | nil => rfl
      | cons z r => simp [Nat.add_comm 1 j]⟩, .inr ⟨rfl, rfl, fun _ _ => rfl⟩, trivial⟩
    repeat' (first | exact trivial | exact okB_put _ _ | exact rfl | exact this | refine And.intro ?_ ?_)
end
theorem ofOp_cases {op : Int} (h : noMap op = true) (h0 : ofOp op ≠ 0) : op = 1 ∨ op = 2 ∨ op = 3 ∨ op = 4 ∨ op = 5 ∨ op = 6 := by
  unfold noMap ofOp at h
  unfold ofOp at h0
  simp at h
  repeat' split at h0
  all_goals first | omega | simp_all
theorem O42 : FnOK Tryz.prog (gls7 W7) 42 F42 := by
  refine fnOK_Su (C := C7 prim W7 specD stopAll) (C7.ok _ _) (fn := Tryz.f42) (by kernel_rfl) (by kernel_rfl) fun H w shs args φ hrep h => ?_
  have hn : Tryz.f42.ntmps = 88 := by kernel_rfl
  unfold F42 at h
  split at h
  · rename_i x y s2 s3 t u v
    split at h
    · rename_i a hh b l op k vv hs2 hs3 ht hu hv
      obtain ⟨h1, h2, h3, h4, he, hb⟩ := h
      match args, hrep with
      | [v0, v1, v2, v3], ⟨r0, r1, r2, r3, _⟩ =>
        refine ⟨[.agg [.i .i64 x, .i .i64 y, .sl 1 (lst Int a hh).length (fnR (nth (lst Int a hh))), .sl 2 (lst Pr b l).length (fnR (nth (lst Pr b l)))], .i .i64 op, .i .i64 k, .i .i64 vv], ⟨rep_agg4 r0 (fun u hu => rep_rows_lst (rep_slN hs2 hu) h1) (fun u hu => rep_rows_lst (rep_slN hs3 hu) h2), icode_ok ht r1, icode_ok hu r2, icode_ok hv r3, trivial⟩, L0, ?_⟩
        have h3 : roomB ((lst Int a hh).length + 1) 8 = true := by rw [lst_length]; exact h3
        have hb : badOp x op = false → (badKV x y op k vv = true → φ (.tup [.agg (staS zeroT), .i .i64 0, .i .i64 0, .er 3 242])) ∧ (badKV x y op k vv = false → φ (.tup [.agg (staS (opT ⟨x, y, lst Int a hh, lst Pr b l⟩ op k vv).1), .i .i64 (opT ⟨x, y, lst Int a hh, lst Pr b l⟩ op k vv).2.1, .i .i64 (opT ⟨x, y, lst Int a hh, lst Pr b l⟩ op k vv).2.2, .v .nilIface])) := hb
        generalize lst Int a hh = q at *
        generalize lst Pr b l = ps at *
        have e1 (e : badOp x op = true) : up φ (.tup [.agg [.i .i64 (Int.ofNat 0), .i .i64 (Int.ofNat 0), .sl 0 0 fun _ => [], .sl 0 0 fun _ => []], .i .i64 (Int.ofNat 0), .i .i64 (Int.ofNat 0), .er 1 242]) :=
          up_mk (s' := .tup [.agg (staS zeroT), .i .i64 0, .i .i64 0, .er 1 242]) ⟨⟨rfl, rfl, .inl ⟨rfl, rfl⟩, .inl ⟨rfl, rfl⟩, trivial⟩, rfl, rfl, rfl, trivial⟩ (he e)
        have e3 (e : badOp x op = false) (e2 : badKV x y op k vv = true) : up φ (.tup [.agg [.i .i64 (Int.ofNat 0), .i .i64 (Int.ofNat 0), .sl 0 0 fun _ => [], .sl 0 0 fun _ => []], .i .i64 (Int.ofNat 0), .i .i64 (Int.ofNat 0), .er 3 242]) :=
          up_mk (s' := .tup [.agg (staS zeroT), .i .i64 0, .i .i64 0, .er 3 242]) ⟨⟨rfl, rfl, .inl ⟨rfl, rfl⟩, .inl ⟨rfl, rfl⟩, trivial⟩, rfl, rfl, rfl, trivial⟩ ((hb e).1 e2)
        have go (e : badOp x op = false) (e2 : badKV x y op k vv = false) : ∃ t : Tgt, ([⟨42, td42, L42 x y q.length ps.length (fnR (nth q)) (fnR (nth ps)) op k vv, []⟩] : List Tgt)[0]? = some t ∧ GoesS Tryz.prog (C7 prim W7 specD stopAll) (K0 H w) t.g t.td t.c t.stk emp (up φ) :=
          ⟨_, rfl, go42 h3 (ofOp_cases h4 (by
            simp [badOp] at e
            rw [e.2]; exact e.1)) ((hb e).2 e2)⟩
        refine goesS_runV (C7.ok _ _) (fokD _) (pause := pause42) (m := 300) (n := 400) (ts := [⟨42, td42, L42 x y q.length ps.length (fnR (nth q)) (fnR (nth ps)) op k vv, []⟩]) ?_
        rw [hn, a42 prim W7 x y q.length ps.length (fnR (nth q)) (fnR (nth ps)) op k vv]
        have q0 : Int.ofNat 0 = 0 := rfl
        have q3 : Int.ofNat 3 = 3 := rfl
        have qk : Int.ofNat 1000 = 1000 := rfl
        have q4 : Int.ofNat 1000000000 = 1000000000 := rfl
        have q6 : Int.negSucc 999999999 = -1000000000 := rfl
        have qa : prim.add .i64 y vv = addW y vv := rfl
        rw [q0] at e1 e3
        simp only [prim_eq, prim_nt, prim_lt, q0, q3, qk, q4, q6, qa]
        clear he hb h3 hn
        repeat' (first | exact trivial | exact rfl | (intro _) | refine And.intro ?_ ?_)
        all_goals first
          | exact e1 (by simp_all [badOp])
          | exact e3 (by simp_all [badOp]) (by simp_all [badKV])
          | exact go (by simp_all [badOp]) (by simp_all [badKV])
    · exact h.elim
  · exact h.elim
end Go.Proofs
namespace Go.Proofs
open Go Go.Sx Go.Pl
theorem OCs : ∀ g F, specC g = some F → FnOK Tryz.prog (gls7 W7) g F := fun g F h => by
  unfold specC at h
  split at h
  · cases h; exact O33
  · cases h; exact O35
  · cases h; exact O41
  · cases h; exact O49
  · cases h; exact O50
  · cases h; exact O54
  · cases h; exact O56
  · cases h
theorem fokC (stop : Nat → List Nat → Bool) : FnsOK Tryz.prog (C7 prim W7 specC stop) := C7.fok OCs fun g h => by
  unfold specC at h
  split at h
  all_goals first | (cases h; done) | kernel_rfl
def F25 : List Sh → Tree Sh
  | [s0] => match slN 2 s0 with
    | some (n, g) => .need (okB Oj n g) (.need (kindsB n (rwAt g)) (.node (bigO n) (.leaf (.tup [.agg [.sl 4 0 noT], .er 5 242])) (.node (allOb n (rwAt g)) (.leaf (.tup [.agg [.sl 4 n (fnT (newT (rwAt g)))], .v .nilIface])) (.leaf (.tup [.agg [.sl 4 0 noT], .ifc 167 (.pt [.i .i64 (firstOb n (rwAt g)), .er 0 242])])))))
    | none => .fail
  | _ => .fail
theorem snocG_lt {n j : Nat} {g : Nat → List Sh} {r : List Sh} (h : j < n) : snocG n g r j = g j := if_pos h
theorem snocG_at {n : Nat} {g : Nat → List Sh} {r : List Sh} : snocG n g r n = r := if_neg (by omega)
section
variable {H0 : Mem} {w0 : World} {φ : Sh → Prop}
theorem loop25 {n : Nat} {o : Nat → Oj} (hn : n ≤ 8) (hk : ∀ j, j < n → in64 (o j).kind = true) (hT : ∀ j, j < n → badOb (o j).kind (o j).init = false) (hφ : φ (.tup [.agg [.sl 4 n (fnT (newT o))], .v .nilIface])) :
    ∀ r k (gg : Nat → List Sh), k + r = n → (∀ j, j < k → gg j = staS (newT o j)) → GoesS Tryz.prog (C7 prim W7 specC stopAll) (K0 H0 w0) 25 td25 (LO25 n o (k : Int) k gg false) [] emp (up φ)
  | r, k, gg, hkr, hg => by
    refine goesS_into (fn := Tryz.f25) (tb := tb25) (by kernel_rfl) (by kernel_rfl) ?_
    refine goesS_runTo (C7.ok _ _) (fokC _) (hold := noHold0) (m := 300) (n := 400) (ts := [⟨25, td25, LO25 n o (k + 1 : Nat) (k + 1) (snocG k gg (staS (newT o k))) false, []⟩]) ?_
    rw [b25 prim W7 n o k (k + 1 : Nat) k (k + 1) gg (snocG k gg (staS (newT o k)))]
    simp only [prim_lt, prim_inB, prim_toN, prim_add, one_eq, Int.toNat_natCast]
    refine ⟨fun h => ?_, fun h => ?_⟩
    · have hlt : k < n := by simp at h; omega
      refine ⟨by simp; omega, hk k hlt, fun hb => (by rw [hT k hlt] at hb; cases hb), fun _ => ⟨room_le (by omega) (by omega), ⟨rfl, rfl, ?_, rfl, trivial⟩, _, rfl, ?_⟩⟩
      · simp only [Eqn.ok]; rw [wrap_id (by omega) (by omega)]; rfl
      · match r, hkr with
        | 0, hkr => omega
        | r + 1, hkr =>
          refine loop25 hn hk hT hφ r (k + 1) _ (by omega) fun j hj => ?_
          by_cases e : j = k
          · subst e; exact snocG_at
          · rw [snocG_lt (by omega)]; exact hg j (by omega)
    · have : k = n := by simp at h; omega
      subst this
      exact up_mk (s' := .tup [.agg [.sl 4 k (fnT (newT o))], .v .nilIface]) ⟨⟨.inr ⟨rfl, rfl, hg⟩, trivial⟩, rfl, trivial⟩ hφ
end
theorem O25 : FnOK Tryz.prog (gls7 W7) 25 F25 := by
  refine fnOK_Su (C := C7 prim W7 specC stopAll) (C7.ok _ _) (fn := Tryz.f25) (by kernel_rfl) (by kernel_rfl) fun H w shs args φ hrep h => ?_
  have hn : Tryz.f25.ntmps = 38 := by kernel_rfl
  unfold F25 at h
  split at h
  · rename_i s0
    split at h
    · rename_i n g hs0
      obtain ⟨h1, h2, hbig, hsm⟩ := h
      have hsm : bigO n = false → (allOb n (rwAt g) = true → φ (.tup [.agg [.sl 4 n (fnT (newT (rwAt g)))], .v .nilIface])) ∧ (allOb n (rwAt g) = false → φ (.tup [.agg [.sl 4 0 noT], .ifc 167 (.pt [.i .i64 (firstOb n (rwAt g)), .er 0 242])])) := hsm
      match args, hrep with
      | [v], ⟨hv, _⟩ =>
        refine ⟨[.sl 2 n (fnR (rwAt (α := Oj) g))], ⟨rep_rows (rep_slN hs0 hv) h1, trivial⟩, L0, ?_⟩
        generalize rwAt (α := Oj) g = o at *
        refine goesS_runTo (C7.ok _ _) (fokC _) (hold := noHold0) (m := 300) (n := 400) (ts := [⟨25, td25, LO25 n o (0 : Nat) 0 noT true, []⟩]) ?_
        rw [hn, a25 prim W7 n o (0 : Nat) 0 noT, rwAt_fnR]
        refine ⟨okB_put _ _, h2, fun e => up_mk (s' := .tup [.agg [.sl 4 0 noT], .er 5 242]) ⟨⟨.inl ⟨rfl, rfl⟩, trivial⟩, rfl, trivial⟩ (hbig e), fun e => ?_⟩
        obtain ⟨q1, q2⟩ := hsm e
        have hn8 : n ≤ 8 := by simp [bigO] at e; omega
        refine ⟨fun e => ⟨⟨rfl, rfl, rfl, trivial⟩, _, rfl, ?_⟩, fun e => up_mk (s' := .tup [.agg [.sl 4 0 noT], .ifc 167 (.pt [.i .i64 (firstOb n o), .er 0 242])]) ⟨⟨.inl ⟨rfl, rfl⟩, trivial⟩, rfl, trivial⟩ (q2 e)⟩
        have hT : ∀ j, j < n → badOb (o j).kind (o j).init = false := fun j hj => by simpa using all_range e j hj
        refine goesS_into (fn := Tryz.f25) (tb := tb25) (by kernel_rfl) (by kernel_rfl) ?_
        refine goesS_runTo (C7.ok _ _) (fokC _) (hold := noHold0) (m := 300) (n := 400) (ts := [⟨25, td25, LO25 n o (1 : Nat) 1 (snocG 0 (fun _ => []) (staS (newT o 0))) false, []⟩]) ?_
        rw [c25 prim W7 n o (0 : Nat) (1 : Nat) 0 1 noT (snocG 0 (fun _ => []) (staS (newT o 0)))]
        simp only [prim_lt, prim_inB, prim_toN, prim_add, one_eq, Int.toNat_natCast]
        refine ⟨fun h => ?_, fun h => ?_⟩
        · have hlt : 0 < n := by simp at h; omega
          refine ⟨by simp; omega, all_range h2 0 hlt, fun hb => (by rw [hT 0 hlt] at hb; cases hb), fun _ => ⟨room_le (by omega) (by omega), ⟨rfl, rfl, ?_, rfl, trivial⟩, _, rfl, ?_⟩⟩
          · simp only [Eqn.ok]; rw [wrap_id (by omega) (by omega)]; rfl
          · refine loop25 hn8 (all_range h2) hT (q1 e) (n - 1) 1 _ (by omega) fun j hj => ?_
            obtain rfl : j = 0 := by omega
            exact snocG_at
        · have : n = 0 := by simp at h; omega
          subst this
          exact up_mk (s' := .tup [.agg [.sl 4 0 (fnT (newT o))], .v .nilIface]) ⟨⟨.inl ⟨rfl, rfl⟩, trivial⟩, rfl, trivial⟩ (q1 e)
    · exact h.elim
  · exact h.elim
end Go.Proofs
namespace Go.Pl
open Go Go.Sx
/-- What a state's key and strings joined are, as things of which nothing is known. -/
structure Lk7 where
  key : Sta → List UInt8
  join : Nat → (Nat → List Sh) → List UInt8 → List UInt8
def sQ (x y : Int) (a : Nat) (h : Nat → List Sh) (b : Nat) (l : Nat → List Sh) : Sta := ⟨x, y, lst Int a h, lst Pr b l⟩
/-- May the key of that state be told? -/
def keyB (x y : Int) (a : Nat) (h : Nat → List Sh) (b : Nat) (l : Nat → List Sh) : Bool :=
  okB Int a h && okB Pr b l && in64 x && in64 y && numsB a (rwAt h) && prsB b (rwAt l) && decide (a ≤ 100000 ∧ b ≤ 100000)
def joinB (n : Nat) (g : Nat → List Sh) (sep : List UInt8) : Bool := okB (List UInt8) n g && roomB n 16 && shortB (joinS (lst (List UInt8) n g) sep)
end Go.Pl
namespace Go.Proofs
open Go Go.Sx Go.Pl
def G35 (L : Lk7) : List Sh → Tree Sh
  | [.agg [.i .i64 x, .i .i64 y, s2, s3]] => match slN 1 s2, slN 2 s3 with
    | some (a, h), some (b, l) => .need (keyB x y a h b l) (.leaf (.str (L.key (sQ x y a h b l))))
    | _, _ => .fail
  | _ => .fail
def G56 (L : Lk7) : List Sh → Tree Sh
  | [s0, .str sep] => match slN 1 s0 with
    | some (n, g) => .need (joinB n g sep) (.leaf (.str (L.join n g sep)))
    | none => .fail
  | _ => .fail
def F64 : List Sh → Tree Sh
  | [.agg [s0]] => match slN 4 s0 with
    | some (n, g) => .need (roomB n 64) (.leaf (.sl 4 n g))
    | none => .fail
  | _ => .fail
def specK (L : Lk7) : Nat → Option (List Sh → Tree Sh)
  | 35 => some (G35 L)
  | 56 => some (G56 L)
  | 64 => some F64
  | _ => none
def pR32 : List Nat := [0, 1, 0, 1, 1]
def k32 : List It := [It.inBlock 0, It.code [1, 1, 1]]
def cl32 (j : Nat) (gg : Nat → List Sh) : Bool → SV × List (Nat × SB)
  | true => (.nils, [])
  | false => (.gs 2, [(2, .own 9 1 j gg)])
def hp32 (n : Nat) (d : Nat → Sta) (j : Nat) (gg : Nat → List Sh) (v : Bool) : List (Nat × SB) := [(0, .box [(cl32 j gg v).1] 34), (1, .box [.sh (.sl 4 n (fnT d))] 47)] ++ (cl32 j gg v).2
def tm32 : List SV := tmOf 17 [(3, .ptr 0 0), (7, .fn 63 [.ptr 1 0])]
/-- Ahead of the range. -/
def L32 (n : Nat) (d : Nat → Sta) : Core := { tm := tm32, hp := hp32 n d 0 (fun _ => []) true, nx := 2, lim := L0, tc := [] }
def s32 (l : Nat) : List Fw := [⟨32, none, k32, tm32, some (l, pR32, .ready)⟩]
def td63 : List It := [It.code [0, 1], It.inBlock 0]
def tb63 : List It := It.code [0, 0, 1] :: td63
def nx32 : Bool → Nat
  | true => 2
  | false => 3
/-- In the states' loop: the k-th comes next; the keys of those ahead are told. -/
def L63 (n : Nat) (d : Nat → Sta) (l : Nat) (k : Int) (j : Nat) (gg : Nat → List Sh) (v : Bool) : Core :=
  { tm := tmOf 20 [(0, .val (yv l)), (7, .sh (.sl 4 n (fnT d))), (8, .sym .i64 (n : Int)), (9, .sym .i64 k)], hp := hp32 n d j gg v, nx := nx32 v, lim := L0, tc := [] }

theorem a32 (A : Prim) (W : Wd) (L : Lk7) (n : Nat) (d : Nat → Sta) : runX (C7 A W (specK L) stopAll) noPause 300 800 32 none [.code []] (start0 17 [.agg [.sl 4 n (fnT d)]] L0) [] [⟨32, none, .code pR32 :: k32, L32 n d, []⟩] = Tree.leaf (Fe2.at_ 0 [Eqn.sh (Sh.sl 4 n (fnT d)) (Sh.sl 4 n (fnT d))]) := by kernel_rfl
theorem t32 (A : Prim) (W : Wd) (L : Lk7) (n : Nat) (d : Nat → Sta) (l : Nat) (k : Int) (j : Nat) (gg : Nat → List Sh) : runX (C7 A W (specK L) stopAll) noPause 300 800 63 none [.code []] { L32 n d with tm := (.val (yv l) :: [.ptr 1 0]) ++ List.replicate (20 - (1 + 1)) .any } (s32 l) [⟨63, none, td63, L63 n d l k j gg true, s32 l⟩] = Tree.need (roomB n 64) (Tree.leaf (Fe2.at_ 0 [Eqn.val (Value.func (Fn.yield l) { toList := [] } { toList := [] }) (Value.func (Fn.yield l) { toList := [] } { toList := [] }), Eqn.sh (Sh.sl 4 n (fnT d)) (Sh.sl 4 n (fnT d)), Eqn.int (A.ofN n) (Int.ofNat n), Eqn.int (Int.ofNat 0) k, Eqn.sh (Sh.sl 4 n (fnT d)) (Sh.sl 4 n (fnT d)), Eqn.nat l l])) := by kernel_rfl
theorem b32t (A : Prim) (W : Wd) (L : Lk7) (n : Nat) (d : Nat → Sta) (l : Nat) (k k' : Int) (j j' : Nat) (gg gg' : Nat → List Sh) : runX (C7 A W (specK L) stopAll) noPause 300 800 63 none tb63 (L63 n d l k j gg true) (s32 l) [⟨63, none, td63, L63 n d l k' j' gg' false, s32 l⟩] = Tree.node (A.lt k (Int.ofNat n)) (Tree.need (A.inB k n) (Tree.must [Eqn.nat l l] (Tree.must [Eqn.nat l l] (Tree.need (keyB (d (A.toN k)).kind (d (A.toN k)).num (len (d (A.toN k)).q) (fnR (nth (d (A.toN k)).q)) (len (d (A.toN k)).ps) (fnR (nth (d (A.toN k)).ps))) (Tree.need (keyB (d (A.toN k)).kind (d (A.toN k)).num (len (d (A.toN k)).q) (fnR (nth (d (A.toN k)).q)) (len (d (A.toN k)).ps) (fnR (nth (d (A.toN k)).ps))) (Tree.must [Eqn.int k k, Eqn.int (d (A.toN k)).kind (d (A.toN k)).kind, Eqn.int (d (A.toN k)).num (d (A.toN k)).num, Eqn.sh (Sh.sl 1 (len (d (A.toN k)).q) (fnR (nth (d (A.toN k)).q))) (Sh.sl 1 (len (d (A.toN k)).q) (fnR (nth (d (A.toN k)).q))), Eqn.sh (Sh.sl 2 (len (d (A.toN k)).ps) (fnR (nth (d (A.toN k)).ps))) (Sh.sl 2 (len (d (A.toN k)).ps) (fnR (nth (d (A.toN k)).ps))), Eqn.sh (Sh.sl 4 n (fnT d)) (Sh.sl 4 n (fnT d)), Eqn.int (d (A.toN k)).kind (d (A.toN k)).kind, Eqn.int (d (A.toN k)).num (d (A.toN k)).num, Eqn.sh (Sh.sl 1 (len (d (A.toN k)).q) (fnR (nth (d (A.toN k)).q))) (Sh.sl 1 (len (d (A.toN k)).q) (fnR (nth (d (A.toN k)).q))), Eqn.sh (Sh.sl 2 (len (d (A.toN k)).ps) (fnR (nth (d (A.toN k)).ps))) (Sh.sl 2 (len (d (A.toN k)).ps) (fnR (nth (d (A.toN k)).ps))), Eqn.int (d (A.toN k)).kind (d (A.toN k)).kind, Eqn.int (d (A.toN k)).num (d (A.toN k)).num, Eqn.sh (Sh.sl 1 (len (d (A.toN k)).q) (fnR (nth (d (A.toN k)).q))) (Sh.sl 1 (len (d (A.toN k)).q) (fnR (nth (d (A.toN k)).q))), Eqn.sh (Sh.sl 2 (len (d (A.toN k)).ps) (fnR (nth (d (A.toN k)).ps))) (Sh.sl 2 (len (d (A.toN k)).ps) (fnR (nth (d (A.toN k)).ps))), Eqn.sh (Sh.str (L.key (sQ (d (A.toN k)).kind (d (A.toN k)).num (len (d (A.toN k)).q) (fnR (nth (d (A.toN k)).q)) (len (d (A.toN k)).ps) (fnR (nth (d (A.toN k)).ps))))) (Sh.str (L.key (sQ (d (A.toN k)).kind (d (A.toN k)).num (len (d (A.toN k)).q) (fnR (nth (d (A.toN k)).q)) (len (d (A.toN k)).ps) (fnR (nth (d (A.toN k)).ps))))), Eqn.sh (Sh.str (L.key (sQ (d (A.toN k)).kind (d (A.toN k)).num (len (d (A.toN k)).q) (fnR (nth (d (A.toN k)).q)) (len (d (A.toN k)).ps) (fnR (nth (d (A.toN k)).ps))))) (Sh.str (L.key (sQ (d (A.toN k)).kind (d (A.toN k)).num (len (d (A.toN k)).q) (fnR (nth (d (A.toN k)).q)) (len (d (A.toN k)).ps) (fnR (nth (d (A.toN k)).ps)))))] (Tree.must [Eqn.int k k, Eqn.int (d (A.toN k)).kind (d (A.toN k)).kind, Eqn.int (d (A.toN k)).num (d (A.toN k)).num, Eqn.sh (Sh.sl 1 (len (d (A.toN k)).q) (fnR (nth (d (A.toN k)).q))) (Sh.sl 1 (len (d (A.toN k)).q) (fnR (nth (d (A.toN k)).q))), Eqn.sh (Sh.sl 2 (len (d (A.toN k)).ps) (fnR (nth (d (A.toN k)).ps))) (Sh.sl 2 (len (d (A.toN k)).ps) (fnR (nth (d (A.toN k)).ps))), Eqn.sh (Sh.sl 4 n (fnT d)) (Sh.sl 4 n (fnT d)), Eqn.int (d (A.toN k)).kind (d (A.toN k)).kind, Eqn.int (d (A.toN k)).num (d (A.toN k)).num, Eqn.sh (Sh.sl 1 (len (d (A.toN k)).q) (fnR (nth (d (A.toN k)).q))) (Sh.sl 1 (len (d (A.toN k)).q) (fnR (nth (d (A.toN k)).q))), Eqn.sh (Sh.sl 2 (len (d (A.toN k)).ps) (fnR (nth (d (A.toN k)).ps))) (Sh.sl 2 (len (d (A.toN k)).ps) (fnR (nth (d (A.toN k)).ps))), Eqn.int (d (A.toN k)).kind (d (A.toN k)).kind, Eqn.int (d (A.toN k)).num (d (A.toN k)).num, Eqn.sh (Sh.sl 1 (len (d (A.toN k)).q) (fnR (nth (d (A.toN k)).q))) (Sh.sl 1 (len (d (A.toN k)).q) (fnR (nth (d (A.toN k)).q))), Eqn.sh (Sh.sl 2 (len (d (A.toN k)).ps) (fnR (nth (d (A.toN k)).ps))) (Sh.sl 2 (len (d (A.toN k)).ps) (fnR (nth (d (A.toN k)).ps))), Eqn.sh (Sh.str (L.key (sQ (d (A.toN k)).kind (d (A.toN k)).num (len (d (A.toN k)).q) (fnR (nth (d (A.toN k)).q)) (len (d (A.toN k)).ps) (fnR (nth (d (A.toN k)).ps))))) (Sh.str (L.key (sQ (d (A.toN k)).kind (d (A.toN k)).num (len (d (A.toN k)).q) (fnR (nth (d (A.toN k)).q)) (len (d (A.toN k)).ps) (fnR (nth (d (A.toN k)).ps))))), Eqn.sh (Sh.str (L.key (sQ (d (A.toN k)).kind (d (A.toN k)).num (len (d (A.toN k)).q) (fnR (nth (d (A.toN k)).q)) (len (d (A.toN k)).ps) (fnR (nth (d (A.toN k)).ps))))) (Sh.str (L.key (sQ (d (A.toN k)).kind (d (A.toN k)).num (len (d (A.toN k)).q) (fnR (nth (d (A.toN k)).q)) (len (d (A.toN k)).ps) (fnR (nth (d (A.toN k)).ps)))))] (Tree.must [Eqn.nat l l] (Tree.leaf (Fe2.at_ 0 [Eqn.val (Value.func (Fn.yield l) { toList := [] } { toList := [] }) (Value.func (Fn.yield l) { toList := [] } { toList := [] }), Eqn.sh (Sh.sl 4 n (fnT d)) (Sh.sl 4 n (fnT d)), Eqn.int (Int.ofNat n) (Int.ofNat n), Eqn.int (A.add IntKind.i64 k (Int.ofNat 1)) k', Eqn.sh (Sh.sl 4 n (fnT d)) (Sh.sl 4 n (fnT d)), Eqn.nat 1 j', Eqn.get 1 (nthL [[Sh.str (L.key (sQ (d (A.toN k)).kind (d (A.toN k)).num (len (d (A.toN k)).q) (fnR (nth (d (A.toN k)).q)) (len (d (A.toN k)).ps) (fnR (nth (d (A.toN k)).ps))))]]) gg', Eqn.nat l l])))))))))) (Tree.need (joinB 0 (fun (x : Nat) => []) [59, 32]) (Tree.leaf (Fe2.ret (Sh.str (L.join 0 (fun (x : Nat) => []) [59, 32]))))) := by kernel_rfl
theorem b32f (A : Prim) (W : Wd) (L : Lk7) (n : Nat) (d : Nat → Sta) (l : Nat) (k k' : Int) (j j' : Nat) (gg gg' : Nat → List Sh) : runX (C7 A W (specK L) stopAll) noPause 300 800 63 none tb63 (L63 n d l k j gg false) (s32 l) [⟨63, none, td63, L63 n d l k' j' gg' false, s32 l⟩] = Tree.node (A.lt k (Int.ofNat n)) (Tree.need (A.inB k n) (Tree.must [Eqn.nat l l] (Tree.must [Eqn.nat l l] (Tree.need (keyB (d (A.toN k)).kind (d (A.toN k)).num (len (d (A.toN k)).q) (fnR (nth (d (A.toN k)).q)) (len (d (A.toN k)).ps) (fnR (nth (d (A.toN k)).ps))) (Tree.need (A.room (A.addN j 1) 16) (Tree.need (keyB (d (A.toN k)).kind (d (A.toN k)).num (len (d (A.toN k)).q) (fnR (nth (d (A.toN k)).q)) (len (d (A.toN k)).ps) (fnR (nth (d (A.toN k)).ps))) (Tree.need (A.room (A.addN j 1) 16) (Tree.need (A.room (A.addN j 1) 16) (Tree.must [Eqn.int k k, Eqn.int (d (A.toN k)).kind (d (A.toN k)).kind, Eqn.int (d (A.toN k)).num (d (A.toN k)).num, Eqn.sh (Sh.sl 1 (len (d (A.toN k)).q) (fnR (nth (d (A.toN k)).q))) (Sh.sl 1 (len (d (A.toN k)).q) (fnR (nth (d (A.toN k)).q))), Eqn.sh (Sh.sl 2 (len (d (A.toN k)).ps) (fnR (nth (d (A.toN k)).ps))) (Sh.sl 2 (len (d (A.toN k)).ps) (fnR (nth (d (A.toN k)).ps))), Eqn.sh (Sh.sl 4 n (fnT d)) (Sh.sl 4 n (fnT d)), Eqn.int (d (A.toN k)).kind (d (A.toN k)).kind, Eqn.int (d (A.toN k)).num (d (A.toN k)).num, Eqn.sh (Sh.sl 1 (len (d (A.toN k)).q) (fnR (nth (d (A.toN k)).q))) (Sh.sl 1 (len (d (A.toN k)).q) (fnR (nth (d (A.toN k)).q))), Eqn.sh (Sh.sl 2 (len (d (A.toN k)).ps) (fnR (nth (d (A.toN k)).ps))) (Sh.sl 2 (len (d (A.toN k)).ps) (fnR (nth (d (A.toN k)).ps))), Eqn.int (d (A.toN k)).kind (d (A.toN k)).kind, Eqn.int (d (A.toN k)).num (d (A.toN k)).num, Eqn.sh (Sh.sl 1 (len (d (A.toN k)).q) (fnR (nth (d (A.toN k)).q))) (Sh.sl 1 (len (d (A.toN k)).q) (fnR (nth (d (A.toN k)).q))), Eqn.sh (Sh.sl 2 (len (d (A.toN k)).ps) (fnR (nth (d (A.toN k)).ps))) (Sh.sl 2 (len (d (A.toN k)).ps) (fnR (nth (d (A.toN k)).ps))), Eqn.sh (Sh.str (L.key (sQ (d (A.toN k)).kind (d (A.toN k)).num (len (d (A.toN k)).q) (fnR (nth (d (A.toN k)).q)) (len (d (A.toN k)).ps) (fnR (nth (d (A.toN k)).ps))))) (Sh.str (L.key (sQ (d (A.toN k)).kind (d (A.toN k)).num (len (d (A.toN k)).q) (fnR (nth (d (A.toN k)).q)) (len (d (A.toN k)).ps) (fnR (nth (d (A.toN k)).ps))))), Eqn.nat (A.addN j 1) (A.addN j 1), Eqn.fun_ (A.snoc gg j (nthL [[Sh.str (L.key (sQ (d (A.toN k)).kind (d (A.toN k)).num (len (d (A.toN k)).q) (fnR (nth (d (A.toN k)).q)) (len (d (A.toN k)).ps) (fnR (nth (d (A.toN k)).ps))))]])) (A.snoc gg j (nthL [[Sh.str (L.key (sQ (d (A.toN k)).kind (d (A.toN k)).num (len (d (A.toN k)).q) (fnR (nth (d (A.toN k)).q)) (len (d (A.toN k)).ps) (fnR (nth (d (A.toN k)).ps))))]]))] (Tree.must [Eqn.int k k, Eqn.int (d (A.toN k)).kind (d (A.toN k)).kind, Eqn.int (d (A.toN k)).num (d (A.toN k)).num, Eqn.sh (Sh.sl 1 (len (d (A.toN k)).q) (fnR (nth (d (A.toN k)).q))) (Sh.sl 1 (len (d (A.toN k)).q) (fnR (nth (d (A.toN k)).q))), Eqn.sh (Sh.sl 2 (len (d (A.toN k)).ps) (fnR (nth (d (A.toN k)).ps))) (Sh.sl 2 (len (d (A.toN k)).ps) (fnR (nth (d (A.toN k)).ps))), Eqn.sh (Sh.sl 4 n (fnT d)) (Sh.sl 4 n (fnT d)), Eqn.int (d (A.toN k)).kind (d (A.toN k)).kind, Eqn.int (d (A.toN k)).num (d (A.toN k)).num, Eqn.sh (Sh.sl 1 (len (d (A.toN k)).q) (fnR (nth (d (A.toN k)).q))) (Sh.sl 1 (len (d (A.toN k)).q) (fnR (nth (d (A.toN k)).q))), Eqn.sh (Sh.sl 2 (len (d (A.toN k)).ps) (fnR (nth (d (A.toN k)).ps))) (Sh.sl 2 (len (d (A.toN k)).ps) (fnR (nth (d (A.toN k)).ps))), Eqn.int (d (A.toN k)).kind (d (A.toN k)).kind, Eqn.int (d (A.toN k)).num (d (A.toN k)).num, Eqn.sh (Sh.sl 1 (len (d (A.toN k)).q) (fnR (nth (d (A.toN k)).q))) (Sh.sl 1 (len (d (A.toN k)).q) (fnR (nth (d (A.toN k)).q))), Eqn.sh (Sh.sl 2 (len (d (A.toN k)).ps) (fnR (nth (d (A.toN k)).ps))) (Sh.sl 2 (len (d (A.toN k)).ps) (fnR (nth (d (A.toN k)).ps))), Eqn.sh (Sh.str (L.key (sQ (d (A.toN k)).kind (d (A.toN k)).num (len (d (A.toN k)).q) (fnR (nth (d (A.toN k)).q)) (len (d (A.toN k)).ps) (fnR (nth (d (A.toN k)).ps))))) (Sh.str (L.key (sQ (d (A.toN k)).kind (d (A.toN k)).num (len (d (A.toN k)).q) (fnR (nth (d (A.toN k)).q)) (len (d (A.toN k)).ps) (fnR (nth (d (A.toN k)).ps))))), Eqn.nat (A.addN j 1) (A.addN j 1), Eqn.fun_ (A.snoc gg j (nthL [[Sh.str (L.key (sQ (d (A.toN k)).kind (d (A.toN k)).num (len (d (A.toN k)).q) (fnR (nth (d (A.toN k)).q)) (len (d (A.toN k)).ps) (fnR (nth (d (A.toN k)).ps))))]])) (A.snoc gg j (nthL [[Sh.str (L.key (sQ (d (A.toN k)).kind (d (A.toN k)).num (len (d (A.toN k)).q) (fnR (nth (d (A.toN k)).q)) (len (d (A.toN k)).ps) (fnR (nth (d (A.toN k)).ps))))]]))] (Tree.must [Eqn.nat l l] (Tree.leaf (Fe2.at_ 0 [Eqn.val (Value.func (Fn.yield l) { toList := [] } { toList := [] }) (Value.func (Fn.yield l) { toList := [] } { toList := [] }), Eqn.sh (Sh.sl 4 n (fnT d)) (Sh.sl 4 n (fnT d)), Eqn.int (Int.ofNat n) (Int.ofNat n), Eqn.int (A.add IntKind.i64 k (Int.ofNat 1)) k', Eqn.sh (Sh.sl 4 n (fnT d)) (Sh.sl 4 n (fnT d)), Eqn.nat (A.addN j 1) j', Eqn.get (A.addN j 1) (A.snoc gg j (nthL [[Sh.str (L.key (sQ (d (A.toN k)).kind (d (A.toN k)).num (len (d (A.toN k)).q) (fnR (nth (d (A.toN k)).q)) (len (d (A.toN k)).ps) (fnR (nth (d (A.toN k)).ps))))]])) gg', Eqn.nat l l]))))))))))))) (Tree.need (joinB j gg [59, 32]) (Tree.leaf (Fe2.ret (Sh.str (L.join j gg [59, 32]))))) := by kernel_rfl
end Go.Proofs
namespace Go.Pl
open Go Go.Sx Go.Proofs
/-- A state of which the key may be told. -/
def okT (s : Sta) : Bool := in64 s.kind && in64 s.num && s.q.all in64 && s.ps.all (fun p => in64 p.key && in64 p.val) && decide (s.q.length ≤ 100000 ∧ s.ps.length ≤ 100000)
def keysB (n : Nat) (d : Nat → Sta) : Bool := decide (n ≤ 1000) && (List.range n).all fun j => okT (d j)
def keyT (l : List Sta) : List UInt8 := joinS (l.map keyS) [59, 32]
def LK : Lk7 where
  key := keyS
  join n g sep := joinS (lst (List UInt8) n g) sep
theorem keyB_ok {s : Sta} (h : okT s = true) : keyB s.kind s.num (len s.q) (fnR (nth s.q)) (len s.ps) (fnR (nth s.ps)) = true := by
  unfold okT at h
  simp only [Bool.and_eq_true, decide_eq_true_eq] at h
  obtain ⟨⟨⟨⟨h1, h2⟩, h3⟩, h4⟩, h5⟩ := h
  unfold keyB
  simp only [Bool.and_eq_true, decide_eq_true_eq]
  refine ⟨⟨⟨⟨⟨⟨okB_put _ _, okB_put _ _⟩, h1⟩, h2⟩, ?_⟩, ?_⟩, h5⟩
  · rw [rwAt_fnR]
    refine List.all_eq_true.2 fun j hj => ?_
    have hj : j < s.q.length := List.mem_range.1 hj
    have e : nth s.q j = s.q[j] := by simp [nth, hj]
    rw [e]
    exact List.all_eq_true.1 h3 _ (List.getElem_mem hj)
  · rw [rwAt_fnR]
    refine List.all_eq_true.2 fun j hj => ?_
    have hj : j < s.ps.length := List.mem_range.1 hj
    have e : nth s.ps j = s.ps[j] := by simp [nth, hj]
    rw [e]
    exact List.all_eq_true.1 h4 _ (List.getElem_mem hj)
theorem sQ_eq (s : Sta) : sQ s.kind s.num (len s.q) (fnR (nth s.q)) (len s.ps) (fnR (nth s.ps)) = s := by
  show (⟨s.kind, s.num, lst Int s.q.length (fnR (nth s.q)), lst Pr s.ps.length (fnR (nth s.ps))⟩ : Sta) = s
  rw [lst_nth, lst_nth]
theorem partsS_len {s : Sta} (h : okT s = true) : (partsS s).length ≤ 100001 ∧ ∀ x ∈ partsS s, x.length ≤ 50 := by
  unfold okT at h
  simp only [Bool.and_eq_true, decide_eq_true_eq] at h
  obtain ⟨⟨⟨⟨h1, h2⟩, h3⟩, h4⟩, h5⟩ := h
  unfold partsS
  refine ⟨?_, fun x hx => ?_⟩
  · simp only [List.length_cons]
    repeat' split
    all_goals (simp; try omega)
  · rcases List.mem_cons.1 hx with rfl | hx
    · exact wordO_len _
    · split at hx
      · simp at hx
        subst hx
        have := itoa_len h2; omega
      · split at hx
        · obtain ⟨y, hy, rfl⟩ := List.mem_map.1 hx
          have := itoa_len (List.all_eq_true.1 h3 y hy); omega
        · split at hx
          · obtain ⟨y, hy, rfl⟩ := List.mem_map.1 hx
            have h6 := List.all_eq_true.1 h4 y hy
            simp only [Bool.and_eq_true] at h6
            exact pair_len h6.1 h6.2
          · simp at hx
theorem keyS_len {s : Sta} (h : okT s = true) : (keyS s).length ≤ 6000000 := by
  obtain ⟨h1, h2⟩ := partsS_len h
  have h3 := join_len (partsS s) [32] h2
  have h4 : (partsS s).length * (50 + [(32 : UInt8)].length) ≤ 100001 * 51 := Nat.mul_le_mul_right _ h1
  unfold keyS
  omega
theorem keyT_short {l : List Sta} (hl : l.length ≤ 1000) (h : ∀ s ∈ l, okT s = true) : shortB (joinS (l.map keyS) [59, 32]) = true := by
  have h3 := join_len (l.map keyS) [59, 32] (m := 6000000) fun x hx => by
    obtain ⟨s, hs, rfl⟩ := List.mem_map.1 hx
    exact keyS_len (h s hs)
  have h4 : (l.map keyS).length * (6000000 + [(59 : UInt8), 32].length) ≤ 1000 * 6000002 := Nat.mul_le_mul_right _ (by simpa using hl)
  exact decide_eq_true (by omega)
end Go.Pl
namespace Go.Proofs
open Go Go.Sx Go.Pl
theorem O35k : FnOK Tryz.prog (gls7 W7) 35 (G35 LK) := O35.mono fun H shs args φ hr h => by
  unfold G35 at h
  split at h
  · split at h
    · rename_i s2 s3 a hh b l hs2 hs3
      obtain ⟨h1, hφ⟩ := h
      simp only [keyB, Bool.and_eq_true] at h1
      obtain ⟨⟨⟨⟨⟨⟨q1, q2⟩, q3⟩, q4⟩, q5⟩, q6⟩, q7⟩ := h1
      simp only [F35, hs2, hs3]
      exact ⟨q1, q2, q3, q4, q5, q6, q7, hφ⟩
    · exact h.elim
  · exact h.elim
theorem O56k : FnOK Tryz.prog (gls7 W7) 56 (G56 LK) := fun H w shs args φ on hg hr h => by
  unfold G56 at h
  split at h
  · rename_i s0 sep
    split at h
    · rename_i n g hs
      obtain ⟨h1, hφ⟩ := h
      simp only [joinB, Bool.and_eq_true] at h1
      match args, hr with
      | [v, u], ⟨hv, hu, _⟩ => exact O56 H w [.sl 1 n g, .str sep] [v, u] φ on hg ⟨rep_slN hs hv, hu, trivial⟩ ⟨h1.1.1, h1.1.2, h1.2, hφ⟩
    · exact h.elim
  · exact h.elim
theorem O64 : FnOK Tryz.prog (gls7 W7) 64 F64 := by
  refine fnOK_Ru (C := C7 prim W7 specA stopAll) (C7.ok _ _) (fokA _) (m := 300) (n := 400) (L := L0) (fn := Tryz.f64) (by kernel_rfl) (by kernel_rfl) fun H w shs args φ hrep h => ?_
  have hn : Tryz.f64.ntmps = 10 := by kernel_rfl
  unfold F64 at h
  split at h
  · rename_i s0
    split at h
    · rename_i n g hs
      obtain ⟨h1, hφ⟩ := h
      match args, hrep with
      | [v], ⟨hv, _⟩ =>
        refine ⟨[.agg [.sl 4 n g]], ⟨rep_agg1 hv fun u hu => rep_slN hs hu, trivial⟩, ?_⟩
        rw [hn, a64 prim W7 n g, addN0, snoc0, toN_ofN]
        exact ⟨le0 n, h1, h1, up_mk (s' := .sl 4 n g) (.inr ⟨rfl, rfl, fun _ _ => rfl⟩) hφ⟩
    · exact h.elim
  · exact h.elim
theorem OKs : ∀ g F, specK LK g = some F → FnOK Tryz.prog (gls7 W7) g F := fun g F h => by
  unfold specK at h
  split at h
  · cases h; exact O35k
  · cases h; exact O56k
  · cases h; exact O64
  · cases h
theorem fokK (stop : Nat → List Nat → Bool) : FnsOK Tryz.prog (C7 prim W7 (specK LK) stop) := C7.fok OKs fun g h => by
  unfold specK at h
  split at h
  all_goals first | (cases h; done) | kernel_rfl
theorem nd7 : noDeferAll Tryz.fns = true := by kernel_rfl
noncomputable def F32 : List Sh → Tree Sh
  | [.agg [s0]] => match slN 4 s0 with
    | some (n, g) => .need (stB n g) (.need (keysB n (stF n g)) (.leaf (.str (keyT ((List.range n).map (stF n g))))))
    | none => .fail
  | _ => .fail
section
variable {H0 : Mem} {w0 : World} {φ : Sh → Prop} {n : Nat} {d : Nat → Sta}
theorem loop63 (hn : n ≤ 1000) (hd : ∀ j, j < n → okT (d j) = true) (hφ : φ (.str (keyT ((List.range n).map d)))) {l : Nat} : ∀ r k, k + r = n → 0 < k →
    GoesW Tryz.prog (C7 prim W7 (specK LK) stopAll) (K0 H0 w0) 63 none td63 (L63 n d l (k : Int) k (fnR (nth (((List.range k).map d).map keyS))) false) (s32 l) φ
  | r, k, hkr, h0 => by
    refine goesW_into (fn := Tryz.f63) (tb := tb63) (by kernel_rfl) (by kernel_rfl) ?_
    refine goesW_runX (C7.ok _ _) (fokK _) nd7 (pause := noPause) (m := 300) (n := 800) (ts := [⟨63, none, td63, L63 n d l ((k + 1 : Nat) : Int) (k + 1) (fnR (nth (((List.range (k + 1)).map d).map keyS))) false, s32 l⟩]) ?_
    refine (congrArg (MeetsW _) (b32f prim W7 LK n d l k (k + 1 : Nat) k (k + 1) (fnR (nth (((List.range k).map d).map keyS))) (fnR (nth (((List.range (k + 1)).map d).map keyS))))).mpr ?_
    rw [meetsW_eq]
    have hlen : (((List.range k).map d).map keyS).length = k := by simp
    simp only [prim_lt, prim_inB, prim_toN, prim_add, one_eq, Int.toNat_natCast, addN1]
    rw [sQ_eq (d k)]
    refine ⟨fun h => ?_, fun h => ?_⟩
    · have hlt : k < n := by simp at h; omega
      have hk := keyB_ok (hd k hlt)
      have hr : prim.room (k + 1) 16 = true := room_le (by omega) (by omega)
      have hin : decide (0 ≤ (k : Int) ∧ (k : Int) < (n : Int)) = true := by simp; omega
      have hw : IntKind.i64.wrap ((k : Int) + 1) = ((k + 1 : Nat) : Int) := by rw [wrap_id (by omega) (by omega)]; rfl
      have hs : ∀ i, i < k + 1 → prim.snoc (fnR (nth (((List.range k).map d).map keyS))) k (nthL [[.str (keyS (d k))]]) i = fnR (nth (((List.range (k + 1)).map d).map keyS)) i := fun i hi => by
        have := snoc_nth (((List.range k).map d).map keyS) (keyS (d k)) (r := [[.str (keyS (d k))]]) rfl i (by rw [hlen]; exact hi)
        rw [hlen] at this
        rw [this, List.range_succ, List.map_append, List.map_append]
        rfl
      have next : ∃ t : TgtW, ([⟨63, none, td63, L63 n d l ((k + 1 : Nat) : Int) (k + 1) (fnR (nth (((List.range (k + 1)).map d).map keyS))) false, s32 l⟩] : List TgtW)[0]? = some t ∧ GoesW Tryz.prog (C7 prim W7 (specK LK) stopAll) (K0 H0 w0) t.g t.r t.td t.c t.stk φ := by
        match r, hkr with
        | 0, hkr => omega
        | r + 1, hkr => exact ⟨_, rfl, loop63 hn hd hφ r (k + 1) (by omega) (by omega)⟩
      repeat' (first | exact trivial | exact next | exact hk | exact hr | exact hin | exact hw | exact hs | exact rfl | refine And.intro ?_ ?_)
    · have hk : k = n := by simp at h; omega
      subst hk
      have e : lst (List UInt8) k (fnR (nth (((List.range k).map d).map keyS))) = ((List.range k).map d).map keyS := lst_fn _ hlen
      have hsh : shortB (joinS (((List.range k).map d).map keyS) [59, 32]) = true := keyT_short (by simpa using hn) fun s hs => by
        obtain ⟨j, hj, rfl⟩ := List.mem_map.1 hs
        exact hd j (List.mem_range.1 hj)
      refine ⟨?_, ?_⟩
      · simp only [joinB, Bool.and_eq_true]
        exact ⟨⟨okB_put _ _, room_le (by omega) (by omega)⟩, by rw [e]; exact hsh⟩
      · show φ (.str (joinS (lst (List UInt8) k (fnR (nth (((List.range k).map d).map keyS)))) [59, 32]))
        rw [e]
        exact hφ
end
theorem O32 : FnOK Tryz.prog (gls7 W7) 32 F32 := by
  refine fnOK_W (C := C7 prim W7 (specK LK) stopAll) (C7.ok _ _) (fn := Tryz.f32) (by kernel_rfl) (by kernel_rfl) fun H w shs args φ hrep h => ?_
  have hn : Tryz.f32.ntmps = 17 := by kernel_rfl
  unfold F32 at h
  split at h
  · rename_i s0
    split at h
    · rename_i n g hs
      obtain ⟨h1, h2, hφ⟩ := h
      match args, hrep with
      | [v], ⟨hv, _⟩ =>
        refine ⟨[.agg [.sl 4 n (fnT (stF n g))]], ⟨rep_agg1 hv fun u hu => rep_sl_congr (rep_slN hs hu) (stB_at h1), trivial⟩, L0, ?_⟩
        generalize stF n g = d at *
        have hφ : φ (.str (keyT ((List.range n).map d))) := hφ
        simp only [keysB, Bool.and_eq_true, decide_eq_true_eq] at h2
        obtain ⟨h2, h3⟩ := h2
        have hd := all_range h3
        refine goesW_runX (C7.ok _ _) (fokK _) nd7 (pause := noPause) (m := 300) (n := 800) (ts := [⟨32, none, .code pR32 :: k32, L32 n d, []⟩]) ?_
        rw [hn, a32 prim W7 LK n d, meetsW_eq]
        refine ⟨⟨rfl, trivial⟩, _, rfl, ?_⟩
        refine goesW_range (C7.ok _ _) (fokK _) (fn := Tryz.f32) (fn2 := Tryz.f63) (g2 := 63) (caps := [.ptr 1 0]) (by kernel_rfl) (x := .tmp 7) (ps := #[8, 9]) (ca := codeAt (bodyOf Tryz.f32) (0 :: pR32)) (cb := codeAt (bodyOf Tryz.f32) (1 :: pR32)) (by kernel_rfl) (by kernel_rfl) (by kernel_rfl) (by kernel_rfl) fun l => ?_
        have hn63 : Tryz.f63.ntmps = 20 := by kernel_rfl
        rw [hn63]
        refine goesW_runX (C7.ok _ _) (fokK _) nd7 (pause := noPause) (m := 300) (n := 800) (ts := [⟨63, none, td63, L63 n d l ((0 : Nat) : Int) 0 noT true, s32 l⟩]) ?_
        refine (congrArg (MeetsW _) (t32 prim W7 LK n d l ((0 : Nat) : Int) 0 noT)).mpr ?_
        rw [meetsW_eq]
        refine ⟨room_le (by omega) (by omega), ?_, _, rfl, ?_⟩
        · repeat' (first | exact trivial | exact rfl | exact fun _ _ => rfl | refine And.intro ?_ ?_)
        refine goesW_into (fn := Tryz.f63) (tb := tb63) (by kernel_rfl) (by kernel_rfl) ?_
        refine goesW_runX (C7.ok _ _) (fokK _) nd7 (pause := noPause) (m := 300) (n := 800) (ts := [⟨63, none, td63, L63 n d l ((1 : Nat) : Int) 1 (fnR (nth (((List.range 1).map d).map keyS))) false, s32 l⟩]) ?_
        refine (congrArg (MeetsW _) (b32t prim W7 LK n d l ((0 : Nat) : Int) ((1 : Nat) : Int) 0 1 noT (fnR (nth (((List.range 1).map d).map keyS))))).mpr ?_
        rw [meetsW_eq]
        simp only [prim_lt, prim_inB, prim_toN, prim_add, one_eq, Int.toNat_natCast]
        rw [sQ_eq (d 0)]
        refine ⟨fun h => ?_, fun h => ?_⟩
        · have hlt : 0 < n := by simp at h; omega
          have hk := keyB_ok (hd 0 hlt)
          have hin : decide (0 ≤ ((0 : Nat) : Int) ∧ ((0 : Nat) : Int) < (n : Int)) = true := by simp; omega
          have hw : IntKind.i64.wrap (((0 : Nat) : Int) + 1) = ((1 : Nat) : Int) := by rw [wrap_id (by omega) (by omega)]; rfl
          have hs : ∀ i, i < 1 → nthL [[.str (keyS (d 0))]] i = fnR (nth (((List.range 1).map d).map keyS)) i := fun i hi => by
            obtain rfl : i = 0 := by omega
            rfl
          have next : ∃ t : TgtW, ([⟨63, none, td63, L63 n d l ((1 : Nat) : Int) 1 (fnR (nth (((List.range 1).map d).map keyS))) false, s32 l⟩] : List TgtW)[0]? = some t ∧ GoesW Tryz.prog (C7 prim W7 (specK LK) stopAll) (K0 H w) t.g t.r t.td t.c t.stk φ :=
            ⟨_, rfl, loop63 h2 hd hφ (n - 1) 1 (by omega) (by omega)⟩
          repeat' (first | exact trivial | exact next | exact hk | exact hin | exact hw | exact hs | exact rfl | refine And.intro ?_ ?_)
        · have : n = 0 := by simp at h; omega
          subst this
          refine ⟨rfl, hφ⟩
    · exact h.elim
  · exact h.elim
end Go.Proofs
namespace Go.Pl
open Go Go.Sx
/-- What the functions below answer, as things of which nothing is known while a function is run. -/
structure Lb7 where
  op : Sta → Int → Int → Int → Sta
  r : Sta → Int → Int → Int → Int
  g : Sta → Int → Int → Int → Int
  key : Sta → List UInt8
  join : List (List UInt8) → List UInt8 → List UInt8
  at_ : Nat → (Nat → List Sh) → Int → Sta
/-- Room for one value more. -/
def roomS (a : Nat) : Bool := roomB (a + 1) 8
end Go.Pl
namespace Go.Proofs
open Go Go.Sx Go.Pl
noncomputable def G33 (L : Lb7) : List Sh → Tree Sh
  | [.agg [s0], t] => match slN 4 s0, icode t with
    | some (n, g), some i => .need (stB n g) (.leaf (.tup [.agg [.i .i64 (L.at_ n g i).kind, .i .i64 (L.at_ n g i).num, .sl 1 (len (L.at_ n g i).q) (fnR (nth (L.at_ n g i).q)), .sl 2 (len (L.at_ n g i).ps) (fnR (nth (L.at_ n g i).ps))], .b (inI n i)]))
    | _, _ => .fail
  | _ => .fail
def G42 (L : Lb7) : List Sh → Tree Sh
  | [.agg [.i .i64 x, .i .i64 y, s2, s3], t, u, v] => match slN 1 s2, slN 2 s3, icode t, icode u, icode v with
    | some (a, h), some (b, l), some op, some k, some v => .need (okB Int a h) (.need (okB Pr b l) (.need (roomS a) (.need (noMap op) (.node (badOp x op) (.leaf (.tup [.agg [.i .i64 0, .i .i64 0, .sl 1 0 noI, .sl 2 0 noP], .i .i64 0, .i .i64 0, .er 1 242])) (.node (badKV x y op k v) (.leaf (.tup [.agg [.i .i64 0, .i .i64 0, .sl 1 0 noI, .sl 2 0 noP], .i .i64 0, .i .i64 0, .er 3 242]))
        (.leaf (.tup [.agg [.i .i64 (L.op (sQ x y a h b l) op k v).kind, .i .i64 (L.op (sQ x y a h b l) op k v).num, .sl 1 (len (L.op (sQ x y a h b l) op k v).q) (fnR (nth (L.op (sQ x y a h b l) op k v).q)), .sl 2 (len (L.op (sQ x y a h b l) op k v).ps) (fnR (nth (L.op (sQ x y a h b l) op k v).ps))], .i .i64 (L.r (sQ x y a h b l) op k v), .i .i64 (L.g (sQ x y a h b l) op k v), .v .nilIface])))))))
    | _, _, _, _, _ => .fail
  | _ => .fail
noncomputable def specE (L : Lb7) : Nat → Option (List Sh → Tree Sh)
  | 33 => some (G33 L)
  | 42 => some (G42 L)
  | 54 => some F54
  | _ => none

theorem a29 (A : Prim) (W : Wd) (L : Lb7) (n : Nat) (d : Nat → Sta) (i op k v : Int) : runTo (C7 A W (specE L) stopAll) noHold0 300 400 29 [.code []] (start0 52 [.agg [.sl 4 n (fnT d)], .i .i64 i, .i .i64 op, .i .i64 k, .i .i64 v] L0) [] [] = Tree.need (stB n (fnT d)) (Tree.node (A.nt (inI n i)) (Tree.leaf (Fe2.ret (Sh.tup [Sh.agg [Sh.sl 0 0 fun (x : Nat) => []], Sh.i IntKind.i64 (Int.ofNat 0), Sh.i IntKind.i64 (Int.ofNat 0), Sh.er 0 242]))) (Tree.need (okB Int (len (L.at_ n (fnT d) i).q) (fnR (nth (L.at_ n (fnT d) i).q))) (Tree.need (okB Pr (len (L.at_ n (fnT d) i).ps) (fnR (nth (L.at_ n (fnT d) i).ps))) (Tree.need (roomS (len (L.at_ n (fnT d) i).q)) (Tree.need (noMap op) (Tree.node (badOp (L.at_ n (fnT d) i).kind op) (Tree.leaf (Fe2.ret (Sh.tup [Sh.agg [Sh.sl 0 0 fun (x : Nat) => []], Sh.i IntKind.i64 (Int.ofNat 0), Sh.i IntKind.i64 (Int.ofNat 0), Sh.er 1 242]))) (Tree.node (badKV (L.at_ n (fnT d) i).kind (L.at_ n (fnT d) i).num op k v) (Tree.leaf (Fe2.ret (Sh.tup [Sh.agg [Sh.sl 0 0 fun (x : Nat) => []], Sh.i IntKind.i64 (Int.ofNat 0), Sh.i IntKind.i64 (Int.ofNat 0), Sh.er 3 242]))) (Tree.need (roomB n 64) (Tree.need (stB n (fnT d)) (Tree.leaf (Fe2.ret (Sh.tup [Sh.agg [Sh.sl 4 n (updG n (fnT d) i [Sh.i IntKind.i64 (L.op (sQ (L.at_ n (fnT d) i).kind (L.at_ n (fnT d) i).num (len (L.at_ n (fnT d) i).q) (fnR (nth (L.at_ n (fnT d) i).q)) (len (L.at_ n (fnT d) i).ps) (fnR (nth (L.at_ n (fnT d) i).ps))) op k v).kind, Sh.i IntKind.i64 (L.op (sQ (L.at_ n (fnT d) i).kind (L.at_ n (fnT d) i).num (len (L.at_ n (fnT d) i).q) (fnR (nth (L.at_ n (fnT d) i).q)) (len (L.at_ n (fnT d) i).ps) (fnR (nth (L.at_ n (fnT d) i).ps))) op k v).num, Sh.sl 1 (len (L.op (sQ (L.at_ n (fnT d) i).kind (L.at_ n (fnT d) i).num (len (L.at_ n (fnT d) i).q) (fnR (nth (L.at_ n (fnT d) i).q)) (len (L.at_ n (fnT d) i).ps) (fnR (nth (L.at_ n (fnT d) i).ps))) op k v).q) (fnR (nth (L.op (sQ (L.at_ n (fnT d) i).kind (L.at_ n (fnT d) i).num (len (L.at_ n (fnT d) i).q) (fnR (nth (L.at_ n (fnT d) i).q)) (len (L.at_ n (fnT d) i).ps) (fnR (nth (L.at_ n (fnT d) i).ps))) op k v).q)), Sh.sl 2 (len (L.op (sQ (L.at_ n (fnT d) i).kind (L.at_ n (fnT d) i).num (len (L.at_ n (fnT d) i).q) (fnR (nth (L.at_ n (fnT d) i).q)) (len (L.at_ n (fnT d) i).ps) (fnR (nth (L.at_ n (fnT d) i).ps))) op k v).ps) (fnR (nth (L.op (sQ (L.at_ n (fnT d) i).kind (L.at_ n (fnT d) i).num (len (L.at_ n (fnT d) i).q) (fnR (nth (L.at_ n (fnT d) i).q)) (len (L.at_ n (fnT d) i).ps) (fnR (nth (L.at_ n (fnT d) i).ps))) op k v).ps))])], Sh.i IntKind.i64 (L.r (sQ (L.at_ n (fnT d) i).kind (L.at_ n (fnT d) i).num (len (L.at_ n (fnT d) i).q) (fnR (nth (L.at_ n (fnT d) i).q)) (len (L.at_ n (fnT d) i).ps) (fnR (nth (L.at_ n (fnT d) i).ps))) op k v), Sh.i IntKind.i64 (L.g (sQ (L.at_ n (fnT d) i).kind (L.at_ n (fnT d) i).num (len (L.at_ n (fnT d) i).q) (fnR (nth (L.at_ n (fnT d) i).q)) (len (L.at_ n (fnT d) i).ps) (fnR (nth (L.at_ n (fnT d) i).ps))) op k v), Sh.v Value.nilIface])))))))))))) := by kernel_rfl
end Go.Proofs
namespace Go.Pl
open Go Go.Sx Go.Proofs
noncomputable def L7 : Lb7 where
  op s o k v := (opT s o k v).1
  r s o k v := (opT s o k v).2.1
  g s o k v := (opT s o k v).2.2
  key := keyS
  join := joinS
  at_ n g i := atT n (stF n g) i
end Go.Pl
namespace Go.Proofs
open Go Go.Sx Go.Pl
theorem O33g : FnOK Tryz.prog (gls7 W7) 33 (G33 L7) := O33
theorem O42g : FnOK Tryz.prog (gls7 W7) 42 (G42 L7) := O42
theorem OEs : ∀ g F, specE L7 g = some F → FnOK Tryz.prog (gls7 W7) g F := fun g F h => by
  unfold specE at h
  split at h
  · cases h; exact O33g
  · cases h; exact O42g
  · cases h; exact O54
  · cases h
theorem fokE (stop : Nat → List Nat → Bool) : FnsOK Tryz.prog (C7 prim W7 (specE L7) stop) := C7.fok OEs fun g h => by
  unfold specE at h
  split at h
  all_goals first | (cases h; done) | kernel_rfl
noncomputable def F29 : List Sh → Tree Sh
  | [.agg [s0], t, u, v, w] => match slN 4 s0, icode t, icode u, icode v, icode w with
    | some (n, g), some i, some op, some k, some v => .need (stB n g) (.need (roomB n 64) (.node (inI n i) (.need (roomS (stF n g i.toNat).q.length) (.need (noMap op) (.node (badOp (stF n g i.toNat).kind op) (.leaf (.tup [.agg [.sl 4 0 noT], .i .i64 0, .i .i64 0, .er 1 242])) (.node (badKV (stF n g i.toNat).kind (stF n g i.toNat).num op k v) (.leaf (.tup [.agg [.sl 4 0 noT], .i .i64 0, .i .i64 0, .er 3 242]))
        (.leaf (.tup [.agg [.sl 4 n (updG n g i (staS (opT (stF n g i.toNat) op k v).1))], .i .i64 (opT (stF n g i.toNat) op k v).2.1, .i .i64 (opT (stF n g i.toNat) op k v).2.2, .v .nilIface]))))))
      (.leaf (.tup [.agg [.sl 4 0 noT], .i .i64 0, .i .i64 0, .er 0 242]))))
    | _, _, _, _, _ => .fail
  | _ => .fail
theorem O29 : FnOK Tryz.prog (gls7 W7) 29 F29 := by
  refine fnOK_Ru (C := C7 prim W7 (specE L7) stopAll) (C7.ok _ _) (fokE _) (m := 300) (n := 400) (L := L0) (fn := Tryz.f29) (by kernel_rfl) (by kernel_rfl) fun H w shs args φ hrep h => ?_
  have hn : Tryz.f29.ntmps = 52 := by kernel_rfl
  unfold F29 at h
  split at h
  · rename_i s0 t u v ww
    split at h
    · rename_i n g i op k vv hs ht hu hv hw
      obtain ⟨h1, h2, hin, hout⟩ := h
      have hout : inI n i = false → φ (.tup [.agg [.sl 4 0 noT], .i .i64 0, .i .i64 0, .er 0 242]) := hout
      match args, hrep with
      | [v0, v1, v2, v3, v4], ⟨r0, r1, r2, r3, r4, _⟩ =>
        refine ⟨[.agg [.sl 4 n (fnT (stF n g))], .i .i64 i, .i .i64 op, .i .i64 k, .i .i64 vv], ⟨rep_agg1 r0 fun u hu => rep_sl_congr (rep_slN hs hu) (stB_at h1), icode_ok ht r1, icode_ok hu r2, icode_ok hv r3, icode_ok hw r4, trivial⟩, ?_⟩
        have hrow := stB_at h1
        have her (T : Nat) (g0 : Nat) (hp : φ (.tup [.agg [.sl 4 0 noT], .i .i64 0, .i .i64 0, .er g0 242])) : up φ (.tup [.agg [.sl 0 0 fun _ => []], .i .i64 (Int.ofNat 0), .i .i64 (Int.ofNat 0), .er g0 242]) :=
          up_mk (s' := .tup [.agg [.sl 4 0 noT], .i .i64 0, .i .i64 0, .er g0 242]) ⟨⟨.inl ⟨rfl, rfl⟩, trivial⟩, rfl, rfl, rfl, trivial⟩ hp
        rw [hn, a29 prim W7 L7 n (stF n g) i op k vv]
        have e1 : L7.at_ n (fnT (stF n g)) i = atT n (stF n (fnT (stF n g))) i := rfl
        rw [e1]
        refine ⟨stB_fnT n _, fun e => her 0 0 (hout (by simpa [prim_nt] using e)), fun e => ?_⟩
        have e : inI n i = true := by simpa [prim_nt] using e
        obtain ⟨q1, q2, q3, q4⟩ := hin e
        have hlt : i.toNat < n := by simp [inI] at e; omega
        have e2 : atT n (stF n (fnT (stF n g))) i = stF n g i.toNat := by simp [atT, e, stF_fnT i.toNat hlt]
        rw [e2, sQ_eq]
        have q4 : badOp (stF n g i.toNat).kind op = false → (badKV (stF n g i.toNat).kind (stF n g i.toNat).num op k vv = true → φ (.tup [.agg [.sl 4 0 noT], .i .i64 0, .i .i64 0, .er 3 242])) ∧ (badKV (stF n g i.toNat).kind (stF n g i.toNat).num op k vv = false → φ (.tup [.agg [.sl 4 n (updG n g i (staS (opT (stF n g i.toNat) op k vv).1))], .i .i64 (opT (stF n g i.toNat) op k vv).2.1, .i .i64 (opT (stF n g i.toNat) op k vv).2.2, .v .nilIface])) := q4
        refine ⟨okB_put _ _, okB_put _ _, q1, q2, fun e => her 0 1 (q3 e), fun e => ⟨fun e' => her 0 3 ((q4 e).1 e'), fun e' => ⟨h2, stB_fnT n _, up_mk (s' := .tup [.agg [.sl 4 n (updG n g i (staS (opT (stF n g i.toNat) op k vv).1))], .i .i64 (opT (stF n g i.toNat) op k vv).2.1, .i .i64 (opT (stF n g i.toNat) op k vv).2.2, .v .nilIface]) ⟨⟨.inr ⟨rfl, rfl, fun j hj => ?_⟩, trivial⟩, rfl, rfl, rfl, trivial⟩ ((q4 e).2 e')⟩⟩⟩
        unfold updG
        split
        · rfl
        · exact (hrow j hj).symm
    · exact h.elim
  · exact h.elim
end Go.Proofs
namespace Go.Pl
open Go Go.Sx
/-- The example's objects. -/
def obG : Nat → List Sh := nthL [[.i .i64 1, .i .i64 5], [.i .i64 3, .i .i64 0]]
/-- The example's stores, and what their keys are, as things of which nothing is known. -/
structure Lx7 where
  X : Nat → List Sh
  Y : Nat → List Sh
  K : (Nat → List Sh) → List UInt8
  ok : (Nat → List Sh) → Bool
end Go.Pl
namespace Go.Proofs
open Go Go.Sx Go.Pl
def F25v (L : Lx7) : List Sh → Tree Sh
  | [.sl 2 2 g] => .must [.get 2 g obG] (.leaf (.tup [.agg [.sl 4 2 L.X], .v .nilIface]))
  | _ => .fail
def F29v (L : Lx7) : List Sh → Tree Sh
  | [.agg [.sl 4 2 g], t, u, v, w] => match icode t, icode u, icode v, icode w with
    | some 1, some 5, some 0, some 3 => .must [.fun_ g L.X] (.leaf (.tup [.agg [.sl 4 2 L.Y], .i .i64 1, .i .i64 0, .v .nilIface]))
    | some 2, some 1, some 0, some 0 => .must [.fun_ g L.X] (.leaf (.tup [.agg [.sl 4 0 noT], .i .i64 0, .i .i64 0, .er 0 242]))
    | _, _, _, _ => .fail
  | _ => .fail
def F32v (L : Lx7) : List Sh → Tree Sh
  | [.agg [.sl 4 2 g]] => .need (L.ok g) (.leaf (.str (L.K g)))
  | _ => .fail
def spec12 (L : Lx7) : Nat → Option (List Sh → Tree Sh)
  | 14 => some F14
  | 15 => some F15
  | 16 => some F16
  | 18 => some F18
  | 19 => some F19
  | 25 => some (F25v L)
  | 29 => some (F29v L)
  | 32 => some (F32v L)
  | _ => none

theorem a12 (A : Prim) (W : Wd) (L : Lx7) : runTo (C7 A W (spec12 L) stopAll) noHold0 300 400 12 [.code []] (start0 81 [] L0) [] [] = Tree.must [Eqn.get 2 (nthL [[Sh.i IntKind.i64 (Int.ofNat 1), Sh.i IntKind.i64 (Int.ofNat 5)], [Sh.i IntKind.i64 (Int.ofNat 3), Sh.i IntKind.i64 (Int.ofNat 0)]]) obG] (Tree.must [Eqn.fun_ L.X L.X] (Tree.must [Eqn.fun_ L.X L.X] (Tree.need (roomB 2 8) (Tree.need (okB Int 2 (nthL [[Sh.i IntKind.i64 (Int.ofNat 1)], [Sh.i IntKind.i64 (Int.ofNat 2)]])) (Tree.need (roomB 2 8) (Tree.need (roomB 2 8) (Tree.need (roomB 1 8) (Tree.need (roomB 2 8) (Tree.need (roomB 2 8) (Tree.need (okB Int 2 (updG 2 (nthL [[Sh.i IntKind.i64 (Int.ofNat 1)], [Sh.i IntKind.i64 (Int.ofNat 2)]]) (Int.ofNat 1) [Sh.i IntKind.i64 (Int.ofNat 7)])) (Tree.need (okB Int 2 (nthL [[Sh.i IntKind.i64 (Int.ofNat 1)], [Sh.i IntKind.i64 (Int.ofNat 7)]])) (Tree.need (okB Int 2 (snocG 1 (nthL [[Sh.i IntKind.i64 (Int.ofNat 1)]]) [Sh.i IntKind.i64 (Int.ofNat 2)])) (Tree.need (okB Int 2 (nthL [[Sh.i IntKind.i64 (Int.ofNat 1)], [Sh.i IntKind.i64 (Int.ofNat 2)]])) (Tree.node (A.eq (Int.ofNat 1) (Int.ofNat 1)) (Tree.need (L.ok L.Y) (Tree.node (A.seq (L.K L.Y) [114, 101, 103, 105, 115, 116, 101, 114, 32, 53, 59, 32, 113, 117, 101, 117, 101, 32, 51]) (Tree.need (L.ok L.X) (Tree.node (A.seq (L.K L.X) [114, 101, 103, 105, 115, 116, 101, 114, 32, 53, 59, 32, 113, 117, 101, 117, 101]) (Tree.node (sameL (lst Int 2 (updG 2 (nthL [[Sh.i IntKind.i64 (Int.ofNat 1)], [Sh.i IntKind.i64 (Int.ofNat 2)]]) (Int.ofNat 1) [Sh.i IntKind.i64 (Int.ofNat 7)])) (lst Int 2 (nthL [[Sh.i IntKind.i64 (Int.ofNat 1)], [Sh.i IntKind.i64 (Int.ofNat 7)]]))) (Tree.leaf (Fe2.ret (Sh.b (sameL (lst Int 2 (snocG 1 (nthL [[Sh.i IntKind.i64 (Int.ofNat 1)]]) [Sh.i IntKind.i64 (Int.ofNat 2)])) (lst Int 2 (nthL [[Sh.i IntKind.i64 (Int.ofNat 1)], [Sh.i IntKind.i64 (Int.ofNat 2)]])))))) (Tree.leaf (Fe2.ret (Sh.b false)))) (Tree.leaf (Fe2.ret (Sh.b false))))) (Tree.leaf (Fe2.ret (Sh.b false))))) (Tree.leaf (Fe2.ret (Sh.b false))))))))))))))))) := by kernel_rfl
end Go.Proofs
namespace Go.Sx
theorem FnOK.up {P : Program} {gls : List (Nat × Sh)} {f : Nat} {F F' : List Sh → Tree Sh} (h : FnOK P gls f F) (hF : ∀ (H : Mem) (shs : List Sh) (args : List Value) (φ : Sh → Prop), RepL H shs args → (F' shs).All φ → (F shs).All (Go.Sx.up φ)) : FnOK P gls f F' :=
  fun H w shs args φ on hg hr hφ => (h H w shs args _ on hg hr (hF H shs args φ hr hφ)).mono fun e w' ⟨v, s, H', he, ⟨s', hw, hs⟩, r⟩ => let ⟨H2, r2⟩ := r.wk hw; ⟨v, s', H2, he, hs, r2⟩
end Go.Sx
namespace Go.Pl
open Go Go.Sx Go.Proofs
/-- The example's states: as they begin; behind the operation. -/
def d0 : Nat → Sta := newT (rwAt obG)
def d1 (j : Nat) : Sta := if j = 1 then ⟨3, 0, [3], []⟩ else d0 j
noncomputable def LX : Lx7 where
  X := fnT d0
  Y := updG 2 (fnT d0) 1 (staS ⟨3, 0, [3], []⟩)
  K g := keyT ((List.range 2).map (stF 2 g))
  ok g := stB 2 g && keysB 2 (stF 2 g)
theorem y_eq : ∀ j, j < 2 → updG 2 (fnT d0) 1 (staS ⟨3, 0, [3], []⟩) j = staS (d1 j) := fun j hj => by
  have : j = 0 ∨ j = 1 := by omega
  rcases this with rfl | rfl
  · simp [updG, inI, d1, fnT]
  · simp [updG, inI, d1]
theorem stX : ∀ j, j < 2 → stF 2 (fnT d0) j = d0 j := stF_fnT
theorem stY : ∀ j, j < 2 → stF 2 (updG 2 (fnT d0) 1 (staS ⟨3, 0, [3], []⟩)) j = d1 j := stF_of y_eq
theorem range2 {α : Type} (f g : Nat → α) (h : ∀ j, j < 2 → f j = g j) : (List.range 2).map f = [g 0, g 1] := by
  rw [show List.range 2 = [0, 1] from rfl]
  simp only [List.map_cons, List.map_nil]
  rw [h 0 (by decide), h 1 (by decide)]
theorem itoa_one {n : Nat} (h : n < 10) : itoaS (n : Int) = [UInt8.ofNat (48 + n)] := by
  unfold itoaS Go.Lib.itoa
  rw [if_neg (by omega)]
  have : ((n : Int)).toNat = n := by simp
  rw [this, Go.Lib.decDigits_one h]
theorem key0 : keyT [d0 0, d0 1] = [114, 101, 103, 105, 115, 116, 101, 114, 32, 53, 59, 32, 113, 117, 101, 117, 101] := by
  have h5 : itoaS 5 = [53] := itoa_one (n := 5) (by decide)
  have e0 : d0 0 = ⟨1, 5, [], []⟩ := rfl
  have e1 : d0 1 = ⟨3, 0, [], []⟩ := rfl
  rw [e0, e1]
  have k0 : keyS ⟨1, 5, [], []⟩ = [114, 101, 103, 105, 115, 116, 101, 114, 32, 53] := by
    show joinS [wordO 1, itoaS 5] [32] = _
    rw [h5]; rfl
  have k1 : keyS ⟨3, 0, [], []⟩ = [113, 117, 101, 117, 101] := rfl
  show joinS [keyS ⟨1, 5, [], []⟩, keyS ⟨3, 0, [], []⟩] [59, 32] = _
  rw [k0, k1]; rfl
theorem key1 : keyT [d1 0, d1 1] = [114, 101, 103, 105, 115, 116, 101, 114, 32, 53, 59, 32, 113, 117, 101, 117, 101, 32, 51] := by
  have h5 : itoaS 5 = [53] := itoa_one (n := 5) (by decide)
  have h3 : itoaS 3 = [51] := itoa_one (n := 3) (by decide)
  have e0 : d1 0 = ⟨1, 5, [], []⟩ := rfl
  have e1 : d1 1 = ⟨3, 0, [3], []⟩ := rfl
  rw [e0, e1]
  have k0 : keyS ⟨1, 5, [], []⟩ = [114, 101, 103, 105, 115, 116, 101, 114, 32, 53] := by
    show joinS [wordO 1, itoaS 5] [32] = _
    rw [h5]; rfl
  have k1 : keyS ⟨3, 0, [3], []⟩ = [113, 117, 101, 117, 101, 32, 51] := by
    show joinS [wordO 3, itoaS 3] [32] = _
    rw [h3]; rfl
  show joinS [keyS ⟨1, 5, [], []⟩, keyS ⟨3, 0, [3], []⟩] [59, 32] = _
  rw [k0, k1]; rfl
theorem all2 {p : Nat → Bool} (h0 : p 0 = true) (h1 : p 1 = true) : (List.range 2).all p = true := by
  rw [show List.range 2 = [0, 1] from rfl]
  simp [h0, h1]
theorem keys2 {d : Nat → Sta} (h0 : okT (d 0) = true) (h1 : okT (d 1) = true) : keysB 2 d = true := by
  unfold keysB
  rw [all2 h0 h1]; rfl
end Go.Pl
namespace Go.Proofs
open Go Go.Sx Go.Pl
theorem O25v : FnOK Tryz.prog (gls7 W7) 25 (F25v LX) := O25.up fun H shs args φ hr h => by
  unfold F25v at h
  split at h
  · rename_i g
    obtain ⟨⟨hg, _⟩, hφ⟩ := h
    have hg : ∀ i, i < 2 → g i = obG i := hg
    have hr : ∀ j, j < 2 → rwAt (α := Oj) g j = rwAt obG j := fun j hj => by unfold rwAt; rw [hg j hj]
    have e0 : rwAt (α := Oj) obG 0 = ⟨1, 5⟩ := rfl
    have e1 : rwAt (α := Oj) obG 1 = ⟨3, 0⟩ := rfl
    have hs : slN 2 (.sl 2 2 g) = some (2, g) := rfl
    simp only [F25, hs]
    refine ⟨okB_of (o := rwAt obG) fun i hi => ?_, all2 ?_ ?_, fun e => (by cases e), fun _ => ⟨fun _ => up_mk (s' := .tup [.agg [.sl 4 2 (fnT d0)], .v .nilIface]) ⟨⟨.inr ⟨rfl, rfl, fun j hj => ?_⟩, trivial⟩, rfl, trivial⟩ hφ, fun e => ?_⟩⟩
    · rw [hg i hi]
      have : i = 0 ∨ i = 1 := by omega
      rcases this with rfl | rfl <;> rfl
    · rw [hr 0 (by decide), e0]; rfl
    · rw [hr 1 (by decide), e1]; rfl
    · show staS (newT (rwAt g) j) = staS (newT (rwAt obG) j)
      unfold newT
      rw [hr j hj]
    · have : allOb 2 (rwAt g) = true := all2 (by rw [hr 0 (by decide), e0]; rfl) (by rw [hr 1 (by decide), e1]; rfl)
      rw [this] at e; cases e
  · exact h.elim
theorem O29v : FnOK Tryz.prog (gls7 W7) 29 (F29v LX) := O29.up fun H shs args φ hr h => by
  unfold F29v at h
  split at h
  · rename_i g t u v w
    have hs : slN 4 (.sl 4 2 g) = some (2, g) := rfl
    split at h
    · rename_i ht hu hv hw
      obtain ⟨⟨hg, _⟩, hφ⟩ := h
      have hg : g = fnT d0 := hg
      subst hg
      have e1 : stF 2 (fnT d0) (1 : Int).toNat = ⟨3, 0, [], []⟩ := stX 1 (by decide)
      simp only [F29, hs, ht, hu, hv, hw]
      rw [e1]
      exact ⟨stB_fnT _ _, rfl, fun _ => ⟨rfl, rfl, fun e => (by cases e), fun _ => ⟨fun e => (by cases e), fun _ => up_mk (s' := .tup [.agg [.sl 4 2 LX.Y], .i .i64 1, .i .i64 0, .v .nilIface]) ⟨⟨.inr ⟨rfl, rfl, fun _ _ => rfl⟩, trivial⟩, rfl, rfl, rfl, trivial⟩ hφ⟩⟩, fun e => (by cases e)⟩
    · rename_i ht hu hv hw
      obtain ⟨⟨hg, _⟩, hφ⟩ := h
      have hg : g = fnT d0 := hg
      subst hg
      simp only [F29, hs, ht, hu, hv, hw]
      exact ⟨stB_fnT _ _, rfl, fun e => (by cases e), fun _ => up_mk (s' := .tup [.agg [.sl 4 0 noT], .i .i64 0, .i .i64 0, .er 0 242]) ⟨⟨.inl ⟨rfl, rfl⟩, trivial⟩, rfl, rfl, rfl, trivial⟩ hφ⟩
    · exact h.elim
  · exact h.elim
theorem O32v : FnOK Tryz.prog (gls7 W7) 32 (F32v LX) := O32.mono fun H shs args φ hr h => by
  unfold F32v at h
  split at h
  · rename_i g
    obtain ⟨h1, hφ⟩ := h
    have h1 : (stB 2 g && keysB 2 (stF 2 g)) = true := h1
    simp only [Bool.and_eq_true] at h1
    have hs : slN 4 (.sl 4 2 g) = some (2, g) := rfl
    simp only [F32, hs]
    exact ⟨h1.1, h1.2, hφ⟩
  · exact h.elim
theorem O12s : ∀ g F, spec12 LX g = some F → FnOK Tryz.prog (gls7 W7) g F := fun g F h => by
  unfold spec12 at h
  split at h
  · cases h; exact O14
  · cases h; exact O15
  · cases h; exact O16
  · cases h; exact O18
  · cases h; exact O19
  · cases h; exact O25v
  · cases h; exact O29v
  · cases h; exact O32v
  · cases h
theorem fok12 (stop : Nat → List Nat → Bool) : FnsOK Tryz.prog (C7 prim W7 (spec12 LX) stop) := C7.fok O12s fun g h => by
  unfold spec12 at h
  split at h
  all_goals first | (cases h; done) | kernel_rfl
def F12 : List Sh → Tree Sh
  | [] => .leaf (.v (.bool true))
  | _ => .fail
theorem O12 : FnOK Tryz.prog (gls7 W7) 12 F12 := by
  refine fnOK_Ru (C := C7 prim W7 (spec12 LX) stopAll) (C7.ok _ _) (fok12 _) (m := 300) (n := 400) (L := L0) (fn := Tryz.f12) (by kernel_rfl) (by kernel_rfl) fun H w shs args φ hrep h => ?_
  have hn : Tryz.f12.ntmps = 81 := by kernel_rfl
  unfold F12 at h
  split at h
  · refine ⟨[], hrep, ?_⟩
    rw [hn, a12 prim W7 LX]
    have kx : LX.K LX.X = [114, 101, 103, 105, 115, 116, 101, 114, 32, 53, 59, 32, 113, 117, 101, 117, 101] := by
      show keyT ((List.range 2).map (stF 2 (fnT d0))) = _
      rw [range2 _ d0 stX, key0]
    have ky : LX.K LX.Y = [114, 101, 103, 105, 115, 116, 101, 114, 32, 53, 59, 32, 113, 117, 101, 117, 101, 32, 51] := by
      show keyT ((List.range 2).map (stF 2 (updG 2 (fnT d0) 1 (staS ⟨3, 0, [3], []⟩)))) = _
      rw [range2 _ d1 stY, key1]
    have ox : LX.ok LX.X = true := by
      show (stB 2 (fnT d0) && keysB 2 (stF 2 (fnT d0))) = true
      rw [stB_fnT, keys2 (by rw [stX 0 (by decide)]; rfl) (by rw [stX 1 (by decide)]; rfl)]; rfl
    have oy : LX.ok LX.Y = true := by
      show (stB 2 (updG 2 (fnT d0) 1 (staS ⟨3, 0, [3], []⟩)) && keysB 2 (stF 2 (updG 2 (fnT d0) 1 (staS ⟨3, 0, [3], []⟩)))) = true
      rw [stB_of y_eq, keys2 (by rw [stY 0 (by decide)]; rfl) (by rw [stY 1 (by decide)]; rfl)]; rfl
    rw [kx, ky, ox, oy]
    have fin : up φ (.b true) := up_mk (s' := .v (.bool true)) (.inr rfl) h
    refine ⟨⟨fun _ _ => rfl, trivial⟩, ⟨rfl, trivial⟩, ⟨rfl, trivial⟩, rfl, rfl, rfl, rfl, rfl, rfl, rfl, rfl, rfl, rfl, rfl, fun _ => ⟨rfl, fun _ => ⟨rfl, fun _ => ⟨fun _ => fin, fun e => (by cases e)⟩, fun e => (by cases e)⟩, fun e => (by cases e)⟩, fun e => (by cases e)⟩
  · exact h.elim
end Go.Proofs
namespace Go.Pl
open Go Go.Sx
/-- What the lists' functions answer, as things of which nothing is known. -/
structure Ll7 where
  w : Nat → (Nat → List Sh) → Int → Int → Nat → Int
  a : Nat → (Nat → List Sh) → Int → Nat → Int
  at_ : Nat → (Nat → List Sh) → Int → Int
  same : Nat → (Nat → List Sh) → Nat → (Nat → List Sh) → Bool
/-- A number's room. -/
def roomI (n : Nat) : Bool := roomB n 8
def sucN (n : Nat) : Nat := n + 1
def cpI (g : Nat → List Sh) : Nat → List Sh := fnR (rwAt (α := Int) g)
end Go.Pl
namespace Go.Proofs
open Go Go.Sx Go.Pl
def G13 : List Sh → Tree Sh
  | [.sl 1 n g] => .need (okB Int n g) (.need (roomI n) (.leaf (.os 3 1 n (cpI g))))
  | _ => .fail
def G15 (L : Ll7) : List Sh → Tree Sh
  | [.agg [.sl 1 n g], .i .i64 i, .i .i64 x] => .need (okB Int n g) (.need (roomI n) (.leaf (.agg [.sl 1 n (fnR (L.w n g i x))])))
  | _ => .fail
def G16 (L : Ll7) : List Sh → Tree Sh
  | [.agg [.sl 1 n g], .i .i64 x] => .need (okB Int n g) (.need (roomI (sucN n)) (.leaf (.agg [.sl 1 (sucN n) (fnR (L.a n g x))])))
  | _ => .fail
def G17 (L : Ll7) : List Sh → Tree Sh
  | [.agg [.sl 1 n g], .i .i64 i] => .need (okB Int n g) (.leaf (.tup [.i .i64 (L.at_ n g i), .b (inI n i)]))
  | _ => .fail
def G18 (L : Ll7) : List Sh → Tree Sh
  | [.sl 1 n g, .sl 1 m h] => .need (okB Int n g) (.need (okB Int m h) (.need (L.same n g m h) (.leaf (.v (.bool true)))))
  | _ => .fail
def G19 : List Sh → Tree Sh
  | [.agg [.sl 1 n g]] => .need (roomI n) (.leaf (.os 3 1 n g))
  | _ => .fail
def G20 : List Sh → Tree Sh
  | [.agg [.sl 1 n g]] => .leaf (.i .i64 n)
  | _ => .fail
def spec3 (L : Ll7) : Nat → Option (List Sh → Tree Sh)
  | 12 => some F12
  | 13 => some G13
  | 15 => some (G15 L)
  | 16 => some (G16 L)
  | 17 => some (G17 L)
  | 18 => some (G18 L)
  | 19 => some G19
  | 20 => some G20
  | 21 => some F20
  | 22 => some F22
  | 23 => some F23
  | _ => none
def td3 : List It := [It.code [0, 1, 0, 1, 1, 1, 1, 1], It.inBlock 0, It.code [1, 1, 1, 1, 1, 1]]
def tb3 : List It := It.code [0, 0, 1, 0, 1, 1, 1, 1, 1] :: td3
/-- Writing over what was handed in: the k-th comes next. -/
def LM3 (n : Nat) (o : Nat → Int) (i x : Int) (m : Nat) (mm : Nat → List Sh) (aa : Nat → List Sh) (k : Int) : Core :=
  { tm := tmOf 184 [(0, .sh (.sl 1 n (fnR o))), (1, .sym .i64 i), (2, .sym .i64 x), (8, .gs 0), (9, .ptr 1 0), (10, .sym .i64 k)], hp := [(0, .own 3 1 m mm), (1, .box [.gs 2] 26), (2, .own 3 1 n aa)], nx := 3, lim := L0, tc := [] }
def td3a : List It := [It.code [1, 1, 1, 1, 1, 1]]
/-- Behind it. -/
def LA3 (n : Nat) (o : Nat → Int) (i x : Int) (aa : Nat → List Sh) : Core :=
  { tm := tmOf 184 [(0, .sh (.sl 1 n (fnR o))), (1, .sym .i64 i), (2, .sym .i64 x), (9, .ptr 0 0)], hp := [(0, .box [.gs 1] 26), (1, .own 3 1 n aa)], nx := 2, lim := L0, tc := [] }
def pause3 : Nat → List It → Bool := pauseAt 3 [[1, 1, 1, 1, 1, 1]]
/-- Behind the call of At; whether the place is in it is known. -/
def td3b : List It := [It.code [0, 0, 1, 1, 1, 1, 1, 1, 1, 1, 1, 1, 1, 1], It.code [1, 0, 1, 1, 1, 1, 1, 1, 1, 1, 1, 1, 1, 1], It.code [1, 1, 1, 1, 1, 1, 1, 1, 1, 1, 1, 1, 1, 1]]
def td3c : List It := [It.code [1, 1, 1, 1, 1, 1, 1, 1, 1, 1, 1, 1, 1]]
/-- Behind the call of At; whether the place is in it is known. -/
def LI3 (n : Nat) (o : Nat → Int) (i x : Int) (b c d e : Nat → Int) (ww : Nat → List Sh) (y : Int) (inn : Bool) : Core :=
  { tm := tmOf 184 [(0, .sh (.sl 1 n (fnR o))), (1, .sym .i64 i), (2, .sym .i64 x), (9, .ptr 0 0), (11, .ptr 1 0), (12, .ptr 2 0), (13, .ptr 3 0), (14, .ptr 4 0), (15, .gs 5), (16, .bool inn), (17, .sym .i64 y), (18, .bool inn)], hp := [(0, .box [.sh (.sl 1 n (fnR o))] 26), (1, .box [.sh (.sl 1 n (fnR b))] 26), (2, .box [.sh (.sl 1 (sucN n) (fnR c))] 26), (3, .box [.sh (.sl 1 (sucN (sucN n)) (fnR d))] 26), (4, .box [.sh (.sl 1 (sucN (sucN n)) (fnR e))] 26), (5, .own 3 1 n ww)], nx := 6, lim := L0, tc := [] }
def pause3b : Nat → List It → Bool := pauseAt 3 [[1, 1, 1, 1, 1, 1, 1, 1, 1, 1, 1, 1, 1]]
def noPause : Nat → List It → Bool := fun _ _ => false

theorem a3 (A : Prim) (W : Wd) (L : Ll7) (n : Nat) (o : Nat → Int) (i x : Int) (m : Nat) (mm aa : Nat → List Sh) (k : Int) : runV (C7 A W (spec3 L) stopAll) pause3 300 400 3 [.code []] (start0 184 [.sl 1 n (fnR o), .i .i64 i, .i .i64 x] L0) [] [⟨3, td3, LM3 n o i x m mm aa k, []⟩] = Tree.node (A.lt (Int.ofNat 1000) (A.ofN n)) (Tree.leaf (Fe2.ret (Sh.b true))) (Tree.need (okB Int n (fnR o)) (Tree.need (roomI n) (Tree.need (A.room (A.addN n 2) 8) (Tree.need (A.upTo (A.ofN n) (A.addN n 2)) (Tree.need (A.le (Int.ofNat 0) (A.ofN (A.toN (A.ofN n)))) (Tree.need (A.room (A.toN (A.ofN (A.toN (A.ofN n)))) 8) (Tree.need (A.room (A.addN 0 (A.toN (A.ofN n))) 8) (Tree.leaf (Fe2.at_ 0 [Eqn.sh (Sh.sl 1 n (fnR o)) (Sh.sl 1 n (fnR o)), Eqn.int i i, Eqn.int x x, Eqn.int (Int.ofNat 0) k, Eqn.nat (A.addN n 2) m, Eqn.get (A.addN n 2) (A.snoc (cpI (fnR o)) n (nthL [[Sh.i IntKind.i64 (Int.ofNat 47)], [Sh.i IntKind.i64 (Int.ofNat 11)]])) mm, Eqn.nat (A.addN 0 (A.toN (A.ofN n))) n, Eqn.get (A.addN 0 (A.toN (A.ofN n))) (A.snoc (fun (x : Nat) => []) 0 (A.snoc (cpI (fnR o)) n (nthL [[Sh.i IntKind.i64 (Int.ofNat 47)], [Sh.i IntKind.i64 (Int.ofNat 11)]]))) aa]))))))))) := by kernel_rfl
theorem b3 (A : Prim) (W : Wd) (L : Ll7) (n : Nat) (o : Nat → Int) (i x : Int) (m : Nat) (mm mm' aa : Nat → List Sh) (k k' : Int) : runV (C7 A W (spec3 L) stopAll) pause3 300 400 3 tb3 (LM3 n o i x m mm aa k) [] [⟨3, td3, LM3 n o i x m mm' aa k', []⟩, ⟨3, td3a, LA3 n o i x aa, []⟩] = Tree.node (A.lt k (A.ofN m)) (Tree.need (A.inB k m) (Tree.leaf (Fe2.at_ 0 [Eqn.sh (Sh.sl 1 n (fnR o)) (Sh.sl 1 n (fnR o)), Eqn.int i i, Eqn.int x x, Eqn.int (A.add IntKind.i64 k (Int.ofNat 1)) k', Eqn.nat m m, Eqn.get m (A.upd mm (A.toN k) 0 [Sh.i IntKind.i64 (Int.negSucc 8)]) mm', Eqn.nat n n, Eqn.get n aa aa]))) (Tree.leaf (Fe2.at_ 1 [Eqn.sh (Sh.sl 1 n (fnR o)) (Sh.sl 1 n (fnR o)), Eqn.int i i, Eqn.int x x, Eqn.nat n n, Eqn.get n aa aa])) := by kernel_rfl
theorem c3 (A : Prim) (W : Wd) (L : Ll7) (n : Nat) (o : Nat → Int) (i x : Int) (b c d e : Nat → Int) (ww : Nat → List Sh) (y : Int) : runV (C7 A W (spec3 L) stopAll) pause3b 300 400 3 td3a (LA3 n o i x (fnR o)) [] [⟨3, td3c, LI3 n o i x b c d e ww y true, []⟩, ⟨3, td3c, LI3 n o i x b c d e ww y false, []⟩] = Tree.need (okB Int n (fnR o)) (Tree.need (roomI n) (Tree.need (okB Int n (fnR o)) (Tree.need (roomI (sucN n)) (Tree.need (okB Int (sucN n) (fnR (L.a n (fnR o) x))) (Tree.need (roomI (sucN (sucN n))) (Tree.need (okB Int (sucN n) (fnR (L.a n (fnR o) x))) (Tree.need (roomI (sucN (sucN n))) (Tree.need (okB Int n (fnR o)) (Tree.need (roomI n) (Tree.node (A.le (Int.ofNat 0) i) (Tree.need (okB Int n (fnR o)) (Tree.leaf (Fe2.at_ 0 [Eqn.sh (Sh.sl 1 n (fnR o)) (Sh.sl 1 n (fnR o)), Eqn.int i i, Eqn.int x x, Eqn.bool (A.lt i (A.ofN n)) true, Eqn.int (L.at_ n (fnR o) i) y, Eqn.bool (inI n i) true, Eqn.sh (Sh.sl 1 n (fnR o)) (Sh.sl 1 n (fnR o)), Eqn.sh (Sh.sl 1 n (fnR (L.w n (fnR o) i x))) (Sh.sl 1 n (fnR b)), Eqn.sh (Sh.sl 1 (sucN n) (fnR (L.a n (fnR o) x))) (Sh.sl 1 (sucN n) (fnR c)), Eqn.sh (Sh.sl 1 (sucN (sucN n)) (fnR (L.a (sucN n) (fnR (L.a n (fnR o) x)) (A.add IntKind.i64 x (Int.ofNat 1))))) (Sh.sl 1 (sucN (sucN n)) (fnR d)), Eqn.sh (Sh.sl 1 (sucN (sucN n)) (fnR (L.a (sucN n) (fnR (L.a n (fnR o) x)) (A.sub IntKind.i64 x (Int.ofNat 1))))) (Sh.sl 1 (sucN (sucN n)) (fnR e)), Eqn.nat n n, Eqn.get n (cpI (fnR o)) ww]))) (Tree.need (okB Int n (fnR o)) (Tree.leaf (Fe2.at_ 1 [Eqn.sh (Sh.sl 1 n (fnR o)) (Sh.sl 1 n (fnR o)), Eqn.int i i, Eqn.int x x, Eqn.int (L.at_ n (fnR o) i) y, Eqn.bool (inI n i) false, Eqn.sh (Sh.sl 1 n (fnR o)) (Sh.sl 1 n (fnR o)), Eqn.sh (Sh.sl 1 n (fnR (L.w n (fnR o) i x))) (Sh.sl 1 n (fnR b)), Eqn.sh (Sh.sl 1 (sucN n) (fnR (L.a n (fnR o) x))) (Sh.sl 1 (sucN n) (fnR c)), Eqn.sh (Sh.sl 1 (sucN (sucN n)) (fnR (L.a (sucN n) (fnR (L.a n (fnR o) x)) (A.add IntKind.i64 x (Int.ofNat 1))))) (Sh.sl 1 (sucN (sucN n)) (fnR d)), Eqn.sh (Sh.sl 1 (sucN (sucN n)) (fnR (L.a (sucN n) (fnR (L.a n (fnR o) x)) (A.sub IntKind.i64 x (Int.ofNat 1))))) (Sh.sl 1 (sucN (sucN n)) (fnR e)), Eqn.nat n n, Eqn.get n (cpI (fnR o)) ww]))))))))))))) := by kernel_rfl
theorem c3f (A : Prim) (W : Wd) (L : Ll7) (n : Nat) (o : Nat → Int) (i x : Int) (b c d e : Nat → Int) (ww : Nat → List Sh) (y : Int) : runV (C7 A W (spec3 L) stopAll) pause3b 300 400 3 td3a (LA3 n o i x (fnR o)) [] [⟨3, td3c, LI3 n o i x b c d e ww y false, []⟩] = Tree.need (okB Int n (fnR o)) (Tree.need (roomI n) (Tree.need (okB Int n (fnR o)) (Tree.need (roomI (sucN n)) (Tree.need (okB Int (sucN n) (fnR (L.a n (fnR o) x))) (Tree.need (roomI (sucN (sucN n))) (Tree.need (okB Int (sucN n) (fnR (L.a n (fnR o) x))) (Tree.need (roomI (sucN (sucN n))) (Tree.need (okB Int n (fnR o)) (Tree.need (roomI n) (Tree.node (A.le (Int.ofNat 0) i) (Tree.need (okB Int n (fnR o)) (Tree.leaf (Fe2.at_ 0 [Eqn.sh (Sh.sl 1 n (fnR o)) (Sh.sl 1 n (fnR o)), Eqn.int i i, Eqn.int x x, Eqn.bool (A.lt i (A.ofN n)) false, Eqn.int (L.at_ n (fnR o) i) y, Eqn.bool (inI n i) false, Eqn.sh (Sh.sl 1 n (fnR o)) (Sh.sl 1 n (fnR o)), Eqn.sh (Sh.sl 1 n (fnR (L.w n (fnR o) i x))) (Sh.sl 1 n (fnR b)), Eqn.sh (Sh.sl 1 (sucN n) (fnR (L.a n (fnR o) x))) (Sh.sl 1 (sucN n) (fnR c)), Eqn.sh (Sh.sl 1 (sucN (sucN n)) (fnR (L.a (sucN n) (fnR (L.a n (fnR o) x)) (A.add IntKind.i64 x (Int.ofNat 1))))) (Sh.sl 1 (sucN (sucN n)) (fnR d)), Eqn.sh (Sh.sl 1 (sucN (sucN n)) (fnR (L.a (sucN n) (fnR (L.a n (fnR o) x)) (A.sub IntKind.i64 x (Int.ofNat 1))))) (Sh.sl 1 (sucN (sucN n)) (fnR e)), Eqn.nat n n, Eqn.get n (cpI (fnR o)) ww]))) (Tree.need (okB Int n (fnR o)) (Tree.leaf (Fe2.at_ 0 [Eqn.sh (Sh.sl 1 n (fnR o)) (Sh.sl 1 n (fnR o)), Eqn.int i i, Eqn.int x x, Eqn.int (L.at_ n (fnR o) i) y, Eqn.bool (inI n i) false, Eqn.sh (Sh.sl 1 n (fnR o)) (Sh.sl 1 n (fnR o)), Eqn.sh (Sh.sl 1 n (fnR (L.w n (fnR o) i x))) (Sh.sl 1 n (fnR b)), Eqn.sh (Sh.sl 1 (sucN n) (fnR (L.a n (fnR o) x))) (Sh.sl 1 (sucN n) (fnR c)), Eqn.sh (Sh.sl 1 (sucN (sucN n)) (fnR (L.a (sucN n) (fnR (L.a n (fnR o) x)) (A.add IntKind.i64 x (Int.ofNat 1))))) (Sh.sl 1 (sucN (sucN n)) (fnR d)), Eqn.sh (Sh.sl 1 (sucN (sucN n)) (fnR (L.a (sucN n) (fnR (L.a n (fnR o) x)) (A.sub IntKind.i64 x (Int.ofNat 1))))) (Sh.sl 1 (sucN (sucN n)) (fnR e)), Eqn.nat n n, Eqn.get n (cpI (fnR o)) ww]))))))))))))) := by kernel_rfl
theorem d3 (A : Prim) (W : Wd) (L : Ll7) (n : Nat) (o : Nat → Int) (i x : Int) (b c d e : Nat → Int) (ww : Nat → Int) (y : Int) : runV (C7 A W (spec3 L) stopAll) noPause 300 400 3 td3c (LI3 n o i x b c d e (fnR ww) y true) [] [] = Tree.need (A.inB i n) (Tree.need (A.inB i n) (Tree.node (A.nt (A.eq y (o (A.toN i)))) (Tree.leaf (Fe2.ret (Sh.b false))) (Tree.need (roomI n) (Tree.need (okB Int n (fnR o)) (Tree.need (okB Int n (fnR o)) (Tree.need (L.same n (fnR o) n (fnR o)) (Tree.need (roomI n) (Tree.need (okB Int n (fnR b)) (Tree.need (okB Int n (A.upd (fnR ww) (A.toN i) 0 [Sh.i IntKind.i64 x])) (Tree.need (L.same n (fnR b) n (A.upd (fnR ww) (A.toN i) 0 [Sh.i IntKind.i64 x])) (Tree.need (roomI (sucN n)) (Tree.need (okB Int n (fnR o)) (Tree.need (roomI n) (Tree.need (A.room (A.addN n 1) 8) (Tree.need (okB Int (sucN n) (fnR c)) (Tree.need (okB Int (A.addN n 1) (A.snoc (cpI (fnR o)) n (nthL [[Sh.i IntKind.i64 x]]))) (Tree.need (L.same (sucN n) (fnR c) (A.addN n 1) (A.snoc (cpI (fnR o)) n (nthL [[Sh.i IntKind.i64 x]]))) (Tree.need (roomI (sucN (sucN n))) (Tree.need (okB Int n (fnR o)) (Tree.need (roomI n) (Tree.need (A.room (A.addN n 2) 8) (Tree.need (okB Int (sucN (sucN n)) (fnR d)) (Tree.need (okB Int (A.addN n 2) (A.snoc (cpI (fnR o)) n (nthL [[Sh.i IntKind.i64 x], [Sh.i IntKind.i64 (A.add IntKind.i64 x (Int.ofNat 1))]]))) (Tree.need (L.same (sucN (sucN n)) (fnR d) (A.addN n 2) (A.snoc (cpI (fnR o)) n (nthL [[Sh.i IntKind.i64 x], [Sh.i IntKind.i64 (A.add IntKind.i64 x (Int.ofNat 1))]]))) (Tree.need (roomI (sucN (sucN n))) (Tree.need (okB Int n (fnR o)) (Tree.need (roomI n) (Tree.need (A.room (A.addN n 2) 8) (Tree.need (okB Int (sucN (sucN n)) (fnR e)) (Tree.need (okB Int (A.addN n 2) (A.snoc (cpI (fnR o)) n (nthL [[Sh.i IntKind.i64 x], [Sh.i IntKind.i64 (A.sub IntKind.i64 x (Int.ofNat 1))]]))) (Tree.need (L.same (sucN (sucN n)) (fnR e) (A.addN n 2) (A.snoc (cpI (fnR o)) n (nthL [[Sh.i IntKind.i64 x], [Sh.i IntKind.i64 (A.sub IntKind.i64 x (Int.ofNat 1))]]))) (Tree.node (A.eq (Int.ofNat n) (A.ofN n)) (Tree.node (A.eq (Int.ofNat (sucN n)) (A.add IntKind.i64 (A.ofN n) (Int.ofNat 1))) (Tree.node (A.eq (Int.ofNat 0) (Int.ofNat 0)) (Tree.need (roomB 1 16) (Tree.need (roomB 1 16) (Tree.leaf (Fe2.ret (Sh.b (A.eq (A.ofN 1) (Int.ofNat 1))))))) (Tree.leaf (Fe2.ret (Sh.b false)))) (Tree.leaf (Fe2.ret (Sh.b false)))) (Tree.leaf (Fe2.ret (Sh.b false))))))))))))))))))))))))))))))))))) := by kernel_rfl
theorem d3f (A : Prim) (W : Wd) (L : Ll7) (n : Nat) (o : Nat → Int) (i x : Int) (b c d e : Nat → Int) (ww : Nat → Int) (y : Int) : runV (C7 A W (spec3 L) stopAll) noPause 300 400 3 td3c (LI3 n o i x b c d e (fnR ww) y false) [] [] = Tree.node (A.nt (A.eq y (Int.ofNat 0))) (Tree.leaf (Fe2.ret (Sh.b false))) (Tree.need (roomI n) (Tree.need (okB Int n (fnR o)) (Tree.need (okB Int n (fnR o)) (Tree.need (L.same n (fnR o) n (fnR o)) (Tree.need (roomI n) (Tree.need (okB Int n (fnR b)) (Tree.need (okB Int n (fnR ww)) (Tree.need (L.same n (fnR b) n (fnR ww)) (Tree.need (roomI (sucN n)) (Tree.need (okB Int n (fnR o)) (Tree.need (roomI n) (Tree.need (A.room (A.addN n 1) 8) (Tree.need (okB Int (sucN n) (fnR c)) (Tree.need (okB Int (A.addN n 1) (A.snoc (cpI (fnR o)) n (nthL [[Sh.i IntKind.i64 x]]))) (Tree.need (L.same (sucN n) (fnR c) (A.addN n 1) (A.snoc (cpI (fnR o)) n (nthL [[Sh.i IntKind.i64 x]]))) (Tree.need (roomI (sucN (sucN n))) (Tree.need (okB Int n (fnR o)) (Tree.need (roomI n) (Tree.need (A.room (A.addN n 2) 8) (Tree.need (okB Int (sucN (sucN n)) (fnR d)) (Tree.need (okB Int (A.addN n 2) (A.snoc (cpI (fnR o)) n (nthL [[Sh.i IntKind.i64 x], [Sh.i IntKind.i64 (A.add IntKind.i64 x (Int.ofNat 1))]]))) (Tree.need (L.same (sucN (sucN n)) (fnR d) (A.addN n 2) (A.snoc (cpI (fnR o)) n (nthL [[Sh.i IntKind.i64 x], [Sh.i IntKind.i64 (A.add IntKind.i64 x (Int.ofNat 1))]]))) (Tree.need (roomI (sucN (sucN n))) (Tree.need (okB Int n (fnR o)) (Tree.need (roomI n) (Tree.need (A.room (A.addN n 2) 8) (Tree.need (okB Int (sucN (sucN n)) (fnR e)) (Tree.need (okB Int (A.addN n 2) (A.snoc (cpI (fnR o)) n (nthL [[Sh.i IntKind.i64 x], [Sh.i IntKind.i64 (A.sub IntKind.i64 x (Int.ofNat 1))]]))) (Tree.need (L.same (sucN (sucN n)) (fnR e) (A.addN n 2) (A.snoc (cpI (fnR o)) n (nthL [[Sh.i IntKind.i64 x], [Sh.i IntKind.i64 (A.sub IntKind.i64 x (Int.ofNat 1))]]))) (Tree.node (A.eq (Int.ofNat n) (A.ofN n)) (Tree.node (A.eq (Int.ofNat (sucN n)) (A.add IntKind.i64 (A.ofN n) (Int.ofNat 1))) (Tree.node (A.eq (Int.ofNat 0) (Int.ofNat 0)) (Tree.need (roomB 1 16) (Tree.need (roomB 1 16) (Tree.leaf (Fe2.ret (Sh.b (A.eq (A.ofN 1) (Int.ofNat 1))))))) (Tree.leaf (Fe2.ret (Sh.b false)))) (Tree.leaf (Fe2.ret (Sh.b false)))) (Tree.leaf (Fe2.ret (Sh.b false))))))))))))))))))))))))))))))))) := by kernel_rfl
end Go.Proofs
