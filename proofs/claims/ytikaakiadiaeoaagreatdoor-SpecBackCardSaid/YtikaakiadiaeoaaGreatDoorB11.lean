/-
  Chapter 6: SpecApart. Chapter 6: the plain law: texts split, cut and spelt. Chapter 6: the plain law: a state's key tells the state, and the state that a key tells has that key. Chapter 6: an operation on any state: summaries with one leaf. Chapter 6: SpecBack: evaluated. Chapter 6: SpecBack: what the evaluated trees ask.: the evaluated trees as lemmas, Chapter 6: a state behind few operations may be worked on. Chapter 6: SpecBack. From the readings of a row to the shapes of the executor: ints, flat structs of ints, slices of them, the listed variables; and back: the row's post. The listed variables, as the executor's globals. Chapter 6: the listed variables are the executor's globals. Own work (written by program). From a law's summary to its row's post: it answers true, and what it was given reads as it did. Arguments of chapter 7: the kinds of objects fit; a struct of ints. Chapter 6: what the laws' rows have in common. Arguments of chapter 6: rows of three numbers.
-/
import Derived.Test.YtikaakiadiaeoaaGreatDoorB10
import Derived.ProofKit
import Derived.Deep.Slices
import Derived.Stop.LaidErr
import Derived.LaidMore
import Derived.OpenShut
import Derived.MakeChecks
import Derived.Test.YtikaakiadiaeoaaGreatDoorRows
import Derived.Carry
import Derived.Stop.Joined
import GoSem.PinnedTables
namespace Go.Pl
open Go Go.Sx Go.Proofs
theorem lstP (ps : List Pr) : lst Pr (len ps) (fnR (nth ps)) = ps := lst_nth ps
theorem wf_iff {ps : List Pr} : wfP ps = true ↔ SortP ps ∧ ∀ p ∈ ps, 0 ≤ p.key ∧ p.key ≤ 1000 := by
 unfold wfP SortP
 rw [Bool.and_eq_true, decide_eq_true_eq, List.all_eq_true]
 simp
def MapI (i : Nat) (ps : List Pr) : Prop := wfP ps = true ∧ ps.length ≤ i
theorem MapI.ok {i : Nat} {ps : List Pr} (h : MapI i ps) (hi : i ≤ 1000) : okM (len ps) (fnR (nth ps)) = true := by
 unfold okM wfG
 rw [lstP, okB_put, h.1]
 have := h.2
 have e : (len ps ≤ 100000) := by unfold len; omega
 simp only [Bool.and_eq_true, decide_eq_true_eq]
 refine ⟨⟨⟨trivial, e⟩, trivial⟩, room_le (by unfold len; omega) (by omega)⟩
section
variable {i : Nat} {ps : List Pr} {a k v b k' v' : Int}
end
end Go.Pl
namespace Go.Proofs
open Go Go.Sx Go.Pl
theorem fnOK_no {g : Nat} : FnOK Tryz.prog (gls7 W7) g fun _ => .fail := fun _ _ _ _ _ _ _ _ h => h.elim
section
variable {H0 : Mem} {w0 : World} {φ : Sh → Prop} {n : Nat} {c : Nat → Ca} {x y z x' y' z' : Int}
end
end Go.Proofs
namespace Go.Pl
open Go Go.Sx Go.Proofs
open Go.Lib (decDigits itoa parseUint10 splitK index count)
def valD (l : List UInt8) : Nat := l.foldl (fun a c => a * 10 + (c.toNat - 48)) 0
theorem dig_nat {d : Nat} (h : d < 10) : (UInt8.ofNat (48 + d)).toNat = 48 + d := by
 rw [UInt8.toNat_ofNat']
 omega
theorem valD_dec (u : Nat) : valD (decDigits u) = u ∧ (∀ c ∈ decDigits u, 48 ≤ c.toNat ∧ c.toNat ≤ 57) ∧ decDigits u ≠ [] := by
 induction u using Nat.strongRecOn with
 | ind u ih =>
  rw [decDigits]
  by_cases h : u < 10
  ·rw [dif_pos h]
   have := dig_nat h
   refine ⟨?_, fun c hc => ?_, by simp⟩
   ·show 0 * 10 + ((UInt8.ofNat (48 + u)).toNat - 48) = u
    rw [this]; omega
   ·obtain rfl : c = UInt8.ofNat (48 + u) := by simpa using hc
    rw [this]; omega
  ·rw [dif_neg h]
   obtain ⟨q1, q2, q3⟩ := ih (u / 10) (by omega)
   have := dig_nat (d := u % 10) (by omega)
   refine ⟨?_, fun c hc => ?_, by simp⟩
   ·unfold valD at q1 ⊢
    rw [List.foldl_append, q1]
    show u / 10 * 10 + ((UInt8.ofNat (48 + u % 10)).toNat - 48) = u
    rw [this]; omega
   ·rcases List.mem_append.1 hc with hc | hc
    ·exact q2 c hc
    ·obtain rfl : c = UInt8.ofNat (48 + u % 10) := by simpa using hc
     rw [this]; omega
theorem itoa_chars {n : Int} {c : UInt8} (h : c ∈ itoaS n) : c.toNat = 45 ∨ (48 ≤ c.toNat ∧ c.toNat ≤ 57) := by
 unfold itoaS itoa at h
 split at h
 ·rcases List.mem_cons.1 h with rfl | h
  ·exact .inl rfl
  ·exact .inr ((valD_dec _).2.1 c h)
 ·exact .inr ((valD_dec _).2.1 c h)
theorem itoa_no {n : Int} {z : UInt8} (h : z.toNat = 32 ∨ z.toNat = 58 ∨ z.toNat = 59) : z ∉ itoaS n := fun hc => by
 have := itoa_chars hc
 omega
theorem idx_eq (c : UInt8) (l : List UInt8) : index (c :: l) [c] = 0 := by simp [index, List.isPrefixOf]
theorem idx_ne {b c : UInt8} (h : b ≠ c) (l : List UInt8) : index (b :: l) [c] = if index l [c] == -1 then -1 else index l [c] + 1 := by
 rw [index]
 have : (c == b) = false := by simp [Ne.symm h]
 simp [List.isPrefixOf, this]
theorem idx_nil (c : UInt8) : index [] [c] = -1 := rfl
theorem idx_nat {l : List UInt8} {c : UInt8} (h : index l [c] ≠ -1) : ∃ i : Nat, index l [c] = i := ⟨(index l [c]).toNat, by have := Go.Lib.index_ge l [c]; omega⟩
theorem idx_app {c : UInt8} (b : List UInt8) : ∀ {a : List UInt8}, c ∉ a → index (a ++ c :: b) [c] = a.length
 | [], _ => idx_eq c b
 | x :: a, h => by
  have h1 : x ≠ c := fun e => h (e ▸ List.mem_cons_self)
  have ih := idx_app b (a := a) fun q => h (List.mem_cons_of_mem _ q)
  rw [List.cons_append, idx_ne h1, ih, if_neg (by simp)]
  simp
theorem idx_no {c : UInt8} : ∀ {a : List UInt8}, c ∉ a → index a [c] = -1
 | [], _ => rfl
 | x :: a, h => by
  have h1 : x ≠ c := fun e => h (e ▸ List.mem_cons_self)
  rw [idx_ne h1, idx_no fun q => h (List.mem_cons_of_mem _ q)]
  rfl
theorem idx_cut {c : UInt8} : ∀ {l : List UInt8} {i : Nat}, index l [c] = i → l = l.take i ++ c :: l.drop (i + 1)
 | [], i, h => by
  rw [idx_nil] at h; omega
 | x :: l, i, h => by
  by_cases e : x = c
  ·subst e
   rw [idx_eq] at h
   obtain rfl : i = 0 := by omega
   rfl
  ·rw [idx_ne e] at h
   by_cases q : index l [c] = -1
   ·rw [q] at h
    simp at h
   ·obtain ⟨j, hj⟩ := idx_nat q
    rw [hj] at h
    have h2 : ((j : Int) + 1) = (i : Int) := by
     rw [if_neg (by simp)] at h
     exact h
    obtain rfl : i = j + 1 := by omega
    have := idx_cut hj
    simp only [List.take_succ_cons, List.drop_succ_cons, List.cons_append]
    rw [← this]
theorem spl_nil (c : UInt8) : splitS [] c = [[]] := rfl
theorem spl_eq (c : UInt8) (l : List UInt8) : splitS (c :: l) c = [] :: splitS l c := by
 unfold splitS Go.Lib.split
 rw [Go.Lib.count_cons_eq, Nat.add_comm, splitK, idx_eq]
 simp
theorem spl_ne {b c : UInt8} (h : b ≠ c) (l : List UInt8) : ∃ x t, splitS l c = x :: t ∧ splitS (b :: l) c = (b :: x) :: t := by
 unfold splitS Go.Lib.split
 rw [Go.Lib.count_cons_ne b c l h]
 generalize count l [c] = k
 cases k with
 | zero => exact ⟨l, [], rfl, rfl⟩
 | succ k =>
  rw [splitK, splitK, idx_ne h]
  by_cases e : index l [c] = -1
  ·exact ⟨l, [], by simp [e], by simp [e]⟩
  ·obtain ⟨i, hi⟩ := idx_nat e
   refine ⟨l.take i, splitK [c] 0 k (l.drop (i + 1)), ?_, ?_⟩
   ·rw [hi, if_neg (by simp)]
    simp
   ·rw [hi, if_neg (by simp; omega), if_neg (by simp)]
    have : ((i : Int) + 1).toNat = i + 1 := by omega
    rw [this]
    simp
theorem spl_some (c : UInt8) : ∀ l : List UInt8, ∃ x t, splitS l c = x :: t
 | [] => ⟨_, _, spl_nil c⟩
 | b :: l => by
  by_cases h : b = c
  ·subst h; exact ⟨_, _, spl_eq b l⟩
  ·obtain ⟨x, t, _, e⟩ := spl_ne h l
   exact ⟨_, _, e⟩
theorem join_split (c : UInt8) : ∀ l : List UInt8, joinS (splitS l c) [c] = l
 | [] => by rw [spl_nil]; exact Go.Lib.join_one _ _
 | b :: l => by
  have ih := join_split c l
  unfold joinS at ih ⊢
  by_cases h : b = c
  ·subst h
   obtain ⟨x, t, e⟩ := spl_some b l
   rw [spl_eq, e, Go.Lib.join_cons]
   rw [e, Go.Lib.join_cons] at ih
   simp only [Go.Lib.joinTail, List.map_cons, List.flatten_cons, List.nil_append] at ih ⊢
   rw [List.append_assoc, ih]; rfl
  ·obtain ⟨x, t, e1, e2⟩ := spl_ne h l
   rw [e2, Go.Lib.join_cons]
   rw [e1, Go.Lib.join_cons] at ih
   rw [List.cons_append, ih]
theorem split_app {c : UInt8} (r : List UInt8) : ∀ {a : List UInt8}, c ∉ a → splitS (a ++ c :: r) c = a :: splitS r c
 | [], _ => spl_eq c r
 | x :: a, h => by
  have h1 : x ≠ c := fun e => h (e ▸ List.mem_cons_self)
  have ih := split_app r (a := a) fun q => h (List.mem_cons_of_mem _ q)
  obtain ⟨y, t, e1, e2⟩ := spl_ne h1 (a ++ c :: r)
  rw [e1] at ih
  injection ih with i1 i2
  rw [List.cons_append, e2, i1, i2]
theorem split_one {c : UInt8} : ∀ {a : List UInt8}, c ∉ a → splitS a c = [a]
 | [], _ => spl_nil c
 | x :: a, h => by
  have h1 : x ≠ c := fun e => h (e ▸ List.mem_cons_self)
  have ih := split_one (a := a) fun q => h (List.mem_cons_of_mem _ q)
  obtain ⟨y, t, e1, e2⟩ := spl_ne h1 a
  rw [e1] at ih
  injection ih with i1 i2
  rw [e2, i1, i2]
theorem split_join {c : UInt8} : ∀ (r : List (List UInt8)) (x : List UInt8), (∀ w ∈ x :: r, c ∉ w) → splitS (joinS (x :: r) [c]) c = x :: r
 | [], x, h => by
  have e : joinS [x] [c] = x := Go.Lib.join_one _ _
  rw [e]
  exact split_one (h x List.mem_cons_self)
 | y :: r, x, h => by
  have ih := split_join r y fun w hw => h w (List.mem_cons_of_mem _ hw)
  have e : joinS (x :: y :: r) [c] = x ++ c :: joinS (y :: r) [c] := by
   unfold joinS
   rw [Go.Lib.join_cons, Go.Lib.join_cons]
   simp [Go.Lib.joinTail]
  rw [e, split_app _ (h x List.mem_cons_self), ih]
theorem cut_app {c : UInt8} {a : List UInt8} (ha : c ∉ a) (b : List UInt8) : cutS (a ++ c :: b) c = (a, b, true) := by
 unfold cutS Go.Lib.cut
 rw [idx_app b ha, if_pos (by omega)]
 simp
theorem cut_no {c : UInt8} {a : List UInt8} (ha : c ∉ a) : cutS a c = (a, [], false) := by
 unfold cutS Go.Lib.cut
 rw [idx_no ha]
 rfl
theorem cut_inv {c : UInt8} {w : List UInt8} (h : cutI w c = true) : w = cutA w c ++ c :: cutB w c := by
 unfold cutI cutA cutB cutS Go.Lib.cut at *
 split at h
 ·rename_i q
  obtain ⟨i, hi⟩ := idx_nat (l := w) (c := c) (by omega)
  have := idx_cut hi
  rw [if_pos q, hi]
  simpa using this
 ·cases h
theorem fold_le (l : List UInt8) (acc : Nat) : acc ≤ l.foldl (fun a c => a * 10 + (c.toNat - 48)) acc := by
 induction l generalizing acc with
 | nil => exact Nat.le_refl _
 | cons c r ih =>
  have := ih (acc * 10 + (c.toNat - 48))
  simp only [List.foldl_cons]
  omega
theorem parse_dig : ∀ (l : List UInt8) (acc : Nat), (∀ c ∈ l, 48 ≤ c.toNat ∧ c.toNat ≤ 57) → l.foldl (fun a c => a * 10 + (c.toNat - 48)) acc < 18446744073709551616 → parseUint10 acc l = .ok (l.foldl (fun a c => a * 10 + (c.toNat - 48)) acc)
 | [], acc, _, _ => rfl
 | c :: r, acc, hd, h => by
  have hc := hd c List.mem_cons_self
  simp only [List.foldl_cons] at h ⊢
  have := fold_le r (acc * 10 + (c.toNat - 48))
  rw [parseUint10, if_pos hc, if_neg (by omega), if_neg (by omega)]
  exact parse_dig r _ (fun x hx => hd x (List.mem_cons_of_mem _ hx)) h
theorem mag_dec {u : Nat} (h : u < 18446744073709551616) : Go.Lib.parseMag (decDigits u) = .ok u := by
 obtain ⟨h1, h2, h3⟩ := valD_dec u
 unfold Go.Lib.parseMag
 rw [if_neg h3, parse_dig _ 0 h2 (by unfold valD at h1; rw [h1]; exact h)]
 unfold valD at h1
 rw [h1]
theorem atoi_itoa {n : Int} (h : in64 n = true) : Go.Lib.atoiAll (itoaS n) = .ok n := by
 have h : -9223372036854775808 ≤ n ∧ n ≤ 9223372036854775807 := by
  have := of_decide_eq_true h
  omega
 unfold itoaS itoa
 by_cases hn : n < 0
 ·rw [if_pos hn]
  unfold Go.Lib.atoiAll
  simp only
  rw [if_pos (.inr rfl), mag_dec (by omega)]
  simp only
  rw [if_neg (by simp), if_neg (by omega), if_pos (by rfl)]
  congr 1
  omega
 ·rw [if_neg hn]
  obtain ⟨h1, h2, h3⟩ := valD_dec n.toNat
  have hm := mag_dec (u := n.toNat) (by omega)
  cases hd : decDigits n.toNat with
  | nil => exact (h3 hd).elim
  | cons c r =>
   rw [hd] at hm h2
   have hc := h2 c List.mem_cons_self
   unfold Go.Lib.atoiAll
   simp only
   rw [if_neg (by omega), hm]
   simp only
   rw [if_neg (by omega), if_neg (by omega), if_neg (by omega)]
   congr 1
   omega
theorem val_itoa {n : Int} (h : in64 n = true) : valA (itoaS n) = n := by
 unfold valA; rw [atoi_itoa h]
theorem spells_itoa {n : Int} (h : in64 n = true) : spellsI (itoaS n) = true := by
 unfold spellsI okA
 rw [val_itoa h, atoi_itoa h]
 simp
theorem itoa_zero : itoaS 0 = [48] := by
 unfold itoaS itoa
 rw [if_neg (by decide), decDigits]
 rfl
theorem spells_inv {w : List UInt8} (h : spellsI w = true) : itoaS (valA w) = w := by
 unfold spellsI at h
 rw [Bool.and_eq_true] at h
 exact eq_of_beq h.2
end Go.Pl
namespace Go.Pl
open Go Go.Sx Go.Proofs
def goodS (x y op k v : Int) : Bool := !(badOp x op || badKV x y op k v)
structure InvB (m : Nat) (s : Sta) : Prop where
 kd : s.kind = 1 ∨ s.kind = 2 ∨ s.kind = 3 ∨ s.kind = 4
 lq : s.q.length ≤ m
 lp : s.ps.length ≤ m
 nm : s.kind = 1 ∨ s.kind = 2 → s.q = [] ∧ s.ps = [] ∧ beyondB s.kind 0 s.num = false
 qu : s.kind = 3 → s.num = 0 ∧ s.ps = [] ∧ ∀ v ∈ s.q, beyondB 3 0 v = false
 mp : s.kind = 4 → s.num = 0 ∧ s.q = [] ∧ SortP s.ps ∧ ∀ p ∈ s.ps, beyondB 4 p.key p.val = false
theorem bey_in {k x y : Int} (h : beyondB k x y = false) : 0 ≤ x ∧ x ≤ 1000 ∧ -1000000000000000 ≤ y ∧ y ≤ 1000000000000000 := by
 unfold beyondB at h
 simp only [Bool.or_eq_false_iff, decide_eq_false_iff_not] at h
 split at h <;> omega
theorem bey_mk {k x y : Int} (h1 : 0 ≤ x) (h2 : x ≤ 1000) (h3 : -1000000000 ≤ y) (h4 : y ≤ 1000000000) : beyondB k x y = false := by
 unfold beyondB
 simp only [Bool.or_eq_false_iff, decide_eq_false_iff_not]
 split <;> omega
theorem bey_i64 {k x y : Int} (h : beyondB k x y = false) : in64 x = true ∧ in64 y = true := by
 have := bey_in h
 exact ⟨decide_eq_true (by omega), decide_eq_true (by omega)⟩
theorem put_mem {k v : Int} : ∀ {ps : List Pr}, SortP ps → ∀ p ∈ putP ps k v, p = ⟨k, v⟩ ∨ p ∈ ps
 | [], _, p, hp => by
  have e : putP [] k v = [⟨k, v⟩] := by simp [putP, hasP, posP]
  rw [e] at hp
  exact .inl (by simpa using hp)
 | a :: ps, hs, p, hp => by
  by_cases c1 : a.key < k
  ·rw [put_lt c1] at hp
   rcases List.mem_cons.1 hp with rfl | hp
   ·exact .inr List.mem_cons_self
   ·rcases put_mem (sort_cons hs).2 p hp with h | h
    ·exact .inl h
    ·exact .inr (List.mem_cons_of_mem _ h)
  ·by_cases c2 : a.key = k
   ·rw [put_eq c2] at hp
    rcases List.mem_cons.1 hp with rfl | hp
    ·exact .inl rfl
    ·exact .inr (List.mem_cons_of_mem _ hp)
   ·rw [put_gt hs (by omega)] at hp
    rcases List.mem_cons.1 hp with rfl | hp
    ·exact .inl rfl
    ·exact .inr hp
theorem put_len (ps : List Pr) (k v : Int) : (putP ps k v).length ≤ ps.length + 1 := by
 rw [len_put]
 split <;> omega
theorem del_len {k : Int} : ∀ {ps : List Pr}, SortP ps → (delP ps k).length ≤ ps.length
 | [], _ => by simp [delP, hasP]
 | a :: ps, hs => by
  by_cases c1 : a.key < k
  ·rw [del_lt c1]
   have := del_len (k := k) (sort_cons hs).2
   simp only [List.length_cons]; omega
  ·by_cases c2 : a.key = k
   ·rw [del_eq c2]; simp
   ·rw [del_gt hs (by omega)]; exact Nat.le_refl _
theorem goodS_op {x y op k v : Int} (h : goodS x y op k v = true) : ofOp op = x ∧ x ≠ 0 ∧ 0 ≤ k ∧ k ≤ 1000 ∧ -1000000000 ≤ v ∧ v ≤ 1000000000 ∧ (op = 3 → beyondB x 0 (addW y v) = false) := by
 unfold goodS badOp badKV at h
 simp only [Bool.not_eq_true', Bool.or_eq_false_iff, decide_eq_false_iff_not, Bool.not_eq_false', decide_eq_true_eq, Bool.and_eq_false_imp] at h
 obtain ⟨⟨h1, h2⟩, h3⟩ := h
 obtain ⟨⟨⟨⟨⟨⟨a1, a2⟩, a3⟩, a4⟩, a5⟩, a6⟩, a7⟩ := h3
 exact ⟨h2, h1, by omega, by omega, by omega, by omega, fun e => a7 e⟩
theorem ofOp_in {op x : Int} (h : ofOp op = x) (hx : x ≠ 0) : (x = 1 ∧ (op = 1 ∨ op = 2)) ∨ (x = 2 ∧ (op = 3 ∨ op = 4)) ∨ (x = 3 ∧ (op = 5 ∨ op = 6)) ∨ (x = 4 ∧ (op = 7 ∨ op = 8 ∨ op = 9)) := by
 unfold ofOp at h
 repeat' split at h
 all_goals omega
theorem invB_nx {m : Nat} {s : Sta} {op k v : Int} (h : InvB m s) (hg : goodS s.kind s.num op k v = true) : InvB (m + 1) (opT s op k v).1 := by
 obtain ⟨h1, h2, h3, h4, h5, h6, h7⟩ := goodS_op hg
 have hu : InvB (m + 1) s := ⟨h.kd, Nat.le_succ_of_le h.lq, Nat.le_succ_of_le h.lp, h.nm, h.qu, h.mp⟩
 have hlq := h.lq
 have hlp := h.lp
 rcases ofOp_in h1 h2 with ⟨e, o⟩ | ⟨e, o⟩ | ⟨e, o⟩ | ⟨e, o⟩
 ·have hn := h.nm (.inl e)
  rcases o with rfl | rfl
  ·exact hu
  ·refine ⟨h.kd, hu.lq, hu.lp, fun _ => ⟨hn.1, hn.2.1, ?_⟩, fun q => ?_, fun q => ?_⟩
   ·exact bey_mk (Int.le_refl 0) (by omega) h5 h6
   ·have q : s.kind = 3 := q
    omega
   ·have q : s.kind = 4 := q
    omega
 ·have hn := h.nm (.inr e)
  rcases o with rfl | rfl
  ·refine ⟨h.kd, hu.lq, hu.lp, fun _ => ⟨hn.1, hn.2.1, h7 rfl⟩, fun q => ?_, fun q => ?_⟩
   ·have q : s.kind = 3 := q
    omega
   ·have q : s.kind = 4 := q
    omega
  ·exact hu
 ·have hn := h.qu e
  rcases o with rfl | rfl
  ·refine ⟨h.kd, ?_, hu.lp, fun q => ?_, fun _ => ⟨hn.1, hn.2.1, fun x hx => ?_⟩, fun q => ?_⟩
   ·show (s.q ++ [v]).length ≤ m + 1
    simp; omega
   ·have q : s.kind = 1 ∨ s.kind = 2 := q
    omega
   ·rcases List.mem_append.1 hx with hx | hx
    ·exact hn.2.2 x hx
    ·obtain rfl : x = v := by simpa using hx
     exact bey_mk (Int.le_refl 0) (by omega) h5 h6
   ·have q : s.kind = 4 := q
    omega
  ·refine ⟨h.kd, ?_, hu.lp, fun q => ?_, fun _ => ⟨hn.1, hn.2.1, fun x hx => hn.2.2 x (List.mem_of_mem_tail hx)⟩, fun q => ?_⟩
   ·show s.q.tail.length ≤ m + 1
    simp; omega
   ·have q : s.kind = 1 ∨ s.kind = 2 := q
    omega
   ·have q : s.kind = 4 := q
    omega
 ·have hn := h.mp e
  rcases o with rfl | rfl | rfl
  ·refine ⟨h.kd, hu.lq, ?_, fun q => ?_, fun q => ?_, fun _ => ⟨hn.1, hn.2.1, (put_keys hn.2.2.1).2, fun p hp => ?_⟩⟩
   ·have := put_len s.ps k v
    show (putP s.ps k v).length ≤ m + 1
    omega
   ·have q : s.kind = 1 ∨ s.kind = 2 := q
    omega
   ·have q : s.kind = 3 := q
    omega
   ·rcases put_mem hn.2.2.1 p hp with rfl | hp
    ·exact bey_mk h3 h4 h5 h6
    ·exact hn.2.2.2 p hp
  ·exact hu
  ·refine ⟨h.kd, hu.lq, ?_, fun q => ?_, fun q => ?_, fun _ => ⟨hn.1, hn.2.1, (del_keys hn.2.2.1).2, fun p hp => hn.2.2.2 p ((del_keys hn.2.2.1).1 p hp)⟩⟩
   ·have := del_len (k := k) hn.2.2.1
    show (delP s.ps k).length ≤ m + 1
    omega
   ·have q : s.kind = 1 ∨ s.kind = 2 := q
    omega
   ·have q : s.kind = 3 := q
    omega
theorem invB_new {k i : Int} (h : badOb k i = false) : InvB 0 ⟨k, i, [], []⟩ := by
 unfold badOb at h
 simp only [Bool.or_eq_false_iff, Bool.not_eq_false', Bool.and_eq_true, decide_eq_true_eq, decide_eq_false_iff_not, Bool.and_eq_false_imp, Bool.not_eq_true', Bool.or_eq_false_iff] at h
 obtain ⟨⟨⟨⟨h1, h2⟩, h3⟩, h4⟩, h5⟩ := h
 have h0 : k ≠ 1 → k ≠ 2 → i = 0 := fun a b => by
  exact h5 ⟨a, b⟩
 refine ⟨?_, Nat.le_refl 0, Nat.le_refl 0, fun q => ⟨rfl, rfl, bey_mk (Int.le_refl 0) (by omega) (show -1000000000 ≤ i by omega) (show i ≤ 1000000000 by omega)⟩, fun q => ⟨?_, rfl, fun _ h => by cases h⟩, fun q => ⟨?_, rfl, List.Pairwise.nil, fun _ h => by cases h⟩⟩
 ·show k = 1 ∨ k = 2 ∨ k = 3 ∨ k = 4
  omega
 ·have q : k = 3 := q
  exact h0 (by omega) (by omega)
 ·have q : k = 4 := q
  exact h0 (by omega) (by omega)
def pairW (p : Pr) : List UInt8 := itoaS p.key ++ [58] ++ itoaS p.val
theorem pairW_eq (p : Pr) : pairW p = itoaS p.key ++ 58 :: itoaS p.val := by simp [pairW]
theorem no58 (n : Int) : (58 : UInt8) ∉ itoaS n := itoa_no (.inr (.inl rfl))
theorem no32 (n : Int) : (32 : UInt8) ∉ itoaS n := itoa_no (.inl rfl)
theorem num_word {k n : Int} (hk : k ≠ 4) (hb : in64 n = true) : okW k (itoaS n) = true ∧ valA (wV (itoaS n)) = n ∧ valA (wK (itoaS n)) = 0 := by
 have h1 : cutI (itoaS n) 58 = false := by unfold cutI; rw [cut_no (no58 n)]
 have h2 : wV (itoaS n) = itoaS n := by unfold wV; rw [h1]; rfl
 have h3 : wK (itoaS n) = itoaS 0 := by unfold wK; rw [h1, itoa_zero]; rfl
 refine ⟨?_, by rw [h2, val_itoa hb], by rw [h3, val_itoa rfl]⟩
 unfold okW
 rw [h1, h2, h3, spells_itoa hb, spells_itoa rfl, decide_eq_false hk]
 rfl
theorem pair_word {p : Pr} (h1 : in64 p.key = true) (h2 : in64 p.val = true) : okW 4 (pairW p) = true ∧ valA (wV (pairW p)) = p.val ∧ valA (wK (pairW p)) = p.key := by
 have e := cut_app (no58 p.key) (itoaS p.val)
 have e1 : cutI (pairW p) 58 = true := by unfold cutI; rw [pairW_eq, e]
 have e2 : wV (pairW p) = itoaS p.val := by unfold wV cutB; rw [e1, pairW_eq, e]; rfl
 have e3 : wK (pairW p) = itoaS p.key := by unfold wK cutA; rw [e1, pairW_eq, e]; rfl
 refine ⟨?_, by rw [e2, val_itoa h2], by rw [e3, val_itoa h1]⟩
 unfold okW
 rw [e1, e2, e3, spells_itoa h1, spells_itoa h2]
 rfl
theorem go_q : ∀ (r q : List Int), (∀ v ∈ r, beyondB 3 0 v = false) → goW ⟨3, 0, q, []⟩ false (r.map itoaS) = some (⟨3, 0, q ++ r, []⟩, false)
 | [], q, _ => by simp [goW]
 | v :: r, q, h => by
  have hv := h v List.mem_cons_self
  obtain ⟨a1, a2, a3⟩ := num_word (k := 3) (by decide) (bey_i64 hv).2
  rw [List.map_cons, goW, if_pos ⟨a1, fun (e : (3 : Int) = 4) => absurd e (by decide)⟩]
  have e1 : addS ⟨3, 0, q, []⟩ (itoaS v) = ⟨3, 0, q ++ [v], []⟩ := by unfold addS; rw [if_pos rfl, a2]
  have e2 : farW 3 (itoaS v) = false := by unfold farW; rw [a2, a3]; exact hv
  show goW _ (false || farW 3 (itoaS v)) _ = _
  rw [e1, e2, Bool.or_false, go_q r _ fun x hx => h x (List.mem_cons_of_mem _ hx)]
  simp
theorem go_p : ∀ (r q : List Pr), SortP (q ++ r) → (∀ p ∈ r, beyondB 4 p.key p.val = false) → goW ⟨4, 0, [], q⟩ false (r.map pairW) = some (⟨4, 0, [], q ++ r⟩, false)
 | [], q, _, _ => by simp [goW]
 | p :: r, q, hs, h => by
  have hv := h p List.mem_cons_self
  obtain ⟨a1, a2, a3⟩ := pair_word (p := p) (bey_i64 hv).1 (bey_i64 hv).2
  have hr : rises q (valA (wK (pairW p))) = true := by
   rw [a3]
   unfold rises
   cases q with
   | nil => rfl
   | cons x t =>
    have hm : nth (x :: t) ((x :: t).length - 1) ∈ (x :: t) := by
     have e : nth (x :: t) ((x :: t).length - 1) = (x :: t)[(x :: t).length - 1]'(by simp) := by simp [nth]
     rw [e]; exact List.getElem_mem _
    have := (List.pairwise_append.1 hs).2.2 _ hm p List.mem_cons_self
    simp only [Bool.or_eq_true, Bool.not_eq_true', decide_eq_false_iff_not]
    exact .inr (by omega)
  rw [List.map_cons, goW, if_pos ⟨a1, fun _ => hr⟩]
  have e1 : addS ⟨4, 0, [], q⟩ (pairW p) = ⟨4, 0, [], q ++ [p]⟩ := by unfold addS; rw [if_neg (show ¬ (4 : Int) = 3 by decide), if_pos rfl, a2, a3]
  have e2 : farW 4 (pairW p) = false := by unfold farW; rw [a2, a3]; exact hv
  show goW _ (false || farW 4 (pairW p)) _ = _
  rw [e1, e2, Bool.or_false, go_p r _ (by simpa using hs) fun x hx => h x (List.mem_cons_of_mem _ hx)]
  simp
theorem rest_eq (a : List UInt8) (ws : List (List UInt8)) : ∀ r i, i + r = ws.length → restW (fun j => nth (a :: ws) (1 + j)) i r = ws.drop i
 | 0, i, h => by rw [restW, List.drop_of_length_le (by omega)]
 | r + 1, i, h => by
  rw [restW, rest_eq a ws r (i + 1) (by omega)]
  have hi : i < ws.length := by omega
  rw [List.drop_eq_getElem_cons hi]
  congr 1
  show nth (a :: ws) (1 + i) = _
  rw [Nat.add_comm 1 i]
  simp [nth, hi]
theorem fromS_split {l a : List UInt8} {ws : List (List UInt8)} (h : splitS l 32 = a :: ws) : fromS l = if kindW a = 0 then none else if (kindW a = 1 ∨ kindW a = 2) ∧ ws.length ≠ 1 then none else goW ⟨kindW a, 0, [], []⟩ false ws := by
 unfold fromS
 rw [h]
 have e1 : nth (a :: ws) 0 = a := rfl
 have e2 : restW (fun j => nth (a :: ws) (1 + j)) 0 ((a :: ws).length - 1) = ws := by
  rw [rest_eq a ws _ 0 (by simp)]; rfl
 rw [e1, e2]
 have e3 : ((a :: ws).length ≠ 2) = (ws.length ≠ 1) := by simp
 simp only [e3]
theorem word_no {k : Int} : (32 : UInt8) ∉ wordO k := by
 unfold wordO
 repeat' split
 all_goals decide
theorem parts_no {s : Sta} : ∀ w ∈ partsS s, (32 : UInt8) ∉ w := fun w hw => by
 unfold partsS at hw
 rcases List.mem_cons.1 hw with rfl | hw
 ·exact word_no
 ·split at hw
  ·obtain rfl : w = itoaS s.num := by simpa using hw
   exact no32 _
  ·split at hw
   ·obtain ⟨n, _, rfl⟩ := List.mem_map.1 hw
    exact no32 n
   ·split at hw
    ·obtain ⟨p, _, rfl⟩ := List.mem_map.1 hw
     intro h
     simp only [List.mem_append, List.mem_singleton] at h
     rcases h with (h | h) | h
     ·exact no32 _ h
     ·exact absurd h (by decide)
     ·exact no32 _ h
    ·cases hw
theorem from_key {m : Nat} {s : Sta} (h : InvB m s) : fromS (keyS s) = some (s, false) := by
 have hs : splitS (keyS s) 32 = partsS s := split_join _ _ parts_no
 obtain ⟨kind, num, q, ps⟩ := s
 have hk := h.kd
 have h1 := h.nm
 have h2 := h.qu
 have h3 := h.mp
 simp only at hk h1 h2 h3
 rcases hk with rfl | rfl | rfl | rfl
 ·obtain ⟨rfl, rfl, hb⟩ := h1 (.inl rfl)
  obtain ⟨a1, a2, a3⟩ := num_word (k := 1) (by decide) (bey_i64 hb).2
  have e : partsS ⟨1, num, [], []⟩ = wordO 1 :: [itoaS num] := rfl
  rw [fromS_split (hs.trans e), show kindW (wordO 1) = 1 from rfl, if_neg (by decide), if_neg (by simp), goW, if_pos ⟨a1, fun e => absurd e (by decide)⟩, goW]
  have e1 : addS ⟨1, 0, [], []⟩ (itoaS num) = ⟨1, num, [], []⟩ := by unfold addS; rw [if_neg (by decide), if_neg (by decide), a2]
  have e2 : farW 1 (itoaS num) = false := by unfold farW; rw [a2, a3]; exact hb
  rw [e1]
  show some (_, false || farW 1 (itoaS num)) = _
  rw [e2]; rfl
 ·obtain ⟨rfl, rfl, hb⟩ := h1 (.inr rfl)
  obtain ⟨a1, a2, a3⟩ := num_word (k := 2) (by decide) (bey_i64 hb).2
  have e : partsS ⟨2, num, [], []⟩ = wordO 2 :: [itoaS num] := rfl
  rw [fromS_split (hs.trans e), show kindW (wordO 2) = 2 from rfl, if_neg (by decide), if_neg (by simp), goW, if_pos ⟨a1, fun e => absurd e (by decide)⟩, goW]
  have e1 : addS ⟨2, 0, [], []⟩ (itoaS num) = ⟨2, num, [], []⟩ := by unfold addS; rw [if_neg (by decide), if_neg (by decide), a2]
  have e2 : farW 2 (itoaS num) = false := by unfold farW; rw [a2, a3]; exact hb
  rw [e1]
  show some (_, false || farW 2 (itoaS num)) = _
  rw [e2]; rfl
 ·obtain ⟨rfl, rfl, hb⟩ := h2 rfl
  have e : partsS ⟨3, 0, q, []⟩ = wordO 3 :: q.map itoaS := rfl
  rw [fromS_split (hs.trans e), show kindW (wordO 3) = 3 from rfl, if_neg (by decide), if_neg (by simp), go_q q [] hb]
  rfl
 ·obtain ⟨rfl, rfl, hb, hc⟩ := h3 rfl
  have e : partsS ⟨4, 0, [], ps⟩ = wordO 4 :: ps.map pairW := rfl
  rw [fromS_split (hs.trans e), show kindW (wordO 4) = 4 from rfl, if_neg (by decide), if_neg (by simp), go_p ps [] (by simpa using hb) hc]
  rfl
def tellsS (s : Sta) : List (List UInt8) := if s.kind = 3 then s.q.map itoaS else if s.kind = 4 then s.ps.map pairW else []
theorem word_num {k : Int} {w : List UInt8} (hk : k ≠ 4) (h : okW k w = true) : itoaS (valA (wV w)) = w := by
 unfold okW at h
 rw [Bool.and_eq_true, Bool.and_eq_true, decide_eq_false hk] at h
 have h1 : cutI w 58 = false := eq_of_beq h.1.1
 have h2 : wV w = w := by unfold wV; rw [h1]; rfl
 have := h.1.2
 rw [h2] at this ⊢
 exact spells_inv this
theorem word_pair {w : List UInt8} (h : okW 4 w = true) : pairW ⟨valA (wK w), valA (wV w)⟩ = w := by
 unfold okW at h
 rw [Bool.and_eq_true, Bool.and_eq_true] at h
 have h1 : cutI w 58 = true := eq_of_beq h.1.1
 have e2 : wV w = cutB w 58 := by unfold wV; rw [h1]; rfl
 have e3 : wK w = cutA w 58 := by unfold wK; rw [h1]; rfl
 rw [pairW_eq, e2, e3]
 have a := spells_inv h.2
 have b := spells_inv h.1.2
 rw [e3] at a
 rw [e2] at b
 show itoaS (valA (cutA w 58)) ++ 58 :: itoaS (valA (cutB w 58)) = w
 rw [a, b]
 exact (cut_inv h1).symm
structure NumS (m : Nat) (s : Sta) : Prop where
 lq : s.q.length ≤ m
 lp : s.ps.length ≤ m
 nm : in64 s.num = true
 qu : ∀ v ∈ s.q, in64 v = true
 mp : ∀ p ∈ s.ps, in64 p.key = true ∧ in64 p.val = true
theorem add_kind (s : Sta) (w : List UInt8) : (addS s w).kind = s.kind := by
 unfold addS
 repeat' split
 all_goals rfl
theorem go_far : ∀ (ws : List (List UInt8)) (s s' : Sta) (b : Bool), goW s b ws = some (s', false) → b = false
 | [], s, s', b, h => by
  rw [goW] at h
  injection h with h
  injection h
 | w :: ws, s, s', b, h => by
  rw [goW] at h
  split at h
  ·have := go_far ws _ _ _ h
   rw [Bool.or_eq_false_iff] at this
   exact this.1
  ·cases h
theorem go_num : ∀ (ws : List (List UInt8)) (m : Nat) (s s' : Sta), NumS m s → goW s false ws = some (s', false) → NumS (m + ws.length) s' ∧ s'.kind = s.kind ∧ (s.kind = 3 ∨ s.kind = 4 → tellsS s' = tellsS s ++ ws)
 | [], m, s, s', hn, h => by
  rw [goW] at h
  injection h with h
  injection h with h
  subst h
  exact ⟨hn, rfl, fun _ => by simp⟩
 | w :: ws, m, s, s', hn, h => by
  rw [goW] at h
  split at h
  ·rename_i hw
   have hf := go_far ws _ _ _ h
   rw [hf] at h
   rw [Bool.or_eq_false_iff] at hf
   obtain ⟨b1, b2⟩ := bey_i64 (k := s.kind) hf.2
   have h1 : NumS (m + 1) (addS s w) := by
    have hlq := hn.lq
    have hlp := hn.lp
    unfold addS
    split
    ·refine ⟨by simp; omega, by show s.ps.length ≤ _; omega, hn.nm, fun v hv => ?_, hn.mp⟩
     rcases List.mem_append.1 hv with hv | hv
     ·exact hn.qu v hv
     ·obtain rfl : v = valA (wV w) := by simpa using hv
      exact b2
    ·split
     ·refine ⟨by show s.q.length ≤ _; omega, by simp; omega, hn.nm, hn.qu, fun p hp => ?_⟩
      rcases List.mem_append.1 hp with hp | hp
      ·exact hn.mp p hp
      ·obtain rfl : p = ⟨valA (wK w), valA (wV w)⟩ := by simpa using hp
       exact ⟨b1, b2⟩
     ·exact ⟨by show s.q.length ≤ _; omega, by show s.ps.length ≤ _; omega, b2, hn.qu, hn.mp⟩
   obtain ⟨i1, i2, i3⟩ := go_num ws (m + 1) _ _ h1 h
   refine ⟨by rw [List.length_cons]; rw [Nat.add_assoc, Nat.add_comm 1] at i1; exact i1, i2.trans (add_kind s w), fun hk => ?_⟩
   rw [i3 (by rw [add_kind]; exact hk)]
   rcases hk with hk | hk
   ·have e : tellsS (addS s w) = tellsS s ++ [w] := by
     have := word_num (k := s.kind) (by omega) hw.1
     unfold addS tellsS
     rw [if_pos hk, if_pos hk, if_pos hk]
     simp [this]
    rw [e]; simp
   ·have e : tellsS (addS s w) = tellsS s ++ [w] := by
     have hw1 := hw.1
     rw [hk] at hw1
     have := word_pair hw1
     have h3 : ¬ s.kind = 3 := by omega
     unfold addS tellsS
     rw [if_neg h3, if_pos hk, if_neg h3, if_pos hk, if_neg h3, if_pos hk]
     simp [this]
    rw [e]; simp
  ·cases h
theorem kind_word {a : List UInt8} (h : kindW a ≠ 0) : wordO (kindW a) = a ∧ (kindW a = 1 ∨ kindW a = 2 ∨ kindW a = 3 ∨ kindW a = 4) := by
 unfold kindW at *
 by_cases h1 : W7 7 0 = a
 ·rw [if_pos h1]; exact ⟨h1, .inl rfl⟩
 ·rw [if_neg h1] at h ⊢
  by_cases h2 : W7 7 1 = a
  ·rw [if_pos h2]; exact ⟨h2, .inr (.inl rfl)⟩
  ·rw [if_neg h2] at h ⊢
   by_cases h3 : W7 7 2 = a
   ·rw [if_pos h3]; exact ⟨h3, .inr (.inr (.inl rfl))⟩
   ·rw [if_neg h3] at h ⊢
    by_cases h4 : W7 7 3 = a
    ·rw [if_pos h4]; exact ⟨h4, .inr (.inr (.inr rfl))⟩
    ·rw [if_neg h4] at h
     exact absurd rfl h
theorem key_from {l : List UInt8} {s : Sta} (h : fromS l = some (s, false)) : keyS s = l ∧ NumS (splitS l 32).length s := by
 obtain ⟨a, ws, e⟩ := spl_some 32 l
 rw [fromS_split e] at h
 split at h
 ·cases h
 ·rename_i h0
  split at h
  ·cases h
  ·rename_i h12
   obtain ⟨k1, k2⟩ := kind_word h0
   obtain ⟨n1, n2, n3⟩ := go_num ws 0 ⟨kindW a, 0, [], []⟩ s ⟨Nat.le_refl 0, Nat.le_refl 0, rfl, (fun _ h => by cases h), (fun _ h => by cases h)⟩ h
   have hj := join_split 32 l
   rw [e] at hj
   have n2 : s.kind = kindW a := n2
   have hp : partsS s = a :: ws := by
    unfold partsS
    rw [n2, k1]
    congr 1
    rcases k2 with k | k | k | k
    ·have hl : ws.length = 1 := Classical.byContradiction fun q => h12 ⟨.inl k, q⟩
     match ws, hl with
     | [w], _ =>
      rw [goW] at h
      split at h
      ·rename_i hw
       rw [goW] at h
       injection h with h
       injection h with h _
       have := word_num (k := kindW a) (by omega) hw.1
       rw [if_pos (.inl k), ← h]
       unfold addS
       rw [if_neg (by show ¬ kindW a = 3; omega), if_neg (by show ¬ kindW a = 4; omega)]
       show [itoaS (valA (wV w))] = [w]
       rw [this]
      ·cases h
    ·have hl : ws.length = 1 := Classical.byContradiction fun q => h12 ⟨.inr k, q⟩
     match ws, hl with
     | [w], _ =>
      rw [goW] at h
      split at h
      ·rename_i hw
       rw [goW] at h
       injection h with h
       injection h with h _
       have := word_num (k := kindW a) (by omega) hw.1
       rw [if_pos (.inr k), ← h]
       unfold addS
       rw [if_neg (by show ¬ kindW a = 3; omega), if_neg (by show ¬ kindW a = 4; omega)]
       show [itoaS (valA (wV w))] = [w]
       rw [this]
      ·cases h
    ·have t := n3 (.inl k)
     unfold tellsS at t
     rw [if_pos (n2.trans k), if_pos (show kindW a = 3 from k)] at t
     rw [if_neg (by omega), if_pos k, t]; rfl
    ·have t := n3 (.inr k)
     have q3 : ¬ kindW a = 3 := by omega
     unfold tellsS at t
     rw [if_neg (by omega), if_pos (n2.trans k), if_neg (show ¬ kindW a = 3 from q3), if_pos (show kindW a = 4 from k)] at t
     rw [if_neg (by omega), if_neg q3, if_pos k]
     exact t
   refine ⟨?_, ?_⟩
   ·unfold keyS
    rw [hp]; exact hj
   ·rw [e]
    obtain ⟨m1, m2, m3, m4, m5⟩ := n1
    exact ⟨by simp; omega, by simp; omega, m3, m4, m5⟩
end Go.Pl
namespace Go.Pl
open Go Go.Sx Go.Proofs
def badS (x y op k v : Int) : Bool := badOp x op || badKV x y op k v
def errS (x op : Int) : Nat := if badOp x op = true then 1 else 3
def isES (e : Nat) (x op : Int) : Bool := Nat.beq (errS x op) e
def okS (a : Nat) (h : Nat → List Sh) (b : Nat) (l : Nat → List Sh) : Bool := (okB Int a h && roomB (a + 1) 8) && (wfG b l && roomB (b + 1) 16)
def nuS (x y op k v : Int) (a : Nat) (h : Nat → List Sh) (b : Nat) (l : Nat → List Sh) : Int := (opT ⟨x, y, lst Int a h, lst Pr b l⟩ op k v).1.num
def nqS (x y op k v : Int) (a : Nat) (h : Nat → List Sh) (b : Nat) (l : Nat → List Sh) : List Int := (opT ⟨x, y, lst Int a h, lst Pr b l⟩ op k v).1.q
def npS (x y op k v : Int) (a : Nat) (h : Nat → List Sh) (b : Nat) (l : Nat → List Sh) : List Pr := (opT ⟨x, y, lst Int a h, lst Pr b l⟩ op k v).1.ps
def rtS (x y op k v : Int) (a : Nat) (h : Nat → List Sh) (b : Nat) (l : Nat → List Sh) : Int := (opT ⟨x, y, lst Int a h, lst Pr b l⟩ op k v).2.1
def gtS (x y op k v : Int) (a : Nat) (h : Nat → List Sh) (b : Nat) (l : Nat → List Sh) : Int := (opT ⟨x, y, lst Int a h, lst Pr b l⟩ op k v).2.2
theorem op_kind (s : Sta) (op k v : Int) : (opT s op k v).1.kind = s.kind := by
 unfold opT
 repeat' split
 all_goals rfl
theorem okS_ok {a : Nat} {h : Nat → List Sh} {b : Nat} {l : Nat → List Sh} (q : okS a h b l = true) (op : Int) : okB Int a h = true ∧ okB Pr b l = true ∧ roomB (a + 1) 8 = true ∧ mapOK op b l = true := by
 unfold okS at q
 rw [Bool.and_eq_true, Bool.and_eq_true] at q
 obtain ⟨⟨h1, h2⟩, h3⟩ := q
 refine ⟨h1, ?_, h2, ?_⟩
 ·rw [Bool.and_eq_true] at h3
  have := h3.1
  unfold wfG at this
  rw [Bool.and_eq_true, Bool.and_eq_true] at this
  exact this.1.1
 ·unfold mapOK; rw [h3]; simp
end Go.Pl
namespace Go.Proofs
open Go Go.Sx Go.Pl
noncomputable def okResS (x y op k v : Int) (a : Nat) (h : Nat → List Sh) (b : Nat) (l : Nat → List Sh) : Sh :=
 .tup [.agg [.i .i64 x, .i .i64 (nuS x y op k v a h b l), .sl 1 (len (nqS x y op k v a h b l)) (fnR (nth (nqS x y op k v a h b l))), .sl 2 (len (npS x y op k v a h b l)) (fnR (nth (npS x y op k v a h b l)))], .i .i64 (rtS x y op k v a h b l), .i .i64 (gtS x y op k v a h b l), .v .nilIface]
noncomputable def S42g : List Sh → Tree Sh
 | [.agg [.i .i64 x, .i .i64 y, s2, s3], t, u, v] => match slN 1 s2, slN 2 s3, icode t, icode u, icode v with
  | some (a, h), some (b, l), some op, some k, some v => .need (okS a h b l) (.need (goodS x y op k v) (.leaf (okResS x y op k v a h b l)))
  | _, _, _, _, _ => .fail
 | _ => .fail
noncomputable def S42b (e : Nat) : List Sh → Tree Sh
 | [.agg [.i .i64 x, .i .i64 y, s2, s3], t, u, v] => match slN 1 s2, slN 2 s3, icode t, icode u, icode v with
  | some (a, h), some (b, l), some op, some k, some v => .need (okS a h b l) (.need (badS x y op k v) (.need (isES e x op) (.leaf (erZ e))))
  | _, _, _, _, _ => .fail
 | _ => .fail
theorem err_casesS (x op : Int) : isES 1 x op = true ∨ isES 3 x op = true := by
 unfold isES errS
 split
 ·exact .inl rfl
 ·exact .inr rfl
theorem good_bad {x y op k v : Int} (h : goodS x y op k v = false) : badS x y op k v = true := by
 unfold goodS at h
 unfold badS
 generalize (badOp x op || badKV x y op k v) = b at h ⊢
 cases b
 ·cases h
 ·rfl
theorem OS42g : FnOK Tryz.prog (gls7 W7) 42 S42g := by
 intro H w shs args φ hon hg hr h
 unfold S42g at h
 split at h
 ·rename_i x y s2 s3 t u v
  split at h
  ·rename_i a hh b l op k v e1 e2 e3 e4 e5
   obtain ⟨h1, h2, hφ⟩ := h
   obtain ⟨m1, m2, m3, m4⟩ := okS_ok h1 op
   have hb' : badOp x op = false ∧ badKV x y op k v = false := by
    unfold goodS at h2
    simpa using h2
   have ek := op_kind ⟨x, y, lst Int a hh, lst Pr b l⟩ op k v
   refine O42 H w _ args φ hon hg hr ?_
   unfold F42
   simp only [e1, e2, e3, e4, e5]
   refine ⟨m1, m2, m3, fun q => no2 hb'.1 q, fun _ => ⟨fun q => no2 hb'.2 q, fun _ => ⟨m4, ?_⟩⟩⟩
   have : staS (opT ⟨x, y, lst Int a hh, lst Pr b l⟩ op k v).1 = [.i .i64 x, .i .i64 (nuS x y op k v a hh b l), .sl 1 (len (nqS x y op k v a hh b l)) (fnR (nth (nqS x y op k v a hh b l))), .sl 2 (len (npS x y op k v a hh b l)) (fnR (nth (npS x y op k v a hh b l)))] := by
    unfold staS
    rw [ek]
    rfl
   show φ _
   rw [this]
   exact hφ
  ·exact h.elim
 ·exact h.elim
theorem OS42b (e : Nat) : FnOK Tryz.prog (gls7 W7) 42 (S42b e) := by
 intro H w shs args φ hon hg hr h
 unfold S42b at h
 split at h
 ·rename_i x y s2 s3 t u v
  split at h
  ·rename_i a hh b l op k v e1 e2 e3 e4 e5
   obtain ⟨h1, hb, he, hφ⟩ := h
   have he := Nat.eq_of_beq_eq_true he
   obtain ⟨m1, m2, m3, m4⟩ := okS_ok h1 op
   refine (O42 H w _ args (fun s => s = .tup [.agg (staS zeroT), .i .i64 0, .i .i64 0, .er (errS x op) 242]) hon hg hr ?_).mono fun e w' ⟨v', s, H', he2, hs, r⟩ => ?_
   ·unfold F42
    simp only [e1, e2, e3, e4, e5]
    refine ⟨m1, m2, m3, fun q => ?_, fun q => ⟨fun _ => ?_, fun q2 => ?_⟩⟩
    ·show _ = _
     unfold errS; rw [if_pos q]
    ·show _ = _
     unfold errS; rw [if_neg (by rw [q]; simp)]
    ·unfold badS at hb
     rw [q] at hb
     exact no2 q2 hb
   ·subst hs
    rw [he] at r
    obtain ⟨H2, r2⟩ := (res_q4 r).wk (s' := erZ _) ⟨⟨rfl, rfl, .inl ⟨rfl, rfl⟩, .inl ⟨rfl, rfl⟩, trivial⟩, rfl, rfl, rfl, trivial⟩
    exact ⟨v', _, H2, he2, hφ, r2⟩
  ·exact h.elim
 ·exact h.elim
end Go.Proofs
namespace Go.Pl
open Go Go.Sx Go.Proofs
def kyS (x y : Int) (a : Nat) (h : Nat → List Sh) (b : Nat) (l : Nat → List Sh) : Bool :=
 okB Int a h && (okB Pr b l && (in64 x && (in64 y && (numsB a (rwAt h) && (prsB b (rwAt l) && decide (a ≤ 100000 ∧ b ≤ 100000))))))
def keyG (x y : Int) (a : Nat) (h : Nat → List Sh) (b : Nat) (l : Nat → List Sh) : List UInt8 := keyS ⟨x, y, lst Int a h, lst Pr b l⟩
def eqG (x y : Int) (a : Nat) (h : Nat → List Sh) (b : Nat) (l : Nat → List Sh) (x' y' : Int) (a' : Nat) (h' : Nat → List Sh) (b' : Nat) (l' : Nat → List Sh) : Bool :=
 decide ((⟨x, y, lst Int a h, lst Pr b l⟩ : Sta) = ⟨x', y', lst Int a' h', lst Pr b' l'⟩)
def kiF (l : List UInt8) : Int := (stO l).kind
def nuF (l : List UInt8) : Int := (stO l).num
def nqF (l : List UInt8) : List Int := (stO l).q
def npF (l : List UInt8) : List Pr := (stO l).ps
end Go.Pl
namespace Go.Proofs
open Go.Sx.Tree
open Go Go.Sx Go.Pl
noncomputable def B41 : List Sh → Tree Sh
 | [.agg [.i .i64 k, .i .i64 i]] => .need (in64 k) (.node (badOb k i) (.leaf (.tup [.agg [.v (.int .i64 0), .v (.int .i64 0), .sl 1 0 noI, .sl 2 0 noP], .er 0 242])) (.leaf (.tup [.agg [.i .i64 k, .i .i64 i, .sl 1 0 noI, .sl 2 0 noP], .v .nilIface])))
 | _ => .fail
noncomputable def Z35 : List Sh → Tree Sh
 | [.agg [t, u, s2, s3]] => match icode t, icode u, slN 1 s2, slN 2 s3 with
  | some (Int.ofNat 0), some (Int.ofNat 0), some (0, _), some (0, _) => .leaf (.str [])
  | _, _, _, _ => .fail
 | _ => .fail
noncomputable def K35 : List Sh → Tree Sh
 | [.agg [.i .i64 x, .i .i64 y, s2, s3]] => match slN 1 s2, slN 2 s3 with
  | some (a, h), some (b, l) => .need (kyS x y a h b l) (.leaf (.str (keyG x y a h b l)))
  | _, _ => .fail
 | _ => .fail
noncomputable def E45 : List Sh → Tree Sh
 | [.agg [.i .i64 x, .i .i64 y, s2, s3], .agg [.i .i64 x', .i .i64 y', t2, t3]] => match slN 1 s2, slN 2 s3, slN 1 t2, slN 2 t3 with
  | some (a, h), some (b, l), some (a', h'), some (b', l') => .need (okB Int a h) (.need (okB Pr b l) (.need (okB Int a' h') (.need (okB Pr b' l') (.leaf (.b (eqG x y a h b l x' y' a' h' b' l'))))))
  | _, _, _, _ => .fail
 | _ => .fail
noncomputable def zeroZ (e : Nat) : Sh := .tup [.agg [.v (.int .i64 0), .v (.int .i64 0), .sl 1 0 noI, .sl 2 0 noP], .er e 242]
noncomputable def S46 : List Sh → Tree Sh
 | [.str l] => .need (lenK l) (.node (isC6 l 2) (.leaf (zeroZ 2)) (.node (isC6 l 4) (.leaf (zeroZ 4)) (.leaf (.tup [.agg [.i .i64 (kiF l), .i .i64 (nuF l), .sl 1 (len (nqF l)) (fnR (nth (nqF l))), .sl 2 (len (npF l)) (fnR (nth (npF l)))], .v .nilIface]))))
 | _ => .fail
noncomputable def spec11 : Nat → Option (List Sh → Tree Sh)
 | 35 => some Z35
 | 40 => some F40
 | 41 => some B41
 | _ => none
noncomputable def spec11e : Nat → Option (List Sh → Tree Sh)
 | 35 => some K35
 | 42 => some fun _ => .fail
 | 45 => some E45
 | 46 => some S46
 | _ => none
noncomputable def spec11g : Nat → Option (List Sh → Tree Sh)
 | 42 => some S42g
 | 35 => some fun _ => .fail
 | 45 => some fun _ => .fail
 | 46 => some fun _ => .fail
 | _ => none
noncomputable def spec11b (e : Nat) : Nat → Option (List Sh → Tree Sh)
 | 42 => some (S42b e)
 | 35 => some fun _ => .fail
 | 45 => some fun _ => .fail
 | 46 => some fun _ => .fail
 | _ => none
def td11 : List It := [It.code [0, 1, 0, 1, 1, 1, 1, 1], It.inBlock 0, It.code [1, 1, 1, 1, 1, 1]]
def tb11 : List It := It.code [0, 0, 1, 0, 1, 1, 1, 1, 1] :: td11
def LP11 (n : Nat) (c : Nat → Ca) (key : List UInt8) (x y : Int) (a : Nat) (h : Nat → Int) (b : Nat) (l : Nat → Pr) (i : Int) : Core := { tm := tmOf 124 [(1, .sh (.sl 3 n (fnR c))), (2, .sh (.str key)), (8, .ptr 0 0), (10, .sym .i64 i)], hp := [(0, .box [.sym .i64 x, .sym .i64 y, .sh (.sl 1 a (fnR h)), .sh (.sl 2 b (fnR l))] 72)], nx := 1, lim := L0, tc := [] }
theorem a11 (A : Prim) (W : Wd) (n : Nat) (c : Nat → Ca) (key : List UInt8) (x y : Int) (a' : Nat) (h' : Nat → Int) (b' : Nat) (l' : Nat → Pr) (y' i' : Int) : runTo (C7 A W spec11 sAl) nH0 300 400 11 [.code []] (start0 124 [.agg [.i .i64 x, .i .i64 y], .sl 3 n (fnR c), .str key] L0) [] [⟨11, td11, LP11 n c key x y' a' h' b' l' i', []⟩] = node (A.lt (Int.ofNat 300) (A.ofN n)) (leaf (Fe2.ret (Sh.b true))) (node (A.lt (Int.ofNat 65536) (A.ofN (A.len key))) (leaf (Fe2.ret (Sh.b true))) (need (in64 x) (node (badOb x y) (node (A.seq [] []) (leaf (Fe2.ret (Sh.b true))) (leaf (Fe2.ret (Sh.b false)))) (leaf (Fe2.at_ 0 [Eqn.sh (Sh.sl 3 n (fnR c)) (Sh.sl 3 n (fnR c)), Eqn.sh (Sh.str key) (Sh.str key), Eqn.int (Int.ofNat 0) i', Eqn.int x x, Eqn.int y y', Eqn.sh (Sh.sl 1 0 noI) (Sh.sl 1 a' (fnR h')), Eqn.sh (Sh.sl 2 0 noP) (Sh.sl 2 b' (fnR l'))]))))) := by kernel_rfl
theorem b11 (A : Prim) (W : Wd) (n : Nat) (c : Nat → Ca) (key : List UInt8) (x y : Int) (a : Nat) (h : Nat → Int) (b : Nat) (l : Nat → Pr) (i : Int) : runTo (C7 A W spec11e sAl) nH0 300 400 11 tb11 (LP11 n c key x y a h b l i) [] [] = node (A.lt i (A.ofN n)) (need (A.inB i n) (need (A.inB i n) (need (A.inB i n) (Tree.fail.both Tree.fail)))) (need (kyS x y a (fnR h) b (fnR l)) (need (lenK (keyG x y a (fnR h) b (fnR l))) (node (isC6 (keyG x y a (fnR h) b (fnR l)) 2) (need (lenK key) (node (isC6 key 2) (leaf (Fe2.ret (Sh.b false))) (node (isC6 key 4) (leaf (Fe2.ret (Sh.b false))) (leaf (Fe2.ret (Sh.b false)))))) (node (isC6 (keyG x y a (fnR h) b (fnR l)) 4) (need (lenK key) (node (isC6 key 2) (leaf (Fe2.ret (Sh.b false))) (node (isC6 key 4) (leaf (Fe2.ret (Sh.b false))) (leaf (Fe2.ret (Sh.b false)))))) (need (lenK key) (node (isC6 key 2) (need (okB Int (len (nqF (keyG x y a (fnR h) b (fnR l)))) (fnR (nth (nqF (keyG x y a (fnR h) b (fnR l)))))) (need (okB Pr (len (npF (keyG x y a (fnR h) b (fnR l)))) (fnR (nth (npF (keyG x y a (fnR h) b (fnR l)))))) (need (okB Int a (fnR h)) (need (okB Pr b (fnR l)) (node (eqG (kiF (keyG x y a (fnR h) b (fnR l))) (nuF (keyG x y a (fnR h) b (fnR l))) (len (nqF (keyG x y a (fnR h) b (fnR l)))) (fnR (nth (nqF (keyG x y a (fnR h) b (fnR l))))) (len (npF (keyG x y a (fnR h) b (fnR l)))) (fnR (nth (npF (keyG x y a (fnR h) b (fnR l))))) x y a (fnR h) b (fnR l)) (need (okB Int a (fnR h)) (need (okB Pr b (fnR l)) (need (okB Int (len (nqF (keyG x y a (fnR h) b (fnR l)))) (fnR (nth (nqF (keyG x y a (fnR h) b (fnR l)))))) (need (okB Pr (len (npF (keyG x y a (fnR h) b (fnR l)))) (fnR (nth (npF (keyG x y a (fnR h) b (fnR l)))))) (node (eqG x y a (fnR h) b (fnR l) (kiF (keyG x y a (fnR h) b (fnR l))) (nuF (keyG x y a (fnR h) b (fnR l))) (len (nqF (keyG x y a (fnR h) b (fnR l)))) (fnR (nth (nqF (keyG x y a (fnR h) b (fnR l))))) (len (npF (keyG x y a (fnR h) b (fnR l)))) (fnR (nth (npF (keyG x y a (fnR h) b (fnR l)))))) (need (kyS (kiF (keyG x y a (fnR h) b (fnR l))) (nuF (keyG x y a (fnR h) b (fnR l))) (len (nqF (keyG x y a (fnR h) b (fnR l)))) (fnR (nth (nqF (keyG x y a (fnR h) b (fnR l))))) (len (npF (keyG x y a (fnR h) b (fnR l)))) (fnR (nth (npF (keyG x y a (fnR h) b (fnR l)))))) (need (kyS x y a (fnR h) b (fnR l)) (node (A.seq (keyG (kiF (keyG x y a (fnR h) b (fnR l))) (nuF (keyG x y a (fnR h) b (fnR l))) (len (nqF (keyG x y a (fnR h) b (fnR l)))) (fnR (nth (nqF (keyG x y a (fnR h) b (fnR l))))) (len (npF (keyG x y a (fnR h) b (fnR l)))) (fnR (nth (npF (keyG x y a (fnR h) b (fnR l)))))) (keyG x y a (fnR h) b (fnR l))) (leaf (Fe2.ret (Sh.b true))) (leaf (Fe2.ret (Sh.b false)))))) (leaf (Fe2.ret (Sh.b false)))))))) (leaf (Fe2.ret (Sh.b false)))))))) (node (isC6 key 4) (need (okB Int (len (nqF (keyG x y a (fnR h) b (fnR l)))) (fnR (nth (nqF (keyG x y a (fnR h) b (fnR l)))))) (need (okB Pr (len (npF (keyG x y a (fnR h) b (fnR l)))) (fnR (nth (npF (keyG x y a (fnR h) b (fnR l)))))) (need (okB Int a (fnR h)) (need (okB Pr b (fnR l)) (node (eqG (kiF (keyG x y a (fnR h) b (fnR l))) (nuF (keyG x y a (fnR h) b (fnR l))) (len (nqF (keyG x y a (fnR h) b (fnR l)))) (fnR (nth (nqF (keyG x y a (fnR h) b (fnR l))))) (len (npF (keyG x y a (fnR h) b (fnR l)))) (fnR (nth (npF (keyG x y a (fnR h) b (fnR l))))) x y a (fnR h) b (fnR l)) (need (okB Int a (fnR h)) (need (okB Pr b (fnR l)) (need (okB Int (len (nqF (keyG x y a (fnR h) b (fnR l)))) (fnR (nth (nqF (keyG x y a (fnR h) b (fnR l)))))) (need (okB Pr (len (npF (keyG x y a (fnR h) b (fnR l)))) (fnR (nth (npF (keyG x y a (fnR h) b (fnR l)))))) (node (eqG x y a (fnR h) b (fnR l) (kiF (keyG x y a (fnR h) b (fnR l))) (nuF (keyG x y a (fnR h) b (fnR l))) (len (nqF (keyG x y a (fnR h) b (fnR l)))) (fnR (nth (nqF (keyG x y a (fnR h) b (fnR l))))) (len (npF (keyG x y a (fnR h) b (fnR l)))) (fnR (nth (npF (keyG x y a (fnR h) b (fnR l)))))) (need (kyS (kiF (keyG x y a (fnR h) b (fnR l))) (nuF (keyG x y a (fnR h) b (fnR l))) (len (nqF (keyG x y a (fnR h) b (fnR l)))) (fnR (nth (nqF (keyG x y a (fnR h) b (fnR l))))) (len (npF (keyG x y a (fnR h) b (fnR l)))) (fnR (nth (npF (keyG x y a (fnR h) b (fnR l)))))) (need (kyS x y a (fnR h) b (fnR l)) (node (A.seq (keyG (kiF (keyG x y a (fnR h) b (fnR l))) (nuF (keyG x y a (fnR h) b (fnR l))) (len (nqF (keyG x y a (fnR h) b (fnR l)))) (fnR (nth (nqF (keyG x y a (fnR h) b (fnR l))))) (len (npF (keyG x y a (fnR h) b (fnR l)))) (fnR (nth (npF (keyG x y a (fnR h) b (fnR l)))))) (keyG x y a (fnR h) b (fnR l))) (leaf (Fe2.ret (Sh.b true))) (leaf (Fe2.ret (Sh.b false)))))) (leaf (Fe2.ret (Sh.b false)))))))) (leaf (Fe2.ret (Sh.b false)))))))) (need (okB Int (len (nqF (keyG x y a (fnR h) b (fnR l)))) (fnR (nth (nqF (keyG x y a (fnR h) b (fnR l)))))) (need (okB Pr (len (npF (keyG x y a (fnR h) b (fnR l)))) (fnR (nth (npF (keyG x y a (fnR h) b (fnR l)))))) (need (okB Int a (fnR h)) (need (okB Pr b (fnR l)) (node (eqG (kiF (keyG x y a (fnR h) b (fnR l))) (nuF (keyG x y a (fnR h) b (fnR l))) (len (nqF (keyG x y a (fnR h) b (fnR l)))) (fnR (nth (nqF (keyG x y a (fnR h) b (fnR l))))) (len (npF (keyG x y a (fnR h) b (fnR l)))) (fnR (nth (npF (keyG x y a (fnR h) b (fnR l))))) x y a (fnR h) b (fnR l)) (need (okB Int a (fnR h)) (need (okB Pr b (fnR l)) (need (okB Int (len (nqF (keyG x y a (fnR h) b (fnR l)))) (fnR (nth (nqF (keyG x y a (fnR h) b (fnR l)))))) (need (okB Pr (len (npF (keyG x y a (fnR h) b (fnR l)))) (fnR (nth (npF (keyG x y a (fnR h) b (fnR l)))))) (node (eqG x y a (fnR h) b (fnR l) (kiF (keyG x y a (fnR h) b (fnR l))) (nuF (keyG x y a (fnR h) b (fnR l))) (len (nqF (keyG x y a (fnR h) b (fnR l)))) (fnR (nth (nqF (keyG x y a (fnR h) b (fnR l))))) (len (npF (keyG x y a (fnR h) b (fnR l)))) (fnR (nth (npF (keyG x y a (fnR h) b (fnR l)))))) (need (kyS (kiF (keyG x y a (fnR h) b (fnR l))) (nuF (keyG x y a (fnR h) b (fnR l))) (len (nqF (keyG x y a (fnR h) b (fnR l)))) (fnR (nth (nqF (keyG x y a (fnR h) b (fnR l))))) (len (npF (keyG x y a (fnR h) b (fnR l)))) (fnR (nth (npF (keyG x y a (fnR h) b (fnR l)))))) (need (kyS x y a (fnR h) b (fnR l)) (node (A.seq (keyG (kiF (keyG x y a (fnR h) b (fnR l))) (nuF (keyG x y a (fnR h) b (fnR l))) (len (nqF (keyG x y a (fnR h) b (fnR l)))) (fnR (nth (nqF (keyG x y a (fnR h) b (fnR l))))) (len (npF (keyG x y a (fnR h) b (fnR l)))) (fnR (nth (npF (keyG x y a (fnR h) b (fnR l)))))) (keyG x y a (fnR h) b (fnR l))) (need (kyS (kiF key) (nuF key) (len (nqF key)) (fnR (nth (nqF key))) (len (npF key)) (fnR (nth (npF key)))) (leaf (Fe2.ret (Sh.b (A.seq (keyG (kiF key) (nuF key) (len (nqF key)) (fnR (nth (nqF key))) (len (npF key)) (fnR (nth (npF key)))) key))))) (leaf (Fe2.ret (Sh.b false)))))) (leaf (Fe2.ret (Sh.b false)))))))) (leaf (Fe2.ret (Sh.b false))))))))))))))) := by kernel_rfl
theorem c11 (A : Prim) (W : Wd) (n : Nat) (c : Nat → Ca) (key : List UInt8) (x y : Int) (a : Nat) (h : Nat → Int) (b : Nat) (l : Nat → Pr) (i : Int) (y' : Int) (a' : Nat) (h' : Nat → Int) (b' : Nat) (l' : Nat → Pr) (i' : Int) : runTo (C7 A W spec11g sAl) nH0 300 400 11 tb11 (LP11 n c key x y a h b l i) [] [⟨11, td11, LP11 n c key x y' a' h' b' l' i', []⟩] = node (A.lt i (A.ofN n)) (need (A.inB i n) (need (A.inB i n) (need (A.inB i n) (need (okS a (fnR h) b (fnR l)) (need (goodS x y (c (A.toN i)).op (c (A.toN i)).key (c (A.toN i)).val) (need (okS a (fnR h) b (fnR l)) (need (goodS x y (c (A.toN i)).op (c (A.toN i)).key (c (A.toN i)).val) (must [Eqn.sh (Sh.sl 3 n (fnR c)) (Sh.sl 3 n (fnR c)), Eqn.sh (Sh.str key) (Sh.str key), Eqn.int i i, Eqn.int x x, Eqn.int y y, Eqn.sh (Sh.sl 1 a (fnR h)) (Sh.sl 1 a (fnR h)), Eqn.sh (Sh.sl 2 b (fnR l)) (Sh.sl 2 b (fnR l)), Eqn.int x x, Eqn.int (nuS x y (c (A.toN i)).op (c (A.toN i)).key (c (A.toN i)).val a (fnR h) b (fnR l)) (nuS x y (c (A.toN i)).op (c (A.toN i)).key (c (A.toN i)).val a (fnR h) b (fnR l)), Eqn.sh (Sh.sl 1 (len (nqS x y (c (A.toN i)).op (c (A.toN i)).key (c (A.toN i)).val a (fnR h) b (fnR l))) (fnR (nth (nqS x y (c (A.toN i)).op (c (A.toN i)).key (c (A.toN i)).val a (fnR h) b (fnR l))))) (Sh.sl 1 (len (nqS x y (c (A.toN i)).op (c (A.toN i)).key (c (A.toN i)).val a (fnR h) b (fnR l))) (fnR (nth (nqS x y (c (A.toN i)).op (c (A.toN i)).key (c (A.toN i)).val a (fnR h) b (fnR l))))), Eqn.sh (Sh.sl 2 (len (npS x y (c (A.toN i)).op (c (A.toN i)).key (c (A.toN i)).val a (fnR h) b (fnR l))) (fnR (nth (npS x y (c (A.toN i)).op (c (A.toN i)).key (c (A.toN i)).val a (fnR h) b (fnR l))))) (Sh.sl 2 (len (npS x y (c (A.toN i)).op (c (A.toN i)).key (c (A.toN i)).val a (fnR h) b (fnR l))) (fnR (nth (npS x y (c (A.toN i)).op (c (A.toN i)).key (c (A.toN i)).val a (fnR h) b (fnR l)))))] (leaf (Fe2.at_ 0 [Eqn.sh (Sh.sl 3 n (fnR c)) (Sh.sl 3 n (fnR c)), Eqn.sh (Sh.str key) (Sh.str key), Eqn.int (A.add .i64 i (Int.ofNat 1)) i', Eqn.int x x, Eqn.int (nuS x y (c (A.toN i)).op (c (A.toN i)).key (c (A.toN i)).val a (fnR h) b (fnR l)) y', Eqn.sh (Sh.sl 1 (len (nqS x y (c (A.toN i)).op (c (A.toN i)).key (c (A.toN i)).val a (fnR h) b (fnR l))) (fnR (nth (nqS x y (c (A.toN i)).op (c (A.toN i)).key (c (A.toN i)).val a (fnR h) b (fnR l))))) (Sh.sl 1 a' (fnR h')), Eqn.sh (Sh.sl 2 (len (npS x y (c (A.toN i)).op (c (A.toN i)).key (c (A.toN i)).val a (fnR h) b (fnR l))) (fnR (nth (npS x y (c (A.toN i)).op (c (A.toN i)).key (c (A.toN i)).val a (fnR h) b (fnR l))))) (Sh.sl 2 b' (fnR l'))])))))))))) Tree.fail := by kernel_rfl
theorem d11 (A : Prim) (W : Wd) (n : Nat) (c : Nat → Ca) (key : List UInt8) (x y : Int) (a : Nat) (h : Nat → Int) (b : Nat) (l : Nat → Pr) (i : Int) (y' : Int) (a' : Nat) (h' : Nat → Int) (b' : Nat) (l' : Nat → Pr) (i' : Int) : runTo (C7 A W (spec11b 1) sAl) nH0 300 400 11 tb11 (LP11 n c key x y a h b l i) [] [⟨11, td11, LP11 n c key x y' a' h' b' l' i', []⟩] = node (A.lt i (A.ofN n)) (need (A.inB i n) (need (A.inB i n) (need (A.inB i n) (need (okS a (fnR h) b (fnR l)) (need (badS x y (c (A.toN i)).op (c (A.toN i)).key (c (A.toN i)).val) (need (isES 1 x (c (A.toN i)).op) (need (okS a (fnR h) b (fnR l)) (need (badS x y (c (A.toN i)).op (c (A.toN i)).key (c (A.toN i)).val) (need (isES 1 x (c (A.toN i)).op) (must [Eqn.sh (Sh.sl 3 n (fnR c)) (Sh.sl 3 n (fnR c)), Eqn.sh (Sh.str key) (Sh.str key), Eqn.int i i, Eqn.int x x, Eqn.int y y, Eqn.sh (Sh.sl 1 a (fnR h)) (Sh.sl 1 a (fnR h)), Eqn.sh (Sh.sl 2 b (fnR l)) (Sh.sl 2 b (fnR l)), Eqn.sh (Sh.sl 1 0 noI) (Sh.sl 1 0 noI), Eqn.sh (Sh.sl 2 0 noP) (Sh.sl 2 0 noP)] (leaf (Fe2.at_ 0 [Eqn.sh (Sh.sl 3 n (fnR c)) (Sh.sl 3 n (fnR c)), Eqn.sh (Sh.str key) (Sh.str key), Eqn.int (A.add .i64 i (Int.ofNat 1)) i', Eqn.int x x, Eqn.int y y', Eqn.sh (Sh.sl 1 a (fnR h)) (Sh.sl 1 a' (fnR h')), Eqn.sh (Sh.sl 2 b (fnR l)) (Sh.sl 2 b' (fnR l'))])))))))))))) Tree.fail := by kernel_rfl
theorem e11 (A : Prim) (W : Wd) (n : Nat) (c : Nat → Ca) (key : List UInt8) (x y : Int) (a : Nat) (h : Nat → Int) (b : Nat) (l : Nat → Pr) (i : Int) (y' : Int) (a' : Nat) (h' : Nat → Int) (b' : Nat) (l' : Nat → Pr) (i' : Int) : runTo (C7 A W (spec11b 3) sAl) nH0 300 400 11 tb11 (LP11 n c key x y a h b l i) [] [⟨11, td11, LP11 n c key x y' a' h' b' l' i', []⟩] = node (A.lt i (A.ofN n)) (need (A.inB i n) (need (A.inB i n) (need (A.inB i n) (need (okS a (fnR h) b (fnR l)) (need (badS x y (c (A.toN i)).op (c (A.toN i)).key (c (A.toN i)).val) (need (isES 3 x (c (A.toN i)).op) (need (okS a (fnR h) b (fnR l)) (need (badS x y (c (A.toN i)).op (c (A.toN i)).key (c (A.toN i)).val) (need (isES 3 x (c (A.toN i)).op) (must [Eqn.sh (Sh.sl 3 n (fnR c)) (Sh.sl 3 n (fnR c)), Eqn.sh (Sh.str key) (Sh.str key), Eqn.int i i, Eqn.int x x, Eqn.int y y, Eqn.sh (Sh.sl 1 a (fnR h)) (Sh.sl 1 a (fnR h)), Eqn.sh (Sh.sl 2 b (fnR l)) (Sh.sl 2 b (fnR l)), Eqn.sh (Sh.sl 1 0 noI) (Sh.sl 1 0 noI), Eqn.sh (Sh.sl 2 0 noP) (Sh.sl 2 0 noP)] (leaf (Fe2.at_ 0 [Eqn.sh (Sh.sl 3 n (fnR c)) (Sh.sl 3 n (fnR c)), Eqn.sh (Sh.str key) (Sh.str key), Eqn.int (A.add .i64 i (Int.ofNat 1)) i', Eqn.int x x, Eqn.int y y', Eqn.sh (Sh.sl 1 a (fnR h)) (Sh.sl 1 a' (fnR h')), Eqn.sh (Sh.sl 2 b (fnR l)) (Sh.sl 2 b' (fnR l'))])))))))))))) Tree.fail := by kernel_rfl
end Go.Proofs
namespace Go.Proofs
open Go.Sx.Tree
open Go Go.Sx Go.Pl
theorem all_a11 (A : Prim) (W : Wd) (n : Nat) (c : Nat → Ca) (key : List UInt8) (x y : Int) (a' : Nat) (h' : Nat → Int) (b' : Nat) (l' : Nat → Pr) (y' i' : Int) {ψ : Fe2 → Prop} {c0 c1 c2 c3 : Bool} (e0 : A.lt (Int.ofNat 300) (A.ofN n) = c0) (e1 : A.lt (Int.ofNat 65536) (A.ofN (A.len key)) = c1) (e2 : badOb x y = c2) (e3 : A.seq [] [] = c3) (h1 : c0 = false → c1 = false → (in64 x) = true) (y1 : c0 = true → ψ (Fe2.ret (Sh.b true))) (y2 : c0 = false → c1 = true → ψ (Fe2.ret (Sh.b true))) (y3 : c0 = false → c1 = false → c2 = true → c3 = true → ψ (Fe2.ret (Sh.b true))) (y4 : c0 = false → c1 = false → c2 = true → c3 = false → ψ (Fe2.ret (Sh.b false))) (y5 : c0 = false → c1 = false → c2 = false → ψ (Fe2.at_ 0 [Eqn.sh (Sh.sl 3 n (fnR c)) (Sh.sl 3 n (fnR c)), Eqn.sh (Sh.str key) (Sh.str key), Eqn.int (Int.ofNat 0) i', Eqn.int x x, Eqn.int y y', Eqn.sh (Sh.sl 1 0 noI) (Sh.sl 1 a' (fnR h')), Eqn.sh (Sh.sl 2 0 noP) (Sh.sl 2 b' (fnR l'))])) : MeetsT ψ (runTo (C7 A W spec11 sAl) nH0 300 400 11 [.code []] (start0 124 [.agg [.i .i64 x, .i .i64 y], .sl 3 n (fnR c), .str key] L0) [] [⟨11, td11, LP11 n c key x y' a' h' b' l' i', []⟩]) := by
 subst e0 e1 e2 e3
 rw [a11 A W n c key x y a' h' b' l' y' i', meetsT_eq]
 exact ⟨fun q0 => (y1 q0), fun q0 => ⟨fun q1 => (y2 q0 q1), fun q1 => ⟨(h1 q0 q1), ⟨fun q2 => ⟨fun q3 => (y3 q0 q1 q2 q3), fun q3 => (y4 q0 q1 q2 q3)⟩, fun q2 => (y5 q0 q1 q2)⟩⟩⟩⟩
theorem all_b11 (A : Prim) (W : Wd) (n : Nat) (c : Nat → Ca) (key : List UInt8) (x y : Int) (a : Nat) (h : Nat → Int) (b : Nat) (l : Nat → Pr) (i : Int) {ψ : Fe2 → Prop} {c0 c1 c2 c3 c4 c5 c6 c7 : Bool} (e0 : A.lt i (A.ofN n) = c0) (e1 : isC6 (keyG x y a (fnR h) b (fnR l)) 2 = c1) (e2 : isC6 (keyG x y a (fnR h) b (fnR l)) 4 = c2) (e3 : isC6 key 2 = c3) (e4 : eqG (kiF (keyG x y a (fnR h) b (fnR l))) (nuF (keyG x y a (fnR h) b (fnR l))) (len (nqF (keyG x y a (fnR h) b (fnR l)))) (fnR (nth (nqF (keyG x y a (fnR h) b (fnR l))))) (len (npF (keyG x y a (fnR h) b (fnR l)))) (fnR (nth (npF (keyG x y a (fnR h) b (fnR l))))) x y a (fnR h) b (fnR l) = c4) (e5 : eqG x y a (fnR h) b (fnR l) (kiF (keyG x y a (fnR h) b (fnR l))) (nuF (keyG x y a (fnR h) b (fnR l))) (len (nqF (keyG x y a (fnR h) b (fnR l)))) (fnR (nth (nqF (keyG x y a (fnR h) b (fnR l))))) (len (npF (keyG x y a (fnR h) b (fnR l)))) (fnR (nth (npF (keyG x y a (fnR h) b (fnR l))))) = c5) (e6 : isC6 key 4 = c6) (e7 : A.seq (keyG (kiF (keyG x y a (fnR h) b (fnR l))) (nuF (keyG x y a (fnR h) b (fnR l))) (len (nqF (keyG x y a (fnR h) b (fnR l)))) (fnR (nth (nqF (keyG x y a (fnR h) b (fnR l))))) (len (npF (keyG x y a (fnR h) b (fnR l)))) (fnR (nth (npF (keyG x y a (fnR h) b (fnR l)))))) (keyG x y a (fnR h) b (fnR l)) = c7) (h1 : c0 = true → (A.inB i n) = true) (h2 : c0 = false → (kyS x y a (fnR h) b (fnR l)) = true) (h3 : c0 = false → (lenK (keyG x y a (fnR h) b (fnR l))) = true) (h4 : c0 = false → c1 = true → (lenK key) = true) (h5 : c0 = false → c1 = false → c2 = true → (lenK key) = true) (h6 : c0 = false → c1 = false → c2 = false → (lenK key) = true) (h7 : c0 = false → c1 = false → c2 = false → c3 = true → (okB Int (len (nqF (keyG x y a (fnR h) b (fnR l)))) (fnR (nth (nqF (keyG x y a (fnR h) b (fnR l)))))) = true) (h8 : c0 = false → c1 = false → c2 = false → c3 = true → (okB Pr (len (npF (keyG x y a (fnR h) b (fnR l)))) (fnR (nth (npF (keyG x y a (fnR h) b (fnR l)))))) = true) (h9 : c0 = false → c1 = false → c2 = false → c3 = true → (okB Int a (fnR h)) = true) (h10 : c0 = false → c1 = false → c2 = false → c3 = true → (okB Pr b (fnR l)) = true) (h11 : c0 = false → c1 = false → c2 = false → c3 = true → c4 = true → c5 = true → (kyS (kiF (keyG x y a (fnR h) b (fnR l))) (nuF (keyG x y a (fnR h) b (fnR l))) (len (nqF (keyG x y a (fnR h) b (fnR l)))) (fnR (nth (nqF (keyG x y a (fnR h) b (fnR l))))) (len (npF (keyG x y a (fnR h) b (fnR l)))) (fnR (nth (npF (keyG x y a (fnR h) b (fnR l)))))) = true) (h12 : c0 = false → c1 = false → c2 = false → c3 = false → c6 = true → (okB Int (len (nqF (keyG x y a (fnR h) b (fnR l)))) (fnR (nth (nqF (keyG x y a (fnR h) b (fnR l)))))) = true) (h13 : c0 = false → c1 = false → c2 = false → c3 = false → c6 = true → (okB Pr (len (npF (keyG x y a (fnR h) b (fnR l)))) (fnR (nth (npF (keyG x y a (fnR h) b (fnR l)))))) = true) (h14 : c0 = false → c1 = false → c2 = false → c3 = false → c6 = true → (okB Int a (fnR h)) = true) (h15 : c0 = false → c1 = false → c2 = false → c3 = false → c6 = true → (okB Pr b (fnR l)) = true) (h16 : c0 = false → c1 = false → c2 = false → c3 = false → c6 = true → c4 = true → c5 = true → (kyS (kiF (keyG x y a (fnR h) b (fnR l))) (nuF (keyG x y a (fnR h) b (fnR l))) (len (nqF (keyG x y a (fnR h) b (fnR l)))) (fnR (nth (nqF (keyG x y a (fnR h) b (fnR l))))) (len (npF (keyG x y a (fnR h) b (fnR l)))) (fnR (nth (npF (keyG x y a (fnR h) b (fnR l)))))) = true) (h17 : c0 = false → c1 = false → c2 = false → c3 = false → c6 = false → (okB Int (len (nqF (keyG x y a (fnR h) b (fnR l)))) (fnR (nth (nqF (keyG x y a (fnR h) b (fnR l)))))) = true) (h18 : c0 = false → c1 = false → c2 = false → c3 = false → c6 = false → (okB Pr (len (npF (keyG x y a (fnR h) b (fnR l)))) (fnR (nth (npF (keyG x y a (fnR h) b (fnR l)))))) = true) (h19 : c0 = false → c1 = false → c2 = false → c3 = false → c6 = false → (okB Int a (fnR h)) = true) (h20 : c0 = false → c1 = false → c2 = false → c3 = false → c6 = false → (okB Pr b (fnR l)) = true) (h21 : c0 = false → c1 = false → c2 = false → c3 = false → c6 = false → c4 = true → c5 = true → (kyS (kiF (keyG x y a (fnR h) b (fnR l))) (nuF (keyG x y a (fnR h) b (fnR l))) (len (nqF (keyG x y a (fnR h) b (fnR l)))) (fnR (nth (nqF (keyG x y a (fnR h) b (fnR l))))) (len (npF (keyG x y a (fnR h) b (fnR l)))) (fnR (nth (npF (keyG x y a (fnR h) b (fnR l)))))) = true) (h22 : c0 = false → c1 = false → c2 = false → c3 = false → c6 = false → c4 = true → c5 = true → c7 = true → (kyS (kiF key) (nuF key) (len (nqF key)) (fnR (nth (nqF key))) (len (npF key)) (fnR (nth (npF key)))) = true) (y1 : c0 = true → False) (y2 : c0 = false → c1 = true → c3 = true → ψ (Fe2.ret (Sh.b false))) (y3 : c0 = false → c1 = true → c3 = false → c6 = true → ψ (Fe2.ret (Sh.b false))) (y4 : c0 = false → c1 = true → c3 = false → c6 = false → ψ (Fe2.ret (Sh.b false))) (y5 : c0 = false → c1 = false → c2 = true → c3 = true → ψ (Fe2.ret (Sh.b false))) (y6 : c0 = false → c1 = false → c2 = true → c3 = false → c6 = true → ψ (Fe2.ret (Sh.b false))) (y7 : c0 = false → c1 = false → c2 = true → c3 = false → c6 = false → ψ (Fe2.ret (Sh.b false))) (y8 : c0 = false → c1 = false → c2 = false → c3 = true → c4 = true → c5 = true → c7 = true → ψ (Fe2.ret (Sh.b true))) (y9 : c0 = false → c1 = false → c2 = false → c3 = true → c4 = true → c5 = true → c7 = false → ψ (Fe2.ret (Sh.b false))) (y10 : c0 = false → c1 = false → c2 = false → c3 = true → c4 = true → c5 = false → ψ (Fe2.ret (Sh.b false))) (y11 : c0 = false → c1 = false → c2 = false → c3 = true → c4 = false → ψ (Fe2.ret (Sh.b false))) (y12 : c0 = false → c1 = false → c2 = false → c3 = false → c6 = true → c4 = true → c5 = true → c7 = true → ψ (Fe2.ret (Sh.b true))) (y13 : c0 = false → c1 = false → c2 = false → c3 = false → c6 = true → c4 = true → c5 = true → c7 = false → ψ (Fe2.ret (Sh.b false))) (y14 : c0 = false → c1 = false → c2 = false → c3 = false → c6 = true → c4 = true → c5 = false → ψ (Fe2.ret (Sh.b false))) (y15 : c0 = false → c1 = false → c2 = false → c3 = false → c6 = true → c4 = false → ψ (Fe2.ret (Sh.b false))) (y16 : c0 = false → c1 = false → c2 = false → c3 = false → c6 = false → c4 = true → c5 = true → c7 = true → ψ (Fe2.ret (Sh.b (A.seq (keyG (kiF key) (nuF key) (len (nqF key)) (fnR (nth (nqF key))) (len (npF key)) (fnR (nth (npF key)))) key)))) (y17 : c0 = false → c1 = false → c2 = false → c3 = false → c6 = false → c4 = true → c5 = true → c7 = false → ψ (Fe2.ret (Sh.b false))) (y18 : c0 = false → c1 = false → c2 = false → c3 = false → c6 = false → c4 = true → c5 = false → ψ (Fe2.ret (Sh.b false))) (y19 : c0 = false → c1 = false → c2 = false → c3 = false → c6 = false → c4 = false → ψ (Fe2.ret (Sh.b false))) : MeetsT ψ (runTo (C7 A W spec11e sAl) nH0 300 400 11 tb11 (LP11 n c key x y a h b l i) [] []) := by
 subst e0 e1 e2 e3 e4 e5 e6 e7
 rw [b11 A W n c key x y a h b l i, meetsT_eq]
 exact ⟨fun q0 => ⟨(h1 q0), ⟨(h1 q0), ⟨(h1 q0), (False.elim (y1 q0))⟩⟩⟩, fun q0 => ⟨(h2 q0), ⟨(h3 q0), ⟨fun q1 => ⟨(h4 q0 q1), ⟨fun q2 => (y2 q0 q1 q2), fun q2 => ⟨fun q3 => (y3 q0 q1 q2 q3), fun q3 => (y4 q0 q1 q2 q3)⟩⟩⟩, fun q1 => ⟨fun q2 => ⟨(h5 q0 q1 q2), ⟨fun q3 => (y5 q0 q1 q2 q3), fun q3 => ⟨fun q4 => (y6 q0 q1 q2 q3 q4), fun q4 => (y7 q0 q1 q2 q3 q4)⟩⟩⟩, fun q2 => ⟨(h6 q0 q1 q2), ⟨fun q3 => ⟨(h7 q0 q1 q2 q3), ⟨(h8 q0 q1 q2 q3), ⟨(h9 q0 q1 q2 q3), ⟨(h10 q0 q1 q2 q3), ⟨fun q4 => ⟨(h9 q0 q1 q2 q3), ⟨(h10 q0 q1 q2 q3), ⟨(h7 q0 q1 q2 q3), ⟨(h8 q0 q1 q2 q3), ⟨fun q5 => ⟨(h11 q0 q1 q2 q3 q4 q5), ⟨(h2 q0), ⟨fun q6 => (y8 q0 q1 q2 q3 q4 q5 q6), fun q6 => (y9 q0 q1 q2 q3 q4 q5 q6)⟩⟩⟩, fun q5 => (y10 q0 q1 q2 q3 q4 q5)⟩⟩⟩⟩⟩, fun q4 => (y11 q0 q1 q2 q3 q4)⟩⟩⟩⟩⟩, fun q3 => ⟨fun q4 => ⟨(h12 q0 q1 q2 q3 q4), ⟨(h13 q0 q1 q2 q3 q4), ⟨(h14 q0 q1 q2 q3 q4), ⟨(h15 q0 q1 q2 q3 q4), ⟨fun q5 => ⟨(h14 q0 q1 q2 q3 q4), ⟨(h15 q0 q1 q2 q3 q4), ⟨(h12 q0 q1 q2 q3 q4), ⟨(h13 q0 q1 q2 q3 q4), ⟨fun q6 => ⟨(h16 q0 q1 q2 q3 q4 q5 q6), ⟨(h2 q0), ⟨fun q7 => (y12 q0 q1 q2 q3 q4 q5 q6 q7), fun q7 => (y13 q0 q1 q2 q3 q4 q5 q6 q7)⟩⟩⟩, fun q6 => (y14 q0 q1 q2 q3 q4 q5 q6)⟩⟩⟩⟩⟩, fun q5 => (y15 q0 q1 q2 q3 q4 q5)⟩⟩⟩⟩⟩, fun q4 => ⟨(h17 q0 q1 q2 q3 q4), ⟨(h18 q0 q1 q2 q3 q4), ⟨(h19 q0 q1 q2 q3 q4), ⟨(h20 q0 q1 q2 q3 q4), ⟨fun q5 => ⟨(h19 q0 q1 q2 q3 q4), ⟨(h20 q0 q1 q2 q3 q4), ⟨(h17 q0 q1 q2 q3 q4), ⟨(h18 q0 q1 q2 q3 q4), ⟨fun q6 => ⟨(h21 q0 q1 q2 q3 q4 q5 q6), ⟨(h2 q0), ⟨fun q7 => ⟨(h22 q0 q1 q2 q3 q4 q5 q6 q7), (y16 q0 q1 q2 q3 q4 q5 q6 q7)⟩, fun q7 => (y17 q0 q1 q2 q3 q4 q5 q6 q7)⟩⟩⟩, fun q6 => (y18 q0 q1 q2 q3 q4 q5 q6)⟩⟩⟩⟩⟩, fun q5 => (y19 q0 q1 q2 q3 q4 q5)⟩⟩⟩⟩⟩⟩⟩⟩⟩⟩⟩⟩⟩
theorem all_c11 (A : Prim) (W : Wd) (n : Nat) (c : Nat → Ca) (key : List UInt8) (x y : Int) (a : Nat) (h : Nat → Int) (b : Nat) (l : Nat → Pr) (i : Int) (y' : Int) (a' : Nat) (h' : Nat → Int) (b' : Nat) (l' : Nat → Pr) (i' : Int) {ψ : Fe2 → Prop} {c0 : Bool} (e0 : A.lt i (A.ofN n) = c0) (h1 : c0 = true → (A.inB i n) = true) (h2 : c0 = true → (okS a (fnR h) b (fnR l)) = true) (h3 : c0 = true → (goodS x y (c (A.toN i)).op (c (A.toN i)).key (c (A.toN i)).val) = true) (y1 : c0 = true → ψ (Fe2.at_ 0 [Eqn.sh (Sh.sl 3 n (fnR c)) (Sh.sl 3 n (fnR c)), Eqn.sh (Sh.str key) (Sh.str key), Eqn.int (A.add .i64 i (Int.ofNat 1)) i', Eqn.int x x, Eqn.int (nuS x y (c (A.toN i)).op (c (A.toN i)).key (c (A.toN i)).val a (fnR h) b (fnR l)) y', Eqn.sh (Sh.sl 1 (len (nqS x y (c (A.toN i)).op (c (A.toN i)).key (c (A.toN i)).val a (fnR h) b (fnR l))) (fnR (nth (nqS x y (c (A.toN i)).op (c (A.toN i)).key (c (A.toN i)).val a (fnR h) b (fnR l))))) (Sh.sl 1 a' (fnR h')), Eqn.sh (Sh.sl 2 (len (npS x y (c (A.toN i)).op (c (A.toN i)).key (c (A.toN i)).val a (fnR h) b (fnR l))) (fnR (nth (npS x y (c (A.toN i)).op (c (A.toN i)).key (c (A.toN i)).val a (fnR h) b (fnR l))))) (Sh.sl 2 b' (fnR l'))])) (y2 : c0 = false → False) : MeetsT ψ (runTo (C7 A W spec11g sAl) nH0 300 400 11 tb11 (LP11 n c key x y a h b l i) [] [⟨11, td11, LP11 n c key x y' a' h' b' l' i', []⟩]) := by
 subst e0
 rw [c11 A W n c key x y a h b l i y' a' h' b' l' i', meetsT_eq]
 exact ⟨fun q0 => ⟨(h1 q0), ⟨(h1 q0), ⟨(h1 q0), ⟨(h2 q0), ⟨(h3 q0), ⟨(h2 q0), ⟨(h3 q0), ⟨⟨rfl, rfl, rfl, rfl, rfl, rfl, rfl, rfl, rfl, rfl, rfl, trivial⟩, (y1 q0)⟩⟩⟩⟩⟩⟩⟩⟩, fun q0 => (y2 q0)⟩
theorem all_d11 (A : Prim) (W : Wd) (n : Nat) (c : Nat → Ca) (key : List UInt8) (x y : Int) (a : Nat) (h : Nat → Int) (b : Nat) (l : Nat → Pr) (i : Int) (y' : Int) (a' : Nat) (h' : Nat → Int) (b' : Nat) (l' : Nat → Pr) (i' : Int) {ψ : Fe2 → Prop} {c0 : Bool} (e0 : A.lt i (A.ofN n) = c0) (h1 : c0 = true → (A.inB i n) = true) (h2 : c0 = true → (okS a (fnR h) b (fnR l)) = true) (h3 : c0 = true → (badS x y (c (A.toN i)).op (c (A.toN i)).key (c (A.toN i)).val) = true) (h4 : c0 = true → (isES 1 x (c (A.toN i)).op) = true) (y1 : c0 = true → ψ (Fe2.at_ 0 [Eqn.sh (Sh.sl 3 n (fnR c)) (Sh.sl 3 n (fnR c)), Eqn.sh (Sh.str key) (Sh.str key), Eqn.int (A.add .i64 i (Int.ofNat 1)) i', Eqn.int x x, Eqn.int y y', Eqn.sh (Sh.sl 1 a (fnR h)) (Sh.sl 1 a' (fnR h')), Eqn.sh (Sh.sl 2 b (fnR l)) (Sh.sl 2 b' (fnR l'))])) (y2 : c0 = false → False) : MeetsT ψ (runTo (C7 A W (spec11b 1) sAl) nH0 300 400 11 tb11 (LP11 n c key x y a h b l i) [] [⟨11, td11, LP11 n c key x y' a' h' b' l' i', []⟩]) := by
 subst e0
 rw [d11 A W n c key x y a h b l i y' a' h' b' l' i', meetsT_eq]
 exact ⟨fun q0 => ⟨(h1 q0), ⟨(h1 q0), ⟨(h1 q0), ⟨(h2 q0), ⟨(h3 q0), ⟨(h4 q0), ⟨(h2 q0), ⟨(h3 q0), ⟨(h4 q0), ⟨⟨rfl, rfl, rfl, rfl, rfl, rfl, rfl, rfl, rfl, trivial⟩, (y1 q0)⟩⟩⟩⟩⟩⟩⟩⟩⟩⟩, fun q0 => (y2 q0)⟩
theorem all_e11 (A : Prim) (W : Wd) (n : Nat) (c : Nat → Ca) (key : List UInt8) (x y : Int) (a : Nat) (h : Nat → Int) (b : Nat) (l : Nat → Pr) (i : Int) (y' : Int) (a' : Nat) (h' : Nat → Int) (b' : Nat) (l' : Nat → Pr) (i' : Int) {ψ : Fe2 → Prop} {c0 : Bool} (e0 : A.lt i (A.ofN n) = c0) (h1 : c0 = true → (A.inB i n) = true) (h2 : c0 = true → (okS a (fnR h) b (fnR l)) = true) (h3 : c0 = true → (badS x y (c (A.toN i)).op (c (A.toN i)).key (c (A.toN i)).val) = true) (h4 : c0 = true → (isES 3 x (c (A.toN i)).op) = true) (y1 : c0 = true → ψ (Fe2.at_ 0 [Eqn.sh (Sh.sl 3 n (fnR c)) (Sh.sl 3 n (fnR c)), Eqn.sh (Sh.str key) (Sh.str key), Eqn.int (A.add .i64 i (Int.ofNat 1)) i', Eqn.int x x, Eqn.int y y', Eqn.sh (Sh.sl 1 a (fnR h)) (Sh.sl 1 a' (fnR h')), Eqn.sh (Sh.sl 2 b (fnR l)) (Sh.sl 2 b' (fnR l'))])) (y2 : c0 = false → False) : MeetsT ψ (runTo (C7 A W (spec11b 3) sAl) nH0 300 400 11 tb11 (LP11 n c key x y a h b l i) [] [⟨11, td11, LP11 n c key x y' a' h' b' l' i', []⟩]) := by
 subst e0
 rw [e11 A W n c key x y a h b l i y' a' h' b' l' i', meetsT_eq]
 exact ⟨fun q0 => ⟨(h1 q0), ⟨(h1 q0), ⟨(h1 q0), ⟨(h2 q0), ⟨(h3 q0), ⟨(h4 q0), ⟨(h2 q0), ⟨(h3 q0), ⟨(h4 q0), ⟨⟨rfl, rfl, rfl, rfl, rfl, rfl, rfl, rfl, rfl, trivial⟩, (y1 q0)⟩⟩⟩⟩⟩⟩⟩⟩⟩⟩, fun q0 => (y2 q0)⟩
end Go.Proofs
namespace Go.Pl
open Go Go.Sx Go.Proofs
theorem wfP_B {m : Nat} {s : Sta} (h : InvB m s) : wfP s.ps = true := by
 rcases h.kd with e | e | e | e
 ·rw [(h.nm (.inl e)).2.1]; rfl
 ·rw [(h.nm (.inr e)).2.1]; rfl
 ·rw [(h.qu e).2.1]; rfl
 ·obtain ⟨_, _, h1, h2⟩ := h.mp e
  refine wf_iff.2 ⟨h1, fun p hp => ?_⟩
  have := bey_in (h2 p hp)
  omega
theorem okS_B {m : Nat} {s : Sta} (h : InvB m s) (hm : m ≤ 1000) : okS (len s.q) (fnR (nth s.q)) (len s.ps) (fnR (nth s.ps)) = true := by
 have h1 := h.lq
 have h2 := h.lp
 have e : len s.ps ≤ 100000 := by unfold len; omega
 unfold okS wfG
 rw [lstP, okB_put, okB_put, wfP_B h]
 simp only [Bool.and_eq_true, decide_eq_true_eq]
 exact ⟨⟨trivial, room_le (by unfold len; omega) (by omega)⟩, ⟨⟨trivial, e⟩, trivial⟩, room_le (by unfold len; omega) (by omega)⟩
theorem lstI (q : List Int) : lst Int (len q) (fnR (nth q)) = q := lst_nth q
theorem nuS_e (s : Sta) (op k v : Int) : nuS s.kind s.num op k v (len s.q) (fnR (nth s.q)) (len s.ps) (fnR (nth s.ps)) = (opT s op k v).1.num := by unfold nuS; rw [lstP, lstI]
theorem nqS_e (s : Sta) (op k v : Int) : nqS s.kind s.num op k v (len s.q) (fnR (nth s.q)) (len s.ps) (fnR (nth s.ps)) = (opT s op k v).1.q := by unfold nqS; rw [lstP, lstI]
theorem npS_e (s : Sta) (op k v : Int) : npS s.kind s.num op k v (len s.q) (fnR (nth s.q)) (len s.ps) (fnR (nth s.ps)) = (opT s op k v).1.ps := by unfold npS; rw [lstP, lstI]
end Go.Pl
namespace Go.Pl
open Go Go.Sx Go.Proofs
def kS (s : Sta) : List UInt8 := keyG s.kind s.num (len s.q) (fnR (nth s.q)) (len s.ps) (fnR (nth s.ps))
def kyT (s : Sta) : Bool := kyS s.kind s.num (len s.q) (fnR (nth s.q)) (len s.ps) (fnR (nth s.ps))
def eqS2 (s t : Sta) : Bool := eqG s.kind s.num (len s.q) (fnR (nth s.q)) (len s.ps) (fnR (nth s.ps)) t.kind t.num (len t.q) (fnR (nth t.q)) (len t.ps) (fnR (nth t.ps))
theorem kS_e (s : Sta) : kS s = keyS s := by unfold kS keyG; rw [lstP, lstI]
theorem eqS2_e (s t : Sta) : eqS2 s t = decide (s = t) := by unfold eqS2 eqG; rw [lstP, lstI, lstP, lstI]
theorem num_B {m : Nat} {s : Sta} (h : InvB m s) : NumS m s := by
 refine ⟨h.lq, h.lp, ?_, ?_, ?_⟩
 ·rcases h.kd with e | e | e | e
  ·exact (bey_i64 (h.nm (.inl e)).2.2).2
  ·exact (bey_i64 (h.nm (.inr e)).2.2).2
  ·rw [(h.qu e).1]; rfl
  ·rw [(h.mp e).1]; rfl
 ·rcases h.kd with e | e | e | e
  ·rw [(h.nm (.inl e)).1]; exact fun _ h => by cases h
  ·rw [(h.nm (.inr e)).1]; exact fun _ h => by cases h
  ·exact fun v hv => (bey_i64 ((h.qu e).2.2 v hv)).2
  ·rw [(h.mp e).2.1]; exact fun _ h => by cases h
 ·rcases h.kd with e | e | e | e
  ·rw [(h.nm (.inl e)).2.1]; exact fun _ h => by cases h
  ·rw [(h.nm (.inr e)).2.1]; exact fun _ h => by cases h
  ·rw [(h.qu e).2.1]; exact fun _ h => by cases h
  ·exact fun p hp => bey_i64 ((h.mp e).2.2.2 p hp)
theorem all_mk {n : Nat} {p : Nat → Bool} (h : ∀ j, j < n → p j = true) : (List.range n).all p = true := List.all_eq_true.2 fun j hj => h j (List.mem_range.1 hj)
theorem nth_mem {α : Type} [Row α] {l : List α} {j : Nat} (h : j < l.length) : nth l j ∈ l := by
 have e : nth l j = l[j] := by simp [nth, h]
 rw [e]; exact List.getElem_mem h
theorem kyT_num {m : Nat} {s : Sta} (h : NumS m s) (hm : m ≤ 100000) (hk : in64 s.kind = true) : kyT s = true := by
 have h1 := h.lq
 have h2 := h.lp
 unfold kyT kyS
 rw [okB_put, okB_put, hk, h.nm, rwAt_fnR, rwAt_fnR]
 have e1 : numsB (len s.q) (nth s.q) = true := all_mk fun j hj => h.qu _ (nth_mem hj)
 have e2 : prsB (len s.ps) (nth s.ps) = true := all_mk fun j hj => by
  have := h.mp _ (nth_mem hj)
  rw [this.1, this.2]; rfl
 rw [e1, e2]
 have : decide (len s.q ≤ 100000 ∧ len s.ps ≤ 100000) = true := decide_eq_true (by unfold len; omega)
 rw [this]; rfl
theorem kyT_B {m : Nat} {s : Sta} (h : InvB m s) (hm : m ≤ 1000) : kyT s = true := by
 refine kyT_num (num_B h) (by omega) (decide_eq_true ?_)
 rcases h.kd with e | e | e | e <;> rw [e] <;> decide
theorem lenK_B {m : Nat} {s : Sta} (h : InvB m s) (hm : m ≤ 1000) : lenK (keyS s) = true := by
 have hn := num_B h
 have h1 := h.lq
 have h2 := h.lp
 have hl : (partsS s).length ≤ 1002 := by
  unfold partsS
  repeat' split
  all_goals simp only [List.length_cons, List.length_map, List.length_nil]; omega
 have hw : ∀ w ∈ partsS s, w.length ≤ 50 := fun w hw => by
  unfold partsS at hw
  rcases List.mem_cons.1 hw with rfl | hw
  ·exact wordO_len _
  ·split at hw
   ·obtain rfl : w = itoaS s.num := by simpa using hw
    exact Nat.le_trans (itoa_len hn.nm) (by omega)
   ·split at hw
    ·obtain ⟨v, hv, rfl⟩ := List.mem_map.1 hw
     exact Nat.le_trans (itoa_len (hn.qu v hv)) (by omega)
    ·split at hw
     ·obtain ⟨p, hp, rfl⟩ := List.mem_map.1 hw
      exact pair_len (hn.mp p hp).1 (hn.mp p hp).2
     ·cases hw
 have := join_len (partsS s) [32] hw
 have h3 : (partsS s).length * (50 + [(32 : UInt8)].length) ≤ 1002 * 51 := Nat.mul_le_mul_right _ hl
 unfold lenK
 refine decide_eq_true ?_
 have : (keyS s).length ≤ (partsS s).length * (50 + [(32 : UInt8)].length) := this
 omega
theorem back_key {m : Nat} {s : Sta} (h : InvB m s) : isC6 (kS s) 2 = false ∧ isC6 (kS s) 4 = false ∧ stO (kS s) = s := by
 have := from_key h
 rw [kS_e]
 unfold isC6 codF stO
 rw [this]
 exact ⟨rfl, rfl, rfl⟩
theorem key_back {l : List UInt8} (h2 : isC6 l 2 = false) (h4 : isC6 l 4 = false) (hl : l.length ≤ 65536) : kyT (stO l) = true ∧ kS (stO l) = l := by
 unfold isC6 codF at h2 h4
 cases hf : fromS l with
 | none => rw [hf] at h2; cases h2
 | some p =>
  obtain ⟨s, b⟩ := p
  rw [hf] at h2 h4
  cases b with
  | true => cases h4
  | false =>
   have e : stO l = s := by unfold stO; rw [hf]
   obtain ⟨k1, k2⟩ := key_from hf
   rw [e]
   have := (splitS_len l 32).2
   refine ⟨kyT_num k2 (by omega) ?_, by rw [kS_e]; exact k1⟩
   have hk : s.kind = 1 ∨ s.kind = 2 ∨ s.kind = 3 ∨ s.kind = 4 := by
    obtain ⟨a, ws, e⟩ := spl_some 32 l
    rw [fromS_split e] at hf
    split at hf
    ·cases hf
    ·rename_i h0
     split at hf
     ·cases hf
     ·have := (go_num ws 0 ⟨kindW a, 0, [], []⟩ s ⟨Nat.le_refl 0, Nat.le_refl 0, rfl, (fun _ h => by cases h), (fun _ h => by cases h)⟩ hf).2.1
      rw [this]
      exact (kind_word h0).2
   rcases hk with e | e | e | e <;> rw [e] <;> decide
end Go.Pl
namespace Go.Proofs
open Go Go.Sx Go.Pl
theorem OB41 : FnOK Tryz.prog (gls7 W7) 41 B41 := by
 intro H w shs args φ hon hg hr h
 unfold B41 at h
 split at h
 ·rename_i k i
  obtain ⟨h1, h2, h3⟩ := h
  cases hb : badOb k i with
  | true =>
   have hφ := h2 hb
   refine (O41 H w _ args (fun s => s = .tup [.agg (staS zeroT), .er 0 242]) hon hg hr ⟨h1, fun _ => rfl, fun q => no2 q hb⟩).mono fun e w' ⟨v', s, H', he, hs, r⟩ => ?_
   subst hs
   obtain ⟨H2, r2⟩ := (res_q1 r).wk (s' := .tup [.agg [.v (.int .i64 0), .v (.int .i64 0), .sl 1 0 noI, .sl 2 0 noP], .er 0 242]) ⟨⟨rfl, rfl, .inl ⟨rfl, rfl⟩, .inl ⟨rfl, rfl⟩, trivial⟩, rfl, trivial⟩
   exact ⟨v', _, H2, he, hφ, r2⟩
  | false => exact O41 H w _ args φ hon hg hr ⟨h1, fun q => no2 hb q, fun _ => h3 hb⟩
 ·exact h.elim
theorem OZ35 : FnOK Tryz.prog (gls7 W7) 35 Z35 := by
 intro H w shs args φ hon hg hr h
 unfold Z35 at h
 split at h
 ·rename_i t u s2 s3
  split at h
  ·rename_i g g' e1 e2 e3 e4
   match args, hr with
   | [v], ⟨r, _⟩ =>
    have r' : Rep H (.agg [.i .i64 0, .i .i64 0, s2, s3]) v := by
     cases r with
     | agg _ vs hl hr =>
      refine .agg _ _ hl fun j s' v' h1 h2 => ?_
      match j, h1 with
      | 0, h1 => cases h1; exact rep_num e1 (hr 0 _ _ rfl h2)
      | 1, h1 => cases h1; exact rep_num e2 (hr 1 _ _ rfl h2)
      | j + 2, h1 => exact hr (j + 2) _ _ h1 h2
    refine O35 H w [.agg [.i .i64 0, .i .i64 0, s2, s3]] [v] φ hon hg ⟨r', trivial⟩ ?_
    unfold F35
    simp only [e3, e4]
    exact ⟨rfl, rfl, rfl, rfl, rfl, rfl, rfl, h⟩
  ·exact h.elim
 ·exact h.elim
theorem OK35 : FnOK Tryz.prog (gls7 W7) 35 K35 := O35.mono fun H shs args φ hr h => by
 unfold K35 at h
 split at h
 ·split at h
  ·rename_i e1 e2
   obtain ⟨h1, h2⟩ := h
   unfold kyS at h1
   simp only [Bool.and_eq_true] at h1
   obtain ⟨a1, a2, a3, a4, a5, a6, a7⟩ := h1
   unfold F35
   simp only [e1, e2]
   exact ⟨a1, a2, a3, a4, a5, a6, a7, h2⟩
  ·exact h.elim
 ·exact h.elim
theorem OE45 : FnOK Tryz.prog (gls7 W7) 45 E45 := O45.mono fun H shs args φ hr h => by
 unfold E45 at h
 split at h
 ·split at h
  ·rename_i e1 e2 e3 e4
   unfold F45
   simp only [e1, e2, e3, e4]
   exact h
  ·exact h.elim
 ·exact h.elim
theorem OS46 : FnOK Tryz.prog (gls7 W7) 46 S46 := by
 intro H w shs args φ hon hg hr h
 unfold S46 at h
 split at h
 ·rename_i l
  obtain ⟨h1, h2, h3⟩ := h
  have zr (e : Nat) (hφ : φ (zeroZ e)) (hF : Tree.All (fun s => s = zeroR e) (F46 [.str l])) : Calls Tryz.prog 46 args.toArray w fun e w' => ∃ v s H', e = .returned v ∧ φ s ∧ SpecRes H w s v H' w' := by
   refine (O46 H w _ args (fun s => s = zeroR e) hon hg hr hF).mono fun e' w' ⟨v', s, H', he, hs, r⟩ => ?_
   subst hs
   obtain ⟨H2, r2⟩ := (res_q1 r).wk (s' := zeroZ e) ⟨⟨rfl, rfl, .inl ⟨rfl, rfl⟩, .inl ⟨rfl, rfl⟩, trivial⟩, rfl, trivial⟩
   exact ⟨v', _, H2, he, hφ, r2⟩
  cases c2 : isC6 l 2 with
  | true => exact zr 2 (h2 c2) ⟨h1, fun _ => rfl, fun q => no2 q c2⟩
  | false =>
   cases c4 : isC6 l 4 with
   | true => exact zr 4 ((h3 c2).1 c4) ⟨h1, fun q => no2 c2 q, fun _ => ⟨fun _ => rfl, fun q => no2 q c4⟩⟩
   | false => exact O46 H w _ args φ hon hg hr ⟨h1, fun q => no2 c2 q, fun _ => ⟨fun q => no2 c4 q, fun _ => (h3 c2).2 c4⟩⟩
 ·exact h.elim
theorem fok11 (stop : Nat → List Nat → Bool) : FnsOK Tryz.prog (C7 prim W7 spec11 stop) := C7.fok (fun g F h => by
 unfold spec11 at h
 split at h
 ·cases h; exact OZ35
 ·cases h; exact O40
 ·cases h; exact OB41
 ·cases h) fun g h => by
 unfold spec11 at h
 split at h
 all_goals first | (cases h; done) | kernel_rfl
theorem fok11e (stop : Nat → List Nat → Bool) : FnsOK Tryz.prog (C7 prim W7 spec11e stop) := C7.fok (fun g F h => by
 unfold spec11e at h
 split at h
 ·cases h; exact OK35
 ·cases h; exact fnOK_no
 ·cases h; exact OE45
 ·cases h; exact OS46
 ·cases h) fun g h => by
 unfold spec11e at h
 split at h
 all_goals first | (cases h; done) | kernel_rfl
theorem fok11g (stop : Nat → List Nat → Bool) : FnsOK Tryz.prog (C7 prim W7 spec11g stop) := C7.fok (fun g F h => by
 unfold spec11g at h
 split at h
 ·cases h; exact OS42g
 ·cases h; exact fnOK_no
 ·cases h; exact fnOK_no
 ·cases h; exact fnOK_no
 ·cases h) fun g h => by
 unfold spec11g at h
 split at h
 all_goals first | (cases h; done) | kernel_rfl
theorem fok11b (e : Nat) (stop : Nat → List Nat → Bool) : FnsOK Tryz.prog (C7 prim W7 (spec11b e) stop) := C7.fok (fun g F h => by
 unfold spec11b at h
 split at h
 ·cases h; exact OS42b e
 ·cases h; exact fnOK_no
 ·cases h; exact fnOK_no
 ·cases h; exact fnOK_no
 ·cases h) fun g h => by
 unfold spec11b at h
 split at h
 all_goals first | (cases h; done) | kernel_rfl
section
variable {H0 : Mem} {w0 : World} {φ : Sh → Prop} {n : Nat} {c : Nat → Ca} {key : List UInt8}
theorem loop11 (hn : n ≤ 300) (hl : key.length ≤ 65536) (hφ : φ (.b true)) : ∀ r i (s : Sta), i + r = n → InvB i s →
  GoesS Tryz.prog (C7 prim W7 spec11e sAl) (K0 H0 w0) 11 td11 (LP11 n c key s.kind s.num (len s.q) (nth s.q) (len s.ps) (nth s.ps) (i : Nat)) [] emp φ
 | 0, i, s, hi, hI => by
  refine gSi (fn := Tryz.f11) (tb := tb11) (by kernel_rfl) (by kernel_rfl) ?_
  refine gSt (C7.ok _ _) (fok11e _) (hold := nH0) (m := 300) (n := 400) (ts := []) ?_
  have lt {P : Prop} (h : prim.lt (i : Int) (prim.ofN n) = true) : P := by simp [prim_lt, prim_ofN] at h; omega
  obtain ⟨f1, f2, f3⟩ := back_key hI
  have f4 : kyT s = true := kyT_B hI (by omega)
  have f5 : kyT (stO (kS s)) = true := by rw [f3]; exact f4
  have f6 : prim.seq (kS (stO (kS s))) (kS s) = true := by rw [f3, prim_seq]; exact beq_self_eq_true _
  have f7 : eqS2 (stO (kS s)) s = true := by rw [f3, eqS2_e]; exact decide_eq_true rfl
  have f8 : eqS2 s (stO (kS s)) = true := by rw [f3, eqS2_e]; exact decide_eq_true rfl
  have f9 : lenK (kS s) = true := by rw [kS_e]; exact lenK_B hI (by omega)
  have fa : lenK key = true := decide_eq_true (by omega)
  have fb (h2 : isC6 key 2 = false) (h4 : isC6 key 4 = false) : kyT (stO key) = true ∧ φ (.b (prim.seq (kS (stO key)) key)) := by
   obtain ⟨k1, k2⟩ := key_back h2 h4 hl
   refine ⟨k1, ?_⟩
   rw [k2, prim_seq, beq_self_eq_true]
   exact hφ
  refine all_b11 prim W7 n c key s.kind s.num (len s.q) (nth s.q) (len s.ps) (nth s.ps) i rfl rfl rfl rfl rfl rfl rfl rfl (fun q => lt q) (fun _ => f4) (fun _ => f9) (fun _ _ => fa) (fun _ _ _ => fa) (fun _ _ _ => fa)
   (fun _ _ _ _ => okB_put _ _) (fun _ _ _ _ => okB_put _ _) (fun _ _ _ _ => okB_put _ _) (fun _ _ _ _ => okB_put _ _) (fun _ _ _ _ _ _ => f5)
   (fun _ _ _ _ _ => okB_put _ _) (fun _ _ _ _ _ => okB_put _ _) (fun _ _ _ _ _ => okB_put _ _) (fun _ _ _ _ _ => okB_put _ _) (fun _ _ _ _ _ _ _ => f5)
   (fun _ _ _ _ _ => okB_put _ _) (fun _ _ _ _ _ => okB_put _ _) (fun _ _ _ _ _ => okB_put _ _) (fun _ _ _ _ _ => okB_put _ _) (fun _ _ _ _ _ _ _ => f5)
   (fun _ _ _ q2 q4 _ _ _ => (fb q2 q4).1)
   (fun q => lt q) (fun _ q _ => no2 f1 q) (fun _ q _ _ => no2 f1 q) (fun _ q _ _ => no2 f1 q) (fun _ _ q _ => no2 f2 q) (fun _ _ q _ _ => no2 f2 q) (fun _ _ q _ _ => no2 f2 q)
   (fun _ _ _ _ _ _ _ => hφ) (fun _ _ _ _ _ _ q => no2 q f6) (fun _ _ _ _ _ q => no2 q f8) (fun _ _ _ _ q => no2 q f7)
   (fun _ _ _ _ _ _ _ _ => hφ) (fun _ _ _ _ _ _ _ q => no2 q f6) (fun _ _ _ _ _ _ q => no2 q f8) (fun _ _ _ _ _ q => no2 q f7)
   (fun _ _ _ q2 q4 _ _ _ => (fb q2 q4).2) (fun _ _ _ _ _ _ _ q => no2 q f6) (fun _ _ _ _ _ _ q => no2 q f8) (fun _ _ _ _ _ q => no2 q f7)
 | r + 1, i, s, hi, hI => by
  refine gSi (fn := Tryz.f11) (tb := tb11) (by kernel_rfl) (by kernel_rfl) ?_
  have w1 : prim.add .i64 (i : Int) (Int.ofNat 1) = ((i + 1 : Nat) : Int) := add1 (by omega)
  have no {P : Prop} (h : prim.lt (i : Int) (prim.ofN n) = false) : P := by simp [prim_lt, prim_ofN] at h; omega
  have inb (h : prim.lt (i : Int) (prim.ofN n) = true) : prim.inB (i : Int) n = true := by simp [prim_inB]; omega
  have hok := okS_B hI (show i ≤ 1000 by omega)
  cases hb : goodS s.kind s.num (c i).op (c i).key (c i).val with
  | true =>
   have e0 := op_kind s (c i).op (c i).key (c i).val
   have e1 := nuS_e s (c i).op (c i).key (c i).val
   have e2 := nqS_e s (c i).op (c i).key (c i).val
   have e3 := npS_e s (c i).op (c i).key (c i).val
   have nx := loop11 hn hl hφ r (i + 1) _ (by omega) (invB_nx hI hb)
   rw [e0, ← e1, ← e2, ← e3] at nx
   refine goesS_spec (s := spec11g) (stop := sAl) ?_
   refine gSt (C7.ok _ _) (fok11g _) (hold := nH0) (m := 300) (n := 400) (ts := [⟨11, td11, LP11 n c key s.kind (nuS s.kind s.num (c i).op (c i).key (c i).val (len s.q) (fnR (nth s.q)) (len s.ps) (fnR (nth s.ps))) (len (nqS s.kind s.num (c i).op (c i).key (c i).val (len s.q) (fnR (nth s.q)) (len s.ps) (fnR (nth s.ps)))) (nth (nqS s.kind s.num (c i).op (c i).key (c i).val (len s.q) (fnR (nth s.q)) (len s.ps) (fnR (nth s.ps)))) (len (npS s.kind s.num (c i).op (c i).key (c i).val (len s.q) (fnR (nth s.q)) (len s.ps) (fnR (nth s.ps)))) (nth (npS s.kind s.num (c i).op (c i).key (c i).val (len s.q) (fnR (nth s.q)) (len s.ps) (fnR (nth s.ps)))) ((i + 1 : Nat) : Int), []⟩]) ?_
   exact all_c11 prim W7 n c key s.kind s.num (len s.q) (nth s.q) (len s.ps) (nth s.ps) i _ _ _ _ _ _ rfl inb (fun _ => hok) (fun _ => hb) (fun _ => ⟨⟨rfl, rfl, w1, rfl, rfl, rfl, rfl, trivial⟩, _, rfl, goesS_spec (s := spec11e) (stop := sAl) nx⟩) (fun q => no q)
  | false =>
   have hb := good_bad hb
   have hI' : InvB (i + 1) s := ⟨hI.kd, Nat.le_succ_of_le hI.lq, Nat.le_succ_of_le hI.lp, hI.nm, hI.qu, hI.mp⟩
   have nx := loop11 hn hl hφ r (i + 1) s (by omega) hI'
   rcases err_casesS s.kind (c i).op with he | he
   ·refine goesS_spec (s := spec11b 1) (stop := sAl) ?_
    refine gSt (C7.ok _ _) (fok11b 1 _) (hold := nH0) (m := 300) (n := 400) (ts := [⟨11, td11, LP11 n c key s.kind s.num (len s.q) (nth s.q) (len s.ps) (nth s.ps) ((i + 1 : Nat) : Int), []⟩]) ?_
    exact all_d11 prim W7 n c key s.kind s.num (len s.q) (nth s.q) (len s.ps) (nth s.ps) i _ _ _ _ _ _ rfl inb (fun _ => hok) (fun _ => hb) (fun _ => he) (fun _ => ⟨⟨rfl, rfl, w1, rfl, rfl, rfl, rfl, trivial⟩, _, rfl, goesS_spec (stop := sAl) nx⟩) (fun q => no q)
   ·refine goesS_spec (s := spec11b 3) (stop := sAl) ?_
    refine gSt (C7.ok _ _) (fok11b 3 _) (hold := nH0) (m := 300) (n := 400) (ts := [⟨11, td11, LP11 n c key s.kind s.num (len s.q) (nth s.q) (len s.ps) (nth s.ps) ((i + 1 : Nat) : Int), []⟩]) ?_
    exact all_e11 prim W7 n c key s.kind s.num (len s.q) (nth s.q) (len s.ps) (nth s.ps) i _ _ _ _ _ _ rfl inb (fun _ => hok) (fun _ => hb) (fun _ => he) (fun _ => ⟨⟨rfl, rfl, w1, rfl, rfl, rfl, rfl, trivial⟩, _, rfl, goesS_spec (stop := sAl) nx⟩) (fun q => no q)
end
def F11 : List Sh → Tree Sh
 | [.agg [.i .i64 x, .i .i64 _], .sl 3 n g, .str _] => .need (okB Ca n g) (.need (in64 x) (.leaf (.b true)))
 | _ => .fail
theorem O11 : FnOK Tryz.prog (gls7 W7) 11 F11 := by
 refine fnOK_S (C := C7 prim W7 spec11 sAl) (C7.ok _ _) (fn := Tryz.f11) (by kernel_rfl) (by kernel_rfl) fun H w shs args φ hrep h => ?_
 have hn : Tryz.f11.ntmps = 124 := by kernel_rfl
 unfold F11 at h
 split at h
 ·rename_i x y n g key
  obtain ⟨h1, h2, hφ⟩ := h
  match args, hrep with
  | [v, v1, v2], ⟨r, r1, r2, _⟩ =>
   refine ⟨[.agg [.i .i64 x, .i .i64 y], .sl 3 n (fnR (rwAt (α := Ca) g)), .str key], ⟨r, rep_rows r1 h1, r2, trivial⟩, L0, ?_⟩
   have hφ : φ (.b true) := hφ
   generalize rwAt (α := Ca) g = c
   refine gSt (C7.ok _ _) (fok11 _) (hold := nH0) (m := 300) (n := 400) (ts := [⟨11, td11, LP11 n c key x y 0 (nth []) 0 (nth []) ((0 : Nat) : Int), []⟩]) ?_
   rw [hn]
   have se : prim.seq [] [] = true := rfl
   have hlen (q : prim.lt (Int.ofNat 65536) (prim.ofN (prim.len key)) = false) : key.length ≤ 65536 := lt_f q
   exact all_a11 prim W7 n c key x y 0 (nth []) 0 (nth []) y _ rfl rfl rfl rfl (fun _ _ => h2) (fun _ => hφ) (fun _ _ => hφ) (fun _ _ _ _ => hφ) (fun _ _ _ q => no2 q se)
    (fun q1 q2 q3 => ⟨⟨rfl, rfl, rfl, rfl, rfl, rfl, rfl, trivial⟩, _, rfl, goesS_spec (s := spec11e) (stop := sAl) (loop11 (lt_f q1) (hlen q2) hφ n 0 ⟨x, y, [], []⟩ (by omega) (invB_new q3))⟩)
 ·exact h.elim
end Go.Proofs
namespace Go.Sx
open Go.RowKit Go.ChangeShapes Go.WideShapes Go.Deep
def memOf (w : World) : Mem := fun b => w.heap[b]?
theorem memOf_on (w : World) : (memOf w).on w := fun _ _ h => h
theorem hcell_memOf {w : World} {a : Addr} {v : Value} (h : w.cell? a = some v) : hcell (memOf w) a.block a.off = some v ∧ a.spot = none := by
 unfold World.cell? at h
 unfold hcell memOf
 split at h
 ·rename_i c t f hb
  rw [hb]
  cases hs : a.spot with
  | none => simp only [hs, Option.isSome_none, Bool.false_eq_true, if_false] at h; exact ⟨h, rfl⟩
  | some x => simp [hs] at h
 ·cases h
section
variable {H : Type} {enc : TypeId × Value → H} {P : Program} {w : World} {base : Nat} {spare : Nat → Bool} {held : Bool}
def flatB (P : Program) (fs : Array Field) (k : Nat) : Bool :=
 fs.size == k && (List.range k).all fun i => match fs[i]? with
  | some f => f.offset == i && (match P.underlying f.type with | some (.int .i64) => true | _ => false) && P.cellsOf f.type == 1
  | none => false
def rowB (P : Program) (e k : Nat) : Bool :=
 match P.underlying e with
 | some (.int .i64) => k == 1 && P.cellsOf e == 1
 | some (.struct fs) => flatB P fs k && P.cellsOf e == k
 | _ => false
def int64 (n : Int) : Prop := (Lit.int .i64 n).wf = true
theorem flat_cells {e k fuel : Nat} {cs : List Value} {x : DataW H × List MemPlace} (hr : rowB P e k = true) (h : DataW.trod enc P w base spare held fuel e cs = some x) :
  ∃ ns : List Int, ns.length = k ∧ cs = ns.map (Value.int .i64) ∧ ∀ n ∈ ns, int64 n := by
 unfold rowB at hr
 split at hr
 ·rename_i hu
  simp only [Bool.and_eq_true, beq_iff_eq] at hr
  obtain ⟨n, rfl, _, hw⟩ := DataW.trod_int hu h
  exact ⟨[n], hr.1.symm, rfl, fun m hm => by simp at hm; subst hm; exact hw⟩
 ·rename_i fs hu
  simp only [Bool.and_eq_true, beq_iff_eq] at hr
  obtain ⟨hf, hc⟩ := hr
  unfold flatB at hf
  simp only [Bool.and_eq_true, beq_iff_eq] at hf
  obtain ⟨hk, hf⟩ := hf
  obtain ⟨xs, m, _, _, hlen, hxs, hel⟩ := DataW.trod_struct hu h
  rw [hc] at hlen
  have cell : ∀ i, i < k → ∃ n, cs[i]? = some (.int .i64 n) ∧ int64 n := fun i hi => by
   have q := List.all_eq_true.1 hf i (List.mem_range.2 hi)
   split at q
   ·rename_i f hfi
    simp only [Bool.and_eq_true, beq_iff_eq] at q
    obtain ⟨⟨ho, ht⟩, h1⟩ := q
    have ht : P.underlying f.type = some (.int .i64) := by
     split at ht
     ·assumption
     ·cases ht
    have q2 := hel i f hfi
    rw [ho, h1] at q2
    have hxi : i < xs.length := by rw [hxs, hk]; exact hi
    rw [List.getElem?_eq_getElem hxi] at q2
    obtain ⟨n, e1, _, e3⟩ := DataW.trod_int ht q2
    refine ⟨n, ?_, e3⟩
    have : (List.take 1 (List.drop i cs))[0]? = some (.int .i64 n) := by rw [e1]; rfl
    simpa using this
   ·cases q
  clear hel h hf
  have : ∀ (j : Nat) (l : List Value), l.length = j → (∀ i, i < j → ∃ n, l[i]? = some (.int .i64 n) ∧ int64 n) → ∃ ns : List Int, ns.length = j ∧ l = ns.map (Value.int .i64) ∧ ∀ n ∈ ns, int64 n := by
   intro j
   induction j with
   | zero => intro l hl _; exact ⟨[], rfl, by simpa using hl, fun _ h => by simp at h⟩
   | succ j ih =>
    intro l hl hc
    match l, hl with
    | v :: l, hl =>
     obtain ⟨ns, h1, h2, h3⟩ := ih l (by simpa using hl) fun i hi => by simpa using hc (i + 1) (by omega)
     obtain ⟨n, q1, q2⟩ := hc 0 (by omega)
     simp at q1
     subst q1
     exact ⟨n :: ns, by simp [h1], by simp [h2], fun m hm => by
      rcases List.mem_cons.1 hm with rfl | hm
      ·exact q2
      ·exact h3 m hm⟩
  exact this k cs hlen cell
 ·cases hr
def shInts (ns : List Int) : List Sh := ns.map (Sh.i .i64)
theorem rep_ints {M : Mem} {ns : List Int} : Rep M (.agg (shInts ns)) (.agg (ns.map (Value.int .i64)).toArray) := by
 refine .agg _ _ (by simp [shInts]) fun j s v h1 h2 => ?_
 simp only [shInts, List.getElem?_map, Option.map_eq_some_iff] at h1
 obtain ⟨n, h3, rfl⟩ := h1
 simp [h3] at h2
 subst h2
 exact .i _ _
theorem cells?_at {w : World} {base : Nat} {a : Addr} {n : Nat} {cs : List Value} (h : w.cells? base a n = some cs) : cs.length = n ∧ ∀ j, j < n → w.cell? (a.add j) = cs[j]? := by
 unfold World.cells? at h
 split at h
 ·have : ∀ (l : List Nat) (cs : List Value), l.mapM (fun i => w.cell? (a.add i)) = some cs → cs.length = l.length ∧ ∀ (j : Nat) (i : Nat), l[j]? = some i → w.cell? (a.add i) = cs[j]? := by
   intro l
   induction l with
   | nil => intro cs h; simp at h; subst h; exact ⟨rfl, fun j i e => by simp at e⟩
   | cons x l ih =>
    intro cs h
    rw [List.mapM_cons] at h
    simp only [Option.bind_eq_bind, Option.bind_eq_some_iff, Option.pure_def] at h
    obtain ⟨v, h1, vs, h2, h3⟩ := h
    cases h3
    obtain ⟨e1, e2⟩ := ih vs h2
    refine ⟨by simp [e1], fun j i e => ?_⟩
    match j, e with
    | 0, e => simp at e; subst e; simpa using h1
    | j + 1, e => simpa using e2 j i (by simpa using e)
  obtain ⟨e1, e2⟩ := this _ _ h
  rw [List.length_range] at e1
  exact ⟨e1, fun j hj => e2 j j (by simp [hj])⟩
 ·cases h
theorem add_off (a : Addr) (n : Nat) : (a.add n).off = a.off + n ∧ (a.add n).block = a.block := by
 unfold Addr.add
 split
 ·subst_vars; exact ⟨rfl, rfl⟩
 ·exact ⟨rfl, rfl⟩
theorem add_add' (a : Addr) (i j : Nat) : (a.add i).add j = a.add (i + j) := by
 unfold Addr.add
 by_cases hi : i = 0 <;> by_cases hj : j = 0 <;> simp [hi, hj, Nat.add_assoc]
theorem rep_rowsl {t e k fuel : Nat} {cs : List Value} {x : DataW H × List MemPlace} (ht : P.underlying t = some (.slice e)) (hr : rowB P e k = true) (hk : P.cellsOf e = k) (h0 : 0 < k)
  (h : DataW.trod enc P w base spare held fuel t cs = some x) :
  ∃ v n g, cs = [v] ∧ Rep (memOf w) (.sl k n g) v ∧ ∀ i, i < n → ∃ ns : List Int, ns.length = k ∧ g i = shInts ns ∧ ∀ n ∈ ns, int64 n := by
 rcases open_slice ht h with ⟨rfl, _⟩ | ⟨a, len, cap, m, n, D, Pl, rfl, hb, hl, hcap, hm, _, hel⟩
 ·exact ⟨_, 0, fun _ => [], rfl, .sl0 _ _ _ _ (Nat.zero_le _), fun i hi => by omega⟩
 have hlm : len ≤ m := by rw [hm]; split <;> omega
 rw [hk] at hel
 have row : ∀ i, i < len → ∃ ns : List Int, ns.length = k ∧ w.cells? base (a.add (i * k)) k = some (ns.map (Value.int .i64)) ∧ ∀ n ∈ ns, int64 n := fun i hi => by
  obtain ⟨cs', h1, h2⟩ := hel i (by omega)
  obtain ⟨ns, e1, rfl, e3⟩ := flat_cells hr h2
  exact ⟨ns, e1, h1, e3⟩
 by_cases hz : len = 0
 ·subst hz
  exact ⟨_, 0, fun _ => [], rfl, .sl0 _ _ _ _ hcap, fun i hi => by omega⟩
 let N : Nat → List Int := fun i => if h : i < len then (row i h).choose else []
 have hN : ∀ i, i < len → (N i).length = k ∧ w.cells? base (a.add (i * k)) k = some ((N i).map (Value.int .i64)) ∧ ∀ n ∈ N i, int64 n := fun i hi => by
  simp only [N, dif_pos hi]
  exact (row i hi).choose_spec
 have cell : ∀ i j, i < len → j < k → w.cell? (a.add (i * k + j)) = ((N i).map (Value.int .i64))[j]? := fun i j hi hj => by
  have := (cells?_at (hN i hi).2.1).2 j hj
  rwa [add_add'] at this
 have hspot : a.spot = none := by
  have h1 := cell 0 0 (by omega) h0
  have : ∃ v, w.cell? a = some v := by
   have hl0 := (hN 0 (by omega)).1
   match hq : N 0 with
   | [] => rw [hq] at hl0; simp at hl0; omega
   | x :: r =>
    rw [hq] at h1
    simp [Addr.add] at h1
    exact ⟨_, h1⟩
  obtain ⟨v, hv⟩ := this
  exact (hcell_memOf hv).2
 obtain ⟨blk, off, spot⟩ := a
 simp only at hspot
 subst hspot
 refine ⟨_, len, fun i => shInts (N i), rfl, .sl _ _ _ blk off cap (fun i j => ((N i).map (Value.int .i64)).getD j .nilFunc) hl hcap (fun i hi => by simp [shInts, (hN i hi).1]) (fun i j hi hj => ?_) (fun i j hi hj => ?_) (fun i j s hi e => ?_), fun i hi => ⟨N i, (hN i hi).1, rfl, (hN i hi).2.2⟩⟩
 ·have h1 := cell i j hi hj
  have hlt : j < ((N i).map (Value.int .i64)).length := by simpa [(hN i hi).1] using hj
  rw [List.getElem?_eq_getElem hlt] at h1
  have h2 := (hcell_memOf h1).1
  rw [(add_off _ _).1, (add_off _ _).2] at h2
  simp only [Nat.add_assoc] at h2 ⊢
  rw [h2, List.getD_eq_getElem?_getD, List.getElem?_eq_getElem hlt]; rfl
 ·have hlt : j < (N i).length := by rw [(hN i hi).1]; exact hj
  simp [List.getD_eq_getElem?_getD, hlt]; rfl
 ·simp only [shInts, List.getElem?_map, Option.map_eq_some_iff] at e
  obtain ⟨n, h3, rfl⟩ := e
  simp [List.getD_eq_getElem?_getD, h3]
  exact .i _ _
theorem rep_slice_arg {t e k : Nat} {v : Value} {d : DataW H} {ps : List MemPlace} (ht : P.underlying t = some (.slice e)) (hr : rowB P e k = true) (hk : P.cellsOf e = k) (h0 : 0 < k) {b0 : Nat} (hval : Value.okWide P w .any b0 t v) (hd : DataW.Trod enc P w base spare held t v d ps) :
  ∃ n g, Rep (memOf w) (.sl k n g) v ∧ ∀ i, i < n → ∃ ns : List Int, ns.length = k ∧ g i = shInts ns ∧ ∀ n ∈ ns, int64 n := by
 obtain ⟨fuel, hd⟩ := hd
 obtain ⟨u, n, g, h1, h2, h3⟩ := rep_rowsl ht hr hk h0 hd
 have : v = u := by
  unfold Value.okWide at hval
  rw [ht] at hval
  cases v <;> simp [Value.cells] at h1 <;> first | exact h1 | skip
  all_goals (unfold Cell.okWide at hval; simp [ht] at hval; try (simp [Cell.ok, ht] at hval))
 subst this
 exact ⟨n, g, h2, h3⟩
end
end Go.Sx
namespace Go.Sx
open Go.RowKit Go.ChangeShapes Go.WideShapes Go.Deep
theorem var_heap {P : Program} {W : World} {n : String} {g : Nat} {cs : Array Value} (hg : P.globalNamed n = some g) (h : W.var? P n = some cs) : ∃ e f, W.heap[g]? = some (.cells cs e f) := by
 unfold World.var? at h
 rw [hg] at h
 simp only [Option.bind_some] at h
 split at h
 ·rename_i c e f hb
  cases h
  exact ⟨_, _, hb⟩
 ·cases h
theorem laid_er {P : Program} {n nm : String} {text : List UInt8} {r : List (String × DataW Unit)} {W : World} {g : Nat} {ti tp te ts : TypeId} {ms : Array (String × TypeId)} {f : Field}
  (h : laidMet P ((n, .iface nm (.ptr (.agg [.lit (.string text)]))) :: r) W)
  (hg : P.globalNamed n = some g) (ht : (P.globals[g]?).map (·.type) = some ti) (hi : P.underlying ti = some (.interface ms)) (hrow : ∀ u, P.typeName? 3 u = some nm → u = tp)
  (hp : P.underlying tp = some (.pointer te)) (he : P.underlying te = some (.struct #[f])) (hft : f.type = ts) (hfo : f.offset = 0) (hs : P.underlying ts = some .string) (hc : P.cellsOf te = 1) (hcs : P.cellsOf ts = 1) :
  GlobAt (memOf W) g (.er g tp) := by
 obtain ⟨ps, ⟨g0, t0, cs0, f0, p0, q0, hg0, ht0, hv0, hd0, _, e0⟩, _, hrows⟩ := h
 obtain rfl := Option.some.inj (hg.symm.trans hg0)
 obtain rfl := Option.some.inj (ht.symm.trans ht0)
 subst e0
 obtain ⟨l0⟩ := cs0
 have ok0 : ∀ u v, l0 = [.iface u v] → Value.okWide P W .any 0 u v := fun u v e => by
  subst e
  exact (hrows g 0 (by simp [MemPlace.row])).2 u v (by simpa using World.var?_cell hg0 hv0 0)
 obtain ⟨a0, s0, rfl, hc0, hs0, hz0, rfl⟩ := errorString_of_trod hi hrow hp he hft hfo hs hc hcs hd0 ok0
 obtain ⟨c0, t0, hb0⟩ := (hrows a0.block a0.off (by simp [MemPlace.row])).1
 obtain ⟨e, f, hh⟩ := var_heap hg hv0
 have h1 : hcell (memOf W) g 0 = some (.iface tp (.pointer (some a0))) := by
  unfold hcell memOf
  rw [hh]; rfl
 exact ⟨_, h1, .er g tp a0 c0 t0 h1 hb0, rfl⟩
theorem laid_strs {P : Program} {n : String} {texts : List (List UInt8)} {r : List (String × DataW Unit)} {W : World} {g : Nat} {t e : TypeId} {k : Nat}
  (h : laidMet P ((n, .agg (texts.map fun s => .lit (.string s))) :: r) W)
  (hg : P.globalNamed n = some g) (ht : (P.globals[g]?).map (·.type) = some t) (hu : P.underlying t = some (.array k e)) (he : P.underlying e = some .string) (hce : P.cellsOf e = 1) (hct : P.cellsOf t = texts.length) :
  GlobAt (memOf W) g (.tup (texts.map Sh.str)) := by
 obtain ⟨ps, ⟨g0, t0, cs0, f0, p0, q0, hg0, ht0, hv0, hd0, _, e0⟩, _, hrows⟩ := h
 obtain rfl := Option.some.inj (hg.symm.trans hg0)
 obtain rfl := Option.some.inj (ht.symm.trans ht0)
 obtain ⟨e1, f1, hh⟩ := var_heap hg hv0
 obtain ⟨xs, m, _, hx, hlen, hxs, hel⟩ := DataW.trod_array hu hd0
 have hxs' : xs.map (·.1) = texts.map fun s => .lit (.string s) := by
  have := congrArg Prod.fst hx
  simp at this
  exact this.symm
 have hkt : k = texts.length := by
  have := congrArg List.length hxs'
  simp at this
  omega
 subst hkt
 have cell : ∀ j (hj : j < texts.length), cs0[j]? = some (.string ⟨texts[j].toArray⟩) := fun j hj => by
  have q := hel j hj
  rw [hce, Nat.mul_one] at q
  have hxj : j < xs.length := by omega
  rw [List.getElem?_eq_getElem hxj] at q
  obtain ⟨s, q1, q2, _⟩ := DataW.trod_string he q
  have q3 : (xs.map (·.1))[j]? = some (.lit (.string texts[j])) := by rw [hxs']; simp [hj]
  have q4 : (xs[j]).1 = .lit (.string texts[j]) := by
   rw [List.getElem?_map, List.getElem?_eq_getElem hxj] at q3
   simpa using q3
  rw [q2] at q4
  simp at q4
  have q5 : (List.take 1 (List.drop j cs0.toList))[0]? = some (.string s) := by rw [q1]; rfl
  have q6 : cs0[j]? = some (.string s) := by simpa using q5
  rw [q6]
  obtain ⟨⟨l⟩⟩ := s
  have : l = texts[j] := q4
  subst this; rfl
 refine ⟨⟨cs0, e1, f1, hh, by rw [List.length_map, ← hct, ← hlen]; simp⟩, fun j => .string ⟨(texts.getD j []).toArray⟩, fun j hj => ?_, fun j s hs => ?_⟩
 ·have hj' : j < texts.length := by simpa using hj
  refine ⟨?_, rfl⟩
  unfold hcell memOf
  rw [hh]
  simp only [cell j hj', List.getD_eq_getElem?_getD, List.getElem?_eq_getElem hj', Option.getD_some]
 ·rw [List.getElem?_map, Option.map_eq_some_iff] at hs
  obtain ⟨l, h1, rfl⟩ := hs
  show Rep (memOf W) (.str l) (.string ⟨(texts.getD j []).toArray⟩)
  rw [List.getD_eq_getElem?_getD, h1]
  exact .str l
theorem laid_nums {P : Program} {n : String} {kd : IntKind} {texts : List Int} {r : List (String × DataW Unit)} {W : World} {g : Nat} {t e : TypeId} {k : Nat}
  (h : laidMet P ((n, .agg (texts.map fun s => .lit (.int kd s))) :: r) W)
  (hg : P.globalNamed n = some g) (ht : (P.globals[g]?).map (·.type) = some t) (hu : P.underlying t = some (.array k e)) (he : P.underlying e = some (.int kd)) (hce : P.cellsOf e = 1) (hct : P.cellsOf t = texts.length) :
  GlobAt (memOf W) g (.tup (texts.map (Sh.i kd))) := by
 obtain ⟨ps, ⟨g0, t0, cs0, f0, p0, q0, hg0, ht0, hv0, hd0, _, e0⟩, _, hrows⟩ := h
 obtain rfl := Option.some.inj (hg.symm.trans hg0)
 obtain rfl := Option.some.inj (ht.symm.trans ht0)
 obtain ⟨e1, f1, hh⟩ := var_heap hg hv0
 obtain ⟨xs, m, _, hx, hlen, hxs, hel⟩ := DataW.trod_array hu hd0
 have hxs' : xs.map (·.1) = texts.map fun s => .lit (.int kd s) := by
  have := congrArg Prod.fst hx
  simp at this
  exact this.symm
 have hkt : k = texts.length := by
  have := congrArg List.length hxs'
  simp at this
  omega
 subst hkt
 have cell : ∀ j (hj : j < texts.length), cs0[j]? = some (.int kd texts[j]) := fun j hj => by
  have q := hel j hj
  rw [hce, Nat.mul_one] at q
  have hxj : j < xs.length := by omega
  rw [List.getElem?_eq_getElem hxj] at q
  obtain ⟨s, q1, q2, _⟩ := DataW.trod_int he q
  have q3 : (xs.map (·.1))[j]? = some (.lit (.int kd texts[j])) := by rw [hxs']; simp [hj]
  have q4 : (xs[j]).1 = .lit (.int kd texts[j]) := by
   rw [List.getElem?_map, List.getElem?_eq_getElem hxj] at q3
   simpa using q3
  rw [q2] at q4
  simp at q4
  have q5 : (List.take 1 (List.drop j cs0.toList))[0]? = some (.int kd s) := by rw [q1]; rfl
  have q6 : cs0[j]? = some (.int kd s) := by simpa using q5
  rw [q6]
  rw [q4]
 refine ⟨⟨cs0, e1, f1, hh, by rw [List.length_map, ← hct, ← hlen]; simp⟩, fun j => .int kd (texts.getD j 0), fun j hj => ?_, fun j s hs => ?_⟩
 ·have hj' : j < texts.length := by simpa using hj
  refine ⟨?_, rfl⟩
  unfold hcell memOf
  rw [hh]
  simp only [cell j hj', List.getD_eq_getElem?_getD, List.getElem?_eq_getElem hj', Option.getD_some]
 ·rw [List.getElem?_map, Option.map_eq_some_iff] at hs
  obtain ⟨l, h1, rfl⟩ := hs
  show Rep (memOf W) (.i kd l) (.int kd (texts.getD j 0))
  rw [List.getD_eq_getElem?_getD, h1]
  exact .i kd l
end Go.Sx
namespace Go.Proofs
open Go Go.Sx Go.RowKit Go.ChangeShapes
theorem star7 : "*" ++ "errors.errorString" = "*errors.errorString" := by decide
theorem row7 (u : TypeId) (h : Tryz.prog.typeName? 3 u = some "*errors.errorString") : u = 242 :=
 typeName_ptr_named (nm := "errors.errorString") (by rw [star7]; kernel_rfl) (by kernel_rfl) (by decide) u (by rw [star7]; exact h)
open YtikaakiadiaeoaaGreatDoor.Rows in
abbrev laid7 : List (String × DataW Unit) := specLineRow.laid
theorem gls_laid {W : World} (h : laidMetH Tryz.prog laid7 W) : GlobOK (gls7 W7) (memOf W) := by
 rw [MakeChecks.laidMetH_plain _ _ _ (by kernel_rfl)] at h
 have e16 : GlobAt (memOf W) 16 (.tup (pow10.map (Sh.i .u64))) := laid_nums (kd := .u64) (texts := pow10) h.tail.tail (by kernel_rfl) (by kernel_rfl) Tryz.underlying233 Tryz.underlying217 (by kernel_rfl) (by kernel_rfl)
 have e15 : GlobAt (memOf W) 15 (.er 15 242) := laid_er h.tail.tail.tail.tail (by kernel_rfl) (by kernel_rfl) Tryz.underlying52 row7 Tryz.underlying242 Tryz.underlying244 rfl rfl Tryz.underlying9 (by kernel_rfl) (by kernel_rfl)
 have e14 : GlobAt (memOf W) 14 (.er 14 242) := laid_er h.tail.tail.tail.tail.tail (by kernel_rfl) (by kernel_rfl) Tryz.underlying52 row7 Tryz.underlying242 Tryz.underlying244 rfl rfl Tryz.underlying9 (by kernel_rfl) (by kernel_rfl)
 have e4 : GlobAt (memOf W) 4 (.er 4 242) := laid_er h.tail.tail.tail.tail.tail.tail (by kernel_rfl) (by kernel_rfl) Tryz.underlying52 row7 Tryz.underlying242 Tryz.underlying244 rfl rfl Tryz.underlying9 (by kernel_rfl) (by kernel_rfl)
 have e2 : GlobAt (memOf W) 2 (.er 2 242) := laid_er h.tail.tail.tail.tail.tail.tail.tail (by kernel_rfl) (by kernel_rfl) Tryz.underlying52 row7 Tryz.underlying242 Tryz.underlying244 rfl rfl Tryz.underlying9 (by kernel_rfl) (by kernel_rfl)
 have e0 : GlobAt (memOf W) 0 (.er 0 242) := laid_er h.tail.tail.tail.tail.tail.tail.tail.tail (by kernel_rfl) (by kernel_rfl) Tryz.underlying52 row7 Tryz.underlying242 Tryz.underlying244 rfl rfl Tryz.underlying9 (by kernel_rfl) (by kernel_rfl)
 have e3 : GlobAt (memOf W) 3 (.er 3 242) := laid_er h.tail.tail.tail.tail.tail.tail.tail.tail.tail (by kernel_rfl) (by kernel_rfl) Tryz.underlying52 row7 Tryz.underlying242 Tryz.underlying244 rfl rfl Tryz.underlying9 (by kernel_rfl) (by kernel_rfl)
 have e1 : GlobAt (memOf W) 1 (.er 1 242) := laid_er h.tail.tail.tail.tail.tail.tail.tail.tail.tail.tail (by kernel_rfl) (by kernel_rfl) Tryz.underlying52 row7 Tryz.underlying242 Tryz.underlying244 rfl rfl Tryz.underlying9 (by kernel_rfl) (by kernel_rfl)
 have e7 : GlobAt (memOf W) 7 (.tup (wds W7 7 4)) := laid_strs (texts := [W7 7 0, W7 7 1, W7 7 2, W7 7 3]) h.tail.tail.tail.tail.tail.tail.tail.tail.tail.tail.tail (by kernel_rfl) (by kernel_rfl) Tryz.underlying182 Tryz.underlying9 (by kernel_rfl) (by kernel_rfl)
 have e8 : GlobAt (memOf W) 8 (.tup (wds W7 8 7)) := laid_strs (texts := [W7 8 0, W7 8 1, W7 8 2, W7 8 3, W7 8 4, W7 8 5, W7 8 6]) h.tail.tail.tail.tail.tail.tail.tail.tail.tail.tail.tail.tail (by kernel_rfl) (by kernel_rfl) Tryz.underlying183 Tryz.underlying9 (by kernel_rfl) (by kernel_rfl)
 have e9 : GlobAt (memOf W) 9 (.tup (wds W7 9 9)) := laid_strs (texts := [W7 9 0, W7 9 1, W7 9 2, W7 9 3, W7 9 4, W7 9 5, W7 9 6, W7 9 7, W7 9 8]) h.tail.tail.tail.tail.tail.tail.tail.tail.tail.tail.tail.tail.tail (by kernel_rfl) (by kernel_rfl) Tryz.underlying184 Tryz.underlying9 (by kernel_rfl) (by kernel_rfl)
 have e10 : GlobAt (memOf W) 10 (.tup (wds W7 10 3)) := laid_strs (texts := [W7 10 0, W7 10 1, W7 10 2]) h.tail.tail.tail.tail.tail.tail.tail.tail.tail.tail.tail.tail.tail.tail (by kernel_rfl) (by kernel_rfl) Tryz.underlying185 Tryz.underlying9 (by kernel_rfl) (by kernel_rfl)
 have e11 : GlobAt (memOf W) 11 (.tup (wds W7 11 4)) := laid_strs (texts := [W7 11 0, W7 11 1, W7 11 2, W7 11 3]) h.tail.tail.tail.tail.tail.tail.tail.tail.tail.tail.tail.tail.tail.tail.tail (by kernel_rfl) (by kernel_rfl) Tryz.underlying182 Tryz.underlying9 (by kernel_rfl) (by kernel_rfl)
 have e12 : GlobAt (memOf W) 12 (.tup (wds W7 12 4)) := laid_strs (texts := [W7 12 0, W7 12 1, W7 12 2, W7 12 3]) h.tail.tail.tail.tail.tail.tail.tail.tail.tail.tail.tail.tail.tail.tail.tail.tail (by kernel_rfl) (by kernel_rfl) Tryz.underlying182 Tryz.underlying9 (by kernel_rfl) (by kernel_rfl)
 intro g s hg
 match g, hg with
 | 0, hg => cases hg; exact e0
 | 1, hg => cases hg; exact e1
 | 2, hg => cases hg; exact e2
 | 3, hg => cases hg; exact e3
 | 4, hg => cases hg; exact e4
 | 5, hg => cases hg
 | 6, hg => cases hg
 | 7, hg => cases hg; exact e7
 | 8, hg => cases hg; exact e8
 | 9, hg => cases hg; exact e9
 | 10, hg => cases hg; exact e10
 | 11, hg => cases hg; exact e11
 | 12, hg => cases hg; exact e12
 | 13, hg => cases hg
 | 14, hg => cases hg; exact e14
 | 15, hg => cases hg; exact e15
 | 16, hg => cases hg; exact e16
 | n + 17, hg => simp [gls7, look?] at hg
end Go.Proofs
namespace Go.Sx
open Go.RowKit Go.ChangeShapes Go.WideShapes Go.Deep Go.Pl
theorem SpecRes.below {H : Mem} {w w' : World} {s : Sh} {v : Value} {H' : Mem} (h : SpecRes H w s v H' w') : Below w.heap.size w w' := ⟨h.os, h.tape, h.output, h.size, h.old⟩
theorem SpecRes.bool {H : Mem} {w w' : World} {b : Bool} {v : Value} {H' : Mem} (h : SpecRes H w (.b b) v H' w') : v = .bool b := by
 obtain ⟨E1, _, _, h1, _⟩ := h.res 0
 exact h1
def rowedB (P : Program) (ts : List TypeId) : Bool := ts.all fun t => P.readableRec t && decide (t < P.types.size)
section
variable {H : Type} {enc : TypeId × Value → H} {P : Program}
theorem below_all (hl : laidOutB P = true) {W W' : World} (hb : Below W.heap.size W W') :
  ∀ {ts : List TypeId} {vs : List Value} {ds : List (DataW H)} {p : List MemPlace}, rowedB P ts = true → DataW.TrodAll enc P W 0 (fun _ => true) true ts vs ds p → (∀ x ∈ p, x.block < W.heap.size) →
   DataW.TrodAll enc P W' 0 (fun b => decide (b < W.heap.size)) true ts vs ds p
 | [], _, _, _, _, h, _ => by
  obtain ⟨rfl, rfl, rfl⟩ := trodAll_nil h
  exact rfl
 | t :: ts, _, _, _, hr, h, hlt => by
  obtain ⟨v, vs1, d, ds1, a, b, rfl, rfl, rfl, h1, h2⟩ := trodAll_cons h
  simp only [rowedB, List.all_cons, Bool.and_eq_true, decide_eq_true_eq] at hr
  exact ⟨a, b, Below.trod hl hr.1.1 hr.1.2 h1 hb fun x hx => hlt x (List.mem_append_left _ hx), below_all hl hb (by simp only [rowedB]; exact hr.2) h2 fun x hx => hlt x (List.mem_append_right _ hx), rfl⟩
theorem post_law (hl : laidOutB P = true) {f : Func} {s : ChangeSpec} {W W' : World} {args : Array Value} {t : TypeId} {ds gs : List (DataW H)} {before : List MemPlace} (hs : s.vars = []) (hr : rowedB P f.params.toList = true) (ht : f.resultTypes = #[t]) (hu : P.underlying t = some .bool)
  (hW : DataW.Whole enc P f.params.toList s.vars false W args.toList ds gs before) (hb : Below W.heap.size W W')
  (h1 : (s.fn H (ds ++ gs)).results = [.lit (.bool true)]) (h2 : (s.fn H (ds ++ gs)).args = ds) (h3 : (s.fn H (ds ++ gs)).vars = []) :
  s.post enc P f false true false false W args (.bool true) W' := by
 have hlt := hW.lt
 have hW0 := hW
 obtain ⟨p, q, hA, hV, e, hfz, hnd⟩ := hW
 rw [hs] at hV
 obtain ⟨rfl, rfl⟩ := trodVars_none hV
 subst e
 refine ⟨ds, [], p ++ [], [], p, [], hW0, ?_, ?_, ?_, Below.frame hb _, fun e => by cases e⟩
 ·rw [h1, ht]
  exact trodAll_mk1 (shut_bool hu true)
 ·rw [h2]
  exact below_all hl hb hr hA fun x hx => hlt x (by simpa using hx)
 ·rw [h3, hs]
  exact rfl
end
theorem okB_rows {α : Type} [Row α] {k n : Nat} {g : Nat → List Sh} (hk : ∀ ns : List Int, ns.length = k → (Row.get (α := α) (shInts ns)).isSome = true) (h : ∀ i, i < n → ∃ ns : List Int, ns.length = k ∧ g i = shInts ns ∧ ∀ n ∈ ns, int64 n) : okB α n g = true := by
 induction n with
 | zero => rfl
 | succ n ih =>
  obtain ⟨ns, h1, h2, _⟩ := h n (by omega)
  simp only [okB, ih fun i hi => h i (by omega), Bool.true_and]
  rw [h2]
  exact hk ns h1
end Go.Sx
namespace Go.Sx
open Go.RowKit Go.ChangeShapes Go.WideShapes Go.Deep Go.Pl
section
variable {H : Type} {enc : TypeId × Value → H} {P : Program} {w : World} {base : Nat} {spare : Nat → Bool} {held : Bool}
theorem rep_struct_arg {t k : Nat} {fs : Array Field} {v : Value} {d : DataW H} {ps : List MemPlace} (hu : P.underlying t = some (.struct fs)) (hr : rowB P t k = true) {b0 : Nat} (hval : Value.okWide P w .any b0 t v) (hd : DataW.Trod enc P w base spare held t v d ps) :
  ∃ ns : List Int, ns.length = k ∧ v = .agg (ns.map (Value.int .i64)).toArray ∧ Rep (memOf w) (.agg (shInts ns)) v ∧ ∀ n ∈ ns, int64 n := by
 unfold Value.okWide at hval
 rw [hu] at hval
 obtain ⟨cs, rfl, hsz, _⟩ := hval
 obtain ⟨fuel, hd⟩ := hd
 obtain ⟨ns, h1, h2, h3⟩ := flat_cells hr hd
 have e : cs = (ns.map (Value.int .i64)).toArray := by
  have : cs.toList = ns.map (Value.int .i64) := by simpa [Value.cells] using h2
  rw [← this]
 subst e
 exact ⟨ns, h1, rfl, rep_ints, h3⟩
theorem rep_struct2_arg {t : Nat} {fs : Array Field} {v : Value} {d : DataW H} {ps : List MemPlace} (hu : P.underlying t = some (.struct fs)) (hr : rowB P t 2 = true) {b0 : Nat} (hval : Value.okWide P w .any b0 t v) (hd : DataW.Trod enc P w base spare held t v d ps) :
  ∃ x0 x1 : Int, v = .agg #[.int .i64 x0, .int .i64 x1] ∧ Rep (memOf w) (.agg [.i .i64 x0, .i .i64 x1]) v ∧ int64 x0 ∧ int64 x1 := by
 obtain ⟨ns, h1, rfl, h2, h3⟩ := rep_struct_arg hu hr hval hd
 match ns, h1, h2, h3 with
 | [x0, x1], _, h2, h3 => exact ⟨x0, x1, rfl, h2, h3 x0 (by simp), h3 x1 (by simp)⟩
end
end Go.Sx
namespace Go.Proofs.YtikaakiadiaeoaaGreatDoor
open Go.ChangeShapes Go.WideShapes Go.ChangeAt Go.WideMaps Go.WideElems Go.RowKit Go.Sx Go.Pl
theorem own7 : ownKnob Tryz.prog.godebug = none := by kernel_rfl
theorem laidOut7 : laidOutB Tryz.prog = true := by kernel_rfl
noncomputable def firstG : Nat := (Tryz.prog.globalNamed "unicode/utf8.first").getD 0
noncomputable def door6 (os : Os) : World :=
 { World.doorLaid Tryz.prog 400 os with heap := (World.doorLaid Tryz.prog 400 os).heap.modify firstG fun o => match o with
  | .cells _ e f => .cells (Go.Pinned.utf8FirstZ.map fun n => Value.int .u8 (Int.ofNat n)).toArray e f
  | o => o }
theorem door7 (os : Os) (args : Array Value) : laidMetH Tryz.prog laid7 ((door6 os).forCall (fun _ _ => 0) ⟨#[], args, []⟩).memory :=
 laidMetH_of_parts3 (fuel := 8) (laidMet_of_run' 8 (by kernel_rfl) (by kernel_rfl)) (by kernel_rfl) (by kernel_rfl)
end Go.Proofs.YtikaakiadiaeoaaGreatDoor
namespace Go.Sx
open Go Go.RowKit Go.Pl
theorem okB_cp {n : Nat} {g : Nat → List Sh} (h : ∀ i, i < n → ∃ ns : List Int, ns.length = 3 ∧ g i = shInts ns ∧ ∀ n ∈ ns, int64 n) : okB Ca n g = true := okB_rows (fun ns hn => by
 match ns, hn with
 | [a, b, c], _ => rfl) h
theorem in64_of {a : Int} (h : int64 a) : in64 a = true := by
 unfold int64 at h
 have h1 : IntKind.i64.min = -9223372036854775808 := by decide
 have h2 : IntKind.i64.max = 9223372036854775807 := by decide
 simp [Lit.wf] at h
 unfold in64
 simp
 omega
theorem rep_bytes {H : Mem} (x : ByteArray) : Rep H (.str x.data.toList) (.string x) := by
 obtain ⟨⟨l⟩⟩ := x
 exact .str l
end Go.Sx
