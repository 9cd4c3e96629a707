/-
  Chapter 5: summaries: the reference's Without, History; the word of a code; the kind of an operation. Own work. Chapter 5: objects and events that are valid; evaluated. The equations are written by program (gen2.py). Own work. Chapter 5: summaries: objects that are valid; an error's place. Own work. Chapter 5: events that are valid; evaluated, part 1. The equations are written by program (gen2.py). Own work. Chapter 5: events that are valid; evaluated, part 2. The equations are written by program (gen2.py). Own work. Chapter 5: events that are valid; evaluated, part 3. The equations are written by program (gen2.py). Own work. Chapter 5: events that are valid; evaluated, part 4. The equations are written by program (gen2.py). Own work. Chapter 5: events that are valid; evaluated, part 5. The equations are written by program (gen2.py). Own work. Chapter 5: summary: events that are valid. Own work (written by program, mk75.py). Chapter 5: summary: events that are valid, joined. Own work (written by program, mk76.py). Chapter 5: summary: events whose codes are not known; and all events. Own work. Chapter 5: summary: an error's place. Own work. Chapter 5: valid histories; evaluated. The equations are written by program (gen2.py). Own work. Chapter 5: summary: valid histories. Own work. Chapter 5: summary: valid histories, whole. Own work. Chapter 5: summary: valid histories, the function. Own work. Chapter 5: summary: valid histories, where lists may be nil. Own work. Chapter 5: does an answer fit an operation; evaluated. The equations are written by program (gen2.py). Own work. Chapter 5: summary: does an answer fit an operation. Own work. A call from whatever memory is known of, to its end: what is known of memory then. Own work.
-/
import Derived.Test.YtibleheeajlfjaaDoorP06
namespace Go.Pl
open Go Go.Sx
/-- The number that a shape is. -/
def icode : Sh → Option Int
  | .i .i64 c => some c
  | .v (.int .i64 c) => some c
  | _ => none
/-- Where the words of a table stand, and how many they are. -/
def tabOf (t : Int) : Nat × Nat :=
  bif t == 1 then (11, 4) else bif t == 2 then (12, 7) else bif t == 3 then (13, 9) else bif t == 4 then (14, 3) else bif t == 5 then (15, 4) else (16, 4)
/-- The place of a code (less one). -/
def idx (c : Int) : Int := IntKind.i64.wrap ((if (0 : Int) > c then 0 else c) - 1)
def inW (m : Nat) (c : Int) : Bool := decide (0 ≤ idx c ∧ idx c < (m : Int))
def wordOf (g m : Nat) (c : Int) : List UInt8 := bif inW m c then Go.Proofs.W5 g (idx c).toNat else []
def opOf (c : Int) : Int :=
  bif c == 1 then 1 else bif c == 2 then 1 else bif c == 3 then 2 else bif c == 4 then 2 else bif c == 5 then 3 else bif c == 6 then 3 else bif c == 7 then 4 else bif c == 8 then 4 else bif c == 9 then 4 else 0
theorem icode_ok {H : Mem} {s : Sh} {c : Int} {v : Value} (h : icode s = some c) (r : Rep H s v) : Rep H (.i .i64 c) v := by
  unfold icode at h
  split at h
  · cases h; exact r
  · cases h; cases r; exact .i _ _
  · cases h
theorem icode_lit {H : Mem} {s : Sh} {c : Int} {v : Value} (h : icode s = some c) (r : Rep H s v) : Rep H (.v (.int .i64 c)) v := by
  have := icode_ok h r
  cases this; exact .v _ rfl
end Go.Pl
namespace Go.Proofs
open Go Go.Sx Go.Pl
theorem O16s : ∀ g F, spec16 g = some F → FnOK Tryd.prog (gls5 W5) g F := fun g F h => by
  unfold spec16 at h
  split at h
  · cases h; exact O10
  · cases h; exact O11
  · cases h; exact O12
  · cases h; exact O13
  · cases h; exact O14
  · cases h; exact O15
  · cases h; exact O19
  · cases h; exact O35
  · cases h; exact O36
  · cases h; exact O37
  · cases h; exact O38
  · cases h; exact O41
  · cases h; exact O42
  · cases h
theorem fok16 (stop : Nat → List Nat → Bool) : FnsOK Tryd.prog (C5 prim W5 spec16 stop) := C5.fok O16s fun g h => by
  unfold spec16 at h
  split at h
  all_goals first | (cases h; done) | kernel_rfl
def F16 : List Sh → Tree Sh
  | [.agg [.sl 2 n g, .sl 8 m h], .i .i64 x] => .need (okB Oj n g) (.need (okB Ev m h) (.need (roomB n 16) (.need (roomB m 64) (.leaf (.agg [.os 31 2 n (fO g), osR 34 8 (keptF (kp19 [x] false) (rwAt h) m)])))))
  | _ => .fail
theorem O16 : FnOK Tryd.prog (gls5 W5) 16 F16 := by
  refine fnOK_run (C := C5 prim W5 spec16 stopAll) (C5.ok _ _) (fok16 _) (n := 300) (L := L0) (fn := Tryd.f16) (by kernel_rfl) (by kernel_rfl) fun H w shs args φ hrep h => ?_
  have hn : Tryd.f16.ntmps = 9 := by kernel_rfl
  unfold F16 at h
  split at h
  · rename_i n g m h' x
    obtain ⟨h1, h2, h3, h4, h5⟩ := h
    refine ⟨_, hrep, ?_⟩
    rw [hn, a16 prim W5 n m g h' x]
    exact ⟨h1, h2, rfl, h3, h4, h5⟩
  · exact h.elim
def F27 : List Sh → Tree Sh
  | [.agg [.sl 2 n g, .sl 8 m h]] => .need (okB Oj n g) (.need (okB Ev m h) (.need (roomB n 16) (.need (roomB m 64) (.leaf (.agg [.os 31 2 n (fO g), .os 34 8 m (fE h)])))))
  | _ => .fail
theorem O27 : FnOK Tryd.prog (gls5 W5) 27 F27 := by
  refine fnOK_run (C := C5 prim W5 spec16 stopAll) (C5.ok _ _) (fok16 _) (n := 300) (L := L0) (fn := Tryd.f27) (by kernel_rfl) (by kernel_rfl) fun H w shs args φ hrep h => ?_
  have hn : Tryd.f27.ntmps = 10 := by kernel_rfl
  unfold F27 at h
  split at h
  · rename_i n g m h'
    obtain ⟨h1, h2, h3, h4, h5⟩ := h
    refine ⟨_, hrep, ?_⟩
    rw [hn, a27 prim W5 n m g h']
    exact ⟨h1, h3, h2, h4, h5⟩
  · exact h.elim
theorem bif_all {ψ : Int → Prop} {b : Bool} {x y : Int} (h : ψ (bif b then x else y)) : (b = true → ψ x) ∧ (b = false → ψ y) := by
  cases b
  · exact ⟨fun q => (by cases q), fun _ => h⟩
  · exact ⟨fun _ => h, fun q => by cases q⟩
def F57 : List Sh → Tree Sh
  | [s] => match icode s with
    | some c => .leaf (.i .i64 (opOf c))
    | none => .fail
  | _ => .fail
theorem O57 : FnOK Tryd.prog (gls5 W5) 57 F57 := by
  refine fnOK_run (C := C5 prim W5 spec16 stopAll) (C5.ok _ _) (fok16 _) (n := 300) (L := L0) (fn := Tryd.f57) (by kernel_rfl) (by kernel_rfl) fun H w shs args φ hrep h => ?_
  have hn : Tryd.f57.ntmps = 17 := by kernel_rfl
  unfold F57 at h
  split at h
  · rename_i s
    split at h
    · rename_i c hc
      match args, hrep with
      | [v], ⟨hv, _⟩ =>
        refine ⟨[.i .i64 c], ⟨icode_ok hc hv, trivial⟩, ?_⟩
        rw [hn, a57 prim W5 c]
        have h : φ (.i .i64 (opOf c)) := h
        exact let h1 := bif_all (ψ := fun d => φ (.i .i64 d)) h; ⟨h1.1, fun q => let h1 := bif_all (ψ := fun d => φ (.i .i64 d)) (h1.2 q); ⟨h1.1, fun q => let h1 := bif_all (ψ := fun d => φ (.i .i64 d)) (h1.2 q); ⟨h1.1, fun q => let h1 := bif_all (ψ := fun d => φ (.i .i64 d)) (h1.2 q); ⟨h1.1, fun q => let h1 := bif_all (ψ := fun d => φ (.i .i64 d)) (h1.2 q); ⟨h1.1, fun q => let h1 := bif_all (ψ := fun d => φ (.i .i64 d)) (h1.2 q); ⟨h1.1, fun q => let h1 := bif_all (ψ := fun d => φ (.i .i64 d)) (h1.2 q); ⟨h1.1, fun q => let h1 := bif_all (ψ := fun d => φ (.i .i64 d)) (h1.2 q); ⟨h1.1, fun q => let h1 := bif_all (ψ := fun d => φ (.i .i64 d)) (h1.2 q); ⟨h1.1, fun q => h1.2 q⟩⟩⟩⟩⟩⟩⟩⟩⟩
    · exact h.elim
  · exact h.elim
def F61 : List Sh → Tree Sh
  | [s0, s] => match icode s0 with
    | some t => match icode s with
      | some c => .need (decide (1 ≤ t ∧ t ≤ 6)) (.leaf (.str (wordOf (tabOf t).1 (tabOf t).2 c)))
      | none => .fail
    | none => .fail
  | _ => .fail
theorem word_all {φ : Sh → Prop} {g m : Nat} {c : Int} {T : Prop} (h : φ (.str (wordOf g m c))) (hT : ∀ k : Nat, k < m → idx c = (k : Int) → φ (.str (W5 g k)) → T) :
    (prim.lt (prim.sub .i64 (prim.max c (Int.ofNat 0)) (Int.ofNat 1)) (Int.ofNat 0) = true → φ (.str [])) ∧
    (prim.lt (prim.sub .i64 (prim.max c (Int.ofNat 0)) (Int.ofNat 1)) (Int.ofNat 0) = false → (prim.le (Int.ofNat m) (prim.sub .i64 (prim.max c (Int.ofNat 0)) (Int.ofNat 1)) = true → φ (.str [])) ∧
     (prim.le (Int.ofNat m) (prim.sub .i64 (prim.max c (Int.ofNat 0)) (Int.ofNat 1)) = false → prim.inB (prim.sub .i64 (prim.max c (Int.ofNat 0)) (Int.ofNat 1)) m = true ∧ T)) := by
  have he : prim.sub .i64 (prim.max c (Int.ofNat 0)) (Int.ofNat 1) = idx c := rfl
  rw [he, prim_lt, prim_le, prim_inB]
  unfold wordOf at h
  simp only [Int.ofNat_eq_natCast, decide_eq_true_eq, decide_eq_false_iff_not]
  by_cases hi : inW m c = true
  · rw [hi] at h
    have hi := of_decide_eq_true hi
    refine ⟨fun q => ?_, fun _ => ⟨fun q => ?_, fun _ => ⟨hi, ?_⟩⟩⟩
    · exact absurd q (by omega)
    · exact absurd q (by omega)
    · exact hT (idx c).toNat (by omega) (by omega) h
  · have hi' : inW m c = false := by simpa using hi
    rw [hi'] at h
    have hi := of_decide_eq_false hi'
    refine ⟨fun _ => h, fun _ => ⟨fun _ => h, fun _ => ?_⟩⟩
    exfalso; apply hi; constructor <;> omega
def wchain (g : Nat) (i : Int) : List Nat → Tree Fin
  | [] => .fail
  | k :: l => .node (prim.eq i (Int.ofNat k)) (.leaf (.ret (.str (W5 g k)))) (wchain g i l)
theorem wchain_ok {ψ : Fin → Prop} {g k : Nat} {i : Int} (e : i = (k : Int)) (hψ : ψ (.ret (.str (W5 g k)))) : ∀ l, k ∈ l → (wchain g i l).All ψ
  | [], h => by cases h
  | a :: l, h => by
    refine ⟨fun q => ?_, fun q => ?_⟩
    · rw [prim_eq, e] at q
      have : k = a := by have := eq_of_beq q; simp only [Int.ofNat_eq_natCast] at this; omega
      rw [← this]; exact hψ
    · rw [prim_eq, e] at q
      have : k ≠ a := fun e => by subst e; simp at q
      exact wchain_ok e hψ l ((List.mem_cons.1 h).resolve_left this)
/-- All, not to be unfolded. -/
@[irreducible] def Meets (ψ : Fin → Prop) (t : Tree Fin) : Prop := t.All ψ
theorem meets_eq (ψ : Fin → Prop) (t : Tree Fin) : t.All ψ = Meets ψ t := by unfold Meets; rfl
theorem w61_1 {H : Mem} {w : World} {φ : Sh → Prop} {c : Int} (h2 : φ (.str (wordOf 11 4 c))) :
    Meets (FinOK Tryd.prog (C5 prim W5 spec16 stopAll) (K0 H w) Tryd.f61 φ) (runF (C5 prim W5 spec16 stopAll) 300 61 [.code []] (start0 16 [.v (.int .i64 1), .i .i64 c] L0)) := by
  rw [a61_1 prim W5 c, ← meets_eq]
  exact word_all (T := (wchain 11 (idx c) [0, 1, 2, 3]).All (FinOK Tryd.prog (C5 prim W5 spec16 stopAll) (K0 H w) Tryd.f61 φ)) h2 fun k hk e hφ => wchain_ok e hφ _ (by simp; omega)
theorem w61_2 {H : Mem} {w : World} {φ : Sh → Prop} {c : Int} (h2 : φ (.str (wordOf 12 7 c))) :
    Meets (FinOK Tryd.prog (C5 prim W5 spec16 stopAll) (K0 H w) Tryd.f61 φ) (runF (C5 prim W5 spec16 stopAll) 300 61 [.code []] (start0 16 [.v (.int .i64 2), .i .i64 c] L0)) := by
  rw [a61_2 prim W5 c, ← meets_eq]
  exact word_all (T := (wchain 12 (idx c) [0, 1, 2, 3, 4, 5, 6]).All (FinOK Tryd.prog (C5 prim W5 spec16 stopAll) (K0 H w) Tryd.f61 φ)) h2 fun k hk e hφ => wchain_ok e hφ _ (by simp; omega)
theorem w61_3 {H : Mem} {w : World} {φ : Sh → Prop} {c : Int} (h2 : φ (.str (wordOf 13 9 c))) :
    Meets (FinOK Tryd.prog (C5 prim W5 spec16 stopAll) (K0 H w) Tryd.f61 φ) (runF (C5 prim W5 spec16 stopAll) 300 61 [.code []] (start0 16 [.v (.int .i64 3), .i .i64 c] L0)) := by
  rw [a61_3 prim W5 c, ← meets_eq]
  exact word_all (T := (wchain 13 (idx c) [0, 1, 2, 3, 4, 5, 6, 7, 8]).All (FinOK Tryd.prog (C5 prim W5 spec16 stopAll) (K0 H w) Tryd.f61 φ)) h2 fun k hk e hφ => wchain_ok e hφ _ (by simp; omega)
theorem w61_4 {H : Mem} {w : World} {φ : Sh → Prop} {c : Int} (h2 : φ (.str (wordOf 14 3 c))) :
    Meets (FinOK Tryd.prog (C5 prim W5 spec16 stopAll) (K0 H w) Tryd.f61 φ) (runF (C5 prim W5 spec16 stopAll) 300 61 [.code []] (start0 16 [.v (.int .i64 4), .i .i64 c] L0)) := by
  rw [a61_4 prim W5 c, ← meets_eq]
  exact word_all (T := (wchain 14 (idx c) [0, 1, 2]).All (FinOK Tryd.prog (C5 prim W5 spec16 stopAll) (K0 H w) Tryd.f61 φ)) h2 fun k hk e hφ => wchain_ok e hφ _ (by simp; omega)
theorem w61_5 {H : Mem} {w : World} {φ : Sh → Prop} {c : Int} (h2 : φ (.str (wordOf 15 4 c))) :
    Meets (FinOK Tryd.prog (C5 prim W5 spec16 stopAll) (K0 H w) Tryd.f61 φ) (runF (C5 prim W5 spec16 stopAll) 300 61 [.code []] (start0 16 [.v (.int .i64 5), .i .i64 c] L0)) := by
  rw [a61_5 prim W5 c, ← meets_eq]
  exact word_all (T := (wchain 15 (idx c) [0, 1, 2, 3]).All (FinOK Tryd.prog (C5 prim W5 spec16 stopAll) (K0 H w) Tryd.f61 φ)) h2 fun k hk e hφ => wchain_ok e hφ _ (by simp; omega)
theorem w61_6 {H : Mem} {w : World} {φ : Sh → Prop} {c : Int} (h2 : φ (.str (wordOf 16 4 c))) :
    Meets (FinOK Tryd.prog (C5 prim W5 spec16 stopAll) (K0 H w) Tryd.f61 φ) (runF (C5 prim W5 spec16 stopAll) 300 61 [.code []] (start0 16 [.v (.int .i64 6), .i .i64 c] L0)) := by
  rw [a61_6 prim W5 c, ← meets_eq]
  exact word_all (T := (wchain 16 (idx c) [0, 1, 2, 3]).All (FinOK Tryd.prog (C5 prim W5 spec16 stopAll) (K0 H w) Tryd.f61 φ)) h2 fun k hk e hφ => wchain_ok e hφ _ (by simp; omega)
theorem six {P : Int → Nat → Nat → Prop} (h1 : P 1 11 4) (h2 : P 2 12 7) (h3 : P 3 13 9) (h4 : P 4 14 3) (h5 : P 5 15 4) (h6 : P 6 16 4) {t : Int} (ht : decide (1 ≤ t ∧ t ≤ 6) = true) : P t (tabOf t).1 (tabOf t).2 := by
  have ht := of_decide_eq_true ht
  have e : t = 1 ∨ t = 2 ∨ t = 3 ∨ t = 4 ∨ t = 5 ∨ t = 6 := by omega
  rcases e with rfl | rfl | rfl | rfl | rfl | rfl
  · exact h1
  · exact h2
  · exact h3
  · exact h4
  · exact h5
  · exact h6
theorem w61 {H : Mem} {w : World} {φ : Sh → Prop} {c t : Int} (ht : decide (1 ≤ t ∧ t ≤ 6) = true) (h2 : φ (.str (wordOf (tabOf t).1 (tabOf t).2 c))) :
    Meets (FinOK Tryd.prog (C5 prim W5 spec16 stopAll) (K0 H w) Tryd.f61 φ) (runF (C5 prim W5 spec16 stopAll) 300 61 [.code []] (start0 16 [.v (.int .i64 t), .i .i64 c] L0)) :=
  six (P := fun t g m => φ (.str (wordOf g m c)) → Meets (FinOK Tryd.prog (C5 prim W5 spec16 stopAll) (K0 H w) Tryd.f61 φ) (runF (C5 prim W5 spec16 stopAll) 300 61 [.code []] (start0 16 [.v (.int .i64 t), .i .i64 c] L0))) w61_1 w61_2 w61_3 w61_4 w61_5 w61_6 ht h2
theorem O61 : FnOK Tryd.prog (gls5 W5) 61 F61 := by
  refine fnOK_run (C := C5 prim W5 spec16 stopAll) (C5.ok _ _) (fok16 _) (n := 300) (L := L0) (fn := Tryd.f61) (by kernel_rfl) (by kernel_rfl) fun H w shs args φ hrep h => ?_
  have hn : Tryd.f61.ntmps = 16 := by kernel_rfl
  unfold F61 at h
  split at h
  · rename_i s0 s
    split at h
    · rename_i t ht
      split at h
      · rename_i c hc
        obtain ⟨h1, h2⟩ := h
        match args, hrep with
        | [u, v], ⟨hu, hv, _⟩ =>
          refine ⟨[.v (.int .i64 t), .i .i64 c], ⟨icode_lit ht hu, icode_ok hc hv, trivial⟩, ?_⟩
          rw [hn, meets_eq]
          exact w61 h1 h2
      · exact h.elim
    · exact h.elim
  · exact h.elim
end Go.Proofs
namespace Go.Proofs
open Go Go.Sx Go.Pl
def spec54 : Nat → Option (List Sh → Tree Sh)
  | 57 => some F57
  | 61 => some F61
  | _ => none

theorem a54 (A : Prim) (W : Wd) (x y : Int) : runF (C5 A W spec54 stopAll) 300 54 [.code []] (start0 36 [.agg [.i .i64 x, .i .i64 y]] L0) = Tree.node (A.eq x (Int.ofNat 1)) (Tree.need true (Tree.node (A.seq (wordOf 11 4 x) []) (Tree.leaf (Fin.ret (Sh.er 3 125))) (Tree.node (A.lt y (Int.negSucc 999999999)) (Tree.leaf (Fin.ret (Sh.er 3 125))) (Tree.node (A.lt (Int.ofNat 1000000000) y) (Tree.leaf (Fin.ret (Sh.er 3 125))) (Tree.leaf (Fin.ret (Sh.v Value.nilIface))))))) (Tree.need true (Tree.node (A.seq (wordOf 11 4 x) []) (Tree.leaf (Fin.ret (Sh.er 3 125))) (Tree.node (A.lt y (Int.negSucc 999999999)) (Tree.leaf (Fin.ret (Sh.er 3 125))) (Tree.node (A.lt (Int.ofNat 1000000000) y) (Tree.leaf (Fin.ret (Sh.er 3 125))) (Tree.node (A.nt (A.eq x (Int.ofNat 2))) (Tree.node (A.nt (A.eq y (Int.ofNat 0))) (Tree.leaf (Fin.ret (Sh.er 3 125))) (Tree.leaf (Fin.ret (Sh.v Value.nilIface)))) (Tree.leaf (Fin.ret (Sh.v Value.nilIface)))))))) := by kernel_rfl
theorem a55 (A : Prim) (W : Wd) (x : Int) (e : Nat) : runF (C5 A W spec54 stopAll) 300 55 [.code []] (start0 10 [.i .i64 x, .er e 125] L0) = Tree.leaf (Fin.ret (Sh.ifc 81 (Sh.pt [Sh.i IntKind.i64 x, Sh.er e 125]))) := by kernel_rfl
end Go.Proofs
namespace Go.Pl
open Go Go.Sx
/-- Is an object valid? -/
def obOk (k i : Int) : Bool := inW 4 k && !decide (i < -1000000000) && !decide (1000000000 < i) && (k == 1 || k == 2 || i == 0)
theorem seq_word {g m : Nat} {c : Int} (h : ∀ k, k < m → Go.Proofs.W5 g k ≠ []) : prim.seq (wordOf g m c) [] = !inW m c := by
  rw [prim_seq]
  unfold wordOf
  cases hi : inW m c with
  | true =>
    have hi := of_decide_eq_true hi
    have := h (idx c).toNat (by omega)
    simpa using this
  | false => rfl
theorem ne11 : ∀ k, k < 4 → Go.Proofs.W5 11 k ≠ [] := fun k hk => by
  obtain rfl | rfl | rfl | rfl : k = 0 ∨ k = 1 ∨ k = 2 ∨ k = 3 := by omega
  all_goals simp [Go.Proofs.W5]
theorem ne14 : ∀ k, k < 3 → Go.Proofs.W5 14 k ≠ [] := fun k hk => by
  obtain rfl | rfl | rfl : k = 0 ∨ k = 1 ∨ k = 2 := by omega
  all_goals simp [Go.Proofs.W5]
end Go.Pl
namespace Go.Proofs
open Go Go.Sx Go.Pl
theorem O54s : ∀ g F, spec54 g = some F → FnOK Tryd.prog (gls5 W5) g F := fun g F h => by
  unfold spec54 at h
  split at h
  · cases h; exact O57
  · cases h; exact O61
  · cases h
theorem fok54 (stop : Nat → List Nat → Bool) : FnsOK Tryd.prog (C5 prim W5 spec54 stop) := C5.fok O54s fun g h => by
  unfold spec54 at h
  split at h
  all_goals first | (cases h; done) | kernel_rfl
def F54 : List Sh → Tree Sh
  | [.agg [s, s']] => match icode s with
    | some k => match icode s' with
      | some i => .node (obOk k i) (.leaf (.v .nilIface)) (.leaf (.er 3 125))
      | none => .fail
    | none => .fail
  | _ => .fail
theorem rep_agg2 {H : Mem} {s s' t t' : Sh} {v : Value} (hv : Rep H (.agg [s, s']) v) (h1 : ∀ u, Rep H s u → Rep H t u) (h2 : ∀ u, Rep H s' u → Rep H t' u) : Rep H (.agg [t, t']) v := by
  cases hv with
  | agg _ vs h3 h4 =>
    refine .agg _ vs h3 fun j s0 v' e1 e2 => ?_
    match j, e1 with
    | 0, e1 => simp at e1; subst e1; exact h1 _ (h4 0 _ v' rfl e2)
    | 1, e1 => simp at e1; subst e1; exact h2 _ (h4 1 _ v' rfl e2)
    | j + 2, e1 => simp at e1
theorem ob_tree {φ : Sh → Prop} {x y : Int} (hT : obOk x y = true → φ (.v .nilIface)) (hF : obOk x y = false → φ (.er 3 125)) {H : Mem} {w : World} :
    Meets (FinOK Tryd.prog (C5 prim W5 spec54 stopAll) (K0 H w) Tryd.f54 φ) (runF (C5 prim W5 spec54 stopAll) 300 54 [.code []] (start0 36 [.agg [.i .i64 x, .i .i64 y]] L0)) := by
  rw [a54 prim W5 x y, ← meets_eq, seq_word ne11]
  unfold obOk at hT hF
  simp only [Tree.All, FinOK, prim_eq, prim_lt, prim_nt]
  cases h1 : inW 4 x <;> simp [h1] at hT hF ⊢
  · exact hF
  · refine ⟨fun e1 => ⟨fun e => hF fun q => absurd q (by omega), fun e => ⟨fun e' => hF fun _ q => absurd q (by omega), fun e' => hT e e' (.inl (.inl e1))⟩⟩, fun e1 => ⟨fun e => hF fun q => absurd q (by omega), fun e => ⟨fun e' => hF fun _ q => absurd q (by omega), fun e' => ⟨fun e2 => ⟨fun e3 => hF fun _ _ => ⟨⟨e1, e2⟩, e3⟩, fun e3 => hT e e' (.inr e3)⟩, fun e2 => hT e e' (.inl (.inr e2))⟩⟩⟩⟩
theorem O54 : FnOK Tryd.prog (gls5 W5) 54 F54 := by
  refine fnOK_run (C := C5 prim W5 spec54 stopAll) (C5.ok _ _) (fok54 _) (n := 300) (L := L0) (fn := Tryd.f54) (by kernel_rfl) (by kernel_rfl) fun H w shs args φ hrep h => ?_
  have hn : Tryd.f54.ntmps = 36 := by kernel_rfl
  unfold F54 at h
  split at h
  · rename_i s s'
    split at h
    · rename_i k hk
      split at h
      · rename_i i hi
        obtain ⟨h1, h2⟩ := h
        match args, hrep with
        | [u], ⟨hu, _⟩ =>
          refine ⟨[.agg [.i .i64 k, .i .i64 i]], ⟨rep_agg2 hu (fun _ => icode_ok hk) (fun _ => icode_ok hi), trivial⟩, ?_⟩
          rw [hn, meets_eq]
          exact ob_tree h1 h2
      · exact h.elim
    · exact h.elim
  · exact h.elim
def il (n : Int) : Sh := .v (.int .i64 n)
def sy (n : Int) : Sh := .i .i64 n
def stop56 : Nat → List Nat → Bool := fun g _ => Nat.beq g 56
/-- Stops are no result. -/
def dead : Tree Fin → Tree Fin
  | .leaf (.ret s) => .leaf (.ret s)
  | .leaf (.stop _ _) => .fail
  | .node b t f => .node b (dead t) (dead f)
  | .need b t => .need b (dead t)
  | .must l t => .must l (dead t)
  | .both t f => .both (dead t) (dead f)
  | .fail => .fail
theorem dead_ok {ψ : Fin → Prop} : ∀ {t : Tree Fin}, (dead t).All ψ → t.All ψ
  | .leaf (.ret _), h => h
  | .leaf (.stop _ _), h => h.elim
  | .node _ _ _, h => ⟨fun q => dead_ok (h.1 q), fun q => dead_ok (h.2 q)⟩
  | .need _ _, h => ⟨h.1, dead_ok h.2⟩
  | .must _ _, h => ⟨h.1, dead_ok h.2⟩
  | .both _ _, h => ⟨dead_ok h.1, dead_ok h.2⟩
  | .fail, h => h
end Go.Proofs
namespace Go.Proofs
open Go Go.Sx Go.Pl
theorem a56_1 (A : Prim) (W : Wd) (_k x t o p y v r : Int) : runF (C5 A W spec54 unroll) 3000 56 [.code []] (start0 75 [.agg [il 1, sy x, sy t, sy o, sy p, sy y, sy v, sy r]] L0) = Tree.must [Eqn.int x x, Eqn.int t t, Eqn.int o o, Eqn.int p p, Eqn.int y y, Eqn.int v v, Eqn.int r r] (Tree.must [Eqn.int x x, Eqn.int t t, Eqn.int o o, Eqn.int p p, Eqn.int y y, Eqn.int v v, Eqn.int r r] (Tree.must [Eqn.int x x, Eqn.int t t, Eqn.int o o, Eqn.int p p, Eqn.int y y, Eqn.int v v, Eqn.int r r] (Tree.must [Eqn.int x x, Eqn.int t t, Eqn.int o o, Eqn.int p p, Eqn.int y y, Eqn.int v v, Eqn.int r r] (Tree.node (A.lt x (Int.ofNat 1)) (Tree.leaf (Fin.ret (Sh.er 9 125))) (Tree.node (A.lt (Int.ofNat 1000) x) (Tree.leaf (Fin.ret (Sh.er 9 125))) (Tree.node (A.lt t (Int.ofNat 0)) (Tree.leaf (Fin.ret (Sh.er 9 125))) (Tree.node (A.lt (Int.ofNat 7) t) (Tree.leaf (Fin.ret (Sh.er 9 125))) (Tree.node (A.nt (A.ite (A.eq (Int.ofNat 0) (Int.ofNat 0)) (A.ite (A.eq (Int.ofNat 0) (Int.ofNat 0)) (A.ite (A.eq (Int.ofNat 0) (Int.ofNat 0)) (A.ite (A.eq o (Int.ofNat 0)) (A.ite (A.eq p (Int.ofNat 0)) (A.ite (A.eq y (Int.ofNat 0)) (A.ite (A.eq v (Int.ofNat 0)) (A.ite (A.eq r (Int.ofNat 0)) true false) false) false) false) false) false) false) false)) (Tree.leaf (Fin.ret (Sh.er 9 125))) (Tree.leaf (Fin.ret (Sh.v Value.nilIface))))))))))) := by kernel_rfl
theorem a56_4 (A : Prim) (W : Wd) (_k x t o p y v r : Int) : runF (C5 A W spec54 unroll) 3000 56 [.code []] (start0 75 [.agg [il 4, sy x, sy t, sy o, sy p, sy y, sy v, sy r]] L0) = Tree.must [Eqn.int x x, Eqn.int t t, Eqn.int o o, Eqn.int p p, Eqn.int y y, Eqn.int v v, Eqn.int r r] (Tree.must [Eqn.int x x, Eqn.int t t, Eqn.int o o, Eqn.int p p, Eqn.int y y, Eqn.int v v, Eqn.int r r] (Tree.must [Eqn.int x x, Eqn.int t t, Eqn.int o o, Eqn.int p p, Eqn.int y y, Eqn.int v v, Eqn.int r r] (Tree.must [Eqn.int x x, Eqn.int t t, Eqn.int o o, Eqn.int p p, Eqn.int y y, Eqn.int v v, Eqn.int r r] (Tree.node (A.lt x (Int.ofNat 1)) (Tree.leaf (Fin.ret (Sh.er 9 125))) (Tree.node (A.lt (Int.ofNat 1000) x) (Tree.leaf (Fin.ret (Sh.er 9 125))) (Tree.node (A.nt (A.ite (A.eq (Int.ofNat 0) (Int.ofNat 0)) (A.ite (A.eq (Int.ofNat 0) (Int.ofNat 0)) (A.ite (A.eq t (Int.ofNat 0)) (A.ite (A.eq o (Int.ofNat 0)) (A.ite (A.eq p (Int.ofNat 0)) (A.ite (A.eq y (Int.ofNat 0)) (A.ite (A.eq v (Int.ofNat 0)) (A.ite (A.eq r (Int.ofNat 0)) true false) false) false) false) false) false) false) false)) (Tree.leaf (Fin.ret (Sh.er 9 125))) (Tree.leaf (Fin.ret (Sh.v Value.nilIface))))))))) := by kernel_rfl
theorem a56_5 (A : Prim) (W : Wd) (_k x t o p y v r : Int) : runF (C5 A W spec54 unroll) 3000 56 [.code []] (start0 75 [.agg [il 5, sy x, sy t, sy o, sy p, sy y, sy v, sy r]] L0) = Tree.must [Eqn.int x x, Eqn.int t t, Eqn.int o o, Eqn.int p p, Eqn.int y y, Eqn.int v v, Eqn.int r r] (Tree.must [Eqn.int x x, Eqn.int t t, Eqn.int o o, Eqn.int p p, Eqn.int y y, Eqn.int v v, Eqn.int r r] (Tree.must [Eqn.int x x, Eqn.int t t, Eqn.int o o, Eqn.int p p, Eqn.int y y, Eqn.int v v, Eqn.int r r] (Tree.must [Eqn.int x x, Eqn.int t t, Eqn.int o o, Eqn.int p p, Eqn.int y y, Eqn.int v v, Eqn.int r r] (Tree.node (A.lt x (Int.ofNat 1)) (Tree.leaf (Fin.ret (Sh.er 9 125))) (Tree.node (A.lt (Int.ofNat 1000) x) (Tree.leaf (Fin.ret (Sh.er 9 125))) (Tree.node (A.nt (A.ite (A.eq (Int.ofNat 0) (Int.ofNat 0)) (A.ite (A.eq (Int.ofNat 0) (Int.ofNat 0)) (A.ite (A.eq t (Int.ofNat 0)) (A.ite (A.eq o (Int.ofNat 0)) (A.ite (A.eq p (Int.ofNat 0)) (A.ite (A.eq y (Int.ofNat 0)) (A.ite (A.eq v (Int.ofNat 0)) (A.ite (A.eq r (Int.ofNat 0)) true false) false) false) false) false) false) false) false)) (Tree.leaf (Fin.ret (Sh.er 9 125))) (Tree.leaf (Fin.ret (Sh.v Value.nilIface))))))))) := by kernel_rfl
theorem a56_6 (A : Prim) (W : Wd) (_k x t o p y v r : Int) : runF (C5 A W spec54 unroll) 3000 56 [.code []] (start0 75 [.agg [il 6, sy x, sy t, sy o, sy p, sy y, sy v, sy r]] L0) = Tree.must [Eqn.int x x, Eqn.int t t, Eqn.int o o, Eqn.int p p, Eqn.int y y, Eqn.int v v, Eqn.int r r] (Tree.must [Eqn.int x x, Eqn.int t t, Eqn.int o o, Eqn.int p p, Eqn.int y y, Eqn.int v v, Eqn.int r r] (Tree.must [Eqn.int x x, Eqn.int t t, Eqn.int o o, Eqn.int p p, Eqn.int y y, Eqn.int v v, Eqn.int r r] (Tree.must [Eqn.int x x, Eqn.int t t, Eqn.int o o, Eqn.int p p, Eqn.int y y, Eqn.int v v, Eqn.int r r] (Tree.node (A.lt x (Int.ofNat 1)) (Tree.leaf (Fin.ret (Sh.er 9 125))) (Tree.node (A.lt (Int.ofNat 1000) x) (Tree.leaf (Fin.ret (Sh.er 9 125))) (Tree.node (A.nt (A.ite (A.eq (Int.ofNat 0) (Int.ofNat 0)) (A.ite (A.eq (Int.ofNat 0) (Int.ofNat 0)) (A.ite (A.eq t (Int.ofNat 0)) (A.ite (A.eq o (Int.ofNat 0)) (A.ite (A.eq p (Int.ofNat 0)) (A.ite (A.eq y (Int.ofNat 0)) (A.ite (A.eq v (Int.ofNat 0)) (A.ite (A.eq r (Int.ofNat 0)) true false) false) false) false) false) false) false) false)) (Tree.leaf (Fin.ret (Sh.er 9 125))) (Tree.leaf (Fin.ret (Sh.v Value.nilIface))))))))) := by kernel_rfl
theorem a56_7 (A : Prim) (W : Wd) (_k x t o p y v r : Int) : runF (C5 A W spec54 unroll) 3000 56 [.code []] (start0 75 [.agg [il 7, sy x, sy t, sy o, sy p, sy y, sy v, sy r]] L0) = Tree.must [Eqn.int x x, Eqn.int t t, Eqn.int o o, Eqn.int p p, Eqn.int y y, Eqn.int v v, Eqn.int r r] (Tree.must [Eqn.int x x, Eqn.int t t, Eqn.int o o, Eqn.int p p, Eqn.int y y, Eqn.int v v, Eqn.int r r] (Tree.must [Eqn.int x x, Eqn.int t t, Eqn.int o o, Eqn.int p p, Eqn.int y y, Eqn.int v v, Eqn.int r r] (Tree.must [Eqn.int x x, Eqn.int t t, Eqn.int o o, Eqn.int p p, Eqn.int y y, Eqn.int v v, Eqn.int r r] (Tree.node (A.lt x (Int.ofNat 1)) (Tree.leaf (Fin.ret (Sh.er 9 125))) (Tree.node (A.lt (Int.ofNat 1000) x) (Tree.leaf (Fin.ret (Sh.er 9 125))) (Tree.node (A.nt (A.ite (A.eq (Int.ofNat 0) (Int.ofNat 0)) (A.ite (A.eq (Int.ofNat 0) (Int.ofNat 0)) (A.ite (A.eq t (Int.ofNat 0)) (A.ite (A.eq o (Int.ofNat 0)) (A.ite (A.eq p (Int.ofNat 0)) (A.ite (A.eq y (Int.ofNat 0)) (A.ite (A.eq v (Int.ofNat 0)) (A.ite (A.eq r (Int.ofNat 0)) true false) false) false) false) false) false) false) false)) (Tree.leaf (Fin.ret (Sh.er 9 125))) (Tree.leaf (Fin.ret (Sh.v Value.nilIface))))))))) := by kernel_rfl
end Go.Proofs
namespace Go.Proofs
open Go Go.Sx Go.Pl
theorem a56_2_1 (A : Prim) (W : Wd) (_k x t o _p y v r : Int) : runF (C5 A W spec54 unroll) 3000 56 [.code []] (start0 75 [.agg [il 2, sy x, sy t, sy o, il 1, sy y, sy v, sy r]] L0) = Tree.must [Eqn.int x x, Eqn.int t t, Eqn.int o o, Eqn.int y y, Eqn.int v v, Eqn.int r r] (Tree.must [Eqn.int x x, Eqn.int t t, Eqn.int o o, Eqn.int y y, Eqn.int v v, Eqn.int r r] (Tree.must [Eqn.int x x, Eqn.int t t, Eqn.int o o, Eqn.int y y, Eqn.int v v, Eqn.int r r] (Tree.must [Eqn.int x x, Eqn.int t t, Eqn.int o o, Eqn.int y y, Eqn.int v v, Eqn.int r r] (Tree.node (A.eq (opOf (Int.ofNat 1)) (Int.ofNat 0)) (Tree.leaf (Fin.ret (Sh.er 8 125))) (Tree.node (A.lt x (Int.ofNat 1)) (Tree.leaf (Fin.ret (Sh.er 9 125))) (Tree.node (A.lt (Int.ofNat 1000) x) (Tree.leaf (Fin.ret (Sh.er 9 125))) (Tree.node (A.lt o (Int.ofNat 0)) (Tree.leaf (Fin.ret (Sh.er 9 125))) (Tree.node (A.lt (Int.ofNat 7) o) (Tree.leaf (Fin.ret (Sh.er 9 125))) (Tree.node (A.nt (A.ite (A.eq (Int.ofNat 0) (Int.ofNat 0)) (A.ite (A.eq (Int.ofNat 0) (Int.ofNat 0)) (A.ite (A.eq t (Int.ofNat 0)) (A.ite (A.eq (Int.ofNat 0) (Int.ofNat 0)) (A.ite (A.eq (Int.ofNat 0) (Int.ofNat 0)) (A.ite (A.eq y (Int.ofNat 0)) (A.ite (A.eq v (Int.ofNat 0)) (A.ite (A.eq r (Int.ofNat 0)) true false) false) false) false) false) false) false) false)) (Tree.leaf (Fin.ret (Sh.er 9 125))) (Tree.leaf (Fin.ret (Sh.v Value.nilIface)))))))))))) := by kernel_rfl
theorem a56_2_2 (A : Prim) (W : Wd) (_k x t o _p y v r : Int) : runF (C5 A W spec54 unroll) 3000 56 [.code []] (start0 75 [.agg [il 2, sy x, sy t, sy o, il 2, sy y, sy v, sy r]] L0) = Tree.must [Eqn.int x x, Eqn.int t t, Eqn.int o o, Eqn.int y y, Eqn.int v v, Eqn.int r r] (Tree.must [Eqn.int x x, Eqn.int t t, Eqn.int o o, Eqn.int y y, Eqn.int v v, Eqn.int r r] (Tree.must [Eqn.int x x, Eqn.int t t, Eqn.int o o, Eqn.int y y, Eqn.int v v, Eqn.int r r] (Tree.must [Eqn.int x x, Eqn.int t t, Eqn.int o o, Eqn.int y y, Eqn.int v v, Eqn.int r r] (Tree.node (A.eq (opOf (Int.ofNat 2)) (Int.ofNat 0)) (Tree.leaf (Fin.ret (Sh.er 8 125))) (Tree.node (A.lt x (Int.ofNat 1)) (Tree.leaf (Fin.ret (Sh.er 9 125))) (Tree.node (A.lt (Int.ofNat 1000) x) (Tree.leaf (Fin.ret (Sh.er 9 125))) (Tree.node (A.lt o (Int.ofNat 0)) (Tree.leaf (Fin.ret (Sh.er 9 125))) (Tree.node (A.lt (Int.ofNat 7) o) (Tree.leaf (Fin.ret (Sh.er 9 125))) (Tree.node (A.lt v (Int.negSucc 999999999)) (Tree.leaf (Fin.ret (Sh.er 9 125))) (Tree.node (A.lt (Int.ofNat 1000000000) v) (Tree.leaf (Fin.ret (Sh.er 9 125))) (Tree.node (A.nt (A.ite (A.eq (Int.ofNat 0) (Int.ofNat 0)) (A.ite (A.eq (Int.ofNat 0) (Int.ofNat 0)) (A.ite (A.eq t (Int.ofNat 0)) (A.ite (A.eq (Int.ofNat 0) (Int.ofNat 0)) (A.ite (A.eq (Int.ofNat 0) (Int.ofNat 0)) (A.ite (A.eq y (Int.ofNat 0)) (A.ite (A.eq (Int.ofNat 0) (Int.ofNat 0)) (A.ite (A.eq r (Int.ofNat 0)) true false) false) false) false) false) false) false) false)) (Tree.leaf (Fin.ret (Sh.er 9 125))) (Tree.leaf (Fin.ret (Sh.v Value.nilIface)))))))))))))) := by kernel_rfl
theorem a56_2_3 (A : Prim) (W : Wd) (_k x t o _p y v r : Int) : runF (C5 A W spec54 unroll) 3000 56 [.code []] (start0 75 [.agg [il 2, sy x, sy t, sy o, il 3, sy y, sy v, sy r]] L0) = Tree.must [Eqn.int x x, Eqn.int t t, Eqn.int o o, Eqn.int y y, Eqn.int v v, Eqn.int r r] (Tree.must [Eqn.int x x, Eqn.int t t, Eqn.int o o, Eqn.int y y, Eqn.int v v, Eqn.int r r] (Tree.must [Eqn.int x x, Eqn.int t t, Eqn.int o o, Eqn.int y y, Eqn.int v v, Eqn.int r r] (Tree.must [Eqn.int x x, Eqn.int t t, Eqn.int o o, Eqn.int y y, Eqn.int v v, Eqn.int r r] (Tree.node (A.eq (opOf (Int.ofNat 3)) (Int.ofNat 0)) (Tree.leaf (Fin.ret (Sh.er 8 125))) (Tree.node (A.lt x (Int.ofNat 1)) (Tree.leaf (Fin.ret (Sh.er 9 125))) (Tree.node (A.lt (Int.ofNat 1000) x) (Tree.leaf (Fin.ret (Sh.er 9 125))) (Tree.node (A.lt o (Int.ofNat 0)) (Tree.leaf (Fin.ret (Sh.er 9 125))) (Tree.node (A.lt (Int.ofNat 7) o) (Tree.leaf (Fin.ret (Sh.er 9 125))) (Tree.node (A.lt v (Int.negSucc 999999999)) (Tree.leaf (Fin.ret (Sh.er 9 125))) (Tree.node (A.lt (Int.ofNat 1000000000) v) (Tree.leaf (Fin.ret (Sh.er 9 125))) (Tree.node (A.nt (A.ite (A.eq (Int.ofNat 0) (Int.ofNat 0)) (A.ite (A.eq (Int.ofNat 0) (Int.ofNat 0)) (A.ite (A.eq t (Int.ofNat 0)) (A.ite (A.eq (Int.ofNat 0) (Int.ofNat 0)) (A.ite (A.eq (Int.ofNat 0) (Int.ofNat 0)) (A.ite (A.eq y (Int.ofNat 0)) (A.ite (A.eq (Int.ofNat 0) (Int.ofNat 0)) (A.ite (A.eq r (Int.ofNat 0)) true false) false) false) false) false) false) false) false)) (Tree.leaf (Fin.ret (Sh.er 9 125))) (Tree.leaf (Fin.ret (Sh.v Value.nilIface)))))))))))))) := by kernel_rfl
theorem a56_2_4 (A : Prim) (W : Wd) (_k x t o _p y v r : Int) : runF (C5 A W spec54 unroll) 3000 56 [.code []] (start0 75 [.agg [il 2, sy x, sy t, sy o, il 4, sy y, sy v, sy r]] L0) = Tree.must [Eqn.int x x, Eqn.int t t, Eqn.int o o, Eqn.int y y, Eqn.int v v, Eqn.int r r] (Tree.must [Eqn.int x x, Eqn.int t t, Eqn.int o o, Eqn.int y y, Eqn.int v v, Eqn.int r r] (Tree.must [Eqn.int x x, Eqn.int t t, Eqn.int o o, Eqn.int y y, Eqn.int v v, Eqn.int r r] (Tree.must [Eqn.int x x, Eqn.int t t, Eqn.int o o, Eqn.int y y, Eqn.int v v, Eqn.int r r] (Tree.node (A.eq (opOf (Int.ofNat 4)) (Int.ofNat 0)) (Tree.leaf (Fin.ret (Sh.er 8 125))) (Tree.node (A.lt x (Int.ofNat 1)) (Tree.leaf (Fin.ret (Sh.er 9 125))) (Tree.node (A.lt (Int.ofNat 1000) x) (Tree.leaf (Fin.ret (Sh.er 9 125))) (Tree.node (A.lt o (Int.ofNat 0)) (Tree.leaf (Fin.ret (Sh.er 9 125))) (Tree.node (A.lt (Int.ofNat 7) o) (Tree.leaf (Fin.ret (Sh.er 9 125))) (Tree.node (A.nt (A.ite (A.eq (Int.ofNat 0) (Int.ofNat 0)) (A.ite (A.eq (Int.ofNat 0) (Int.ofNat 0)) (A.ite (A.eq t (Int.ofNat 0)) (A.ite (A.eq (Int.ofNat 0) (Int.ofNat 0)) (A.ite (A.eq (Int.ofNat 0) (Int.ofNat 0)) (A.ite (A.eq y (Int.ofNat 0)) (A.ite (A.eq v (Int.ofNat 0)) (A.ite (A.eq r (Int.ofNat 0)) true false) false) false) false) false) false) false) false)) (Tree.leaf (Fin.ret (Sh.er 9 125))) (Tree.leaf (Fin.ret (Sh.v Value.nilIface)))))))))))) := by kernel_rfl
theorem a56_2_5 (A : Prim) (W : Wd) (_k x t o _p y v r : Int) : runF (C5 A W spec54 unroll) 3000 56 [.code []] (start0 75 [.agg [il 2, sy x, sy t, sy o, il 5, sy y, sy v, sy r]] L0) = Tree.must [Eqn.int x x, Eqn.int t t, Eqn.int o o, Eqn.int y y, Eqn.int v v, Eqn.int r r] (Tree.must [Eqn.int x x, Eqn.int t t, Eqn.int o o, Eqn.int y y, Eqn.int v v, Eqn.int r r] (Tree.must [Eqn.int x x, Eqn.int t t, Eqn.int o o, Eqn.int y y, Eqn.int v v, Eqn.int r r] (Tree.must [Eqn.int x x, Eqn.int t t, Eqn.int o o, Eqn.int y y, Eqn.int v v, Eqn.int r r] (Tree.node (A.eq (opOf (Int.ofNat 5)) (Int.ofNat 0)) (Tree.leaf (Fin.ret (Sh.er 8 125))) (Tree.node (A.lt x (Int.ofNat 1)) (Tree.leaf (Fin.ret (Sh.er 9 125))) (Tree.node (A.lt (Int.ofNat 1000) x) (Tree.leaf (Fin.ret (Sh.er 9 125))) (Tree.node (A.lt o (Int.ofNat 0)) (Tree.leaf (Fin.ret (Sh.er 9 125))) (Tree.node (A.lt (Int.ofNat 7) o) (Tree.leaf (Fin.ret (Sh.er 9 125))) (Tree.node (A.lt v (Int.negSucc 999999999)) (Tree.leaf (Fin.ret (Sh.er 9 125))) (Tree.node (A.lt (Int.ofNat 1000000000) v) (Tree.leaf (Fin.ret (Sh.er 9 125))) (Tree.node (A.nt (A.ite (A.eq (Int.ofNat 0) (Int.ofNat 0)) (A.ite (A.eq (Int.ofNat 0) (Int.ofNat 0)) (A.ite (A.eq t (Int.ofNat 0)) (A.ite (A.eq (Int.ofNat 0) (Int.ofNat 0)) (A.ite (A.eq (Int.ofNat 0) (Int.ofNat 0)) (A.ite (A.eq y (Int.ofNat 0)) (A.ite (A.eq (Int.ofNat 0) (Int.ofNat 0)) (A.ite (A.eq r (Int.ofNat 0)) true false) false) false) false) false) false) false) false)) (Tree.leaf (Fin.ret (Sh.er 9 125))) (Tree.leaf (Fin.ret (Sh.v Value.nilIface)))))))))))))) := by kernel_rfl
end Go.Proofs
namespace Go.Proofs
open Go Go.Sx Go.Pl
theorem a56_2_6 (A : Prim) (W : Wd) (_k x t o _p y v r : Int) : runF (C5 A W spec54 unroll) 3000 56 [.code []] (start0 75 [.agg [il 2, sy x, sy t, sy o, il 6, sy y, sy v, sy r]] L0) = Tree.must [Eqn.int x x, Eqn.int t t, Eqn.int o o, Eqn.int y y, Eqn.int v v, Eqn.int r r] (Tree.must [Eqn.int x x, Eqn.int t t, Eqn.int o o, Eqn.int y y, Eqn.int v v, Eqn.int r r] (Tree.must [Eqn.int x x, Eqn.int t t, Eqn.int o o, Eqn.int y y, Eqn.int v v, Eqn.int r r] (Tree.must [Eqn.int x x, Eqn.int t t, Eqn.int o o, Eqn.int y y, Eqn.int v v, Eqn.int r r] (Tree.node (A.eq (opOf (Int.ofNat 6)) (Int.ofNat 0)) (Tree.leaf (Fin.ret (Sh.er 8 125))) (Tree.node (A.lt x (Int.ofNat 1)) (Tree.leaf (Fin.ret (Sh.er 9 125))) (Tree.node (A.lt (Int.ofNat 1000) x) (Tree.leaf (Fin.ret (Sh.er 9 125))) (Tree.node (A.lt o (Int.ofNat 0)) (Tree.leaf (Fin.ret (Sh.er 9 125))) (Tree.node (A.lt (Int.ofNat 7) o) (Tree.leaf (Fin.ret (Sh.er 9 125))) (Tree.node (A.nt (A.ite (A.eq (Int.ofNat 0) (Int.ofNat 0)) (A.ite (A.eq (Int.ofNat 0) (Int.ofNat 0)) (A.ite (A.eq t (Int.ofNat 0)) (A.ite (A.eq (Int.ofNat 0) (Int.ofNat 0)) (A.ite (A.eq (Int.ofNat 0) (Int.ofNat 0)) (A.ite (A.eq y (Int.ofNat 0)) (A.ite (A.eq v (Int.ofNat 0)) (A.ite (A.eq r (Int.ofNat 0)) true false) false) false) false) false) false) false) false)) (Tree.leaf (Fin.ret (Sh.er 9 125))) (Tree.leaf (Fin.ret (Sh.v Value.nilIface)))))))))))) := by kernel_rfl
theorem a56_2_7 (A : Prim) (W : Wd) (_k x t o _p y v r : Int) : runF (C5 A W spec54 unroll) 3000 56 [.code []] (start0 75 [.agg [il 2, sy x, sy t, sy o, il 7, sy y, sy v, sy r]] L0) = Tree.must [Eqn.int x x, Eqn.int t t, Eqn.int o o, Eqn.int y y, Eqn.int v v, Eqn.int r r] (Tree.must [Eqn.int x x, Eqn.int t t, Eqn.int o o, Eqn.int y y, Eqn.int v v, Eqn.int r r] (Tree.must [Eqn.int x x, Eqn.int t t, Eqn.int o o, Eqn.int y y, Eqn.int v v, Eqn.int r r] (Tree.must [Eqn.int x x, Eqn.int t t, Eqn.int o o, Eqn.int y y, Eqn.int v v, Eqn.int r r] (Tree.node (A.eq (opOf (Int.ofNat 7)) (Int.ofNat 0)) (Tree.leaf (Fin.ret (Sh.er 8 125))) (Tree.node (A.lt x (Int.ofNat 1)) (Tree.leaf (Fin.ret (Sh.er 9 125))) (Tree.node (A.lt (Int.ofNat 1000) x) (Tree.leaf (Fin.ret (Sh.er 9 125))) (Tree.node (A.lt o (Int.ofNat 0)) (Tree.leaf (Fin.ret (Sh.er 9 125))) (Tree.node (A.lt (Int.ofNat 7) o) (Tree.leaf (Fin.ret (Sh.er 9 125))) (Tree.node (A.lt y (Int.ofNat 0)) (Tree.leaf (Fin.ret (Sh.er 9 125))) (Tree.node (A.lt (Int.ofNat 1000) y) (Tree.leaf (Fin.ret (Sh.er 9 125))) (Tree.node (A.lt v (Int.negSucc 999999999)) (Tree.leaf (Fin.ret (Sh.er 9 125))) (Tree.node (A.lt (Int.ofNat 1000000000) v) (Tree.leaf (Fin.ret (Sh.er 9 125))) (Tree.node (A.nt (A.ite (A.eq (Int.ofNat 0) (Int.ofNat 0)) (A.ite (A.eq (Int.ofNat 0) (Int.ofNat 0)) (A.ite (A.eq t (Int.ofNat 0)) (A.ite (A.eq (Int.ofNat 0) (Int.ofNat 0)) (A.ite (A.eq (Int.ofNat 0) (Int.ofNat 0)) (A.ite (A.eq (Int.ofNat 0) (Int.ofNat 0)) (A.ite (A.eq (Int.ofNat 0) (Int.ofNat 0)) (A.ite (A.eq r (Int.ofNat 0)) true false) false) false) false) false) false) false) false)) (Tree.leaf (Fin.ret (Sh.er 9 125))) (Tree.leaf (Fin.ret (Sh.v Value.nilIface)))))))))))))))) := by kernel_rfl
theorem a56_2_8 (A : Prim) (W : Wd) (_k x t o _p y v r : Int) : runF (C5 A W spec54 unroll) 3000 56 [.code []] (start0 75 [.agg [il 2, sy x, sy t, sy o, il 8, sy y, sy v, sy r]] L0) = Tree.must [Eqn.int x x, Eqn.int t t, Eqn.int o o, Eqn.int y y, Eqn.int v v, Eqn.int r r] (Tree.must [Eqn.int x x, Eqn.int t t, Eqn.int o o, Eqn.int y y, Eqn.int v v, Eqn.int r r] (Tree.must [Eqn.int x x, Eqn.int t t, Eqn.int o o, Eqn.int y y, Eqn.int v v, Eqn.int r r] (Tree.must [Eqn.int x x, Eqn.int t t, Eqn.int o o, Eqn.int y y, Eqn.int v v, Eqn.int r r] (Tree.node (A.eq (opOf (Int.ofNat 8)) (Int.ofNat 0)) (Tree.leaf (Fin.ret (Sh.er 8 125))) (Tree.node (A.lt x (Int.ofNat 1)) (Tree.leaf (Fin.ret (Sh.er 9 125))) (Tree.node (A.lt (Int.ofNat 1000) x) (Tree.leaf (Fin.ret (Sh.er 9 125))) (Tree.node (A.lt o (Int.ofNat 0)) (Tree.leaf (Fin.ret (Sh.er 9 125))) (Tree.node (A.lt (Int.ofNat 7) o) (Tree.leaf (Fin.ret (Sh.er 9 125))) (Tree.node (A.lt y (Int.ofNat 0)) (Tree.leaf (Fin.ret (Sh.er 9 125))) (Tree.node (A.lt (Int.ofNat 1000) y) (Tree.leaf (Fin.ret (Sh.er 9 125))) (Tree.node (A.nt (A.ite (A.eq (Int.ofNat 0) (Int.ofNat 0)) (A.ite (A.eq (Int.ofNat 0) (Int.ofNat 0)) (A.ite (A.eq t (Int.ofNat 0)) (A.ite (A.eq (Int.ofNat 0) (Int.ofNat 0)) (A.ite (A.eq (Int.ofNat 0) (Int.ofNat 0)) (A.ite (A.eq (Int.ofNat 0) (Int.ofNat 0)) (A.ite (A.eq v (Int.ofNat 0)) (A.ite (A.eq r (Int.ofNat 0)) true false) false) false) false) false) false) false) false)) (Tree.leaf (Fin.ret (Sh.er 9 125))) (Tree.leaf (Fin.ret (Sh.v Value.nilIface)))))))))))))) := by kernel_rfl
theorem a56_2_9 (A : Prim) (W : Wd) (_k x t o _p y v r : Int) : runF (C5 A W spec54 unroll) 3000 56 [.code []] (start0 75 [.agg [il 2, sy x, sy t, sy o, il 9, sy y, sy v, sy r]] L0) = Tree.must [Eqn.int x x, Eqn.int t t, Eqn.int o o, Eqn.int y y, Eqn.int v v, Eqn.int r r] (Tree.must [Eqn.int x x, Eqn.int t t, Eqn.int o o, Eqn.int y y, Eqn.int v v, Eqn.int r r] (Tree.must [Eqn.int x x, Eqn.int t t, Eqn.int o o, Eqn.int y y, Eqn.int v v, Eqn.int r r] (Tree.must [Eqn.int x x, Eqn.int t t, Eqn.int o o, Eqn.int y y, Eqn.int v v, Eqn.int r r] (Tree.node (A.eq (opOf (Int.ofNat 9)) (Int.ofNat 0)) (Tree.leaf (Fin.ret (Sh.er 8 125))) (Tree.node (A.lt x (Int.ofNat 1)) (Tree.leaf (Fin.ret (Sh.er 9 125))) (Tree.node (A.lt (Int.ofNat 1000) x) (Tree.leaf (Fin.ret (Sh.er 9 125))) (Tree.node (A.lt o (Int.ofNat 0)) (Tree.leaf (Fin.ret (Sh.er 9 125))) (Tree.node (A.lt (Int.ofNat 7) o) (Tree.leaf (Fin.ret (Sh.er 9 125))) (Tree.node (A.lt y (Int.ofNat 0)) (Tree.leaf (Fin.ret (Sh.er 9 125))) (Tree.node (A.lt (Int.ofNat 1000) y) (Tree.leaf (Fin.ret (Sh.er 9 125))) (Tree.node (A.nt (A.ite (A.eq (Int.ofNat 0) (Int.ofNat 0)) (A.ite (A.eq (Int.ofNat 0) (Int.ofNat 0)) (A.ite (A.eq t (Int.ofNat 0)) (A.ite (A.eq (Int.ofNat 0) (Int.ofNat 0)) (A.ite (A.eq (Int.ofNat 0) (Int.ofNat 0)) (A.ite (A.eq (Int.ofNat 0) (Int.ofNat 0)) (A.ite (A.eq v (Int.ofNat 0)) (A.ite (A.eq r (Int.ofNat 0)) true false) false) false) false) false) false) false) false)) (Tree.leaf (Fin.ret (Sh.er 9 125))) (Tree.leaf (Fin.ret (Sh.v Value.nilIface)))))))))))))) := by kernel_rfl
end Go.Proofs
namespace Go.Proofs
open Go Go.Sx Go.Pl
theorem a56_3_1 (A : Prim) (W : Wd) (_k x t o p y v _r : Int) : runF (C5 A W spec54 unroll) 3000 56 [.code []] (start0 75 [.agg [il 3, sy x, sy t, sy o, sy p, sy y, sy v, il 1]] L0) = Tree.must [Eqn.int x x, Eqn.int t t, Eqn.int o o, Eqn.int p p, Eqn.int y y, Eqn.int v v] (Tree.must [Eqn.int x x, Eqn.int t t, Eqn.int o o, Eqn.int p p, Eqn.int y y, Eqn.int v v] (Tree.must [Eqn.int x x, Eqn.int t t, Eqn.int o o, Eqn.int p p, Eqn.int y y, Eqn.int v v] (Tree.must [Eqn.int x x, Eqn.int t t, Eqn.int o o, Eqn.int p p, Eqn.int y y, Eqn.int v v] (Tree.need true (Tree.node (A.seq (wordOf 14 3 (Int.ofNat 1)) []) (Tree.leaf (Fin.ret (Sh.er 8 125))) (Tree.node (A.lt x (Int.ofNat 1)) (Tree.leaf (Fin.ret (Sh.er 9 125))) (Tree.node (A.lt (Int.ofNat 1000) x) (Tree.leaf (Fin.ret (Sh.er 9 125))) (Tree.node (A.nt (A.ite (A.eq (Int.ofNat 0) (Int.ofNat 0)) (A.ite (A.eq (Int.ofNat 0) (Int.ofNat 0)) (A.ite (A.eq t (Int.ofNat 0)) (A.ite (A.eq o (Int.ofNat 0)) (A.ite (A.eq p (Int.ofNat 0)) (A.ite (A.eq y (Int.ofNat 0)) (A.ite (A.eq v (Int.ofNat 0)) (A.ite (A.eq (Int.ofNat 0) (Int.ofNat 0)) true false) false) false) false) false) false) false) false)) (Tree.leaf (Fin.ret (Sh.er 9 125))) (Tree.leaf (Fin.ret (Sh.v Value.nilIface))))))))))) := by kernel_rfl
theorem a56_3_2 (A : Prim) (W : Wd) (_k x t o p y v _r : Int) : runF (C5 A W spec54 unroll) 3000 56 [.code []] (start0 75 [.agg [il 3, sy x, sy t, sy o, sy p, sy y, sy v, il 2]] L0) = Tree.must [Eqn.int x x, Eqn.int t t, Eqn.int o o, Eqn.int p p, Eqn.int y y, Eqn.int v v] (Tree.must [Eqn.int x x, Eqn.int t t, Eqn.int o o, Eqn.int p p, Eqn.int y y, Eqn.int v v] (Tree.must [Eqn.int x x, Eqn.int t t, Eqn.int o o, Eqn.int p p, Eqn.int y y, Eqn.int v v] (Tree.must [Eqn.int x x, Eqn.int t t, Eqn.int o o, Eqn.int p p, Eqn.int y y, Eqn.int v v] (Tree.need true (Tree.node (A.seq (wordOf 14 3 (Int.ofNat 2)) []) (Tree.leaf (Fin.ret (Sh.er 8 125))) (Tree.node (A.lt x (Int.ofNat 1)) (Tree.leaf (Fin.ret (Sh.er 9 125))) (Tree.node (A.lt (Int.ofNat 1000) x) (Tree.leaf (Fin.ret (Sh.er 9 125))) (Tree.node (A.nt (A.ite (A.eq (Int.ofNat 0) (Int.ofNat 0)) (A.ite (A.eq (Int.ofNat 0) (Int.ofNat 0)) (A.ite (A.eq t (Int.ofNat 0)) (A.ite (A.eq o (Int.ofNat 0)) (A.ite (A.eq p (Int.ofNat 0)) (A.ite (A.eq y (Int.ofNat 0)) (A.ite (A.eq v (Int.ofNat 0)) (A.ite (A.eq (Int.ofNat 0) (Int.ofNat 0)) true false) false) false) false) false) false) false) false)) (Tree.leaf (Fin.ret (Sh.er 9 125))) (Tree.leaf (Fin.ret (Sh.v Value.nilIface))))))))))) := by kernel_rfl
theorem a56_3_3 (A : Prim) (W : Wd) (_k x t o p y v _r : Int) : runF (C5 A W spec54 unroll) 3000 56 [.code []] (start0 75 [.agg [il 3, sy x, sy t, sy o, sy p, sy y, sy v, il 3]] L0) = Tree.must [Eqn.int x x, Eqn.int t t, Eqn.int o o, Eqn.int p p, Eqn.int y y, Eqn.int v v] (Tree.must [Eqn.int x x, Eqn.int t t, Eqn.int o o, Eqn.int p p, Eqn.int y y, Eqn.int v v] (Tree.must [Eqn.int x x, Eqn.int t t, Eqn.int o o, Eqn.int p p, Eqn.int y y, Eqn.int v v] (Tree.must [Eqn.int x x, Eqn.int t t, Eqn.int o o, Eqn.int p p, Eqn.int y y, Eqn.int v v] (Tree.need true (Tree.node (A.seq (wordOf 14 3 (Int.ofNat 3)) []) (Tree.leaf (Fin.ret (Sh.er 8 125))) (Tree.node (A.lt x (Int.ofNat 1)) (Tree.leaf (Fin.ret (Sh.er 9 125))) (Tree.node (A.lt (Int.ofNat 1000) x) (Tree.leaf (Fin.ret (Sh.er 9 125))) (Tree.node (A.lt v (Int.negSucc 999999999)) (Tree.leaf (Fin.ret (Sh.er 9 125))) (Tree.node (A.lt (Int.ofNat 1000000000) v) (Tree.leaf (Fin.ret (Sh.er 9 125))) (Tree.node (A.nt (A.ite (A.eq (Int.ofNat 0) (Int.ofNat 0)) (A.ite (A.eq (Int.ofNat 0) (Int.ofNat 0)) (A.ite (A.eq t (Int.ofNat 0)) (A.ite (A.eq o (Int.ofNat 0)) (A.ite (A.eq p (Int.ofNat 0)) (A.ite (A.eq y (Int.ofNat 0)) (A.ite (A.eq (Int.ofNat 0) (Int.ofNat 0)) (A.ite (A.eq (Int.ofNat 0) (Int.ofNat 0)) true false) false) false) false) false) false) false) false)) (Tree.leaf (Fin.ret (Sh.er 9 125))) (Tree.leaf (Fin.ret (Sh.v Value.nilIface))))))))))))) := by kernel_rfl
end Go.Proofs
namespace Go.Proofs
open Go Go.Sx Go.Pl
theorem a56_0 (A : Prim) (W : Wd) (k x t o p y v r : Int) : dead (runF (C5 A W spec54 stop56) 3000 56 [.code []] (start0 75 [.agg [sy k, sy x, sy t, sy o, sy p, sy y, sy v, sy r]] L0)) = Tree.must [Eqn.int k k, Eqn.int x x, Eqn.int t t, Eqn.int o o, Eqn.int p p, Eqn.int y y, Eqn.int v v, Eqn.int r r] (Tree.must [Eqn.int k k, Eqn.int x x, Eqn.int t t, Eqn.int o o, Eqn.int p p, Eqn.int y y, Eqn.int v v, Eqn.int r r] (Tree.must [Eqn.int k k, Eqn.int x x, Eqn.int t t, Eqn.int o o, Eqn.int p p, Eqn.int y y, Eqn.int v v, Eqn.int r r] (Tree.must [Eqn.int k k, Eqn.int x x, Eqn.int t t, Eqn.int o o, Eqn.int p p, Eqn.int y y, Eqn.int v v, Eqn.int r r] (Tree.node (A.eq k (Int.ofNat 1)) (Tree.node (A.eq k (Int.ofNat 2)) (Tree.node (A.eq (opOf p) (Int.ofNat 0)) (Tree.leaf (Fin.ret (Sh.er 8 125))) (Tree.node (A.eq k (Int.ofNat 3)) (Tree.need true (Tree.node (A.seq (wordOf 14 3 r) []) (Tree.leaf (Fin.ret (Sh.er 8 125))) Tree.fail)) Tree.fail)) (Tree.node (A.eq k (Int.ofNat 3)) (Tree.need true (Tree.node (A.seq (wordOf 14 3 r) []) (Tree.leaf (Fin.ret (Sh.er 8 125))) Tree.fail)) Tree.fail)) (Tree.node (A.eq k (Int.ofNat 4)) (Tree.node (A.eq k (Int.ofNat 2)) (Tree.node (A.eq (opOf p) (Int.ofNat 0)) (Tree.leaf (Fin.ret (Sh.er 8 125))) (Tree.node (A.eq k (Int.ofNat 3)) (Tree.need true (Tree.node (A.seq (wordOf 14 3 r) []) (Tree.leaf (Fin.ret (Sh.er 8 125))) Tree.fail)) Tree.fail)) (Tree.node (A.eq k (Int.ofNat 3)) (Tree.need true (Tree.node (A.seq (wordOf 14 3 r) []) (Tree.leaf (Fin.ret (Sh.er 8 125))) Tree.fail)) Tree.fail)) (Tree.node (A.eq k (Int.ofNat 5)) (Tree.node (A.eq k (Int.ofNat 2)) (Tree.node (A.eq (opOf p) (Int.ofNat 0)) (Tree.leaf (Fin.ret (Sh.er 8 125))) (Tree.node (A.eq k (Int.ofNat 3)) (Tree.need true (Tree.node (A.seq (wordOf 14 3 r) []) (Tree.leaf (Fin.ret (Sh.er 8 125))) Tree.fail)) Tree.fail)) (Tree.node (A.eq k (Int.ofNat 3)) (Tree.need true (Tree.node (A.seq (wordOf 14 3 r) []) (Tree.leaf (Fin.ret (Sh.er 8 125))) Tree.fail)) Tree.fail)) (Tree.node (A.eq k (Int.ofNat 6)) (Tree.node (A.eq k (Int.ofNat 2)) (Tree.node (A.eq (opOf p) (Int.ofNat 0)) (Tree.leaf (Fin.ret (Sh.er 8 125))) (Tree.node (A.eq k (Int.ofNat 3)) (Tree.need true (Tree.node (A.seq (wordOf 14 3 r) []) (Tree.leaf (Fin.ret (Sh.er 8 125))) Tree.fail)) Tree.fail)) (Tree.node (A.eq k (Int.ofNat 3)) (Tree.need true (Tree.node (A.seq (wordOf 14 3 r) []) (Tree.leaf (Fin.ret (Sh.er 8 125))) Tree.fail)) Tree.fail)) (Tree.node (A.eq k (Int.ofNat 7)) (Tree.node (A.eq k (Int.ofNat 2)) (Tree.node (A.eq (opOf p) (Int.ofNat 0)) (Tree.leaf (Fin.ret (Sh.er 8 125))) (Tree.node (A.eq k (Int.ofNat 3)) (Tree.need true (Tree.node (A.seq (wordOf 14 3 r) []) (Tree.leaf (Fin.ret (Sh.er 8 125))) Tree.fail)) Tree.fail)) (Tree.node (A.eq k (Int.ofNat 3)) (Tree.need true (Tree.node (A.seq (wordOf 14 3 r) []) (Tree.leaf (Fin.ret (Sh.er 8 125))) Tree.fail)) Tree.fail)) (Tree.node (A.eq k (Int.ofNat 2)) (Tree.node (A.eq k (Int.ofNat 2)) (Tree.node (A.eq (opOf p) (Int.ofNat 0)) (Tree.leaf (Fin.ret (Sh.er 8 125))) (Tree.node (A.eq k (Int.ofNat 3)) (Tree.need true (Tree.node (A.seq (wordOf 14 3 r) []) (Tree.leaf (Fin.ret (Sh.er 8 125))) Tree.fail)) Tree.fail)) (Tree.node (A.eq k (Int.ofNat 3)) (Tree.need true (Tree.node (A.seq (wordOf 14 3 r) []) (Tree.leaf (Fin.ret (Sh.er 8 125))) Tree.fail)) Tree.fail)) (Tree.node (A.eq k (Int.ofNat 3)) (Tree.node (A.eq k (Int.ofNat 2)) (Tree.node (A.eq (opOf p) (Int.ofNat 0)) (Tree.leaf (Fin.ret (Sh.er 8 125))) (Tree.node (A.eq k (Int.ofNat 3)) (Tree.need true (Tree.node (A.seq (wordOf 14 3 r) []) (Tree.leaf (Fin.ret (Sh.er 8 125))) Tree.fail)) Tree.fail)) (Tree.node (A.eq k (Int.ofNat 3)) (Tree.need true (Tree.node (A.seq (wordOf 14 3 r) []) (Tree.leaf (Fin.ret (Sh.er 8 125))) Tree.fail)) Tree.fail)) (Tree.leaf (Fin.ret (Sh.er 8 125))))))))))))) := by kernel_rfl
theorem a56_20 (A : Prim) (W : Wd) (_k x t o p y v r : Int) : dead (runF (C5 A W spec54 stop56) 3000 56 [.code []] (start0 75 [.agg [il 2, sy x, sy t, sy o, sy p, sy y, sy v, sy r]] L0)) = Tree.must [Eqn.int x x, Eqn.int t t, Eqn.int o o, Eqn.int p p, Eqn.int y y, Eqn.int v v, Eqn.int r r] (Tree.must [Eqn.int x x, Eqn.int t t, Eqn.int o o, Eqn.int p p, Eqn.int y y, Eqn.int v v, Eqn.int r r] (Tree.must [Eqn.int x x, Eqn.int t t, Eqn.int o o, Eqn.int p p, Eqn.int y y, Eqn.int v v, Eqn.int r r] (Tree.must [Eqn.int x x, Eqn.int t t, Eqn.int o o, Eqn.int p p, Eqn.int y y, Eqn.int v v, Eqn.int r r] (Tree.node (A.eq (opOf p) (Int.ofNat 0)) (Tree.leaf (Fin.ret (Sh.er 8 125))) Tree.fail)))) := by kernel_rfl
theorem a56_30 (A : Prim) (W : Wd) (_k x t o p y v r : Int) : dead (runF (C5 A W spec54 stop56) 3000 56 [.code []] (start0 75 [.agg [il 3, sy x, sy t, sy o, sy p, sy y, sy v, sy r]] L0)) = Tree.must [Eqn.int x x, Eqn.int t t, Eqn.int o o, Eqn.int p p, Eqn.int y y, Eqn.int v v, Eqn.int r r] (Tree.must [Eqn.int x x, Eqn.int t t, Eqn.int o o, Eqn.int p p, Eqn.int y y, Eqn.int v v, Eqn.int r r] (Tree.must [Eqn.int x x, Eqn.int t t, Eqn.int o o, Eqn.int p p, Eqn.int y y, Eqn.int v v, Eqn.int r r] (Tree.must [Eqn.int x x, Eqn.int t t, Eqn.int o o, Eqn.int p p, Eqn.int y y, Eqn.int v v, Eqn.int r r] (Tree.need true (Tree.node (A.seq (wordOf 14 3 r) []) (Tree.leaf (Fin.ret (Sh.er 8 125))) Tree.fail))))) := by kernel_rfl
end Go.Proofs
namespace Go.Pl
open Go Go.Sx
/-- Are all codes of an event known? -/
def codeP (e : Ev) : Prop := (1 ≤ e.kind ∧ e.kind ≤ 7) ∧ (e.kind = 2 → 1 ≤ e.op ∧ e.op ≤ 9) ∧ (e.kind = 3 → 1 ≤ e.ret ∧ e.ret ≤ 3)
/-- Is each field in its range, and each one that is not asked for zero? -/
def fieldsP (e : Ev) : Prop :=
  (1 ≤ e.tx ∧ e.tx ≤ 1000) ∧
  ((e.kind = 1 ∧ 0 ≤ e.thread ∧ e.thread ≤ 7) ∨ (e.kind ≠ 1 ∧ e.thread = 0)) ∧
  ((e.kind = 2 ∧ 0 ≤ e.obj ∧ e.obj ≤ 7) ∨ (e.kind ≠ 2 ∧ e.obj = 0)) ∧
  ((e.kind = 2 ∧ 1 ≤ e.op ∧ e.op ≤ 9) ∨ (e.kind ≠ 2 ∧ e.op = 0)) ∧
  ((e.kind = 2 ∧ 7 ≤ e.op ∧ 0 ≤ e.key ∧ e.key ≤ 1000) ∨ (¬(e.kind = 2 ∧ 7 ≤ e.op) ∧ e.key = 0)) ∧
  ((((e.kind = 2 ∧ (e.op = 2 ∨ e.op = 3 ∨ e.op = 5 ∨ e.op = 7)) ∨ (e.kind = 3 ∧ e.ret = 3)) ∧ -1000000000 ≤ e.val ∧ e.val ≤ 1000000000) ∨ (¬((e.kind = 2 ∧ (e.op = 2 ∨ e.op = 3 ∨ e.op = 5 ∨ e.op = 7)) ∨ (e.kind = 3 ∧ e.ret = 3)) ∧ e.val = 0)) ∧
  ((e.kind = 3 ∧ 1 ≤ e.ret ∧ e.ret ≤ 3) ∨ (e.kind ≠ 3 ∧ e.ret = 0))
instance (e : Ev) : Decidable (codeP e) := by unfold codeP; infer_instance
instance (e : Ev) : Decidable (fieldsP e) := by unfold fieldsP; infer_instance
end Go.Pl
namespace Go.Proofs
open Go Go.Sx Go.Pl
theorem c56_1 {H : Mem} {w : World} {φ : Sh → Prop} {x t o p y v r : Int} (hN : fieldsP ⟨1, x, t, o, p, y, v, r⟩ → φ (.v .nilIface)) (h9 : ¬ fieldsP ⟨1, x, t, o, p, y, v, r⟩ → φ (.er 9 125)) :
    Meets (FinOK Tryd.prog (C5 prim W5 spec54 unroll) (K0 H w) Tryd.f56 φ) (runF (C5 prim W5 spec54 unroll) 3000 56 [.code []] (start0 75 [.agg [il 1, sy x, sy t, sy o, sy p, sy y, sy v, sy r]] L0)) := by
  rw [a56_1 prim W5 0 x t o p y v r, ← meets_eq]
  simp [Tree.All, FinOK, Eqn.all, Eqn.ok, prim_lt, prim_eq, prim_nt, prim_ite]
  repeat' (first | refine And.intro ?_ ?_ | intro _)
  all_goals first | exact h9 (by simp only [fieldsP]; omega) | exact hN (by simp [fieldsP] <;> omega) | exact hN (by simp_all [fieldsP])
theorem c56_4 {H : Mem} {w : World} {φ : Sh → Prop} {x t o p y v r : Int} (hN : fieldsP ⟨4, x, t, o, p, y, v, r⟩ → φ (.v .nilIface)) (h9 : ¬ fieldsP ⟨4, x, t, o, p, y, v, r⟩ → φ (.er 9 125)) :
    Meets (FinOK Tryd.prog (C5 prim W5 spec54 unroll) (K0 H w) Tryd.f56 φ) (runF (C5 prim W5 spec54 unroll) 3000 56 [.code []] (start0 75 [.agg [il 4, sy x, sy t, sy o, sy p, sy y, sy v, sy r]] L0)) := by
  rw [a56_4 prim W5 0 x t o p y v r, ← meets_eq]
  simp [Tree.All, FinOK, Eqn.all, Eqn.ok, prim_lt, prim_eq, prim_nt, prim_ite]
  repeat' (first | refine And.intro ?_ ?_ | intro _)
  all_goals first | exact h9 (by simp only [fieldsP]; omega) | exact hN (by simp [fieldsP] <;> omega) | exact hN (by simp_all [fieldsP])
theorem c56_5 {H : Mem} {w : World} {φ : Sh → Prop} {x t o p y v r : Int} (hN : fieldsP ⟨5, x, t, o, p, y, v, r⟩ → φ (.v .nilIface)) (h9 : ¬ fieldsP ⟨5, x, t, o, p, y, v, r⟩ → φ (.er 9 125)) :
    Meets (FinOK Tryd.prog (C5 prim W5 spec54 unroll) (K0 H w) Tryd.f56 φ) (runF (C5 prim W5 spec54 unroll) 3000 56 [.code []] (start0 75 [.agg [il 5, sy x, sy t, sy o, sy p, sy y, sy v, sy r]] L0)) := by
  rw [a56_5 prim W5 0 x t o p y v r, ← meets_eq]
  simp [Tree.All, FinOK, Eqn.all, Eqn.ok, prim_lt, prim_eq, prim_nt, prim_ite]
  repeat' (first | refine And.intro ?_ ?_ | intro _)
  all_goals first | exact h9 (by simp only [fieldsP]; omega) | exact hN (by simp [fieldsP] <;> omega) | exact hN (by simp_all [fieldsP])
theorem c56_6 {H : Mem} {w : World} {φ : Sh → Prop} {x t o p y v r : Int} (hN : fieldsP ⟨6, x, t, o, p, y, v, r⟩ → φ (.v .nilIface)) (h9 : ¬ fieldsP ⟨6, x, t, o, p, y, v, r⟩ → φ (.er 9 125)) :
    Meets (FinOK Tryd.prog (C5 prim W5 spec54 unroll) (K0 H w) Tryd.f56 φ) (runF (C5 prim W5 spec54 unroll) 3000 56 [.code []] (start0 75 [.agg [il 6, sy x, sy t, sy o, sy p, sy y, sy v, sy r]] L0)) := by
  rw [a56_6 prim W5 0 x t o p y v r, ← meets_eq]
  simp [Tree.All, FinOK, Eqn.all, Eqn.ok, prim_lt, prim_eq, prim_nt, prim_ite]
  repeat' (first | refine And.intro ?_ ?_ | intro _)
  all_goals first | exact h9 (by simp only [fieldsP]; omega) | exact hN (by simp [fieldsP] <;> omega) | exact hN (by simp_all [fieldsP])
theorem c56_7 {H : Mem} {w : World} {φ : Sh → Prop} {x t o p y v r : Int} (hN : fieldsP ⟨7, x, t, o, p, y, v, r⟩ → φ (.v .nilIface)) (h9 : ¬ fieldsP ⟨7, x, t, o, p, y, v, r⟩ → φ (.er 9 125)) :
    Meets (FinOK Tryd.prog (C5 prim W5 spec54 unroll) (K0 H w) Tryd.f56 φ) (runF (C5 prim W5 spec54 unroll) 3000 56 [.code []] (start0 75 [.agg [il 7, sy x, sy t, sy o, sy p, sy y, sy v, sy r]] L0)) := by
  rw [a56_7 prim W5 0 x t o p y v r, ← meets_eq]
  simp [Tree.All, FinOK, Eqn.all, Eqn.ok, prim_lt, prim_eq, prim_nt, prim_ite]
  repeat' (first | refine And.intro ?_ ?_ | intro _)
  all_goals first | exact h9 (by simp only [fieldsP]; omega) | exact hN (by simp [fieldsP] <;> omega) | exact hN (by simp_all [fieldsP])
theorem c56_2_1 {H : Mem} {w : World} {φ : Sh → Prop} {x t o p y v r : Int} (hN : fieldsP ⟨2, x, t, o, 1, y, v, r⟩ → φ (.v .nilIface)) (h9 : ¬ fieldsP ⟨2, x, t, o, 1, y, v, r⟩ → φ (.er 9 125)) :
    Meets (FinOK Tryd.prog (C5 prim W5 spec54 unroll) (K0 H w) Tryd.f56 φ) (runF (C5 prim W5 spec54 unroll) 3000 56 [.code []] (start0 75 [.agg [il 2, sy x, sy t, sy o, il 1, sy y, sy v, sy r]] L0)) := by
  rw [a56_2_1 prim W5 0 x t o p y v r, ← meets_eq]
  simp [Tree.All, FinOK, Eqn.all, Eqn.ok, prim_lt, prim_eq, prim_nt, prim_ite, opOf]
  repeat' (first | refine And.intro ?_ ?_ | intro _)
  all_goals first | exact h9 (by simp only [fieldsP]; omega) | exact hN (by simp [fieldsP] <;> omega) | exact hN (by simp_all [fieldsP])
theorem c56_2_2 {H : Mem} {w : World} {φ : Sh → Prop} {x t o p y v r : Int} (hN : fieldsP ⟨2, x, t, o, 2, y, v, r⟩ → φ (.v .nilIface)) (h9 : ¬ fieldsP ⟨2, x, t, o, 2, y, v, r⟩ → φ (.er 9 125)) :
    Meets (FinOK Tryd.prog (C5 prim W5 spec54 unroll) (K0 H w) Tryd.f56 φ) (runF (C5 prim W5 spec54 unroll) 3000 56 [.code []] (start0 75 [.agg [il 2, sy x, sy t, sy o, il 2, sy y, sy v, sy r]] L0)) := by
  rw [a56_2_2 prim W5 0 x t o p y v r, ← meets_eq]
  simp [Tree.All, FinOK, Eqn.all, Eqn.ok, prim_lt, prim_eq, prim_nt, prim_ite, opOf]
  repeat' (first | refine And.intro ?_ ?_ | intro _)
  all_goals first | exact h9 (by simp only [fieldsP]; omega) | exact hN (by simp [fieldsP] <;> omega) | exact hN (by simp_all [fieldsP])
theorem c56_2_3 {H : Mem} {w : World} {φ : Sh → Prop} {x t o p y v r : Int} (hN : fieldsP ⟨2, x, t, o, 3, y, v, r⟩ → φ (.v .nilIface)) (h9 : ¬ fieldsP ⟨2, x, t, o, 3, y, v, r⟩ → φ (.er 9 125)) :
    Meets (FinOK Tryd.prog (C5 prim W5 spec54 unroll) (K0 H w) Tryd.f56 φ) (runF (C5 prim W5 spec54 unroll) 3000 56 [.code []] (start0 75 [.agg [il 2, sy x, sy t, sy o, il 3, sy y, sy v, sy r]] L0)) := by
  rw [a56_2_3 prim W5 0 x t o p y v r, ← meets_eq]
  simp [Tree.All, FinOK, Eqn.all, Eqn.ok, prim_lt, prim_eq, prim_nt, prim_ite, opOf]
  repeat' (first | refine And.intro ?_ ?_ | intro _)
  all_goals first | exact h9 (by simp only [fieldsP]; omega) | exact hN (by simp [fieldsP] <;> omega) | exact hN (by simp_all [fieldsP])
theorem c56_2_4 {H : Mem} {w : World} {φ : Sh → Prop} {x t o p y v r : Int} (hN : fieldsP ⟨2, x, t, o, 4, y, v, r⟩ → φ (.v .nilIface)) (h9 : ¬ fieldsP ⟨2, x, t, o, 4, y, v, r⟩ → φ (.er 9 125)) :
    Meets (FinOK Tryd.prog (C5 prim W5 spec54 unroll) (K0 H w) Tryd.f56 φ) (runF (C5 prim W5 spec54 unroll) 3000 56 [.code []] (start0 75 [.agg [il 2, sy x, sy t, sy o, il 4, sy y, sy v, sy r]] L0)) := by
  rw [a56_2_4 prim W5 0 x t o p y v r, ← meets_eq]
  simp [Tree.All, FinOK, Eqn.all, Eqn.ok, prim_lt, prim_eq, prim_nt, prim_ite, opOf]
  repeat' (first | refine And.intro ?_ ?_ | intro _)
  all_goals first | exact h9 (by simp only [fieldsP]; omega) | exact hN (by simp [fieldsP] <;> omega) | exact hN (by simp_all [fieldsP])
theorem c56_2_5 {H : Mem} {w : World} {φ : Sh → Prop} {x t o p y v r : Int} (hN : fieldsP ⟨2, x, t, o, 5, y, v, r⟩ → φ (.v .nilIface)) (h9 : ¬ fieldsP ⟨2, x, t, o, 5, y, v, r⟩ → φ (.er 9 125)) :
    Meets (FinOK Tryd.prog (C5 prim W5 spec54 unroll) (K0 H w) Tryd.f56 φ) (runF (C5 prim W5 spec54 unroll) 3000 56 [.code []] (start0 75 [.agg [il 2, sy x, sy t, sy o, il 5, sy y, sy v, sy r]] L0)) := by
  rw [a56_2_5 prim W5 0 x t o p y v r, ← meets_eq]
  simp [Tree.All, FinOK, Eqn.all, Eqn.ok, prim_lt, prim_eq, prim_nt, prim_ite, opOf]
  repeat' (first | refine And.intro ?_ ?_ | intro _)
  all_goals first | exact h9 (by simp only [fieldsP]; omega) | exact hN (by simp [fieldsP] <;> omega) | exact hN (by simp_all [fieldsP])
theorem c56_2_6 {H : Mem} {w : World} {φ : Sh → Prop} {x t o p y v r : Int} (hN : fieldsP ⟨2, x, t, o, 6, y, v, r⟩ → φ (.v .nilIface)) (h9 : ¬ fieldsP ⟨2, x, t, o, 6, y, v, r⟩ → φ (.er 9 125)) :
    Meets (FinOK Tryd.prog (C5 prim W5 spec54 unroll) (K0 H w) Tryd.f56 φ) (runF (C5 prim W5 spec54 unroll) 3000 56 [.code []] (start0 75 [.agg [il 2, sy x, sy t, sy o, il 6, sy y, sy v, sy r]] L0)) := by
  rw [a56_2_6 prim W5 0 x t o p y v r, ← meets_eq]
  simp [Tree.All, FinOK, Eqn.all, Eqn.ok, prim_lt, prim_eq, prim_nt, prim_ite, opOf]
  repeat' (first | refine And.intro ?_ ?_ | intro _)
  all_goals first | exact h9 (by simp only [fieldsP]; omega) | exact hN (by simp [fieldsP] <;> omega) | exact hN (by simp_all [fieldsP])
theorem c56_2_7 {H : Mem} {w : World} {φ : Sh → Prop} {x t o p y v r : Int} (hN : fieldsP ⟨2, x, t, o, 7, y, v, r⟩ → φ (.v .nilIface)) (h9 : ¬ fieldsP ⟨2, x, t, o, 7, y, v, r⟩ → φ (.er 9 125)) :
    Meets (FinOK Tryd.prog (C5 prim W5 spec54 unroll) (K0 H w) Tryd.f56 φ) (runF (C5 prim W5 spec54 unroll) 3000 56 [.code []] (start0 75 [.agg [il 2, sy x, sy t, sy o, il 7, sy y, sy v, sy r]] L0)) := by
  rw [a56_2_7 prim W5 0 x t o p y v r, ← meets_eq]
  simp [Tree.All, FinOK, Eqn.all, Eqn.ok, prim_lt, prim_eq, prim_nt, prim_ite, opOf]
  repeat' (first | refine And.intro ?_ ?_ | intro _)
  all_goals first | exact h9 (by simp only [fieldsP]; omega) | exact hN (by simp [fieldsP] <;> omega) | exact hN (by simp_all [fieldsP])
theorem c56_2_8 {H : Mem} {w : World} {φ : Sh → Prop} {x t o p y v r : Int} (hN : fieldsP ⟨2, x, t, o, 8, y, v, r⟩ → φ (.v .nilIface)) (h9 : ¬ fieldsP ⟨2, x, t, o, 8, y, v, r⟩ → φ (.er 9 125)) :
    Meets (FinOK Tryd.prog (C5 prim W5 spec54 unroll) (K0 H w) Tryd.f56 φ) (runF (C5 prim W5 spec54 unroll) 3000 56 [.code []] (start0 75 [.agg [il 2, sy x, sy t, sy o, il 8, sy y, sy v, sy r]] L0)) := by
  rw [a56_2_8 prim W5 0 x t o p y v r, ← meets_eq]
  simp [Tree.All, FinOK, Eqn.all, Eqn.ok, prim_lt, prim_eq, prim_nt, prim_ite, opOf]
  repeat' (first | refine And.intro ?_ ?_ | intro _)
  all_goals first | exact h9 (by simp only [fieldsP]; omega) | exact hN (by simp [fieldsP] <;> omega) | exact hN (by simp_all [fieldsP])
theorem c56_2_9 {H : Mem} {w : World} {φ : Sh → Prop} {x t o p y v r : Int} (hN : fieldsP ⟨2, x, t, o, 9, y, v, r⟩ → φ (.v .nilIface)) (h9 : ¬ fieldsP ⟨2, x, t, o, 9, y, v, r⟩ → φ (.er 9 125)) :
    Meets (FinOK Tryd.prog (C5 prim W5 spec54 unroll) (K0 H w) Tryd.f56 φ) (runF (C5 prim W5 spec54 unroll) 3000 56 [.code []] (start0 75 [.agg [il 2, sy x, sy t, sy o, il 9, sy y, sy v, sy r]] L0)) := by
  rw [a56_2_9 prim W5 0 x t o p y v r, ← meets_eq]
  simp [Tree.All, FinOK, Eqn.all, Eqn.ok, prim_lt, prim_eq, prim_nt, prim_ite, opOf]
  repeat' (first | refine And.intro ?_ ?_ | intro _)
  all_goals first | exact h9 (by simp only [fieldsP]; omega) | exact hN (by simp [fieldsP] <;> omega) | exact hN (by simp_all [fieldsP])
theorem c56_3_1 {H : Mem} {w : World} {φ : Sh → Prop} {x t o p y v r : Int} (hN : fieldsP ⟨3, x, t, o, p, y, v, 1⟩ → φ (.v .nilIface)) (h9 : ¬ fieldsP ⟨3, x, t, o, p, y, v, 1⟩ → φ (.er 9 125)) :
    Meets (FinOK Tryd.prog (C5 prim W5 spec54 unroll) (K0 H w) Tryd.f56 φ) (runF (C5 prim W5 spec54 unroll) 3000 56 [.code []] (start0 75 [.agg [il 3, sy x, sy t, sy o, sy p, sy y, sy v, il 1]] L0)) := by
  rw [a56_3_1 prim W5 0 x t o p y v r, ← meets_eq]
  simp [Tree.All, FinOK, Eqn.all, Eqn.ok, prim_lt, prim_eq, prim_nt, prim_ite, seq_word ne14, inW, idx, IntKind.wrap_i64]
  repeat' (first | refine And.intro ?_ ?_ | intro _)
  all_goals first | exact h9 (by simp only [fieldsP]; omega) | exact hN (by simp [fieldsP] <;> omega) | exact hN (by simp_all [fieldsP])
theorem c56_3_2 {H : Mem} {w : World} {φ : Sh → Prop} {x t o p y v r : Int} (hN : fieldsP ⟨3, x, t, o, p, y, v, 2⟩ → φ (.v .nilIface)) (h9 : ¬ fieldsP ⟨3, x, t, o, p, y, v, 2⟩ → φ (.er 9 125)) :
    Meets (FinOK Tryd.prog (C5 prim W5 spec54 unroll) (K0 H w) Tryd.f56 φ) (runF (C5 prim W5 spec54 unroll) 3000 56 [.code []] (start0 75 [.agg [il 3, sy x, sy t, sy o, sy p, sy y, sy v, il 2]] L0)) := by
  rw [a56_3_2 prim W5 0 x t o p y v r, ← meets_eq]
  simp [Tree.All, FinOK, Eqn.all, Eqn.ok, prim_lt, prim_eq, prim_nt, prim_ite, seq_word ne14, inW, idx, IntKind.wrap_i64]
  repeat' (first | refine And.intro ?_ ?_ | intro _)
  all_goals first | exact h9 (by simp only [fieldsP]; omega) | exact hN (by simp [fieldsP] <;> omega) | exact hN (by simp_all [fieldsP])
theorem c56_3_3 {H : Mem} {w : World} {φ : Sh → Prop} {x t o p y v r : Int} (hN : fieldsP ⟨3, x, t, o, p, y, v, 3⟩ → φ (.v .nilIface)) (h9 : ¬ fieldsP ⟨3, x, t, o, p, y, v, 3⟩ → φ (.er 9 125)) :
    Meets (FinOK Tryd.prog (C5 prim W5 spec54 unroll) (K0 H w) Tryd.f56 φ) (runF (C5 prim W5 spec54 unroll) 3000 56 [.code []] (start0 75 [.agg [il 3, sy x, sy t, sy o, sy p, sy y, sy v, il 3]] L0)) := by
  rw [a56_3_3 prim W5 0 x t o p y v r, ← meets_eq]
  simp [Tree.All, FinOK, Eqn.all, Eqn.ok, prim_lt, prim_eq, prim_nt, prim_ite, seq_word ne14, inW, idx, IntKind.wrap_i64]
  repeat' (first | refine And.intro ?_ ?_ | intro _)
  all_goals first | exact h9 (by simp only [fieldsP]; omega) | exact hN (by simp [fieldsP] <;> omega) | exact hN (by simp_all [fieldsP])
end Go.Proofs
namespace Go.Pl
open Go Go.Sx
def codeB (e : Ev) : Bool := decide (codeP e)
def fieldsB (e : Ev) : Bool := decide (fieldsP e)
/-- Is it a number of 64 bits? -/
def in64 (n : Int) : Bool := decide (-9223372036854775808 ≤ n ∧ n ≤ 9223372036854775807)
def evOf : List Sh → Option Ev
  | [a, b, c, d, e, f, g, h] => match icode a with
    | none => none
    | some a => match icode b with
      | none => none
      | some b => match icode c with
        | none => none
        | some c => match icode d with
          | none => none
          | some d => match icode e with
            | none => none
            | some e => match icode f with
              | none => none
              | some f => match icode g with
                | none => none
                | some g => match icode h with
                  | none => none
                  | some h => some ⟨a, b, c, d, e, f, g, h⟩
  | _ => none
theorem rep_agg_to {H : Mem} {l l' : List Sh} {v : Value} (hv : Rep H (.agg l) v) (hl : l'.length = l.length) (h : ∀ (j : Nat) (s s' : Sh), l[j]? = some s → l'[j]? = some s' → ∀ u, Rep H s u → Rep H s' u) : Rep H (.agg l') v := by
  cases hv with
  | agg _ vs h3 h4 =>
    refine .agg _ vs (by rw [hl]; exact h3) fun j s' v' e1 e2 => ?_
    have hj : j < l.length := by
      rw [← hl]
      exact (List.getElem?_eq_some_iff.1 e1).1
    exact h j l[j] s' (List.getElem?_eq_getElem hj) e1 _ (h4 j l[j] v' (List.getElem?_eq_getElem hj) e2)
theorem evOf_ok {H : Mem} {l : List Sh} {e : Ev} {v : Value} (h : evOf l = some e) (hv : Rep H (.agg l) v) : Rep H (.agg (evR e)) v := by
  unfold evOf at h
  repeat' split at h
  all_goals first | cases h; done | skip
  rename_i h1 _ _ h2 _ _ h3 _ _ h4 _ _ h5 _ _ h6 _ _ h7 _ _ h8
  cases h
  refine rep_agg_to hv rfl fun j s s' e1 e2 u hu => ?_
  match j, e1, e2 with
  | 0, e1, e2 => simp [evR] at e1 e2; subst e1 e2; exact icode_ok h1 hu
  | 1, e1, e2 => simp [evR] at e1 e2; subst e1 e2; exact icode_ok h2 hu
  | 2, e1, e2 => simp [evR] at e1 e2; subst e1 e2; exact icode_ok h3 hu
  | 3, e1, e2 => simp [evR] at e1 e2; subst e1 e2; exact icode_ok h4 hu
  | 4, e1, e2 => simp [evR] at e1 e2; subst e1 e2; exact icode_ok h5 hu
  | 5, e1, e2 => simp [evR] at e1 e2; subst e1 e2; exact icode_ok h6 hu
  | 6, e1, e2 => simp [evR] at e1 e2; subst e1 e2; exact icode_ok h7 hu
  | 7, e1, e2 => simp [evR] at e1 e2; subst e1 e2; exact icode_ok h8 hu
  | j + 8, e1, e2 => simp [evR] at e2
theorem rep_lit {H : Mem} {c : Int} {u : Value} (h : Rep H (.i .i64 c) u) : Rep H (.v (.int .i64 c)) u := by
  cases h; exact .v _ rfl
end Go.Pl
namespace Go.Proofs
open Go Go.Sx Go.Pl
def F56a : List Sh → Tree Sh
  | [.agg l] => match evOf l with
    | some e => .need (codeB e) (.node (fieldsB e) (.leaf (.v .nilIface)) (.leaf (.er 9 125)))
    | none => .fail
  | _ => .fail
def F56b : List Sh → Tree Sh
  | [.agg l] => match evOf l with
    | some e => .need (in64 e.ret) (.need (!codeB e) (.leaf (.er 8 125)))
    | none => .fail
  | _ => .fail
def F56 : List Sh → Tree Sh
  | [.agg l] => match evOf l with
    | some e => .need (in64 e.ret) (.node (codeB e) (.node (fieldsB e) (.leaf (.v .nilIface)) (.leaf (.er 9 125))) (.leaf (.er 8 125)))
    | none => .fail
  | _ => .fail
theorem r56_1 {H : Mem} {x t o p y v r : Int} {u : Value} (h : Rep H (.agg (evR ⟨1, x, t, o, p, y, v, r⟩)) u) : Rep H (.agg [il 1, sy x, sy t, sy o, sy p, sy y, sy v, sy r]) u := by
  refine rep_agg_to h rfl fun j s s' e1 e2 u hu => ?_
  match j, e1, e2 with
  | 0, e1, e2 => simp [evR] at e1 e2; subst e1 e2; exact rep_lit hu
  | 1, e1, e2 => simp [evR] at e1 e2; subst e1 e2; exact hu
  | 2, e1, e2 => simp [evR] at e1 e2; subst e1 e2; exact hu
  | 3, e1, e2 => simp [evR] at e1 e2; subst e1 e2; exact hu
  | 4, e1, e2 => simp [evR] at e1 e2; subst e1 e2; exact hu
  | 5, e1, e2 => simp [evR] at e1 e2; subst e1 e2; exact hu
  | 6, e1, e2 => simp [evR] at e1 e2; subst e1 e2; exact hu
  | 7, e1, e2 => simp [evR] at e1 e2; subst e1 e2; exact hu
  | j + 8, e1, e2 => simp at e2
theorem r56_4 {H : Mem} {x t o p y v r : Int} {u : Value} (h : Rep H (.agg (evR ⟨4, x, t, o, p, y, v, r⟩)) u) : Rep H (.agg [il 4, sy x, sy t, sy o, sy p, sy y, sy v, sy r]) u := by
  refine rep_agg_to h rfl fun j s s' e1 e2 u hu => ?_
  match j, e1, e2 with
  | 0, e1, e2 => simp [evR] at e1 e2; subst e1 e2; exact rep_lit hu
  | 1, e1, e2 => simp [evR] at e1 e2; subst e1 e2; exact hu
  | 2, e1, e2 => simp [evR] at e1 e2; subst e1 e2; exact hu
  | 3, e1, e2 => simp [evR] at e1 e2; subst e1 e2; exact hu
  | 4, e1, e2 => simp [evR] at e1 e2; subst e1 e2; exact hu
  | 5, e1, e2 => simp [evR] at e1 e2; subst e1 e2; exact hu
  | 6, e1, e2 => simp [evR] at e1 e2; subst e1 e2; exact hu
  | 7, e1, e2 => simp [evR] at e1 e2; subst e1 e2; exact hu
  | j + 8, e1, e2 => simp at e2
theorem r56_5 {H : Mem} {x t o p y v r : Int} {u : Value} (h : Rep H (.agg (evR ⟨5, x, t, o, p, y, v, r⟩)) u) : Rep H (.agg [il 5, sy x, sy t, sy o, sy p, sy y, sy v, sy r]) u := by
  refine rep_agg_to h rfl fun j s s' e1 e2 u hu => ?_
  match j, e1, e2 with
  | 0, e1, e2 => simp [evR] at e1 e2; subst e1 e2; exact rep_lit hu
  | 1, e1, e2 => simp [evR] at e1 e2; subst e1 e2; exact hu
  | 2, e1, e2 => simp [evR] at e1 e2; subst e1 e2; exact hu
  | 3, e1, e2 => simp [evR] at e1 e2; subst e1 e2; exact hu
  | 4, e1, e2 => simp [evR] at e1 e2; subst e1 e2; exact hu
  | 5, e1, e2 => simp [evR] at e1 e2; subst e1 e2; exact hu
  | 6, e1, e2 => simp [evR] at e1 e2; subst e1 e2; exact hu
  | 7, e1, e2 => simp [evR] at e1 e2; subst e1 e2; exact hu
  | j + 8, e1, e2 => simp at e2
theorem r56_6 {H : Mem} {x t o p y v r : Int} {u : Value} (h : Rep H (.agg (evR ⟨6, x, t, o, p, y, v, r⟩)) u) : Rep H (.agg [il 6, sy x, sy t, sy o, sy p, sy y, sy v, sy r]) u := by
  refine rep_agg_to h rfl fun j s s' e1 e2 u hu => ?_
  match j, e1, e2 with
  | 0, e1, e2 => simp [evR] at e1 e2; subst e1 e2; exact rep_lit hu
  | 1, e1, e2 => simp [evR] at e1 e2; subst e1 e2; exact hu
  | 2, e1, e2 => simp [evR] at e1 e2; subst e1 e2; exact hu
  | 3, e1, e2 => simp [evR] at e1 e2; subst e1 e2; exact hu
  | 4, e1, e2 => simp [evR] at e1 e2; subst e1 e2; exact hu
  | 5, e1, e2 => simp [evR] at e1 e2; subst e1 e2; exact hu
  | 6, e1, e2 => simp [evR] at e1 e2; subst e1 e2; exact hu
  | 7, e1, e2 => simp [evR] at e1 e2; subst e1 e2; exact hu
  | j + 8, e1, e2 => simp at e2
theorem r56_7 {H : Mem} {x t o p y v r : Int} {u : Value} (h : Rep H (.agg (evR ⟨7, x, t, o, p, y, v, r⟩)) u) : Rep H (.agg [il 7, sy x, sy t, sy o, sy p, sy y, sy v, sy r]) u := by
  refine rep_agg_to h rfl fun j s s' e1 e2 u hu => ?_
  match j, e1, e2 with
  | 0, e1, e2 => simp [evR] at e1 e2; subst e1 e2; exact rep_lit hu
  | 1, e1, e2 => simp [evR] at e1 e2; subst e1 e2; exact hu
  | 2, e1, e2 => simp [evR] at e1 e2; subst e1 e2; exact hu
  | 3, e1, e2 => simp [evR] at e1 e2; subst e1 e2; exact hu
  | 4, e1, e2 => simp [evR] at e1 e2; subst e1 e2; exact hu
  | 5, e1, e2 => simp [evR] at e1 e2; subst e1 e2; exact hu
  | 6, e1, e2 => simp [evR] at e1 e2; subst e1 e2; exact hu
  | 7, e1, e2 => simp [evR] at e1 e2; subst e1 e2; exact hu
  | j + 8, e1, e2 => simp at e2
theorem r56_2_1 {H : Mem} {x t o p y v r : Int} {u : Value} (h : Rep H (.agg (evR ⟨2, x, t, o, 1, y, v, r⟩)) u) : Rep H (.agg [il 2, sy x, sy t, sy o, il 1, sy y, sy v, sy r]) u := by
  refine rep_agg_to h rfl fun j s s' e1 e2 u hu => ?_
  match j, e1, e2 with
  | 0, e1, e2 => simp [evR] at e1 e2; subst e1 e2; exact rep_lit hu
  | 1, e1, e2 => simp [evR] at e1 e2; subst e1 e2; exact hu
  | 2, e1, e2 => simp [evR] at e1 e2; subst e1 e2; exact hu
  | 3, e1, e2 => simp [evR] at e1 e2; subst e1 e2; exact hu
  | 4, e1, e2 => simp [evR] at e1 e2; subst e1 e2; exact rep_lit hu
  | 5, e1, e2 => simp [evR] at e1 e2; subst e1 e2; exact hu
  | 6, e1, e2 => simp [evR] at e1 e2; subst e1 e2; exact hu
  | 7, e1, e2 => simp [evR] at e1 e2; subst e1 e2; exact hu
  | j + 8, e1, e2 => simp at e2
theorem r56_2_2 {H : Mem} {x t o p y v r : Int} {u : Value} (h : Rep H (.agg (evR ⟨2, x, t, o, 2, y, v, r⟩)) u) : Rep H (.agg [il 2, sy x, sy t, sy o, il 2, sy y, sy v, sy r]) u := by
  refine rep_agg_to h rfl fun j s s' e1 e2 u hu => ?_
  match j, e1, e2 with
  | 0, e1, e2 => simp [evR] at e1 e2; subst e1 e2; exact rep_lit hu
  | 1, e1, e2 => simp [evR] at e1 e2; subst e1 e2; exact hu
  | 2, e1, e2 => simp [evR] at e1 e2; subst e1 e2; exact hu
  | 3, e1, e2 => simp [evR] at e1 e2; subst e1 e2; exact hu
  | 4, e1, e2 => simp [evR] at e1 e2; subst e1 e2; exact rep_lit hu
  | 5, e1, e2 => simp [evR] at e1 e2; subst e1 e2; exact hu
  | 6, e1, e2 => simp [evR] at e1 e2; subst e1 e2; exact hu
  | 7, e1, e2 => simp [evR] at e1 e2; subst e1 e2; exact hu
  | j + 8, e1, e2 => simp at e2
theorem r56_2_3 {H : Mem} {x t o p y v r : Int} {u : Value} (h : Rep H (.agg (evR ⟨2, x, t, o, 3, y, v, r⟩)) u) : Rep H (.agg [il 2, sy x, sy t, sy o, il 3, sy y, sy v, sy r]) u := by
  refine rep_agg_to h rfl fun j s s' e1 e2 u hu => ?_
  match j, e1, e2 with
  | 0, e1, e2 => simp [evR] at e1 e2; subst e1 e2; exact rep_lit hu
  | 1, e1, e2 => simp [evR] at e1 e2; subst e1 e2; exact hu
  | 2, e1, e2 => simp [evR] at e1 e2; subst e1 e2; exact hu
  | 3, e1, e2 => simp [evR] at e1 e2; subst e1 e2; exact hu
  | 4, e1, e2 => simp [evR] at e1 e2; subst e1 e2; exact rep_lit hu
  | 5, e1, e2 => simp [evR] at e1 e2; subst e1 e2; exact hu
  | 6, e1, e2 => simp [evR] at e1 e2; subst e1 e2; exact hu
  | 7, e1, e2 => simp [evR] at e1 e2; subst e1 e2; exact hu
  | j + 8, e1, e2 => simp at e2
theorem r56_2_4 {H : Mem} {x t o p y v r : Int} {u : Value} (h : Rep H (.agg (evR ⟨2, x, t, o, 4, y, v, r⟩)) u) : Rep H (.agg [il 2, sy x, sy t, sy o, il 4, sy y, sy v, sy r]) u := by
  refine rep_agg_to h rfl fun j s s' e1 e2 u hu => ?_
  match j, e1, e2 with
  | 0, e1, e2 => simp [evR] at e1 e2; subst e1 e2; exact rep_lit hu
  | 1, e1, e2 => simp [evR] at e1 e2; subst e1 e2; exact hu
  | 2, e1, e2 => simp [evR] at e1 e2; subst e1 e2; exact hu
  | 3, e1, e2 => simp [evR] at e1 e2; subst e1 e2; exact hu
  | 4, e1, e2 => simp [evR] at e1 e2; subst e1 e2; exact rep_lit hu
  | 5, e1, e2 => simp [evR] at e1 e2; subst e1 e2; exact hu
  | 6, e1, e2 => simp [evR] at e1 e2; subst e1 e2; exact hu
  | 7, e1, e2 => simp [evR] at e1 e2; subst e1 e2; exact hu
  | j + 8, e1, e2 => simp at e2
theorem r56_2_5 {H : Mem} {x t o p y v r : Int} {u : Value} (h : Rep H (.agg (evR ⟨2, x, t, o, 5, y, v, r⟩)) u) : Rep H (.agg [il 2, sy x, sy t, sy o, il 5, sy y, sy v, sy r]) u := by
  refine rep_agg_to h rfl fun j s s' e1 e2 u hu => ?_
  match j, e1, e2 with
  | 0, e1, e2 => simp [evR] at e1 e2; subst e1 e2; exact rep_lit hu
  | 1, e1, e2 => simp [evR] at e1 e2; subst e1 e2; exact hu
  | 2, e1, e2 => simp [evR] at e1 e2; subst e1 e2; exact hu
  | 3, e1, e2 => simp [evR] at e1 e2; subst e1 e2; exact hu
  | 4, e1, e2 => simp [evR] at e1 e2; subst e1 e2; exact rep_lit hu
  | 5, e1, e2 => simp [evR] at e1 e2; subst e1 e2; exact hu
  | 6, e1, e2 => simp [evR] at e1 e2; subst e1 e2; exact hu
  | 7, e1, e2 => simp [evR] at e1 e2; subst e1 e2; exact hu
  | j + 8, e1, e2 => simp at e2
theorem r56_2_6 {H : Mem} {x t o p y v r : Int} {u : Value} (h : Rep H (.agg (evR ⟨2, x, t, o, 6, y, v, r⟩)) u) : Rep H (.agg [il 2, sy x, sy t, sy o, il 6, sy y, sy v, sy r]) u := by
  refine rep_agg_to h rfl fun j s s' e1 e2 u hu => ?_
  match j, e1, e2 with
  | 0, e1, e2 => simp [evR] at e1 e2; subst e1 e2; exact rep_lit hu
  | 1, e1, e2 => simp [evR] at e1 e2; subst e1 e2; exact hu
  | 2, e1, e2 => simp [evR] at e1 e2; subst e1 e2; exact hu
  | 3, e1, e2 => simp [evR] at e1 e2; subst e1 e2; exact hu
  | 4, e1, e2 => simp [evR] at e1 e2; subst e1 e2; exact rep_lit hu
  | 5, e1, e2 => simp [evR] at e1 e2; subst e1 e2; exact hu
  | 6, e1, e2 => simp [evR] at e1 e2; subst e1 e2; exact hu
  | 7, e1, e2 => simp [evR] at e1 e2; subst e1 e2; exact hu
  | j + 8, e1, e2 => simp at e2
theorem r56_2_7 {H : Mem} {x t o p y v r : Int} {u : Value} (h : Rep H (.agg (evR ⟨2, x, t, o, 7, y, v, r⟩)) u) : Rep H (.agg [il 2, sy x, sy t, sy o, il 7, sy y, sy v, sy r]) u := by
  refine rep_agg_to h rfl fun j s s' e1 e2 u hu => ?_
  match j, e1, e2 with
  | 0, e1, e2 => simp [evR] at e1 e2; subst e1 e2; exact rep_lit hu
  | 1, e1, e2 => simp [evR] at e1 e2; subst e1 e2; exact hu
  | 2, e1, e2 => simp [evR] at e1 e2; subst e1 e2; exact hu
  | 3, e1, e2 => simp [evR] at e1 e2; subst e1 e2; exact hu
  | 4, e1, e2 => simp [evR] at e1 e2; subst e1 e2; exact rep_lit hu
  | 5, e1, e2 => simp [evR] at e1 e2; subst e1 e2; exact hu
  | 6, e1, e2 => simp [evR] at e1 e2; subst e1 e2; exact hu
  | 7, e1, e2 => simp [evR] at e1 e2; subst e1 e2; exact hu
  | j + 8, e1, e2 => simp at e2
theorem r56_2_8 {H : Mem} {x t o p y v r : Int} {u : Value} (h : Rep H (.agg (evR ⟨2, x, t, o, 8, y, v, r⟩)) u) : Rep H (.agg [il 2, sy x, sy t, sy o, il 8, sy y, sy v, sy r]) u := by
  refine rep_agg_to h rfl fun j s s' e1 e2 u hu => ?_
  match j, e1, e2 with
  | 0, e1, e2 => simp [evR] at e1 e2; subst e1 e2; exact rep_lit hu
  | 1, e1, e2 => simp [evR] at e1 e2; subst e1 e2; exact hu
  | 2, e1, e2 => simp [evR] at e1 e2; subst e1 e2; exact hu
  | 3, e1, e2 => simp [evR] at e1 e2; subst e1 e2; exact hu
  | 4, e1, e2 => simp [evR] at e1 e2; subst e1 e2; exact rep_lit hu
  | 5, e1, e2 => simp [evR] at e1 e2; subst e1 e2; exact hu
  | 6, e1, e2 => simp [evR] at e1 e2; subst e1 e2; exact hu
  | 7, e1, e2 => simp [evR] at e1 e2; subst e1 e2; exact hu
  | j + 8, e1, e2 => simp at e2
theorem r56_2_9 {H : Mem} {x t o p y v r : Int} {u : Value} (h : Rep H (.agg (evR ⟨2, x, t, o, 9, y, v, r⟩)) u) : Rep H (.agg [il 2, sy x, sy t, sy o, il 9, sy y, sy v, sy r]) u := by
  refine rep_agg_to h rfl fun j s s' e1 e2 u hu => ?_
  match j, e1, e2 with
  | 0, e1, e2 => simp [evR] at e1 e2; subst e1 e2; exact rep_lit hu
  | 1, e1, e2 => simp [evR] at e1 e2; subst e1 e2; exact hu
  | 2, e1, e2 => simp [evR] at e1 e2; subst e1 e2; exact hu
  | 3, e1, e2 => simp [evR] at e1 e2; subst e1 e2; exact hu
  | 4, e1, e2 => simp [evR] at e1 e2; subst e1 e2; exact rep_lit hu
  | 5, e1, e2 => simp [evR] at e1 e2; subst e1 e2; exact hu
  | 6, e1, e2 => simp [evR] at e1 e2; subst e1 e2; exact hu
  | 7, e1, e2 => simp [evR] at e1 e2; subst e1 e2; exact hu
  | j + 8, e1, e2 => simp at e2
theorem r56_3_1 {H : Mem} {x t o p y v r : Int} {u : Value} (h : Rep H (.agg (evR ⟨3, x, t, o, p, y, v, 1⟩)) u) : Rep H (.agg [il 3, sy x, sy t, sy o, sy p, sy y, sy v, il 1]) u := by
  refine rep_agg_to h rfl fun j s s' e1 e2 u hu => ?_
  match j, e1, e2 with
  | 0, e1, e2 => simp [evR] at e1 e2; subst e1 e2; exact rep_lit hu
  | 1, e1, e2 => simp [evR] at e1 e2; subst e1 e2; exact hu
  | 2, e1, e2 => simp [evR] at e1 e2; subst e1 e2; exact hu
  | 3, e1, e2 => simp [evR] at e1 e2; subst e1 e2; exact hu
  | 4, e1, e2 => simp [evR] at e1 e2; subst e1 e2; exact hu
  | 5, e1, e2 => simp [evR] at e1 e2; subst e1 e2; exact hu
  | 6, e1, e2 => simp [evR] at e1 e2; subst e1 e2; exact hu
  | 7, e1, e2 => simp [evR] at e1 e2; subst e1 e2; exact rep_lit hu
  | j + 8, e1, e2 => simp at e2
theorem r56_3_2 {H : Mem} {x t o p y v r : Int} {u : Value} (h : Rep H (.agg (evR ⟨3, x, t, o, p, y, v, 2⟩)) u) : Rep H (.agg [il 3, sy x, sy t, sy o, sy p, sy y, sy v, il 2]) u := by
  refine rep_agg_to h rfl fun j s s' e1 e2 u hu => ?_
  match j, e1, e2 with
  | 0, e1, e2 => simp [evR] at e1 e2; subst e1 e2; exact rep_lit hu
  | 1, e1, e2 => simp [evR] at e1 e2; subst e1 e2; exact hu
  | 2, e1, e2 => simp [evR] at e1 e2; subst e1 e2; exact hu
  | 3, e1, e2 => simp [evR] at e1 e2; subst e1 e2; exact hu
  | 4, e1, e2 => simp [evR] at e1 e2; subst e1 e2; exact hu
  | 5, e1, e2 => simp [evR] at e1 e2; subst e1 e2; exact hu
  | 6, e1, e2 => simp [evR] at e1 e2; subst e1 e2; exact hu
  | 7, e1, e2 => simp [evR] at e1 e2; subst e1 e2; exact rep_lit hu
  | j + 8, e1, e2 => simp at e2
theorem r56_3_3 {H : Mem} {x t o p y v r : Int} {u : Value} (h : Rep H (.agg (evR ⟨3, x, t, o, p, y, v, 3⟩)) u) : Rep H (.agg [il 3, sy x, sy t, sy o, sy p, sy y, sy v, il 3]) u := by
  refine rep_agg_to h rfl fun j s s' e1 e2 u hu => ?_
  match j, e1, e2 with
  | 0, e1, e2 => simp [evR] at e1 e2; subst e1 e2; exact rep_lit hu
  | 1, e1, e2 => simp [evR] at e1 e2; subst e1 e2; exact hu
  | 2, e1, e2 => simp [evR] at e1 e2; subst e1 e2; exact hu
  | 3, e1, e2 => simp [evR] at e1 e2; subst e1 e2; exact hu
  | 4, e1, e2 => simp [evR] at e1 e2; subst e1 e2; exact hu
  | 5, e1, e2 => simp [evR] at e1 e2; subst e1 e2; exact hu
  | 6, e1, e2 => simp [evR] at e1 e2; subst e1 e2; exact hu
  | 7, e1, e2 => simp [evR] at e1 e2; subst e1 e2; exact rep_lit hu
  | j + 8, e1, e2 => simp at e2
/-- All events whose codes are known. -/
theorem codes {P : Ev → Prop} {e : Ev} (hc : codeP e)
    (h_1 : ∀ x t o p y v r : Int, P ⟨1, x, t, o, p, y, v, r⟩)
    (h_4 : ∀ x t o p y v r : Int, P ⟨4, x, t, o, p, y, v, r⟩)
    (h_5 : ∀ x t o p y v r : Int, P ⟨5, x, t, o, p, y, v, r⟩)
    (h_6 : ∀ x t o p y v r : Int, P ⟨6, x, t, o, p, y, v, r⟩)
    (h_7 : ∀ x t o p y v r : Int, P ⟨7, x, t, o, p, y, v, r⟩)
    (h_2_1 : ∀ x t o p y v r : Int, P ⟨2, x, t, o, 1, y, v, r⟩)
    (h_2_2 : ∀ x t o p y v r : Int, P ⟨2, x, t, o, 2, y, v, r⟩)
    (h_2_3 : ∀ x t o p y v r : Int, P ⟨2, x, t, o, 3, y, v, r⟩)
    (h_2_4 : ∀ x t o p y v r : Int, P ⟨2, x, t, o, 4, y, v, r⟩)
    (h_2_5 : ∀ x t o p y v r : Int, P ⟨2, x, t, o, 5, y, v, r⟩)
    (h_2_6 : ∀ x t o p y v r : Int, P ⟨2, x, t, o, 6, y, v, r⟩)
    (h_2_7 : ∀ x t o p y v r : Int, P ⟨2, x, t, o, 7, y, v, r⟩)
    (h_2_8 : ∀ x t o p y v r : Int, P ⟨2, x, t, o, 8, y, v, r⟩)
    (h_2_9 : ∀ x t o p y v r : Int, P ⟨2, x, t, o, 9, y, v, r⟩)
    (h_3_1 : ∀ x t o p y v r : Int, P ⟨3, x, t, o, p, y, v, 1⟩)
    (h_3_2 : ∀ x t o p y v r : Int, P ⟨3, x, t, o, p, y, v, 2⟩)
    (h_3_3 : ∀ x t o p y v r : Int, P ⟨3, x, t, o, p, y, v, 3⟩)
    : P e := by
  obtain ⟨k, x, t, o, p, y, v, r⟩ := e
  obtain ⟨h1, h2, h3⟩ := hc
  simp only at h1 h2 h3
  have hk : k = 1 ∨ k = 2 ∨ k = 3 ∨ k = 4 ∨ k = 5 ∨ k = 6 ∨ k = 7 := by omega
  rcases hk with rfl | rfl | rfl | rfl | rfl | rfl | rfl
  · exact h_1 x t o p y v r
  · have h2 := h2 rfl
    have hp : p = 1 ∨ p = 2 ∨ p = 3 ∨ p = 4 ∨ p = 5 ∨ p = 6 ∨ p = 7 ∨ p = 8 ∨ p = 9 := by omega
    rcases hp with rfl | rfl | rfl | rfl | rfl | rfl | rfl | rfl | rfl
    · exact h_2_1 x t o 0 y v r
    · exact h_2_2 x t o 0 y v r
    · exact h_2_3 x t o 0 y v r
    · exact h_2_4 x t o 0 y v r
    · exact h_2_5 x t o 0 y v r
    · exact h_2_6 x t o 0 y v r
    · exact h_2_7 x t o 0 y v r
    · exact h_2_8 x t o 0 y v r
    · exact h_2_9 x t o 0 y v r
  · have h3 := h3 rfl
    have hr : r = 1 ∨ r = 2 ∨ r = 3 := by omega
    rcases hr with rfl | rfl | rfl
    · exact h_3_1 x t o p y v 0
    · exact h_3_2 x t o p y v 0
    · exact h_3_3 x t o p y v 0
  · exact h_4 x t o p y v r
  · exact h_5 x t o p y v r
  · exact h_6 x t o p y v r
  · exact h_7 x t o p y v r
theorem run56 {H : Mem} {w : World} {φ : Sh → Prop} {u : Value} {e : Ev} (hc : codeP e) : Rep H (.agg (evR e)) u → (fieldsP e → φ (.v .nilIface)) → (¬ fieldsP e → φ (.er 9 125)) →
    ∃ shs : List Sh, RepL H shs [u] ∧ Meets (FinOK Tryd.prog (C5 prim W5 spec54 unroll) (K0 H w) Tryd.f56 φ) (runF (C5 prim W5 spec54 unroll) 3000 56 [.code []] (start0 75 shs L0)) := by
  refine codes (P := fun e => Rep H (.agg (evR e)) u → (fieldsP e → φ (.v .nilIface)) → (¬ fieldsP e → φ (.er 9 125)) →
    ∃ shs : List Sh, RepL H shs [u] ∧ Meets (FinOK Tryd.prog (C5 prim W5 spec54 unroll) (K0 H w) Tryd.f56 φ) (runF (C5 prim W5 spec54 unroll) 3000 56 [.code []] (start0 75 shs L0))) hc ?_ ?_ ?_ ?_ ?_ ?_ ?_ ?_ ?_ ?_ ?_ ?_ ?_ ?_ ?_ ?_ ?_
  · exact fun x t o p y v r hr hN h9 => ⟨[.agg [il 1, sy x, sy t, sy o, sy p, sy y, sy v, sy r]], ⟨r56_1 (p := p) (r := r) hr, trivial⟩, c56_1 (p := p) (r := r) hN h9⟩
  · exact fun x t o p y v r hr hN h9 => ⟨[.agg [il 4, sy x, sy t, sy o, sy p, sy y, sy v, sy r]], ⟨r56_4 (p := p) (r := r) hr, trivial⟩, c56_4 (p := p) (r := r) hN h9⟩
  · exact fun x t o p y v r hr hN h9 => ⟨[.agg [il 5, sy x, sy t, sy o, sy p, sy y, sy v, sy r]], ⟨r56_5 (p := p) (r := r) hr, trivial⟩, c56_5 (p := p) (r := r) hN h9⟩
  · exact fun x t o p y v r hr hN h9 => ⟨[.agg [il 6, sy x, sy t, sy o, sy p, sy y, sy v, sy r]], ⟨r56_6 (p := p) (r := r) hr, trivial⟩, c56_6 (p := p) (r := r) hN h9⟩
  · exact fun x t o p y v r hr hN h9 => ⟨[.agg [il 7, sy x, sy t, sy o, sy p, sy y, sy v, sy r]], ⟨r56_7 (p := p) (r := r) hr, trivial⟩, c56_7 (p := p) (r := r) hN h9⟩
  · exact fun x t o p y v r hr hN h9 => ⟨[.agg [il 2, sy x, sy t, sy o, il 1, sy y, sy v, sy r]], ⟨r56_2_1 (p := p) (r := r) hr, trivial⟩, c56_2_1 (p := p) (r := r) hN h9⟩
  · exact fun x t o p y v r hr hN h9 => ⟨[.agg [il 2, sy x, sy t, sy o, il 2, sy y, sy v, sy r]], ⟨r56_2_2 (p := p) (r := r) hr, trivial⟩, c56_2_2 (p := p) (r := r) hN h9⟩
  · exact fun x t o p y v r hr hN h9 => ⟨[.agg [il 2, sy x, sy t, sy o, il 3, sy y, sy v, sy r]], ⟨r56_2_3 (p := p) (r := r) hr, trivial⟩, c56_2_3 (p := p) (r := r) hN h9⟩
  · exact fun x t o p y v r hr hN h9 => ⟨[.agg [il 2, sy x, sy t, sy o, il 4, sy y, sy v, sy r]], ⟨r56_2_4 (p := p) (r := r) hr, trivial⟩, c56_2_4 (p := p) (r := r) hN h9⟩
  · exact fun x t o p y v r hr hN h9 => ⟨[.agg [il 2, sy x, sy t, sy o, il 5, sy y, sy v, sy r]], ⟨r56_2_5 (p := p) (r := r) hr, trivial⟩, c56_2_5 (p := p) (r := r) hN h9⟩
  · exact fun x t o p y v r hr hN h9 => ⟨[.agg [il 2, sy x, sy t, sy o, il 6, sy y, sy v, sy r]], ⟨r56_2_6 (p := p) (r := r) hr, trivial⟩, c56_2_6 (p := p) (r := r) hN h9⟩
  · exact fun x t o p y v r hr hN h9 => ⟨[.agg [il 2, sy x, sy t, sy o, il 7, sy y, sy v, sy r]], ⟨r56_2_7 (p := p) (r := r) hr, trivial⟩, c56_2_7 (p := p) (r := r) hN h9⟩
  · exact fun x t o p y v r hr hN h9 => ⟨[.agg [il 2, sy x, sy t, sy o, il 8, sy y, sy v, sy r]], ⟨r56_2_8 (p := p) (r := r) hr, trivial⟩, c56_2_8 (p := p) (r := r) hN h9⟩
  · exact fun x t o p y v r hr hN h9 => ⟨[.agg [il 2, sy x, sy t, sy o, il 9, sy y, sy v, sy r]], ⟨r56_2_9 (p := p) (r := r) hr, trivial⟩, c56_2_9 (p := p) (r := r) hN h9⟩
  · exact fun x t o p y v r hr hN h9 => ⟨[.agg [il 3, sy x, sy t, sy o, sy p, sy y, sy v, il 1]], ⟨r56_3_1 (p := p) (r := r) hr, trivial⟩, c56_3_1 (p := p) (r := r) hN h9⟩
  · exact fun x t o p y v r hr hN h9 => ⟨[.agg [il 3, sy x, sy t, sy o, sy p, sy y, sy v, il 2]], ⟨r56_3_2 (p := p) (r := r) hr, trivial⟩, c56_3_2 (p := p) (r := r) hN h9⟩
  · exact fun x t o p y v r hr hN h9 => ⟨[.agg [il 3, sy x, sy t, sy o, sy p, sy y, sy v, il 3]], ⟨r56_3_3 (p := p) (r := r) hr, trivial⟩, c56_3_3 (p := p) (r := r) hN h9⟩
theorem O56a : FnOK Tryd.prog (gls5 W5) 56 F56a := by
  refine fnOK_run (C := C5 prim W5 spec54 unroll) (C5.ok _ _) (fok54 _) (n := 3000) (L := L0) (fn := Tryd.f56) (by kernel_rfl) (by kernel_rfl) fun H w shs args φ hrep h => ?_
  have hn : Tryd.f56.ntmps = 75 := by kernel_rfl
  unfold F56a at h
  split at h
  · rename_i l
    split at h
    · rename_i e he
      obtain ⟨h1, h2, h3⟩ := h
      match args, hrep with
      | [u], ⟨hu, _⟩ =>
        rw [hn]
        simp only [meets_eq]
        exact run56 (of_decide_eq_true h1) (evOf_ok he hu) (fun q => h2 (decide_eq_true q)) (fun q => h3 (decide_eq_false q))
    · exact h.elim
  · exact h.elim
end Go.Proofs
namespace Go.Pl
open Go Go.Sx
theorem opOf_0 {p : Int} (h : ¬(1 ≤ p ∧ p ≤ 9)) : opOf p = 0 := by
  have e : ∀ i : Int, 1 ≤ i → i ≤ 9 → (p == i) = false := fun i h1 h2 => by
    cases hb : p == i with
    | false => rfl
    | true => have := eq_of_beq hb; omega
  unfold opOf
  rw [e 1 (by omega) (by omega), e 2 (by omega) (by omega), e 3 (by omega) (by omega), e 4 (by omega) (by omega), e 5 (by omega) (by omega), e 6 (by omega) (by omega), e 7 (by omega) (by omega), e 8 (by omega) (by omega), e 9 (by omega) (by omega)]
  rfl
theorem inW_out {m : Nat} {c : Int} (h : in64 c = true) (hm : ¬(1 ≤ c ∧ c ≤ (m : Int))) : inW m c = false := by
  have h := of_decide_eq_true h
  unfold inW idx
  apply decide_eq_false
  intro ⟨h1, h2⟩
  split at h1
  · rw [wrap_id (by omega) (by omega)] at h1; omega
  · rename_i hc
    simp only [hc, if_false] at h2
    rw [wrap_id (by omega) (by omega)] at h1 h2; omega
end Go.Pl
namespace Go.Proofs
open Go Go.Sx Go.Pl
/-- As 'Meets', of a tree without its stops. -/
theorem meets_dead {ψ : Fin → Prop} {t : Tree Fin} (h : (dead t).All ψ) : Meets ψ t := by
  rw [← meets_eq]; exact dead_ok h
theorem d56_0 {H : Mem} {w : World} {φ : Sh → Prop} {k x t o p y v r : Int} (hk : ¬(1 ≤ k ∧ k ≤ 7)) (h8 : φ (.er 8 125)) :
    Meets (FinOK Tryd.prog (C5 prim W5 spec54 stop56) (K0 H w) Tryd.f56 φ) (runF (C5 prim W5 spec54 stop56) 3000 56 [.code []] (start0 75 [.agg [sy k, sy x, sy t, sy o, sy p, sy y, sy v, sy r]] L0)) := by
  apply meets_dead
  rw [a56_0 prim W5 k x t o p y v r]
  have n1 : k ≠ 1 := by omega
  have n2 : k ≠ 2 := by omega
  have n3 : k ≠ 3 := by omega
  have n4 : k ≠ 4 := by omega
  have n5 : k ≠ 5 := by omega
  have n6 : k ≠ 6 := by omega
  have n7 : k ≠ 7 := by omega
  simp [Tree.All, FinOK, Eqn.all, Eqn.ok, prim_eq, n1, n2, n3, n4, n5, n6, n7, h8]
theorem d56_2 {H : Mem} {w : World} {φ : Sh → Prop} {x t o p y v r : Int} (hp : ¬(1 ≤ p ∧ p ≤ 9)) (h8 : φ (.er 8 125)) :
    Meets (FinOK Tryd.prog (C5 prim W5 spec54 stop56) (K0 H w) Tryd.f56 φ) (runF (C5 prim W5 spec54 stop56) 3000 56 [.code []] (start0 75 [.agg [il 2, sy x, sy t, sy o, sy p, sy y, sy v, sy r]] L0)) := by
  apply meets_dead
  rw [a56_20 prim W5 0 x t o p y v r]
  simp [Tree.All, FinOK, Eqn.all, Eqn.ok, prim_eq, opOf_0 hp, h8]
theorem d56_3 {H : Mem} {w : World} {φ : Sh → Prop} {x t o p y v r : Int} (hi : in64 r = true) (hr : ¬(1 ≤ r ∧ r ≤ 3)) (h8 : φ (.er 8 125)) :
    Meets (FinOK Tryd.prog (C5 prim W5 spec54 stop56) (K0 H w) Tryd.f56 φ) (runF (C5 prim W5 spec54 stop56) 3000 56 [.code []] (start0 75 [.agg [il 3, sy x, sy t, sy o, sy p, sy y, sy v, sy r]] L0)) := by
  apply meets_dead
  rw [a56_30 prim W5 0 x t o p y v r, seq_word ne14, inW_out hi (by simpa using hr)]
  simp [Tree.All, FinOK, Eqn.all, Eqn.ok, prim_eq, h8]
theorem run56b {H : Mem} {w : World} {φ : Sh → Prop} {u : Value} {e : Ev} (hi : in64 e.ret = true) (hc : ¬ codeP e) (hr : Rep H (.agg (evR e)) u) (h8 : φ (.er 8 125)) :
    ∃ shs : List Sh, RepL H shs [u] ∧ Meets (FinOK Tryd.prog (C5 prim W5 spec54 stop56) (K0 H w) Tryd.f56 φ) (runF (C5 prim W5 spec54 stop56) 3000 56 [.code []] (start0 75 shs L0)) := by
  obtain ⟨k, x, t, o, p, y, v, r⟩ := e
  by_cases h1 : 1 ≤ k ∧ k ≤ 7
  · by_cases h2 : k = 2
    · subst h2
      have : ¬(1 ≤ p ∧ p ≤ 9) := fun h => hc ⟨h1, fun _ => h, fun q => by simp at q⟩
      refine ⟨[.agg [il 2, sy x, sy t, sy o, sy p, sy y, sy v, sy r]], ⟨rep_agg_to hr rfl fun j s s' e1 e2 u hu => ?_, trivial⟩, d56_2 this h8⟩
      match j, e1, e2 with
      | 0, e1, e2 => simp [evR] at e1 e2; subst e1 e2; exact rep_lit hu
      | j + 1, e1, e2 =>
        have : s = s' := by
          have : (evR ⟨2, x, t, o, p, y, v, r⟩)[j + 1]? = [il 2, sy x, sy t, sy o, sy p, sy y, sy v, sy r][j + 1]? := by simp [evR, sy]
          rw [this, e2] at e1; cases e1; rfl
        rw [← this]; exact hu
    · have h3 : k = 3 := by
        apply Classical.byContradiction
        intro h3
        exact hc ⟨h1, fun q => absurd q h2, fun q => absurd q h3⟩
      subst h3
      have : ¬(1 ≤ r ∧ r ≤ 3) := fun h => hc ⟨h1, fun q => by simp at q, fun _ => h⟩
      refine ⟨[.agg [il 3, sy x, sy t, sy o, sy p, sy y, sy v, sy r]], ⟨rep_agg_to hr rfl fun j s s' e1 e2 u hu => ?_, trivial⟩, d56_3 hi this h8⟩
      match j, e1, e2 with
      | 0, e1, e2 => simp [evR] at e1 e2; subst e1 e2; exact rep_lit hu
      | j + 1, e1, e2 =>
        have : s = s' := by
          have : (evR ⟨3, x, t, o, p, y, v, r⟩)[j + 1]? = [il 3, sy x, sy t, sy o, sy p, sy y, sy v, sy r][j + 1]? := by simp [evR, sy]
          rw [this, e2] at e1; cases e1; rfl
        rw [← this]; exact hu
  · exact ⟨[.agg [sy k, sy x, sy t, sy o, sy p, sy y, sy v, sy r]], ⟨hr, trivial⟩, d56_0 h1 h8⟩
theorem O56b : FnOK Tryd.prog (gls5 W5) 56 F56b := by
  refine fnOK_run (C := C5 prim W5 spec54 stop56) (C5.ok _ _) (fok54 _) (n := 3000) (L := L0) (fn := Tryd.f56) (by kernel_rfl) (by kernel_rfl) fun H w shs args φ hrep h => ?_
  have hn : Tryd.f56.ntmps = 75 := by kernel_rfl
  unfold F56b at h
  split at h
  · rename_i l
    split at h
    · rename_i e he
      obtain ⟨h1, h2, h3⟩ := h
      match args, hrep with
      | [u], ⟨hu, _⟩ =>
        rw [hn]
        simp only [meets_eq]
        have hc : ¬ codeP e := fun q => by
          have : codeB e = true := decide_eq_true q
          rw [this] at h2; cases h2
        exact run56b h1 hc (evOf_ok he hu) h3
    · exact h.elim
  · exact h.elim
theorem O56 : FnOK Tryd.prog (gls5 W5) 56 F56 := by
  intro H w shs args φ hon hg hr hφ
  unfold F56 at hφ
  split at hφ
  · rename_i l
    split at hφ
    · rename_i e he
      obtain ⟨h1, h2, h3⟩ := hφ
      cases hc : codeB e with
      | true =>
        refine O56a H w _ args φ hon hg hr ?_
        simp only [F56a, he]
        exact ⟨hc, h2 hc⟩
      | false =>
        refine O56b H w _ args φ hon hg hr ?_
        simp only [F56b, he]
        exact ⟨h1, by rw [hc]; rfl, h3 hc⟩
    · exact hφ.elim
  · exact hφ.elim
end Go.Proofs
namespace Go.Proofs
open Go Go.Sx Go.Pl
def F55 : List Sh → Tree Sh
  | [s, .er e 125] => match icode s with
    | some x => .leaf (.ifc 81 (.pt [.i .i64 x, .er e 125]))
    | none => .fail
  | _ => .fail
theorem O55 : FnOK Tryd.prog (gls5 W5) 55 F55 := by
  refine fnOK_run (C := C5 prim W5 spec54 stopAll) (C5.ok _ _) (fok54 _) (n := 300) (L := L0) (fn := Tryd.f55) (by kernel_rfl) (by kernel_rfl) fun H w shs args φ hrep h => ?_
  have hn : Tryd.f55.ntmps = 10 := by kernel_rfl
  unfold F55 at h
  split at h
  · rename_i s e
    split at h
    · rename_i x hx
      match args, hrep with
      | [u, v], ⟨hu, hv, _⟩ =>
        refine ⟨[.i .i64 x, .er e 125], ⟨icode_ok hx hu, hv, trivial⟩, ?_⟩
        rw [hn, a55 prim W5 x e]
        exact h
    · exact h.elim
  · exact h.elim
def spec51 : Nat → Option (List Sh → Tree Sh)
  | 54 => some F54
  | 55 => some F55
  | 56 => some F56
  | 57 => some F57
  | _ => none
theorem O51s : ∀ g F, spec51 g = some F → FnOK Tryd.prog (gls5 W5) g F := fun g F h => by
  unfold spec51 at h
  split at h
  · cases h; exact O54
  · cases h; exact O55
  · cases h; exact O56
  · cases h; exact O57
  · cases h
theorem fok51 (stop : Nat → List Nat → Bool) : FnsOK Tryd.prog (C5 prim W5 spec51 stop) := C5.fok O51s fun g h => by
  unfold spec51 at h
  split at h
  all_goals first | (cases h; done) | kernel_rfl
end Go.Proofs
namespace Go.Proofs
open Go Go.Sx Go.Pl
def td51 : List It := [It.code [0, 1, 0, 1, 1, 1], It.inBlock 2, It.code [1, 1, 1, 1]]
def tb51 : List It := [It.code [0, 0, 1, 0, 1, 1, 1], It.code [0, 1, 0, 1, 1, 1], It.inBlock 2, It.code [1, 1, 1, 1]]
def LO51 (n m : Nat) (o : Nat → Oj) (p : Nat → Ev) (c i : Int) : Core :=
  { tm := [.any, .ptr 0 0, .nili] ++ rep [.any] 18 ++ [.sh (.sl 2 n (fnR o)), .sym .i64 c, .sym .i64 i] ++ rep [.any] 54,
    hp := [(0, .box [.sh (.sl 2 n (fnR o)), .sh (.sl 8 m (fnR p))] 25)], nx := 1, lim := L0, tc := [] }
def LO51b (n m : Nat) (o : Nat → Oj) (p : Nat → Ev) (c i : Int) : Core :=
  { tm := [.any, .ptr 0 0, .nili] ++ rep [.any] 34 ++ [.sh (.sl 8 m (fnR p)), .sym .i64 c, .sym .i64 i] ++ rep [.any] 38,
    hp := [(0, .box [.sh (.sl 2 n (fnR o)), .sh (.sl 8 m (fnR p))] 25)], nx := 1, lim := L0, tc := [] }

theorem a51 (A : Prim) (W : Wd) (n m : Nat) (o : Nat → Oj) (p : Nat → Ev) (c' i' : Int) : runTo (C5 A W spec51 stopAll) noHold 300 200 51 [.code []] (start0 78 [.agg [.sl 2 n (fnR o), .sl 8 m (fnR p)]] L0) [] [⟨51, td10, LO51 n m o p c' i', []⟩] = Tree.node (A.lt (Int.ofNat 8) (A.ofN n)) (Tree.leaf (Fe2.ret (Sh.er 2 125))) (Tree.node (A.lt (Int.ofNat 400) (A.ofN m)) (Tree.leaf (Fe2.ret (Sh.er 2 125))) (Tree.leaf (Fe2.at_ 0 [Eqn.sh (Sh.sl 2 n (fnR o)) (Sh.sl 2 n (fnR o)), Eqn.int (A.ofN n) c', Eqn.int (Int.ofNat 0) i', Eqn.sh (Sh.sl 2 n (fnR o)) (Sh.sl 2 n (fnR o)), Eqn.sh (Sh.sl 8 m (fnR p)) (Sh.sl 8 m (fnR p))]))) := by kernel_rfl
theorem b51 (A : Prim) (W : Wd) (n m : Nat) (o : Nat → Oj) (p : Nat → Ev) (c i i' d' j' : Int) : runTo (C5 A W spec51 stopAll) noHold 300 200 51 tb10 (LO51 n m o p c i) [] [⟨51, td10, LO51 n m o p c i', []⟩, ⟨51, td51, LO51b n m o p d' j', []⟩] = Tree.node (A.lt i c) (Tree.need (A.inB i n) (Tree.node (obOk (o (A.toN i)).kind (o (A.toN i)).init) (Tree.leaf (Fe2.at_ 0 [Eqn.sh (Sh.sl 2 n (fnR o)) (Sh.sl 2 n (fnR o)), Eqn.int c c, Eqn.int (A.add IntKind.i64 i (Int.ofNat 1)) i', Eqn.sh (Sh.sl 2 n (fnR o)) (Sh.sl 2 n (fnR o)), Eqn.sh (Sh.sl 8 m (fnR p)) (Sh.sl 8 m (fnR p))])) (Tree.leaf (Fe2.ret (Sh.ifc 81 (Sh.pt [Sh.i IntKind.i64 i, Sh.er 3 125])))))) (Tree.leaf (Fe2.at_ 1 [Eqn.sh (Sh.sl 8 m (fnR p)) (Sh.sl 8 m (fnR p)), Eqn.int (A.ofN m) d', Eqn.int (Int.ofNat 0) j', Eqn.sh (Sh.sl 2 n (fnR o)) (Sh.sl 2 n (fnR o)), Eqn.sh (Sh.sl 8 m (fnR p)) (Sh.sl 8 m (fnR p))])) := by kernel_rfl
theorem c51 (A : Prim) (W : Wd) (n m : Nat) (o : Nat → Oj) (p : Nat → Ev) (c i i' : Int) : runTo (C5 A W spec51 stopAll) noHold 300 200 51 tb51 (LO51b n m o p c i) [] [⟨51, td51, LO51b n m o p c i', []⟩] = Tree.node (A.lt i c) (Tree.need (A.inB i m) (Tree.need (in64 ({ kind := (p (A.toN i)).kind, tx := (p (A.toN i)).tx, thread := (p (A.toN i)).thread, obj := (p (A.toN i)).obj, op := (p (A.toN i)).op, key := (p (A.toN i)).key, val := (p (A.toN i)).val, ret := (p (A.toN i)).ret } : Ev).ret) (Tree.node (codeB { kind := (p (A.toN i)).kind, tx := (p (A.toN i)).tx, thread := (p (A.toN i)).thread, obj := (p (A.toN i)).obj, op := (p (A.toN i)).op, key := (p (A.toN i)).key, val := (p (A.toN i)).val, ret := (p (A.toN i)).ret }) (Tree.node (Pl.fieldsB { kind := (p (A.toN i)).kind, tx := (p (A.toN i)).tx, thread := (p (A.toN i)).thread, obj := (p (A.toN i)).obj, op := (p (A.toN i)).op, key := (p (A.toN i)).key, val := (p (A.toN i)).val, ret := (p (A.toN i)).ret }) (Tree.node (A.nt (A.eq (p (A.toN i)).kind (Int.ofNat 2))) (Tree.leaf (Fe2.at_ 0 [Eqn.sh (Sh.sl 8 m (fnR p)) (Sh.sl 8 m (fnR p)), Eqn.int c c, Eqn.int (A.add IntKind.i64 i (Int.ofNat 1)) i', Eqn.sh (Sh.sl 2 n (fnR o)) (Sh.sl 2 n (fnR o)), Eqn.sh (Sh.sl 8 m (fnR p)) (Sh.sl 8 m (fnR p))])) (Tree.node (A.le (A.ofN n) (p (A.toN i)).obj) (Tree.leaf (Fe2.ret (Sh.ifc 81 (Sh.pt [Sh.i IntKind.i64 i, Sh.er 3 125])))) (Tree.need (A.inB (p (A.toN i)).obj n) (Tree.node (A.nt (A.eq (opOf (p (A.toN i)).op) (o (A.toN (p (A.toN i)).obj)).kind)) (Tree.leaf (Fe2.ret (Sh.ifc 81 (Sh.pt [Sh.i IntKind.i64 i, Sh.er 4 125])))) (Tree.leaf (Fe2.at_ 0 [Eqn.sh (Sh.sl 8 m (fnR p)) (Sh.sl 8 m (fnR p)), Eqn.int c c, Eqn.int (A.add IntKind.i64 i (Int.ofNat 1)) i', Eqn.sh (Sh.sl 2 n (fnR o)) (Sh.sl 2 n (fnR o)), Eqn.sh (Sh.sl 8 m (fnR p)) (Sh.sl 8 m (fnR p))])))))) (Tree.leaf (Fe2.ret (Sh.ifc 81 (Sh.pt [Sh.i IntKind.i64 i, Sh.er 9 125]))))) (Tree.leaf (Fe2.ret (Sh.ifc 81 (Sh.pt [Sh.i IntKind.i64 i, Sh.er 8 125]))))))) (Tree.leaf (Fe2.ret (Sh.v Value.nilIface))) := by kernel_rfl
end Go.Proofs
namespace Go.Pl
open Go Go.Sx
/-- What is wrong with an event, if anything. -/
def evErr (n : Nat) (o : Nat → Oj) (e : Ev) : Option Nat :=
  bif codeB e then bif fieldsB e then bif e.kind == 2 then bif decide ((n : Int) ≤ e.obj) then some 3 else bif opOf e.op == (o e.obj.toNat).kind then none else some 4 else none else some 9 else some 8
def obErr (o : Oj) : Option Nat := bif obOk o.kind o.init then none else some 3
/-- The first that is bad. -/
def scanE (f : Nat → Option Nat) : Nat → Nat → Option (Nat × Nat)
  | _, 0 => none
  | k, m + 1 => match f k with
    | some e => some (k, e)
    | none => scanE f (k + 1) m
def resE : Option (Nat × Nat) → Sh
  | none => .v .nilIface
  | some (k, e) => .ifc 81 (.pt [.i .i64 (k : Int), .er e 125])
theorem fields_obj {e : Ev} (h : fieldsB e = true) (hk : e.kind = 2) : 0 ≤ e.obj := by
  have h := of_decide_eq_true h
  unfold fieldsP at h
  omega
end Go.Pl
namespace Go.Proofs
open Go Go.Sx Go.Pl
theorem loop51b {H0 : Mem} {w0 : World} {n m : Nat} {o : Nat → Oj} {p : Nat → Ev} {φ : Sh → Prop} (hm : m ≤ 400) (hi : ∀ k, k < m → in64 (p k).ret = true) :
    ∀ rm k, k + rm = m → φ (resE (scanE (fun k => evErr n o (p k)) k rm)) → GoesS Tryd.prog (C5 prim W5 spec51 stopAll) (K0 H0 w0) 51 td51 (LO51b n m o p (m : Int) k) [] emp φ
  | rm, k, hk, hφ => by
    refine goesS_into (fn := Tryd.f51) (tb := tb51) (by kernel_rfl) (by kernel_rfl) ?_
    refine goesS_runTo (C5.ok _ _) (fok51 _) (hold := noHold) (m := 300) (n := 200) (ts := [⟨51, td51, LO51b n m o p (m : Int) (k + 1 : Nat), []⟩]) ?_
    rw [c51 prim W5 n m o p (m : Int) k (k + 1 : Nat)]
    simp only [prim_lt, prim_le, prim_ofN, prim_inB, prim_toN, prim_eq, prim_nt, prim_add, one_eq, Tree.All, Fe2OK, Int.toNat_natCast]
    have hstep : IntKind.i64.wrap ((k : Int) + 1) = ((k + 1 : Nat) : Int) ∨ m < k := by
      by_cases h : m < k
      · exact .inr h
      · left; rw [wrap_id (by omega) (by omega)]; rfl
    refine ⟨fun h => ?_, fun h => ?_⟩
    · have hlt : k < m := by simp at h; omega
      have hw := hstep.resolve_right (by omega)
      match rm, hk, hφ with
      | 0, hk, _ => omega
      | rm + 1, hk, hφ =>
        have next : evErr n o (p k) = none → GoesS Tryd.prog (C5 prim W5 spec51 stopAll) (K0 H0 w0) 51 td51 (LO51b n m o p (m : Int) (k + 1 : Nat)) [] emp φ := fun hn => loop51b hm hi rm (k + 1) (by omega) (by simpa only [scanE, hn] using hφ)
        have bad : ∀ e, evErr n o (p k) = some e → φ (.ifc 81 (.pt [.i .i64 (k : Int), .er e 125])) := fun e he => by
          simpa only [scanE, he, resE] using hφ
        refine ⟨by simp; omega, hi k hlt, fun q1 => ⟨fun q2 => ⟨fun q3 => ?_, fun q3 => ⟨fun q4 => ?_, fun q4 => ⟨?_, fun q5 => ?_, fun q5 => ?_⟩⟩⟩, fun q2 => ?_⟩, fun q1 => ?_⟩
        · refine ⟨⟨rfl, rfl, hw, rfl, rfl, trivial⟩, _, rfl, next ?_⟩
          have k2 : ((p k).kind == 2) = false := by simpa using q3
          unfold evErr; rw [q1, q2, k2]; rfl
        · have k2 : ((p k).kind == 2) = true := by simpa using q3
          apply bad; unfold evErr; rw [q1, q2, k2, q4]; rfl
        · have := fields_obj q2 (by simpa using q3)
          simp at q4; simp; omega
        · have k2 : ((p k).kind == 2) = true := by simpa using q3
          have k3 : (opOf (p k).op == (o (p k).obj.toNat).kind) = false := by simpa using q5
          apply bad; unfold evErr; rw [q1, q2, k2, q4, k3]; rfl
        · have k2 : ((p k).kind == 2) = true := by simpa using q3
          have k3 : (opOf (p k).op == (o (p k).obj.toNat).kind) = true := by simpa using q5
          refine ⟨⟨rfl, rfl, hw, rfl, rfl, trivial⟩, _, rfl, next ?_⟩
          unfold evErr; rw [q1, q2, k2, q4, k3]; rfl
        · apply bad; unfold evErr; rw [q1, q2]; rfl
        · apply bad; unfold evErr; rw [q1]; rfl
    · have : k = m := by simp at h; omega
      have : rm = 0 := by omega
      subst this
      exact hφ
end Go.Proofs
namespace Go.Pl
open Go Go.Sx
/-- The first object that is bad, else the first event. -/
def badE (n m : Nat) (o : Nat → Oj) (p : Nat → Ev) : Option (Nat × Nat) :=
  match scanE (fun k => obErr (o k)) 0 n with
  | some x => some x
  | none => scanE (fun k => evErr n o (p k)) 0 m
def badN (n m : Nat) (o : Nat → Oj) (p : Nat → Ev) (k : Nat) : Nat → Option (Nat × Nat) := fun r =>
  match scanE (fun k => obErr (o k)) k r with
  | some x => some x
  | none => scanE (fun k => evErr n o (p k)) 0 m
end Go.Pl
namespace Go.Proofs
open Go Go.Sx Go.Pl
theorem loop51 {H0 : Mem} {w0 : World} {n m : Nat} {o : Nat → Oj} {p : Nat → Ev} {φ : Sh → Prop} (hn : n ≤ 8) (hm : m ≤ 400) (hi : ∀ k, k < m → in64 (p k).ret = true) :
    ∀ rm k, k + rm = n → φ (resE (badN n m o p k rm)) → GoesS Tryd.prog (C5 prim W5 spec51 stopAll) (K0 H0 w0) 51 td10 (LO51 n m o p (n : Int) k) [] emp φ
  | rm, k, hk, hφ => by
    refine goesS_into (fn := Tryd.f51) (tb := tb10) (by kernel_rfl) (by kernel_rfl) ?_
    refine goesS_runTo (C5.ok _ _) (fok51 _) (hold := noHold) (m := 300) (n := 200) (ts := [⟨51, td10, LO51 n m o p (n : Int) (k + 1 : Nat), []⟩, ⟨51, td51, LO51b n m o p (m : Int) (0 : Nat), []⟩]) ?_
    rw [b51 prim W5 n m o p (n : Int) k (k + 1 : Nat) (m : Int) (0 : Nat)]
    simp only [prim_lt, prim_ofN, prim_inB, prim_toN, prim_add, one_eq, Tree.All, Fe2OK, Int.toNat_natCast]
    refine ⟨fun h => ?_, fun h => ?_⟩
    · have hlt : k < n := by simp at h; omega
      have hw : IntKind.i64.wrap ((k : Int) + 1) = ((k + 1 : Nat) : Int) := by rw [wrap_id (by omega) (by omega)]; rfl
      match rm, hk, hφ with
      | 0, hk, _ => omega
      | rm + 1, hk, hφ =>
        refine ⟨by simp; omega, fun q => ?_, fun q => ?_⟩
        · have e : obErr (o k) = none := by unfold obErr; rw [q]; rfl
          exact ⟨⟨rfl, rfl, hw, rfl, rfl, trivial⟩, _, rfl, loop51 hn hm hi rm (k + 1) (by omega) (by simpa only [badN, scanE, e] using hφ)⟩
        · have e : obErr (o k) = some 3 := by unfold obErr; rw [q]; rfl
          simpa only [badN, scanE, e, resE] using hφ
    · have : k = n := by simp at h; omega
      have : rm = 0 := by omega
      subst this
      exact ⟨⟨rfl, rfl, rfl, rfl, rfl, trivial⟩, _, rfl, loop51b hm hi m 0 (by omega) hφ⟩
end Go.Proofs
namespace Go.Pl
open Go Go.Sx
def retsB (m : Nat) (h : Nat → List Sh) : Bool := (List.range m).all fun k => in64 (rwAt (α := Ev) h k).ret
def badPos (n m : Nat) (g h : Nat → List Sh) : Int := match badE n m (rwAt g) (rwAt h) with | some (k, _) => (k : Int) | none => 0
def badNo (n m : Nat) (g h : Nat → List Sh) : Nat := match badE n m (rwAt g) (rwAt h) with | some (_, e) => e | none => 0
def goodB (n m : Nat) (g h : Nat → List Sh) : Bool := (badE n m (rwAt g) (rwAt h)).isNone
def bigB (n m : Nat) : Bool := decide (8 < n ∨ 400 < m)
end Go.Pl
namespace Go.Proofs
open Go Go.Sx Go.Pl
def F51 : List Sh → Tree Sh
  | [.agg [.sl 2 n g, .sl 8 m h]] => .need (okB Oj n g) (.need (okB Ev m h) (.need (retsB m h) (.node (bigB n m) (.leaf (.er 2 125)) (.node (goodB n m g h) (.leaf (.v .nilIface)) (.leaf (.ifc 81 (.pt [.i .i64 (badPos n m g h), .er (badNo n m g h) 125])))))))
  | _ => .fail
theorem O51 : FnOK Tryd.prog (gls5 W5) 51 F51 := by
  refine fnOK_S (C := C5 prim W5 spec51 stopAll) (C5.ok _ _) (fn := Tryd.f51) (by kernel_rfl) (by kernel_rfl) fun H w shs args φ hrep h => ?_
  have hn : Tryd.f51.ntmps = 78 := by kernel_rfl
  unfold F51 at h
  split at h
  · rename_i n g m h'
    obtain ⟨h1, h2, h3, h4, h5⟩ := h
    match args, hrep with
    | [v], ⟨hv, _⟩ =>
      rw [hn]
      refine ⟨[.agg [.sl 2 n (fnR (rwAt (α := Oj) g)), .sl 8 m (fnR (rwAt (α := Ev) h'))]], ⟨rep_agg_rows2 hv h1 h2, trivial⟩, L0, ?_⟩
      refine goesS_runTo (C5.ok _ _) (fok51 _) (hold := noHold) (m := 300) (n := 200) (ts := [⟨51, td10, LO51 n m (rwAt g) (rwAt h') (n : Int) (0 : Nat), []⟩]) ?_
      rw [a51 prim W5 n m (rwAt g) (rwAt h') (n : Int) (0 : Nat)]
      refine ⟨fun q => h4 ?_, fun q => ⟨fun q' => h4 ?_, fun q' => ⟨⟨rfl, rfl, rfl, rfl, rfl, trivial⟩, _, rfl, ?_⟩⟩⟩
      · simp [prim_lt, prim_ofN] at q; simp [bigB]; omega
      · simp [prim_lt, prim_ofN] at q'; simp [bigB]; omega
      · simp [prim_lt, prim_ofN] at q q'
        have h5 := h5 (by simp [bigB]; omega)
        refine loop51 (by omega) (by omega) (fun k hk => ?_) n 0 (by omega) ?_
        · exact List.all_eq_true.1 h3 k (List.mem_range.2 hk)
        · show φ (resE (badE n m (rwAt g) (rwAt h')))
          obtain ⟨hT, hF⟩ := h5
          unfold goodB at hT hF
          unfold badPos badNo at hF
          cases hb : badE n m (rwAt (α := Oj) g) (rwAt (α := Ev) h') with
          | none => rw [hb] at hT; exact hT rfl
          | some x => rw [hb] at hF; exact hF rfl
  · exact h.elim
end Go.Proofs
namespace Go.Proofs
open Go Go.Sx Go.Pl
theorem rep_sl_zero {H : Mem} {st st' : Nat} {g g' : Nat → List Sh} {v : Value} (h : Rep H (.sl st 0 g) v) : Rep H (.sl st' 0 g') v := by
  cases h with
  | sl0 _ _ A cap hc => exact .sl0 _ _ _ _ hc
  | sl _ _ _ b off cap c h1 h2 => exact .sl0 _ _ _ _ h2
theorem rep_slN {H : Mem} {st n : Nat} {s : Sh} {g : Nat → List Sh} {v : Value} (hs : slN st s = some (n, g)) (h : Rep H s v) : Rep H (.sl st n g) v := by
  rcases slN_ok hs with rfl | ⟨g', rfl, rfl, rfl⟩
  · exact h
  · exact rep_sl_zero h
theorem rep_agg2n {H : Mem} {s0 s1 s0' s1' : Sh} {v : Value} (hv : Rep H (.agg [s0, s1]) v) (h0 : ∀ u, Rep H s0 u → Rep H s0' u) (h1 : ∀ u, Rep H s1 u → Rep H s1' u) : Rep H (.agg [s0', s1']) v := by
  cases hv with
  | agg _ vs h2 h3 =>
    refine .agg _ vs h2 fun j s v' e1 e2 => ?_
    match j, e1 with
    | 0, e1 => simp at e1; subst e1; exact h0 _ (h3 0 _ v' rfl e2)
    | 1, e1 => simp at e1; subst e1; exact h1 _ (h3 1 _ v' rfl e2)
    | j + 2, e1 => simp at e1
def F51n : List Sh → Tree Sh
  | [.agg [s0, s1]] => match slN 2 s0, slN 8 s1 with
    | some (n, g), some (m, h) => F51 [.agg [.sl 2 n g, .sl 8 m h]]
    | _, _ => .fail
  | _ => .fail
theorem O51n : FnOK Tryd.prog (gls5 W5) 51 F51n := fun H w shs args φ h1 h2 h3 h4 => by
  unfold F51n at h4
  split at h4
  · rename_i s0 s1
    split at h4
    · rename_i n g m h e1 e2
      match args, h3 with
      | [v], ⟨hv, _⟩ => exact O51 H w [.agg [.sl 2 n g, .sl 8 m h]] [v] φ h1 h2 ⟨rep_agg2n hv (fun u => rep_slN e1) (fun u => rep_slN e2), trivial⟩ h4
    · exact h4.elim
  · exact h4.elim
end Go.Proofs
namespace Go.Proofs
open Go Go.Sx Go.Pl

theorem a67 (A : Prim) (W : Wd) (x y : Int) : runF (C5 A W noSpec unroll) 300 67 [.code []] (start0 36 [.i .i64 x, .i .i64 y] L0) = Tree.node (A.eq x (Int.ofNat 2)) (Tree.leaf (Fin.ret (Sh.b (A.eq y (Int.ofNat 1))))) (Tree.node (A.eq x (Int.ofNat 3)) (Tree.leaf (Fin.ret (Sh.b (A.eq y (Int.ofNat 1))))) (Tree.node (A.eq x (Int.ofNat 5)) (Tree.leaf (Fin.ret (Sh.b (A.eq y (Int.ofNat 1))))) (Tree.node (A.eq x (Int.ofNat 7)) (Tree.leaf (Fin.ret (Sh.b (A.eq y (Int.ofNat 1))))) (Tree.node (A.eq x (Int.ofNat 1)) (Tree.leaf (Fin.ret (Sh.b (A.eq y (Int.ofNat 3))))) (Tree.node (A.eq x (Int.ofNat 4)) (Tree.leaf (Fin.ret (Sh.b (A.eq y (Int.ofNat 3))))) (Tree.node (A.eq x (Int.ofNat 6)) (Tree.node (A.eq y (Int.ofNat 2)) (Tree.leaf (Fin.ret (Sh.b true))) (Tree.leaf (Fin.ret (Sh.b (A.eq y (Int.ofNat 3)))))) (Tree.node (A.eq x (Int.ofNat 8)) (Tree.node (A.eq y (Int.ofNat 2)) (Tree.leaf (Fin.ret (Sh.b true))) (Tree.leaf (Fin.ret (Sh.b (A.eq y (Int.ofNat 3)))))) (Tree.node (A.eq x (Int.ofNat 9)) (Tree.node (A.eq y (Int.ofNat 2)) (Tree.leaf (Fin.ret (Sh.b true))) (Tree.leaf (Fin.ret (Sh.b (A.eq y (Int.ofNat 3)))))) (Tree.leaf (Fin.ret (Sh.b false))))))))))) := by kernel_rfl
end Go.Proofs
namespace Go.Pl
open Go Go.Sx
def fitsB (x y : Int) : Bool :=
  bif x == 2 then y == 1 else bif x == 3 then y == 1 else bif x == 5 then y == 1 else bif x == 7 then y == 1 else bif x == 1 then y == 3 else bif x == 4 then y == 3 else
  bif x == 6 then (bif y == 2 then true else y == 3) else bif x == 8 then (bif y == 2 then true else y == 3) else bif x == 9 then (bif y == 2 then true else y == 3) else false
end Go.Pl
namespace Go.Proofs
open Go Go.Sx Go.Pl
theorem bif_allb {ψ : Bool → Prop} {b x y : Bool} (h : ψ (bif b then x else y)) : (b = true → ψ x) ∧ (b = false → ψ y) := by
  cases b
  · exact ⟨fun q => (by cases q), fun _ => h⟩
  · exact ⟨fun _ => h, fun q => by cases q⟩
def F67 : List Sh → Tree Sh
  | [s, t] => match icode s with
    | some x => match icode t with
      | some y => .leaf (.b (fitsB x y))
      | none => .fail
    | none => .fail
  | _ => .fail
theorem O67 : FnOK Tryd.prog (gls5 W5) 67 F67 := by
  refine fnOK_run (C := C5 prim W5 noSpec unroll) (C5.ok _ _) (fok0 _) (n := 300) (L := L0) (fn := Tryd.f67) (by kernel_rfl) (by kernel_rfl) fun H w shs args φ hrep h => ?_
  have hn : Tryd.f67.ntmps = 36 := by kernel_rfl
  unfold F67 at h
  split at h
  · rename_i s t
    split at h
    · rename_i x hx
      split at h
      · rename_i y hy
        match args, hrep with
        | [u, v], ⟨hu, hv, _⟩ =>
          refine ⟨[.i .i64 x, .i .i64 y], ⟨icode_ok hx hu, icode_ok hy hv, trivial⟩, ?_⟩
          rw [hn, a67 prim W5 x y, meets_eq]
          have h : φ (.b (fitsB x y)) := h
          have r : ∀ {b : Bool} {c d : Bool}, φ (.b (bif b then c else d)) → (b = true → φ (.b c)) ∧ (b = false → φ (.b d)) := fun h => bif_allb (ψ := fun b => φ (.b b)) h
          rw [← meets_eq]
          have h1 := r h
          refine ⟨h1.1, fun q => ?_⟩
          have h1 := r (h1.2 q)
          refine ⟨h1.1, fun q => ?_⟩
          have h1 := r (h1.2 q)
          refine ⟨h1.1, fun q => ?_⟩
          have h1 := r (h1.2 q)
          refine ⟨h1.1, fun q => ?_⟩
          have h1 := r (h1.2 q)
          refine ⟨h1.1, fun q => ?_⟩
          have h1 := r (h1.2 q)
          refine ⟨h1.1, fun q => ?_⟩
          have h1 := r (h1.2 q)
          refine ⟨fun q => r (h1.1 q), fun q => ?_⟩
          have h1 := r (h1.2 q)
          refine ⟨fun q => r (h1.1 q), fun q => ?_⟩
          have h1 := r (h1.2 q)
          exact ⟨fun q => r (h1.1 q), h1.2⟩
      · exact h.elim
    · exact h.elim
  · exact h.elim
end Go.Proofs
namespace Go.Sx
/-- What a run ends with: its result, the memory as far as the first id reaches. -/
def outD : Out → Tree (SV × List (Nat × SB))
  | .done v c => let live := reach c.hp 4000 [0] []; .leaf (v, dropKey (fun i => !live.contains i) c.hp)
  | .stop _ _ _ => .fail
section
variable {P : Program} {C : Ctx} {H H' : Mem} {E E' : Env} {w w' : World}
/-- The blocks that the ids own. -/
def ownOf (E : Env) (hp : List (Nat × SB)) : Nat → Prop := fun b => ∃ id sb, look? hp id = some sb ∧ obk E id sb = some b
theorem heapOK_drop {K : Kx} {hp : List (Nat × SB)} (p : Nat → Bool) (h : HeapOK K H E w hp) : HeapOK K H E w (dropKey p hp) := by
  have key : ∀ {i : Nat} {sb : SB}, look? (dropKey p hp) i = some sb → look? hp i = some sb := fun {i sb} hl => by
    rw [look_dropKey] at hl
    cases hp' : p i <;> simp only [hp', cond_true, cond_false] at hl
    · exact hl
    · cases hl
  exact ⟨fun id sb hl => h.ent id sb (key hl), fun id id' sb sb' b l1 l2 o1 o2 => h.dis id id' sb sb' b (key l1) (key l2) o1 o2⟩
/-- All, not to be unfolded. -/
@[irreducible] def MeetsD (ψ : SV × List (Nat × SB) → Prop) (t : Tree (SV × List (Nat × SB))) : Prop := t.All ψ
theorem meetsD_eq (ψ : SV × List (Nat × SB) → Prop) (t : Tree (SV × List (Nat × SB))) : MeetsD ψ t = t.All ψ := by unfold MeetsD; rfl
theorem calls_run (hC : CtxOK P C) (hF : FnsOK P C) {n g : Nat} {fn : Func} {c : Core} {args : Array Value} {φ : SV × List (Nat × SB) → Prop} (hfn : C.fns.get g = some fn) (hb : fn.body.isSome = true)
    (hd : DenL H E c.tm (args ++ Array.replicate (fn.ntmps - args.size) undef).toList) (hh : HeapOK ⟨w, ownOf E c.hp, H⟩ H E w c.hp) (hon : H.on w) (hfree : Free E c) (hg : GlobOK C.gls H)
    (h : MeetsD φ ((run C n true g [.code []] c).bind outD)) :
    Calls P g args w fun e w' => ∃ v sv hp' H' E', e = .returned v ∧ φ (sv, hp') ∧ Den H' E' sv v ∧ HeapOK ⟨w, ownOf E c.hp, H⟩ H' E' w' hp' ∧ WOK ⟨w, ownOf E c.hp, H⟩ H' w' ∧ H.le H' ∧ E.le E' := by
  rw [meetsD_eq] at h
  intro cs
  obtain ⟨body, hbody⟩ := Option.isSome_iff_exists.1 hb
  have hP := hC.fn g fn hfn
  let b : Frame := { (default : Frame) with fn := g, kind := .normal }
  let a : Act := { tmps := args ++ Array.replicate (fn.ntmps - args.size) undef, defers := [] }
  have henter : Frame.enter P g args .normal = b.at a [.code body] := by
    simp [Frame.enter, Frame.at, hP, hbody, b, a]
  have st : St C ⟨w, ownOf E c.hp, H⟩ H E w c a :=
    ⟨hd, hh, ⟨rfl, rfl, rfl, Nat.le_refl _, fun _ _ _ => rfl, hon, fun _ _ h => h, fun _ h => .inl h⟩, hfree, hg, rfl⟩
  have hit : ItOK (bodyOf fn) [.code []] [.code body] := by
    have := ItOK.code (body := bodyOf fn) [] ItOK.nil
    have he : codeAt (bodyOf fn) [] = body := by simp [codeAt, bodyOf, hbody]
    rwa [he] at this
  obtain ⟨out, h1, h2⟩ := run_ok hC hF n true g [.code []] c H E w a fn [.code body] _ hfn (Tree.All_bind h) st hit b cs
  cases out with
  | stop g' td' c' => exact h1.elim
  | done sv c' =>
    obtain ⟨a', w', H', E', v, todo, q1, q2, q3, q4, q5⟩ := h2
    exact ⟨.returned v, w', _, ⟨v, sv, _, H', E', rfl, h1, q4, heapOK_drop _ q2.hp, q2.wok, q3.Hle, q3.Ele⟩, by rw [henter]; exact q1, rfl, rfl, q2.defers, rfl, fn, hP, q5⟩
end
end Go.Sx
namespace Go.Sx
/-- A run that pauses. -/
def pausesB (pause : List Nat → Bool) : List It → Bool
  | .code p :: _ => pause p
  | _ => false
def runP (C : Ctx) (m : Nat) (pause : List Nat → Bool) : Nat → Nat → List It → Core → Tree Out
  | 0, g, td, c => .leaf (.stop g td c)
  | n + 1, g, td, c => bif pausesB pause td then .leaf (.stop g td c) else
    match C.fns.get g with
    | none => .fail
    | some fn => (stepR C (callWith C (run C m false)) true g fn td c).bind fun s => match s with
      | .go td c => runP C m pause n g td c
      | .done v c => .leaf (.done v c)
      | .halt td c => .leaf (.stop g td c)
inductive OutE where
  | fin (v : SV) (hp : List (Nat × SB))
  | stop (td : List It) (c : Core)
def outE : Out → Tree OutE
  | .done v c => let live := reach c.hp 4000 [0] []; .leaf (.fin v (dropKey (fun i => !live.contains i) c.hp))
  | .stop _ td c => .leaf (.stop td c)
section
variable {P : Program} {C : Ctx} {K : Kx} {H H' : Mem} {E E' E0 : Env} {w w' : World}
/-- From here on the function ends with a result and memory that meet φ. -/
def GoesD (P : Program) (C : Ctx) (K : Kx) (E0 : Env) (fn : Func) (td : List It) (c : Core) (φ : SV × List (Nat × SB) → Prop) : Prop :=
  ∀ (H : Mem) (E : Env) (w : World) (a : Act) (items : List Item) (b : Frame) (cs : List Frame), E0.le E → St C K H E w c a → ItOK (bodyOf fn) td items →
    ∃ (a' : Act) (w' : World) (v : Value) (sv : SV) (hp' : List (Nat × SB)) (H' : Mem) (E' : Env) (todo : List Item), Steps P (lone (b.at a items) cs w) (lone { b.at a' todo with mode := .returning } cs w') ∧ a'.defers = [] ∧
      φ (sv, hp') ∧ Den H' E' sv v ∧ HeapOK K H' E' w' hp' ∧ WOK K H' w' ∧ E0.le E' ∧ (results fn a'.tmps).run P w' = .ok v w'
def OutEOK (P : Program) (C : Ctx) (K : Kx) (E0 : Env) (fn : Func) (φ : SV × List (Nat × SB) → Prop) : OutE → Prop
  | .fin v hp => φ (v, hp)
  | .stop td c => GoesD P C K E0 fn td c φ
/-- All, not to be unfolded. -/
@[irreducible] def MeetsP (ψ : OutE → Prop) (t : Tree OutE) : Prop := t.All ψ
theorem meetsP_eq (ψ : OutE → Prop) (t : Tree OutE) : MeetsP ψ t = t.All ψ := by unfold MeetsP; rfl
theorem Tree.All_unbind {α β : Type} {φ : β → Prop} {k : α → Tree β} : ∀ {t : Tree α}, t.All (fun a => (k a).All φ) → (t.bind k).All φ
  | .leaf _, h => h
  | .node _ _ _, h => ⟨fun e => Tree.All_unbind (h.1 e), fun e => Tree.All_unbind (h.2 e)⟩
  | .need _ _, h => ⟨h.1, Tree.All_unbind h.2⟩
  | .must _ _, h => ⟨h.1, Tree.All_unbind h.2⟩
  | .both _ _, h => ⟨Tree.All_unbind h.1, Tree.All_unbind h.2⟩
  | .fail, h => h.elim
theorem env_trans {A B D : Env} (h1 : A.le B) (h2 : B.le D) : A.le D := fun i v h => h2 i v (h1 i v h)
theorem goesD_run' (hC : CtxOK P C) (hF : FnsOK P C) {m g : Nat} {fn : Func} {pause : List Nat → Bool} {φ : SV × List (Nat × SB) → Prop} (hfn : C.fns.get g = some fn) :
    ∀ (n : Nat) (td : List It) (c : Core), ((runP C m pause n g td c).bind outE).All (OutEOK P C K E0 fn φ) → GoesD P C K E0 fn td c φ
  | 0, td, c, h => h
  | n + 1, td, c, h => by
    unfold runP at h
    cases hp : pausesB pause td <;> simp only [hp, cond_true, cond_false] at h
    rotate_left
    · exact h
    rw [hfn] at h
    simp only at h
    intro H E w a items b cs hE st hi
    obtain ⟨sig, h1, h2⟩ := stepR_ok hC hF (call_hyp hC hF (run_ok hC hF m)) (Tree.All_bind (Tree.All_bind h)) st hi b cs
    cases sig with
    | go td' c' =>
      obtain ⟨a', w', H', E', items', q1, q2, q3, q4⟩ := h2
      obtain ⟨a2, w2, v, sv, hp', H2, E2, todo, r1, r2⟩ := goesD_run' hC hF hfn n td' c' (Tree.All_unbind h1) H' E' w' a' items' b cs (env_trans hE q3.Ele) q2 q4
      exact ⟨a2, w2, v, sv, hp', H2, E2, todo, q1.trans r1, r2⟩
    | done sv c' =>
      obtain ⟨a', w', H', E', v, todo, q1, q2, q3, q4, q5⟩ := h2
      exact ⟨a', w', v, sv, _, H', E', todo, q1, q2.defers, h1, q4, heapOK_drop _ q2.hp, q2.wok, env_trans hE q3.Ele, q5⟩
    | halt td' c' =>
      obtain ⟨a', w', H', E', items', q1, q2, q3, q4⟩ := h2
      obtain ⟨a2, w2, v, sv, hp', H2, E2, todo, r1, r2⟩ := h1 H' E' w' a' items' b cs (env_trans hE q3.Ele) q2 q4
      exact ⟨a2, w2, v, sv, hp', H2, E2, todo, q1.trans r1, r2⟩
end
end Go.Sx

/-! Where a run ends: which state that is told of it comes to. -/
namespace Go.Sx
def qF (hp : List (Nat × SB)) (ρ : List (Nat × Rn)) : List (Int × Bool × SV) → List (Int × Bool × SV) → Option (List Eqn)
  | [], [] => some []
  | (n, p, x) :: l, (n', p', x') :: l' => iff2 (p == p') (app2 (some [.int n n']) (app2 (bif p' then qS hp ρ x x' else some []) (qF hp ρ l l')))
  | _, _ => none
def qB2 (hp : List (Nat × SB)) (ρ : List (Nat × Rn)) (id' : Nat) : SB → Option (List Eqn)
  | .fm k' M' fs' us' tg' => match look? ρ id' with
    | some (.id id) => match look? hp id with
      | some (.fm k M fs us _) => iff2 (k == k' && tg'.isNone) (app2 (some [.mp M M']) (app2 (qF hp ρ fs fs') (qF hp ρ us us')))
      | _ => none
    | _ => none
  | .ownx e' st' n' g' more' => match look? ρ id' with
    | some (.id id) => match look? hp id with
      | some (.ownx e st n g more) => iff2 (e == e' && st == st' && more.length == more'.length && oneL more') (app2 (some [.nat n n', .get n g g']) (qL hp ρ more more'))
      | _ => none
    | _ => none
  | sb => qB hp ρ id' sb
def qH2 (hp : List (Nat × SB)) (ρ : List (Nat × Rn)) : List (Nat × SB) → Option (List Eqn)
  | [] => some []
  | (id', sb) :: l => app2 (qB2 hp ρ id' sb) (qH2 hp ρ l)
def collFa : List (Int × Bool × SV) → List (Int × Bool × SV) → List (Nat × Rn)
  | (_, true, x) :: l, (_, true, y) :: m => coll x y ++ collFa l m
  | _ :: l, _ :: m => collFa l m
  | _, _ => []
def collB2 : Option SB → Option SB → List (Nat × Rn)
  | some (.fm _ _ fs us _), some (.fm _ _ gs vs _) => collFa fs gs ++ collFa us vs
  | some (.ownx _ _ _ _ l), some (.ownx _ _ _ _ m) => collL l m
  | a, b => collB a b
def infer2 (hp' hp : List (Nat × SB)) : Nat → List (Nat × Rn) → List (Nat × Rn) → List (Nat × Rn)
  | 0, _, acc => acc
  | _, [], acc => acc
  | n + 1, (i, r) :: t, acc => match look? acc i with
    | some _ => infer2 hp' hp n t acc
    | none => match r with
      | .id j => infer2 hp' hp n (collB2 (look? hp' i) (look? hp j) ++ t) ((i, r) :: acc)
      | .nil => infer2 hp' hp n t ((i, r) :: acc)
/-- What memory is to be; which ids are to be the same. -/
structure TgE where
  hp : List (Nat × SB)
  keep : List Nat
def TgE.rn (t : TgE) (hp : List (Nat × SB)) : List (Nat × Rn) := infer2 t.hp hp 4000 (t.keep.map fun i => (i, .id i)) []
def qEnd (hp : List (Nat × SB)) (t : TgE) : Option (List Eqn) := iff2 (noDup (rnIds (t.rn hp)) && t.keep.all fun i => isRn (look? (t.rn hp) i) i) (qH2 hp (t.rn hp) t.hp)
def endT (v : SV) (hp : List (Nat × SB)) : Nat → List TgE → Tree (SV × Nat × List Eqn)
  | _, [] => .fail
  | k, t :: r => match qEnd hp t with
    | some l => .leaf (v, k, l)
    | none => endT v hp (k + 1) r
def toEnd (ts : List TgE) : Out → Tree (SV × Nat × List Eqn)
  | .done v c => endT v c.hp 0 ts
  | .stop _ _ _ => .fail
/-- What is to hold where a run ends. -/
def EndOK (ts : List TgE) (φ : SV → Nat → Prop) : SV × Nat × List Eqn → Prop
  | (v, k, l) => Eqn.all l ∧ φ v k
@[irreducible] def MeetsN (ψ : SV × Nat × List Eqn → Prop) (t : Tree (SV × Nat × List Eqn)) : Prop := t.All ψ
theorem meetsN_eq (ψ : SV × Nat × List Eqn → Prop) (t : Tree (SV × Nat × List Eqn)) : MeetsN ψ t = t.All ψ := by unfold MeetsN; rfl
section
variable {P : Program} {C : Ctx} {K : Kx} {H H' : Mem} {E E' : Env} {w w' : World} {hp : List (Nat × SB)} {ρ : List (Nat × Rn)}
theorem qF_den (hh : HeapOK K H E w hp) : ∀ {l l' : List (Int × Bool × SV)} {q : List Eqn} {r : List (Int × Option Value)}, qF hp ρ l l' = some q → Eqn.all q → DenF H E l r → DenF H (rnEnv ρ E) l' r
  | [], [], _, [], _, _, _ => trivial
  | (n, p, x) :: l, (n', p', x') :: l', q, (k, o) :: r, hq, ha, ⟨h1, h2, h3⟩ => by
    simp only [qF] at hq
    obtain ⟨hp', hq⟩ := iff2_some hq
    obtain ⟨a, b, e1, e2, rfl⟩ := app2_some hq
    obtain ⟨c, d, e3, e4, rfl⟩ := app2_some e2
    cases e1
    have hpp : p = p' := by simpa using hp'
    subst hpp
    obtain ⟨hn, ha⟩ := ha
    have hn : n = n' := hn
    subst hn
    have ha2 := Eqn.all_app (show Eqn.all (c ++ d) from ha)
    refine ⟨h1, ?_, qF_den hh e4 ha2.2 h3⟩
    cases p with
    | true =>
      cases o with
      | none => exact h2
      | some v => exact ⟨leS_den hh _ (qS_ok _ e3 ha2.1) h2.1, h2.2⟩
    | false =>
      cases o with
      | none => exact h2
      | some v => exact h2
  | [], _ :: _, _, _, h, _, _ => by simp [qF] at h
  | _ :: _, [], _, _, h, _, _ => by simp [qF] at h
  | _ :: _, _ :: _, _, [], _, _, h => h.elim
  | [], [], _, _ :: _, _, _, h => h.elim
theorem qB2_ok (hh : HeapOK K H E w hp) {id' : Nat} {sb : SB} {q : List Eqn} (hq : qB2 hp ρ id' sb = some q) (ha : Eqn.all q) :
    Ent K H (rnEnv ρ E) w id' sb ∧ ∀ b, obk (rnEnv ρ E) id' sb = some b → ∃ id s0, look? ρ id' = some (.id id) ∧ look? hp id = some s0 ∧ obk E id s0 = some b := by
  unfold qB2 at hq
  split at hq
  · rename_i k' M' fs' us' tg'
    split at hq
    · rename_i id hr
      split at hq
      · rename_i k M fs us tg hl
        obtain ⟨hk, hq⟩ := iff2_some hq
        obtain ⟨a, b, e1, e2, rfl⟩ := app2_some hq
        obtain ⟨c, d, e3, e4, rfl⟩ := app2_some e2
        cases e1
        simp only [Bool.and_eq_true, beq_iff_eq, Option.isNone_iff_eq_none] at hk
        obtain ⟨rfl, rfl⟩ := hk
        obtain ⟨hM, ha⟩ := ha
        have hM : M = M' := hM
        subst hM
        have ha2 := Eqn.all_app (show Eqn.all (c ++ d) from ha)
        obtain ⟨b, ms, clk, fv, uv, he, h1, h2, h3, h4, h5, h6, h7⟩ := hh.ent _ _ hl
        refine ⟨⟨b, ms, clk, fv, uv, by rw [rnEnv_id hr]; exact he, h1, qF_den hh e3 ha2.1 h2, qF_den hh e4 ha2.2 h3, h4, h5, trivial, h7⟩, fun b' hb => ⟨id, _, hr, hl, ?_⟩⟩
        simp only [obk, rnEnv_id hr] at hb ⊢; exact hb
      · cases hq
    · cases hq
  · rename_i e' st' n' g' more'
    split at hq
    · rename_i id hr
      split at hq
      · rename_i e st n g more hl
        obtain ⟨hk, hq⟩ := iff2_some hq
        obtain ⟨a, b, e1, e2, rfl⟩ := app2_some hq
        cases e1
        simp only [Bool.and_eq_true, beq_iff_eq] at hk
        obtain ⟨⟨⟨rfl, rfl⟩, hlen⟩, hone⟩ := hk
        obtain ⟨hn, hg, ha⟩ := ha
        have hn : n = n' := hn
        subst hn
        have hg : ∀ i, i < n → g i = g' i := hg
        obtain ⟨v, xs, ys, he, h1, h2, h3, h4, h5, h6⟩ := hh.ent _ _ hl
        refine ⟨⟨v, xs, ys, by rw [rnEnv_id hr]; exact he, by rw [← hlen]; exact h1, rows_congr h2 hg, leL_den hh _ (qL_ok _ e2 ha) h3, by rw [← hlen]; exact h4, hone, h6⟩, fun b' hb => ⟨id, _, hr, hl, ?_⟩⟩
        simp only [obk, rnEnv_id hr] at hb ⊢; exact hb
      · cases hq
    · cases hq
  · exact leB_ok hh (qB_ok hq ha)
theorem qH2_at : ∀ {l : List (Nat × SB)} {q : List Eqn} {i : Nat} {sb : SB}, qH2 hp ρ l = some q → Eqn.all q → look? l i = some sb → ∃ q', qB2 hp ρ i sb = some q' ∧ Eqn.all q'
  | [], _, _, _, _, _, h => by simp [look?] at h
  | (j, x) :: l, q, i, sb, hq, ha, h => by
    simp only [qH2] at hq
    obtain ⟨a, b, e1, e2, rfl⟩ := app2_some hq
    simp only [look?] at h
    cases hj : (j == i) <;> simp only [hj, cond_true, cond_false] at h
    · exact qH2_at e2 (Eqn.all_app ha).2 h
    · cases h
      obtain rfl : j = i := by simpa using hj
      exact ⟨a, e1, (Eqn.all_app ha).1⟩
/-- Memory is as it is told. -/
theorem qEnd_ok (hh : HeapOK K H E w hp) {t : TgE} {q : List Eqn} (hq : qEnd hp t = some q) (ha : Eqn.all q) : ∃ E', HeapOK K H E' w t.hp ∧ ∀ i ∈ t.keep, E' i = E i := by
  unfold qEnd at hq
  obtain ⟨h1, h2⟩ := iff2_some hq
  simp only [Bool.and_eq_true, List.all_eq_true] at h1
  refine ⟨rnEnv (t.rn hp) E, ⟨fun id sb hl => ?_, fun id id' sb sb' b l1 l2 o1 o2 => ?_⟩, fun i hi => rnEnv_id (isRn_ok (h1.2 i hi))⟩
  · obtain ⟨q', e1, e2⟩ := qH2_at h2 ha hl
    exact (qB2_ok hh e1 e2).1
  · obtain ⟨q1, e1, e2⟩ := qH2_at h2 ha l1
    obtain ⟨q2, e3, e4⟩ := qH2_at h2 ha l2
    obtain ⟨i1, s1, a1, a2, a3⟩ := (qB2_ok hh e1 e2).2 b o1
    obtain ⟨i2, s2, b1, b2, b3⟩ := (qB2_ok hh e3 e4).2 b o2
    have := hh.dis _ _ _ _ _ a2 b2 a3 b3
    subst this
    exact rn_inj h1.1 a1 b1
theorem endT_ok {v : SV} {φ : SV → Nat → Prop} {ts : List TgE} : ∀ {r : List TgE} {k : Nat}, (∀ j, r[j]? = ts[k + j]?) → (endT v hp k r).All (EndOK ts φ) → ∃ j t q, ts[j]? = some t ∧ qEnd hp t = some q ∧ Eqn.all q ∧ φ v j
  | [], _, _, h => h.elim
  | t :: r, k, hk, h => by
    unfold endT at h
    split at h
    · rename_i l hl
      have := hk 0
      simp only [List.getElem?_cons_zero, Nat.add_zero] at this
      exact ⟨k, t, l, this.symm, hl, h.1, h.2⟩
    · exact endT_ok (fun j => by have := hk (j + 1); simp only [List.getElem?_cons_succ] at this; rw [this]; congr 1; omega) h
theorem calls_end (hC : CtxOK P C) (hF : FnsOK P C) {n g : Nat} {fn : Func} {c : Core} {args : Array Value} {ts : List TgE} {φ : SV → Nat → Prop} (hfn : C.fns.get g = some fn) (hb : fn.body.isSome = true)
    (hd : DenL H E c.tm (args ++ Array.replicate (fn.ntmps - args.size) undef).toList) (hh : HeapOK ⟨w, ownOf E c.hp, H⟩ H E w c.hp) (hon : H.on w) (hfree : Free E c) (hg : GlobOK C.gls H)
    (h : MeetsN (EndOK ts φ) ((run C n true g [.code []] c).bind (toEnd ts))) :
    Calls P g args w fun e w' => ∃ v sv k t H' E1 E', e = .returned v ∧ φ sv k ∧ ts[k]? = some t ∧ Den H' E1 sv v ∧ HeapOK ⟨w, ownOf E c.hp, H⟩ H' E' w' t.hp ∧ WOK ⟨w, ownOf E c.hp, H⟩ H' w' ∧ H.le H' ∧ ∀ i ∈ t.keep, ∀ u, E i = some u → E' i = some u := by
  rw [meetsN_eq] at h
  intro cs
  obtain ⟨body, hbody⟩ := Option.isSome_iff_exists.1 hb
  have hP := hC.fn g fn hfn
  let b : Frame := { (default : Frame) with fn := g, kind := .normal }
  let a : Act := { tmps := args ++ Array.replicate (fn.ntmps - args.size) undef, defers := [] }
  have henter : Frame.enter P g args .normal = b.at a [.code body] := by
    simp [Frame.enter, Frame.at, hP, hbody, b, a]
  have st : St C ⟨w, ownOf E c.hp, H⟩ H E w c a :=
    ⟨hd, hh, ⟨rfl, rfl, rfl, Nat.le_refl _, fun _ _ _ => rfl, hon, fun _ _ h => h, fun _ h => .inl h⟩, hfree, hg, rfl⟩
  have hit : ItOK (bodyOf fn) [.code []] [.code body] := by
    have := ItOK.code (body := bodyOf fn) [] ItOK.nil
    have he : codeAt (bodyOf fn) [] = body := by simp [codeAt, bodyOf, hbody]
    rwa [he] at this
  obtain ⟨out, h1, h2⟩ := run_ok hC hF n true g [.code []] c H E w a fn [.code body] _ hfn (Tree.All_bind h) st hit b cs
  cases out with
  | stop g' td' c' => exact h1.elim
  | done sv c' =>
    obtain ⟨a', w', H', E', v, todo, q1, q2, q3, q4, q5⟩ := h2
    obtain ⟨k, t, q, r1, r2, r3, r4⟩ := endT_ok (ts := ts) (k := 0) (fun j => by simp) h1
    obtain ⟨E2, r5, r6⟩ := qEnd_ok q2.hp r2 r3
    exact ⟨.returned v, w', _, ⟨v, sv, k, t, H', E', E2, rfl, r4, r1, q4, r5, q2.wok, q3.Hle, fun i hi u hu => by rw [r6 i hi]; exact q3.Ele i u hu⟩, by rw [henter]; exact q1, rfl, rfl, q2.defers, rfl, fn, hP, q5⟩
end
end Go.Sx
