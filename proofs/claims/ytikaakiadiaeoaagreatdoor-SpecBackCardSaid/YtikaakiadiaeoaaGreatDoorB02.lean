/-
  Operations that leave memory as it is, the second part: places in slices, comparisons, composites, lookups, len. Operations that leave memory as it is, the last part, and all of them in one theorem. Operations that make or write memory. Operations that make or write memory, the second part: slices that are written out, made, stored into. Operations that make or write memory, the third part: append, freezing.
-/
import Derived.Test.YtikaakiadiaeoaaGreatDoorB01
import Derived.Lib.Strings
namespace Go.Sx
section
variable {P : Program} {C : Ctx} {K : Kx} {H : Mem} {E : Env} {w : World}
theorem intOf_spec {x : SV} {n : Int} {u : Value} (h : intOf? x = some n) (hd : Den H E x u) : ∃ k, u = .int k n := by
 cases x <;> simp [intOf?] at h
 all_goals (subst h; exact ⟨_, hd⟩)
theorem inB_spec {i : Int} {n : Nat} (h : prim.inB i n = true) : 0 ≤ i ∧ i < n := by simpa [prim] using h
theorem lenV_row {elem st n : Nat} {v : Value} {xs : List Value} (h : w.ownsRow 0 elem st v n xs) : lenV v = n := by
 rcases h.2 with ⟨rfl, rfl⟩ | ⟨_, _, _, rfl, _⟩ <;> rfl
theorem row_slice {elem st n : Nat} {v : Value} {xs : List Value} (h : w.ownsRow 0 elem st v n xs) (hn : 0 < n) : ∃ b cap, v = .slice (some ⟨b, 0, none⟩) n cap ∧ blkV v = some b := by
 rcases h.2 with ⟨rfl, rfl⟩ | ⟨b, cap, _, rfl, _⟩
 ·omega
 ·exact ⟨b, cap, rfl, rfl⟩
theorem indexAt_run {t e : Nat} {te : TyI} (hu : P.underlying t = some (.slice e)) (hte : TyOK P e te) {a : Addr} {n cap : Nat} {k : IntKind} {i : Int} (h0 : 0 ≤ i) (h1 : i < n) (w : World) :
  (Instr.indexAt t (.slice (some a) n cap) (.int k i)).run P w = .ok (.pointer (some (a.add (i.toNat * te.size)))) w := by
 simp [Instr.indexAt, asIntOf, run_underlying hu, h0, h1, sizeOf_run hte]
theorem idxS_spec {x : SV} {n : Int} (h : intOf? x = some n) : idxS prim n x = n.toNat := by
 cases x <;> simp [intOf?] at h
 ·subst h; rfl
 ·rfl
theorem q_index_sh {c : Core} {a : Act} {o : Oper} {t e : Nat} {te : TyI} {x y : Operand} {φ : SV × Core → Prop} {m : Nat} {g : Nat → List Sh} {n : Int} {k : IntKind} (hu : P.underlying t = some (.slice e)) (hte : TyOK P e te)
  (ho : o.op = .indexAddr t x y) (dx : Rep H (.sl te.size m g) (a.eval x)) (ey : a.eval y = .int k n) (h0 : 0 ≤ n) (h1 : n < m) (h : φ (.shp te.size m g n.toNat 0, c)) : QP P H E c a o φ := by
 generalize hu' : a.eval x = u at dx
 cases dx with
 | sl0 _ _ A cap hc => omega
 | sl _ _ _ b off cap cc a1 a2 a3 a4 a5 a6 =>
  refine ⟨_, .pointer (some ⟨b, off + n.toNat * te.size, none⟩), h, rfl, ⟨b, off + n.toNat * te.size, cc n.toNat, rfl, by omega, a3 _ (by omega), fun j hj => ⟨?_, a5 _ _ (by omega) hj⟩, fun j s hs => a6 _ _ _ (by omega) hs⟩, fun w' => ?_⟩
  ·rw [a4 _ _ (by omega) hj]
  ·have := indexAt_run (P := P) hu hte (a := ⟨b, off, none⟩) (n := m) (cap := cap) (k := k) h0 h1 w'
   simp [execOp, ho, hu', ey, this, Addr.add_lit]
theorem caseN_spec {φ : SV × Core → Prop} {n : Int} {f : Nat → Tree (SV × Core)} {m : Nat} : ∀ {k : Nat}, k ≤ m → (m : Int) - k ≤ n → n < m → (caseN prim n f m k).All φ → ∃ i : Nat, n = i ∧ i < m ∧ (f i).All φ
 | 0, _, h1, h2, _ => by omega
 | k + 1, hk, h1, h2, h => by
  obtain ⟨ha, hb⟩ := h
  by_cases e : n = Int.ofNat (m - (k + 1))
  ·refine ⟨m - (k + 1), e, by omega, ha (by simp [prim, e])⟩
  ·refine caseN_spec (k := k) (by omega) ?_ h2 (hb (by simpa [prim] using e))
   have e : ¬ n = ((m - (k + 1) : Nat) : Int) := e
   omega
theorem chunks_nth (st : Nat) : ∀ (n : Nat) (l : List Sh) (i : Nat), i < n → nthL (chunks st n l) i = (l.drop (i * st)).take st
 | n + 1, l, 0, _ => by simp [nthL, chunks]
 | n + 1, l, i + 1, h => by
  have ih := chunks_nth st n (l.drop st) i (by omega)
  simp only [nthL, chunks, List.getD_cons_succ] at ih ⊢
  rw [ih, List.drop_drop]
  congr 2
  rw [Nat.add_mul, Nat.one_mul, Nat.add_comm]
theorem q_index_arr {c : Core} {a : Act} {o : Oper} {t e m : Nat} {te : TyI} {x y : Operand} {φ : SV × Core → Prop} {g : Nat} {l : List Sh} {n : Int} {k : IntKind} (hu : P.underlying t = some (.array m e)) (hte : TyOK P e te)
  (ho : o.op = .indexAddr t x y) (dx : Den H E (.glob g) (a.eval x)) (ey : Den H E (.int k n) (a.eval y)) (hgl : GlobAt H g (.tup l)) (hl : l.length = m * te.size) (h0 : 0 ≤ n) (h1 : n < m)
  (h : φ (.shp te.size m (nthL (chunks te.size m l)) n.toNat 0, c)) : QP P H E c a o φ := by
 obtain ⟨_, cc, g1, g2⟩ := hgl
 have dx : a.eval x = .pointer (some ⟨g, 0, none⟩) := dx
 have ey : a.eval y = .int k n := ey
 have hlt : n.toNat * te.size + te.size ≤ m * te.size := by
  calc n.toNat * te.size + te.size = (n.toNat + 1) * te.size := by rw [Nat.add_mul, Nat.one_mul]
   _ ≤ m * te.size := Nat.mul_le_mul_right _ (by omega)
 have hch : nthL (chunks te.size m l) n.toNat = (l.drop (n.toNat * te.size)).take te.size := chunks_nth _ _ _ _ (by omega)
 refine ⟨_, .pointer (some ⟨g, n.toNat * te.size, none⟩), h, rfl, ⟨g, n.toNat * te.size, fun j => cc (n.toNat * te.size + j), rfl, by omega, ?_, fun j hj => g1 _ (by omega), fun j s hs => g2 _ _ ?_⟩, fun w' => ?_⟩
 ·rw [hch, List.length_take, List.length_drop]; omega
 ·rw [hch, List.getElem?_take] at hs
  split at hs
  ·rwa [List.getElem?_drop] at hs
  ·cases hs
 ·simp [execOp, ho, dx, ey, Instr.indexAt, asIntOf, run_underlying hu, h0, h1, sizeOf_run hte, Instr.sureAddr, Addr.add_lit]
theorem q_indexAddr {c : Core} {a : Act} {o : Oper} {t : Nat} {x y : Operand} {φ : SV × Core → Prop} (hC : CtxOK P C) (ho : o.op = .indexAddr t x y) (hd : DenL H E c.tm a.tmps.toList)
  (hh : HeapOK K H E w c.hp) (hg : GlobOK C.gls H) (h : (execIndexAddr C c t (evL c.tm x) (evL c.tm y)).All φ) : QP P H E c a o φ := by
 have dx := den_ev (H := H) (E := E) hd x
 have dy := den_ev (H := H) (E := E) hd y
 have hA := hC.A
 unfold execIndexAddr at h
 split at h
 ·rename_i ti hti
  have ht := (hC.ty _ _ hti).desc
  split at h
  ·rename_i e hty
   rw [hty] at ht
   split at h
   ·rename_i te hte
    have hte := hC.ty _ _ hte
    split at h
    ·rename_i id n hx hy
     rw [hx] at dx
     obtain ⟨k, ey⟩ := intOf_spec hy dy
     split at h
     ·-- a row that is written out
      rename_i cells el st m hl
      split at h
      ·rename_i k2 n2 hy2
       cases hb : (decide (0 ≤ n2) && decide (n2 < (m : Int)) && st == te.size) <;> simp only [hb, cond_true, cond_false] at h
       ·exact h.elim
       simp only [Bool.and_eq_true, decide_eq_true_eq, beq_iff_eq] at hb
       obtain ⟨⟨h0, h1⟩, rfl⟩ := hb
       rw [hy2] at dy
       simp only [Den] at dy
       obtain ⟨v, xs, he, hr, _, _⟩ := hh.ent _ _ hl
       have dx2 : E id = some (a.eval x) := dx.1
       rw [he] at dx2; cases dx2
       obtain ⟨b, cap, hv, hbv⟩ := row_slice hr (by omega)
       refine ⟨_, .pointer (some ⟨b, n2.toNat * te.size, none⟩), h, rfl, ⟨b, by rw [he]; exact hbv, rfl⟩, fun w' => ?_⟩
       have := indexAt_run (P := P) ht hte (a := ⟨b, 0, none⟩) (n := m) (cap := cap) (k := k2) h0 h1 w'
       simp [execOp, ho, hv, dy, this, Addr.add_lit]
      ·exact h.elim
     ·rename_i el st m g hl
      cases hb : (st == te.size) <;> simp only [hb, cond_true, cond_false] at h
      ·exact h.elim
      obtain rfl : st = te.size := by simpa using hb
      obtain ⟨hin, hφ⟩ := h
      rw [hA] at hin hφ
      obtain ⟨h0, h1⟩ := inB_spec hin
      obtain ⟨v, xs, he, hr, _, _⟩ := hh.ent _ _ hl
      have dx2 : E id = some (a.eval x) := dx.1
      rw [he] at dx2; cases dx2
      obtain ⟨b, cap, hv, hbv⟩ := row_slice hr (by omega)
      have hidx := idxS_spec hy
      rw [hidx] at hφ
      refine ⟨_, .pointer (some ⟨b, n.toNat * te.size, none⟩), hφ, rfl, ⟨b, _, he, hbv, by rw [lenV_row hr]; omega, rfl⟩, fun w' => ?_⟩
      have := indexAt_run (P := P) ht hte (a := ⟨b, 0, none⟩) (n := m) (cap := cap) (k := k) h0 h1 w'
      simp [execOp, ho, hv, ey, this, Addr.add_lit]
     ·rename_i st m g hl
      cases hb : (st == te.size) <;> simp only [hb, cond_true, cond_false] at h
      ·exact h.elim
      obtain rfl : st = te.size := by simpa using hb
      obtain ⟨hin, hφ⟩ := h
      rw [hA] at hin hφ
      obtain ⟨h0, h1⟩ := inB_spec hin
      rw [idxS_spec hy] at hφ
      obtain ⟨v, he, hr⟩ := hh.ent _ _ hl
      have dx2 : E id = some (a.eval x) := dx.1
      rw [he] at dx2; cases dx2
      exact q_index_sh ht hte ho hr ey h0 h1 hφ
     ·exact h.elim
    ·rename_i st m g n hx hy
     cases hb : (st == te.size) <;> simp only [hb, cond_true, cond_false] at h
     ·exact h.elim
     obtain rfl : st = te.size := by simpa using hb
     obtain ⟨hin, hφ⟩ := h
     rw [hA] at hin hφ
     obtain ⟨h0, h1⟩ := inB_spec hin
     rw [hx] at dx
     obtain ⟨k, ey⟩ := intOf_spec hy dy
     have hidx := idxS_spec hy
     rw [hidx] at hφ
     exact q_index_sh ht hte ho dx ey h0 h1 hφ
    ·exact h.elim
   ·exact h.elim
  ·rename_i m e hty
   rw [hty] at ht
   split at h
   ·rename_i te hte
    have hte := hC.ty _ _ hte
    split at h
    ·rename_i g k n hx hy
     rw [hx] at dx
     rw [hy] at dy
     split at h
     ·rename_i l hl
      cases hb : (decide (0 ≤ n) && decide (n < (m : Int)) && l.length == m * te.size) <;> simp only [hb, cond_true, cond_false] at h
      ·exact h.elim
      simp only [Bool.and_eq_true, decide_eq_true_eq, beq_iff_eq] at hb
      exact q_index_arr ht hte ho dx dy (hg _ _ hl) hb.2 hb.1.1 hb.1.2 h
     ·exact h.elim
    ·rename_i g k n hx hy
     rw [hx] at dx
     rw [hy] at dy
     split at h
     ·rename_i l hl
      cases hb : (l.length == m * te.size) <;> simp only [hb, cond_true, cond_false] at h
      ·exact h.elim
      obtain ⟨hin, h⟩ := h
      rw [hA] at hin h
      obtain ⟨h0, h1⟩ := inB_spec hin
      obtain ⟨i, hi, hi2, hq⟩ := caseN_spec (Nat.le_refl _) (by omega) h1 h
      subst hi
      exact q_index_arr ht hte ho dx dy (hg _ _ hl) (by simpa using hb) h0 h1 (by simpa [Tree.All, ret] using hq)
     ·exact h.elim
    ·exact h.elim
   ·exact h.elim
  ·exact h.elim
 ·exact h.elim
def binIntV (op : BinOp) (k : IntKind) (a b : Int) : Option Value :=
 match op with
 | .add => some (.int k (k.wrap (a + b)))
 | .sub => some (.int k (k.wrap (a - b)))
 | .mul => some (.int k (k.wrap (a * b)))
 | .eql => some (.bool (a == b))
 | .neq => some (.bool (!(a == b)))
 | .lss => some (.bool (decide (a < b)))
 | .leq => some (.bool (decide (a ≤ b)))
 | .gtr => some (.bool (decide (b < a)))
 | .geq => some (.bool (decide (b ≤ a)))
 | _ => none
theorem bin_int {op : BinOp} {k : IntKind} {a b : Int} {v : Value} (h : binIntV op k a b = some v) (t : Nat) (x y : Operand) (w : World) :
  (do eqGuard op t x y (.int k a) (.int k b); binOp op t (.int k a) (.int k b) : Sem Value).run P w = .ok v w := by
 cases op <;> simp [binIntV] at h <;> subst h <;> simp [eqGuard_at_int, binOp, Op.intArith, Op.intCmp, bne]
theorem bin_int_den {A : Prim} (hA : A = prim) {op : BinOp} {k : IntKind} {a b : Int} {sv : SV} (h : orO ((arithP A op k a b).map (.sym k)) ((cmpP A op a b).map .test) = some sv) :
  ∃ v, binIntV op k a b = some v ∧ Den H E sv v := by
 subst hA
 cases op <;> simp [arithP, cmpP, orO] at h <;> subst h <;> exact ⟨_, rfl, rfl⟩
theorem bin_int_denL {op : BinOp} {k : IntKind} {a b : Int} {sv : SV} (h : orO ((arithL op k a b).map (.int k)) ((cmpL op a b).map .bool) = some sv) :
  ∃ v, binIntV op k a b = some v ∧ Den H E sv v := by
 cases op <;> simp [arithL, cmpL, orO] at h <;> subst h <;> exact ⟨_, rfl, rfl⟩
theorem equal_bool {t : Nat} (hu : P.underlying t = some .bool) (a b : Bool) (w : World) : (Op.equal t (.bool a) (.bool b)).run P w = .ok (a == b) w := by
 have : ∀ d : Nat, (Op.equalIn (d + 1) t (.bool a) (.bool b)).run P w = .ok (a == b) w := fun d => by simp [Op.equalIn, run_underlying hu]
 exact this 9999
theorem bin_bool {t : Nat} (hu : P.underlying t = some .bool) (a b : Bool) (x y : Operand) (w : World) :
  (do eqGuard .eql t x y (.bool a) (.bool b); binOp .eql t (.bool a) (.bool b) : Sem Value).run P w = .ok (.bool (a == b)) w ∧
  (do eqGuard .neq t x y (.bool a) (.bool b); binOp .neq t (.bool a) (.bool b) : Sem Value).run P w = .ok (.bool (!(a == b))) w := by
 constructor <;> simp [eqGuard_at_bool, binOp, equal_bool hu]
theorem bytes_toList (l : List UInt8) : (⟨l.toArray⟩ : ByteArray).toList = l := Lib.toList_data _
theorem bin_str (l l' : List UInt8) (t : Nat) (x y : Operand) (w : World) :
  (do eqGuard .eql t x y (.string ⟨l.toArray⟩) (.string ⟨l'.toArray⟩); binOp .eql t (.string ⟨l.toArray⟩) (.string ⟨l'.toArray⟩) : Sem Value).run P w = .ok (.bool (l == l')) w ∧
  (do eqGuard .neq t x y (.string ⟨l.toArray⟩) (.string ⟨l'.toArray⟩); binOp .neq t (.string ⟨l.toArray⟩) (.string ⟨l'.toArray⟩) : Sem Value).run P w = .ok (.bool (!(l == l'))) w := by
 constructor <;> simp [eqGuard_at_string, binOp, Op.stringOp, bytes_toList]
theorem str_den {l : List UInt8} {v : Value} (h : Rep H (.str l) v) : v = .string ⟨l.toArray⟩ := by
 cases h; rfl
theorem eqS_run {A : Prim} (hA : A = prim) {op : BinOp} {l l' : List UInt8} {sv : SV} (h : eqS A op l l' = some sv) (t : Nat) (x y : Operand) :
  ∃ r, Den H E sv r ∧ ∀ w, (do eqGuard op t x y (.string ⟨l.toArray⟩) (.string ⟨l'.toArray⟩); binOp op t (.string ⟨l.toArray⟩) (.string ⟨l'.toArray⟩) : Sem Value).run P w = .ok r w := by
 subst hA
 cases op <;> simp [eqS] at h <;> subst h
 ·exact ⟨_, rfl, fun w => (bin_str l l' t x y w).1⟩
 ·exact ⟨_, rfl, fun w => (bin_str l l' t x y w).2⟩
theorem eqB_run {A : Prim} (hA : A = prim) {op : BinOp} {a b : Bool} {sv : SV} {t : Nat} (hu : P.underlying t = some .bool) (h : eqB A op a b = some sv) (x y : Operand) :
  ∃ r, Den H E sv r ∧ ∀ w, (do eqGuard op t x y (.bool a) (.bool b); binOp op t (.bool a) (.bool b) : Sem Value).run P w = .ok r w := by
 subst hA
 cases op <;> simp [eqB] at h <;> subst h
 ·exact ⟨_, rfl, fun w => (bin_bool hu a b x y w).1⟩
 ·exact ⟨_, rfl, fun w => (bin_bool hu a b x y w).2⟩
theorem intsOf_den : ∀ {l : List SV} {ns : List Int} {vs : List Value}, intsOf l = some ns → DenL H E l vs → vs = ns.map (Value.int .i64)
 | [], _, [], h, _ => by simp [intsOf] at h; subst h; rfl
 | s :: l, ns, v :: vs, h, ⟨hd, hr⟩ => by
  unfold intsOf at h
  split at h
  ·rename_i e; cases e
  ·rename_i n r e
   cases e
   cases hr2 : intsOf l with
   | none => simp [hr2] at h
   | some m => simp [hr2] at h; subst h; rw [intsOf_den hr2 hr]; simp only [Den] at hd; subst hd; rfl
  ·rename_i n r e
   cases e
   cases hr2 : intsOf l with
   | none => simp [hr2] at h
   | some m => simp [hr2] at h; subst h; rw [intsOf_den hr2 hr]; simp only [Den] at hd; subst hd; rfl
  ·cases h
 | [], _, _ :: _, _, h => h.elim
 | _ :: _, _, [], _, h => h.elim
theorem eqInts_prim : ∀ {xs ys : List Int}, xs.length = ys.length → eqInts prim xs ys = (xs == ys)
 | [], [], _ => rfl
 | x :: xs, y :: ys, h => by
  have ih := eqInts_prim (xs := xs) (ys := ys) (by simpa using h)
  simp only [eqInts, ih]
  simp only [prim, List.cons_beq_cons]
  cases (x == y) <;> rfl
 | [], _ :: _, h => by simp at h
 | _ :: _, [], h => by simp at h
theorem eq_fun {t : Nat} {ps rs : Array TypeId} {b : Bool} (hu : P.underlying t = some (.func ps rs b)) (f : Fn) (x y : Array Value) (w : World) :
  (Op.equal t (.func f x y) .nilFunc).run P w = .ok false w ∧ (Op.equal t .nilFunc .nilFunc).run P w = .ok true w := by
 have : ∀ d : Nat, (Op.equalIn (d + 1) t (.func f x y) .nilFunc).run P w = .ok false w ∧ (Op.equalIn (d + 1) t .nilFunc .nilFunc).run P w = .ok true w :=
  fun d => by constructor <;> simp [Op.equalIn, run_underlying hu]
 exact this 9999
theorem eq_ptr {t e : Nat} (hu : P.underlying t = some (.pointer e)) (a : Addr) (w : World) :
  (Op.equal t (.pointer (some a)) (.pointer none)).run P w = .ok false w ∧ (Op.equal t (.pointer none) (.pointer none)).run P w = .ok true w := by
 have : ∀ d : Nat, (Op.equalIn (d + 1) t (.pointer (some a)) (.pointer none)).run P w = .ok false w ∧ (Op.equalIn (d + 1) t (.pointer none) (.pointer none)).run P w = .ok true w :=
  fun d => by constructor <;> simp [Op.equalIn, run_underlying hu]
 exact this 9999
theorem eq_ifc {t : Nat} {ms : Array (String × TypeId)} (hu : P.underlying t = some (.interface ms)) (d : Nat) (u : Value) (w : World) :
  (Op.equal t (.iface d u) .nilIface).run P w = .ok false w ∧ (Op.equal t .nilIface (.iface d u)).run P w = .ok false w ∧ (Op.equal t .nilIface .nilIface).run P w = .ok true w := by
 have : ∀ n : Nat, (Op.equalIn (n + 1) t (.iface d u) .nilIface).run P w = .ok false w ∧ (Op.equalIn (n + 1) t .nilIface (.iface d u)).run P w = .ok false w ∧ (Op.equalIn (n + 1) t .nilIface .nilIface).run P w = .ok true w :=
  fun n => by refine ⟨?_, ?_, ?_⟩ <;> simp [Op.equalIn, run_underlying hu]
 exact this 9999
theorem isNil_run {op : BinOp} {r : Bool} {sv : SV} {t : Nat} {u v : Value} {ox oy : Operand} (h : isNilOp op r = some sv) (hg : eqGuard op t ox oy u v = pure ())
  (he : binOp .eql t u v = (do pure (.bool (← Op.equal t u v)))) (hn : binOp .neq t u v = (do pure (.bool (!(← Op.equal t u v))))) (hw : ∀ w, (Op.equal t u v).run P w = .ok r w) :
  ∃ r, Den H E sv r ∧ ∀ w, (do eqGuard op t ox oy u v; binOp op t u v : Sem Value).run P w = .ok r w := by
 cases op <;> simp [isNilOp] at h <;> subst h
 ·exact ⟨_, rfl, fun w => by simp [hg, he, hw]⟩
 ·exact ⟨_, rfl, fun w => by simp [hg, hn, hw]⟩
theorem rep_ifc {T : Nat} {x : Sh} {u : Value} (h : Rep H (.ifc T x) u) : ∃ v, u = .iface T v := by
 cases h; exact ⟨_, rfl⟩
theorem rep_er {g T : Nat} {u : Value} (h : Rep H (.er g T) u) : ∃ T v, u = .iface T v := by
 cases h; exact ⟨_, _, rfl⟩
theorem rep_er_same {g T : Nat} {u v : Value} (h : Rep H (.er g T) u) (h' : Rep H (.er g T) v) : ∃ b, u = .iface T (.pointer (some b)) ∧ v = u := by
 cases h with
 | er _ _ b cs e h1 h2 =>
  cases h' with
  | er _ _ b' cs' e' h1' h2' =>
   rw [h1] at h1'
   cases h1'
   exact ⟨b, rfl, rfl⟩
theorem eq_er {t T e : Nat} {ms : Array (String × TypeId)} {inf ie : TypeInfo} (hu : P.underlying t = some (.interface ms)) (h1 : P.info? T = some inf) (h2 : inf.comparable = true) (h3 : P.underlying T = some (.pointer e)) (h4 : P.info? e = some ie) (h5 : ie.size ≠ 0) (b : Addr) (w : World) :
  (Op.equal t (.iface T (.pointer (some b))) (.iface T (.pointer (some b)))).run P w = .ok true w := by
 have : ∀ n : Nat, (Op.equalIn (n + 2) t (.iface T (.pointer (some b))) (.iface T (.pointer (some b)))).run P w = .ok true w :=
  fun n => by simp [Op.equalIn, run_underlying hu, run_underlying h3, typeInfo, sizeOf, h1, h2, h4, h5, sameAddr]
 exact this 9998
theorem guard_nil {op : BinOp} {t : Nat} {ox oy : Operand} (h : (isConst ox || isConst oy) = true) : eqGuard op t ox oy .nilIface .nilIface = pure () := by
 cases ox <;> cases oy <;> simp [isConst] at h
 all_goals first
  | exact eqGuard_nil_constL _ _ _ _
  | exact eqGuard_nil_constR _ _ _ _
theorem nilEq_run {t : Nat} {op : BinOp} {x y : SV} {sv : SV} {u v : Value} {ox oy : Operand} (hC : CtxOK P C) (hg : GlobOK C.gls H) {i : TyI} (hi : C.tys.get t = some i)
  (dx : Den H E x u) (dy : Den H E y v) (h : nilS C.ers op i.ty (isConst ox || isConst oy) x y = some sv) :
  ∃ r, Den H E sv r ∧ ∀ w, ((isEr x && isEr y) = true → H.on w) → (do eqGuard op t ox oy u v; binOp op t u v : Sem Value).run P w = .ok r w := by
 have hd := (hC.ty _ _ hi).desc
 unfold nilS at h
 cases hb : (erTy C.ers x && tyFits i.ty x && tyFits i.ty y && ((isConst ox || isConst oy) || !(isNili x && isNili y))) <;> simp only [hb, cond_true, cond_false] at h
 ·cases h
 rw [Bool.and_eq_true, Bool.and_eq_true, Bool.and_eq_true] at hb
 obtain ⟨⟨⟨fe, fx⟩, fy⟩, hlit⟩ := hb
 have fin : (∃ r, Den H E sv r ∧ ∀ w, (do eqGuard op t ox oy u v; binOp op t u v : Sem Value).run P w = .ok r w) → ∃ r, Den H E sv r ∧ ∀ w, ((isEr x && isEr y) = true → H.on w) → (do eqGuard op t ox oy u v; binOp op t u v : Sem Value).run P w = .ok r w :=
  fun ⟨r, h1, h2⟩ => ⟨r, h1, fun w _ => h2 w⟩
 unfold nilEq at h
 split at h
 ·apply fin
  cases hty : i.ty <;> rw [hty] at fx hd <;> simp [tyFits] at fx
  obtain ⟨_, _, _, hd⟩ := hd
  obtain ⟨vs, rfl, _⟩ := dx
  obtain rfl : v = _ := dy
  exact isNil_run h (eqGuard_at_func ..) rfl rfl fun w => (eq_fun hd _ _ _ w).1
 ·apply fin
  cases hty : i.ty <;> rw [hty] at fx hd <;> simp [tyFits] at fx
  obtain ⟨_, _, _, hd⟩ := hd
  obtain rfl : u = _ := dx
  obtain rfl : v = _ := dy
  exact isNil_run h (eqGuard_at_nilFunc ..) rfl rfl fun w => (eq_fun hd (.func 0) #[] #[] w).2
 ·apply fin
  cases hty : i.ty <;> rw [hty] at fx hd <;> simp [tyFits] at fx
  obtain ⟨b, _, rfl⟩ := dx
  obtain rfl : v = _ := dy
  exact isNil_run h (eqGuard_at_pointer ..) rfl rfl fun w => (eq_ptr hd _ w).1
 ·apply fin
  cases hty : i.ty <;> rw [hty] at fx hd <;> simp [tyFits] at fx
  obtain ⟨b, o, cc, rfl, _⟩ := dx
  obtain rfl : v = _ := dy
  exact isNil_run h (eqGuard_at_pointer ..) rfl rfl fun w => (eq_ptr hd _ w).1
 ·apply fin
  cases hty : i.ty <;> rw [hty] at fx hd <;> simp [tyFits] at fx
  obtain ⟨rfl, _⟩ := dx
  obtain rfl : v = _ := dy
  exact isNil_run h (eqGuard_at_pointer ..) rfl rfl fun w => (eq_ptr hd _ w).1
 ·apply fin
  cases hty : i.ty <;> rw [hty] at fx hd <;> simp [tyFits] at fx
  obtain rfl : u = _ := dx
  obtain rfl : v = _ := dy
  exact isNil_run h (eqGuard_at_pointer ..) rfl rfl fun w => (eq_ptr hd ⟨0, 0, none⟩ w).2
 ·apply fin
  cases hty : i.ty <;> rw [hty] at fx hd <;> simp [tyFits] at fx
  obtain ⟨_, hd⟩ := hd
  obtain ⟨_, rfl, _⟩ := dx
  obtain rfl : v = _ := dy
  exact isNil_run h (eqGuard_at_iface ..) rfl rfl fun w => (eq_ifc hd _ _ w).1
 ·apply fin
  cases hty : i.ty <;> rw [hty] at fx hd <;> simp [tyFits] at fx
  obtain ⟨_, hd⟩ := hd
  obtain ⟨_, rfl⟩ := rep_ifc dx
  obtain rfl : v = _ := dy
  exact isNil_run h (eqGuard_at_iface ..) rfl rfl fun w => (eq_ifc hd _ _ w).1
 ·apply fin
  cases hty : i.ty <;> rw [hty] at fx hd <;> simp [tyFits] at fx
  obtain ⟨_, hd⟩ := hd
  obtain ⟨_, _, rfl⟩ := rep_er dx
  obtain rfl : v = _ := dy
  exact isNil_run h (eqGuard_at_iface ..) rfl rfl fun w => (eq_ifc hd _ _ w).1
 ·apply fin
  cases hty : i.ty <;> rw [hty] at fx hd <;> simp [tyFits] at fx
  obtain ⟨_, hd⟩ := hd
  obtain rfl : u = _ := dx
  obtain rfl : v = _ := dy
  exact isNil_run h (guard_nil (by simpa [isNili] using hlit)) rfl rfl fun w => (eq_ifc hd 0 .nilFunc w).2.2
 ·rename_i g T g' T'
  apply fin
  cases hgg : (g == g' && T == T') <;> simp only [hgg, cond_true, cond_false] at h
  ·cases h
  simp only [Bool.and_eq_true, beq_iff_eq] at hgg
  obtain ⟨rfl, rfl⟩ := hgg
  cases hty : i.ty <;> rw [hty] at fx hd <;> simp [tyFits] at fx
  obtain ⟨_, hd⟩ := hd
  obtain ⟨b, rfl, rfl⟩ := rep_er_same dx dy
  obtain ⟨inf, e, ie, q1, q2, q3, q4, q5⟩ := hC.ers T fe
  exact isNil_run h (eqGuard_at_iface ..) rfl rfl fun w => eq_er hd q1 q2 q3 q4 q5 b w
 ·apply fin
  cases hty : i.ty <;> rw [hty] at fx hd <;> simp [tyFits] at fx
  obtain ⟨_, hd⟩ := hd
  obtain rfl : u = _ := dx
  obtain ⟨_, _, rfl⟩ := rep_er dy
  exact isNil_run h (eqGuard_nil_iface ..) rfl rfl fun w => (eq_ifc hd _ _ w).2.1
 ·cases h
theorem q_binOp {c : Core} {a : Act} {o : Oper} {op : BinOp} {t t2 : Nat} {x y : Operand} {φ : SV × Core → Prop} (hC : CtxOK P C) (hg : GlobOK C.gls H) (ho : o.op = .binOp op t x y t2) (hd : DenL H E c.tm a.tmps.toList)
  (h : (retO c (binS C op t (isConst x || isConst y) (evL c.tm x) (evL c.tm y))).All φ) : ∃ (p : SV × Core) (v : Value), φ p ∧ p.2 = c ∧ Den H E p.1 v ∧ ∀ w', ((isEr (evL c.tm x) && isEr (evL c.tm y)) = true → H.on w') → (execOp a.eval o).run P w' = .ok (.value v) w' := by
 obtain ⟨sv, hs, hφ⟩ := retO_all h
 have dx := den_ev (H := H) (E := E) hd x
 have dy := den_ev (H := H) (E := E) hd y
 have hA := hC.A
 suffices hk : ∃ r, Den H E sv r ∧ ∀ w, ((isEr (evL c.tm x) && isEr (evL c.tm y)) = true → H.on w) → (do eqGuard op t x y (a.eval x) (a.eval y); binOp op t (a.eval x) (a.eval y) : Sem Value).run P w = .ok r w by
  obtain ⟨r, h1, h2⟩ := hk
  refine ⟨_, r, hφ, rfl, h1, fun w' hon => ?_⟩
  have := h2 w' hon
  simp only [execOp, ho]
  simp only [Sem.run_bind] at this ⊢
  rw [this]; rfl
 generalize hu : a.eval x = u at dx ⊢
 generalize hv : a.eval y = v at dy ⊢
 unfold binS at hs
 split at hs
 case h_1 k n l m hx hy =>
  rw [hx] at dx; rw [hy] at dy
  cases hb : (k == l) <;> simp only [hb, cond_true, cond_false] at hs
  ·cases hs
  obtain rfl : k = l := by simpa using hb
  obtain ⟨r, hr, hden⟩ := bin_int_denL (H := H) (E := E) hs
  simp only [Den] at dx dy; subst dx; subst dy
  exact ⟨r, hden, fun w _ => bin_int hr t x y w⟩
 case h_2 k n l m hx hy =>
  rw [hx] at dx; rw [hy] at dy
  cases hb : (k == l) <;> simp only [hb, cond_true, cond_false] at hs
  ·cases hs
  obtain rfl : k = l := by simpa using hb
  obtain ⟨r, hr, hden⟩ := bin_int_den (H := H) (E := E) hA hs
  simp only [Den] at dx dy; subst dx; subst dy
  exact ⟨r, hden, fun w _ => bin_int hr t x y w⟩
 case h_3 k n l m hx hy =>
  rw [hx] at dx; rw [hy] at dy
  cases hb : (k == l) <;> simp only [hb, cond_true, cond_false] at hs
  ·cases hs
  obtain rfl : k = l := by simpa using hb
  obtain ⟨r, hr, hden⟩ := bin_int_den (H := H) (E := E) hA hs
  simp only [Den] at dx dy; subst dx; subst dy
  exact ⟨r, hden, fun w _ => bin_int hr t x y w⟩
 case h_4 k n l m hx hy =>
  rw [hx] at dx; rw [hy] at dy
  cases hb : (k == l) <;> simp only [hb, cond_true, cond_false] at hs
  ·cases hs
  obtain rfl : k = l := by simpa using hb
  obtain ⟨r, hr, hden⟩ := bin_int_den (H := H) (E := E) hA hs
  simp only [Den] at dx dy; subst dx; subst dy
  exact ⟨r, hden, fun w _ => bin_int hr t x y w⟩
 case h_5 k l hx hy =>
  rw [hx] at dx; rw [hy] at dy
  simp only [Den] at dx dy; subst dx; subst dy
  cases op <;> simp at hs <;> subst hs
  ·exact ⟨_, rfl, fun w _ => (bin_str k l t x y w).1⟩
  ·exact ⟨_, by simp [Den, bne], fun w _ => (bin_str k l t x y w).2⟩
 case h_6 k l hx hy =>
  rw [hx] at dx; rw [hy] at dy
  obtain rfl := str_den dy
  simp only [Den] at dx; subst dx
  obtain ⟨r, h1, h2⟩ := eqS_run (P := P) (H := H) (E := E) hA hs t x y
  exact ⟨r, h1, fun w _ => h2 w⟩
 case h_7 k l hx hy =>
  rw [hx] at dx; rw [hy] at dy
  obtain rfl := str_den dx
  simp only [Den] at dy; subst dy
  obtain ⟨r, h1, h2⟩ := eqS_run (P := P) (H := H) (E := E) hA hs t x y
  exact ⟨r, h1, fun w _ => h2 w⟩
 case h_8 k l hx hy =>
  rw [hx] at dx; rw [hy] at dy
  obtain rfl := str_den dx
  obtain rfl := str_den dy
  obtain ⟨r, h1, h2⟩ := eqS_run (P := P) (H := H) (E := E) hA hs t x y
  exact ⟨r, h1, fun w _ => h2 w⟩
 case h_9 k l hx hy =>
  rw [hx] at dx; rw [hy] at dy
  obtain ⟨vs, rfl, dl⟩ := dx
  obtain ⟨vs', rfl, dl'⟩ := dy
  split at hs
  ·rename_i m n i hm hn hi
   cases hb : (C.eqs.contains t && m.length == i.size && n.length == i.size) <;> simp only [hb, cond_true, cond_false] at hs
   ·cases hs
   simp only [Bool.and_eq_true, beq_iff_eq] at hb
   obtain ⟨⟨h1, h2⟩, h3⟩ := hb
   have e1 := intsOf_den hm dl
   have e2 := intsOf_den hn dl'
   have e1' : vs = (m.map (Value.int .i64)).toArray := by rw [← e1]
   have e2' : vs' = (n.map (Value.int .i64)).toArray := by rw [← e2]
   subst e1' e2'
   have hE := fun w => hC.eqs t i h1 hi m n w h2 h3 x y
   have hq := eqInts_prim (xs := m) (ys := n) (by omega)
   rw [hA] at hs
   cases op <;> simp at hs <;> subst hs
   ·exact ⟨_, rfl, fun w _ => by rw [hq]; exact (hE w).1⟩
   ·exact ⟨_, rfl, fun w _ => by rw [show prim.nt (eqInts prim m n) = !(m == n) by rw [hq]; rfl]; exact (hE w).2⟩
  ·cases hs
 case h_10 =>
  split at hs
  ·cases hs
  ·rename_i i hi
   split at hs
   ·rename_i hty
    have ht := (hC.ty _ _ hi).desc
    rw [hty] at ht
    have fin : (∃ r, Den H E sv r ∧ ∀ w, (do eqGuard op t x y u v; binOp op t u v : Sem Value).run P w = .ok r w) → ∃ r, Den H E sv r ∧ ∀ w, ((isEr (evL c.tm x) && isEr (evL c.tm y)) = true → H.on w) → (do eqGuard op t x y u v; binOp op t u v : Sem Value).run P w = .ok r w :=
     fun ⟨r, h1, h2⟩ => ⟨r, h1, fun w _ => h2 w⟩
    apply fin
    unfold boolS at hs
    split at hs
    ·rename_i p q hp hq
     rw [hp] at dx; rw [hq] at dy
     simp only [Den] at dx dy; subst dx dy
     cases op <;> simp at hs <;> subst hs
     ·exact ⟨_, rfl, fun w => (bin_bool ht p q x y w).1⟩
     ·exact ⟨_, by simp [Den, bne], fun w => (bin_bool ht p q x y w).2⟩
    all_goals first
     |(rename_i p q hp hq
       rw [hp] at dx; rw [hq] at dy
       simp only [Den] at dx dy; subst dx dy
       exact eqB_run hA ht hs x y)
     | cases hs
   ·exact nilEq_run hC hg hi dx dy hs
theorem den_cells_of {x : SV} {u : Value} (hk : x.okc = true) (h : Den H E x u) : DenL H E x.cells u.cells.toList := by
 cases x
 case any => simp [SV.okc] at hk
 case ev => simp [SV.okc] at hk
 case agg l => obtain ⟨vs, rfl, hl⟩ := h; exact hl
 case sh s =>
  have h' := h
  have h : Rep H s u := h
  have key : u.cells = #[u] := by
   cases h
   case agg l vs a1 a2 => simp [SV.okc] at hk
   case v h1 => cases u <;> simp [Value.oneCell', Value.cells] at h1 ⊢
   all_goals rfl
  rw [key]; exact ⟨h', trivial⟩
 all_goals
  have h' := h
  have key : u.cells = #[u] := by
   first
    |(simp only [Den] at h; subst h; rfl)
    |(obtain ⟨rfl, h1⟩ := h; cases u <;> simp [Value.oneCell', Value.cells] at h1 ⊢; done)
    |(obtain ⟨_, _, rfl⟩ := h; rfl)
    |(obtain ⟨_, _, _, _, rfl⟩ := h; rfl)
    |(obtain ⟨_, _, _, _, _, rfl⟩ := h; rfl)
    |(obtain ⟨_, rfl, _⟩ := h; rfl)
    |(obtain ⟨_, _, _, rfl, _⟩ := h; rfl)
  rw [key]; exact ⟨h', trivial⟩
theorem den_setAt : ∀ {xs : List SV} {vs : List Value}, DenL H E xs vs → ∀ {z : List SV} {cells : Array Value} (off k : Nat), DenL H E z cells.toList →
  DenL H E (setAt z (off + k) xs) ((vs.zipIdx k).foldl (fun (cs : Array Value) (p : Value × Nat) => cs.setIfInBounds (off + p.2) p.1) cells).toList
 | [], [], _, _, _, _, _, hz => hz
 | x :: xs, v :: vs, ⟨hx, hxs⟩, z, cells, off, k, hz => by
  simp only [setAt, List.zipIdx_cons, List.foldl_cons]
  have := den_setAt hxs (z := z.set (off + k) x) (cells := cells.setIfInBounds (off + k) v) off (k + 1) (by rw [Array.toList_setIfInBounds]; exact hz.set _ hx)
  simpa [Nat.add_assoc] using this
 | [], _ :: _, h, _, _, _, _, _ => h.elim
 | _ :: _, [], h, _, _, _, _, _ => h.elim
theorem length_setAt : ∀ (xs z : List SV) (off : Nat), (setAt z off xs).length = z.length
 | [], _, _ => rfl
 | x :: xs, z, off => by rw [setAt, length_setAt xs]; simp
theorem fill_den {place place' : Nat → Option (Nat × Nat)} (hp : ∀ (i off size : Nat), place' i = some (off, size) → place i = some (off, size)) {tm : List SV} {a : Act} (hd : DenL H E tm a.tmps.toList) :
  ∀ (parts : List (Nat × Operand)) {z l : List SV} {cells : Array Value}, DenL H E z cells.toList → fillP place' (evL tm) z parts = some l →
   ∃ cells', Instr.fill place cells (parts.map fun p => (p.1, a.eval p.2)) = some cells' ∧ DenL H E l cells'.toList
 | [], z, l, cells, hz, h => by simp [fillP] at h; subst h; exact ⟨cells, rfl, hz⟩
 |(i, x) :: r, z, l, cells, hz, h => by
  unfold fillP at h
  split at h
  ·rename_i off size hpl
   cases hb : ((evL tm x).okc && (evL tm x).cells.length == size && Nat.ble (off + size) z.length) <;> simp only [hb, cond_true, cond_false] at h
   ·cases h
   simp only [Bool.and_eq_true, beq_iff_eq] at hb
   obtain ⟨⟨h1, h2⟩, h3⟩ := hb
   have h3 := Nat.le_of_ble_eq_true h3
   have hv := den_cells_of h1 (den_ev hd x)
   have hlv := hv.length
   have hlz := hz.length
   have := den_setAt hv (z := z) (cells := cells) off 0 hz
   obtain ⟨cells', e1, e2⟩ := fill_den hp hd r this h
   refine ⟨cells', ?_, e2⟩
   simp only [List.map_cons, Instr.fill, hp _ _ _ hpl]
   rw [if_neg]
   ·rw [← e1, ← Array.foldl_toList, Array.toList_zipIdx]
   ·simp only [Array.length_toList] at hlv hlz
    simp only [Bool.or_eq_true, decide_eq_true_eq, not_or]
    constructor
    ·simp; omega
    ·omega
  ·cases h
theorem places_run : ∀ (fs : List Field) (ps : List (Nat × Nat × Bool)), fs.length = ps.length → (∀ (j : Nat) (f : Field), fs[j]? = some f → ∃ inf : TypeInfo, P.info? f.type = some inf ∧ ∃ b, ps[j]? = some (f.offset, inf.size, b)) →
  fs.mapM (fun f => (P.info? f.type).map fun i => (f.offset, i.size)) = some (ps.map fun p => (p.1, p.2.1))
 | [], [], _, _ => rfl
 | f :: fs, p :: ps, hl, h => by
  obtain ⟨inf, h1, b, h2⟩ := h 0 f rfl
  have ih := places_run fs ps (by simpa using hl) fun j f' hf => h (j + 1) f' (by simpa using hf)
  simp at h2
  subst h2
  simp [List.mapM_cons, h1, ih]
 | [], _ :: _, h, _ => by simp at h
 | _ :: _, [], h, _ => by simp at h
theorem q_build {c : Core} {a : Act} {o : Oper} {t : Nat} {parts : Array (Nat × Operand)} {φ : SV × Core → Prop} (hC : CtxOK P C) (ho : o.op = .build t parts) (hd : DenL H E c.tm a.tmps.toList)
  (h : (execBuild C c t parts.toList).All φ) : QP P H E c a o φ := by
 unfold execBuild at h
 split at h
 ·rename_i i hi
  have ht := hC.ty _ _ hi
  split at h
  ·rename_i fs hty
   have hdsc := ht.desc
   rw [hty] at hdsc
   obtain ⟨fields, hu, hf⟩ := hdsc
   split at h
   ·rename_i l hl
    obtain ⟨inf, z, h1, h2, _, h4, h5, h6, _⟩ := ht.info
    have h5' : DenL H E i.zero z.cells.toList := h5.le (fun _ _ e => by cases e) (fun _ _ e => by cases e)
    obtain ⟨cells', e1, e2⟩ := fill_den (place := fun x => (fs.map fun p => (p.1, p.2.1))[x]?) (fun j off size e => by
     simp only [Option.map_eq_some_iff] at e
     obtain ⟨⟨p1, p2, p3⟩, e1, e2⟩ := e
     simp only [Prod.mk.injEq] at e2
     simp [List.getElem?_map, e1, e2]) hd parts.toList h5' hl
    refine ⟨_, .agg cells', h, rfl, ⟨cells', rfl, e2⟩, fun w' => ?_⟩
    have hp := places_run (P := P) fields.toList fs (by simpa using hf.1) (fun j f hj => by
     obtain ⟨inf', a1, a2, _⟩ := hf.2 j f (by simpa using hj)
     exact ⟨inf', a1, _, a2⟩)
    have hb : P.built t (parts.map fun p => (p.1, a.eval p.2)).toList = some cells' := by
     unfold Program.built
     rw [Array.toList_map]
     simp only [h1, hu, h4, hp]
     simpa using e1
    have := run_build (P := P) w' t _ _ hb
    simp only [execOp, ho]
    simp only [Sem.run_bind] at this ⊢
    rw [this]; rfl
   ·exact h.elim
  ·exact h.elim
 ·exact h.elim
end
end Go.Sx
namespace Go.Sx
section
variable {P : Program} {C : Ctx} {K : Kx} {H : Mem} {E : Env} {w : World}
theorem q_makeInterface {c : Core} {a : Act} {o : Oper} {t : Nat} {x : Operand} {φ : SV × Core → Prop} (hC : CtxOK P C) (ho : o.op = .makeInterface t x) (hd : DenL H E c.tm a.tmps.toList)
  (h : (match C.ty t with
   | some i => match i.ty with
    | .iface => .fail
    | .other => .fail
    | _ => ret c (.ifc t (evL c.tm x))
   | none => .fail : Tree (SV × Core)).All φ) : QP P H E c a o φ := by
 have dx := den_ev (H := H) (E := E) hd x
 split at h
 ·rename_i i hi
  have ht := (hC.ty _ _ hi).desc
  have key : ∀ d, P.underlying t = some d → (∀ ms, d ≠ .interface ms) → φ (.ifc t (evL c.tm x), c) → QP P H E c a o φ := fun d hu hne hφ =>
   ⟨_, .iface t (a.eval x), hφ, rfl, ⟨_, rfl, dx⟩, fun w' => by
    simp only [execOp, ho, Instr.makeInterface, Sem.run_bind, run_underlying hu, Result.andThen_ok]
    cases d <;> simp_all⟩
  split at h
  ·exact h.elim
  ·exact h.elim
  ·rename_i ty hne1 hne2
   cases hty : i.ty <;> rw [hty] at ht hne1 hne2
   case iface => exact (hne1 rfl).elim
   case other => exact (hne2 rfl).elim
   case fn => obtain ⟨_, _, _, ht⟩ := ht; exact key _ ht (by simp) h
   case struct => obtain ⟨_, ht, _⟩ := ht; exact key _ ht (by simp) h
   all_goals exact key _ ht (by simp) h
 ·exact h.elim
/-! len, max, min. -/
theorem q_builtin {c : Core} {a : Act} {o : Oper} {b : Builtin} {xs : Array Operand} {ts : Array TypeId} {sv : SV} {φ : SV × Core → Prop} (ho : o.op = .call { callee := .builtin b, args := xs, argTypes := ts })
  (h : φ (sv, c)) {v : Value} (hv : Den H E sv v) (hr : ∀ w', ∀ cs, (builtin b ts o.type cs (xs.map a.eval)).run P w' = .ok (.value v) w') : QP P H E c a o φ :=
 ⟨_, v, h, rfl, hv, fun w' => by
  simp only [execOp, ho, resolve]
  simp [invoke, hr w']⟩
theorem lenS_spec {hp : List (Nat × SB)} {A : Prim} (hA : A = prim) {x sv : SV} {u : Value} (hh : HeapOK K H E w hp) (h : lenS A hp x = some sv) (dx : Den H E x u) :
  (∃ A n c, u = .slice A n c ∧ Den H E sv (.int .i64 n)) ∨ (∃ l, u = .string ⟨List.toArray l⟩ ∧ Den H E sv (.int .i64 l.length)) := by
 subst hA
 unfold lenS at h
 split at h
 ·rename_i id
  obtain ⟨he, A, n, cc, rfl⟩ := dx
  split at h
  ·rename_i cells el st m hl
   cases h
   obtain ⟨v, xs, he', hr, _, _⟩ := hh.ent _ _ hl
   rw [he] at he'; cases he'
   have := lenV_row hr
   simp only [lenV] at this; subst this
   exact .inl ⟨_, _, _, rfl, rfl⟩
  ·rename_i el st m g hl
   cases h
   obtain ⟨v, xs, he', hr, _, _⟩ := hh.ent _ _ hl
   rw [he] at he'; cases he'
   have := lenV_row hr
   simp only [lenV] at this; subst this
   exact .inl ⟨_, _, _, rfl, rfl⟩
  ·rename_i el st m g more hl
   cases h
   obtain ⟨v, xs, ys, he', hr, _⟩ := hh.ent _ _ hl
   rw [he] at he'; cases he'
   have := lenV_row hr
   simp only [lenV] at this; subst this
   exact .inl ⟨_, _, _, rfl, rfl⟩
  ·rename_i st m g hl
   cases h
   obtain ⟨v, he', hr⟩ := hh.ent _ _ hl
   rw [he] at he'; cases he'
   cases hr
   ·exact .inl ⟨_, _, _, rfl, rfl⟩
   ·exact .inl ⟨_, _, _, rfl, rfl⟩
  ·rename_i el l hl
   cases h
   obtain ⟨v, he', hr, _⟩ := hh.ent _ _ hl
   rw [he] at he'; cases he'
   rcases hr with ⟨h1, rfl⟩ | ⟨g, cap, cur, fz, h1, _⟩
   ·cases h1; exact .inl ⟨_, _, _, rfl, rfl⟩
   ·cases h1; exact .inl ⟨_, _, _, rfl, rfl⟩
  ·cases h
 ·cases h
  obtain ⟨A, m, c, _, _, rfl⟩ := dx
  exact .inl ⟨_, _, _, rfl, rfl⟩
 ·cases h
  cases dx
  ·exact .inl ⟨_, _, _, rfl, rfl⟩
  ·exact .inl ⟨_, _, _, rfl, rfl⟩
 ·cases h
  simp only [Den] at dx; subst dx
  exact .inl ⟨_, _, _, rfl, rfl⟩
 ·cases h
  simp only [Den] at dx; subst dx
  exact .inr ⟨_, rfl, rfl⟩
 ·cases h
  cases dx
  exact .inr ⟨_, rfl, rfl⟩
 ·cases h
theorem den_len_ty {C : Ctx} {t : Nat} {i : TyI} {xs : Array Operand} {u : Value} (ht : TyOK P t i) (h : (i.ty = .str ∧ ∃ l, u = .string ⟨List.toArray l⟩) ∨ ((∃ e, i.ty = .slice e) ∧ ∃ A n c, u = .slice A n c)) (w : World) (ty : Nat) :
  ∃ n : Int, (Builtin.len_ #[t] ty #[u]).run P w = .ok (.int .i64 n) w ∧ ((∃ A m c, u = .slice A m c ∧ n = m) ∨ (∃ l, u = .string ⟨List.toArray l⟩ ∧ n = l.length)) := by
 have hd := ht.desc
 rcases h with ⟨hty, l, rfl⟩ | ⟨⟨e, hty⟩, A, n, c, rfl⟩
 ·rw [hty] at hd
  exact ⟨l.length, by simp [Builtin.len_, run_underlying (show P.underlying t = some .string from hd)]; rfl, .inr ⟨l, rfl, rfl⟩⟩
 ·rw [hty] at hd
  exact ⟨n, by simp [Builtin.len_, run_underlying (show P.underlying t = some (.slice e) from hd), goInt], .inl ⟨_, _, _, rfl, rfl⟩⟩
theorem max_run {k : IntKind} {a b : Int} (ts : Array TypeId) (ty : Nat) (w : World) :
  (Builtin.max_ ts ty #[.int k a, .int k b]).run P w = .ok (.int k (if b > a then b else a)) w ∧ (Builtin.min_ ts ty #[.int k a, .int k b]).run P w = .ok (.int k (if b < a then b else a)) w := by
 constructor
 ·simp [Builtin.max_, Builtin.max2]
 ·simp [Builtin.min_, Builtin.min2]
theorem kindInt_spec {x : SV} {u : Value} {k : IntKind} {n : Int} {l : Bool} (hk : kindInt x = some (k, n, l)) (hd : Den H E x u) : u = .int k n := by
 cases x <;> simp [kindInt] at hk
 all_goals (obtain ⟨rfl, rfl, rfl⟩ := hk; exact hd)
theorem maxS_spec {A : Prim} (hA : A = prim) {mx : Bool} {x y sv : SV} {u v : Value} (h : maxS A mx x y = some sv) (dx : Den H E x u) (dy : Den H E y v) :
  ∃ (k : IntKind) (a b : Int), u = .int k a ∧ v = .int k b ∧ Den H E sv (.int k (bif mx then (if b > a then b else a) else (if b < a then b else a))) := by
 subst hA
 unfold maxS at h
 have kd : ∀ {x : SV} {u : Value} {k : IntKind} {n : Int} {l : Bool}, kindInt x = some (k, n, l) → Den H E x u → u = .int k n := by
  intro x u k n l hk hd
  cases x <;> simp [kindInt] at hk
  all_goals (obtain ⟨rfl, rfl, rfl⟩ := hk; exact hd)
 split at h
 ·rename_i k a la l b lb e1 e2
  cases hb : (k == l) <;> simp only [hb, cond_true, cond_false] at h
  ·cases h
  obtain rfl : k = l := by simpa using hb
  refine ⟨k, a, b, kd e1 dx, kd e2 dy, ?_⟩
  cases hl : (la && lb) <;> simp only [hl, cond_true, cond_false, Option.some.injEq] at h <;> subst h
  ·cases mx <;> rfl
  ·cases mx
   ·simp only [cond_false, Den, Value.int.injEq, true_and]
    cases hd : decide (b < a) <;> simp at hd <;> simp [hd]
    omega
   ·simp only [cond_true, Den, Value.int.injEq, true_and]
    cases hd : decide (a < b) <;> simp at hd <;> simp [hd]
    omega
 ·cases h
theorem lenFits_spec {ty : Ty} {x : SV} {u : Value} (h : lenFits ty x = true) (dx : Den H E x u) : (ty = .str ∧ ∃ l, u = .string ⟨List.toArray l⟩) ∨ ((∃ e, ty = .slice e) ∧ ∃ A n c, u = .slice A n c) := by
 unfold lenFits at h
 split at h
 ·exact .inl ⟨rfl, _, dx⟩
 ·exact .inl ⟨rfl, _, str_den dx⟩
 ·obtain ⟨_, h⟩ := dx; exact .inr ⟨⟨_, rfl⟩, h⟩
 ·refine .inr ⟨⟨_, rfl⟩, ?_⟩
  cases dx <;> exact ⟨_, _, _, rfl⟩
 ·obtain rfl : u = _ := dx; exact .inr ⟨⟨_, rfl⟩, _, _, _, rfl⟩
 ·obtain ⟨A, m, c, _, _, rfl⟩ := dx; exact .inr ⟨⟨_, rfl⟩, _, _, _, rfl⟩
 ·cases h
theorem q_len {c : Core} {a : Act} {o : Oper} {x : Operand} {t : Nat} {i : TyI} {φ : SV × Core → Prop} (hC : CtxOK P C) (hd : DenL H E c.tm a.tmps.toList) (hh : HeapOK K H E w c.hp)
  (ho : o.op = .call { callee := .builtin .len, args := #[x], argTypes := #[t] }) (hi : C.tys.get t = some i) (hf : lenFits i.ty (evL c.tm x) = true)
  (h : (retO c (lenS C.A c.hp (evL c.tm x))).All φ) : QP P H E c a o φ := by
 have dx := den_ev (H := H) (E := E) hd x
 obtain ⟨sv, hs, hφ⟩ := retO_all h
 have hl := lenS_spec hC.A hh hs dx
 have ht := hC.ty _ _ hi
 have hcase := lenFits_spec hf dx
 rcases hl with ⟨A, n, cc, e, hden⟩ | ⟨l, e, hden⟩
 ·refine q_builtin ho hφ hden fun w' cs => ?_
  obtain ⟨m, h1, h2⟩ := den_len_ty (C := C) (xs := #[x]) ht hcase w' o.type
  rcases h2 with ⟨A', m', c', e', rfl⟩ | ⟨l', e', _⟩
  ·rw [e] at e'; cases e'
   rw [e] at h1
   simp [builtin, e, h1]
  ·rw [e] at e'; cases e'
 ·refine q_builtin ho hφ hden fun w' cs => ?_
  obtain ⟨m, h1, h2⟩ := den_len_ty (C := C) (xs := #[x]) ht hcase w' o.type
  rcases h2 with ⟨A', m', c', e', _⟩ | ⟨l', e', rfl⟩
  ·rw [e] at e'; cases e'
  ·rw [e] at e'; cases e'
   rw [e] at h1
   simp [builtin, e, h1]
theorem q_max {c : Core} {a : Act} {o : Oper} {x y : Operand} {ts : Array TypeId} {mx : Bool} {φ : SV × Core → Prop} (hC : CtxOK P C) (hd : DenL H E c.tm a.tmps.toList)
  (ho : o.op = .call { callee := .builtin (bif mx then .max else .min), args := #[x, y], argTypes := ts }) (h : (retO c (maxS C.A mx (evL c.tm x) (evL c.tm y))).All φ) : QP P H E c a o φ := by
 obtain ⟨sv, hs, hφ⟩ := retO_all h
 obtain ⟨k, m, n, ex, ey, hden⟩ := maxS_spec hC.A hs (den_ev hd x) (den_ev hd y)
 refine q_builtin ho hφ hden fun w' cs => ?_
 have := max_run (P := P) (k := k) (a := m) (b := n) ts o.type w'
 cases mx
 ·simp [builtin, ex, ey, this.2]
 ·simp [builtin, ex, ey, this.1]
/-! A lookup in a map whose keys are ints. -/
theorem denM_find {kk : IntKind} {n : Int} : ∀ {es : List (SV × SV)} {ms : List MapEntry} {r : Option SV} (j : Nat), findLit kk n es = some r → DenM H E es ms →
  (r = none ∧ Instr.findNow (.int kk) (.int kk n) ms j = some none) ∨ (∃ sv i v, r = some sv ∧ Instr.findNow (.int kk) (.int kk n) ms j = some (some (i, v)) ∧ Den H E sv v)
 | [], [], r, j, h, _ => by simp [findLit] at h; exact .inl ⟨h.symm, rfl⟩
 |(k, v) :: es, m :: ms, r, j, h, ⟨h1, h2, h3⟩ => by
  unfold findLit at h
  split at h
  ·rename_i e; cases e
  ·rename_i l p u es' e
   simp only [List.cons.injEq, Prod.mk.injEq] at e
   obtain ⟨⟨rfl, rfl⟩, rfl⟩ := e
   have h1 : m.key = .int l p := h1
   cases hb : (l == kk) <;> simp only [hb, cond_true, cond_false] at h
   ·cases h
   obtain rfl : l = kk := by simpa using hb
   cases hp : (p == n) <;> simp only [hp, cond_true, cond_false] at h
   ·have hne : (n == p) = false := by simp at hp ⊢; exact fun e => hp e.symm
    rcases denM_find (j + 1) h h3 with ⟨e1, e2⟩ | ⟨sv, i, v', e1, e2, e3⟩
    ·exact .inl ⟨e1, by simp [Instr.findNow, h1, Instr.sameNow, hne, e2]⟩
    ·exact .inr ⟨sv, i, v', e1, by simp [Instr.findNow, h1, Instr.sameNow, hne, e2], e3⟩
   ·cases h
    have : p = n := by simpa using hp
    subst this
    exact .inr ⟨v, j, m.val, rfl, by simp [Instr.findNow, h1, Instr.sameNow], h2⟩
  ·cases h
 | [], _ :: _, _, _, _, h => h.elim
 | _ :: _, [], _, _, _, h => h.elim
theorem denM_sym {kk : IntKind} {n : Int} {A : Prim} (hA : A = prim) {f : SV → Bool → Tree (SV × Core)} {z : SV} {φ : SV × Core → Prop} : ∀ {es : List (SV × SV)} {ms : List MapEntry} (j : Nat), (findSym A kk n z f es).All φ → DenM H E es ms →
  (Instr.findNow (.int kk) (.int kk n) ms j = some none ∧ (f z false).All φ) ∨ (∃ sv i v, (f sv true).All φ ∧ Instr.findNow (.int kk) (.int kk n) ms j = some (some (i, v)) ∧ Den H E sv v)
 | [], [], j, h, _ => .inl ⟨rfl, h⟩
 |(k, v) :: es, m :: ms, j, h, ⟨h1, h2, h3⟩ => by
  unfold findSym at h
  split at h
  ·rename_i e; cases e
  ·rename_i l p u es' e
   simp only [List.cons.injEq, Prod.mk.injEq] at e
   obtain ⟨⟨rfl, rfl⟩, rfl⟩ := e
   have h1 : m.key = .int l p := h1
   cases hb : (l == kk) <;> simp only [hb, cond_true, cond_false] at h
   ·exact h.elim
   obtain rfl : l = kk := by simpa using hb
   subst hA
   cases hp : (n == p)
   ·rcases denM_sym rfl (j + 1) (h.2 hp) h3 with ⟨e1, e2⟩ | ⟨sv, i, v', e1, e2, e3⟩
    ·exact .inl ⟨by simp [Instr.findNow, h1, Instr.sameNow, hp, e1], e2⟩
    ·exact .inr ⟨sv, i, v', e1, by simp [Instr.findNow, h1, Instr.sameNow, hp, e2], e3⟩
   ·exact .inr ⟨v, j, m.val, h.1 hp, by simp [Instr.findNow, h1, Instr.sameNow, hp], h2⟩
  ·exact h.elim
 | [], _ :: _, _, _, h => h.elim
 | _ :: _, [], _, _, h => h.elim
def PV (H : Mem) (E : Env) (p : Bool) (sv : SV) (o : Option Value) : Prop :=
 match p, o with | true, some v => Den H E sv v ∧ v.oneCell' = true | false, none => True | _, _ => False
def assocV : List (Int × Option Value) → Int → Option (Option Value)
 | [], _ => none
 |(n, o) :: r, k => if k = n then some o else assocV r k
theorem assocV_ovr {M : Int → Option Value} {fv : List (Int × Option Value)} (hM : ∀ n o, (n, o) ∈ fv → M n = o) {k : Int} {o : Option Value} : ∀ {uv : List (Int × Option Value)}, assocV (uv ++ fv) k = some o → ovr M uv k = o
 | [], h => by
  have key : ∀ l : List (Int × Option Value), (∀ n o, (n, o) ∈ l → M n = o) → assocV l k = some o → M k = o := by
   intro l
   induction l with
   | nil => intro _ h; cases h
   | cons p r ih =>
    obtain ⟨n, q⟩ := p
    intro hm h
    simp only [assocV] at h
    split at h
    ·rename_i e; subst e; cases h; exact hm _ _ (List.mem_cons_self ..)
    ·exact ih (fun n o h => hm n o (List.mem_cons_of_mem _ h)) h
  exact key fv hM h
 |(n, q) :: uv, h => by
  simp only [List.cons_append, assocV] at h
  simp only [ovr]
  split at h
  ·rename_i e; rw [if_pos e]; cases h; rfl
  ·rename_i e; rw [if_neg e]; exact assocV_ovr hM h
theorem DenF.app : ∀ {l l' : List (Int × Bool × SV)} {v v' : List (Int × Option Value)}, DenF H E l v → DenF H E l' v' → DenF H E (l ++ l') (v ++ v')
 | [], _, [], _, _, h => h
 |(_, _, _) :: _, _, (_, _) :: _, _, ⟨a, b, c⟩, h => ⟨a, b, c.app h⟩
 | [], _, _ :: _, _, h, _ => h.elim
 | _ :: _, _, [], _, h, _ => h.elim
theorem findF_assoc {φ : SV × Core → Prop} {k : Int} {f : Bool → SV → Tree (SV × Core)} : ∀ {l : List (Int × Bool × SV)} {lv : List (Int × Option Value)}, DenF H E l lv → (findF prim k f l).All φ →
  ∃ p sv o, (f p sv).All φ ∧ PV H E p sv o ∧ assocV lv k = some o
 | [], _, _, h => h.elim
 | [(j, p, sv)], [(n, o)], ⟨a, b, _⟩, h => by
  subst a
  obtain ⟨h1, h2⟩ := h
  have h1 : k = n := by simpa [prim] using h1
  exact ⟨p, sv, o, h2, b, by simp [assocV, h1]⟩
 |(j, p, sv) :: q :: r, (n, o) :: lv, ⟨a, b, c⟩, h => by
  subst a
  obtain ⟨h1, h2⟩ := h
  by_cases e : k = n
  ·exact ⟨p, sv, o, h1 (by simp [prim, e]), b, by simp [assocV, e]⟩
  ·obtain ⟨p', sv', o', a1, a2, a3⟩ := findF_assoc c (h2 (by simp [prim, e]))
   exact ⟨p', sv', o', a1, a2, by simp [assocV, e, a3]⟩
 | [(_, _, _)], _ :: _ :: _, h, _ => h.2.2.elim
 | _ :: _, [], h, _ => h.elim
theorem findF_spec {φ : SV × Core → Prop} {k : Int} {f : Bool → SV → Tree (SV × Core)} {M : Int → Option Value} {fs us : List (Int × Bool × SV)} {fv uv : List (Int × Option Value)} (hM : ∀ n o, (n, o) ∈ fv → M n = o)
  (d2 : DenF H E us uv) (d1 : DenF H E fs fv) (h : (findF prim k f (us ++ fs)).All φ) : ∃ p sv o, (f p sv).All φ ∧ PV H E p sv o ∧ ovr M uv k = o := by
 obtain ⟨p, sv, o, a1, a2, a3⟩ := findF_assoc (d2.app d1) h
 exact ⟨p, sv, o, a1, a2, assocV_ovr hM a3⟩
theorem findNow_some {kk : IntKind} {n : Int} {v : Value} : ∀ {ms : List MapEntry}, (∀ m ∈ ms, ∃ n, m.key = .int kk n) → ∀ j : Nat, entAt kk n ms = some v →
  ∃ i, Instr.findNow (.int kk) (.int kk n) ms j = some (some (j + i, v)) ∧ ∃ m, ms[i]? = some m ∧ m.key = .int kk n ∧ m.val = v
 | [], _, _, h => by cases h
 | m :: ms, hk, j, h => by
  obtain ⟨p, hp⟩ := hk m (List.mem_cons_self ..)
  by_cases e : n = p
  ·subst e
   simp [entAt, hp, Instr.sameNow] at h
   exact ⟨0, by simp [Instr.findNow, hp, Instr.sameNow, h], m, rfl, hp, h⟩
  ·have e' : (n == p) = false := by simpa using e
   simp [entAt, hp, Instr.sameNow, e'] at h
   obtain ⟨i, a1, m', a2, a3⟩ := findNow_some (fun m hm => hk m (List.mem_cons_of_mem _ hm)) (j + 1) h
   refine ⟨i + 1, ?_, m', by simpa using a2, a3⟩
   simp only [Instr.findNow, hp, Instr.sameNow, if_true, e']
   rw [a1]
   congr 3
   omega
theorem findNow_none {kk : IntKind} {n : Int} : ∀ {ms : List MapEntry}, (∀ m ∈ ms, ∃ n, m.key = .int kk n) → ∀ j : Nat, entAt kk n ms = none → Instr.findNow (.int kk) (.int kk n) ms j = some none
 | [], _, _, _ => rfl
 | m :: ms, hk, j, h => by
  obtain ⟨p, hp⟩ := hk m (List.mem_cons_self ..)
  by_cases e : n = p
  ·subst e
   simp [entAt, hp, Instr.sameNow] at h
  ·have e' : (n == p) = false := by simpa using e
   simp [entAt, hp, Instr.sameNow, e'] at h
   simp only [Instr.findNow, hp, Instr.sameNow, if_true, e']
   exact findNow_none (fun m hm => hk m (List.mem_cons_of_mem _ hm)) (j + 1) h
theorem checkKey_int {kt : Nat} {kk : IntKind} (hu : P.underlying kt = some (.int kk)) (em : Bool) (k : IntKind) (n : Int) (w : World) : (Instr.checkKey em 10000 kt (.int k n)).run P w = .ok () w := by
 have : ∀ d : Nat, (Instr.checkKey em (d + 1) kt (.int k n)).run P w = .ok () w := fun d => by simp [Instr.checkKey, run_underlying hu]
 exact this 9999
theorem look_run {t kt e : Nat} {kk : IntKind} {n : Int} {ok : Bool} {te : TyI} {m : Value} {es : List MapEntry} {w : World} {z : Value} (hu : P.underlying t = some (.map kt e)) (hk : P.underlying kt = some (.int kk))
  (hz : (zeroValue e).run P w = .ok z w) (hm : (m = .map none ∧ es = []) ∨ (∃ b clk, m = .map (some b) ∧ w.heap[b]? = some (.map es.toArray clk))) :
  (Instr.findNow (.int kk) (.int kk n) es 0 = some none → (Instr.lookup t m (.int kk n) ok).run P w = .ok (if ok then .tuple #[z, .bool false] else z) w) ∧
  (∀ i v, Instr.findNow (.int kk) (.int kk n) es 0 = some (some (i, v)) → (Instr.lookup t m (.int kk n) ok).run P w = .ok (if ok then .tuple #[v, .bool true] else v) w) := by
 have hck := fun em => checkKey_int (P := P) hk em kk n w
 rcases hm with ⟨rfl, rfl⟩ | ⟨b, clk, rfl, hb⟩
 ·constructor
  ·intro hf
   cases ok <;> simp [Instr.lookup, run_underlying hu, hck, Instr.findKey, run_underlying hk, hf, hz]
  ·intro i v hf
   simp [Instr.findNow] at hf
 ·have hg : (getObj b).run P w = .ok (.map es.toArray clk) w := by simp [getObj, Sem.run, hb]
  constructor
  ·intro hf
   cases ok <;> simp [Instr.lookup, run_underlying hu, hg, hck, Instr.findKey, run_underlying hk, hf, hz]
  ·intro i v hf
   cases ok <;> simp [Instr.lookup, run_underlying hu, hg, hck, Instr.findKey, run_underlying hk, hf]
theorem den_lookOut {c : Core} {ok : Bool} {sv : SV} {b : Bool} {v : Value} (hd : Den H E sv v) :
  Den H E (bif ok then .tup [sv, .bool b] else sv) (if ok then .tuple #[v, .bool b] else v) := by
 cases ok
 ·exact hd
 ·exact ⟨#[v, .bool b], rfl, hd, rfl, trivial⟩
theorem q_lookup {c : Core} {a : Act} {o : Oper} {t : Nat} {x y : Operand} {ok : Bool} {φ : SV × Core → Prop} (hC : CtxOK P C) (hd : DenL H E c.tm a.tmps.toList) (hh : HeapOK K H E w c.hp)
  (ho : o.op = .lookup t x y ok) (h : (execLookup C c t (evL c.tm x) (evL c.tm y) ok).All φ) : QOut P H E w c a o φ := by
 have dx := den_ev (H := H) (E := E) hd x
 have dy := den_ev (H := H) (E := E) hd y
 unfold execLookup at h
 split at h
 ·rename_i ti hti
  have ht := (hC.ty _ _ hti).desc
  split at h
  ·rename_i kt e hty
   rw [hty] at ht
   split at h
   ·rename_i kti te hkt hte
    have hkt := (hC.ty _ _ hkt).desc
    have hte := hC.ty _ _ hte
    split at h
    ·rename_i kk z hkk hz
     rw [hkk] at hkt
     have hzero : ∃ zv : Value, Den H E z zv ∧ ∀ w : World, (zeroValue e).run P w = .ok zv w := by
      obtain ⟨inf, zv, h1, h2, _, h4, h5, h6, h7, h8⟩ := hte.info
      have h5' : DenL H E te.zero zv.cells.toList := h5.le (fun _ _ e => by cases e) (fun _ _ e => by cases e)
      refine ⟨zv, ?_, fun w => by simp [zeroValue, typeInfo, h1, h4]⟩
      rcases pack_spec hz with ⟨ha, rfl⟩ | ⟨ha, hl⟩
      ·obtain ⟨cs, rfl⟩ := h7 ha
       exact ⟨cs, rfl, h5'⟩
      ·rw [hl] at h5'
       have h8 := (h8 ha).2
       cases zv with
       | agg cs => simp [Value.oneCell'] at h8
       | _ =>
        simp [Value.cells, DenL] at h5'
        exact h5'
     obtain ⟨zv, hzd, hzr⟩ := hzero
     have fin : ∀ (sv : SV) (b : Bool) (v : Value), Den H E sv v → (lookOut c ok sv b).All φ → (∀ w', Agr H E c.hp w w' → H.on w' → (Instr.lookup t (a.eval x) (a.eval y) ok).run P w' = .ok (if ok then .tuple #[v, .bool b] else v) w') → QOut P H E w c a o φ := by
      intro sv b v hdv hφ hr
      refine ⟨_, _, hφ, rfl, den_lookOut (c := c) hdv, fun w' h1 h2 => ?_⟩
      simp [execOp, ho, hr w' h1 h2]
     split at h
     ·rename_i hx
      rw [hx] at dx
      have dx : a.eval x = .map none := dx
      split at h
      ·rename_i j n l hk
       have dy : a.eval y = .int j n := kindInt_spec hk dy
       cases hb : (j == kk) <;> simp only [hb, cond_true, cond_false] at h
       ·exact h.elim
       obtain rfl : j = kk := by simpa using hb
       refine fin _ _ _ hzd h fun w' h1 h2 => ?_
       rw [dx, dy]
       exact (look_run ht hkt (hzr w') (te := te) (.inl ⟨rfl, rfl⟩)).1 rfl
      ·exact h.elim
     ·rename_i id hx
      rw [hx] at dx
      obtain ⟨b, he, ex⟩ := dx
      split at h
      ·rename_i es hl
       obtain ⟨b', ms, clk, he', hw, hdm, _⟩ := hh.ent _ _ hl
       rw [he] at he'; cases he'
       have hkeep : ∀ w', Agr H E c.hp w w' → w'.heap[b]? = some (.map ms clk) := fun w' ha => by
        rw [block_kept ha hl (b := b) (by simp [obk, he, blkV]), hw]
       split at h
       ·rename_i k n hy
        rw [hy] at dy
        have dy : a.eval y = .int k n := dy
        cases hb : (k == kk) <;> simp only [hb, cond_true, cond_false] at h
        ·exact h.elim
        obtain rfl : k = kk := by simpa using hb
        split at h
        ·rename_i sv hf
         rcases denM_find 0 hf hdm with ⟨e1, _⟩ | ⟨sv', i, v, e1, e2, e3⟩
         ·cases e1
         ·cases e1
          refine fin _ _ _ e3 h fun w' h1 h2 => ?_
          rw [ex, dy]
          exact (look_run ht hkt (hzr w') (te := te) (.inr ⟨b, clk, rfl, by simpa using hkeep w' h1⟩)).2 i v e2
        ·rename_i hf
         rcases denM_find 0 hf hdm with ⟨_, e2⟩ | ⟨sv', i, v, e1, _⟩
         ·refine fin _ _ _ hzd h fun w' h1 h2 => ?_
          rw [ex, dy]
          exact (look_run ht hkt (hzr w') (te := te) (.inr ⟨b, clk, rfl, by simpa using hkeep w' h1⟩)).1 e2
         ·cases e1
        ·exact h.elim
       ·rename_i k n hy
        rw [hy] at dy
        have dy : a.eval y = .int k n := dy
        cases hb : (k == kk) <;> simp only [hb, cond_true, cond_false] at h
        ·exact h.elim
        obtain rfl : k = kk := by simpa using hb
        rcases denM_sym hC.A 0 h hdm with ⟨e2, hφ⟩ | ⟨sv', i, v, hφ, e2, e3⟩
        ·refine fin _ _ _ hzd hφ fun w' h1 h2 => ?_
         rw [ex, dy]
         exact (look_run ht hkt (hzr w') (te := te) (.inr ⟨b, clk, rfl, by simpa using hkeep w' h1⟩)).1 e2
        ·refine fin _ _ _ e3 hφ fun w' h1 h2 => ?_
         rw [ex, dy]
         exact (look_run ht hkt (hzr w') (te := te) (.inr ⟨b, clk, rfl, by simpa using hkeep w' h1⟩)).2 i v e2
       ·exact h.elim
      ·rename_i fk M fs us tag hl
       obtain ⟨b', ms, clk, fv, uv, he', hw, d1, d2, hM, hok, _, _⟩ := hh.ent _ _ hl
       rw [he] at he'; cases he'
       have hkeep : ∀ w', Agr H E c.hp w w' → w'.heap[b]? = some (.map ms clk) := fun w' ha => by
        rw [block_kept ha hl (b := b) (by simp [obk, he, blkV]), hw]
       split at h
       ·rename_i j n l hk
        have dy : a.eval y = .int j n := kindInt_spec hk dy
        cases hb : (j == kk && fk == kk) <;> simp only [hb, cond_true, cond_false] at h
        ·exact h.elim
        simp only [Bool.and_eq_true, beq_iff_eq] at hb
        obtain ⟨rfl, rfl⟩ := hb
        rw [hC.A] at h
        obtain ⟨p, sv, o, hφ, hpo, hat⟩ := findF_spec hM d2 d1 h
        rw [← hok.at_] at hat
        cases p with
        | true =>
         cases o with
         | none => exact hpo.elim
         | some v =>
          obtain ⟨i, hi⟩ := findNow_some hok.key 0 hat
          refine fin _ _ _ hpo.1 hφ fun w' h1 h2 => ?_
          rw [ex, dy]
          exact (look_run ht hkt (hzr w') (te := te) (.inr ⟨b, clk, rfl, by simpa using hkeep w' h1⟩)).2 _ _ hi.1
        | false =>
         cases o with
         | some v => exact hpo.elim
         | none =>
          have hi := findNow_none hok.key 0 hat
          refine fin _ _ _ hzd hφ fun w' h1 h2 => ?_
          rw [ex, dy]
          exact (look_run ht hkt (hzr w') (te := te) (.inr ⟨b, clk, rfl, by simpa using hkeep w' h1⟩)).1 hi
       ·exact h.elim
      ·exact h.elim
     ·exact h.elim
    ·exact h.elim
   ·exact h.elim
  ·exact h.elim
 ·exact h.elim
theorem eq_slice {t e : Nat} (hu : P.underlying t = some (.slice e)) (A : Option Addr) (n k : Nat) (w : World) : (Op.equal t (.slice A n k) (.slice none 0 0)).run P w = .ok A.isNone w := by
 have : ∀ n' : Nat, (Op.equalIn (n' + 1) t (.slice A n k) (.slice none 0 0)).run P w = .ok A.isNone w := fun n' => by
  cases A <;> simp [Op.equalIn, run_underlying hu]
 exact this 9999
theorem lenN_spec {hp : List (Nat × SB)} {x : SV} {n : Nat} {u : Value} (hh : HeapOK K H E w hp) (h : lenN hp x = some n) (dx : Den H E x u) : ∃ A k, u = .slice A n k ∧ (0 < n → A.isNone = false) := by
 unfold lenN at h
 split at h
 ·rename_i id
  obtain ⟨he, A, m, cc, rfl⟩ := dx
  have key : ∀ {elem st n : Nat} {xs : List Value}, w.ownsRow 0 elem st (.slice A m cc) n xs → m = n ∧ (0 < n → A.isNone = false) := fun {elem st n xs} hr => by
   rcases hr.2 with ⟨h1, rfl⟩ | ⟨g, cap, cur, h1, _⟩
   ·cases h1; exact ⟨rfl, fun h => by omega⟩
   ·cases h1; exact ⟨rfl, fun _ => rfl⟩
  split at h
  ·rename_i cells el st m' hl
   cases h
   obtain ⟨v, xs, he', hr, _, _⟩ := hh.ent _ _ hl
   rw [he] at he'; cases he'
   obtain ⟨rfl, h2⟩ := key hr
   exact ⟨_, _, rfl, h2⟩
  ·rename_i el st m' g hl
   cases h
   obtain ⟨v, xs, he', hr, _, _⟩ := hh.ent _ _ hl
   rw [he] at he'; cases he'
   obtain ⟨rfl, h2⟩ := key hr
   exact ⟨_, _, rfl, h2⟩
  ·rename_i st m' g hl
   cases h
   obtain ⟨v, he', hr⟩ := hh.ent _ _ hl
   rw [he] at he'; cases he'
   cases hr
   ·exact ⟨_, _, rfl, fun h => by omega⟩
   ·exact ⟨_, _, rfl, fun _ => rfl⟩
  ·cases h
 ·cases h
  cases dx
  ·exact ⟨_, _, rfl, fun h => by omega⟩
  ·exact ⟨_, _, rfl, fun _ => rfl⟩
 ·cases h
theorem textOf_den {x : SV} {l : List UInt8} {v : Value} (h : textOf x = some l) (d : Den H E x v) : v = .string ⟨l.toArray⟩ := by
 unfold textOf at h
 split at h
 ·cases h; exact d
 ·cases h; exact str_den d
 ·cases h
theorem bin_str_add {P : Program} (l l' : List UInt8) (h : l.length + l'.length ≤ 9223372036854775807) (t : Nat) (x y : Operand) (w : World) :
  (do eqGuard .add t x y (.string ⟨l.toArray⟩) (.string ⟨l'.toArray⟩); binOp .add t (.string ⟨l.toArray⟩) (.string ⟨l'.toArray⟩) : Sem Value).run P w = .ok (.string ⟨(l ++ l').toArray⟩) w := by
 have e : (⟨l.toArray⟩ : ByteArray) ++ ⟨l'.toArray⟩ = ⟨(l ++ l').toArray⟩ := by
  apply ByteArray.ext
  rw [ByteArray.data_append]
  simp
 have h1 : (eqGuard .add t x y (.string ⟨l.toArray⟩) (.string ⟨l'.toArray⟩) : Sem Unit).run P w = .ok () w := by simp [eqGuard]
 rw [Sem.run_bind, h1]
 show (binOp .add t (.string ⟨l.toArray⟩) (.string ⟨l'.toArray⟩) : Sem Value).run P w = _
 rw [Go.binOp_string_add, Go.run_string_add_sum w _ _ (by simpa [ByteArray.size] using h), e]
theorem numOf_spec {x : SV} {k : IntKind} {n : Int} {b : Bool} {u : Value} (h : numOf x = some (k, n, b)) (hd : Den H E x u) : u = .int k n := by
 unfold numOf at h
 split at h
 ·cases h; exact hd
 ·cases h; exact hd
 ·cases h
theorem bin_bits {op : BinOp} {k l : IntKind} {a b : Int} (h : (op = .shl ∧ 0 ≤ b) ∨ (op = .shr ∧ 0 ≤ b) ∨ (op = .quo ∧ k = l ∧ b ≠ 0) ∨ (op = .rem ∧ k = l ∧ b ≠ 0) ∨ ((op = .and ∨ op = .or ∨ op = .xor ∨ op = .andNot) ∧ k = l)) (t : Nat) (x y : Operand) (w : World) :
  (do eqGuard op t x y (.int k a) (.int l b); binOp op t (.int k a) (.int l b) : Sem Value).run P w = .ok (.int k (binL op k a b)) w := by
 rcases h with ⟨rfl, h⟩ | ⟨rfl, h⟩ | ⟨rfl, rfl, h⟩ | ⟨rfl, rfl, h⟩ | ⟨h, rfl⟩
 ·have : ¬ b < 0 := by omega
  simp [eqGuard, binOp, Op.shift, this, binL]
 ·have : ¬ b < 0 := by omega
  simp [eqGuard, binOp, Op.shift, this, binL]
 ·simp [eqGuard, binOp, Op.intDiv, h, binL]
 ·simp [eqGuard, binOp, Op.intDiv, h, binL]
 ·rcases h with rfl | rfl | rfl | rfl <;> simp [eqGuard, binOp, Op.intBits, binL]
theorem binR_den {A : Prim} (hA : A = prim) {op : BinOp} {k : IntKind} {a b : Int} {la lb : Bool} {c : Core} {φ : SV × Core → Prop} (h : (binR A op k a b la lb c).All φ) : ∃ sv, φ (sv, c) ∧ Den H E sv (.int k (binL op k a b)) := by
 subst hA
 unfold binR at h
 refine ⟨_, h, ?_⟩
 cases la <;> cases lb <;> rfl
theorem bitS_ok {c : Core} {a : Act} {op : BinOp} {t : Nat} {x y : Operand} {φ : SV × Core → Prop} {r : Tree (SV × Core)} (hC : CtxOK P C) (hd : DenL H E c.tm a.tmps.toList) (hr : bitS C c op (evL c.tm x) (evL c.tm y) = some r) (h : r.All φ) :
  ∃ (p : SV × Core) (v : Value), φ p ∧ p.2 = c ∧ Den H E p.1 v ∧ ∀ w', (do eqGuard op t x y (a.eval x) (a.eval y); binOp op t (a.eval x) (a.eval y) : Sem Value).run P w' = .ok v w' := by
 have dx := den_ev (H := H) (E := E) hd x
 have dy := den_ev (H := H) (E := E) hd y
 have fin : ∀ {k l : IntKind} {n m : Int} {la lb : Bool}, numOf (evL c.tm x) = some (k, n, la) → numOf (evL c.tm y) = some (l, m, lb) → (binR C.A op k n m la lb c).All φ →
   ((op = .shl ∧ 0 ≤ m) ∨ (op = .shr ∧ 0 ≤ m) ∨ (op = .quo ∧ k = l ∧ m ≠ 0) ∨ (op = .rem ∧ k = l ∧ m ≠ 0) ∨ ((op = .and ∨ op = .or ∨ op = .xor ∨ op = .andNot) ∧ k = l)) →
   ∃ (p : SV × Core) (v : Value), φ p ∧ p.2 = c ∧ Den H E p.1 v ∧ ∀ w', (do eqGuard op t x y (a.eval x) (a.eval y); binOp op t (a.eval x) (a.eval y) : Sem Value).run P w' = .ok v w' := by
  intro k l n m la lb h1 h2 h3 h4
  obtain ⟨sv, h5, h6⟩ := binR_den hC.A h3
  refine ⟨_, _, h5, rfl, h6, fun w' => ?_⟩
  rw [numOf_spec h1 dx, numOf_spec h2 dy]
  exact bin_bits h4 t x y w'
 unfold bitS at hr
 split at hr
 ·rename_i k n la l m lb h1 h2
  cases hr
  cases lb <;> simp only [cond_true, cond_false] at h
  ·rw [hC.A] at h
   have h0 : (0 : Int) ≤ m := of_decide_eq_true h.1
   exact fin h1 h2 (by rw [hC.A]; exact h.2) (.inl ⟨rfl, h0⟩)
  ·cases h0 : decide (0 ≤ m) <;> simp only [h0, cond_true, cond_false] at h
   ·exact h.elim
   ·exact fin h1 h2 h (.inl ⟨rfl, of_decide_eq_true h0⟩)
 ·rename_i k n la l m lb h1 h2
  cases hr
  cases lb <;> simp only [cond_true, cond_false] at h
  ·rw [hC.A] at h
   have h0 : (0 : Int) ≤ m := of_decide_eq_true h.1
   exact fin h1 h2 (by rw [hC.A]; exact h.2) (.inr (.inl ⟨rfl, h0⟩))
  ·cases h0 : decide (0 ≤ m) <;> simp only [h0, cond_true, cond_false] at h
   ·exact h.elim
   ·exact fin h1 h2 h (.inr (.inl ⟨rfl, of_decide_eq_true h0⟩))
 ·rename_i k n la l m lb h1 h2
  cases hk : (k == l) <;> simp only [hk, cond_true, cond_false] at hr
  ·cases hr
  cases hr
  have hk : k = l := by simpa using hk
  cases lb <;> simp only [cond_true, cond_false] at h
  ·rw [hC.A] at h
   have h0 : (!(m == 0)) = true := h.1
   exact fin h1 h2 (by rw [hC.A]; exact h.2) (.inr (.inr (.inl ⟨rfl, hk, by simpa using h0⟩)))
  ·cases h0 : (m == 0) <;> simp only [h0, cond_true, cond_false] at h
   ·exact fin h1 h2 h (.inr (.inr (.inl ⟨rfl, hk, by simpa using h0⟩)))
   ·exact h.elim
 ·rename_i k n la l m lb h1 h2
  cases hk : (k == l) <;> simp only [hk, cond_true, cond_false] at hr
  ·cases hr
  cases hr
  have hk : k = l := by simpa using hk
  cases lb <;> simp only [cond_true, cond_false] at h
  ·rw [hC.A] at h
   have h0 : (!(m == 0)) = true := h.1
   exact fin h1 h2 (by rw [hC.A]; exact h.2) (.inr (.inr (.inr (.inl ⟨rfl, hk, by simpa using h0⟩))))
  ·cases h0 : (m == 0) <;> simp only [h0, cond_true, cond_false] at h
   ·exact fin h1 h2 h (.inr (.inr (.inr (.inl ⟨rfl, hk, by simpa using h0⟩))))
   ·exact h.elim
 all_goals first
  |(cases hr; done)
  |(rename_i k n la l m lb h1 h2
    cases hk : (k == l) <;> simp only [hk, cond_true, cond_false] at hr
    ·cases hr
    cases hr
    have hk : k = l := by simpa using hk
    exact fin h1 h2 h (.inr (.inr (.inr (.inr ⟨by simp, hk⟩)))))
theorem q_execBin {c : Core} {a : Act} {o : Oper} {op : BinOp} {t t2 : Nat} {x y : Operand} {φ : SV × Core → Prop} (hC : CtxOK P C) (hg : GlobOK C.gls H) (ho : o.op = .binOp op t x y t2) (hd : DenL H E c.tm a.tmps.toList) (hh : HeapOK K H E w c.hp)
  (h : (execBin C c op t x y (isConst x || isConst y)).All φ) : ∃ (p : SV × Core) (v : Value), φ p ∧ p.2 = c ∧ Den H E p.1 v ∧ ∀ w', ((isEr (evL c.tm x) && isEr (evL c.tm y)) = true → H.on w') → (execOp a.eval o).run P w' = .ok (.value v) w' := by
 unfold execBin at h
 split at h
 ·rename_i r hr
  obtain ⟨p, v, h1, h2, h3, h4⟩ := bitS_ok (t := t) hC hd hr h
  refine ⟨p, v, h1, h2, h3, fun w' _ => ?_⟩
  have := h4 w'
  simp only [execOp, ho]
  simp only [Sem.run_bind] at this ⊢
  rw [this]; rfl
 split at h
 ·rename_i r hr
  unfold strAdd at hr
  split at hr
  ·split at hr
   ·rename_i l l' h1 h2
    cases hr
    obtain ⟨h3, hφ⟩ := h
    rw [hC.A] at h3 hφ
    have ex := textOf_den h1 (den_ev (H := H) (E := E) hd x)
    have ey := textOf_den h2 (den_ev (H := H) (E := E) hd y)
    have h3 : l.length + l'.length ≤ 9223372036854775807 := of_decide_eq_true h3
    refine ⟨_, .string ⟨(l ++ l').toArray⟩, hφ, rfl, .str _, fun w' _ => ?_⟩
    have := bin_str_add (P := P) l l' h3 t x y w'
    simp only [execOp, ho, ex, ey]
    simp only [Sem.run_bind] at this ⊢
    rw [this]; rfl
   ·cases hr
  ·cases hr
 split at h
 ·rename_i r hr
  unfold sliceNil at hr
  split at hr
  ·rename_i i hi
   split at hr
   ·rename_i e hty
    have ht := (hC.ty _ _ hi).desc
    rw [hty] at ht
    have ht : P.underlying t = some (.slice e) := ht
    cases hn : nilSlice y <;> simp only [hn, cond_true, cond_false] at hr
    ·cases hr
    have ey : a.eval y = .slice none 0 0 := by
     unfold nilSlice at hn
     split at hn
     ·rfl
     ·cases hn
    split at hr
    ·rename_i va vb hva hvb
     have dx := den_ev (H := H) (E := E) hd x
     have fin : ∀ (r : Bool) (sv : SV) (A : Option Addr) (n k : Nat), a.eval x = .slice A n k → A.isNone = r → isNilOp op r = some sv → φ (sv, c) → ∃ (p : SV × Core) (v : Value), φ p ∧ p.2 = c ∧ Den H E p.1 v ∧ ∀ w', ((isEr (evL c.tm x) && isEr (evL c.tm y)) = true → H.on w') → (execOp a.eval o).run P w' = .ok (.value v) w' := by
      intro r sv A n k ex hA hop hφ
      have hgd : eqGuard op t x y (.slice A n k) (.slice none 0 0) = pure () := by
       unfold eqGuard
       cases op <;> rfl
      have he1 : binOp .eql t (.slice A n k) (.slice none 0 0) = (do pure (.bool (← Op.equal t (.slice A n k) (.slice none 0 0)))) := rfl
      have he2 : binOp .neq t (.slice A n k) (.slice none 0 0) = (do pure (.bool (!(← Op.equal t (.slice A n k) (.slice none 0 0))))) := rfl
      obtain ⟨rv, h1, h2⟩ := isNil_run (H := H) (E := E) hop hgd he1 he2 fun w => by rw [← hA]; exact eq_slice ht A n k w
      refine ⟨_, rv, hφ, rfl, h1, fun w' _ => ?_⟩
      have := h2 w'
      simp only [execOp, ho, ex, ey]
      simp only [Sem.run_bind] at this ⊢
      rw [this]; rfl
     split at hr
     ·rename_i hx
      cases hr
      rw [hx] at dx
      exact fin true _ none 0 0 dx rfl hva h
     ·split at hr
      ·rename_i n hn2
       cases hr
       obtain ⟨A, k, ex, hA⟩ := lenN_spec hh hn2 dx
       cases hb : C.A.leN n 0 with
       | true =>
        obtain ⟨h1, h2⟩ := h.1 hb
        cases hx : A.isNone with
        | true => exact fin true _ A n k ex hx hva h1
        | false => exact fin false _ A n k ex hx hvb h2
       | false =>
        rw [hC.A] at hb
        exact fin false _ A n k ex (hA (by simpa [prim, Nat.pos_iff_ne_zero] using hb)) hvb (h.2 (by rw [hC.A]; exact hb))
      ·cases hr
    ·cases hr
   ·cases hr
  ·cases hr
 ·refine q_binOp hC hg ho hd ?_
  split at h
  ·rename_i v hv; rw [hv]; exact h
  ·exact h.elim
theorem exec0_quiet {call : Nat → List SV → Core → Tree (SV × Core)} {c : Core} {a : Act} {o : Oper} {φ : SV × Core → Prop} (hC : CtxOK P C) (hd : DenL H E c.tm a.tmps.toList) (hh : HeapOK K H E w c.hp) (hg : GlobOK C.gls H)
  (hq : quietKind o.op = true) (h : (exec0 C call c o).All φ) : QOut P H E w c a o φ := by
 unfold exec0 at h
 split at h
 case h_1 x ho => exact (q_move (.inl ho) hd h).q
 case h_2 x ho => exact (q_move (.inr ho) hd h).q
 case h_3 x y z ho => exact (q_pick hC.A ho hd h).q
 case h_6 t parts ho => exact (q_build hC ho hd h).q
 case h_8 t x ho => exact q_load hC ho hd hh hg h
 case h_10 x ho => exact (q_nil ho hd h).q
 case h_11 op t x y t2 ho => exact let ⟨p, v, h1, h2, h3, h4⟩ := q_execBin hC hg ho hd hh h; ⟨p, v, h1, h2, h3, fun w' _ hon => h4 w' fun _ => hon⟩
 case h_12 t x ho => exact (q_not hC.A ho hd h).q
 case h_13 t x ho => exact (q_neg hC.A ho hd h).q
 case h_14 t x f ho => exact (q_fieldAddr hC ho hd h).q
 case h_15 t x f ho => exact (q_field hC ho hd h).q
 case h_16 t x i ho => exact (q_indexAddr hC ho hd hh hg h).q
 case h_17 x i ho => exact (q_extract ho hd h).q
 case h_18 f fs cs ho => exact (q_makeFunc ho hd h).q
 case h_19 t x ho => exact (q_makeInterface hC ho hd h).q
 case h_23 t m k ok ho => exact q_lookup hC hd hh ho h
 case h_28 k ho =>
  rw [ho] at hq
  unfold execCall at h
  split at h
  ·rename_i b hb
   obtain ⟨callee, xs, ts⟩ := k
   simp only at hb
   subst hb
   simp only at h
   split at h
   ·rename_i x t h1 h2
    split at h
    ·rename_i i hi
     cases hf : lenFits i.ty (evL c.tm x) <;> simp only [hf, cond_true, cond_false] at h
     ·exact h.elim
     have e1 : xs = #[x] := by cases xs; simp at h1; subst h1; rfl
     have e2 : ts = #[t] := by cases ts; simp at h2; subst h2; rfl
     subst e1 e2
     exact (q_len hC hd hh ho hi hf h).q
    ·exact h.elim
   ·simp [quietKind] at hq
   ·simp [quietKind] at hq
   ·rename_i x y h1
    have e1 : xs = #[x, y] := by cases xs; simp at h1; subst h1; rfl
    subst e1
    exact (q_max (mx := true) hC hd ho h).q
   ·rename_i x y h1
    have e1 : xs = #[x, y] := by cases xs; simp at h1; subst h1; rfl
    subst e1
    exact (q_max (mx := false) hC hd ho h).q
   ·exact h.elim
  ·rename_i f hb
   obtain ⟨callee, xs, ts⟩ := k
   simp only at hb
   subst hb
   simp [quietKind] at hq
  ·exact h.elim
 case h_30 => exact h.elim
 all_goals first
  |(rename_i ho; rw [ho] at hq; simp [quietKind] at hq; done)
  | skip
theorem exec0_pure {call : Nat → List SV → Core → Tree (SV × Core)} {c : Core} {a : Act} {o : Oper} {φ : SV × Core → Prop} (hC : CtxOK P C) (hd : DenL H E c.tm a.tmps.toList) (hh : HeapOK K H E w c.hp) (hg : GlobOK C.gls H)
  (hq : pureOp c.tm o.op = true) (h : (exec0 C call c o).All φ) : QP P H E c a o φ := by
 unfold exec0 at h
 split at h
 case h_1 x ho => exact q_move (.inl ho) hd h
 case h_2 x ho => exact q_move (.inr ho) hd h
 case h_3 x y z ho => exact q_pick hC.A ho hd h
 case h_6 t parts ho => exact q_build hC ho hd h
 case h_10 x ho => exact q_nil ho hd h
 case h_11 op t x y t2 ho =>
  rw [ho] at hq
  exact let ⟨p, v, h1, h2, h3, h4⟩ := q_execBin hC hg ho hd hh h; ⟨p, v, h1, h2, h3, fun w' => h4 w' fun e => by simp [pureOp, e] at hq⟩
 case h_12 t x ho => exact q_not hC.A ho hd h
 case h_13 t x ho => exact q_neg hC.A ho hd h
 case h_14 t x f ho => exact q_fieldAddr hC ho hd h
 case h_15 t x f ho => exact q_field hC ho hd h
 case h_16 t x i ho => exact q_indexAddr hC ho hd hh hg h
 case h_17 x i ho => exact q_extract ho hd h
 case h_18 f fs cs ho => exact q_makeFunc ho hd h
 case h_19 t x ho => exact q_makeInterface hC ho hd h
 case h_28 k ho =>
  rw [ho] at hq
  unfold execCall at h
  split at h
  ·rename_i b hb
   obtain ⟨callee, xs, ts⟩ := k
   simp only at hb
   subst hb
   simp only at h
   split at h
   ·rename_i x t h1 h2
    split at h
    ·rename_i i hi
     cases hf : lenFits i.ty (evL c.tm x) <;> simp only [hf, cond_true, cond_false] at h
     ·exact h.elim
     have e1 : xs = #[x] := by cases xs; simp at h1; subst h1; rfl
     have e2 : ts = #[t] := by cases ts; simp at h2; subst h2; rfl
     subst e1 e2
     exact q_len hC hd hh ho hi hf h
    ·exact h.elim
   ·simp [pureOp, quietKind] at hq
   ·simp [pureOp, quietKind] at hq
   ·rename_i x y h1
    have e1 : xs = #[x, y] := by cases xs; simp at h1; subst h1; rfl
    subst e1
    exact q_max (mx := true) hC hd ho h
   ·rename_i x y h1
    have e1 : xs = #[x, y] := by cases xs; simp at h1; subst h1; rfl
    subst e1
    exact q_max (mx := false) hC hd ho h
   ·exact h.elim
  ·rename_i f hb
   obtain ⟨callee, xs, ts⟩ := k
   simp only at hb
   subst hb
   simp [pureOp, quietKind] at hq
  ·exact h.elim
 case h_30 => exact h.elim
 all_goals first
  |(rename_i ho; rw [ho] at hq; simp [pureOp, quietKind] at hq; done)
  | skip
mutual
theorem den_hard : ∀ {x : SV} {v : Value}, Den H E x v → Den H E x.hard v
 | .agg l, _, h => by obtain ⟨vs, e, h⟩ := h; exact ⟨vs, e, denL_hard h⟩
 | .tup l, _, h => by obtain ⟨vs, e, h⟩ := h; exact ⟨vs, e, denL_hard h⟩
 | .any, _, h | .val _, _, h | .int _ _, _, h | .sym _ _, _, h | .bool _, _, h | .test _, _, h | .str _, _, h | .ptr _ _, _, h | .gs _, _, h | .gp _ _ _ _, _, h | .nilp, _, h | .nils, _, h | .nilf, _, h | .nili, _, h | .nilm, _, h | .fn _ _, _, h | .ifc _ _, _, h | .mp _, _, h | .sh _, _, h | .shp _ _ _ _ _, _, h | .glob _, _, h | .ev _, _, h | .vw _ _, _, h => h
theorem denL_hard : ∀ {l : List SV} {vs : List Value}, DenL H E l vs → DenL H E (hardL l) vs
 | [], [], _ => trivial
 | _ :: _, _ :: _, h => ⟨den_hard h.1, denL_hard h.2⟩
 | [], _ :: _, h => h.elim
 | _ :: _, [], h => h.elim
end
theorem Tree.All_bind0 {α β : Type} {φ : β → Prop} {k : α → Tree β} : ∀ {t : Tree α}, (t.bind k).All φ → t.All fun a => (k a).All φ
 | .leaf _, h => h
 | .node _ _ _, h => ⟨fun e => Tree.All_bind0 (h.1 e), fun e => Tree.All_bind0 (h.2 e)⟩
 | .need _ _, h => ⟨h.1, Tree.All_bind0 h.2⟩
 | .must _ _, h => ⟨h.1, Tree.All_bind0 h.2⟩
 | .both _ _, h => ⟨Tree.All_bind0 h.1, Tree.All_bind0 h.2⟩
 | .fail, h => h.elim
theorem exec_hard {call : Nat → List SV → Core → Tree (SV × Core)} {c : Core} {o : Oper} {φ : SV × Core → Prop} (h : (exec C call c o).All φ) : ∃ ψ : SV × Core → Prop, (exec0 C call c o).All ψ ∧ ∀ p, ψ p → ∃ x, φ (x, p.2) ∧ ∀ (H : Mem) (E : Env) (v : Value), Den H E p.1 v → Den H E x v := by
 unfold exec at h
 cases hl : C.lits <;> simp only [hl, cond_true, cond_false] at h
 ·exact ⟨φ, h, fun p hp => ⟨p.1, hp, fun _ _ _ e => e⟩⟩
 ·exact ⟨_, Tree.All_bind0 h, fun p hp => ⟨p.1.hard, hp, fun _ _ _ e => den_hard e⟩⟩
theorem exec_quiet {call : Nat → List SV → Core → Tree (SV × Core)} {c : Core} {a : Act} {o : Oper} {φ : SV × Core → Prop} (hC : CtxOK P C) (hd : DenL H E c.tm a.tmps.toList) (hh : HeapOK K H E w c.hp) (hg : GlobOK C.gls H)
  (hq : quietKind o.op = true) (h : (exec C call c o).All φ) : QOut P H E w c a o φ := by
 obtain ⟨ψ, h, hψ⟩ := exec_hard h
 obtain ⟨p, v, h1, h2, h3, h4⟩ := exec0_quiet hC hd hh hg hq h
 obtain ⟨x, q1, q2⟩ := hψ p h1
 exact ⟨(x, p.2), v, q1, h2, q2 _ _ _ h3, h4⟩
theorem exec_pure {call : Nat → List SV → Core → Tree (SV × Core)} {c : Core} {a : Act} {o : Oper} {φ : SV × Core → Prop} (hC : CtxOK P C) (hd : DenL H E c.tm a.tmps.toList) (hh : HeapOK K H E w c.hp) (hg : GlobOK C.gls H)
  (hq : pureOp c.tm o.op = true) (h : (exec C call c o).All φ) : QP P H E c a o φ := by
 obtain ⟨ψ, h, hψ⟩ := exec_hard h
 obtain ⟨p, v, h1, h2, h3, h4⟩ := exec0_pure hC hd hh hg hq h
 obtain ⟨x, q1, q2⟩ := hψ p h1
 exact ⟨(x, p.2), v, q1, h2, q2 _ _ _ h3, h4⟩
end
end Go.Sx
namespace Go.Sx
open Go.RowKit (Below)
def bk (E : Env) (id : Nat) : Option Nat := (E id).bind blkV
def Free (E : Env) (c : Core) : Prop := ∀ i, c.nx ≤ i → i < c.lim → E i = none
structure Post (K : Kx) (H : Mem) (E : Env) (w : World) (c : Core) (H' : Mem) (E' : Env) (w' : World) (c' : Core) : Prop where
 Hle : H.le H'
 Ele : E.le E'
 new : ∀ i, E i = none → E' i ≠ none → c.nx ≤ i ∧ i < c'.nx
 nx : c.nx ≤ c'.nx
 lim : c'.nx ≤ c.lim ∨ c'.nx = c.nx
 limE : c'.lim = c.lim
 tm : c'.tm = c.tm
 hp : HeapOK K H' E' w' c'.hp
 wok : WOK K H' w'
 tc : ∀ id ∈ c.tc, id ∈ c'.tc
 size : w.heap.size ≤ w'.heap.size
 fr : ∀ b, b < w.heap.size → (∀ id ∈ c'.tc, bk E id ≠ some b) → w'.heap[b]? = w.heap[b]?
 newb : ∀ i b, E i = none → bk E' i = some b → w.heap.size ≤ b ∨ ∃ id ∈ c'.tc, bk E id = some b
 tch : ∀ id ∈ c'.tc, id ∈ c.tc ∨ E id = none ∨ ∃ sb, look? c.hp id = some sb ∧ obk E id sb = bk E id
 keep : ∀ id sb b, look? c.hp id = some sb → id ∉ c'.tc → obk E id sb = some b → H' b ≠ none ∨ ∃ sb', look? c'.hp id = some sb' ∧ obk E' id sb' = some b
 old : ∀ id sb, look? c'.hp id = some sb → E id ≠ none → ∃ sb0, look? c.hp id = some sb0 ∧ ∀ b, obk E' id sb = some b → obk E id sb0 = some b
section
variable {P : Program} {C : Ctx} {K : Kx} {H H' : Mem} {E E' : Env} {w w' : World}
theorem ownsRow_kept {elem st n : Nat} {v : Value} {xs : List Value} (h : w.ownsRow 0 elem st v n xs) (hk : ∀ b, blkV v = some b → w'.heap[b]? = w.heap[b]?) : w'.ownsRow 0 elem st v n xs := by
 refine ⟨h.1, ?_⟩
 rcases h.2 with h2 | ⟨g, cap, cur, rfl, h3, h4, h5⟩
 ·exact .inl h2
 ·exact .inr ⟨g, cap, cur, rfl, h3, by rw [hk g rfl]; exact h4, h5⟩
theorem DenM.le (hH : H.le H') (hE : E.le E') : ∀ {es : List (SV × SV)} {ms : List MapEntry}, DenM H E es ms → DenM H' E' es ms
 | [], [], _ => trivial
 |(_, _) :: _, _ :: _, ⟨a, b, c⟩ => ⟨a.le hH hE, b.le hH hE, DenM.le hH hE c⟩
 | [], _ :: _, h => h.elim
 | _ :: _, [], h => h.elim
theorem DenF.le (hH : H.le H') (hE : E.le E') : ∀ {l : List (Int × Bool × SV)} {v : List (Int × Option Value)}, DenF H E l v → DenF H' E' l v
 | [], [], _ => trivial
 |(_, true, _) :: _, (_, some _) :: _, ⟨a, b, c⟩ => ⟨a, ⟨b.1.le hH hE, b.2⟩, DenF.le hH hE c⟩
 |(_, false, _) :: _, (_, none) :: _, ⟨a, _, c⟩ => ⟨a, trivial, DenF.le hH hE c⟩
 |(_, true, _) :: _, (_, none) :: _, h => h.2.1.elim
 |(_, false, _) :: _, (_, some _) :: _, h => h.2.1.elim
 | [], _ :: _, h => h.elim
 | _ :: _, [], h => h.elim
theorem TagOK.le (hE : E.le E') {k : IntKind} {ms : List MapEntry} {t : Option (Nat × Int)} (h : TagOK E k ms t) : TagOK E' k ms t := by
 cases t with
 | none => trivial
 | some p => obtain ⟨m, a, b, c⟩ := h; exact ⟨m, a, b, hE _ _ c⟩
theorem ownsBuf_kept {e : Nat} {v : Value} {l : List UInt8} (h : OwnsBuf w e v l) (hk : ∀ b, blkV v = some b → w'.heap[b]? = w.heap[b]?) : OwnsBuf w' e v l := by
 rcases h with h | ⟨g, cap, cur, fz, rfl, h1, h2⟩
 ·exact .inl h
 ·exact .inr ⟨g, cap, cur, fz, rfl, by rw [hk g rfl]; exact h1, h2⟩
theorem ownsBuf_lt {e b : Nat} {v : Value} {l : List UInt8} (h : OwnsBuf w e v l) (hb : blkV v = some b) : b < w.heap.size := by
 rcases h with ⟨rfl, _⟩ | ⟨g, cap, cur, fz, rfl, h1, h2⟩
 ·simp [blkV] at hb
 ·simp [blkV] at hb; subst hb; exact (Array.getElem?_eq_some_iff.1 h1).1
theorem Ent.kept {id : Nat} {sb : SB} (h : Ent K H E w id sb) (hH : H.le H') (hE : E.le E') (hb : ∀ b, obk E id sb = some b → w'.heap[b]? = w.heap[b]?) (hm : ∀ b, obk E id sb = some b → H' b = none) : Ent K H' E' w' id sb := by
 cases sb with
 | box cells elem =>
  obtain ⟨b, cs, he, h1, h2, h3⟩ := h
  have ho : obk E id (.box cells elem) = some b := by simp [obk, he, blkV]
  exact ⟨b, cs, hE _ _ he, by rw [hb b ho]; exact h1, h2.le hH hE, hm b ho, h3.2⟩
 | row cells elem st n =>
  obtain ⟨v, xs, he, h1, h2, h3⟩ := h
  have ho : ∀ b, blkV v = some b → obk E id (.row cells elem st n) = some b := fun b hv => by simp [obk, he, hv]
  exact ⟨v, xs, hE _ _ he, ownsRow_kept h1 fun b hv => hb b (ho b hv), h2.le hH hE, fun b hv => ⟨hm b (ho b hv), (h3 b hv).2⟩⟩
 | own elem st n g =>
  obtain ⟨v, xs, he, h1, h2, h3⟩ := h
  have ho : ∀ b, blkV v = some b → obk E id (.own elem st n g) = some b := fun b hv => by simp [obk, he, hv]
  exact ⟨v, xs, hE _ _ he, ownsRow_kept h1 fun b hv => hb b (ho b hv), h2.le hH, fun b hv => ⟨hm b (ho b hv), (h3 b hv).2⟩⟩
 | fz st n g =>
  obtain ⟨v, he, h1⟩ := h
  exact ⟨v, hE _ _ he, h1.le hH⟩
 | map es =>
  obtain ⟨b, ms, clk, he, h1, h2, h3⟩ := h
  have ho : obk E id (.map es) = some b := by simp [obk, he, blkV]
  exact ⟨b, ms, clk, hE _ _ he, by rw [hb b ho]; exact h1, h2.le hH hE, hm b ho, h3.2⟩
 | fzb l =>
  obtain ⟨v, he, h1⟩ := h
  exact ⟨v, hE _ _ he, h1.le hH⟩
 | ownx elem st n g more =>
  obtain ⟨v, xs, ys, he, h1, h2, h3, h4, h5, h6⟩ := h
  have ho : ∀ b, blkV v = some b → obk E id (.ownx elem st n g more) = some b := fun b hv => by simp [obk, he, hv]
  exact ⟨v, xs, ys, hE _ _ he, ownsRow_kept h1 fun b hv => hb b (ho b hv), h2.le hH, h3.le hH hE, h4, h5, fun b hv => ⟨hm b (ho b hv), (h6 b hv).2⟩⟩
 | fm k M fs us tag =>
  obtain ⟨b, ms, clk, fv, uv, he, h1, h2, h3, h4, h5, h6, h7⟩ := h
  have ho : obk E id (.fm k M fs us tag) = some b := by simp [obk, he, blkV]
  exact ⟨b, ms, clk, fv, uv, hE _ _ he, by rw [hb b ho]; exact h1, h2.le hH hE, h3.le hH hE, h4, h5, h6.le hE, hm b ho, h7.2⟩
 | buf e l =>
  obtain ⟨v, he, h1, h3⟩ := h
  have ho : ∀ b, blkV v = some b → obk E id (.buf e l) = some b := fun b hv => by simp [obk, he, hv]
  exact ⟨v, hE _ _ he, ownsBuf_kept h1 fun b hv => hb b (ho b hv), fun b hv => ⟨hm b (ho b hv), (h3 b hv).2⟩⟩
theorem Ent.lt {id : Nat} {sb : SB} (h : Ent K H E w id sb) {b : Nat} (hb : obk E id sb = some b) : b < w.heap.size ∧ Mine K H b := by
 have lt : ∀ {b : Nat} {o : Obj}, w.heap[b]? = some o → b < w.heap.size := fun h => (Array.getElem?_eq_some_iff.1 h).1
 have lto : ∀ {elem st n : Nat} {v : Value} {xs : List Value}, w.ownsRow 0 elem st v n xs → blkV v = some b → b < w.heap.size := by
  intro elem st n v xs h hv
  rcases h.2 with ⟨rfl, _⟩ | ⟨g, _, _, rfl, _, h4, _⟩
  ·simp [blkV] at hv
  ·simp [blkV] at hv; subst hv; exact lt h4
 cases sb with
 | box cells elem =>
  obtain ⟨b', cs, he, h1, h2, h3⟩ := h
  simp [obk, he, blkV] at hb; subst hb
  exact ⟨lt h1, h3⟩
 | row cells elem st n =>
  obtain ⟨v, xs, he, h1, h2, h3⟩ := h
  simp [obk, he] at hb
  exact ⟨lto h1 hb, h3 b hb⟩
 | own elem st n g =>
  obtain ⟨v, xs, he, h1, h2, h3⟩ := h
  simp [obk, he] at hb
  exact ⟨lto h1 hb, h3 b hb⟩
 | fz st n g => simp [obk] at hb
 | map es =>
  obtain ⟨b', ms, clk, he, h1, h2, h3⟩ := h
  simp [obk, he, blkV] at hb; subst hb
  exact ⟨lt h1, h3⟩
 | fzb l => simp [obk] at hb
 | ownx elem st n g more =>
  obtain ⟨v, xs, ys, he, h1, h2, h3, h4, h5, h6⟩ := h
  simp [obk, he] at hb
  exact ⟨lto h1 hb, h6 b hb⟩
 | fm k M fs us tag =>
  obtain ⟨b', ms, clk, fv, uv, he, h1, h2, h3, h4, h5, h6, h7⟩ := h
  simp [obk, he, blkV] at hb; subst hb
  exact ⟨lt h1, h7⟩
 | buf e l =>
  obtain ⟨v, he, h1, h3⟩ := h
  simp [obk, he] at hb
  exact ⟨ownsBuf_lt h1 hb, h3 b hb⟩
theorem obk_bk {id b : Nat} {sb : SB} (h : obk E id sb = some b) : bk E id = some b := by
 cases sb <;> simp [obk] at h <;> simpa [bk] using h
theorem obk_le {id b : Nat} {sb : SB} (h : obk E id sb = some b) (hE : E.le E') : obk E' id sb = some b := by
 have key : (E id).bind blkV = some b → (E' id).bind blkV = some b := fun h => by
  cases he : E id with
  | none => simp [he] at h
  | some v => rw [hE _ _ he]; simpa [he] using h
 cases sb <;> simp only [obk] at h ⊢
 all_goals first | exact key h | cases h
theorem Ent.some_ {id : Nat} {sb : SB} (h : Ent K H E w id sb) : ∃ v, E id = some v := by
 cases sb with
 | box _ _ => obtain ⟨b, _, he, _⟩ := h; exact ⟨_, he⟩
 | row _ _ _ _ => obtain ⟨v, _, he, _⟩ := h; exact ⟨_, he⟩
 | own _ _ _ _ => obtain ⟨v, _, he, _⟩ := h; exact ⟨_, he⟩
 | fz _ _ _ => obtain ⟨v, he, _⟩ := h; exact ⟨_, he⟩
 | map _ => obtain ⟨b, _, _, he, _⟩ := h; exact ⟨_, he⟩
 | fzb _ => obtain ⟨v, he, _⟩ := h; exact ⟨_, he⟩
 | ownx _ _ _ _ _ => obtain ⟨v, _, _, he, _⟩ := h; exact ⟨_, he⟩
 | fm _ _ _ _ _ => obtain ⟨b, _, _, _, _, he, _⟩ := h; exact ⟨_, he⟩
 | buf _ _ => obtain ⟨v, he, _⟩ := h; exact ⟨_, he⟩
theorem obk_eq {id : Nat} {sb : SB} (h : Ent K H E w id sb) (hE : E.le E') : obk E' id sb = obk E id sb := by
 obtain ⟨v, he⟩ := h.some_
 have he' := hE _ _ he
 cases sb <;> simp [obk, he, he']
/-! The executor's heap. -/
theorem look_hset {α : Type} : ∀ (l : List (Nat × α)) (i j : Nat) (y : α), look? (hset l i y) j = bif i == j then (look? l i).map (fun _ => y) else look? l j
 | [], i, j, y => by cases h : (i == j) <;> simp [hset, look?]
 |(k, x) :: l, i, j, y => by
  have ih := look_hset l i j y
  unfold hset
  cases hki : (k == i) <;> simp only [cond_true, cond_false]
  ·simp only [look?, hki, cond_false]
   rw [ih]
   cases hij : (i == j) <;> simp only [cond_true, cond_false]
   ·obtain rfl : i = j := by simpa using hij
    simp [hki]
  ·obtain rfl : k = i := by simpa using hki
   cases hij : (k == j) <;> simp [look?, hij]
theorem look_hins {α : Type} : ∀ (l : List (Nat × α)) (i j : Nat) (y : α), look? (hins l i y) j = bif i == j then some y else look? l j
 | [], i, j, y => by cases h : (i == j) <;> simp [hins, look?, h]
 |(k, x) :: l, i, j, y => by
  have ih := look_hins l i j y
  unfold hins
  cases hk : Nat.blt k i <;> simp only [cond_true, cond_false]
  ·simp only [look?]
  ·simp only [look?, ih]
   cases hkj : (k == j) <;> cases hij : (i == j) <;> simp
   have : k = i := by
    have e1 : k = j := by simpa using hkj
    have e2 : i = j := by simpa using hij
    rw [e1, e2]
   have := blt_spec hk
   omega
theorem look_hdel {α : Type} : ∀ (l : List (Nat × α)) (i j : Nat), look? (hdel l i) j = bif i == j then none else look? l j
 | [], i, j => by cases h : (i == j) <;> simp [hdel, look?]
 |(k, x) :: l, i, j => by
  have ih := look_hdel l i j
  unfold hdel
  cases hki : (k == i) <;> simp only [cond_true, cond_false]
  ·simp only [look?, ih]
   cases hkj : (k == j) <;> cases hij : (i == j) <;> simp
   have e1 : k = j := by simpa using hkj
   have e2 : i = j := by simpa using hij
   rw [e1, e2] at hki
   simp at hki
  ·obtain rfl : k = i := by simpa using hki
   rw [ih]
   cases hij : (k == j) <;> simp [look?, hij]
/-! A new block. -/
def Env.set (E : Env) (i : Nat) (v : Value) : Env := fun j => if j = i then some v else E j
theorem Env.le_set {i : Nat} {v : Value} (h : E i = none) : E.le (E.set i v) := fun j u hj => by
 unfold Env.set
 split
 ·rename_i e; subst e; rw [h] at hj; cases hj
 ·exact hj
theorem Env.set_self (E : Env) (i : Nat) (v : Value) : E.set i v i = some v := by simp [Env.set]
theorem heap_alloc_at (w : World) (o : Obj) : (w.alloc o).heap[w.heap.size]? = some o := heap_alloc_new w o
theorem size_alloc (w : World) (o : Obj) : (w.alloc o).heap.size = w.heap.size + 1 := by simp
theorem WOK.alloc (h : WOK K H w) (o : Obj) : WOK K H (w.alloc o) :=
 ⟨h.os, h.tape, h.output, by rw [size_alloc]; have := h.size; omega, fun b hb hn => by rw [Below.heap_alloc w o b (by have := h.size; omega)]; exact h.kept b hb hn,
  fun b o' hb => by
   have := h.on b o' hb
   rw [Below.heap_alloc w o b (Array.getElem?_eq_some_iff.1 this).1]; exact this, h.le, h.fresh⟩
theorem mem_new (h : WOK K H w) : H w.heap.size = none := by
 cases hb : H w.heap.size with
 | none => rfl
 | some o => have := (Array.getElem?_eq_some_iff.1 (h.on _ _ hb)).1; omega
theorem mine_new (h : WOK K H w) : Mine K H w.heap.size := ⟨mem_new h, .inl h.size⟩
theorem alloc_post {c : Core} {sb : SB} {sv : SV} {φ : SV × Core → Prop} {o : Obj} {v : Value} (hh : HeapOK K H E w c.hp) (hw : WOK K H w) (hf : Free E c)
  (h : (alloc c sb sv).All φ) (hv : blkV v = some w.heap.size) (he : Ent K H (E.set c.nx v) (w.alloc o) c.nx sb) :
  ∃ c', φ (sv, c') ∧ Post K H E w c H (E.set c.nx v) (w.alloc o) c' := by
 unfold alloc at h
 cases hb : Nat.blt c.nx c.lim <;> simp only [hb, cond_true, cond_false] at h
 ·exact h.elim
 have hlt := blt_spec hb
 have hnone := hf c.nx (Nat.le_refl _) hlt
 have hle : E.le (E.set c.nx v) := Env.le_set hnone
 refine ⟨_, h, fun _ _ e => e, hle, ?_, by simp, .inl (by simp; omega), rfl, rfl, ?_, hw.alloc o, fun _ h => h, by rw [size_alloc]; omega, fun b hb _ => Below.heap_alloc w o b hb, ?_, ?_, ?_, ?_⟩
 ·intro i h1 h2
  by_cases e : i = c.nx
  ·subst e; simp
  ·simp [Env.set, e, h1] at h2
 ·refine ⟨fun id sb' hl => ?_, fun id id' sb1 sb2 b h1 h2 o1 o2 => ?_⟩
  ·rw [look_hins] at hl
   cases hid : (c.nx == id) <;> simp only [hid, cond_true, cond_false] at hl
   ·have hent := hh.ent id sb' hl
    exact hent.kept (fun _ _ e => e) hle (fun b hb => Below.heap_alloc w o b (hent.lt hb).1) (fun b hb => (hent.lt hb).2.1)
   ·cases hl
    obtain rfl : c.nx = id := by simpa using hid
    exact he
  ·rw [look_hins] at h1 h2
   cases hid : (c.nx == id) <;> cases hid' : (c.nx == id') <;> simp only [hid, hid', cond_true, cond_false] at h1 h2
   ·rw [obk_eq (hh.ent _ _ h1) hle] at o1
    rw [obk_eq (hh.ent _ _ h2) hle] at o2
    exact hh.dis _ _ _ _ _ h1 h2 o1 o2
   ·obtain rfl : c.nx = id' := by simpa using hid'
    rw [obk_eq (hh.ent _ _ h1) hle] at o1
    have e2 := obk_bk o2
    simp [bk, Env.set, hv] at e2
    have := ((hh.ent _ _ h1).lt o1).1
    omega
   ·obtain rfl : c.nx = id := by simpa using hid
    rw [obk_eq (hh.ent _ _ h2) hle] at o2
    have e1 := obk_bk o1
    simp [bk, Env.set, hv] at e1
    have := ((hh.ent _ _ h2).lt o2).1
    omega
   ·have e1 : c.nx = id := by simpa using hid
    have e2 : c.nx = id' := by simpa using hid'
    rw [← e1, ← e2]
 ·intro i b h1 h2
  by_cases e : i = c.nx
  ·subst e
   simp [bk, Env.set, hv] at h2
   exact .inl (by omega)
  ·simp [bk, Env.set, e, h1] at h2
 ·exact fun _ h => .inl h
 ·intro id sb' b hl _ ho
  refine .inr ⟨sb', ?_, obk_le ho hle⟩
  simp only [look_hins]
  cases hid : (c.nx == id) <;> simp only [cond_true, cond_false]
  ·exact hl
  ·obtain rfl : c.nx = id := by simpa using hid
   obtain ⟨u, hu⟩ := (hh.ent _ _ hl).some_
   rw [hnone] at hu; cases hu
 ·intro id sb' hl hne
  simp only [look_hins] at hl
  cases hid : (c.nx == id) <;> simp only [hid, cond_true, cond_false] at hl
  ·exact ⟨sb', hl, fun b ho => by rw [obk_eq (hh.ent _ _ hl) hle] at ho; exact ho⟩
  ·obtain rfl : c.nx = id := by simpa using hid
   exact (hne hnone).elim
def WOut (P : Program) (K : Kx) (H : Mem) (E : Env) (w : World) (c : Core) (a : Act) (o : Oper) (φ : SV × Core → Prop) : Prop :=
 ∃ (p : SV × Core) (v : Value) (r : Next) (H' : Mem) (E' : Env) (w' : World), φ p ∧ Den H' E' p.1 v ∧ Post K H E w c H' E' w' p.2 ∧ (r = .value v ∨ (r = .skip ∧ v = undef)) ∧ (execOp a.eval o).run P w = .ok r w'
theorem Post.refl {c : Core} (hh : HeapOK K H E w c.hp) (hw : WOK K H w) : Post K H E w c H E w c :=
 ⟨fun _ _ e => e, fun _ _ e => e, fun _ h1 h2 => (h2 h1).elim, Nat.le_refl _, .inr rfl, rfl, rfl, hh, hw, fun _ h => h, Nat.le_refl _, fun _ _ _ => rfl, fun i b h1 h2 => by simp [bk, h1] at h2, fun _ h => .inl h, fun id sb b h1 _ h3 => .inr ⟨sb, h1, h3⟩, fun id sb h _ => ⟨sb, h, fun _ h => h⟩⟩
theorem QOut.toW {c : Core} {a : Act} {o : Oper} {φ : SV × Core → Prop} (h : QOut P H E w c a o φ) (hh : HeapOK K H E w c.hp) (hw : WOK K H w) : WOut P K H E w c a o φ := by
 obtain ⟨p, v, h1, h2, h3, h4⟩ := h
 exact ⟨p, v, _, H, E, w, h1, h3, by rw [h2]; exact Post.refl hh hw, .inl rfl, h4 w (Agr.refl _ _ _ _) hw.on⟩
theorem w_alloc {c : Core} {a : Act} {o : Oper} {e : Nat} {φ : SV × Core → Prop} (hC : CtxOK P C) (hh : HeapOK K H E w c.hp) (hw : WOK K H w) (hf : Free E c)
  (ho : o.op = .alloc e) (h : (execAlloc C c e).All φ) : WOut P K H E w c a o φ := by
 unfold execAlloc at h
 split at h
 ·rename_i i hi
  obtain ⟨z, h1, h2, h3⟩ := zero_run (hC.ty _ _ hi) w
  have h2' : DenL H (E.set c.nx (.pointer (some ⟨w.heap.size, 0, none⟩))) i.zero z.cells.toList := h2.le (fun _ _ e => by cases e) (fun _ _ e => by cases e)
  obtain ⟨c', hφ, hp⟩ := alloc_post (o := .cells z.cells e) (v := .pointer (some ⟨w.heap.size, 0, none⟩)) hh hw hf h rfl
   ⟨w.heap.size, z.cells, Env.set_self _ _ _, heap_alloc_at _ _, h2', mine_new hw⟩
  refine ⟨_, _, _, H, _, _, hφ, ⟨w.heap.size, by simp [Env.set_self, blkV], rfl⟩, hp, .inl rfl, ?_⟩
  simp [execOp, ho, Instr.alloc, h1, newVar, newRow]
 ·exact h.elim
theorem w_box {c : Core} {a : Act} {o : Oper} {e : Nat} {x : Operand} {φ : SV × Core → Prop} (hd : DenL H E c.tm a.tmps.toList) (hh : HeapOK K H E w c.hp) (hw : WOK K H w) (hf : Free E c)
  (ho : o.op = .box e x) (h : (bif (evL c.tm x).okc then alloc c (.box (evL c.tm x).cells e) (.ptr c.nx 0) else .fail).All φ) : WOut P K H E w c a o φ := by
 cases hk : (evL c.tm x).okc <;> simp only [hk, cond_true, cond_false] at h
 ·exact h.elim
 have hx := den_cells_of hk (den_ev (H := H) (E := E) hd x)
 have hx' : c.nx < c.lim → DenL H (E.set c.nx (.pointer (some ⟨w.heap.size, 0, none⟩))) (evL c.tm x).cells (a.eval x).cells.toList := fun hl => hx.le (fun _ _ e => e) (Env.le_set (hf _ (Nat.le_refl _) hl))
 have hl : c.nx < c.lim := by
  unfold alloc at h
  cases hb : Nat.blt c.nx c.lim <;> simp only [hb, cond_true, cond_false] at h
  ·exact h.elim
  ·exact blt_spec hb
 obtain ⟨c', hφ, hp⟩ := alloc_post (o := .cells (a.eval x).cells e) (v := .pointer (some ⟨w.heap.size, 0, none⟩)) hh hw hf h rfl
  ⟨w.heap.size, _, Env.set_self _ _ _, heap_alloc_at _ _, hx' hl, mine_new hw⟩
 refine ⟨_, _, _, H, _, _, hφ, ⟨w.heap.size, by simp [Env.set_self, blkV], rfl⟩, hp, .inl rfl, ?_⟩
 simp [execOp, ho, Instr.box, newVar, newRow]
theorem den_noFacts {H : Mem} {E : Env} : ∀ l : List Int, DenF H E (noFacts l) (l.map fun n => (n, none))
 | [] => trivial
 | _ :: l => ⟨rfl, trivial, den_noFacts l⟩
theorem w_makeMap {c : Core} {a : Act} {o : Oper} {t : Nat} {φ : SV × Core → Prop} (hh : HeapOK K H E w c.hp) (hw : WOK K H w) (hf : Free E c)
  (ho : o.op = .makeMap t none) (h : (execMakeMap C c t).All φ) : WOut P K H E w c a o φ := by
 unfold execMakeMap at h
 split at h
 ·rename_i k l _
  obtain ⟨c', hφ, hp⟩ := alloc_post (o := .map #[] 0) (v := .map (some w.heap.size)) hh hw hf h rfl
   ⟨w.heap.size, #[], 0, l.map fun n => (n, none), [], Env.set_self _ _ _, heap_alloc_at _ _, den_noFacts l, trivial, fun n o hm => by
    obtain ⟨_, _, e⟩ := List.mem_map.1 hm
    cases e; rfl, ⟨fun m hm => by simp at hm, fun n => rfl, fun i j m m' hm => by simp at hm, fun i j m m' hm => by simp at hm, fun m hm => by simp at hm⟩, trivial, mine_new hw⟩
  refine ⟨_, _, _, H, _, _, hφ, ⟨w.heap.size, Env.set_self _ _ _, rfl⟩, hp, .inl rfl, ?_⟩
  simp [execOp, ho, Instr.makeMap]
 ·obtain ⟨c', hφ, hp⟩ := alloc_post (o := .map #[] 0) (v := .map (some w.heap.size)) hh hw hf h rfl
   ⟨w.heap.size, #[], 0, Env.set_self _ _ _, heap_alloc_at _ _, trivial, mine_new hw⟩
  refine ⟨_, _, _, H, _, _, hφ, ⟨w.heap.size, Env.set_self _ _ _, rfl⟩, hp, .inl rfl, ?_⟩
  simp [execOp, ho, Instr.makeMap]
end
end Go.Sx
namespace Go.Sx
section
variable {P : Program} {C : Ctx} {K : Kx} {H H' : Mem} {E E' : Env} {w w' : World}
theorem DenL.of_at : ∀ {l : List SV} {vs : List Value}, vs.length = l.length → (∀ (j : Nat) (s : SV) (v : Value), l[j]? = some s → vs[j]? = some v → Den H E s v) → DenL H E l vs
 | [], [], _, _ => trivial
 | _ :: _, _ :: _, hl, h => ⟨h 0 _ _ rfl rfl, DenL.of_at (by simpa using hl) fun j s v h1 h2 => h (j + 1) s v (by simpa using h1) (by simpa using h2)⟩
 | [], _ :: _, h, _ => by simp at h
 | _ :: _, [], h, _ => by simp at h
theorem setAt_get : ∀ (xs z : List SV) (off j : Nat), off + xs.length ≤ z.length → (setAt z off xs)[j]? = if off ≤ j ∧ j < off + xs.length then xs[j - off]? else z[j]?
 | [], z, off, j, _ => by simp [setAt]; omega
 | x :: xs, z, off, j, h => by
  rw [setAt, setAt_get xs _ (off + 1) j (by simp at h ⊢; omega)]
  simp only [List.length_cons] at h ⊢
  by_cases h1 : off + 1 ≤ j ∧ j < off + 1 + xs.length
  ·rw [if_pos h1, if_pos (by omega)]
   have : j - off = (j - (off + 1)) + 1 := by omega
   rw [this, List.getElem?_cons_succ]
  ·rw [if_neg h1]
   by_cases h2 : j = off
   ·subst h2
    rw [if_pos (by omega), List.getElem?_set_self (by omega)]
    simp
   ·rw [if_neg (by omega), List.getElem?_set_ne (by omega)]
theorem splice_get (cs vs : List Value) (off j : Nat) (h : off + vs.length ≤ cs.length) : (cs.take off ++ vs ++ cs.drop (off + vs.length))[j]? = if off ≤ j ∧ j < off + vs.length then vs[j - off]? else cs[j]? := by
 have h1 : (cs.take off).length = off := by rw [List.length_take]; omega
 rw [List.append_assoc, List.getElem?_append, h1]
 split
 ·rw [List.getElem?_take, if_pos (by assumption), if_neg (by omega)]
 ·rw [List.getElem?_append]
  split
  ·rw [if_pos (by omega)]
  ·rw [if_neg (by omega), List.getElem?_drop]
   congr 1; omega
theorem splice_length (cs vs : List Value) (off : Nat) (h : off + vs.length ≤ cs.length) : (cs.take off ++ vs ++ cs.drop (off + vs.length)).length = cs.length := by
 simp [List.length_take, List.length_drop]; omega
theorem den_splice {cells l : List SV} {cs vs : List Value} {off : Nat} (h1 : DenL H E cells cs) (h2 : DenL H E l vs) (h : off + l.length ≤ cells.length) :
  DenL H E (setAt cells off l) (cs.take off ++ vs ++ cs.drop (off + vs.length)) := by
 have e1 := h1.length
 have e2 := h2.length
 refine DenL.of_at (by rw [splice_length _ _ _ (by omega), length_setAt]; exact e1) fun j s v hs hv => ?_
 rw [setAt_get _ _ _ _ h] at hs
 rw [splice_get _ _ _ _ (by omega)] at hv
 rw [e2] at hv
 split at hs
 ·rw [if_pos (by assumption)] at hv
  exact h2.at_ hs hv
 ·rw [if_neg (by assumption)] at hv
  exact h1.at_ hs hv
theorem splice_take (cur vs : List Value) (off m : Nat) (h : off + vs.length ≤ m) (hm : m ≤ cur.length) :
  (cur.take off ++ vs ++ cur.drop (off + vs.length)).take m = (cur.take m).take off ++ vs ++ (cur.take m).drop (off + vs.length) := by
 apply List.ext_getElem?
 intro j
 rw [List.getElem?_take, splice_get _ _ _ _ (by omega), splice_get _ _ _ _ (by rw [List.length_take]; omega), List.getElem?_take]
 by_cases hj : j < m
 ·simp [hj]
 ·simp only [hj, if_false]
  rw [if_neg (by omega)]
theorem set_post {c : Core} {id b : Nat} {sb sb' : SB} (hh : HeapOK K H E w c.hp) (hw : WOK K H w) (hl : look? c.hp id = some sb) (hb : obk E id sb = some b)
  (hother : ∀ k, k ≠ b → w'.heap[k]? = w.heap[k]?) (hsz : w'.heap.size = w.heap.size) (hos : w'.os = w.os) (htape : w'.tape = w.tape) (hout : w'.output = w.output)
  (he : Ent K H E w' id sb') (hb' : obk E id sb' = some b) : Post K H E w c H E w' { c with hp := hset c.hp id sb', tc := id :: c.tc } := by
 have hmine := ((hh.ent _ _ hl).lt hb)
 refine ⟨fun _ _ e => e, fun _ _ e => e, fun _ h1 h2 => (h2 h1).elim, Nat.le_refl _, .inr rfl, rfl, rfl, ?_, ?_, fun _ h => List.mem_cons_of_mem _ h, by omega, ?_, fun i b h1 h2 => by simp [bk, h1] at h2, ?_, ?_, ?_⟩
 ·refine ⟨fun id2 sb2 hl2 => ?_, fun id1 id2 sb1 sb2 b0 h1 h2 o1 o2 => ?_⟩
  ·rw [look_hset] at hl2
   cases hid : (id == id2) <;> simp only [hid, cond_true, cond_false] at hl2
   ·have hent := hh.ent _ _ hl2
    refine hent.kept (fun _ _ e => e) (fun _ _ e => e) (fun b0 hb0 => hother b0 fun e => ?_) fun b0 hb0 => (hent.lt hb0).2.1
    subst e
    have := hh.dis _ _ _ _ _ hl hl2 hb hb0
    subst this
    simp at hid
   ·obtain rfl : id = id2 := by simpa using hid
    rw [hl] at hl2
    cases hl2
    exact he
  ·have conv : ∀ {i : Nat} {s : SB}, look? (hset c.hp id sb') i = some s → obk E i s = some b0 → ∃ s', look? c.hp i = some s' ∧ obk E i s' = some b0 := by
    intro i s h o
    rw [look_hset] at h
    cases hid : (id == i) <;> simp only [hid, cond_true, cond_false] at h
    ·exact ⟨s, h, o⟩
    ·obtain rfl : id = i := by simpa using hid
     rw [hl] at h
     cases h
     rw [hb'] at o; cases o
     exact ⟨sb, hl, hb⟩
   obtain ⟨s1, a1, a2⟩ := conv h1 o1
   obtain ⟨s2, a3, a4⟩ := conv h2 o2
   exact hh.dis _ _ _ _ _ a1 a3 a2 a4
 ·refine ⟨hos.trans hw.os, htape.trans hw.tape, hout.trans hw.output, by have := hw.size; omega, fun k hk hn => ?_, fun k o hk => ?_, hw.le, hw.fresh⟩
  ·rw [hother k fun e => ?_]
   ·exact hw.kept k hk hn
   ·subst e
    rcases hmine.2.2 with h | h
    ·omega
    ·exact hn h
  ·rw [hother k fun e => ?_]
   ·exact hw.on k o hk
   ·subst e
    rw [hmine.2.1] at hk; cases hk
 ·intro k hk hne
  refine hother k fun e => ?_
  subst e
  exact hne id (List.mem_cons_self ..) (obk_bk hb)
 ·intro i hi
  cases hi with
  | head => exact .inr (.inr ⟨sb, hl, hb.trans (obk_bk hb).symm⟩)
  | tail _ hi => exact .inl hi
 ·intro i s0 b0 h1 h2 h3
  refine .inr ⟨s0, ?_, h3⟩
  simp only [look_hset]
  cases hid : (id == i) <;> simp only [cond_true, cond_false]
  ·exact h1
  ·obtain rfl : id = i := by simpa using hid
   exact (h2 (List.mem_cons_self ..)).elim
 ·intro i s0 h1 _
  simp only [look_hset] at h1
  cases hid : (id == i) <;> simp only [hid, cond_true, cond_false] at h1
  ·exact ⟨s0, h1, fun _ h => h⟩
  ·obtain rfl : id = i := by simpa using hid
   rw [hl] at h1; cases h1
   exact ⟨sb, hl, fun b0 h => by rw [hb'] at h; cases h; exact hb⟩
theorem one_cell {x : SV} {u : Value} (h1 : x.one = true) (hd : Den H E x u) : u.oneCell' = true := by
 cases x
 case any => simp [SV.one] at h1
 case agg l => simp [SV.one] at h1
 case tup l => simp [SV.one] at h1
 case ev => simp [SV.one] at h1
 case val v => obtain ⟨rfl, h⟩ := hd; exact h
 case sh s =>
  have hd : Rep H s u := hd
  cases hd
  case agg l vs a1 a2 => simp [SV.one] at h1
  case tup l vs a1 a2 => simp [SV.one] at h1
  case v h => exact h
  all_goals rfl
 all_goals first
  |(simp only [Den] at hd; subst hd; rfl)
  |(obtain ⟨_, _, rfl⟩ := hd; rfl)
  |(obtain ⟨_, _, _, _, rfl⟩ := hd; rfl)
  |(obtain ⟨_, _, _, _, _, rfl⟩ := hd; rfl)
  |(obtain ⟨_, rfl, _⟩ := hd; rfl)
  |(obtain ⟨_, _, _, rfl, _⟩ := hd; rfl)
theorem one_cells : ∀ {l : List SV} {vs : List Value}, oneL l = true → DenL H E l vs → ∀ v ∈ vs, v.oneCell' = true
 | [], [], _, _, _, h => by cases h
 | x :: l, v :: vs, h, ⟨h1, h2⟩, u, hu => by
  simp only [oneL, Bool.and_eq_true] at h
  cases hu with
  | head => exact one_cell h.1 h1
  | tail _ hu => exact one_cells h.2 h2 u hu
 | [], _ :: _, _, h, _, _ => h.elim
 | _ :: _, [], _, h, _, _ => h.elim
end
end Go.Sx
namespace Go.Sx
section
variable {P : Program} {C : Ctx} {K : Kx} {H H' : Mem} {E E' : Env} {w w' : World}
theorem append_own (t ty e : TypeId) (i : TypeInfo) (z : Value) (size bytes : Nat) (ht : P.underlying t = some (.slice e)) (hi : P.info? e = some i) (hz : i.zero = some z)
  (hsize : i.size = size) (hby : i.bytes = bytes) (hzs : z.cells.size = size) (hsz : 0 < size) (v : Value) (n : Nat) (xs : List Value) (hown : w.ownsRow 0 e size v n xs)
  (a : Addr) (m c : Nat) (news : List Value) (hl : news.length = m * size) (hnews : ∀ j u, news[j]? = some u → w.cell? (a.add j) = some u) (h1 : ∀ u ∈ news, u.oneCell' = true)
  (h63 : n + m ≤ maxLen) (hbytes : (n + m) * bytes ≤ 140737488355328) :
  ∃ v' w', (Builtin.append_ #[t, t] ty #[v, .slice (some a) m c]).run P w = .ok v' w' ∧ w'.ownsRow 0 e size v' (n + m) (xs ++ news) ∧ w.grownBy w' (blkV v) ∧
   ∀ b, blkV v' = some b → blkV v = some b ∨ w.heap.size ≤ b := by
 have hsmall : n + m ≤ 9223372036854775807 := by simp only [maxLen] at h63; omega
 rcases hown.2 with ⟨rfl, rfl⟩ | ⟨g, cap, cur, rfl, _, hg, hnc, hcm, hcs, htake⟩
 ·obtain ⟨v', w', hr, ho, hgr, _⟩ := run_append_own (P := P) w w.heap.size t ty e i z size bytes ht hi hz hsize hby hzs hsz (.slice none 0 0) 0 xs ⟨hown.1, .inl ⟨rfl, rfl⟩⟩ a m c news hl hnews h1 h63 hbytes (Nat.le_refl _)
  refine ⟨v', w', hr, ⟨ho.1, ?_⟩, hgr, fun b hb => .inr ?_⟩
  ·rcases ho.2 with h | ⟨g, cap, cur, h2, _, h4⟩
   ·exact .inl h
   ·exact .inr ⟨g, cap, cur, h2, Nat.zero_le _, h4⟩
  ·rcases ho.2 with ⟨rfl, _⟩ | ⟨g, cap, cur, rfl, hge, h4⟩
   ·simp [blkV] at hb
   ·simp [blkV] at hb; omega
 ·obtain ⟨v', w', hr, ho, hgr, _⟩ := run_append_own (P := P) w 0 t ty e i z size bytes ht hi hz hsize hby hzs hsz _ n xs hown a m c news hl hnews h1 h63 hbytes (Nat.zero_le _)
  refine ⟨v', w', hr, ho, hgr, fun b hb => ?_⟩
  subst hsize hby
  by_cases hroom : n + m ≤ cap
  ·have hfit : n * i.size + news.length ≤ cur.size := by rw [hl, hcs, ← Nat.add_mul]; exact Nat.mul_le_mul_right _ hroom
   have hr2 := run_append_room (P := P) w t ty e i ht hi g n cap cur hg a m c news hl hnews h1 hroom hfit
   rw [hr2] at hr
   cases hr
   simp [blkV] at hb
   subst hb
   exact .inl rfl
  ·have holds : ∀ j u, xs[j]? = some u → w.cell? ((⟨g, 0, none⟩ : Addr).add j) = some u := hown.cells (g := g) rfl
   have hr2 := run_append_grow (P := P) w t ty e i z ht hi hz ⟨g, 0, none⟩ n cap xs hown.1 holds a m c news hl hnews (by omega) (by omega) (growslice_fits (by omega) hbytes)
   rw [hr2] at hr
   cases hr
   simp [blkV] at hb
   exact .inr (by omega)
theorem append_any (t ty e : TypeId) (i : TypeInfo) (z : Value) (size bytes : Nat) (ht : P.underlying t = some (.slice e)) (hi : P.info? e = some i) (hz : i.zero = some z)
  (hsize : i.size = size) (hby : i.bytes = bytes) (hzs : z.cells.size = size) (hsz : 0 < size) (v : Value) (n : Nat) (xs : List Value) (hown : w.ownsRow 0 e size v n xs)
  (x : Value) (m : Nat) (news : List Value) (hx : (m = 0 ∧ ∃ A c, x = .slice A 0 c) ∨ (∃ a c, x = .slice (some a) m c ∧ ∀ j u, news[j]? = some u → w.cell? (a.add j) = some u)) (hl : news.length = m * size) (h1 : ∀ u ∈ news, u.oneCell' = true)
  (h63 : n + m ≤ maxLen) (hbytes : (n + m) * bytes ≤ 140737488355328) :
  ∃ v' w', (Builtin.append_ #[t, t] ty #[v, x]).run P w = .ok v' w' ∧ w'.ownsRow 0 e size v' (n + m) (xs ++ news) ∧ w.grownBy w' (blkV v) ∧
   ∀ b, blkV v' = some b → blkV v = some b ∨ w.heap.size ≤ b := by
 rcases hx with ⟨rfl, A, c, rfl⟩ | ⟨a, c, rfl, hc⟩
 ·have hn : news = [] := List.eq_nil_of_length_eq_zero (by simpa using hl)
  subst hn
  cases A with
  | some a => exact append_own t ty e i z size bytes ht hi hz hsize hby hzs hsz v n xs hown a 0 c [] (by simp) (by simp) (by simp) h63 hbytes
  | none =>
   have hr : (Builtin.append_ #[t, t] ty #[v, .slice none 0 c]).run P w = .ok v w := by
    rcases hown.2 with ⟨rfl, rfl⟩ | ⟨g, cap, cur, rfl, _, _, hnc, _⟩
    ·simp [Builtin.append_, run_underlying ht, sizeOf, typeInfo, hi, Builtin.lenOf, Builtin.firstCells]
    ·simp [Builtin.append_, run_underlying ht, sizeOf, typeInfo, hi, Builtin.lenOf, Builtin.firstCells, hnc, storeCells]
   exact ⟨v, w, hr, by simpa using hown, ⟨rfl, rfl, rfl, Nat.le_refl _, fun _ _ _ => rfl⟩, fun b hb => .inl hb⟩
 ·exact append_own t ty e i z size bytes ht hi hz hsize hby hzs hsz v n xs hown a m c news hl hc h1 h63 hbytes
/-! Shapes of what is handed on. -/
mutual
theorem toSh_rep {hp : List (Nat × SB)} (hh : HeapOK K H E w hp) : ∀ {x : SV} {s : Sh} {u : Value}, toSh hp x = some s → Den H E x u → Rep H s u
 | .int k n, s, u, h, hd => by simp [toSh] at h; subst h; simp only [Den] at hd; subst hd; exact .i k n
 | .sym k n, s, u, h, hd => by simp [toSh] at h; subst h; simp only [Den] at hd; subst hd; exact .i k n
 | .bool b, s, u, h, hd => by simp [toSh] at h; subst h; simp only [Den] at hd; subst hd; exact .b b
 | .test b, s, u, h, hd => by simp [toSh] at h; subst h; simp only [Den] at hd; subst hd; exact .b b
 | .str l, s, u, h, hd => by simp [toSh] at h; subst h; simp only [Den] at hd; subst hd; exact .str l
 | .val v, s, u, h, hd => by simp [toSh] at h; subst h; obtain ⟨rfl, h1⟩ := hd; exact .v _ h1
 | .nilp, s, u, h, hd => by simp [toSh] at h; subst h; simp only [Den] at hd; subst hd; exact .v _ rfl
 | .nilf, s, u, h, hd => by simp [toSh] at h; subst h; simp only [Den] at hd; subst hd; exact .v _ rfl
 | .nili, s, u, h, hd => by simp [toSh] at h; subst h; simp only [Den] at hd; subst hd; exact .v _ rfl
 | .nils, s, u, h, hd => by simp [toSh] at h; subst h; simp only [Den] at hd; subst hd; exact .sl0 _ _ _ _ (Nat.zero_le _)
 | .sh s', s, u, h, hd => by simp [toSh] at h; subst h; exact hd
 | .agg l, s, u, h, hd => by
  simp only [toSh, Option.map_eq_some_iff] at h
  obtain ⟨l', h1, rfl⟩ := h
  obtain ⟨vs, rfl, hl⟩ := hd
  have hr := toShL_rep hh h1 hl
  exact .agg _ _ (by rw [← Array.length_toList]; exact hr.length) fun j s v e1 e2 => hr.at_ e1 (by simpa using e2)
 | .tup l, s, u, h, hd => by
  simp only [toSh, Option.map_eq_some_iff] at h
  obtain ⟨l', h1, rfl⟩ := h
  obtain ⟨vs, rfl, hl⟩ := hd
  have hr := toShL_rep hh h1 hl
  exact .tup _ _ (by rw [← Array.length_toList]; exact hr.length) fun j s v e1 e2 => hr.at_ e1 (by simpa using e2)
 | .fn f l, s, u, h, hd => by
  simp only [toSh, Option.map_eq_some_iff] at h
  obtain ⟨l', h1, rfl⟩ := h
  obtain ⟨vs, rfl, hl⟩ := hd
  have hr := toShL_rep hh h1 hl
  exact .fn _ _ _ (by rw [← Array.length_toList]; exact hr.length) fun j s v e1 e2 => hr.at_ e1 (by simpa using e2)
 | .ifc t x, s, u, h, hd => by
  simp only [toSh, Option.map_eq_some_iff] at h
  obtain ⟨s', h1, rfl⟩ := h
  obtain ⟨v, rfl, hl⟩ := hd
  exact .ifc _ _ _ (toSh_rep hh h1 hl)
 | .gs id, s, u, h, hd => by
  simp only [toSh] at h
  split at h
  ·rename_i st m g hl
   cases h
   obtain ⟨v, he, hr⟩ := hh.ent _ _ hl
   rw [hd.1] at he; cases he
   exact hr
  ·cases h
 | .any, s, u, h, hd => by simp [toSh] at h
 | .ptr id off, s, u, h, hd => by
  simp only [toSh] at h
  split at h
  ·rename_i l hl
   cases hb : (off == 0) <;> simp only [hb, cond_true, cond_false] at h
   ·cases h
   ·cases h
    obtain rfl : off = 0 := by simpa using hb
    obtain ⟨v, he, hr⟩ := hh.ent _ _ hl
    obtain ⟨b, h1, rfl⟩ := hd
    cases hr with
    | pt _ b2 off2 c a1 a2 a3 =>
     rw [he] at h1
     simp only [Option.bind_some] at h1
     have h02 : b2 = b ∧ off2 = 0 := by
      unfold blkV at h1
      split at h1 <;> simp_all
     obtain ⟨rfl, rfl⟩ := h02
     exact .pt _ _ _ c a1 a2 a3
  ·cases h
 | .gp _ _ _ _, s, u, h, hd => by simp [toSh] at h
 | .nilm, s, u, h, hd => by simp [toSh] at h
 | .mp _, s, u, h, hd => by simp [toSh] at h
 | .shp st n g i off, s, u, h, hd => by
  simp only [toSh] at h
  cases hb : (off == 0 && (g i).length == st) <;> simp only [hb, cond_true, cond_false] at h
  ·cases h
  ·cases h
   simp only [Bool.and_eq_true, beq_iff_eq] at hb
   obtain ⟨rfl, h1⟩ := hb
   obtain ⟨b, o, c, rfl, _, h3, h4, h5⟩ := hd
   exact .pt _ _ _ c (fun j hj => (h4 j (by omega)).1) (fun j hj => (h4 j (by omega)).2) h5
 | .glob _, s, u, h, hd => by simp [toSh] at h
 | .ev _, s, u, h, hd => by simp [toSh] at h
 | .vw _ _, s, u, h, hd => by simp [toSh] at h
theorem toShL_rep {hp : List (Nat × SB)} (hh : HeapOK K H E w hp) : ∀ {l : List SV} {l' : List Sh} {vs : List Value}, toShL hp l = some l' → DenL H E l vs → RepL H l' vs
 | [], l', [], h, _ => by simp [toShL] at h; subst h; trivial
 | x :: l, l', v :: vs, h, ⟨h1, h2⟩ => by
  simp only [toShL] at h
  split at h
  ·rename_i s r e1 e2
   cases h
   exact ⟨toSh_rep hh e1 h1, toShL_rep hh e2 h2⟩
  ·cases h
 | [], _, _ :: _, _, h => h.elim
 | _ :: _, _, [], _, h => h.elim
end
theorem w_store {c : Core} {a : Act} {o : Oper} {t : Nat} {x y : Operand} {φ : SV × Core → Prop} (hC : CtxOK P C) (hd : DenL H E c.tm a.tmps.toList) (hh : HeapOK K H E w c.hp) (hw : WOK K H w)
  (ho : o.op = .store t x y) (h : (execStore C c t (evL c.tm x) (evL c.tm y)).All φ) : WOut P K H E w c a o φ := by
 have dx := den_ev (H := H) (E := E) hd x
 have dy := den_ev (H := H) (E := E) hd y
 unfold execStore at h
 split at h
 ·rename_i i hi
  have ht := hC.ty _ _ hi
  cases hb : ((evL c.tm y).cells.length == i.size && oneL (evL c.tm y).cells) <;> simp only [hb, cond_true, cond_false] at h
  ·exact h.elim
  simp only [Bool.and_eq_true, beq_iff_eq] at hb
  obtain ⟨hlen, hone⟩ := hb
  have hokc : (evL c.tm y).okc = true := by
   cases hy : evL c.tm y <;> rw [hy] at hone <;> simp [SV.cells, oneL, SV.one] at hone <;> simp [SV.okc]
   rename_i s
   cases s <;> simp at hone ⊢
  have dcs := den_cells_of hokc dy
  have hcl := dcs.length
  have hoc := one_cells hone dcs
  have hrun : ∀ (b off : Nat) (cur : Array Value) (e : Nat), a.eval x = .pointer (some ⟨b, off, none⟩) → w.heap[b]? = some (.cells cur e (0, 0)) → off + i.size ≤ cur.size →
    (execOp a.eval o).run P w = .ok .skip (w.setRow b (cur.toList.take off ++ (a.eval y).cells.toList ++ cur.toList.drop (off + (a.eval y).cells.toList.length)).toArray) := by
   intro b off cur e ex hcur hle
   have hs := run_storeCells_at P b off e (a.eval y).cells.toList 0 cur w hcur (by rw [hcl, hlen]; simpa using hle) hoc
   have hsz : (a.eval y).cells.size = i.size := by rw [← Array.length_toList, hcl, hlen]
   simp only [Nat.add_zero] at hs
   simp [execOp, ho, Instr.storeAt, ex, Instr.sureAddr, storeVar, sizeOf_run ht, hsz, hs]
  split at h
  ·rename_i id off hx
   rw [hx] at dx
   obtain ⟨b, hbk, ex⟩ := dx
   split at h
   ·rename_i cells e hl
    cases hle : Nat.ble (off + i.size) cells.length <;> simp only [hle, cond_true, cond_false] at h
    ·exact h.elim
    have hle := Nat.le_of_ble_eq_true hle
    obtain ⟨b', cs, he, h1, h2, h3⟩ := hh.ent _ _ hl
    simp only [he, Option.bind_some, blkV, Option.some.injEq] at hbk
    subst hbk
    have hl2 := h2.length
    rw [Array.length_toList] at hl2
    refine ⟨_, undef, _, H, E, _, h, trivial, ?_, .inr ⟨rfl, rfl⟩, hrun b' off cs e ex h1 (by omega)⟩
    refine set_post hh hw hl (b := b') (by simp [obk, he, blkV]) (fun k hk => setRow_other w b' k _ hk) (setRow_size _ _ _) rfl rfl rfl ?_ (by simp [obk, he, blkV])
    refine ⟨b', _, he, setRow_heap w b' cs _ e _ h1, ?_, h3⟩
    exact den_splice h2 dcs (by omega)
   ·rename_i cells e st n hl
    cases hle : Nat.ble (off + i.size) cells.length <;> simp only [hle, cond_true, cond_false] at h
    ·exact h.elim
    have hle := Nat.le_of_ble_eq_true hle
    obtain ⟨v, xs, he, h1, h2, h3⟩ := hh.ent _ _ hl
    simp only [he, Option.bind_some] at hbk
    have hl2 := h2.length
    obtain ⟨hx1, hx2⟩ := h1
    rcases hx2 with ⟨rfl, _⟩ | ⟨g, cap, cur, rfl, hg0, hg1, hg2, hg3, hg4, hg5⟩
    ·simp [blkV] at hbk
    simp [blkV] at hbk
    subst hbk
    have hmul : n * st ≤ cap * st := Nat.mul_le_mul_right _ hg2
    have hcur : cur.toList.length = cap * st := by rw [Array.length_toList]; exact hg4
    have hlc : (a.eval y).cells.toList.length = i.size := by rw [hcl, hlen]
    refine ⟨_, undef, _, H, E, _, h, trivial, ?_, .inr ⟨rfl, rfl⟩, hrun g off cur e ex hg1 (by omega)⟩
    refine set_post hh hw hl (b := g) (by simp [obk, he, blkV]) (fun k hk => setRow_other w g k _ hk) (setRow_size _ _ _) rfl rfl rfl ?_ (by simp [obk, he, blkV])
    refine ⟨_, xs.take off ++ (a.eval y).cells.toList ++ xs.drop (off + (a.eval y).cells.toList.length), he, ⟨?_, .inr ⟨g, cap, _, rfl, hg0, setRow_heap w g cur _ e _ hg1, hg2, hg3, ?_, ?_⟩⟩, den_splice h2 dcs (by omega), h3⟩
    ·rw [splice_length _ _ _ (by omega)]; exact hx1
    ·rw [List.size_toArray, splice_length _ _ _ (by rw [hlc, hcur]; omega)]; exact hcur
    ·rw [List.toList_toArray, splice_take _ _ _ _ (by rw [hlc]; omega) (by rw [hcur]; omega), hg5]
   ·exact h.elim
  ·rename_i id st j off hx
   rw [hx] at dx
   obtain ⟨b, v0, he0, hbk, hj, ex⟩ := dx
   split at h
   ·rename_i e st' n g hl
    cases hb : (st == st' && Nat.ble (off + i.size) st) <;> simp only [hb, cond_true, cond_false] at h
    ·exact h.elim
    simp only [Bool.and_eq_true, beq_iff_eq] at hb
    obtain ⟨rfl, hle⟩ := hb
    have hle := Nat.le_of_ble_eq_true hle
    split at h
    ·rename_i l hsl
     rw [hC.A] at h
     obtain ⟨v, xs, he, h1, h2, h3⟩ := hh.ent _ _ hl
     rw [he0] at he; cases he
     obtain ⟨hx1, hx2⟩ := h1
     rcases hx2 with ⟨rfl, _⟩ | ⟨bg, cap, cur, rfl, hg0, hg1, hg2, hg3, hg4, hg5⟩
     ·simp [blkV] at hbk
     simp [blkV] at hbk
     subst hbk
     have hj : j < n := hj
     have hmul : n * st ≤ cap * st := Nat.mul_le_mul_right _ hg2
     have hjs : j * st + st ≤ n * st := by
      calc j * st + st = (j + 1) * st := by rw [Nat.add_mul, Nat.one_mul]
       _ ≤ n * st := Nat.mul_le_mul_right _ hj
     have hcur : cur.toList.length = cap * st := by rw [Array.length_toList]; exact hg4
     have hlc : (a.eval y).cells.toList.length = i.size := by rw [hcl, hlen]
     have hrep := toShL_rep hh hsl dcs
     have hll : l.length = i.size := by rw [← hrep.length]; exact hlc
     refine ⟨_, undef, _, H, E, _, h, trivial, ?_, .inr ⟨rfl, rfl⟩, hrun bg (j * st + off) cur e ex hg1 (by rw [← Array.length_toList, hcur]; omega)⟩
     refine set_post hh hw hl (b := bg) (by simp [obk, he0, blkV]) (fun k hk => setRow_other w bg k _ hk) (setRow_size _ _ _) rfl rfl rfl ?_ (by simp [obk, he0, blkV])
     refine ⟨_, xs.take (j * st + off) ++ (a.eval y).cells.toList ++ xs.drop (j * st + off + (a.eval y).cells.toList.length), he0, ⟨?_, .inr ⟨bg, cap, _, rfl, hg0, setRow_heap w bg cur _ e _ hg1, hg2, hg3, ?_, ?_⟩⟩, ?_, h3⟩
     ·rw [splice_length _ _ _ (by omega)]; exact hx1
     ·rw [List.size_toArray, splice_length _ _ _ (by rw [hlc, hcur]; omega)]; exact hcur
     ·rw [List.toList_toArray, splice_take _ _ _ _ (by rw [hlc]; omega) (by rw [hcur]; omega), hg5]
     ·obtain ⟨r1, r2, r3, r4⟩ := h2
      refine ⟨by rw [splice_length _ _ _ (by omega)]; exact r1, fun k hk => ?_, fun u hu => ?_, fun k m s u hk e1 e2 => ?_⟩
      ·have := r2 k hk
       simp only [prim]
       split
       ·rw [List.length_append, List.length_append, List.length_take, List.length_drop, hll]; omega
       ·exact this
      ·obtain ⟨m, hm⟩ := List.mem_iff_getElem?.1 hu
       rw [splice_get _ _ _ _ (by omega)] at hm
       split at hm
       ·exact hoc u (List.mem_of_getElem? hm)
       ·exact r3 u (List.mem_of_getElem? hm)
      ·rw [splice_get _ _ _ _ (by omega)] at e2
       have hkl : (if k = j then (g k).take off ++ l ++ (g k).drop (off + l.length) else g k)[m]? = some s := e1
       have hg := r2 k hk
       by_cases hkj : k = j
       ·subst hkj
        rw [if_pos rfl] at hkl
        by_cases c1 : m < off
        ·rw [List.append_assoc, List.getElem?_append_left (by rw [List.length_take]; omega), List.getElem?_take, if_pos c1] at hkl
         rw [if_neg (by omega)] at e2
         exact r4 k m s u hk hkl e2
        ·by_cases c2 : m < off + l.length
         ·rw [List.append_assoc, List.getElem?_append_right (by rw [List.length_take]; omega), List.length_take, Nat.min_eq_left (by omega), List.getElem?_append_left (by omega)] at hkl
          rw [if_pos (by omega)] at e2
          have : k * st + m - (k * st + off) = m - off := by omega
          rw [this] at e2
          exact hrep.at_ hkl e2
         ·rw [List.getElem?_append_right (by rw [List.length_append, List.length_take]; omega), List.getElem?_drop, List.length_append, List.length_take, Nat.min_eq_left (by omega)] at hkl
          have hm : off + l.length + (m - (off + l.length)) = m := by omega
          rw [hm] at hkl
          have hml : m < st := by rw [← hg]; exact (List.getElem?_eq_some_iff.1 hkl).1
          rw [if_neg (by omega)] at e2
          exact r4 k m s u hk hkl e2
       ·rw [if_neg hkj] at hkl
        have hml : m < st := by rw [← hg]; exact (List.getElem?_eq_some_iff.1 hkl).1
        rw [if_neg ?_] at e2
        ·exact r4 k m s u hk hkl e2
        ·intro hc
         rcases Nat.lt_or_gt_of_ne hkj with q | q
         ·have : k * st + st ≤ j * st := by
           calc k * st + st = (k + 1) * st := by rw [Nat.add_mul, Nat.one_mul]
            _ ≤ j * st := Nat.mul_le_mul_right _ q
          omega
         ·have : j * st + st ≤ k * st := by
           calc j * st + st = (j + 1) * st := by rw [Nat.add_mul, Nat.one_mul]
            _ ≤ k * st := Nat.mul_le_mul_right _ q
          omega
    ·exact h.elim
   ·exact h.elim
  ·exact h.elim
 ·exact h.elim
theorem nthL_chunks (st : Nat) : ∀ (n : Nat) (l : List Sh) (i : Nat), i < n → nthL (chunks st n l) i = (l.drop (i * st)).take st
 | n + 1, l, 0, _ => by simp [nthL, chunks]
 | n + 1, l, i + 1, h => by
  have ih := nthL_chunks st n (l.drop st) i (by omega)
  simp only [nthL, chunks, List.getD_cons_succ] at ih ⊢
  rw [ih, List.drop_drop]
  congr 2
  rw [Nat.add_mul, Nat.one_mul, Nat.add_comm]
theorem rows_chunks {st n : Nat} {l : List Sh} {xs : List Value} (hl : xs.length = n * st) (hr : RepL H l xs) (h1 : ∀ u ∈ xs, u.oneCell' = true) : RepRows H st n (nthL (chunks st n l)) xs := by
 have hll := hr.length
 have hle : ∀ i, i < n → i * st + st ≤ n * st := fun i hi => by
  calc i * st + st = (i + 1) * st := by rw [Nat.add_mul, Nat.one_mul]
   _ ≤ n * st := Nat.mul_le_mul_right _ hi
 refine ⟨hl, fun i hi => ?_, h1, fun i j s v hi e1 e2 => ?_⟩
 ·rw [nthL_chunks _ _ _ _ hi, List.length_take, List.length_drop]
  have := hle i hi
  omega
 ·rw [nthL_chunks _ _ _ _ hi, List.getElem?_take] at e1
  split at e1
  ·rw [List.getElem?_drop] at e1
   exact hr.at_ e1 e2
  ·cases e1
theorem rep_of_rows {st n elem : Nat} {g : Nat → List Sh} {v : Value} {xs : List Value} (ho : w.ownsRow 0 elem st v n xs) (hr : RepRows H st n g xs) (hon : ∀ b, blkV v = some b → H b = w.heap[b]?) : Rep H (.sl st n g) v := by
 obtain ⟨h1, h2⟩ := ho
 rcases h2 with ⟨rfl, rfl⟩ | ⟨b, cap, cur, rfl, _, hb, hn, hc, hs, ht⟩
 ·exact .sl0 _ _ _ _ (Nat.zero_le _)
 ·have hx : ∀ i j, i < n → j < st → xs[i * st + j]? = some (xs.getD (i * st + j) undef) := fun i j hi hj => by
   have : i * st + j < xs.length := by
    rw [h1]
    calc i * st + j < i * st + st := by omega
     _ = (i + 1) * st := by rw [Nat.add_mul, Nat.one_mul]
     _ ≤ n * st := Nat.mul_le_mul_right _ hi
   rw [List.getD_eq_getElem?_getD, List.getElem?_eq_getElem this]; rfl
  refine .sl st n g b 0 cap (fun i j => xs.getD (i * st + j) undef) hn hc hr.2.1 (fun i j hi hj => ?_) (fun i j hi hj => hr.2.2.1 _ (List.mem_of_getElem? (hx i j hi hj))) fun i j s hi e => ?_
  ·have e := hx i j hi hj
   rw [← ht, List.getElem?_take] at e
   split at e
   ·have hH : H b = some (.cells cur elem (0, 0)) := by rw [hon b rfl, hb]
    rw [Array.getElem?_toList] at e
    simp only [hcell, hH, Nat.zero_add]
    rw [e, ht]
   ·cases e
  ·have hj : j < st := by rw [← hr.2.1 i hi]; exact (List.getElem?_eq_some_iff.1 e).1
   exact hr.2.2.2 i j s _ hi e (hx i j hi hj)
def Mem.add (H : Mem) (w : World) (b : Option Nat) : Mem := fun k => if b = some k then w.heap[k]? else H k
structure Frz (H' : Mem) (E : Env) (hp hp' : List (Nat × SB)) : Prop where
 keep : ∀ id sb b, look? hp id = some sb → obk E id sb = some b → H' b ≠ none ∨ look? hp' id = some sb
 old : ∀ id sb, look? hp' id = some sb → ∃ sb0, look? hp id = some sb0 ∧ ∀ b, obk E id sb = some b → obk E id sb0 = some b
theorem Frz.refl (H' : Mem) (E : Env) (hp : List (Nat × SB)) : Frz H' E hp hp := ⟨fun _ _ _ h _ => .inr h, fun _ sb h => ⟨sb, h, fun _ h => h⟩⟩
theorem Frz.trans {H1 H2 : Mem} {hp hp1 hp2 : List (Nat × SB)} (h1 : Frz H1 E hp hp1) (h2 : Frz H2 E hp1 hp2) (hle : H1.le H2) : Frz H2 E hp hp2 :=
 ⟨fun id sb b a1 a2 => by
  rcases h1.keep id sb b a1 a2 with h | h
  ·cases hb : H1 b with
   | none => exact (h hb).elim
   | some o => exact .inl (by rw [hle b o hb]; simp)
  ·exact h2.keep id sb b h a2, fun id sb h => by
  obtain ⟨s1, a1, a2⟩ := h2.old id sb h
  obtain ⟨s0, b1, b2⟩ := h1.old id s1 a1
  exact ⟨s0, b1, fun b hb => b2 b (a2 b hb)⟩⟩
theorem freeze1 {hp : List (Nat × SB)} {id : Nat} {sb nb : SB} {v : Value} (hh : HeapOK K H E w hp) (hw : WOK K H w) (hl : look? hp id = some sb)
  (hm : ∀ b, blkV v = some b → Mine K H b) (hobk : obk E id sb = blkV v) (hnb : obk E id nb = none) (hent : H.le (H.add w (blkV v)) → Ent K (H.add w (blkV v)) E w id nb) :
  H.le (H.add w (blkV v)) ∧ HeapOK K (H.add w (blkV v)) E w (hset hp id nb) ∧ WOK K (H.add w (blkV v)) w ∧ Frz (H.add w (blkV v)) E hp (hset hp id nb) := by
 have hle : H.le (H.add w (blkV v)) := fun b o hb => by
  unfold Mem.add
  split
  ·rename_i e
   have := (hm b e).1
   rw [hb] at this; cases this
  ·exact hb
 have hfin : Frz (H.add w (blkV v)) E hp (hset hp id nb) := by
  refine ⟨fun i s b h1 h2 => ?_, fun i s h1 => ?_⟩
  ·rw [look_hset]
   cases hid : (id == i) <;> simp only [cond_true, cond_false]
   ·exact .inr h1
   ·obtain rfl : id = i := by simpa using hid
    rw [hl] at h1; cases h1
    rw [hobk] at h2
    refine .inl ?_
    unfold Mem.add
    rw [if_pos h2]
    have h3 : (w.heap[b]?).isSome = true := by
     have := (hh.ent _ _ hl).lt (hobk.trans h2)
     simp [this.1]
    intro e; rw [e] at h3; cases h3
  ·rw [look_hset] at h1
   cases hid : (id == i) <;> simp only [hid, cond_true, cond_false] at h1
   ·exact ⟨s, h1, fun _ h => h⟩
   ·obtain rfl : id = i := by simpa using hid
    rw [hl] at h1; cases h1
    exact ⟨sb, hl, fun b h => by rw [hnb] at h; cases h⟩
 refine ⟨hle, ⟨fun id2 sb2 h2 => ?_, fun id1 id2 s1 s2 b h1 h2 o1 o2 => ?_⟩, ⟨hw.os, hw.tape, hw.output, hw.size, hw.kept, fun b o hb => ?_, fun b o hb => hle b o (hw.le b o hb), fun b hb => ?_⟩, hfin⟩
 ·rw [look_hset] at h2
  cases hid : (id == id2) <;> simp only [hid, cond_true, cond_false] at h2
  ·have hent := hh.ent _ _ h2
   refine hent.kept hle (fun _ _ e => e) (fun _ _ => rfl) fun b hb => ?_
   unfold Mem.add
   rw [if_neg]
   ·exact (hent.lt hb).2.1
   ·intro e
    have := hh.dis _ _ _ _ _ hl h2 (hobk.trans e) hb
    subst this
    simp at hid
  ·obtain rfl : id = id2 := by simpa using hid
   rw [hl] at h2; cases h2
   exact hent hle
 ·have conv : ∀ {i : Nat} {s : SB}, look? (hset hp id nb) i = some s → obk E i s = some b → look? hp i = some s := by
   intro i s h o
   rw [look_hset] at h
   cases hid : (id == i) <;> simp only [hid, cond_true, cond_false] at h
   ·exact h
   ·obtain rfl : id = i := by simpa using hid
    rw [hl] at h; cases h
    rw [hnb] at o; cases o
  exact hh.dis _ _ _ _ _ (conv h1 o1) (conv h2 o2) o1 o2
 ·unfold Mem.add at hb
  split at hb
  ·exact hb
  ·exact hw.on b o hb
 ·unfold Mem.add at hb
  split at hb
  ·rename_i e
   exact .inr (hm b e).2
  ·exact hw.fresh b hb
theorem blk_ptr (b : Nat) : blkV (.pointer (some ⟨b, 0, none⟩)) = some b := rfl
theorem freezeN_ok : ∀ {m : Nat} {ids : List Nat} {hp hp' : List (Nat × SB)} {H : Mem}, freezeN m hp ids = some hp' → HeapOK K H E w hp → WOK K H w →
  ∃ H', H.le H' ∧ HeapOK K H' E w hp' ∧ WOK K H' w ∧ Frz H' E hp hp'
 | m, [], hp, hp', H, h, hh, hw => by
  have h : some hp = some hp' := by cases m <;> exact h
  cases h; exact ⟨H, fun _ _ e => e, hh, hw, Frz.refl _ _ _⟩
 | 0, _ :: _, hp, hp', H, h, hh, hw => by cases h
 | m + 1, id :: ids, hp, hp', H, h, hh, hw => by
  simp only [freezeN] at h
  have step : ∀ {sb nb : SB} {v : Value}, look? hp id = some sb → (∀ b, blkV v = some b → Mine K H b) → obk E id sb = blkV v → obk E id nb = none → (H.le (H.add w (blkV v)) → Ent K (H.add w (blkV v)) E w id nb) → freezeN m (hset hp id nb) ids = some hp' →
    ∃ H', H.le H' ∧ HeapOK K H' E w hp' ∧ WOK K H' w ∧ Frz H' E hp hp' := fun {sb nb v} hl hm hobk hnb hent h => by
   obtain ⟨h1, h2, h3, h4⟩ := freeze1 hh hw hl hm hobk hnb hent
   obtain ⟨H', a1, a2, a3, a4⟩ := freezeN_ok h h2 h3
   exact ⟨H', fun b o hb => a1 b o (h1 b o hb), a2, a3, h4.trans a4 a1⟩
  split at h
  ·exact freezeN_ok h hh hw
  ·exact freezeN_ok h hh hw
  ·rename_i e st n g hl
   obtain ⟨v, xs, he, ho, hr, hm⟩ := hh.ent _ _ hl
   exact step (nb := .fz st n g) hl hm (by simp [obk, he]) (by simp [obk]) (fun hle => ⟨v, he, rep_of_rows ho (hr.le hle) fun b hb => by simp [Mem.add, hb]⟩) h
  ·rename_i cells e st n hl
   obtain ⟨v, xs, he, ho, hd, hm⟩ := hh.ent _ _ hl
   split at h
   ·rename_i l hsl
    cases hone : oneL cells <;> simp only [hone, cond_true, cond_false] at h
    ·cases h
    have hr := rows_chunks ho.1 (toShL_rep hh hsl hd) (one_cells hone hd)
    exact step (nb := .fz st n (nthL (chunks st n l))) hl hm (by simp [obk, he]) (by simp [obk]) (fun hle => ⟨v, he, rep_of_rows ho (hr.le hle) fun b hb => by simp [Mem.add, hb]⟩) h
   ·exact freezeN_ok h hh hw
  ·rename_i cells e hl
   split at h
   ·rename_i l hsl
    cases hone : oneL cells <;> simp only [hone, cond_true, cond_false] at h
    ·cases h
    obtain ⟨b, cs, he, hb, hd, hm⟩ := hh.ent _ _ hl
    have hr := toShL_rep hh hsl hd
    have h1 := one_cells hone hd
    have hlen := hr.length
    rw [Array.length_toList] at hlen
    refine step (nb := .fzb l) (v := .pointer (some ⟨b, 0, none⟩)) hl (fun b' hb' => by rw [blk_ptr] at hb'; cases hb'; exact hm) (by simp [obk, he]) (by simp [obk]) (fun hle => ⟨_, he, ?_⟩) h
    refine .pt l b 0 (fun j => cs.getD j undef) (fun j hj => ?_) (fun j hj => ?_) fun j s hs => ?_
    ·have hH : (H.add w (blkV (.pointer (some ⟨b, 0, none⟩)))) b = some (.cells cs e (0, 0)) := by simp [Mem.add, blk_ptr, hb]
     simp only [hcell, hH, Nat.zero_add]
     rw [Array.getElem?_eq_getElem (by omega)]
     simp [Array.getD_eq_getD_getElem?, Array.getElem?_eq_getElem (show j < cs.size by omega)]
    ·have : cs.getD j undef = cs[j]'(by omega) := by simp [Array.getD_eq_getD_getElem?, Array.getElem?_eq_getElem (show j < cs.size by omega)]
     simp only [this]
     exact h1 _ (by simp)
    ·have hj : j < l.length := (List.getElem?_eq_some_iff.1 hs).1
     have : cs.getD j undef = cs[j]'(by omega) := by simp [Array.getD_eq_getD_getElem?, Array.getElem?_eq_getElem (show j < cs.size by omega)]
     simp only [this]
     exact (hr.at_ hs (by rw [Array.getElem?_toList]; exact Array.getElem?_eq_getElem (by omega))).le hle
   ·exact freezeN_ok h hh hw
  ·cases h
theorem freeze_ok {ids : List Nat} {hp hp' : List (Nat × SB)} {H : Mem} (h : freeze hp ids = some hp') (hh : HeapOK K H E w hp) (hw : WOK K H w) :
  ∃ H', H.le H' ∧ HeapOK K H' E w hp' ∧ WOK K H' w ∧ Frz H' E hp hp' := freezeN_ok h hh hw
end
end Go.Sx
