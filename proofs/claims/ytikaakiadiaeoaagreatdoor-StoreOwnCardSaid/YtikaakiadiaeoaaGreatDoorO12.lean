/-
  Chapter 7: the document's Same and Differ. Chapters 6 and 7: both stores behind some operations. Chapters 6 and 7: are two stores the same; evaluated. Chapters 6 and 7: are two stores the same: the evaluated trees as lemmas, Chapters 6 and 7: are two stores the same. Chapter 7: the chapter's examples; evaluated. Chapter 7: summary: the chapter's examples are right. Chapter 7: StoreKeys: evaluated. Chapter 7: StoreKeys: the evaluated trees as lemmas, Chapters 6 and 7: the plain law: keys tell states apart. Chapter 7: plain facts for the laws on stores. Chapter 7: StoreOwn: evaluated. Chapter 7: StoreOwn: the evaluated trees as lemmas, Chapter 7: the plain law of StoreApart: operations on unlike objects. Chapter 7: StoreKeys. Chapter 7: StoreOwn. From the readings of a row to the shapes of the executor: ints, flat structs of ints, slices of them, the listed variables; and back: the row's post.
-/
import Derived.Test.YtikaakiadiaeoaaGreatDoorO11
import Derived.ProofKit
import Derived.Deep.Slices
import Derived.Stop.LaidErr
import Derived.LaidMore
namespace Go.Pl
open Go Go.Sx Go.Proofs
theorem diffU_succ {n m : Nat} {f e : Nat → Rf} {k : Nat} : diffU n f m e (k + 1) = if unU n f m e k = true then diffU n f m e k ++ [(k : Int)] else diffU n f m e k := by
 unfold diffU
 rw [List.range_succ, List.filter_append, List.map_append]
 split
 ·rename_i h; simp [h]
 ·rename_i h; simp [h]
theorem diffU_len (n : Nat) (f : Nat → Rf) (m : Nat) (e : Nat → Rf) (k : Nat) : (diffU n f m e k).length ≤ k := by
 unfold diffU
 rw [List.length_map]
 have := List.length_filter_le (unU n f m e) (List.range k)
 simpa using this
theorem eqI_nth (l r : List Int) : eqI (len l) (fnR (nth l)) (len r) (fnR (nth r)) = sameL l r := by
 unfold eqI
 rw [show lst Int (len l) (fnR (nth l)) = l from lst_nth l, show lst Int (len r) (fnR (nth r)) = r from lst_nth r]
theorem eqU_iff {r s : Rf} : eqU r s = true ↔ r = s := by
 obtain ⟨a, b, c, d⟩ := r
 obtain ⟨a', b', c', d'⟩ := s
 simp [eqU, sameL, and_assoc]
end Go.Pl
namespace Go.Proofs
open Go Go.Sx Go.Pl
theorem OG18 : FnOK Tryz.prog (gls7 W7) 18 G18b := by
 intro H w shs args φ hon hg hr hφ
 refine O18 H w shs args φ hon hg hr ?_
 unfold G18b at hφ
 unfold F18
 split at hφ
 ·exact hφ
 ·exact hφ.elim
theorem fok53 (stop : Nat → List Nat → Bool) : FnsOK Tryz.prog (C7 prim W7 spec53 stop) := C7.fok (fun g F h => by
 unfold spec53 at h
 split at h
 ·cases h; exact OG18
 ·cases h) fun g h => by
 unfold spec53 at h
 split at h
 all_goals first | (cases h; done) | kernel_rfl
theorem O53 : FnOK Tryz.prog (gls7 W7) 53 F53 := by
 refine fnOK_Su (C := C7 prim W7 spec53 sAl) (C7.ok _ _) (fn := Tryz.f53) (by kernel_rfl) (by kernel_rfl) fun H w shs args φ hrep h => ?_
 have hn : Tryz.f53.ntmps = 35 := by kernel_rfl
 unfold F53 at h
 split at h
 ·rename_i x y s2 s3 x' y' t2 t3
  obtain ⟨h1, h2, hφ⟩ := h
  have e1 := rowF_ok h1
  have e2 := rowF_ok h2
  generalize rowF [x, y, s2, s3] = r at *
  generalize rowF [x', y', t2, t3] = s at *
  refine ⟨[.agg (rfS r), .agg (rfS s)], by rw [← e1, ← e2]; exact hrep, L0, ?_⟩
  have key : ∀ b : Bool, b = eqU r s → up φ (.b b) := fun b e => up_mk (s' := .b (eqU r s)) (.inl (by rw [e])) hφ
  refine gSt (C7.ok _ _) (fok53 _) (hold := nH0) (m := 300) (n := 400) (ts := []) ?_
  rw [hn]
  refine all_a53 prim W7 r s (okB_put _ _) (okB_put _ _) (okB_put _ _) (okB_put _ _) ?_ ?_ ?_ ?_
  ·intro q0 q1 q2
   refine key _ ?_
   rw [eqI_nth] at q2 ⊢
   simp [prim_eq] at q0 q1
   simp [eqU, q0, q1, q2]
  ·intro q0 q1 q2
   refine key _ ?_
   rw [eqI_nth] at q2
   simp [eqU, q2]
  ·intro q0 q1
   refine key _ ?_
   simp [prim_eq] at q1
   simp [eqU, q1]
  ·intro q0
   refine key _ ?_
   simp [prim_eq] at q0
   simp [eqU, q0]
 ·exact h.elim
theorem fok28 (stop : Nat → List Nat → Bool) : FnsOK Tryz.prog (C7 prim W7 spec28 stop) := C7.fok (fun g F h => by
 unfold spec28 at h
 split at h
 ·cases h; exact O53
 ·cases h) fun g h => by
 unfold spec28 at h
 split at h
 all_goals first | (cases h; done) | kernel_rfl
section
variable {H0 : Mem} {w0 : World} {φ : Sh → Prop} {n m : Nat} {f e : Nat → Rf}
theorem loop28 (hn : n ≤ 100000) (hm : m ≤ 100000) (hφ : φ (.os 3 1 (diffU n f m e (max n m)).length (fnR (nth (diffU n f m e (max n m)))))) :
  ∀ r k, k + r = max n m → GoesS Tryz.prog (C7 prim W7 spec28 sAl) (K0 H0 w0) 28 td28 (LO28 n f m e k (diffU n f m e k).length (fnR (nth (diffU n f m e k)))) [] emp φ
 | r, k, hk => by
  refine gSi (fn := Tryz.f28) (tb := tb28) (by kernel_rfl) (by kernel_rfl) ?_
  have hlen := diffU_len n f m e k
  have hmx : max n m ≤ 100000 := by omega
  have rr : prim.room (prim.addN (diffU n f m e k).length 1) 8 = true := room_le (show (diffU n f m e k).length + 1 ≤ _ by omega) (by decide)
  have lt1 (q : prim.lt (k : Int) (prim.ofN n) = true) : k < n := by simp [prim_lt, prim_ofN] at q; omega
  have lt2 (q : prim.lt (k : Int) (prim.ofN m) = true) : k < m := by simp [prim_lt, prim_ofN] at q; omega
  have ge1 (q : prim.lt (k : Int) (prim.ofN n) = false) : n ≤ k := by simp [prim_lt, prim_ofN] at q; omega
  have ge2 (q : prim.lt (k : Int) (prim.ofN m) = false) : m ≤ k := by simp [prim_lt, prim_ofN] at q; omega
  have le1 (q : prim.le (prim.ofN n) (k : Int) = true) : n ≤ k := by simp [prim_le, prim_ofN] at q; omega
  have le2 (q : prim.le (prim.ofN m) (k : Int) = true) : m ≤ k := by simp [prim_le, prim_ofN] at q; omega
  have nl1 (q : prim.le (prim.ofN n) (k : Int) = false) : k < n := by simp [prim_le, prim_ofN] at q; omega
  have nl2 (q : prim.le (prim.ofN m) (k : Int) = false) : k < m := by simp [prim_le, prim_ofN] at q; omega
  have i1 (q : k < n) : prim.inB (k : Int) n = true := by simp [prim_inB]; omega
  have i2 (q : k < m) : prim.inB (k : Int) m = true := by simp [prim_inB]; omega
  have eu (b : Bool) (q : prim.nt (eqU (rowF (rfS (f k))) (rowF (rfS (e k)))) = b) : eqU (f k) (e k) = !b := by
   rw [rowF_self, rowF_self] at q
   subst q; simp [prim_nt]
  have hadd : k < max n m → prim.add .i64 (k : Int) (Int.ofNat 1) = ((k + 1 : Nat) : Int) := fun h => by
   show IntKind.i64.wrap ((k : Int) + 1) = _
   rw [wrap_id (by omega) (by omega)]; rfl
  have next (c' : List Int) (hc : diffU n f m e (k + 1) = c') (h : k < max n m) : GoesS Tryz.prog (C7 prim W7 spec28 sAl) (K0 H0 w0) 28 td28 (LO28 n f m e (k + 1 : Nat) c'.length (fnR (nth c'))) [] emp φ := by
   match r, hk with
   | 0, hk => omega
   | r + 1, hk =>
    have := loop28 hn hm hφ r (k + 1) (by omega)
    rwa [hc] at this
  have fin (q : n ≤ k) (q2 : m ≤ k) : φ (.os 3 1 (diffU n f m e k).length (fnR (nth (diffU n f m e k)))) := by
   have : k = max n m := by omega
   rw [this]; exact hφ
  cases hun : unU n f m e k with
  | true =>
   have hd : diffU n f m e (k + 1) = diffU n f m e k ++ [(k : Int)] := by rw [diffU_succ, if_pos hun]
   have push (h : k < max n m) : Eqn.all [Eqn.sh (Sh.sl 4 n (fnU f)) (Sh.sl 4 n (fnU f)), Eqn.sh (Sh.sl 4 m (fnU e)) (Sh.sl 4 m (fnU e)), Eqn.int (prim.add .i64 (k : Int) (Int.ofNat 1)) ((k + 1 : Nat) : Int), Eqn.nat (prim.addN (diffU n f m e k).length 1) (diffU n f m e k ++ [(k : Int)]).length, Eqn.get (prim.addN (diffU n f m e k).length 1) (prim.snoc (fnR (nth (diffU n f m e k))) (diffU n f m e k).length (nthL [[Sh.i .i64 k]])) (fnR (nth (diffU n f m e k ++ [(k : Int)])))] :=
    ⟨rfl, rfl, hadd h, by simp [Eqn.ok, prim_addN], snoc_nth _ _ rfl, trivial⟩
   have abs (q1 : k < n) (q2 : k < m) (q3 : prim.nt (eqU (rowF (rfS (f k))) (rowF (rfS (e k)))) = false) {P : Prop} : P := by
    have := eu _ q3
    simp [unU, q1, q2, this] at hun
   refine gSt (C7.ok _ _) (fok28 _) (hold := nH0) (m := 300) (n := 400) (ts := [⟨28, td28, LO28 n f m e (k + 1 : Nat) (diffU n f m e k ++ [(k : Int)]).length (fnR (nth (diffU n f m e k ++ [(k : Int)]))), []⟩]) ?_
   refine all_b28 prim W7 n f m e k (k + 1 : Nat) (diffU n f m e k).length _ (fnR (nth (diffU n f m e k))) _ (fun _ _ => rr) (fun _ _ _ => rr) (fun q _ _ => i1 (lt1 q)) (fun _ _ q => i2 (nl2 q)) (fun _ _ _ => rowB_self (f k)) (fun _ _ _ => rowB_self (e k)) (fun _ _ _ _ => rr) (fun _ _ _ => rr) (fun _ _ _ _ => rr) (fun _ _ q _ => i1 (nl1 q)) (fun _ q _ _ => i2 (lt2 q)) (fun _ _ _ _ => rowB_self (f k)) (fun _ _ _ _ => rowB_self (e k)) (fun _ _ _ _ _ => rr) ?_ ?_ ?_ ?_ ?_ ?_ ?_ ?_ (fun q q2 => fin (ge1 q) (ge2 q2))
   ·intro q0 q1; exact ⟨push (by have := lt1 q0; omega), _, rfl, next _ hd (by have := lt1 q0; omega)⟩
   ·intro q0 q1 q2; exact ⟨push (by have := lt1 q0; omega), _, rfl, next _ hd (by have := lt1 q0; omega)⟩
   ·intro q0 q1 q2 q3; exact ⟨push (by have := lt1 q0; omega), _, rfl, next _ hd (by have := lt1 q0; omega)⟩
   ·intro q0 q1 q2 q3; exact abs (lt1 q0) (nl2 q2) q3
   ·intro q0 q1 q2; exact ⟨push (by have := lt2 q1; omega), _, rfl, next _ hd (by have := lt2 q1; omega)⟩
   ·intro q0 q1 q2 q3; exact ⟨push (by have := lt2 q1; omega), _, rfl, next _ hd (by have := lt2 q1; omega)⟩
   ·intro q0 q1 q2 q3 q4; exact ⟨push (by have := lt2 q1; omega), _, rfl, next _ hd (by have := lt2 q1; omega)⟩
   ·intro q0 q1 q2 q3 q4; exact abs (nl1 q2) (lt2 q1) q4
  | false =>
   have hd : diffU n f m e (k + 1) = diffU n f m e k := by rw [diffU_succ, if_neg (by rw [hun]; simp)]
   have un : k < n ∧ k < m ∧ eqU (f k) (e k) = true := by simpa [unU, and_assoc] using hun
   have push (h : k < max n m) : Eqn.all [Eqn.sh (Sh.sl 4 n (fnU f)) (Sh.sl 4 n (fnU f)), Eqn.sh (Sh.sl 4 m (fnU e)) (Sh.sl 4 m (fnU e)), Eqn.int (prim.add .i64 (k : Int) (Int.ofNat 1)) ((k + 1 : Nat) : Int), Eqn.nat (diffU n f m e k).length (diffU n f m e k).length, Eqn.get (diffU n f m e k).length (fnR (nth (diffU n f m e k))) (fnR (nth (diffU n f m e k)))] :=
    ⟨rfl, rfl, hadd h, rfl, fun _ _ => rfl, trivial⟩
   have abs (q3 : prim.nt (eqU (rowF (rfS (f k))) (rowF (rfS (e k)))) = true) {P : Prop} : P := by
    have := eu _ q3
    rw [un.2.2] at this; cases this
   refine gSt (C7.ok _ _) (fok28 _) (hold := nH0) (m := 300) (n := 400) (ts := [⟨28, td28, LO28 n f m e (k + 1 : Nat) (diffU n f m e k).length (fnR (nth (diffU n f m e k))), []⟩]) ?_
   refine all_b28 prim W7 n f m e k (k + 1 : Nat) (diffU n f m e k).length _ (fnR (nth (diffU n f m e k))) _ (fun _ _ => rr) (fun _ _ _ => rr) (fun q _ _ => i1 (lt1 q)) (fun _ _ q => i2 (nl2 q)) (fun _ _ _ => rowB_self (f k)) (fun _ _ _ => rowB_self (e k)) (fun _ _ _ _ => rr) (fun _ _ _ => rr) (fun _ _ _ _ => rr) (fun _ _ q _ => i1 (nl1 q)) (fun _ q _ _ => i2 (lt2 q)) (fun _ _ _ _ => rowB_self (f k)) (fun _ _ _ _ => rowB_self (e k)) (fun _ _ _ _ _ => rr) ?_ ?_ ?_ ?_ ?_ ?_ ?_ ?_ (fun q q2 => fin (ge1 q) (ge2 q2))
   ·intro q0 q1; have := le1 q1; omega
   ·intro q0 q1 q2; have := le2 q2; omega
   ·intro q0 q1 q2 q3; exact abs q3
   ·intro q0 q1 q2 q3; exact ⟨push (by have := lt1 q0; omega), _, rfl, next _ hd (by have := lt1 q0; omega)⟩
   ·intro q0 q1 q2; have := le1 q2; omega
   ·intro q0 q1 q2 q3; have := le2 q3; omega
   ·intro q0 q1 q2 q3 q4; exact abs q4
   ·intro q0 q1 q2 q3 q4; exact ⟨push (by have := lt2 q1; omega), _, rfl, next _ hd (by have := lt2 q1; omega)⟩
end
theorem O28 : FnOK Tryz.prog (gls7 W7) 28 F28 := by
 refine fnOK_S (C := C7 prim W7 spec28 sAl) (C7.ok _ _) (fn := Tryz.f28) (by kernel_rfl) (by kernel_rfl) fun H w shs args φ hrep h => ?_
 have hn : Tryz.f28.ntmps = 46 := by kernel_rfl
 unfold F28 at h
 split at h
 ·split at h
  ·rename_i n g m h' e1 e2
   obtain ⟨h1, h2, h3, hφ⟩ := h
   obtain ⟨h3, h4⟩ := of_decide_eq_true h3
   match args, hrep with
   | [v1, v2], ⟨r1, r2, _⟩ =>
    refine ⟨[.sl 4 n (fnU (rfF n g)), .sl 4 m (fnU (rfF m h'))], ⟨rep_sl_congr (rep_slN e1 r1) (rfB_at h1), rep_sl_congr (rep_slN e2 r2) (rfB_at h2), trivial⟩, L0, ?_⟩
    have hφ : φ (.os 3 1 (diffU n (rfF n g) m (rfF m h') (max n m)).length (fnR (nth (diffU n (rfF n g) m (rfF m h') (max n m))))) := hφ
    generalize rfF n g = f at *
    generalize rfF m h' = e at *
    refine gSt (C7.ok _ _) (fok28 _) (hold := nH0) (m := 300) (n := 400) (ts := [⟨28, td28, LO28 n f m e (0 : Nat) (diffU n f m e 0).length (fnR (nth (diffU n f m e 0))), []⟩]) ?_
    rw [hn]
    refine all_a28 prim W7 n f m e _ _ _ ⟨⟨rfl, rfl, rfl, rfl, trivial⟩, _, rfl, loop28 h3 h4 hφ (max n m) 0 (by omega)⟩
  ·exact h.elim
 ·exact h.elim
end Go.Proofs
namespace Go.Pl
open Go Go.Sx Go.Proofs
section
variable {n : Nat} {d e : Nat → Sta} {i op k v : Int}
theorem okN_congr (h : ∀ j, j < n → e j = d j) : okN n e i op k v = okN n d i op k v := by
 unfold okN
 cases hi : inI n i with
 | false => rfl
 | true =>
  have hi : 0 ≤ i ∧ i < n := of_decide_eq_true hi
  rw [h i.toNat (by omega)]
theorem erN_congr (h : ∀ j, j < n → e j = d j) : erN n e i op k v = erN n d i op k v := by
 unfold erN
 cases hi : inI n i with
 | false => rfl
 | true =>
  have hi : 0 ≤ i ∧ i < n := of_decide_eq_true hi
  rw [h i.toNat (by omega)]
theorem keyN_congr (h : ∀ j, j < n → e j = d j) : keyN n e = keyN n d := by
 unfold keyN
 rw [List.map_congr_left fun j hj => h j (List.mem_range.1 hj)]
end
end Go.Pl
namespace Go.Proofs
open Go Go.Sx Go.Pl
section
variable {H0 : Mem} {w0 : World} {φ : Sh → Prop} {n m : Nat} {o : Nat → Sta} {c : Nat → Cl}
theorem end24 {k : Nat} {d : Nat → Sta} (hn : n ≤ 8) (hk : k ≤ 50000) (hd : ∀ j, j < n → InvS k (d j)) :
  keysB n (stF n (fnT d)) = true ∧ hundB n = true ∧ allU n (rfF n (fnU fun j => toR (d j))) = true ∧ sameK n (stF n (fnT d)) n (rfF n (fnU fun j => toR (d j))) = true := by
 have he := stF_fnT (n := n) (d := d)
 refine ⟨?_, decide_eq_true (by omega), ?_, ?_⟩
 ·unfold keysB
  rw [Bool.and_eq_true]
  exact ⟨decide_eq_true (by omega), List.all_eq_true.2 fun j hj => by
   have hj := List.mem_range.1 hj
   rw [he j hj]; exact okT_inv (by omega) (hd j hj)⟩
 ·rw [rfF_fnU]
  exact List.all_eq_true.2 fun j hj => okU_inv hk (hd j (List.mem_range.1 hj))
 ·rw [rfF_fnU]
  unfold sameK
  rw [keyN_congr he, keys_eq n hd]
  simp
theorem loop24 (hn : n ≤ 8) (hm : m ≤ 50000) (h0 : ∀ j, j < n → InvS 0 (o j)) (hφ : φ (.tup [.agg [.sl 4 n (fnT (behT n o c m))], .sl 4 n (fnU fun j => toR (behT n o c m j)), .b true])) :
  ∀ r k, k + r = m → (∀ j, j < n → InvS k (behT n o c k j)) → GoesS Tryz.prog (C7 prim W7 spec24 sAl) (K0 H0 w0) 24 td24 (LO24 n (behT n o c k) (fun j => toR (behT n o c k j)) m c (k : Int)) [] emp (up φ)
 | r, k, hk, hd => by
  have he := stF_fnT (n := n) (d := behT n o c k)
  have hde : ∀ j, j < n → InvS k (stF n (fnT (behT n o c k)) j) := fun j hj => by rw [he j hj]; exact hd j hj
  have rr : roomB n 64 = true := room_le (by omega) (by omega)
  have lt (h : prim.lt (k : Int) (prim.ofN m) = true) : k < m := by simp [prim_lt, prim_ofN] at h; omega
  have nx (h : prim.lt (k : Int) (prim.ofN m) = true) : prim.add .i64 (k : Int) (Int.ofNat 1) = ((k + 1 : Nat) : Int) := by
   have := lt h
   show IntKind.i64.wrap ((k : Int) + 1) = _
   rw [wrap_id (by omega) (by omega)]; rfl
  have inb (h : prim.lt (k : Int) (prim.ofN m) = true) : prim.inB (k : Int) m = true := by
   have := lt h; simp [prim_inB]; omega
  have hend := end24 hn (show k ≤ 50000 by omega) hd
  have fin (h : prim.lt (k : Int) (prim.ofN m) = false) : up φ (.tup [.agg [.sl 4 n (fnT (behT n o c k))], .sl 4 n (fnU fun j => toR (behT n o c k j)), .b (sameK n (stF n (fnT (behT n o c k))) n (rfF n (fnU fun j => toR (behT n o c k j))))]) := by
   have : k = m := by simp [prim_lt, prim_ofN] at h; omega
   subst this
   rw [hend.2.2.2]
   exact up_mk (s' := .tup [.agg [.sl 4 n (fnT (behT n o c k))], .sl 4 n (fnU fun j => toR (behT n o c k j)), .b true]) ⟨⟨.inr ⟨rfl, rfl, fun _ _ => rfl⟩, trivial⟩, .inr ⟨rfl, rfl, fun _ _ => rfl⟩, .inl rfl, trivial⟩ hφ
  refine gSi (fn := Tryz.f24) (tb := tb24) (by kernel_rfl) (by kernel_rfl) ?_
  cases hok : okN n (behT n o c k) (c k).obj (c k).op (c k).key (c k).val with
  | true =>
   have hb : behT n o c (k + 1) = updT n (behT n o c k) (c k).obj (c k).op (c k).key (c k).val := by
    show (if _ then _ else _) = _
    rw [if_pos hok]
   obtain ⟨q1, q2⟩ := nxtU_eq hd hok
   refine gSt (C7.ok _ _) (fok24 _) (hold := nH0) (m := 300) (n := 400) (ts := [⟨24, td24, LO24 n (behT n o c (k + 1)) (fun j => toR (behT n o c (k + 1) j)) m c (k + 1 : Nat), []⟩]) ?_
   refine all_b24 prim W7 n _ _ _ _ m c k (k + 1 : Nat) inb (fun _ => stB_fnT _ _) (fun _ => rr) (fun _ => fitN_inv (by omega) hde) (fun _ => ?_) (fun _ => rfB_fnU _ _) (fun _ => ?_) (fun _ => ?_) (fun _ => stB_fnT _ _) (fun _ => hend.1) (fun _ => rfB_fnU _ _) (fun _ => hend.2.1) (fun _ => hend.2.2.1) (fun h => ⟨⟨rfl, ?_, nx h, ?_, trivial⟩, _, rfl, ?_⟩) fin
   ·exact (okN_congr he).trans hok
   ·rw [rfF_fnU]; exact fitM_inv (by omega) hd
   ·rw [rfF_fnU]; exact ok_same.trans hok
   ·show Sh.sl 4 n (nxtU n (fnU fun j => toR (behT n o c k j)) (c k).obj (c k).op (c k).key (c k).val) = Sh.sl 4 n (fnU fun j => toR (behT n o c (k + 1) j))
    rw [hb, q1]
   ·show Sh.sl 4 n (nxtT n (fnT (behT n o c k)) (c k).obj (c k).op (c k).key (c k).val) = Sh.sl 4 n (fnT (behT n o c (k + 1)))
    rw [hb, nxtT_eq]
   ·match r, hk with
    | 0, hk => have := lt h; omega
    | r + 1, hk => exact loop24 hn hm h0 hφ r (k + 1) (by omega) (by rw [hb]; exact q2)
  | false =>
   have hb : behT n o c (k + 1) = behT n o c k := by
    show (if _ then _ else _) = _
    rw [if_neg (by rw [hok]; simp)]
   have next (h : prim.lt (k : Int) (prim.ofN m) = true) : GoesS Tryz.prog (C7 prim W7 spec24 sAl) (K0 H0 w0) 24 td24 (LO24 n (behT n o c k) (fun j => toR (behT n o c k j)) m c ((k + 1 : Nat) : Int)) [] emp (up φ) := by
    match r, hk with
    | 0, hk => have := lt h; omega
    | r + 1, hk =>
     have := loop24 hn hm h0 hφ r (k + 1) (by omega) (by
      rw [hb]
      intro j hj
      have := hd j hj
      exact { this with ql := Nat.le_succ_of_le this.ql, pl := Nat.le_succ_of_le this.pl })
     rwa [hb] at this
   have hok' : okM n (fun j => toR (behT n o c k j)) (c k).obj (c k).op (c k).key (c k).val = false := ok_same.trans hok
   have noN1 (e : Nat) (q1 : erN n (behT n o c k) (c k).obj (c k).op (c k).key (c k).val = e) : noN n (stF n (fnT (behT n o c k))) (c k).obj (c k).op (c k).key (c k).val e = true := by
    unfold noN
    rw [okN_congr he, erN_congr he, hok, q1]; simp
   have noM1 (cc : Int) (q2 : codeM n (fun j => toR (behT n o c k j)) (c k).obj (c k).op (c k).key (c k).val = cc) : noM n (rfF n (fnU fun j => toR (behT n o c k j))) (c k).obj (c k).op (c k).key (c k).val cc = true := by
    unfold noM
    rw [rfF_fnU, hok', q2]; simp
   rcases er_same hok with ⟨q1, q2⟩ | ⟨q1, q2⟩ | ⟨q1, q2⟩
   ·refine goesS_spec (s := spec24y 0 109) (stop := sAl) ?_
    refine gSt (C7.ok _ _) (fok24y _ _ _) (hold := nH0) (m := 300) (n := 400) (ts := [⟨24, td24, LO24 n (behT n o c k) (fun j => toR (behT n o c k j)) m c (k + 1 : Nat), []⟩]) ?_
    refine all_e24_109 prim W7 n _ _ _ _ m c k (k + 1 : Nat) inb (fun _ => stB_fnT _ _) (fun _ => rr) (fun _ => fitN_inv (by omega) hde) (fun _ => noN1 0 q1) (fun _ => rfB_fnU _ _) (fun _ => ?_) (fun _ => noM1 109 q2) (fun _ => stB_fnT _ _) (fun _ => hend.1) (fun _ => rfB_fnU _ _) (fun _ => hend.2.1) (fun _ => hend.2.2.1) (fun h => ⟨⟨rfl, rfl, nx h, rfl, trivial⟩, _, rfl, goesS_spec (next h)⟩) fin
    rw [rfF_fnU]; exact fitM_inv (by omega) hd
   ·refine goesS_spec (s := spec24y 1 111) (stop := sAl) ?_
    refine gSt (C7.ok _ _) (fok24y _ _ _) (hold := nH0) (m := 300) (n := 400) (ts := [⟨24, td24, LO24 n (behT n o c k) (fun j => toR (behT n o c k j)) m c (k + 1 : Nat), []⟩]) ?_
    refine all_e24_111 prim W7 n _ _ _ _ m c k (k + 1 : Nat) inb (fun _ => stB_fnT _ _) (fun _ => rr) (fun _ => fitN_inv (by omega) hde) (fun _ => noN1 1 q1) (fun _ => rfB_fnU _ _) (fun _ => ?_) (fun _ => noM1 111 q2) (fun _ => stB_fnT _ _) (fun _ => hend.1) (fun _ => rfB_fnU _ _) (fun _ => hend.2.1) (fun _ => hend.2.2.1) (fun h => ⟨⟨rfl, rfl, nx h, rfl, trivial⟩, _, rfl, goesS_spec (next h)⟩) fin
    rw [rfF_fnU]; exact fitM_inv (by omega) hd
   ·refine goesS_spec (s := spec24y 3 110) (stop := sAl) ?_
    refine gSt (C7.ok _ _) (fok24y _ _ _) (hold := nH0) (m := 300) (n := 400) (ts := [⟨24, td24, LO24 n (behT n o c k) (fun j => toR (behT n o c k j)) m c (k + 1 : Nat), []⟩]) ?_
    refine all_e24_110 prim W7 n _ _ _ _ m c k (k + 1 : Nat) inb (fun _ => stB_fnT _ _) (fun _ => rr) (fun _ => fitN_inv (by omega) hde) (fun _ => noN1 3 q1) (fun _ => rfB_fnU _ _) (fun _ => ?_) (fun _ => noM1 110 q2) (fun _ => stB_fnT _ _) (fun _ => hend.1) (fun _ => rfB_fnU _ _) (fun _ => hend.2.1) (fun _ => hend.2.2.1) (fun h => ⟨⟨rfl, rfl, nx h, rfl, trivial⟩, _, rfl, goesS_spec (next h)⟩) fin
    rw [rfF_fnU]; exact fitM_inv (by omega) hd
end
end Go.Proofs
namespace Go.Pl
def goodO (n : Nat) (o : Nat → Oj) : Bool := !bigO n && allOb n o
def fewB (m : Nat) : Bool := decide (m ≤ 50000)
end Go.Pl
namespace Go.Proofs
open Go Go.Sx Go.Pl
noncomputable def F24 : List Sh → Tree Sh
 | [s0, s1] => match slN 2 s0, slN 4 s1 with
  | some (n, g), some (m, h) => .need (okB Oj n g) (.need (kindsB n (rwAt g)) (.need (okB Cl m h) (.need (fewB m) (.node (goodO n (rwAt g))
    (.leaf (.tup [.agg [.sl 4 n (fnT (behT n (newT (rwAt g)) (rwAt h) m))], .sl 4 n (fnU fun j => toR (behT n (newT (rwAt g)) (rwAt h) m j)), .b true]))
    (.leaf (.tup [.agg [.sl 4 0 noT], .sl 4 0 noT, .b false]))))))
  | _, _ => .fail
 | _ => .fail
theorem O24 : FnOK Tryz.prog (gls7 W7) 24 F24 := by
 refine fnOK_Su (C := C7 prim W7 spec24 sAl) (C7.ok _ _) (fn := Tryz.f24) (by kernel_rfl) (by kernel_rfl) fun H w shs args φ hrep h => ?_
 have hn : Tryz.f24.ntmps = 115 := by kernel_rfl
 unfold F24 at h
 split at h
 ·split at h
  ·rename_i n g m hh e1 e2
   obtain ⟨h1, h2, h3, h4, hyes, hno⟩ := h
   have h4 := of_decide_eq_true h4
   match args, hrep with
   | [v1, v2], ⟨r1, r2, _⟩ =>
    refine ⟨[.sl 2 n (fnR (rwAt (α := Oj) g)), .sl 4 m (fnR (rwAt (α := Cl) hh))], ⟨rep_rows (rep_slN e1 r1) h1, rep_rows (rep_slN e2 r2) h3, trivial⟩, L0, ?_⟩
    generalize rwAt (α := Oj) g = o at *
    generalize rwAt (α := Cl) hh = c at *
    have bad (hg : goodO n o = false) : up φ (.tup [.agg [.sl 4 0 noT], .sl 0 0 fun _ => [], .b false]) := up_mk (s' := .tup [.agg [.sl 4 0 noT], .sl 4 0 noT, .b false]) ⟨⟨.inl ⟨rfl, rfl⟩, trivial⟩, .inl ⟨rfl, rfl⟩, .inl rfl, trivial⟩ (hno hg)
    have g1 (q : bigO n = true) : goodO n o = false := by unfold goodO; rw [q]; rfl
    have g2 (q : allOb n o = false) : goodO n o = false := by unfold goodO; rw [q, Bool.and_false]
    refine gSt (C7.ok _ _) (fok24 _) (hold := nH0) (m := 300) (n := 400) (ts := [⟨24, td24, LO24 n (newT o) (newU o) m c (0 : Nat), []⟩]) ?_
    rw [hn]
    refine all_a24 prim W7 n o m c (0 : Nat) (okB_put _ _) (by rw [rwAt_fnR]; exact h2) (fun q _ => bad (g1 q)) (fun q _ _ => bad (g1 q)) (fun q _ _ => bad (g1 q)) (fun q _ q2 => by rw [q] at q2; cases q2) (fun q q2 _ _ => ?_) (fun _ q2 _ q3 => by rw [q2] at q3; cases q3) (fun q _ q2 => by rw [q] at q2; cases q2) (fun _ q2 _ q3 => by rw [q2] at q3; cases q3) (fun _ q _ _ => bad (g2 (by rw [rwAt_fnR] at q; exact q)))
    rw [rwAt_fnR] at q2
    have hg : goodO n o = true := by unfold goodO; rw [q, q2]; rfl
    have hT : ∀ j, j < n → badOb (o j).kind (o j).init = false := fun j hj => by simpa using all_range q2 j hj
    refine ⟨⟨rfl, (by rw [rwAt_fnR]; exact rfl), rfl, (by rw [rwAt_fnR]; exact rfl), trivial⟩, _, rfl, ?_⟩
    have h0 : ∀ j, j < n → InvS 0 (newT o j) := fun j hj => (new_inv (hT j hj)).1
    exact loop24 (o := newT o) (by simp [bigO] at q; omega) h4 h0 (hyes hg) m 0 (by omega) h0
  ·exact h.elim
 ·exact h.elim
end Go.Proofs
namespace Go.Pl
open Go Go.Sx
noncomputable def difN (n : Nat) (g : Nat → List Sh) (m : Nat) (h : Nat → List Sh) : Nat := (diffL n (stF n g) m (stF m h)).length
def manyB (n m : Nat) : Bool := decide (n ≤ 100000 ∧ m ≤ 100000)
noncomputable def difR (n : Nat) (g : Nat → List Sh) (m : Nat) (h : Nat → List Sh) : Nat → List Sh := fnR (nth (diffL n (stF n g) m (stF m h)))
end Go.Pl
namespace Go.Proofs
open Go Go.Sx Go.Pl
noncomputable def F27x : List Sh → Tree Sh
 | [.agg [s0], .agg [s1]] => match slN 4 s0, slN 4 s1 with
  | some (n, g), some (m, h) => .need (stB n g) (.need (stB m h) (.need (manyB n m) (.leaf (.os 3 1 (difN n g m h) (difR n g m h)))))
  | _, _ => .fail
 | _ => .fail
end Go.Proofs
namespace Go.Proofs
open Go Go.Sx Go.Pl
end Go.Proofs
namespace Go.Pl
open Go Go.Sx Go.Proofs
end Go.Pl
namespace Go.Proofs
open Go Go.Sx Go.Pl
theorem O27x : FnOK Tryz.prog (gls7 W7) 27 F27x := by
 intro H w shs args φ hon hg hr hφ
 refine O27 H w shs args φ hon hg hr ?_
 unfold F27x at hφ
 unfold F27
 split at hφ
 ·split at hφ
  ·rename_i e1 e2; simp only [e1, e2]; exact hφ
  ·exact hφ.elim
 ·exact hφ.elim
end Go.Proofs
namespace Go.Pl
open Go Go.Sx
def obG : Nat → List Sh := nthL [[.i .i64 1, .i .i64 5], [.i .i64 3, .i .i64 0]]
structure Lx7 where
 X : Nat → List Sh
 Y : Nat → List Sh
 K : (Nat → List Sh) → List UInt8
 ok : (Nat → List Sh) → Bool
end Go.Pl
namespace Go.Proofs
open Go.Sx.Tree
open Go Go.Sx Go.Pl
def F25v (L : Lx7) : List Sh → Tree Sh
 | [.sl 2 2 g] => .must [.get 2 g obG] (.leaf (.tup [.agg [.sl 4 2 L.X], .v .nilIface]))
 | _ => .fail
def F29v (L : Lx7) : List Sh → Tree Sh
 | [.agg [.sl 4 2 g], t, u, v, w] => match icode t, icode u, icode v, icode w with
  | some 1, some 5, some 0, some 3 => .must [.fun_ g L.X] (.leaf (.tup [.agg [.sl 4 2 L.Y], .i .i64 1, .i .i64 0, .v .nilIface]))
  | some 2, some 1, some 0, some 0 => .must [.fun_ g L.X] (.leaf (.tup [.agg [.sl 4 0 noT], .i .i64 0, .i .i64 0, .er 0 242]))
  | _, _, _, _ => .fail
 | _ => .fail
def F32v (L : Lx7) : List Sh → Tree Sh
 | [.agg [.sl 4 2 g]] => .need (L.ok g) (.leaf (.str (L.K g)))
 | _ => .fail
def spec12 (L : Lx7) : Nat → Option (List Sh → Tree Sh)
 | 14 => some F14
 | 15 => some F15
 | 16 => some F16
 | 18 => some F18
 | 19 => some F19
 | 25 => some (F25v L)
 | 29 => some (F29v L)
 | 32 => some (F32v L)
 | _ => none
theorem a12 (A : Prim) (W : Wd) (L : Lx7) : runTo (C7 A W (spec12 L) sAl) nH0 300 400 12 [.code []] (start0 81 [] L0) [] [] = must [Eqn.get 2 (nthL [[Sh.i .i64 (Int.ofNat 1), Sh.i .i64 (Int.ofNat 5)], [Sh.i .i64 (Int.ofNat 3), Sh.i .i64 (Int.ofNat 0)]]) obG] (must [Eqn.fun_ L.X L.X] (must [Eqn.fun_ L.X L.X] (need (roomB 2 8) (need (okB Int 2 (nthL [[Sh.i .i64 (Int.ofNat 1)], [Sh.i .i64 (Int.ofNat 2)]])) (need (roomB 2 8) (need (roomB 2 8) (need (roomB 1 8) (need (roomB 2 8) (need (roomB 2 8) (need (okB Int 2 (updG 2 (nthL [[Sh.i .i64 (Int.ofNat 1)], [Sh.i .i64 (Int.ofNat 2)]]) (Int.ofNat 1) [Sh.i .i64 (Int.ofNat 7)])) (need (okB Int 2 (nthL [[Sh.i .i64 (Int.ofNat 1)], [Sh.i .i64 (Int.ofNat 7)]])) (need (okB Int 2 (snocG 1 (nthL [[Sh.i .i64 (Int.ofNat 1)]]) [Sh.i .i64 (Int.ofNat 2)])) (need (okB Int 2 (nthL [[Sh.i .i64 (Int.ofNat 1)], [Sh.i .i64 (Int.ofNat 2)]])) (node (A.eq (Int.ofNat 1) (Int.ofNat 1)) (need (L.ok L.Y) (node (A.seq (L.K L.Y) [114, 101, 103, 105, 115, 116, 101, 114, 32, 53, 59, 32, 113, 117, 101, 117, 101, 32, 51]) (need (L.ok L.X) (node (A.seq (L.K L.X) [114, 101, 103, 105, 115, 116, 101, 114, 32, 53, 59, 32, 113, 117, 101, 117, 101]) (node (sameL (lst Int 2 (updG 2 (nthL [[Sh.i .i64 (Int.ofNat 1)], [Sh.i .i64 (Int.ofNat 2)]]) (Int.ofNat 1) [Sh.i .i64 (Int.ofNat 7)])) (lst Int 2 (nthL [[Sh.i .i64 (Int.ofNat 1)], [Sh.i .i64 (Int.ofNat 7)]]))) (leaf (Fe2.ret (Sh.b (sameL (lst Int 2 (snocG 1 (nthL [[Sh.i .i64 (Int.ofNat 1)]]) [Sh.i .i64 (Int.ofNat 2)])) (lst Int 2 (nthL [[Sh.i .i64 (Int.ofNat 1)], [Sh.i .i64 (Int.ofNat 2)]])))))) (leaf (Fe2.ret (Sh.b false)))) (leaf (Fe2.ret (Sh.b false))))) (leaf (Fe2.ret (Sh.b false))))) (leaf (Fe2.ret (Sh.b false))))))))))))))))) := by kernel_rfl
end Go.Proofs
namespace Go.Sx
theorem FnOK.up {P : Program} {gls : List (Nat × Sh)} {f : Nat} {F F' : List Sh → Tree Sh} (h : FnOK P gls f F) (hF : ∀ (H : Mem) (shs : List Sh) (args : List Value) (φ : Sh → Prop), RepL H shs args → (F' shs).All φ → (F shs).All (Go.Sx.up φ)) : FnOK P gls f F' :=
 fun H w shs args φ on hg hr hφ => (h H w shs args _ on hg hr (hF H shs args φ hr hφ)).mono fun e w' ⟨v, s, H', he, ⟨s', hw, hs⟩, r⟩ => let ⟨H2, r2⟩ := r.wk hw; ⟨v, s', H2, he, hs, r2⟩
end Go.Sx
namespace Go.Pl
open Go Go.Sx Go.Proofs
def d0 : Nat → Sta := newT (rwAt obG)
def d1 (j : Nat) : Sta := if j = 1 then ⟨3, 0, [3], []⟩ else d0 j
noncomputable def LX : Lx7 where
 X := fnT d0
 Y := updG 2 (fnT d0) 1 (staS ⟨3, 0, [3], []⟩)
 K g := keyT ((List.range 2).map (stF 2 g))
 ok g := stB 2 g && keysB 2 (stF 2 g)
theorem y_eq : ∀ j, j < 2 → updG 2 (fnT d0) 1 (staS ⟨3, 0, [3], []⟩) j = staS (d1 j) := fun j hj => by
 have : j = 0 ∨ j = 1 := by omega
 rcases this with rfl | rfl
 ·simp [updG, inI, d1, fnT]
 ·simp [updG, inI, d1]
theorem stX : ∀ j, j < 2 → stF 2 (fnT d0) j = d0 j := stF_fnT
theorem stY : ∀ j, j < 2 → stF 2 (updG 2 (fnT d0) 1 (staS ⟨3, 0, [3], []⟩)) j = d1 j := stF_of y_eq
theorem range2 {α : Type} (f g : Nat → α) (h : ∀ j, j < 2 → f j = g j) : (List.range 2).map f = [g 0, g 1] := by
 rw [show List.range 2 = [0, 1] from rfl]
 simp only [List.map_cons, List.map_nil]
 rw [h 0 (by decide), h 1 (by decide)]
theorem itoa_one {n : Nat} (h : n < 10) : itoaS (n : Int) = [UInt8.ofNat (48 + n)] := by
 unfold itoaS Go.Lib.itoa
 rw [if_neg (by omega)]
 have : ((n : Int)).toNat = n := by simp
 rw [this, Go.Lib.decDigits_one h]
theorem key0 : keyT [d0 0, d0 1] = [114, 101, 103, 105, 115, 116, 101, 114, 32, 53, 59, 32, 113, 117, 101, 117, 101] := by
 have h5 : itoaS 5 = [53] := itoa_one (n := 5) (by decide)
 have e0 : d0 0 = ⟨1, 5, [], []⟩ := rfl
 have e1 : d0 1 = ⟨3, 0, [], []⟩ := rfl
 rw [e0, e1]
 have k0 : keyS ⟨1, 5, [], []⟩ = [114, 101, 103, 105, 115, 116, 101, 114, 32, 53] := by
  show joinS [wordO 1, itoaS 5] [32] = _
  rw [h5]; rfl
 have k1 : keyS ⟨3, 0, [], []⟩ = [113, 117, 101, 117, 101] := rfl
 show joinS [keyS ⟨1, 5, [], []⟩, keyS ⟨3, 0, [], []⟩] [59, 32] = _
 rw [k0, k1]; rfl
theorem key1 : keyT [d1 0, d1 1] = [114, 101, 103, 105, 115, 116, 101, 114, 32, 53, 59, 32, 113, 117, 101, 117, 101, 32, 51] := by
 have h5 : itoaS 5 = [53] := itoa_one (n := 5) (by decide)
 have h3 : itoaS 3 = [51] := itoa_one (n := 3) (by decide)
 have e0 : d1 0 = ⟨1, 5, [], []⟩ := rfl
 have e1 : d1 1 = ⟨3, 0, [3], []⟩ := rfl
 rw [e0, e1]
 have k0 : keyS ⟨1, 5, [], []⟩ = [114, 101, 103, 105, 115, 116, 101, 114, 32, 53] := by
  show joinS [wordO 1, itoaS 5] [32] = _
  rw [h5]; rfl
 have k1 : keyS ⟨3, 0, [3], []⟩ = [113, 117, 101, 117, 101, 32, 51] := by
  show joinS [wordO 3, itoaS 3] [32] = _
  rw [h3]; rfl
 show joinS [keyS ⟨1, 5, [], []⟩, keyS ⟨3, 0, [3], []⟩] [59, 32] = _
 rw [k0, k1]; rfl
theorem all2 {p : Nat → Bool} (h0 : p 0 = true) (h1 : p 1 = true) : (List.range 2).all p = true := by
 rw [show List.range 2 = [0, 1] from rfl]
 simp [h0, h1]
theorem keys2 {d : Nat → Sta} (h0 : okT (d 0) = true) (h1 : okT (d 1) = true) : keysB 2 d = true := by
 unfold keysB
 rw [all2 h0 h1]; rfl
end Go.Pl
namespace Go.Proofs
open Go Go.Sx Go.Pl
theorem O25v : FnOK Tryz.prog (gls7 W7) 25 (F25v LX) := O25.up fun H shs args φ hr h => by
 unfold F25v at h
 split at h
 ·rename_i g
  obtain ⟨⟨hg, _⟩, hφ⟩ := h
  have hg : ∀ i, i < 2 → g i = obG i := hg
  have hr : ∀ j, j < 2 → rwAt (α := Oj) g j = rwAt obG j := fun j hj => by unfold rwAt; rw [hg j hj]
  have e0 : rwAt (α := Oj) obG 0 = ⟨1, 5⟩ := rfl
  have e1 : rwAt (α := Oj) obG 1 = ⟨3, 0⟩ := rfl
  have hs : slN 2 (.sl 2 2 g) = some (2, g) := rfl
  simp only [F25, hs]
  refine ⟨okB_of (o := rwAt obG) fun i hi => ?_, all2 ?_ ?_, fun e => (by cases e), fun _ => ⟨fun _ => up_mk (s' := .tup [.agg [.sl 4 2 (fnT d0)], .v .nilIface]) ⟨⟨.inr ⟨rfl, rfl, fun j hj => ?_⟩, trivial⟩, rfl, trivial⟩ hφ, fun e => ?_⟩⟩
  ·rw [hg i hi]
   have : i = 0 ∨ i = 1 := by omega
   rcases this with rfl | rfl <;> rfl
  ·rw [hr 0 (by decide), e0]; rfl
  ·rw [hr 1 (by decide), e1]; rfl
  ·show staS (newT (rwAt g) j) = staS (newT (rwAt obG) j)
   unfold newT
   rw [hr j hj]
  ·have : allOb 2 (rwAt g) = true := all2 (by rw [hr 0 (by decide), e0]; rfl) (by rw [hr 1 (by decide), e1]; rfl)
   rw [this] at e; cases e
 ·exact h.elim
theorem O29v : FnOK Tryz.prog (gls7 W7) 29 (F29v LX) := O29.up fun H shs args φ hr h => by
 unfold F29v at h
 split at h
 ·rename_i g t u v w
  have hs : slN 4 (.sl 4 2 g) = some (2, g) := rfl
  split at h
  ·rename_i ht hu hv hw
   obtain ⟨⟨hg, _⟩, hφ⟩ := h
   have hg : g = fnT d0 := hg
   subst hg
   have e1 : stF 2 (fnT d0) (1 : Int).toNat = ⟨3, 0, [], []⟩ := stX 1 (by decide)
   simp only [F29, hs, ht, hu, hv, hw]
   rw [e1]
   exact ⟨stB_fnT _ _, rfl, fun _ => ⟨rfl, fun e => (by cases e), fun _ => ⟨fun e => (by cases e), fun _ => ⟨rfl, up_mk (s' := .tup [.agg [.sl 4 2 LX.Y], .i .i64 1, .i .i64 0, .v .nilIface]) ⟨⟨.inr ⟨rfl, rfl, fun _ _ => rfl⟩, trivial⟩, rfl, rfl, rfl, trivial⟩ hφ⟩⟩⟩, fun e => (by cases e)⟩
  ·rename_i ht hu hv hw
   obtain ⟨⟨hg, _⟩, hφ⟩ := h
   have hg : g = fnT d0 := hg
   subst hg
   simp only [F29, hs, ht, hu, hv, hw]
   exact ⟨stB_fnT _ _, rfl, fun e => (by cases e), fun _ => up_mk (s' := .tup [.agg [.sl 4 0 noT], .i .i64 0, .i .i64 0, .er 0 242]) ⟨⟨.inl ⟨rfl, rfl⟩, trivial⟩, rfl, rfl, rfl, trivial⟩ hφ⟩
  ·exact h.elim
 ·exact h.elim
theorem O32v : FnOK Tryz.prog (gls7 W7) 32 (F32v LX) := O32.mono fun H shs args φ hr h => by
 unfold F32v at h
 split at h
 ·rename_i g
  obtain ⟨h1, hφ⟩ := h
  have h1 : (stB 2 g && keysB 2 (stF 2 g)) = true := h1
  simp only [Bool.and_eq_true] at h1
  have hs : slN 4 (.sl 4 2 g) = some (2, g) := rfl
  simp only [F32, hs]
  exact ⟨h1.1, h1.2, hφ⟩
 ·exact h.elim
theorem O12s : ∀ g F, spec12 LX g = some F → FnOK Tryz.prog (gls7 W7) g F := fun g F h => by
 unfold spec12 at h
 split at h
 ·cases h; exact O14
 ·cases h; exact O15
 ·cases h; exact O16
 ·cases h; exact O18
 ·cases h; exact O19
 ·cases h; exact O25v
 ·cases h; exact O29v
 ·cases h; exact O32v
 ·cases h
theorem fok12 (stop : Nat → List Nat → Bool) : FnsOK Tryz.prog (C7 prim W7 (spec12 LX) stop) := C7.fok O12s fun g h => by
 unfold spec12 at h
 split at h
 all_goals first | (cases h; done) | kernel_rfl
def F12 : List Sh → Tree Sh
 | [] => .leaf (.v (.bool true))
 | _ => .fail
theorem O12 : FnOK Tryz.prog (gls7 W7) 12 F12 := by
 refine fnOK_Ru (C := C7 prim W7 (spec12 LX) sAl) (C7.ok _ _) (fok12 _) (m := 300) (n := 400) (L := L0) (fn := Tryz.f12) (by kernel_rfl) (by kernel_rfl) fun H w shs args φ hrep h => ?_
 have hn : Tryz.f12.ntmps = 81 := by kernel_rfl
 unfold F12 at h
 split at h
 ·refine ⟨[], hrep, ?_⟩
  rw [hn, a12 prim W7 LX]
  have kx : LX.K LX.X = [114, 101, 103, 105, 115, 116, 101, 114, 32, 53, 59, 32, 113, 117, 101, 117, 101] := by
   show keyT ((List.range 2).map (stF 2 (fnT d0))) = _
   rw [range2 _ d0 stX, key0]
  have ky : LX.K LX.Y = [114, 101, 103, 105, 115, 116, 101, 114, 32, 53, 59, 32, 113, 117, 101, 117, 101, 32, 51] := by
   show keyT ((List.range 2).map (stF 2 (updG 2 (fnT d0) 1 (staS ⟨3, 0, [3], []⟩)))) = _
   rw [range2 _ d1 stY, key1]
  have ox : LX.ok LX.X = true := by
   show (stB 2 (fnT d0) && keysB 2 (stF 2 (fnT d0))) = true
   rw [stB_fnT, keys2 (by rw [stX 0 (by decide)]; rfl) (by rw [stX 1 (by decide)]; rfl)]; rfl
  have oy : LX.ok LX.Y = true := by
   show (stB 2 (updG 2 (fnT d0) 1 (staS ⟨3, 0, [3], []⟩)) && keysB 2 (stF 2 (updG 2 (fnT d0) 1 (staS ⟨3, 0, [3], []⟩)))) = true
   rw [stB_of y_eq, keys2 (by rw [stY 0 (by decide)]; rfl) (by rw [stY 1 (by decide)]; rfl)]; rfl
  rw [kx, ky, ox, oy]
  have fin : up φ (.b true) := up_mk (s' := .v (.bool true)) (.inr rfl) h
  refine ⟨⟨fun _ _ => rfl, trivial⟩, ⟨rfl, trivial⟩, ⟨rfl, trivial⟩, rfl, rfl, rfl, rfl, rfl, rfl, rfl, rfl, rfl, rfl, rfl, fun _ => ⟨rfl, fun _ => ⟨rfl, fun _ => ⟨fun _ => fin, fun e => (by cases e)⟩, fun e => (by cases e)⟩, fun e => (by cases e)⟩, fun e => (by cases e)⟩
 ·exact h.elim
end Go.Proofs
namespace Go.Pl
open Go Go.Sx
def noO (n : Nat) (o : Nat → Oj) : Bool := !goodO n o
def in24 (n : Nat) (g : Nat → List Sh) (m : Nat) (h : Nat → List Sh) : Bool := okB Oj n g && kindsB n (rwAt g) && okB Cl m h && fewB m
def behU (n : Nat) (d : Nat → Sta) (c : Nat → Cl) (m : Nat) : Nat → Rf := fun j => toR (behT n d c m j)
end Go.Pl
namespace Go.Proofs
open Go Go.Sx Go.Pl
noncomputable def F24g : List Sh → Tree Sh
 | [s0, s1] => match slN 2 s0, slN 4 s1 with
  | some (n, g), some (m, h) => .need (in24 n g m h) (.need (goodO n (rwAt g)) (.leaf (.tup [.agg [.sl 4 n (fnT (behT n (newT (rwAt g)) (rwAt h) m))], .sl 4 n (fnU (behU n (newT (rwAt g)) (rwAt h) m)), .v (.bool true)])))
  | _, _ => .fail
 | _ => .fail
noncomputable def F24n : List Sh → Tree Sh
 | [s0, s1] => match slN 2 s0, slN 4 s1 with
  | some (n, g), some (m, h) => .need (in24 n g m h) (.need (noO n (rwAt g)) (.leaf (.tup [.agg [.sl 4 0 noT], .sl 4 0 noT, .v (.bool false)])))
  | _, _ => .fail
 | _ => .fail
end Go.Proofs
namespace Go.Proofs
open Go Go.Sx Go.Pl
end Go.Proofs
namespace Go.Pl
open Go Go.Sx Go.Proofs
open Go.Lib (decDigits itoa)
end Go.Pl
namespace Go.Pl
open Go Go.Sx Go.Proofs
section
variable {n m : Nat} {o d e : Nat → Sta} {c : Nat → Cl}
theorem behT_inv (h0 : ∀ j, j < n → InvS 0 (o j)) : ∀ m j, j < n → InvS m (behT n o c m j)
 | 0, j, hj => h0 j hj
 | m + 1, j, hj => by
  have ih := behT_inv h0 m
  unfold behT
  split
  ·rename_i hok
   exact (nxtU_eq (fun j hj => ih j hj) hok).2 j hj
  ·have := ih j hj
   exact { this with ql := Nat.le_succ_of_le this.ql, pl := Nat.le_succ_of_le this.pl }
theorem new_all {o : Nat → Oj} (hg : goodO n o = true) : n ≤ 8 ∧ ∀ j, j < n → InvS 0 (newT o j) := by
 unfold goodO bigO at hg
 rw [Bool.and_eq_true] at hg
 obtain ⟨h1, h2⟩ := hg
 refine ⟨?_, fun j hj => (new_inv ?_).1⟩
 ·simp at h1; omega
 ·simpa using all_range h2 j hj
theorem atT_in {i : Nat} (h : i < n) : atT n d i = d i := by
 unfold atT
 have : inI n i = true := by simp [inI, h]
 rw [this]; rfl
end
end Go.Pl
namespace Go.Proofs
open Go Go.Sx Go.Pl
theorem fnOK_wk {P : Program} {gls : List (Nat × Sh)} {g : Nat} {F G : List Sh → Tree Sh} (hF : FnOK P gls g F) (h : ∀ (shs : List Sh) (φ : Sh → Prop), (G shs).All φ → ∃ s' : Sh, φ s' ∧ (F shs).All fun s => Wk s s') : FnOK P gls g G := by
 intro H w shs args φ hon hg hr hφ
 obtain ⟨s', h1, h2⟩ := h shs φ hφ
 refine (hF H w shs args _ hon hg hr h2).mono fun e w' ⟨v, s, H', he, hs, r⟩ => ?_
 obtain ⟨H2, r2⟩ := r.wk hs
 exact ⟨v, s', H2, he, h1, r2⟩
theorem in24_of {n m : Nat} {g h : Nat → List Sh} (q : in24 n g m h = true) : okB Oj n g = true ∧ kindsB n (rwAt g) = true ∧ okB Cl m h = true ∧ fewB m = true := by
 unfold in24 at q
 simp only [Bool.and_eq_true] at q
 exact ⟨q.1.1.1, q.1.1.2, q.1.2, q.2⟩
theorem wk_sl {st n : Nat} {g : Nat → List Sh} : Wk (.sl st n g) (.sl st n g) := .inr ⟨rfl, rfl, fun _ _ => rfl⟩
theorem O24g : FnOK Tryz.prog (gls7 W7) 24 F24g := fnOK_wk O24 fun shs φ h => by
 unfold F24g at h
 split at h
 ·split at h
  ·rename_i e1 e2
   obtain ⟨h1, h2, hφ⟩ := h
   obtain ⟨q1, q2, q3, q4⟩ := in24_of h1
   refine ⟨_, hφ, ?_⟩
   unfold F24
   simp only [e1, e2]
   exact ⟨q1, q2, q3, q4, fun _ => ⟨⟨wk_sl, trivial⟩, wk_sl, .inr rfl, trivial⟩, fun q => by rw [h2] at q; cases q⟩
  ·exact h.elim
 ·exact h.elim
theorem O24n : FnOK Tryz.prog (gls7 W7) 24 F24n := fnOK_wk O24 fun shs φ h => by
 unfold F24n at h
 split at h
 ·split at h
  ·rename_i e1 e2
   obtain ⟨h1, h2, hφ⟩ := h
   obtain ⟨q1, q2, q3, q4⟩ := in24_of h1
   refine ⟨_, hφ, ?_⟩
   unfold F24
   simp only [e1, e2]
   refine ⟨q1, q2, q3, q4, fun q => ?_, fun _ => ⟨⟨wk_sl, trivial⟩, wk_sl, .inr rfl, trivial⟩⟩
   unfold noO at h2
   rw [q] at h2; cases h2
  ·exact h.elim
 ·exact h.elim
end Go.Proofs
namespace Go.Pl
open Go Go.Sx
def cpJ (g : Nat → List Sh) : Nat → List Sh := fnR (rwAt (α := Int) g)
def roomJ (n : Nat) : Bool := roomB n 8
def noneO (n : Nat) (o : Nat → Oj) : Bool := !bigO n && !allOb n o
def in25 (n : Nat) (g : Nat → List Sh) : Bool := okB Oj n g && kindsB n (rwAt g)
end Go.Pl
namespace Go.Proofs
open Go.Sx.Tree
open Go Go.Sx Go.Pl
def H14 : List Sh → Tree Sh
 | [.sl 1 n g] => .need (okB Int n g) (.need (roomJ n) (.leaf (.agg [.sl 1 n (cpJ g)])))
 | _ => .fail
def H19 : List Sh → Tree Sh
 | [.agg [.sl 1 n g]] => .need (roomJ n) (.leaf (.os 3 1 n g))
 | _ => .fail
noncomputable def F25g : List Sh → Tree Sh
 | [s0] => match slN 2 s0 with
  | some (n, g) => .need (in25 n g) (.need (goodO n (rwAt g)) (.leaf (.tup [.agg [.sl 4 n (fnT (newT (rwAt g)))], .v .nilIface])))
  | none => .fail
 | _ => .fail
noncomputable def F26g : List Sh → Tree Sh
 | [s0] => match slN 2 s0 with
  | some (n, g) => .need (in25 n g) (.need (goodO n (rwAt g)) (.leaf (.tup [.sl 4 n (fnU (newU (rwAt g))), .agg [.v (.int .i64 0), .sl 1 0 noI]])))
  | none => .fail
 | _ => .fail
noncomputable def spec4 : Nat → Option (List Sh → Tree Sh)
 | 12 => some F12
 | 14 => some H14
 | 18 => some G18b
 | 19 => some H19
 | 24 => some F24g
 | 25 => some F25g
 | 26 => some F26g
 | 27 => some F27x
 | 28 => some F28
 | _ => none
noncomputable def F25a : List Sh → Tree Sh
 | [s0] => match slN 2 s0 with
  | some (n, g) => .need (in25 n g) (.need (bigO n) (.leaf (.tup [.agg [.sl 4 0 noT], .er 5 242])))
  | none => .fail
 | _ => .fail
noncomputable def F25b : List Sh → Tree Sh
 | [s0] => match slN 2 s0 with
  | some (n, g) => .need (in25 n g) (.need (noneO n (rwAt g)) (.leaf (.tup [.agg [.sl 4 0 noT], .ifc 167 (.pt [.i .i64 (firstOb n (rwAt g)), .er 0 242])])))
  | none => .fail
 | _ => .fail
noncomputable def spec4a : Nat → Option (List Sh → Tree Sh)
 | 12 => some F12
 | 14 => some H14
 | 24 => some F24n
 | 25 => some F25a
 | _ => none
noncomputable def spec4b : Nat → Option (List Sh → Tree Sh)
 | 12 => some F12
 | 14 => some H14
 | 24 => some F24n
 | 25 => some F25b
 | _ => none
def td4 : List It := [It.code [0, 1, 0, 1, 1, 1, 1, 1, 1, 1, 1], It.inBlock 0, It.code [1, 1, 1, 1, 1, 1, 1, 1, 1]]
def tb4 : List It := It.code [0, 0, 1, 0, 1, 1, 1, 1, 1, 1, 1, 1] :: td4
def td4a : List It := [It.code [0, 1, 0, 1, 1, 0, 0, 1, 0, 0, 1, 0, 1, 1, 1, 1, 1, 1, 1, 1], It.inBlock 2, It.code [1, 1, 1, 0, 0, 1, 0, 0, 1, 0, 1, 1, 1, 1, 1, 1, 1, 1], It.inBlock 1, It.code [1, 1, 0, 0, 1, 0, 1, 1, 1, 1, 1, 1, 1, 1]] ++ td4
def tb4a : List It := It.code [0, 0, 1, 0, 1, 1, 0, 0, 1, 0, 0, 1, 0, 1, 1, 1, 1, 1, 1, 1, 1] :: td4a
def td4b : List It := [It.code [0, 1, 0, 1, 1, 1, 0, 0, 1, 0, 0, 1, 0, 1, 1, 1, 1, 1, 1, 1, 1], It.inBlock 4, It.code [1, 1, 1, 1, 0, 0, 1, 0, 0, 1, 0, 1, 1, 1, 1, 1, 1, 1, 1], It.inBlock 1, It.code [1, 1, 0, 0, 1, 0, 1, 1, 1, 1, 1, 1, 1, 1]] ++ td4
def tb4b : List It := It.code [0, 0, 1, 0, 1, 1, 1, 0, 0, 1, 0, 0, 1, 0, 1, 1, 1, 1, 1, 1, 1, 1] :: td4b
def tm4 (nl : Nat) (w : Nat → Int) (n : Nat) (u v : Nat → Rf) (k : Int) (l : List (Nat × SV)) : List SV := tmOf 129 ([(0, .sh (.sl 1 nl (fnR w))), (8, .ptr 0 0), (9, .ptr 1 0), (10, .sh (.sl 4 n (fnU u))), (12, .ptr 2 0), (14, .sh (.sl 4 n (fnU v))), (16, .sym .i64 k)] ++ l)
def hp4 (nl : Nat) (w : Nat → Int) (n : Nat) (d e : Nat → Sta) (l : List (Nat × SB)) : List (Nat × SB) := [(0, .box [.sh (.sl 1 nl (fnR w))] 26), (1, .box [.sh (.sl 4 n (fnT d))] 47), (2, .box [.sh (.sl 4 n (fnT e))] 47)] ++ l
def LO4 (nl : Nat) (w : Nat → Int) (n : Nat) (d e : Nat → Sta) (u v : Nat → Rf) (k : Int) : Core := { tm := tm4 nl w n u v k [], hp := hp4 nl w n d e [], nx := 3, lim := L0, tc := [] }
def LI4 (nl : Nat) (w : Nat → Int) (n : Nat) (d e : Nat → Sta) (u v : Nat → Rf) (k : Int) (x : Nat → Int) (nd : Nat) (y : Nat → Int) (j : Int) : Core := { tm := tm4 nl w n u v k [(17, .gs 3), (18, .gs 4), (19, .sym .i64 j)], hp := hp4 nl w n d e [(3, .own 3 1 nl (fnR x)), (4, .own 3 1 nd (fnR y))], nx := 5, lim := L0, tc := [] }
def LJ4 (nl : Nat) (w : Nat → Int) (n : Nat) (d e : Nat → Sta) (u v : Nat → Rf) (k : Int) (x : Nat → Int) (nd : Nat) (y : Nat → Int) (j : Int) : Core := { tm := tm4 nl w n u v k [(17, .gs 3), (18, .gs 4), (20, .sym .i64 j)], hp := hp4 nl w n d e [(3, .own 3 1 nl (fnR x)), (4, .own 3 1 nd (fnR y))], nx := 5, lim := L0, tc := [] }
def td4c : List It := [It.code [1, 1, 1, 1, 1, 1, 0, 0, 1, 0, 0, 1, 0, 1, 1, 1, 1, 1, 1, 1, 1], It.inBlock 1, It.code [1, 1, 0, 0, 1, 0, 1, 1, 1, 1, 1, 1, 1, 1]] ++ td4
def pause4 : Nat → List It → Bool := pauseAt 4 [[1, 1, 1, 1, 1, 1, 0, 0, 1, 0, 0, 1, 0, 1, 1, 1, 1, 1, 1, 1, 1]]
def LK4 (nl : Nat) (w : Nat → Int) (n : Nat) (d e : Nat → Sta) (u v : Nat → Rf) (k : Int) (x : Nat → Int) (nd : Nat) (y : Nat → Int) : Core := { tm := tm4 nl w n u v k [(17, .gs 3), (18, .gs 4)], hp := hp4 nl w n d e [(3, .own 3 1 (nl + 1) (fnR x)), (4, .own 3 1 (nd + 1) (fnR y))], nx := 5, lim := L0, tc := [] }
theorem na4 (A : Prim) (W : Wd) (nl : Nat) (w : Nat → Int) (n : Nat) (o : Nat → Oj) (m : Nat) (c : Nat → Cl) : runTo (C7 A W spec4a sAl) nH0 300 400 4 [.code []] (start0 129 [.sl 1 nl (fnR w), .sl 2 n (fnR o), .sl 4 m (fnR c)] L0) [] [] = node (A.lt (Int.ofNat 1000) (A.ofN nl)) (leaf (Fe2.ret (Sh.b true))) (node (A.lt (Int.ofNat 100) (A.ofN n)) (leaf (Fe2.ret (Sh.b true))) (node (A.lt (Int.ofNat 200) (A.ofN m)) (leaf (Fe2.ret (Sh.b true))) (need (okB Int nl (fnR w)) (need (roomJ nl) (need (in24 n (fnR o) m (fnR c)) (need (noO n (rwAt (fnR o))) (need (in25 n (fnR o)) (need (bigO n) (leaf (Fe2.ret (Sh.b true))))))))))) := by kernel_rfl
theorem nb4 (A : Prim) (W : Wd) (nl : Nat) (w : Nat → Int) (n : Nat) (o : Nat → Oj) (m : Nat) (c : Nat → Cl) : runTo (C7 A W spec4b sAl) nH0 300 400 4 [.code []] (start0 129 [.sl 1 nl (fnR w), .sl 2 n (fnR o), .sl 4 m (fnR c)] L0) [] [] = node (A.lt (Int.ofNat 1000) (A.ofN nl)) (leaf (Fe2.ret (Sh.b true))) (node (A.lt (Int.ofNat 100) (A.ofN n)) (leaf (Fe2.ret (Sh.b true))) (node (A.lt (Int.ofNat 200) (A.ofN m)) (leaf (Fe2.ret (Sh.b true))) (need (okB Int nl (fnR w)) (need (roomJ nl) (need (in24 n (fnR o) m (fnR c)) (need (noO n (rwAt (fnR o))) (need (in25 n (fnR o)) (need (noneO n (rwAt (fnR o))) (leaf (Fe2.ret (Sh.b true))))))))))) := by kernel_rfl
theorem a4 (A : Prim) (W : Wd) (nl : Nat) (w : Nat → Int) (n : Nat) (o : Nat → Oj) (m : Nat) (c : Nat → Cl) (d' e' : Nat → Sta) (u' v' : Nat → Rf) (k' : Int) : runTo (C7 A W spec4 sAl) nH0 300 400 4 [.code []] (start0 129 [.sl 1 nl (fnR w), .sl 2 n (fnR o), .sl 4 m (fnR c)] L0) [] [⟨4, td4, LO4 nl w n d' e' u' v' k', []⟩] = node (A.lt (Int.ofNat 1000) (A.ofN nl)) (leaf (Fe2.ret (Sh.b true))) (node (A.lt (Int.ofNat 100) (A.ofN n)) (leaf (Fe2.ret (Sh.b true))) (node (A.lt (Int.ofNat 200) (A.ofN m)) (leaf (Fe2.ret (Sh.b true))) (need (okB Int nl (fnR w)) (need (roomJ nl) (need (in24 n (fnR o) m (fnR c)) (need (goodO n (rwAt (fnR o))) (need (in25 n (fnR o)) (need (goodO n (rwAt (fnR o))) (need (in25 n (fnR o)) (need (goodO n (rwAt (fnR o))) (leaf (Fe2.at_ 0 [Eqn.sh (Sh.sl 1 nl (fnR w)) (Sh.sl 1 nl (fnR w)), Eqn.sh (Sh.sl 4 n (fnU (behU n (newT (rwAt (fnR o))) (rwAt (fnR c)) m))) (Sh.sl 4 n (fnU u')), Eqn.sh (Sh.sl 4 n (fnU (newU (rwAt (fnR o))))) (Sh.sl 4 n (fnU v')), Eqn.int (Int.ofNat 0) k', Eqn.sh (Sh.sl 1 nl (cpJ (fnR w))) (Sh.sl 1 nl (fnR w)), Eqn.sh (Sh.sl 4 n (fnT (behT n (newT (rwAt (fnR o))) (rwAt (fnR c)) m))) (Sh.sl 4 n (fnT d')), Eqn.sh (Sh.sl 4 n (fnT (newT (rwAt (fnR o))))) (Sh.sl 4 n (fnT e'))])))))))))))) := by kernel_rfl
theorem b4 (A : Prim) (W : Wd) (nl : Nat) (w : Nat → Int) (n : Nat) (d e : Nat → Sta) (u v : Nat → Rf) (k k' : Int) (x' : Nat → Int) (nd' : Nat) (y' : Nat → Int) (j' : Int) : runTo (C7 A W spec4 sAl) nH0 300 400 4 tb4 (LO4 nl w n d e u v k) [] [⟨4, td4a, LI4 nl w n d e u v k' x' nd' y' j', []⟩] = node (A.lt k (Int.ofNat 2)) (need (roomJ nl) (need (stB n (fnT d)) (need (stB n (fnT e)) (need (manyB n n) (leaf (Fe2.at_ 0 [Eqn.sh (Sh.sl 1 nl (fnR w)) (Sh.sl 1 nl (fnR w)), Eqn.sh (Sh.sl 4 n (fnU u)) (Sh.sl 4 n (fnU u)), Eqn.sh (Sh.sl 4 n (fnU v)) (Sh.sl 4 n (fnU v)), Eqn.int k k', Eqn.int (Int.ofNat 0) j', Eqn.sh (Sh.sl 1 nl (fnR w)) (Sh.sl 1 nl (fnR w)), Eqn.sh (Sh.sl 4 n (fnT d)) (Sh.sl 4 n (fnT d)), Eqn.sh (Sh.sl 4 n (fnT e)) (Sh.sl 4 n (fnT e)), Eqn.nat nl nl, Eqn.get nl (fnR w) (fnR x'), Eqn.nat (difN n (fnT d) n (fnT e)) nd', Eqn.get (difN n (fnT d) n (fnT e)) (difR n (fnT d) n (fnT e)) (fnR y')])))))) (need (roomJ nl) (need (okB Int nl (fnR w)) (need (okB Int nl (fnR w)) (node (eqI nl (fnR w) nl (fnR w)) (need (stB n (fnT d)) (need (stB n (fnT e)) (need (manyB n n) (need (rfB n (fnU u)) (need (rfB n (fnU v)) (need (manyU n n) (need (okB Int (difN n (fnT d) n (fnT e)) (difR n (fnT d) n (fnT e))) (need (okB Int (difU n (rfF n (fnU u)) n (rfF n (fnU v))) (dirU n (rfF n (fnU u)) n (rfF n (fnU v)))) (leaf (Fe2.ret (Sh.b (eqI (difN n (fnT d) n (fnT e)) (difR n (fnT d) n (fnT e)) (difU n (rfF n (fnU u)) n (rfF n (fnU v))) (dirU n (rfF n (fnU u)) n (rfF n (fnU v))))))))))))))) (leaf (Fe2.ret (Sh.b false))))))) := by kernel_rfl
theorem c4 (A : Prim) (W : Wd) (nl : Nat) (w : Nat → Int) (n : Nat) (d e : Nat → Sta) (u v : Nat → Rf) (k k' : Int) (x x' : Nat → Int) (nd : Nat) (y : Nat → Int) (j j' : Int) : runTo (C7 A W spec4 sAl) nH0 300 400 4 tb4a (LI4 nl w n d e u v k x nd y j) [] [⟨4, td4a, LI4 nl w n d e u v k' x' nd y j', []⟩, ⟨4, td4b, LJ4 nl w n d e u v k' x nd y 0, []⟩] = node (A.lt j (A.ofN nl)) (need (A.inB j nl) (leaf (Fe2.at_ 0 [Eqn.sh (Sh.sl 1 nl (fnR w)) (Sh.sl 1 nl (fnR w)), Eqn.sh (Sh.sl 4 n (fnU u)) (Sh.sl 4 n (fnU u)), Eqn.sh (Sh.sl 4 n (fnU v)) (Sh.sl 4 n (fnU v)), Eqn.int k k', Eqn.int (A.add .i64 j (Int.ofNat 1)) j', Eqn.sh (Sh.sl 1 nl (fnR w)) (Sh.sl 1 nl (fnR w)), Eqn.sh (Sh.sl 4 n (fnT d)) (Sh.sl 4 n (fnT d)), Eqn.sh (Sh.sl 4 n (fnT e)) (Sh.sl 4 n (fnT e)), Eqn.nat nl nl, Eqn.get nl (A.upd (fnR x) (A.toN j) 0 [Sh.i .i64 (Int.negSucc 8)]) (fnR x'), Eqn.nat nd nd, Eqn.get nd (fnR y) (fnR y)]))) (leaf (Fe2.at_ 1 [Eqn.sh (Sh.sl 1 nl (fnR w)) (Sh.sl 1 nl (fnR w)), Eqn.sh (Sh.sl 4 n (fnU u)) (Sh.sl 4 n (fnU u)), Eqn.sh (Sh.sl 4 n (fnU v)) (Sh.sl 4 n (fnU v)), Eqn.int k k', Eqn.int (Int.ofNat 0) (Int.ofNat 0), Eqn.sh (Sh.sl 1 nl (fnR w)) (Sh.sl 1 nl (fnR w)), Eqn.sh (Sh.sl 4 n (fnT d)) (Sh.sl 4 n (fnT d)), Eqn.sh (Sh.sl 4 n (fnT e)) (Sh.sl 4 n (fnT e)), Eqn.nat nl nl, Eqn.get nl (fnR x) (fnR x), Eqn.nat nd nd, Eqn.get nd (fnR y) (fnR y)])) := by kernel_rfl
theorem d4 (A : Prim) (W : Wd) (nl : Nat) (w : Nat → Int) (n : Nat) (d e : Nat → Sta) (u v : Nat → Rf) (k k' : Int) (x x' : Nat → Int) (nd : Nat) (y y' : Nat → Int) (j j' : Int) : runV (C7 A W spec4 sAl) pause4 300 400 4 tb4b (LJ4 nl w n d e u v k x nd y j) [] [⟨4, td4b, LJ4 nl w n d e u v k' x nd y' j', []⟩, ⟨4, td4c, LK4 nl w n d e u v k' x' nd y', []⟩] = node (A.lt j (A.ofN nd)) (need (A.inB j nd) (leaf (Fe2.at_ 0 [Eqn.sh (Sh.sl 1 nl (fnR w)) (Sh.sl 1 nl (fnR w)), Eqn.sh (Sh.sl 4 n (fnU u)) (Sh.sl 4 n (fnU u)), Eqn.sh (Sh.sl 4 n (fnU v)) (Sh.sl 4 n (fnU v)), Eqn.int k k', Eqn.int (A.add .i64 j (Int.ofNat 1)) j', Eqn.sh (Sh.sl 1 nl (fnR w)) (Sh.sl 1 nl (fnR w)), Eqn.sh (Sh.sl 4 n (fnT d)) (Sh.sl 4 n (fnT d)), Eqn.sh (Sh.sl 4 n (fnT e)) (Sh.sl 4 n (fnT e)), Eqn.nat nl nl, Eqn.get nl (fnR x) (fnR x), Eqn.nat nd nd, Eqn.get nd (A.upd (fnR y) (A.toN j) 0 [Sh.i .i64 (Int.negSucc 8)]) (fnR y')]))) (need (A.room (A.addN nl 1) 8) (need (A.room (A.addN nd 1) 8) (leaf (Fe2.at_ 1 [Eqn.sh (Sh.sl 1 nl (fnR w)) (Sh.sl 1 nl (fnR w)), Eqn.sh (Sh.sl 4 n (fnU u)) (Sh.sl 4 n (fnU u)), Eqn.sh (Sh.sl 4 n (fnU v)) (Sh.sl 4 n (fnU v)), Eqn.int k k', Eqn.sh (Sh.sl 1 nl (fnR w)) (Sh.sl 1 nl (fnR w)), Eqn.sh (Sh.sl 4 n (fnT d)) (Sh.sl 4 n (fnT d)), Eqn.sh (Sh.sl 4 n (fnT e)) (Sh.sl 4 n (fnT e)), Eqn.nat (A.addN nl 1) nl.succ, Eqn.get (A.addN nl 1) (A.snoc (fnR x) nl (nthL [[Sh.i .i64 (Int.ofNat 1)]])) (fnR x'), Eqn.nat (A.addN nd 1) nd.succ, Eqn.get (A.addN nd 1) (A.snoc (fnR y) nd (nthL [[Sh.i .i64 (Int.ofNat 1)]])) (fnR y')])))) := by kernel_rfl
theorem e4 (A : Prim) (W : Wd) (nl : Nat) (w : Nat → Int) (n : Nat) (d e : Nat → Sta) (u v : Nat → Rf) (k k' : Int) (x : Nat → Int) (nd : Nat) (y : Nat → Int) : runTo (C7 A W spec4 sAl) nH0 300 400 4 td4c (LK4 nl w n d e u v k x nd y) [] [⟨4, td4, LO4 nl w n d e u v k', []⟩] = need (A.inB (A.sub .i64 (A.ofN nl.succ) (Int.ofNat 1)) nl.succ) (node (A.nt (A.eq (x (A.toN (A.sub .i64 (A.ofN nl.succ) (Int.ofNat 1)))) (Int.ofNat 1))) (leaf (Fe2.ret (Sh.b false))) (need (A.inB (A.sub .i64 (A.ofN nd.succ) (Int.ofNat 1)) nd.succ) (node (A.nt (A.eq (y (A.toN (A.sub .i64 (A.ofN nd.succ) (Int.ofNat 1)))) (Int.ofNat 1))) (leaf (Fe2.ret (Sh.b false))) (leaf (Fe2.at_ 0 [Eqn.sh (Sh.sl 1 nl (fnR w)) (Sh.sl 1 nl (fnR w)), Eqn.sh (Sh.sl 4 n (fnU u)) (Sh.sl 4 n (fnU u)), Eqn.sh (Sh.sl 4 n (fnU v)) (Sh.sl 4 n (fnU v)), Eqn.int (A.add .i64 k (Int.ofNat 1)) k', Eqn.sh (Sh.sl 1 nl (fnR w)) (Sh.sl 1 nl (fnR w)), Eqn.sh (Sh.sl 4 n (fnT d)) (Sh.sl 4 n (fnT d)), Eqn.sh (Sh.sl 4 n (fnT e)) (Sh.sl 4 n (fnT e))]))))) := by kernel_rfl
end Go.Proofs
namespace Go.Proofs
open Go.Sx.Tree
open Go Go.Sx Go.Pl
theorem all_na4 (A : Prim) (W : Wd) (nl : Nat) (w : Nat → Int) (n : Nat) (o : Nat → Oj) (m : Nat) (c : Nat → Cl) {ψ : Fe2 → Prop} (h1 : (A.lt (Int.ofNat 1000) (A.ofN nl)) = false → (A.lt (Int.ofNat 100) (A.ofN n)) = false → (A.lt (Int.ofNat 200) (A.ofN m)) = false → (okB Int nl (fnR w)) = true) (h2 : (A.lt (Int.ofNat 1000) (A.ofN nl)) = false → (A.lt (Int.ofNat 100) (A.ofN n)) = false → (A.lt (Int.ofNat 200) (A.ofN m)) = false → (roomJ nl) = true) (h3 : (A.lt (Int.ofNat 1000) (A.ofN nl)) = false → (A.lt (Int.ofNat 100) (A.ofN n)) = false → (A.lt (Int.ofNat 200) (A.ofN m)) = false → (in24 n (fnR o) m (fnR c)) = true) (h4 : (A.lt (Int.ofNat 1000) (A.ofN nl)) = false → (A.lt (Int.ofNat 100) (A.ofN n)) = false → (A.lt (Int.ofNat 200) (A.ofN m)) = false → (noO n (rwAt (fnR o))) = true) (h5 : (A.lt (Int.ofNat 1000) (A.ofN nl)) = false → (A.lt (Int.ofNat 100) (A.ofN n)) = false → (A.lt (Int.ofNat 200) (A.ofN m)) = false → (in25 n (fnR o)) = true) (h6 : (A.lt (Int.ofNat 1000) (A.ofN nl)) = false → (A.lt (Int.ofNat 100) (A.ofN n)) = false → (A.lt (Int.ofNat 200) (A.ofN m)) = false → (bigO n) = true) (y1 : (A.lt (Int.ofNat 1000) (A.ofN nl)) = true → ψ (Fe2.ret (Sh.b true))) (y2 : (A.lt (Int.ofNat 1000) (A.ofN nl)) = false → (A.lt (Int.ofNat 100) (A.ofN n)) = true → ψ (Fe2.ret (Sh.b true))) (y3 : (A.lt (Int.ofNat 1000) (A.ofN nl)) = false → (A.lt (Int.ofNat 100) (A.ofN n)) = false → (A.lt (Int.ofNat 200) (A.ofN m)) = true → ψ (Fe2.ret (Sh.b true))) (y4 : (A.lt (Int.ofNat 1000) (A.ofN nl)) = false → (A.lt (Int.ofNat 100) (A.ofN n)) = false → (A.lt (Int.ofNat 200) (A.ofN m)) = false → ψ (Fe2.ret (Sh.b true))) : MeetsT ψ (runTo (C7 A W spec4a sAl) nH0 300 400 4 [.code []] (start0 129 [.sl 1 nl (fnR w), .sl 2 n (fnR o), .sl 4 m (fnR c)] L0) [] []) := by
 rw [na4 A W nl w n o m c, meetsT_eq]
 exact ⟨fun q0 => (y1 q0), fun q0 => ⟨fun q1 => (y2 q0 q1), fun q1 => ⟨fun q2 => (y3 q0 q1 q2), fun q2 => ⟨(h1 q0 q1 q2), ⟨(h2 q0 q1 q2), ⟨(h3 q0 q1 q2), ⟨(h4 q0 q1 q2), ⟨(h5 q0 q1 q2), ⟨(h6 q0 q1 q2), (y4 q0 q1 q2)⟩⟩⟩⟩⟩⟩⟩⟩⟩
theorem all_nb4 (A : Prim) (W : Wd) (nl : Nat) (w : Nat → Int) (n : Nat) (o : Nat → Oj) (m : Nat) (c : Nat → Cl) {ψ : Fe2 → Prop} (h1 : (A.lt (Int.ofNat 1000) (A.ofN nl)) = false → (A.lt (Int.ofNat 100) (A.ofN n)) = false → (A.lt (Int.ofNat 200) (A.ofN m)) = false → (okB Int nl (fnR w)) = true) (h2 : (A.lt (Int.ofNat 1000) (A.ofN nl)) = false → (A.lt (Int.ofNat 100) (A.ofN n)) = false → (A.lt (Int.ofNat 200) (A.ofN m)) = false → (roomJ nl) = true) (h3 : (A.lt (Int.ofNat 1000) (A.ofN nl)) = false → (A.lt (Int.ofNat 100) (A.ofN n)) = false → (A.lt (Int.ofNat 200) (A.ofN m)) = false → (in24 n (fnR o) m (fnR c)) = true) (h4 : (A.lt (Int.ofNat 1000) (A.ofN nl)) = false → (A.lt (Int.ofNat 100) (A.ofN n)) = false → (A.lt (Int.ofNat 200) (A.ofN m)) = false → (noO n (rwAt (fnR o))) = true) (h5 : (A.lt (Int.ofNat 1000) (A.ofN nl)) = false → (A.lt (Int.ofNat 100) (A.ofN n)) = false → (A.lt (Int.ofNat 200) (A.ofN m)) = false → (in25 n (fnR o)) = true) (h6 : (A.lt (Int.ofNat 1000) (A.ofN nl)) = false → (A.lt (Int.ofNat 100) (A.ofN n)) = false → (A.lt (Int.ofNat 200) (A.ofN m)) = false → (noneO n (rwAt (fnR o))) = true) (y1 : (A.lt (Int.ofNat 1000) (A.ofN nl)) = true → ψ (Fe2.ret (Sh.b true))) (y2 : (A.lt (Int.ofNat 1000) (A.ofN nl)) = false → (A.lt (Int.ofNat 100) (A.ofN n)) = true → ψ (Fe2.ret (Sh.b true))) (y3 : (A.lt (Int.ofNat 1000) (A.ofN nl)) = false → (A.lt (Int.ofNat 100) (A.ofN n)) = false → (A.lt (Int.ofNat 200) (A.ofN m)) = true → ψ (Fe2.ret (Sh.b true))) (y4 : (A.lt (Int.ofNat 1000) (A.ofN nl)) = false → (A.lt (Int.ofNat 100) (A.ofN n)) = false → (A.lt (Int.ofNat 200) (A.ofN m)) = false → ψ (Fe2.ret (Sh.b true))) : MeetsT ψ (runTo (C7 A W spec4b sAl) nH0 300 400 4 [.code []] (start0 129 [.sl 1 nl (fnR w), .sl 2 n (fnR o), .sl 4 m (fnR c)] L0) [] []) := by
 rw [nb4 A W nl w n o m c, meetsT_eq]
 exact ⟨fun q0 => (y1 q0), fun q0 => ⟨fun q1 => (y2 q0 q1), fun q1 => ⟨fun q2 => (y3 q0 q1 q2), fun q2 => ⟨(h1 q0 q1 q2), ⟨(h2 q0 q1 q2), ⟨(h3 q0 q1 q2), ⟨(h4 q0 q1 q2), ⟨(h5 q0 q1 q2), ⟨(h6 q0 q1 q2), (y4 q0 q1 q2)⟩⟩⟩⟩⟩⟩⟩⟩⟩
theorem all_a4 (A : Prim) (W : Wd) (nl : Nat) (w : Nat → Int) (n : Nat) (o : Nat → Oj) (m : Nat) (c : Nat → Cl) (d' e' : Nat → Sta) (u' v' : Nat → Rf) (k' : Int) {ψ : Fe2 → Prop} (h1 : (A.lt (Int.ofNat 1000) (A.ofN nl)) = false → (A.lt (Int.ofNat 100) (A.ofN n)) = false → (A.lt (Int.ofNat 200) (A.ofN m)) = false → (okB Int nl (fnR w)) = true) (h2 : (A.lt (Int.ofNat 1000) (A.ofN nl)) = false → (A.lt (Int.ofNat 100) (A.ofN n)) = false → (A.lt (Int.ofNat 200) (A.ofN m)) = false → (roomJ nl) = true) (h3 : (A.lt (Int.ofNat 1000) (A.ofN nl)) = false → (A.lt (Int.ofNat 100) (A.ofN n)) = false → (A.lt (Int.ofNat 200) (A.ofN m)) = false → (in24 n (fnR o) m (fnR c)) = true) (h4 : (A.lt (Int.ofNat 1000) (A.ofN nl)) = false → (A.lt (Int.ofNat 100) (A.ofN n)) = false → (A.lt (Int.ofNat 200) (A.ofN m)) = false → (goodO n (rwAt (fnR o))) = true) (h5 : (A.lt (Int.ofNat 1000) (A.ofN nl)) = false → (A.lt (Int.ofNat 100) (A.ofN n)) = false → (A.lt (Int.ofNat 200) (A.ofN m)) = false → (in25 n (fnR o)) = true) (y1 : (A.lt (Int.ofNat 1000) (A.ofN nl)) = true → ψ (Fe2.ret (Sh.b true))) (y2 : (A.lt (Int.ofNat 1000) (A.ofN nl)) = false → (A.lt (Int.ofNat 100) (A.ofN n)) = true → ψ (Fe2.ret (Sh.b true))) (y3 : (A.lt (Int.ofNat 1000) (A.ofN nl)) = false → (A.lt (Int.ofNat 100) (A.ofN n)) = false → (A.lt (Int.ofNat 200) (A.ofN m)) = true → ψ (Fe2.ret (Sh.b true))) (y4 : (A.lt (Int.ofNat 1000) (A.ofN nl)) = false → (A.lt (Int.ofNat 100) (A.ofN n)) = false → (A.lt (Int.ofNat 200) (A.ofN m)) = false → ψ (Fe2.at_ 0 [Eqn.sh (Sh.sl 1 nl (fnR w)) (Sh.sl 1 nl (fnR w)), Eqn.sh (Sh.sl 4 n (fnU (behU n (newT (rwAt (fnR o))) (rwAt (fnR c)) m))) (Sh.sl 4 n (fnU u')), Eqn.sh (Sh.sl 4 n (fnU (newU (rwAt (fnR o))))) (Sh.sl 4 n (fnU v')), Eqn.int (Int.ofNat 0) k', Eqn.sh (Sh.sl 1 nl (cpJ (fnR w))) (Sh.sl 1 nl (fnR w)), Eqn.sh (Sh.sl 4 n (fnT (behT n (newT (rwAt (fnR o))) (rwAt (fnR c)) m))) (Sh.sl 4 n (fnT d')), Eqn.sh (Sh.sl 4 n (fnT (newT (rwAt (fnR o))))) (Sh.sl 4 n (fnT e'))])) : MeetsT ψ (runTo (C7 A W spec4 sAl) nH0 300 400 4 [.code []] (start0 129 [.sl 1 nl (fnR w), .sl 2 n (fnR o), .sl 4 m (fnR c)] L0) [] [⟨4, td4, LO4 nl w n d' e' u' v' k', []⟩]) := by
 rw [a4 A W nl w n o m c d' e' u' v' k', meetsT_eq]
 exact ⟨fun q0 => (y1 q0), fun q0 => ⟨fun q1 => (y2 q0 q1), fun q1 => ⟨fun q2 => (y3 q0 q1 q2), fun q2 => ⟨(h1 q0 q1 q2), ⟨(h2 q0 q1 q2), ⟨(h3 q0 q1 q2), ⟨(h4 q0 q1 q2), ⟨(h5 q0 q1 q2), ⟨(h4 q0 q1 q2), ⟨(h5 q0 q1 q2), ⟨(h4 q0 q1 q2), (y4 q0 q1 q2)⟩⟩⟩⟩⟩⟩⟩⟩⟩⟩⟩
theorem all_b4 (A : Prim) (W : Wd) (nl : Nat) (w : Nat → Int) (n : Nat) (d e : Nat → Sta) (u v : Nat → Rf) (k k' : Int) (x' : Nat → Int) (nd' : Nat) (y' : Nat → Int) (j' : Int) {ψ : Fe2 → Prop} (h1 : (A.lt k (Int.ofNat 2)) = true → (roomJ nl) = true) (h2 : (A.lt k (Int.ofNat 2)) = true → (stB n (fnT d)) = true) (h3 : (A.lt k (Int.ofNat 2)) = true → (stB n (fnT e)) = true) (h4 : (A.lt k (Int.ofNat 2)) = true → (manyB n n) = true) (h5 : (A.lt k (Int.ofNat 2)) = false → (roomJ nl) = true) (h6 : (A.lt k (Int.ofNat 2)) = false → (okB Int nl (fnR w)) = true) (h7 : (A.lt k (Int.ofNat 2)) = false → (eqI nl (fnR w) nl (fnR w)) = true → (stB n (fnT d)) = true) (h8 : (A.lt k (Int.ofNat 2)) = false → (eqI nl (fnR w) nl (fnR w)) = true → (stB n (fnT e)) = true) (h9 : (A.lt k (Int.ofNat 2)) = false → (eqI nl (fnR w) nl (fnR w)) = true → (manyB n n) = true) (h10 : (A.lt k (Int.ofNat 2)) = false → (eqI nl (fnR w) nl (fnR w)) = true → (rfB n (fnU u)) = true) (h11 : (A.lt k (Int.ofNat 2)) = false → (eqI nl (fnR w) nl (fnR w)) = true → (rfB n (fnU v)) = true) (h12 : (A.lt k (Int.ofNat 2)) = false → (eqI nl (fnR w) nl (fnR w)) = true → (manyU n n) = true) (h13 : (A.lt k (Int.ofNat 2)) = false → (eqI nl (fnR w) nl (fnR w)) = true → (okB Int (difN n (fnT d) n (fnT e)) (difR n (fnT d) n (fnT e))) = true) (h14 : (A.lt k (Int.ofNat 2)) = false → (eqI nl (fnR w) nl (fnR w)) = true → (okB Int (difU n (rfF n (fnU u)) n (rfF n (fnU v))) (dirU n (rfF n (fnU u)) n (rfF n (fnU v)))) = true) (y1 : (A.lt k (Int.ofNat 2)) = true → ψ (Fe2.at_ 0 [Eqn.sh (Sh.sl 1 nl (fnR w)) (Sh.sl 1 nl (fnR w)), Eqn.sh (Sh.sl 4 n (fnU u)) (Sh.sl 4 n (fnU u)), Eqn.sh (Sh.sl 4 n (fnU v)) (Sh.sl 4 n (fnU v)), Eqn.int k k', Eqn.int (Int.ofNat 0) j', Eqn.sh (Sh.sl 1 nl (fnR w)) (Sh.sl 1 nl (fnR w)), Eqn.sh (Sh.sl 4 n (fnT d)) (Sh.sl 4 n (fnT d)), Eqn.sh (Sh.sl 4 n (fnT e)) (Sh.sl 4 n (fnT e)), Eqn.nat nl nl, Eqn.get nl (fnR w) (fnR x'), Eqn.nat (difN n (fnT d) n (fnT e)) nd', Eqn.get (difN n (fnT d) n (fnT e)) (difR n (fnT d) n (fnT e)) (fnR y')])) (y2 : (A.lt k (Int.ofNat 2)) = false → (eqI nl (fnR w) nl (fnR w)) = true → ψ (Fe2.ret (Sh.b (eqI (difN n (fnT d) n (fnT e)) (difR n (fnT d) n (fnT e)) (difU n (rfF n (fnU u)) n (rfF n (fnU v))) (dirU n (rfF n (fnU u)) n (rfF n (fnU v))))))) (y3 : (A.lt k (Int.ofNat 2)) = false → (eqI nl (fnR w) nl (fnR w)) = false → ψ (Fe2.ret (Sh.b false))) : MeetsT ψ (runTo (C7 A W spec4 sAl) nH0 300 400 4 tb4 (LO4 nl w n d e u v k) [] [⟨4, td4a, LI4 nl w n d e u v k' x' nd' y' j', []⟩]) := by
 rw [b4 A W nl w n d e u v k k' x' nd' y' j', meetsT_eq]
 exact ⟨fun q0 => ⟨(h1 q0), ⟨(h2 q0), ⟨(h3 q0), ⟨(h4 q0), (y1 q0)⟩⟩⟩⟩, fun q0 => ⟨(h5 q0), ⟨(h6 q0), ⟨(h6 q0), ⟨fun q1 => ⟨(h7 q0 q1), ⟨(h8 q0 q1), ⟨(h9 q0 q1), ⟨(h10 q0 q1), ⟨(h11 q0 q1), ⟨(h12 q0 q1), ⟨(h13 q0 q1), ⟨(h14 q0 q1), (y2 q0 q1)⟩⟩⟩⟩⟩⟩⟩⟩, fun q1 => (y3 q0 q1)⟩⟩⟩⟩⟩
theorem all_c4 (A : Prim) (W : Wd) (nl : Nat) (w : Nat → Int) (n : Nat) (d e : Nat → Sta) (u v : Nat → Rf) (k k' : Int) (x x' : Nat → Int) (nd : Nat) (y : Nat → Int) (j j' : Int) {ψ : Fe2 → Prop} (h1 : (A.lt j (A.ofN nl)) = true → (A.inB j nl) = true) (y1 : (A.lt j (A.ofN nl)) = true → ψ (Fe2.at_ 0 [Eqn.sh (Sh.sl 1 nl (fnR w)) (Sh.sl 1 nl (fnR w)), Eqn.sh (Sh.sl 4 n (fnU u)) (Sh.sl 4 n (fnU u)), Eqn.sh (Sh.sl 4 n (fnU v)) (Sh.sl 4 n (fnU v)), Eqn.int k k', Eqn.int (A.add .i64 j (Int.ofNat 1)) j', Eqn.sh (Sh.sl 1 nl (fnR w)) (Sh.sl 1 nl (fnR w)), Eqn.sh (Sh.sl 4 n (fnT d)) (Sh.sl 4 n (fnT d)), Eqn.sh (Sh.sl 4 n (fnT e)) (Sh.sl 4 n (fnT e)), Eqn.nat nl nl, Eqn.get nl (A.upd (fnR x) (A.toN j) 0 [Sh.i .i64 (Int.negSucc 8)]) (fnR x'), Eqn.nat nd nd, Eqn.get nd (fnR y) (fnR y)])) (y2 : (A.lt j (A.ofN nl)) = false → ψ (Fe2.at_ 1 [Eqn.sh (Sh.sl 1 nl (fnR w)) (Sh.sl 1 nl (fnR w)), Eqn.sh (Sh.sl 4 n (fnU u)) (Sh.sl 4 n (fnU u)), Eqn.sh (Sh.sl 4 n (fnU v)) (Sh.sl 4 n (fnU v)), Eqn.int k k', Eqn.int (Int.ofNat 0) (Int.ofNat 0), Eqn.sh (Sh.sl 1 nl (fnR w)) (Sh.sl 1 nl (fnR w)), Eqn.sh (Sh.sl 4 n (fnT d)) (Sh.sl 4 n (fnT d)), Eqn.sh (Sh.sl 4 n (fnT e)) (Sh.sl 4 n (fnT e)), Eqn.nat nl nl, Eqn.get nl (fnR x) (fnR x), Eqn.nat nd nd, Eqn.get nd (fnR y) (fnR y)])) : MeetsT ψ (runTo (C7 A W spec4 sAl) nH0 300 400 4 tb4a (LI4 nl w n d e u v k x nd y j) [] [⟨4, td4a, LI4 nl w n d e u v k' x' nd y j', []⟩, ⟨4, td4b, LJ4 nl w n d e u v k' x nd y 0, []⟩]) := by
 rw [c4 A W nl w n d e u v k k' x x' nd y j j', meetsT_eq]
 exact ⟨fun q0 => ⟨(h1 q0), (y1 q0)⟩, fun q0 => (y2 q0)⟩
theorem all_d4 (A : Prim) (W : Wd) (nl : Nat) (w : Nat → Int) (n : Nat) (d e : Nat → Sta) (u v : Nat → Rf) (k k' : Int) (x x' : Nat → Int) (nd : Nat) (y y' : Nat → Int) (j j' : Int) {ψ : Fe2 → Prop} (h1 : (A.lt j (A.ofN nd)) = true → (A.inB j nd) = true) (h2 : (A.lt j (A.ofN nd)) = false → (A.room (A.addN nl 1) 8) = true) (h3 : (A.lt j (A.ofN nd)) = false → (A.room (A.addN nd 1) 8) = true) (y1 : (A.lt j (A.ofN nd)) = true → ψ (Fe2.at_ 0 [Eqn.sh (Sh.sl 1 nl (fnR w)) (Sh.sl 1 nl (fnR w)), Eqn.sh (Sh.sl 4 n (fnU u)) (Sh.sl 4 n (fnU u)), Eqn.sh (Sh.sl 4 n (fnU v)) (Sh.sl 4 n (fnU v)), Eqn.int k k', Eqn.int (A.add .i64 j (Int.ofNat 1)) j', Eqn.sh (Sh.sl 1 nl (fnR w)) (Sh.sl 1 nl (fnR w)), Eqn.sh (Sh.sl 4 n (fnT d)) (Sh.sl 4 n (fnT d)), Eqn.sh (Sh.sl 4 n (fnT e)) (Sh.sl 4 n (fnT e)), Eqn.nat nl nl, Eqn.get nl (fnR x) (fnR x), Eqn.nat nd nd, Eqn.get nd (A.upd (fnR y) (A.toN j) 0 [Sh.i .i64 (Int.negSucc 8)]) (fnR y')])) (y2 : (A.lt j (A.ofN nd)) = false → ψ (Fe2.at_ 1 [Eqn.sh (Sh.sl 1 nl (fnR w)) (Sh.sl 1 nl (fnR w)), Eqn.sh (Sh.sl 4 n (fnU u)) (Sh.sl 4 n (fnU u)), Eqn.sh (Sh.sl 4 n (fnU v)) (Sh.sl 4 n (fnU v)), Eqn.int k k', Eqn.sh (Sh.sl 1 nl (fnR w)) (Sh.sl 1 nl (fnR w)), Eqn.sh (Sh.sl 4 n (fnT d)) (Sh.sl 4 n (fnT d)), Eqn.sh (Sh.sl 4 n (fnT e)) (Sh.sl 4 n (fnT e)), Eqn.nat (A.addN nl 1) nl.succ, Eqn.get (A.addN nl 1) (A.snoc (fnR x) nl (nthL [[Sh.i .i64 (Int.ofNat 1)]])) (fnR x'), Eqn.nat (A.addN nd 1) nd.succ, Eqn.get (A.addN nd 1) (A.snoc (fnR y) nd (nthL [[Sh.i .i64 (Int.ofNat 1)]])) (fnR y')])) : MeetsT ψ (runV (C7 A W spec4 sAl) pause4 300 400 4 tb4b (LJ4 nl w n d e u v k x nd y j) [] [⟨4, td4b, LJ4 nl w n d e u v k' x nd y' j', []⟩, ⟨4, td4c, LK4 nl w n d e u v k' x' nd y', []⟩]) := by
 rw [d4 A W nl w n d e u v k k' x x' nd y y' j j', meetsT_eq]
 exact ⟨fun q0 => ⟨(h1 q0), (y1 q0)⟩, fun q0 => ⟨(h2 q0), ⟨(h3 q0), (y2 q0)⟩⟩⟩
theorem all_e4 (A : Prim) (W : Wd) (nl : Nat) (w : Nat → Int) (n : Nat) (d e : Nat → Sta) (u v : Nat → Rf) (k k' : Int) (x : Nat → Int) (nd : Nat) (y : Nat → Int) {ψ : Fe2 → Prop} (h1 : (A.inB (A.sub .i64 (A.ofN nl.succ) (Int.ofNat 1)) nl.succ) = true) (h2 : (A.nt (A.eq (x (A.toN (A.sub .i64 (A.ofN nl.succ) (Int.ofNat 1)))) (Int.ofNat 1))) = false → (A.inB (A.sub .i64 (A.ofN nd.succ) (Int.ofNat 1)) nd.succ) = true) (y1 : (A.nt (A.eq (x (A.toN (A.sub .i64 (A.ofN nl.succ) (Int.ofNat 1)))) (Int.ofNat 1))) = true → ψ (Fe2.ret (Sh.b false))) (y2 : (A.nt (A.eq (x (A.toN (A.sub .i64 (A.ofN nl.succ) (Int.ofNat 1)))) (Int.ofNat 1))) = false → (A.nt (A.eq (y (A.toN (A.sub .i64 (A.ofN nd.succ) (Int.ofNat 1)))) (Int.ofNat 1))) = true → ψ (Fe2.ret (Sh.b false))) (y3 : (A.nt (A.eq (x (A.toN (A.sub .i64 (A.ofN nl.succ) (Int.ofNat 1)))) (Int.ofNat 1))) = false → (A.nt (A.eq (y (A.toN (A.sub .i64 (A.ofN nd.succ) (Int.ofNat 1)))) (Int.ofNat 1))) = false → ψ (Fe2.at_ 0 [Eqn.sh (Sh.sl 1 nl (fnR w)) (Sh.sl 1 nl (fnR w)), Eqn.sh (Sh.sl 4 n (fnU u)) (Sh.sl 4 n (fnU u)), Eqn.sh (Sh.sl 4 n (fnU v)) (Sh.sl 4 n (fnU v)), Eqn.int (A.add .i64 k (Int.ofNat 1)) k', Eqn.sh (Sh.sl 1 nl (fnR w)) (Sh.sl 1 nl (fnR w)), Eqn.sh (Sh.sl 4 n (fnT d)) (Sh.sl 4 n (fnT d)), Eqn.sh (Sh.sl 4 n (fnT e)) (Sh.sl 4 n (fnT e))])) : MeetsT ψ (runTo (C7 A W spec4 sAl) nH0 300 400 4 td4c (LK4 nl w n d e u v k x nd y) [] [⟨4, td4, LO4 nl w n d e u v k', []⟩]) := by
 rw [e4 A W nl w n d e u v k k' x nd y, meetsT_eq]
 exact ⟨(h1), ⟨fun q0 => (y1 q0), fun q0 => ⟨(h2 q0), ⟨fun q1 => (y2 q0 q1), fun q1 => (y3 q0 q1)⟩⟩⟩⟩
end Go.Proofs
namespace Go.Pl
open Go Go.Sx Go.Proofs
section
variable {n m : Nat} {d e : Nat → Sta} {i op k v i' op' k' v' : Int}
end
theorem no2 {b : Bool} {P : Prop} (h : b = false) (h2 : b = true) : P := by rw [h] at h2; cases h2
end Go.Pl
namespace Go.Proofs
open Go Go.Sx Go.Pl
theorem lt_f {a b : Nat} (h : prim.lt (Int.ofNat a) (prim.ofN b) = false) : b ≤ a := by
 simp [prim_lt, prim_ofN] at h; omega
theorem in24_mk {n m : Nat} {o : Nat → Oj} {c : Nat → Cl} (h1 : kindsB n o = true) (h2 : m ≤ 200) : in24 n (fnR o) m (fnR c) = true := by
 unfold in24 fewB
 rw [rwAt_fnR]
 simp only [Bool.and_eq_true, decide_eq_true_eq]
 exact ⟨⟨⟨okB_put _ _, h1⟩, okB_put _ _⟩, by omega⟩
theorem many_mk {n m : Nat} (h : n ≤ 100000) (h2 : m ≤ 100000) : manyB n m = true := decide_eq_true ⟨h, h2⟩
end Go.Proofs
namespace Go.Pl
open Go Go.Sx Go.Proofs
theorem toR_inj {m k : Nat} {s t : Sta} (hs : InvS m s) (ht : InvS k t) (h : toR s = toR t) : s = t := by
 obtain ⟨kind, num, q, ps⟩ := s
 obtain ⟨kind', num', q', ps'⟩ := t
 injection h with e1 e2 e3 e4
 simp only at e1 e2 e3 e4
 subst e1 e2
 by_cases hk : kind = 4
 ·have h1 : q = [] := hs.q0 (by show kind ≠ 3; omega)
  have h2 : q' = [] := ht.q0 (by show kind ≠ 3; omega)
  subst h1 h2
  replace e4 : ps.map (·.val) = ps'.map (·.val) := e4
  have : ps = ps' := by
   clear hs ht
   induction ps generalizing ps' with
   | nil => cases ps' with
    | nil => rfl
    | cons b l => cases e3
   | cons a l ih => cases ps' with
    | nil => cases e3
    | cons b l' =>
     simp only [List.map_cons, List.cons.injEq] at e3 e4
     obtain ⟨a1, a2⟩ := a
     obtain ⟨b1, b2⟩ := b
     have x1 : a1 = b1 := e3.1
     have x2 : a2 = b2 := e4.1
     rw [ih l' e3.2 e4.2, x1, x2]
  rw [this]
 ·have h1 : ps = [] := hs.p0 hk
  have h2 : ps' = [] := ht.p0 hk
  subst h1 h2
  simp at e4
  rw [e4]
theorem diff_same {m k n : Nat} {d e : Nat → Sta} (hd : ∀ j, j < n → InvS m (d j)) (he : ∀ j, j < n → InvS k (e j)) :
  diffU n (fun j => toR (d j)) n (fun j => toR (e j)) (max n n) = diffL n (stF n (fnT d)) n (stF n (fnT e)) := by
 unfold diffU diffL diffN
 congr 1
 refine List.filter_congr fun j hj => ?_
 have hj : j < n := by
  have := List.mem_range.1 hj
  omega
 unfold unU unT
 rw [atT_in hj, atT_in hj, stF_fnT j hj, stF_fnT j hj]
 have hi : inI n (j : Int) = true := by simp [inI, hj]
 have e1 : decide (d j = e j) = eqU (toR (d j)) (toR (e j)) := by
  rw [Bool.eq_iff_iff, eqU_iff, decide_eq_true_eq]
  exact ⟨fun q => by rw [q], toR_inj (hd j hj) (he j hj)⟩
 rw [e1]
 simp [hj]
theorem upd_fn (x : Nat → Int) (j : Nat) (v : Int) : prim.upd (fnR x) j 0 [Sh.i .i64 v] = fnR (fun i => if i = j then v else x i) := by
 funext i
 rw [prim_upd]
 show _ = [Sh.i .i64 (if i = j then v else x i)]
 split
 ·rfl
 ·rfl
theorem snoc_fn (x : Nat → Int) (n : Nat) (v : Int) : ∀ i, i < n + 1 → prim.snoc (fnR x) n (nthL [[Sh.i .i64 v]]) i = fnR (fun i => if i < n then x i else v) i := fun i hi => by
 rw [prim_snoc]
 show _ = [Sh.i .i64 (if i < n then x i else v)]
 split
 ·rfl
 ·have : i - n = 0 := by omega
  rw [this]; rfl
end Go.Pl
namespace Go.Proofs
open Go Go.Sx Go.Pl
theorem goesS_runVT {P : Program} {C : Ctx} {H0 : Mem} {w0 : World} (hC : CtxOK P C) (hF : FnsOK P C) {pause : Nat → List It → Bool} {m n g : Nat} {td : List It} {c : Core} {stk : List Fr} {ts : List Tgt} {R : Hp → Prop} {φ : Sh → Prop}
  (h : MeetsT (Fe2OK P C (K0 H0 w0) ts R φ) (runV C pause m n g td c stk ts)) : GoesS P C (K0 H0 w0) g td c stk R φ := goesS_runV hC hF (by rw [meetsT_eq] at h; exact h)
theorem OH14 : FnOK Tryz.prog (gls7 W7) 14 H14 := fnOK_wk O14 fun shs φ h => by
 unfold H14 at h
 split at h
 ·rename_i n g
  obtain ⟨h1, h2, hφ⟩ := h
  exact ⟨_, hφ, h2, ⟨.inr ⟨rfl, rfl, fun i hi => okB_at h1 i hi⟩, trivial⟩⟩
 ·exact h.elim
theorem OH19 : FnOK Tryz.prog (gls7 W7) 19 H19 := by
 intro H w shs args φ hon hg hr hφ
 refine O19 H w shs args φ hon hg hr ?_
 unfold H19 at hφ
 unfold F19
 split at hφ
 ·exact hφ
 ·exact hφ.elim
theorem in25_of {n : Nat} {g : Nat → List Sh} (q : in25 n g = true) : okB Oj n g = true ∧ kindsB n (rwAt g) = true := by
 unfold in25 at q
 rw [Bool.and_eq_true] at q
 exact q
theorem good_of {n : Nat} {o : Nat → Oj} (q : goodO n o = true) : bigO n = false ∧ allOb n o = true := by
 unfold goodO at q
 rw [Bool.and_eq_true] at q
 exact ⟨by simpa using q.1, q.2⟩
theorem O25g : FnOK Tryz.prog (gls7 W7) 25 F25g := fnOK_wk O25 fun shs φ h => by
 unfold F25g at h
 split at h
 ·split at h
  ·rename_i e1
   obtain ⟨h1, h2, hφ⟩ := h
   obtain ⟨q1, q2⟩ := in25_of h1
   obtain ⟨g1, g2⟩ := good_of h2
   refine ⟨_, hφ, ?_⟩
   unfold F25
   simp only [e1]
   exact ⟨q1, q2, fun q => (by rw [g1] at q; cases q), fun _ => ⟨fun _ => ⟨⟨wk_sl, trivial⟩, rfl, trivial⟩, fun q => (by rw [g2] at q; cases q)⟩⟩
  ·exact h.elim
 ·exact h.elim
theorem O25a : FnOK Tryz.prog (gls7 W7) 25 F25a := fnOK_wk O25 fun shs φ h => by
 unfold F25a at h
 split at h
 ·split at h
  ·rename_i e1
   obtain ⟨h1, h2, hφ⟩ := h
   obtain ⟨q1, q2⟩ := in25_of h1
   refine ⟨_, hφ, ?_⟩
   unfold F25
   simp only [e1]
   exact ⟨q1, q2, fun _ => ⟨⟨wk_sl, trivial⟩, rfl, trivial⟩, fun q => (by rw [h2] at q; cases q)⟩
  ·exact h.elim
 ·exact h.elim
theorem O25b : FnOK Tryz.prog (gls7 W7) 25 F25b := fnOK_wk O25 fun shs φ h => by
 unfold F25b at h
 split at h
 ·split at h
  ·rename_i e1
   obtain ⟨h1, h2, hφ⟩ := h
   obtain ⟨q1, q2⟩ := in25_of h1
   have h2 : (!_ && !_) = true := h2
   rw [Bool.and_eq_true] at h2
   refine ⟨_, hφ, ?_⟩
   unfold F25
   simp only [e1]
   exact ⟨q1, q2, fun q => (by rw [q] at h2; cases h2.1), fun _ => ⟨fun q => (by rw [q] at h2; cases h2.2), fun _ => ⟨⟨wk_sl, trivial⟩, rfl, trivial⟩⟩⟩
  ·exact h.elim
 ·exact h.elim
theorem O26g : FnOK Tryz.prog (gls7 W7) 26 F26g := by
 intro H w shs args φ hon hg hr h
 refine O26x H w shs args φ hon hg hr ?_
 unfold F26g at h
 split at h
 ·split at h
  ·rename_i e1
   obtain ⟨h1, h2, hφ⟩ := h
   obtain ⟨q1, q2⟩ := in25_of h1
   obtain ⟨g1, g2⟩ := good_of h2
   unfold F26x
   simp only [e1]
   exact ⟨q1, fun q => (by rw [g1] at q; cases q), fun _ => ⟨fun _ => hφ, fun q => (by rw [g2] at q; cases q)⟩⟩
  ·exact h.elim
 ·exact h.elim
theorem fok4 (stop : Nat → List Nat → Bool) : FnsOK Tryz.prog (C7 prim W7 spec4 stop) := C7.fok (fun g F h => by
 unfold spec4 at h
 split at h
 ·cases h; exact O12
 ·cases h; exact OH14
 ·cases h; exact OG18
 ·cases h; exact OH19
 ·cases h; exact O24g
 ·cases h; exact O25g
 ·cases h; exact O26g
 ·cases h; exact O27x
 ·cases h; exact O28
 ·cases h) fun g h => by
 unfold spec4 at h
 split at h
 all_goals first | (cases h; done) | kernel_rfl
theorem fok4a (stop : Nat → List Nat → Bool) : FnsOK Tryz.prog (C7 prim W7 spec4a stop) := C7.fok (fun g F h => by
 unfold spec4a at h
 split at h
 ·cases h; exact O12
 ·cases h; exact OH14
 ·cases h; exact O24n
 ·cases h; exact O25a
 ·cases h) fun g h => by
 unfold spec4a at h
 split at h
 all_goals first | (cases h; done) | kernel_rfl
theorem fok4b (stop : Nat → List Nat → Bool) : FnsOK Tryz.prog (C7 prim W7 spec4b stop) := C7.fok (fun g F h => by
 unfold spec4b at h
 split at h
 ·cases h; exact O12
 ·cases h; exact OH14
 ·cases h; exact O24n
 ·cases h; exact O25b
 ·cases h) fun g h => by
 unfold spec4b at h
 split at h
 all_goals first | (cases h; done) | kernel_rfl
section
variable {H0 : Mem} {w0 : World} {φ : Sh → Prop} {nl n nd : Nat} {w : Nat → Int} {d e : Nat → Sta} {u v : Nat → Rf} {k : Int}
theorem add1 {j : Nat} (h : j ≤ 100000) : prim.add .i64 (j : Int) (Int.ofNat 1) = ((j + 1 : Nat) : Int) := by
 show IntKind.i64.wrap ((j : Int) + 1) = _
 rw [wrap_id (by omega) (by omega)]; rfl
theorem loop4a (hl : nl ≤ 1000) {y : Nat → Int} (next : ∀ x, GoesS Tryz.prog (C7 prim W7 spec4 sAl) (K0 H0 w0) 4 td4b (LJ4 nl w n d e u v k x nd y 0) [] emp φ) :
  ∀ r j x, j + r = nl → GoesS Tryz.prog (C7 prim W7 spec4 sAl) (K0 H0 w0) 4 td4a (LI4 nl w n d e u v k x nd y (j : Nat)) [] emp φ
 | r, j, x, hj => by
  refine gSi (fn := Tryz.f4) (tb := tb4a) (by kernel_rfl) (by kernel_rfl) ?_
  refine gSt (C7.ok _ _) (fok4 _) (hold := nH0) (m := 300) (n := 400) (ts := [⟨4, td4a, LI4 nl w n d e u v k (fun i => if i = j then Int.negSucc 8 else x i) nd y (j + 1 : Nat), []⟩, ⟨4, td4b, LJ4 nl w n d e u v k x nd y 0, []⟩]) ?_
  refine all_c4 prim W7 nl w n d e u v k k x _ nd y j _ ?_ ?_ ?_
  ·intro q; simp [prim_lt, prim_ofN] at q; simp [prim_inB]; omega
  ·intro q
   simp [prim_lt, prim_ofN] at q
   refine ⟨⟨rfl, rfl, rfl, rfl, add1 (by omega), rfl, rfl, rfl, rfl, ?_, rfl, fun _ _ => rfl, trivial⟩, _, rfl, ?_⟩
   ·intro i hi
    exact congrFun (upd_fn x j _) i
   ·match r, hj with
    | 0, hj => omega
    | r + 1, hj => exact loop4a hl next r (j + 1) _ (by omega)
  ·intro q
   exact ⟨⟨rfl, rfl, rfl, rfl, rfl, rfl, rfl, rfl, rfl, fun _ _ => rfl, rfl, fun _ _ => rfl, trivial⟩, _, rfl, next x⟩
theorem loop4b (hl : nl ≤ 1000) (hnd : nd ≤ 100) {x : Nat → Int} (next : ∀ x' y', x' nl = 1 → y' nd = 1 → GoesS Tryz.prog (C7 prim W7 spec4 sAl) (K0 H0 w0) 4 td4c (LK4 nl w n d e u v k x' nd y') [] emp φ) :
  ∀ r j y, j + r = nd → GoesS Tryz.prog (C7 prim W7 spec4 sAl) (K0 H0 w0) 4 td4b (LJ4 nl w n d e u v k x nd y (j : Nat)) [] emp φ
 | r, j, y, hj => by
  refine gSi (fn := Tryz.f4) (tb := tb4b) (by kernel_rfl) (by kernel_rfl) ?_
  by_cases hlt : j < nd
  ·refine goesS_runVT (C7.ok _ _) (fok4 _) (pause := pause4) (m := 300) (n := 400) (ts := [⟨4, td4b, LJ4 nl w n d e u v k x nd (fun i => if i = j then Int.negSucc 8 else y i) (j + 1 : Nat), []⟩, ⟨4, td4c, LK4 nl w n d e u v k (fun i => if i < nl then x i else 1) nd (fun i => if i = j then Int.negSucc 8 else y i), []⟩]) ?_
   refine all_d4 prim W7 nl w n d e u v k k x _ nd y _ j _ ?_ ?_ ?_ ?_ ?_
   ·intro q; simp [prim_inB]; omega
   ·intro q; simp [prim_lt, prim_ofN] at q; omega
   ·intro q; simp [prim_lt, prim_ofN] at q; omega
   ·intro q
    refine ⟨⟨rfl, rfl, rfl, rfl, add1 (by omega), rfl, rfl, rfl, rfl, fun _ _ => rfl, rfl, ?_, trivial⟩, _, rfl, ?_⟩
    ·intro i hi
     exact congrFun (upd_fn y j _) i
    ·match r, hj with
     | 0, hj => omega
     | r + 1, hj => exact loop4b hl hnd next r (j + 1) _ (by omega)
   ·intro q; simp [prim_lt, prim_ofN] at q; omega
  ·refine goesS_runVT (C7.ok _ _) (fok4 _) (pause := pause4) (m := 300) (n := 400) (ts := [⟨4, td4b, LJ4 nl w n d e u v k x nd (fun i => if i < nd then y i else 1) (j + 1 : Nat), []⟩, ⟨4, td4c, LK4 nl w n d e u v k (fun i => if i < nl then x i else 1) nd (fun i => if i < nd then y i else 1), []⟩]) ?_
   refine all_d4 prim W7 nl w n d e u v k k x _ nd y _ j _ ?_ ?_ ?_ ?_ ?_
   ·intro q; simp [prim_lt, prim_ofN] at q; omega
   ·intro q; exact room_le (show nl + 1 ≤ _ by omega) (by decide)
   ·intro q; exact room_le (show nd + 1 ≤ _ by omega) (by decide)
   ·intro q; simp [prim_lt, prim_ofN] at q; omega
   ·intro q
    exact ⟨⟨rfl, rfl, rfl, rfl, rfl, rfl, rfl, rfl, fun i hi => snoc_fn x nl 1 i hi, rfl, fun i hi => snoc_fn y nd 1 i hi, trivial⟩, _, rfl, next _ _ (by simp) (by simp)⟩
end
noncomputable def F4 : List Sh → Tree Sh
 | [.sl 1 nl gl, s0, s1] => match slN 2 s0, slN 4 s1 with
  | some (n, g), some (m, h) => .need (okB Int nl gl) (.need (okB Oj n g) (.need (kindsB n (rwAt g)) (.need (okB Cl m h) (.leaf (.b true)))))
  | _, _ => .fail
 | _ => .fail
section
variable {H0 : Mem} {w0 : World} {φ : Sh → Prop} {nl n : Nat} {w : Nat → Int} {d e : Nat → Sta}
theorem loop4 {m : Nat} (hl : nl ≤ 1000) (hn : n ≤ 8) (hd : ∀ j, j < n → InvS m (d j)) (he : ∀ j, j < n → InvS 0 (e j)) (hφ : φ (.b true)) :
  ∀ r k, k + r = 2 → GoesS Tryz.prog (C7 prim W7 spec4 sAl) (K0 H0 w0) 4 td4 (LO4 nl w n d e (fun j => toR (d j)) (fun j => toR (e j)) (k : Nat)) [] emp φ
 | r, k, hk => by
  refine gSi (fn := Tryz.f4) (tb := tb4) (by kernel_rfl) (by kernel_rfl) ?_
  have hdl : difN n (fnT d) n (fnT e) ≤ n := by
   have := diffN_len n (stF n (fnT d)) n (stF n (fnT e)) (max n n)
   unfold difN diffL
   omega
  have rr : roomJ nl = true := room_le (show nl ≤ _ by omega) (by decide)
  have hm : manyB n n = true := many_mk (by omega) (by omega)
  have last : GoesS Tryz.prog (C7 prim W7 spec4 sAl) (K0 H0 w0) 4 td4 (LO4 nl w n d e (fun j => toR (d j)) (fun j => toR (e j)) (k + 1 : Nat)) [] emp φ → ∀ x' y', x' nl = 1 → y' (difN n (fnT d) n (fnT e)) = 1 → GoesS Tryz.prog (C7 prim W7 spec4 sAl) (K0 H0 w0) 4 td4c (LK4 nl w n d e (fun j => toR (d j)) (fun j => toR (e j)) (k : Nat) x' (difN n (fnT d) n (fnT e)) y') [] emp φ := fun nx x' y' q1 q2 => by
   refine gSt (C7.ok _ _) (fok4 _) (hold := nH0) (m := 300) (n := 400) (ts := [⟨4, td4, LO4 nl w n d e (fun j => toR (d j)) (fun j => toR (e j)) (k + 1 : Nat), []⟩]) ?_
   generalize difN n (fnT d) n (fnT e) = nd at *
   have sub (z : Nat) (hz : z ≤ 1000) : prim.sub .i64 (prim.ofN z.succ) (Int.ofNat 1) = (z : Int) := by
    show IntKind.i64.wrap (((z + 1 : Nat) : Int) - 1) = _
    rw [wrap_id (by omega) (by omega)]; omega
   have v1 : prim.nt (prim.eq (x' (prim.toN (prim.sub .i64 (prim.ofN nl.succ) (Int.ofNat 1)))) (Int.ofNat 1)) = false := by
    rw [sub nl hl, prim_toN, Int.toNat_natCast, q1]; rfl
   have v2 : prim.nt (prim.eq (y' (prim.toN (prim.sub .i64 (prim.ofN nd.succ) (Int.ofNat 1)))) (Int.ofNat 1)) = false := by
    rw [sub nd (by omega), prim_toN, Int.toNat_natCast, q2]; rfl
   refine all_e4 prim W7 nl w n d e _ _ k (k + 1 : Nat) x' nd y' ?_ ?_ (fun q => no2 v1 q) (fun _ q => no2 v2 q) (fun _ _ => ⟨⟨rfl, rfl, rfl, add1 (by omega), rfl, rfl, rfl, trivial⟩, _, rfl, nx⟩)
   ·rw [sub nl hl]; simp [prim_inB]; omega
   ·intro _; rw [sub nd (by omega)]; simp [prim_inB]; omega
  refine gSt (C7.ok _ _) (fok4 _) (hold := nH0) (m := 300) (n := 400) (ts := [⟨4, td4a, LI4 nl w n d e (fun j => toR (d j)) (fun j => toR (e j)) (k : Nat) w (difN n (fnT d) n (fnT e)) (nth (diffL n (stF n (fnT d)) n (stF n (fnT e)))) (0 : Nat), []⟩]) ?_
  have eqs := diff_same hd he
  refine all_b4 prim W7 nl w n d e _ _ k k w _ _ (0 : Nat) (fun _ => rr) (fun _ => stB_fnT _ _) (fun _ => stB_fnT _ _) (fun _ => hm) (fun _ => rr) (fun _ => okB_put _ _) (fun _ _ => stB_fnT _ _) (fun _ _ => stB_fnT _ _) (fun _ _ => hm) (fun _ _ => rfB_fnU _ _) (fun _ _ => rfB_fnU _ _) (fun _ _ => hm) (fun _ _ => okB_put _ _) (fun _ _ => okB_put _ _) ?_ ?_ ?_
  ·intro q
   simp [prim_lt] at q
   refine ⟨⟨rfl, rfl, rfl, rfl, rfl, rfl, rfl, rfl, rfl, fun _ _ => rfl, rfl, fun _ _ => rfl, trivial⟩, _, rfl, ?_⟩
   refine loop4a hl (fun x => ?_) nl 0 _ (by omega)
   refine loop4b hl (by omega) (last ?_) _ 0 _ (Nat.zero_add _)
   match r, hk with
   | 0, hk => omega
   | r + 1, hk => exact loop4 hl hn hd he hφ r (k + 1) (by omega)
  ·intro q0 q1
   have : eqI (difN n (fnT d) n (fnT e)) (difR n (fnT d) n (fnT e)) (difU n (rfF n (fnU fun j => toR (d j))) n (rfF n (fnU fun j => toR (e j)))) (dirU n (rfF n (fnU fun j => toR (d j))) n (rfF n (fnU fun j => toR (e j)))) = true := by
    rw [rfF_fnU, rfF_fnU]
    unfold difN difR difU dirU
    rw [eqs]
    exact (eqI_nth (diffL n (stF n (fnT d)) n (stF n (fnT e))) (diffL n (stF n (fnT d)) n (stF n (fnT e)))).trans (sameL_true rfl)
   rw [this]; exact hφ
  ·intro q0 q1
   have : eqI nl (fnR w) nl (fnR w) = true := sameL_true rfl
   rw [this] at q1; cases q1
end
theorem O4 : FnOK Tryz.prog (gls7 W7) 4 F4 := by
 refine fnOK_S (C := C7 prim W7 spec4 sAl) (C7.ok _ _) (fn := Tryz.f4) (by kernel_rfl) (by kernel_rfl) fun H w shs args φ hrep h => ?_
 have hn : Tryz.f4.ntmps = 129 := by kernel_rfl
 unfold F4 at h
 split at h
 ·rename_i nl gl s0 s1
  split at h
  ·rename_i n g m hh e1 e2
   obtain ⟨h0, h1, hk, h3, hφ⟩ := h
   match args, hrep with
   | [v0, v1, v2], ⟨r0, r1, r2, _⟩ =>
    refine ⟨[.sl 1 nl (fnR (rwAt (α := Int) gl)), .sl 2 n (fnR (rwAt (α := Oj) g)), .sl 4 m (fnR (rwAt (α := Cl) hh))], ⟨rep_rows r0 h0, rep_rows (rep_slN e1 r1) h1, rep_rows (rep_slN e2 r2) h3, trivial⟩, L0, ?_⟩
    have hφ : φ (.b true) := hφ
    generalize rwAt (α := Int) gl = w at *
    generalize rwAt (α := Oj) g = o at *
    generalize rwAt (α := Cl) hh = c at *
    have rr (q : prim.lt (Int.ofNat 1000) (prim.ofN nl) = false) : roomJ nl = true := by
     have := lt_f q
     exact room_le (show nl ≤ _ by omega) (by decide)
    have i25 : in25 n (fnR o) = true := by
     unfold in25
     rw [rwAt_fnR, Bool.and_eq_true]
     exact ⟨okB_put _ _, hk⟩
    cases hg : goodO n o with
    | false =>
     have hno : noO n (rwAt (fnR o)) = true := by rw [rwAt_fnR]; unfold noO; rw [hg]; rfl
     cases hb : bigO n with
     | true =>
      refine goesS_spec (s := spec4a) (stop := sAl) ?_
      refine gSt (C7.ok _ _) (fok4a _) (hold := nH0) (m := 300) (n := 400) (ts := []) ?_
      rw [hn]
      exact all_na4 prim W7 nl w n o m c (fun _ _ _ => okB_put _ _) (fun q _ _ => rr q) (fun _ _ q => in24_mk hk (lt_f q)) (fun _ _ _ => hno) (fun _ _ _ => i25) (fun _ _ _ => hb) (fun _ => hφ) (fun _ _ => hφ) (fun _ _ _ => hφ) (fun _ _ _ => hφ)
     | false =>
      have hne : noneO n (rwAt (fnR o)) = true := by
       rw [rwAt_fnR]
       unfold goodO at hg
       unfold noneO
       rw [hb] at hg ⊢
       simpa using hg
      refine goesS_spec (s := spec4b) (stop := sAl) ?_
      refine gSt (C7.ok _ _) (fok4b _) (hold := nH0) (m := 300) (n := 400) (ts := []) ?_
      rw [hn]
      exact all_nb4 prim W7 nl w n o m c (fun _ _ _ => okB_put _ _) (fun q _ _ => rr q) (fun _ _ q => in24_mk hk (lt_f q)) (fun _ _ _ => hno) (fun _ _ _ => i25) (fun _ _ _ => hne) (fun _ => hφ) (fun _ _ => hφ) (fun _ _ _ => hφ) (fun _ _ _ => hφ)
    | true =>
     obtain ⟨h8, h0'⟩ := new_all hg
     have dD := behT_inv (c := c) h0' m
     have hnew : ∀ j, j < n → toR (newT o j) = newU o j := fun j hj => (new_inv (by simpa using all_range (good_of hg).2 j hj)).2
     refine gSt (C7.ok _ _) (fok4 _) (hold := nH0) (m := 300) (n := 400) (ts := [⟨4, td4, LO4 nl w n (behT n (newT o) c m) (newT o) (fun j => toR (behT n (newT o) c m j)) (fun j => toR (newT o j)) (0 : Nat), []⟩]) ?_
     rw [hn]
     refine all_a4 prim W7 nl w n o m c _ _ _ _ _ (fun _ _ _ => okB_put _ _) (fun q _ _ => rr q) (fun _ _ q => in24_mk hk (lt_f q)) (fun _ _ _ => by rw [rwAt_fnR]; exact hg) (fun _ _ _ => i25) (fun _ => hφ) (fun _ _ => hφ) (fun _ _ _ => hφ) (fun q _ _ => ?_)
     simp only [rwAt_fnR]
     exact ⟨⟨rfl, rfl, rfl, rfl, rfl, rfl, rfl, trivial⟩, _, rfl, loop4 (lt_f q) h8 dD h0' hφ 2 0 (by omega)⟩
  ·exact h.elim
 ·exact h.elim
end Go.Proofs
namespace Go.Sx
open Go.RowKit Go.ChangeShapes Go.WideShapes Go.Deep
def memOf (w : World) : Mem := fun b => w.heap[b]?
theorem memOf_on (w : World) : (memOf w).on w := fun _ _ h => h
theorem hcell_memOf {w : World} {a : Addr} {v : Value} (h : w.cell? a = some v) : hcell (memOf w) a.block a.off = some v ∧ a.spot = none := by
 unfold World.cell? at h
 unfold hcell memOf
 split at h
 ·rename_i c t f hb
  rw [hb]
  cases hs : a.spot with
  | none => simp only [hs, Option.isSome_none, Bool.false_eq_true, if_false] at h; exact ⟨h, rfl⟩
  | some x => simp [hs] at h
 ·cases h
section
variable {H : Type} {enc : TypeId × Value → H} {P : Program} {w : World} {base : Nat} {spare : Nat → Bool} {held : Bool}
def flatB (P : Program) (fs : Array Field) (k : Nat) : Bool :=
 fs.size == k && (List.range k).all fun i => match fs[i]? with
  | some f => f.offset == i && (match P.underlying f.type with | some (.int .i64) => true | _ => false) && P.cellsOf f.type == 1
  | none => false
def rowB (P : Program) (e k : Nat) : Bool :=
 match P.underlying e with
 | some (.int .i64) => k == 1 && P.cellsOf e == 1
 | some (.struct fs) => flatB P fs k && P.cellsOf e == k
 | _ => false
def int64 (n : Int) : Prop := (Lit.int .i64 n).wf = true
theorem flat_cells {e k fuel : Nat} {cs : List Value} {x : DataW H × List MemPlace} (hr : rowB P e k = true) (h : DataW.trod enc P w base spare held fuel e cs = some x) :
  ∃ ns : List Int, ns.length = k ∧ cs = ns.map (Value.int .i64) ∧ ∀ n ∈ ns, int64 n := by
 unfold rowB at hr
 split at hr
 ·rename_i hu
  simp only [Bool.and_eq_true, beq_iff_eq] at hr
  obtain ⟨n, rfl, _, hw⟩ := DataW.trod_int hu h
  exact ⟨[n], hr.1.symm, rfl, fun m hm => by simp at hm; subst hm; exact hw⟩
 ·rename_i fs hu
  simp only [Bool.and_eq_true, beq_iff_eq] at hr
  obtain ⟨hf, hc⟩ := hr
  unfold flatB at hf
  simp only [Bool.and_eq_true, beq_iff_eq] at hf
  obtain ⟨hk, hf⟩ := hf
  obtain ⟨xs, m, _, _, hlen, hxs, hel⟩ := DataW.trod_struct hu h
  rw [hc] at hlen
  have cell : ∀ i, i < k → ∃ n, cs[i]? = some (.int .i64 n) ∧ int64 n := fun i hi => by
   have q := List.all_eq_true.1 hf i (List.mem_range.2 hi)
   split at q
   ·rename_i f hfi
    simp only [Bool.and_eq_true, beq_iff_eq] at q
    obtain ⟨⟨ho, ht⟩, h1⟩ := q
    have ht : P.underlying f.type = some (.int .i64) := by
     split at ht
     ·assumption
     ·cases ht
    have q2 := hel i f hfi
    rw [ho, h1] at q2
    have hxi : i < xs.length := by rw [hxs, hk]; exact hi
    rw [List.getElem?_eq_getElem hxi] at q2
    obtain ⟨n, e1, _, e3⟩ := DataW.trod_int ht q2
    refine ⟨n, ?_, e3⟩
    have : (List.take 1 (List.drop i cs))[0]? = some (.int .i64 n) := by rw [e1]; rfl
    simpa using this
   ·cases q
  clear hel h hf
  have : ∀ (j : Nat) (l : List Value), l.length = j → (∀ i, i < j → ∃ n, l[i]? = some (.int .i64 n) ∧ int64 n) → ∃ ns : List Int, ns.length = j ∧ l = ns.map (Value.int .i64) ∧ ∀ n ∈ ns, int64 n := by
   intro j
   induction j with
   | zero => intro l hl _; exact ⟨[], rfl, by simpa using hl, fun _ h => by simp at h⟩
   | succ j ih =>
    intro l hl hc
    match l, hl with
    | v :: l, hl =>
     obtain ⟨ns, h1, h2, h3⟩ := ih l (by simpa using hl) fun i hi => by simpa using hc (i + 1) (by omega)
     obtain ⟨n, q1, q2⟩ := hc 0 (by omega)
     simp at q1
     subst q1
     exact ⟨n :: ns, by simp [h1], by simp [h2], fun m hm => by
      rcases List.mem_cons.1 hm with rfl | hm
      ·exact q2
      ·exact h3 m hm⟩
  exact this k cs hlen cell
 ·cases hr
def shInts (ns : List Int) : List Sh := ns.map (Sh.i .i64)
theorem cells?_at {w : World} {base : Nat} {a : Addr} {n : Nat} {cs : List Value} (h : w.cells? base a n = some cs) : cs.length = n ∧ ∀ j, j < n → w.cell? (a.add j) = cs[j]? := by
 unfold World.cells? at h
 split at h
 ·have : ∀ (l : List Nat) (cs : List Value), l.mapM (fun i => w.cell? (a.add i)) = some cs → cs.length = l.length ∧ ∀ (j : Nat) (i : Nat), l[j]? = some i → w.cell? (a.add i) = cs[j]? := by
   intro l
   induction l with
   | nil => intro cs h; simp at h; subst h; exact ⟨rfl, fun j i e => by simp at e⟩
   | cons x l ih =>
    intro cs h
    rw [List.mapM_cons] at h
    simp only [Option.bind_eq_bind, Option.bind_eq_some_iff, Option.pure_def] at h
    obtain ⟨v, h1, vs, h2, h3⟩ := h
    cases h3
    obtain ⟨e1, e2⟩ := ih vs h2
    refine ⟨by simp [e1], fun j i e => ?_⟩
    match j, e with
    | 0, e => simp at e; subst e; simpa using h1
    | j + 1, e => simpa using e2 j i (by simpa using e)
  obtain ⟨e1, e2⟩ := this _ _ h
  rw [List.length_range] at e1
  exact ⟨e1, fun j hj => e2 j j (by simp [hj])⟩
 ·cases h
theorem add_off (a : Addr) (n : Nat) : (a.add n).off = a.off + n ∧ (a.add n).block = a.block := by
 unfold Addr.add
 split
 ·subst_vars; exact ⟨rfl, rfl⟩
 ·exact ⟨rfl, rfl⟩
theorem add_add' (a : Addr) (i j : Nat) : (a.add i).add j = a.add (i + j) := by
 unfold Addr.add
 by_cases hi : i = 0 <;> by_cases hj : j = 0 <;> simp [hi, hj, Nat.add_assoc]
theorem rep_rowsl {t e k fuel : Nat} {cs : List Value} {x : DataW H × List MemPlace} (ht : P.underlying t = some (.slice e)) (hr : rowB P e k = true) (hk : P.cellsOf e = k) (h0 : 0 < k)
  (h : DataW.trod enc P w base spare held fuel t cs = some x) :
  ∃ v n g, cs = [v] ∧ Rep (memOf w) (.sl k n g) v ∧ ∀ i, i < n → ∃ ns : List Int, ns.length = k ∧ g i = shInts ns ∧ ∀ n ∈ ns, int64 n := by
 rcases open_slice ht h with ⟨rfl, _⟩ | ⟨a, len, cap, m, n, D, Pl, rfl, hb, hl, hcap, hm, _, hel⟩
 ·exact ⟨_, 0, fun _ => [], rfl, .sl0 _ _ _ _ (Nat.zero_le _), fun i hi => by omega⟩
 have hlm : len ≤ m := by rw [hm]; split <;> omega
 rw [hk] at hel
 have row : ∀ i, i < len → ∃ ns : List Int, ns.length = k ∧ w.cells? base (a.add (i * k)) k = some (ns.map (Value.int .i64)) ∧ ∀ n ∈ ns, int64 n := fun i hi => by
  obtain ⟨cs', h1, h2⟩ := hel i (by omega)
  obtain ⟨ns, e1, rfl, e3⟩ := flat_cells hr h2
  exact ⟨ns, e1, h1, e3⟩
 by_cases hz : len = 0
 ·subst hz
  exact ⟨_, 0, fun _ => [], rfl, .sl0 _ _ _ _ hcap, fun i hi => by omega⟩
 let N : Nat → List Int := fun i => if h : i < len then (row i h).choose else []
 have hN : ∀ i, i < len → (N i).length = k ∧ w.cells? base (a.add (i * k)) k = some ((N i).map (Value.int .i64)) ∧ ∀ n ∈ N i, int64 n := fun i hi => by
  simp only [N, dif_pos hi]
  exact (row i hi).choose_spec
 have cell : ∀ i j, i < len → j < k → w.cell? (a.add (i * k + j)) = ((N i).map (Value.int .i64))[j]? := fun i j hi hj => by
  have := (cells?_at (hN i hi).2.1).2 j hj
  rwa [add_add'] at this
 have hspot : a.spot = none := by
  have h1 := cell 0 0 (by omega) h0
  have : ∃ v, w.cell? a = some v := by
   have hl0 := (hN 0 (by omega)).1
   match hq : N 0 with
   | [] => rw [hq] at hl0; simp at hl0; omega
   | x :: r =>
    rw [hq] at h1
    simp [Addr.add] at h1
    exact ⟨_, h1⟩
  obtain ⟨v, hv⟩ := this
  exact (hcell_memOf hv).2
 obtain ⟨blk, off, spot⟩ := a
 simp only at hspot
 subst hspot
 refine ⟨_, len, fun i => shInts (N i), rfl, .sl _ _ _ blk off cap (fun i j => ((N i).map (Value.int .i64)).getD j .nilFunc) hl hcap (fun i hi => by simp [shInts, (hN i hi).1]) (fun i j hi hj => ?_) (fun i j hi hj => ?_) (fun i j s hi e => ?_), fun i hi => ⟨N i, (hN i hi).1, rfl, (hN i hi).2.2⟩⟩
 ·have h1 := cell i j hi hj
  have hlt : j < ((N i).map (Value.int .i64)).length := by simpa [(hN i hi).1] using hj
  rw [List.getElem?_eq_getElem hlt] at h1
  have h2 := (hcell_memOf h1).1
  rw [(add_off _ _).1, (add_off _ _).2] at h2
  simp only [Nat.add_assoc] at h2 ⊢
  rw [h2, List.getD_eq_getElem?_getD, List.getElem?_eq_getElem hlt]; rfl
 ·have hlt : j < (N i).length := by rw [(hN i hi).1]; exact hj
  simp [List.getD_eq_getElem?_getD, hlt]; rfl
 ·simp only [shInts, List.getElem?_map, Option.map_eq_some_iff] at e
  obtain ⟨n, h3, rfl⟩ := e
  simp [List.getD_eq_getElem?_getD, h3]
  exact .i _ _
theorem rep_slice_arg {t e k : Nat} {v : Value} {d : DataW H} {ps : List MemPlace} (ht : P.underlying t = some (.slice e)) (hr : rowB P e k = true) (hk : P.cellsOf e = k) (h0 : 0 < k) {b0 : Nat} (hval : Value.okWide P w .any b0 t v) (hd : DataW.Trod enc P w base spare held t v d ps) :
  ∃ n g, Rep (memOf w) (.sl k n g) v ∧ ∀ i, i < n → ∃ ns : List Int, ns.length = k ∧ g i = shInts ns ∧ ∀ n ∈ ns, int64 n := by
 obtain ⟨fuel, hd⟩ := hd
 obtain ⟨u, n, g, h1, h2, h3⟩ := rep_rowsl ht hr hk h0 hd
 have : v = u := by
  unfold Value.okWide at hval
  rw [ht] at hval
  cases v <;> simp [Value.cells] at h1 <;> first | exact h1 | skip
  all_goals (unfold Cell.okWide at hval; simp [ht] at hval; try (simp [Cell.ok, ht] at hval))
 subst this
 exact ⟨n, g, h2, h3⟩
end
end Go.Sx
