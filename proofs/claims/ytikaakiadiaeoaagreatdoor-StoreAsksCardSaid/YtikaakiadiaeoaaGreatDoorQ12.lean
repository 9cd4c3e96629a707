/-
  Chapter 7: the document's Same and Differ. Chapters 6 and 7: both stores behind some operations. Chapters 6 and 7: are two stores the same; evaluated. Chapters 6 and 7: are two stores the same: the evaluated trees as lemmas, Chapters 6 and 7: are two stores the same. Chapter 7: the chapter's examples; evaluated. Chapter 7: summary: the chapter's examples are right. Chapter 7: StoreKeys: evaluated. Chapter 7: StoreKeys: the evaluated trees as lemmas, Chapters 6 and 7: the plain law: keys tell states apart. Chapter 7: plain facts for the laws on stores. Chapter 7: StoreAsks: evaluated. Chapter 7: StoreAsks: the evaluated trees as lemmas, Chapter 7: StoreOwn: evaluated. Chapter 7: StoreOwn: the evaluated trees as lemmas, Chapter 7: the plain law of StoreApart: operations on unlike objects. Chapter 7: StoreKeys.
-/
import Derived.Test.YtikaakiadiaeoaaGreatDoorQ11
namespace Go.Pl
open Go Go.Sx Go.Proofs
theorem diffU_succ {n m : Nat} {f e : Nat → Rf} {k : Nat} : diffU n f m e (k + 1) = if unU n f m e k = true then diffU n f m e k ++ [(k : Int)] else diffU n f m e k := by
 unfold diffU
 rw [List.range_succ, List.filter_append, List.map_append]
 split
 ·rename_i h; simp [h]
 ·rename_i h; simp [h]
theorem diffU_len (n : Nat) (f : Nat → Rf) (m : Nat) (e : Nat → Rf) (k : Nat) : (diffU n f m e k).length ≤ k := by
 unfold diffU
 rw [List.length_map]
 have := List.length_filter_le (unU n f m e) (List.range k)
 simpa using this
theorem eqI_nth (l r : List Int) : eqI (len l) (fnR (nth l)) (len r) (fnR (nth r)) = sameL l r := by
 unfold eqI
 rw [show lst Int (len l) (fnR (nth l)) = l from lst_nth l, show lst Int (len r) (fnR (nth r)) = r from lst_nth r]
theorem eqU_iff {r s : Rf} : eqU r s = true ↔ r = s := by
 obtain ⟨a, b, c, d⟩ := r
 obtain ⟨a', b', c', d'⟩ := s
 simp [eqU, sameL, and_assoc]
end Go.Pl
namespace Go.Proofs
open Go Go.Sx Go.Pl
theorem OG18 : FnOK Tryz.prog (gls7 W7) 18 G18b := by
 intro H w shs args φ hon hg hr hφ
 refine O18 H w shs args φ hon hg hr ?_
 unfold G18b at hφ
 unfold F18
 split at hφ
 ·exact hφ
 ·exact hφ.elim
theorem fok53 (stop : Nat → List Nat → Bool) : FnsOK Tryz.prog (C7 prim W7 spec53 stop) := C7.fok (fun g F h => by
 unfold spec53 at h
 split at h
 ·cases h; exact OG18
 ·cases h) fun g h => by
 unfold spec53 at h
 split at h
 all_goals first | (cases h; done) | kernel_rfl
theorem O53 : FnOK Tryz.prog (gls7 W7) 53 F53 := by
 refine fnOK_Su (C := C7 prim W7 spec53 sAl) (C7.ok _ _) (fn := Tryz.f53) (by kernel_rfl) (by kernel_rfl) fun H w shs args φ hrep h => ?_
 have hn : Tryz.f53.ntmps = 35 := by kernel_rfl
 unfold F53 at h
 split at h
 ·rename_i x y s2 s3 x' y' t2 t3
  obtain ⟨h1, h2, hφ⟩ := h
  have e1 := rowF_ok h1
  have e2 := rowF_ok h2
  generalize rowF [x, y, s2, s3] = r at *
  generalize rowF [x', y', t2, t3] = s at *
  refine ⟨[.agg (rfS r), .agg (rfS s)], by rw [← e1, ← e2]; exact hrep, L0, ?_⟩
  have key : ∀ b : Bool, b = eqU r s → up φ (.b b) := fun b e => up_mk (s' := .b (eqU r s)) (.inl (by rw [e])) hφ
  refine gSt (C7.ok _ _) (fok53 _) (hold := nH0) (m := 300) (n := 400) (ts := []) ?_
  rw [hn]
  refine all_a53 prim W7 r s (okB_put _ _) (okB_put _ _) (okB_put _ _) (okB_put _ _) ?_ ?_ ?_ ?_
  ·intro q0 q1 q2
   refine key _ ?_
   rw [eqI_nth] at q2 ⊢
   simp [prim_eq] at q0 q1
   simp [eqU, q0, q1, q2]
  ·intro q0 q1 q2
   refine key _ ?_
   rw [eqI_nth] at q2
   simp [eqU, q2]
  ·intro q0 q1
   refine key _ ?_
   simp [prim_eq] at q1
   simp [eqU, q1]
  ·intro q0
   refine key _ ?_
   simp [prim_eq] at q0
   simp [eqU, q0]
 ·exact h.elim
theorem fok28 (stop : Nat → List Nat → Bool) : FnsOK Tryz.prog (C7 prim W7 spec28 stop) := C7.fok (fun g F h => by
 unfold spec28 at h
 split at h
 ·cases h; exact O53
 ·cases h) fun g h => by
 unfold spec28 at h
 split at h
 all_goals first | (cases h; done) | kernel_rfl
section
variable {H0 : Mem} {w0 : World} {φ : Sh → Prop} {n m : Nat} {f e : Nat → Rf}
theorem loop28 (hn : n ≤ 100000) (hm : m ≤ 100000) (hφ : φ (.os 3 1 (diffU n f m e (max n m)).length (fnR (nth (diffU n f m e (max n m)))))) :
  ∀ r k, k + r = max n m → GoesS Tryz.prog (C7 prim W7 spec28 sAl) (K0 H0 w0) 28 td28 (LO28 n f m e k (diffU n f m e k).length (fnR (nth (diffU n f m e k)))) [] emp φ
 | r, k, hk => by
  refine gSi (fn := Tryz.f28) (tb := tb28) (by kernel_rfl) (by kernel_rfl) ?_
  have hlen := diffU_len n f m e k
  have hmx : max n m ≤ 100000 := by omega
  have rr : prim.room (prim.addN (diffU n f m e k).length 1) 8 = true := room_le (show (diffU n f m e k).length + 1 ≤ _ by omega) (by decide)
  have lt1 (q : prim.lt (k : Int) (prim.ofN n) = true) : k < n := by simp [prim_lt, prim_ofN] at q; omega
  have lt2 (q : prim.lt (k : Int) (prim.ofN m) = true) : k < m := by simp [prim_lt, prim_ofN] at q; omega
  have ge1 (q : prim.lt (k : Int) (prim.ofN n) = false) : n ≤ k := by simp [prim_lt, prim_ofN] at q; omega
  have ge2 (q : prim.lt (k : Int) (prim.ofN m) = false) : m ≤ k := by simp [prim_lt, prim_ofN] at q; omega
  have le1 (q : prim.le (prim.ofN n) (k : Int) = true) : n ≤ k := by simp [prim_le, prim_ofN] at q; omega
  have le2 (q : prim.le (prim.ofN m) (k : Int) = true) : m ≤ k := by simp [prim_le, prim_ofN] at q; omega
  have nl1 (q : prim.le (prim.ofN n) (k : Int) = false) : k < n := by simp [prim_le, prim_ofN] at q; omega
  have nl2 (q : prim.le (prim.ofN m) (k : Int) = false) : k < m := by simp [prim_le, prim_ofN] at q; omega
  have i1 (q : k < n) : prim.inB (k : Int) n = true := by simp [prim_inB]; omega
  have i2 (q : k < m) : prim.inB (k : Int) m = true := by simp [prim_inB]; omega
  have eu (b : Bool) (q : prim.nt (eqU (rowF (rfS (f k))) (rowF (rfS (e k)))) = b) : eqU (f k) (e k) = !b := by
   rw [rowF_self, rowF_self] at q
   subst q; simp [prim_nt]
  have hadd : k < max n m → prim.add .i64 (k : Int) (Int.ofNat 1) = ((k + 1 : Nat) : Int) := fun h => by
   show IntKind.i64.wrap ((k : Int) + 1) = _
   rw [wrap_id (by omega) (by omega)]; rfl
  have next (c' : List Int) (hc : diffU n f m e (k + 1) = c') (h : k < max n m) : GoesS Tryz.prog (C7 prim W7 spec28 sAl) (K0 H0 w0) 28 td28 (LO28 n f m e (k + 1 : Nat) c'.length (fnR (nth c'))) [] emp φ := by
   match r, hk with
   | 0, hk => omega
   | r + 1, hk =>
    have := loop28 hn hm hφ r (k + 1) (by omega)
    rwa [hc] at this
  have fin (q : n ≤ k) (q2 : m ≤ k) : φ (.os 3 1 (diffU n f m e k).length (fnR (nth (diffU n f m e k)))) := by
   have : k = max n m := by omega
   rw [this]; exact hφ
  cases hun : unU n f m e k with
  | true =>
   have hd : diffU n f m e (k + 1) = diffU n f m e k ++ [(k : Int)] := by rw [diffU_succ, if_pos hun]
   have push (h : k < max n m) : Eqn.all [Eqn.sh (Sh.sl 4 n (fnU f)) (Sh.sl 4 n (fnU f)), Eqn.sh (Sh.sl 4 m (fnU e)) (Sh.sl 4 m (fnU e)), Eqn.int (prim.add .i64 (k : Int) (Int.ofNat 1)) ((k + 1 : Nat) : Int), Eqn.nat (prim.addN (diffU n f m e k).length 1) (diffU n f m e k ++ [(k : Int)]).length, Eqn.get (prim.addN (diffU n f m e k).length 1) (prim.snoc (fnR (nth (diffU n f m e k))) (diffU n f m e k).length (nthL [[Sh.i .i64 k]])) (fnR (nth (diffU n f m e k ++ [(k : Int)])))] :=
    ⟨rfl, rfl, hadd h, by simp [Eqn.ok, prim_addN], snoc_nth _ _ rfl, trivial⟩
   have abs (q1 : k < n) (q2 : k < m) (q3 : prim.nt (eqU (rowF (rfS (f k))) (rowF (rfS (e k)))) = false) {P : Prop} : P := by
    have := eu _ q3
    simp [unU, q1, q2, this] at hun
   refine gSt (C7.ok _ _) (fok28 _) (hold := nH0) (m := 300) (n := 400) (ts := [⟨28, td28, LO28 n f m e (k + 1 : Nat) (diffU n f m e k ++ [(k : Int)]).length (fnR (nth (diffU n f m e k ++ [(k : Int)]))), []⟩]) ?_
   refine all_b28 prim W7 n f m e k (k + 1 : Nat) (diffU n f m e k).length _ (fnR (nth (diffU n f m e k))) _ (fun _ _ => rr) (fun _ _ _ => rr) (fun q _ _ => i1 (lt1 q)) (fun _ _ q => i2 (nl2 q)) (fun _ _ _ => rowB_self (f k)) (fun _ _ _ => rowB_self (e k)) (fun _ _ _ _ => rr) (fun _ _ _ => rr) (fun _ _ _ _ => rr) (fun _ _ q _ => i1 (nl1 q)) (fun _ q _ _ => i2 (lt2 q)) (fun _ _ _ _ => rowB_self (f k)) (fun _ _ _ _ => rowB_self (e k)) (fun _ _ _ _ _ => rr) ?_ ?_ ?_ ?_ ?_ ?_ ?_ ?_ (fun q q2 => fin (ge1 q) (ge2 q2))
   ·intro q0 q1; exact ⟨push (by have := lt1 q0; omega), _, rfl, next _ hd (by have := lt1 q0; omega)⟩
   ·intro q0 q1 q2; exact ⟨push (by have := lt1 q0; omega), _, rfl, next _ hd (by have := lt1 q0; omega)⟩
   ·intro q0 q1 q2 q3; exact ⟨push (by have := lt1 q0; omega), _, rfl, next _ hd (by have := lt1 q0; omega)⟩
   ·intro q0 q1 q2 q3; exact abs (lt1 q0) (nl2 q2) q3
   ·intro q0 q1 q2; exact ⟨push (by have := lt2 q1; omega), _, rfl, next _ hd (by have := lt2 q1; omega)⟩
   ·intro q0 q1 q2 q3; exact ⟨push (by have := lt2 q1; omega), _, rfl, next _ hd (by have := lt2 q1; omega)⟩
   ·intro q0 q1 q2 q3 q4; exact ⟨push (by have := lt2 q1; omega), _, rfl, next _ hd (by have := lt2 q1; omega)⟩
   ·intro q0 q1 q2 q3 q4; exact abs (nl1 q2) (lt2 q1) q4
  | false =>
   have hd : diffU n f m e (k + 1) = diffU n f m e k := by rw [diffU_succ, if_neg (by rw [hun]; simp)]
   have un : k < n ∧ k < m ∧ eqU (f k) (e k) = true := by simpa [unU, and_assoc] using hun
   have push (h : k < max n m) : Eqn.all [Eqn.sh (Sh.sl 4 n (fnU f)) (Sh.sl 4 n (fnU f)), Eqn.sh (Sh.sl 4 m (fnU e)) (Sh.sl 4 m (fnU e)), Eqn.int (prim.add .i64 (k : Int) (Int.ofNat 1)) ((k + 1 : Nat) : Int), Eqn.nat (diffU n f m e k).length (diffU n f m e k).length, Eqn.get (diffU n f m e k).length (fnR (nth (diffU n f m e k))) (fnR (nth (diffU n f m e k)))] :=
    ⟨rfl, rfl, hadd h, rfl, fun _ _ => rfl, trivial⟩
   have abs (q3 : prim.nt (eqU (rowF (rfS (f k))) (rowF (rfS (e k)))) = true) {P : Prop} : P := by
    have := eu _ q3
    rw [un.2.2] at this; cases this
   refine gSt (C7.ok _ _) (fok28 _) (hold := nH0) (m := 300) (n := 400) (ts := [⟨28, td28, LO28 n f m e (k + 1 : Nat) (diffU n f m e k).length (fnR (nth (diffU n f m e k))), []⟩]) ?_
   refine all_b28 prim W7 n f m e k (k + 1 : Nat) (diffU n f m e k).length _ (fnR (nth (diffU n f m e k))) _ (fun _ _ => rr) (fun _ _ _ => rr) (fun q _ _ => i1 (lt1 q)) (fun _ _ q => i2 (nl2 q)) (fun _ _ _ => rowB_self (f k)) (fun _ _ _ => rowB_self (e k)) (fun _ _ _ _ => rr) (fun _ _ _ => rr) (fun _ _ _ _ => rr) (fun _ _ q _ => i1 (nl1 q)) (fun _ q _ _ => i2 (lt2 q)) (fun _ _ _ _ => rowB_self (f k)) (fun _ _ _ _ => rowB_self (e k)) (fun _ _ _ _ _ => rr) ?_ ?_ ?_ ?_ ?_ ?_ ?_ ?_ (fun q q2 => fin (ge1 q) (ge2 q2))
   ·intro q0 q1; have := le1 q1; omega
   ·intro q0 q1 q2; have := le2 q2; omega
   ·intro q0 q1 q2 q3; exact abs q3
   ·intro q0 q1 q2 q3; exact ⟨push (by have := lt1 q0; omega), _, rfl, next _ hd (by have := lt1 q0; omega)⟩
   ·intro q0 q1 q2; have := le1 q2; omega
   ·intro q0 q1 q2 q3; have := le2 q3; omega
   ·intro q0 q1 q2 q3 q4; exact abs q4
   ·intro q0 q1 q2 q3 q4; exact ⟨push (by have := lt2 q1; omega), _, rfl, next _ hd (by have := lt2 q1; omega)⟩
end
theorem O28 : FnOK Tryz.prog (gls7 W7) 28 F28 := by
 refine fnOK_S (C := C7 prim W7 spec28 sAl) (C7.ok _ _) (fn := Tryz.f28) (by kernel_rfl) (by kernel_rfl) fun H w shs args φ hrep h => ?_
 have hn : Tryz.f28.ntmps = 46 := by kernel_rfl
 unfold F28 at h
 split at h
 ·split at h
  ·rename_i n g m h' e1 e2
   obtain ⟨h1, h2, h3, hφ⟩ := h
   obtain ⟨h3, h4⟩ := of_decide_eq_true h3
   match args, hrep with
   | [v1, v2], ⟨r1, r2, _⟩ =>
    refine ⟨[.sl 4 n (fnU (rfF n g)), .sl 4 m (fnU (rfF m h'))], ⟨rep_sl_congr (rep_slN e1 r1) (rfB_at h1), rep_sl_congr (rep_slN e2 r2) (rfB_at h2), trivial⟩, L0, ?_⟩
    have hφ : φ (.os 3 1 (diffU n (rfF n g) m (rfF m h') (max n m)).length (fnR (nth (diffU n (rfF n g) m (rfF m h') (max n m))))) := hφ
    generalize rfF n g = f at *
    generalize rfF m h' = e at *
    refine gSt (C7.ok _ _) (fok28 _) (hold := nH0) (m := 300) (n := 400) (ts := [⟨28, td28, LO28 n f m e (0 : Nat) (diffU n f m e 0).length (fnR (nth (diffU n f m e 0))), []⟩]) ?_
    rw [hn]
    refine all_a28 prim W7 n f m e _ _ _ ⟨⟨rfl, rfl, rfl, rfl, trivial⟩, _, rfl, loop28 h3 h4 hφ (max n m) 0 (by omega)⟩
  ·exact h.elim
 ·exact h.elim
end Go.Proofs
namespace Go.Pl
open Go Go.Sx Go.Proofs
section
variable {n : Nat} {d e : Nat → Sta} {i op k v : Int}
theorem okN_congr (h : ∀ j, j < n → e j = d j) : okN n e i op k v = okN n d i op k v := by
 unfold okN
 cases hi : inI n i with
 | false => rfl
 | true =>
  have hi : 0 ≤ i ∧ i < n := of_decide_eq_true hi
  rw [h i.toNat (by omega)]
theorem erN_congr (h : ∀ j, j < n → e j = d j) : erN n e i op k v = erN n d i op k v := by
 unfold erN
 cases hi : inI n i with
 | false => rfl
 | true =>
  have hi : 0 ≤ i ∧ i < n := of_decide_eq_true hi
  rw [h i.toNat (by omega)]
theorem keyN_congr (h : ∀ j, j < n → e j = d j) : keyN n e = keyN n d := by
 unfold keyN
 rw [List.map_congr_left fun j hj => h j (List.mem_range.1 hj)]
end
end Go.Pl
namespace Go.Proofs
open Go Go.Sx Go.Pl
section
variable {H0 : Mem} {w0 : World} {φ : Sh → Prop} {n m : Nat} {o : Nat → Sta} {c : Nat → Cl}
theorem end24 {k : Nat} {d : Nat → Sta} (hn : n ≤ 8) (hk : k ≤ 50000) (hd : ∀ j, j < n → InvS k (d j)) :
  keysB n (stF n (fnT d)) = true ∧ hundB n = true ∧ allU n (rfF n (fnU fun j => toR (d j))) = true ∧ sameK n (stF n (fnT d)) n (rfF n (fnU fun j => toR (d j))) = true := by
 have he := stF_fnT (n := n) (d := d)
 refine ⟨?_, decide_eq_true (by omega), ?_, ?_⟩
 ·unfold keysB
  rw [Bool.and_eq_true]
  exact ⟨decide_eq_true (by omega), List.all_eq_true.2 fun j hj => by
   have hj := List.mem_range.1 hj
   rw [he j hj]; exact okT_inv (by omega) (hd j hj)⟩
 ·rw [rfF_fnU]
  exact List.all_eq_true.2 fun j hj => okU_inv hk (hd j (List.mem_range.1 hj))
 ·rw [rfF_fnU]
  unfold sameK
  rw [keyN_congr he, keys_eq n hd]
  simp
theorem loop24 (hn : n ≤ 8) (hm : m ≤ 50000) (h0 : ∀ j, j < n → InvS 0 (o j)) (hφ : φ (.tup [.agg [.sl 4 n (fnT (behT n o c m))], .sl 4 n (fnU fun j => toR (behT n o c m j)), .b true])) :
  ∀ r k, k + r = m → (∀ j, j < n → InvS k (behT n o c k j)) → GoesS Tryz.prog (C7 prim W7 spec24 sAl) (K0 H0 w0) 24 td24 (LO24 n (behT n o c k) (fun j => toR (behT n o c k j)) m c (k : Int)) [] emp (up φ)
 | r, k, hk, hd => by
  have he := stF_fnT (n := n) (d := behT n o c k)
  have hde : ∀ j, j < n → InvS k (stF n (fnT (behT n o c k)) j) := fun j hj => by rw [he j hj]; exact hd j hj
  have rr : roomB n 64 = true := room_le (by omega) (by omega)
  have lt (h : prim.lt (k : Int) (prim.ofN m) = true) : k < m := by simp [prim_lt, prim_ofN] at h; omega
  have nx (h : prim.lt (k : Int) (prim.ofN m) = true) : prim.add .i64 (k : Int) (Int.ofNat 1) = ((k + 1 : Nat) : Int) := by
   have := lt h
   show IntKind.i64.wrap ((k : Int) + 1) = _
   rw [wrap_id (by omega) (by omega)]; rfl
  have inb (h : prim.lt (k : Int) (prim.ofN m) = true) : prim.inB (k : Int) m = true := by
   have := lt h; simp [prim_inB]; omega
  have hend := end24 hn (show k ≤ 50000 by omega) hd
  have fin (h : prim.lt (k : Int) (prim.ofN m) = false) : up φ (.tup [.agg [.sl 4 n (fnT (behT n o c k))], .sl 4 n (fnU fun j => toR (behT n o c k j)), .b (sameK n (stF n (fnT (behT n o c k))) n (rfF n (fnU fun j => toR (behT n o c k j))))]) := by
   have : k = m := by simp [prim_lt, prim_ofN] at h; omega
   subst this
   rw [hend.2.2.2]
   exact up_mk (s' := .tup [.agg [.sl 4 n (fnT (behT n o c k))], .sl 4 n (fnU fun j => toR (behT n o c k j)), .b true]) ⟨⟨.inr ⟨rfl, rfl, fun _ _ => rfl⟩, trivial⟩, .inr ⟨rfl, rfl, fun _ _ => rfl⟩, .inl rfl, trivial⟩ hφ
  refine gSi (fn := Tryz.f24) (tb := tb24) (by kernel_rfl) (by kernel_rfl) ?_
  cases hok : okN n (behT n o c k) (c k).obj (c k).op (c k).key (c k).val with
  | true =>
   have hb : behT n o c (k + 1) = updT n (behT n o c k) (c k).obj (c k).op (c k).key (c k).val := by
    show (if _ then _ else _) = _
    rw [if_pos hok]
   obtain ⟨q1, q2⟩ := nxtU_eq hd hok
   refine gSt (C7.ok _ _) (fok24 _) (hold := nH0) (m := 300) (n := 400) (ts := [⟨24, td24, LO24 n (behT n o c (k + 1)) (fun j => toR (behT n o c (k + 1) j)) m c (k + 1 : Nat), []⟩]) ?_
   refine all_b24 prim W7 n _ _ _ _ m c k (k + 1 : Nat) inb (fun _ => stB_fnT _ _) (fun _ => rr) (fun _ => fitN_inv (by omega) hde) (fun _ => ?_) (fun _ => rfB_fnU _ _) (fun _ => ?_) (fun _ => ?_) (fun _ => stB_fnT _ _) (fun _ => hend.1) (fun _ => rfB_fnU _ _) (fun _ => hend.2.1) (fun _ => hend.2.2.1) (fun h => ⟨⟨rfl, ?_, nx h, ?_, trivial⟩, _, rfl, ?_⟩) fin
   ·exact (okN_congr he).trans hok
   ·rw [rfF_fnU]; exact fitM_inv (by omega) hd
   ·rw [rfF_fnU]; exact ok_same.trans hok
   ·show Sh.sl 4 n (nxtU n (fnU fun j => toR (behT n o c k j)) (c k).obj (c k).op (c k).key (c k).val) = Sh.sl 4 n (fnU fun j => toR (behT n o c (k + 1) j))
    rw [hb, q1]
   ·show Sh.sl 4 n (nxtT n (fnT (behT n o c k)) (c k).obj (c k).op (c k).key (c k).val) = Sh.sl 4 n (fnT (behT n o c (k + 1)))
    rw [hb, nxtT_eq]
   ·match r, hk with
    | 0, hk => have := lt h; omega
    | r + 1, hk => exact loop24 hn hm h0 hφ r (k + 1) (by omega) (by rw [hb]; exact q2)
  | false =>
   have hb : behT n o c (k + 1) = behT n o c k := by
    show (if _ then _ else _) = _
    rw [if_neg (by rw [hok]; simp)]
   have next (h : prim.lt (k : Int) (prim.ofN m) = true) : GoesS Tryz.prog (C7 prim W7 spec24 sAl) (K0 H0 w0) 24 td24 (LO24 n (behT n o c k) (fun j => toR (behT n o c k j)) m c ((k + 1 : Nat) : Int)) [] emp (up φ) := by
    match r, hk with
    | 0, hk => have := lt h; omega
    | r + 1, hk =>
     have := loop24 hn hm h0 hφ r (k + 1) (by omega) (by
      rw [hb]
      intro j hj
      have := hd j hj
      exact { this with ql := Nat.le_succ_of_le this.ql, pl := Nat.le_succ_of_le this.pl })
     rwa [hb] at this
   have hok' : okM n (fun j => toR (behT n o c k j)) (c k).obj (c k).op (c k).key (c k).val = false := ok_same.trans hok
   have noN1 (e : Nat) (q1 : erN n (behT n o c k) (c k).obj (c k).op (c k).key (c k).val = e) : noN n (stF n (fnT (behT n o c k))) (c k).obj (c k).op (c k).key (c k).val e = true := by
    unfold noN
    rw [okN_congr he, erN_congr he, hok, q1]; simp
   have noM1 (cc : Int) (q2 : codeM n (fun j => toR (behT n o c k j)) (c k).obj (c k).op (c k).key (c k).val = cc) : noM n (rfF n (fnU fun j => toR (behT n o c k j))) (c k).obj (c k).op (c k).key (c k).val cc = true := by
    unfold noM
    rw [rfF_fnU, hok', q2]; simp
   rcases er_same hok with ⟨q1, q2⟩ | ⟨q1, q2⟩ | ⟨q1, q2⟩
   ·refine goesS_spec (s := spec24y 0 109) (stop := sAl) ?_
    refine gSt (C7.ok _ _) (fok24y _ _ _) (hold := nH0) (m := 300) (n := 400) (ts := [⟨24, td24, LO24 n (behT n o c k) (fun j => toR (behT n o c k j)) m c (k + 1 : Nat), []⟩]) ?_
    refine all_e24_109 prim W7 n _ _ _ _ m c k (k + 1 : Nat) inb (fun _ => stB_fnT _ _) (fun _ => rr) (fun _ => fitN_inv (by omega) hde) (fun _ => noN1 0 q1) (fun _ => rfB_fnU _ _) (fun _ => ?_) (fun _ => noM1 109 q2) (fun _ => stB_fnT _ _) (fun _ => hend.1) (fun _ => rfB_fnU _ _) (fun _ => hend.2.1) (fun _ => hend.2.2.1) (fun h => ⟨⟨rfl, rfl, nx h, rfl, trivial⟩, _, rfl, goesS_spec (next h)⟩) fin
    rw [rfF_fnU]; exact fitM_inv (by omega) hd
   ·refine goesS_spec (s := spec24y 1 111) (stop := sAl) ?_
    refine gSt (C7.ok _ _) (fok24y _ _ _) (hold := nH0) (m := 300) (n := 400) (ts := [⟨24, td24, LO24 n (behT n o c k) (fun j => toR (behT n o c k j)) m c (k + 1 : Nat), []⟩]) ?_
    refine all_e24_111 prim W7 n _ _ _ _ m c k (k + 1 : Nat) inb (fun _ => stB_fnT _ _) (fun _ => rr) (fun _ => fitN_inv (by omega) hde) (fun _ => noN1 1 q1) (fun _ => rfB_fnU _ _) (fun _ => ?_) (fun _ => noM1 111 q2) (fun _ => stB_fnT _ _) (fun _ => hend.1) (fun _ => rfB_fnU _ _) (fun _ => hend.2.1) (fun _ => hend.2.2.1) (fun h => ⟨⟨rfl, rfl, nx h, rfl, trivial⟩, _, rfl, goesS_spec (next h)⟩) fin
    rw [rfF_fnU]; exact fitM_inv (by omega) hd
   ·refine goesS_spec (s := spec24y 3 110) (stop := sAl) ?_
    refine gSt (C7.ok _ _) (fok24y _ _ _) (hold := nH0) (m := 300) (n := 400) (ts := [⟨24, td24, LO24 n (behT n o c k) (fun j => toR (behT n o c k j)) m c (k + 1 : Nat), []⟩]) ?_
    refine all_e24_110 prim W7 n _ _ _ _ m c k (k + 1 : Nat) inb (fun _ => stB_fnT _ _) (fun _ => rr) (fun _ => fitN_inv (by omega) hde) (fun _ => noN1 3 q1) (fun _ => rfB_fnU _ _) (fun _ => ?_) (fun _ => noM1 110 q2) (fun _ => stB_fnT _ _) (fun _ => hend.1) (fun _ => rfB_fnU _ _) (fun _ => hend.2.1) (fun _ => hend.2.2.1) (fun h => ⟨⟨rfl, rfl, nx h, rfl, trivial⟩, _, rfl, goesS_spec (next h)⟩) fin
    rw [rfF_fnU]; exact fitM_inv (by omega) hd
end
end Go.Proofs
namespace Go.Pl
def goodO (n : Nat) (o : Nat → Oj) : Bool := !bigO n && allOb n o
def fewB (m : Nat) : Bool := decide (m ≤ 50000)
end Go.Pl
namespace Go.Proofs
open Go Go.Sx Go.Pl
noncomputable def F24 : List Sh → Tree Sh
 | [s0, s1] => match slN 2 s0, slN 4 s1 with
  | some (n, g), some (m, h) => .need (okB Oj n g) (.need (kindsB n (rwAt g)) (.need (okB Cl m h) (.need (fewB m) (.node (goodO n (rwAt g))
    (.leaf (.tup [.agg [.sl 4 n (fnT (behT n (newT (rwAt g)) (rwAt h) m))], .sl 4 n (fnU fun j => toR (behT n (newT (rwAt g)) (rwAt h) m j)), .b true]))
    (.leaf (.tup [.agg [.sl 4 0 noT], .sl 4 0 noT, .b false]))))))
  | _, _ => .fail
 | _ => .fail
theorem O24 : FnOK Tryz.prog (gls7 W7) 24 F24 := by
 refine fnOK_Su (C := C7 prim W7 spec24 sAl) (C7.ok _ _) (fn := Tryz.f24) (by kernel_rfl) (by kernel_rfl) fun H w shs args φ hrep h => ?_
 have hn : Tryz.f24.ntmps = 115 := by kernel_rfl
 unfold F24 at h
 split at h
 ·split at h
  ·rename_i n g m hh e1 e2
   obtain ⟨h1, h2, h3, h4, hyes, hno⟩ := h
   have h4 := of_decide_eq_true h4
   match args, hrep with
   | [v1, v2], ⟨r1, r2, _⟩ =>
    refine ⟨[.sl 2 n (fnR (rwAt (α := Oj) g)), .sl 4 m (fnR (rwAt (α := Cl) hh))], ⟨rep_rows (rep_slN e1 r1) h1, rep_rows (rep_slN e2 r2) h3, trivial⟩, L0, ?_⟩
    generalize rwAt (α := Oj) g = o at *
    generalize rwAt (α := Cl) hh = c at *
    have bad (hg : goodO n o = false) : up φ (.tup [.agg [.sl 4 0 noT], .sl 0 0 fun _ => [], .b false]) := up_mk (s' := .tup [.agg [.sl 4 0 noT], .sl 4 0 noT, .b false]) ⟨⟨.inl ⟨rfl, rfl⟩, trivial⟩, .inl ⟨rfl, rfl⟩, .inl rfl, trivial⟩ (hno hg)
    have g1 (q : bigO n = true) : goodO n o = false := by unfold goodO; rw [q]; rfl
    have g2 (q : allOb n o = false) : goodO n o = false := by unfold goodO; rw [q, Bool.and_false]
    refine gSt (C7.ok _ _) (fok24 _) (hold := nH0) (m := 300) (n := 400) (ts := [⟨24, td24, LO24 n (newT o) (newU o) m c (0 : Nat), []⟩]) ?_
    rw [hn]
    refine all_a24 prim W7 n o m c (0 : Nat) (okB_put _ _) (by rw [rwAt_fnR]; exact h2) (fun q _ => bad (g1 q)) (fun q _ _ => bad (g1 q)) (fun q _ _ => bad (g1 q)) (fun q _ q2 => by rw [q] at q2; cases q2) (fun q q2 _ _ => ?_) (fun _ q2 _ q3 => by rw [q2] at q3; cases q3) (fun q _ q2 => by rw [q] at q2; cases q2) (fun _ q2 _ q3 => by rw [q2] at q3; cases q3) (fun _ q _ _ => bad (g2 (by rw [rwAt_fnR] at q; exact q)))
    rw [rwAt_fnR] at q2
    have hg : goodO n o = true := by unfold goodO; rw [q, q2]; rfl
    have hT : ∀ j, j < n → badOb (o j).kind (o j).init = false := fun j hj => by simpa using all_range q2 j hj
    refine ⟨⟨rfl, (by rw [rwAt_fnR]; exact rfl), rfl, (by rw [rwAt_fnR]; exact rfl), trivial⟩, _, rfl, ?_⟩
    have h0 : ∀ j, j < n → InvS 0 (newT o j) := fun j hj => (new_inv (hT j hj)).1
    exact loop24 (o := newT o) (by simp [bigO] at q; omega) h4 h0 (hyes hg) m 0 (by omega) h0
  ·exact h.elim
 ·exact h.elim
end Go.Proofs
namespace Go.Pl
open Go Go.Sx
noncomputable def difN (n : Nat) (g : Nat → List Sh) (m : Nat) (h : Nat → List Sh) : Nat := (diffL n (stF n g) m (stF m h)).length
def manyB (n m : Nat) : Bool := decide (n ≤ 100000 ∧ m ≤ 100000)
noncomputable def difR (n : Nat) (g : Nat → List Sh) (m : Nat) (h : Nat → List Sh) : Nat → List Sh := fnR (nth (diffL n (stF n g) m (stF m h)))
end Go.Pl
namespace Go.Proofs
open Go.Sx.Tree
open Go Go.Sx Go.Pl
noncomputable def F27x : List Sh → Tree Sh
 | [.agg [s0], .agg [s1]] => match slN 4 s0, slN 4 s1 with
  | some (n, g), some (m, h) => .need (stB n g) (.need (stB m h) (.need (manyB n m) (.leaf (.os 3 1 (difN n g m h) (difR n g m h)))))
  | _, _ => .fail
 | _ => .fail
noncomputable def spec31 : Nat → Option (List Sh → Tree Sh)
 | 27 => some F27x
 | _ => none
theorem a31 (A : Prim) (W : Wd) (n m : Nat) (g h : Nat → List Sh) : runTo (C7 A W spec31 sAl) nH0 300 400 31 [.code []] (start0 17 [.agg [.sl 4 n g], .agg [.sl 4 m h]] L0) [] [] = node (A.eq (A.ofN n) (A.ofN m)) (need (stB n g) (need (stB m h) (need (manyB n m) (leaf (Fe2.ret (Sh.b (A.eq (A.ofN (difN n g m h)) (Int.ofNat 0)))))))) (leaf (Fe2.ret (Sh.b false))) := by kernel_rfl
end Go.Proofs
namespace Go.Proofs
open Go.Sx.Tree
open Go Go.Sx Go.Pl
theorem all_a31 (A : Prim) (W : Wd) (n m : Nat) (g h : Nat → List Sh) {ψ : Fe2 → Prop} (h1 : (A.eq (A.ofN n) (A.ofN m)) = true → (stB n g) = true) (h2 : (A.eq (A.ofN n) (A.ofN m)) = true → (stB m h) = true) (h3 : (A.eq (A.ofN n) (A.ofN m)) = true → (manyB n m) = true) (y1 : (A.eq (A.ofN n) (A.ofN m)) = true → ψ (Fe2.ret (Sh.b (A.eq (A.ofN (difN n g m h)) (Int.ofNat 0))))) (y2 : (A.eq (A.ofN n) (A.ofN m)) = false → ψ (Fe2.ret (Sh.b false))) : MeetsT ψ (runTo (C7 A W spec31 sAl) nH0 300 400 31 [.code []] (start0 17 [.agg [.sl 4 n g], .agg [.sl 4 m h]] L0) [] []) := by
 rw [a31 A W n m g h, meetsT_eq]
 exact ⟨fun q0 => ⟨(h1 q0), ⟨(h2 q0), ⟨(h3 q0), (y1 q0)⟩⟩⟩, fun q0 => (y2 q0)⟩
end Go.Proofs
namespace Go.Pl
open Go Go.Sx Go.Proofs
noncomputable def sameB (n : Nat) (g : Nat → List Sh) (m : Nat) (h : Nat → List Sh) : Bool := ((n : Int) == (m : Int)) && ((difN n g m h : Nat) == (0 : Int))
end Go.Pl
namespace Go.Proofs
open Go Go.Sx Go.Pl
theorem O27x : FnOK Tryz.prog (gls7 W7) 27 F27x := by
 intro H w shs args φ hon hg hr hφ
 refine O27 H w shs args φ hon hg hr ?_
 unfold F27x at hφ
 unfold F27
 split at hφ
 ·split at hφ
  ·rename_i e1 e2; simp only [e1, e2]; exact hφ
  ·exact hφ.elim
 ·exact hφ.elim
theorem fok31 (stop : Nat → List Nat → Bool) : FnsOK Tryz.prog (C7 prim W7 spec31 stop) := C7.fok (fun g F h => by
 unfold spec31 at h
 split at h
 ·cases h; exact O27x
 ·cases h) fun g h => by
 unfold spec31 at h
 split at h
 all_goals first | (cases h; done) | kernel_rfl
noncomputable def F31 : List Sh → Tree Sh
 | [.agg [s0], .agg [s1]] => match slN 4 s0, slN 4 s1 with
  | some (n, g), some (m, h) => .need (stB n g) (.need (stB m h) (.need (manyB n m) (.leaf (.b (sameB n g m h)))))
  | _, _ => .fail
 | _ => .fail
theorem O31 : FnOK Tryz.prog (gls7 W7) 31 F31 := by
 refine fnOK_Su (C := C7 prim W7 spec31 sAl) (C7.ok _ _) (fn := Tryz.f31) (by kernel_rfl) (by kernel_rfl) fun H w shs args φ hrep h => ?_
 have hn : Tryz.f31.ntmps = 17 := by kernel_rfl
 unfold F31 at h
 split at h
 ·split at h
  ·rename_i n g m h' e1 e2
   obtain ⟨h1, h2, h3, hφ⟩ := h
   match args, hrep with
   | [v1, v2], ⟨r1, r2, _⟩ =>
    refine ⟨[.agg [.sl 4 n g], .agg [.sl 4 m h']], ⟨rep_agg1 r1 fun u hu => rep_slN e1 hu, rep_agg1 r2 fun u hu => rep_slN e2 hu, trivial⟩, L0, ?_⟩
    refine gSt (C7.ok _ _) (fok31 _) (hold := nH0) (m := 300) (n := 400) (ts := []) ?_
    rw [hn]
    have key : ∀ b : Bool, b = sameB n g m h' → up φ (.b b) := fun b e => up_mk (s' := .b (sameB n g m h')) (.inl (by rw [e])) hφ
    refine all_a31 prim W7 n m g h' (fun _ => h1) (fun _ => h2) (fun _ => h3) (fun q => key _ ?_) (fun q => key _ ?_)
    ·have q : ((n : Int) == (m : Int)) = true := q
     unfold sameB
     rw [q]; rfl
    ·have q : ((n : Int) == (m : Int)) = false := q
     unfold sameB
     rw [q]; rfl
  ·exact h.elim
 ·exact h.elim
end Go.Proofs
namespace Go.Pl
open Go Go.Sx
def obG : Nat → List Sh := nthL [[.i .i64 1, .i .i64 5], [.i .i64 3, .i .i64 0]]
structure Lx7 where
 X : Nat → List Sh
 Y : Nat → List Sh
 K : (Nat → List Sh) → List UInt8
 ok : (Nat → List Sh) → Bool
end Go.Pl
namespace Go.Proofs
open Go.Sx.Tree
open Go Go.Sx Go.Pl
def F25v (L : Lx7) : List Sh → Tree Sh
 | [.sl 2 2 g] => .must [.get 2 g obG] (.leaf (.tup [.agg [.sl 4 2 L.X], .v .nilIface]))
 | _ => .fail
def F29v (L : Lx7) : List Sh → Tree Sh
 | [.agg [.sl 4 2 g], t, u, v, w] => match icode t, icode u, icode v, icode w with
  | some 1, some 5, some 0, some 3 => .must [.fun_ g L.X] (.leaf (.tup [.agg [.sl 4 2 L.Y], .i .i64 1, .i .i64 0, .v .nilIface]))
  | some 2, some 1, some 0, some 0 => .must [.fun_ g L.X] (.leaf (.tup [.agg [.sl 4 0 noT], .i .i64 0, .i .i64 0, .er 0 242]))
  | _, _, _, _ => .fail
 | _ => .fail
def F32v (L : Lx7) : List Sh → Tree Sh
 | [.agg [.sl 4 2 g]] => .need (L.ok g) (.leaf (.str (L.K g)))
 | _ => .fail
def spec12 (L : Lx7) : Nat → Option (List Sh → Tree Sh)
 | 14 => some F14
 | 15 => some F15
 | 16 => some F16
 | 18 => some F18
 | 19 => some F19
 | 25 => some (F25v L)
 | 29 => some (F29v L)
 | 32 => some (F32v L)
 | _ => none
theorem a12 (A : Prim) (W : Wd) (L : Lx7) : runTo (C7 A W (spec12 L) sAl) nH0 300 400 12 [.code []] (start0 81 [] L0) [] [] = must [Eqn.get 2 (nthL [[Sh.i .i64 (Int.ofNat 1), Sh.i .i64 (Int.ofNat 5)], [Sh.i .i64 (Int.ofNat 3), Sh.i .i64 (Int.ofNat 0)]]) obG] (must [Eqn.fun_ L.X L.X] (must [Eqn.fun_ L.X L.X] (need (roomB 2 8) (need (okB Int 2 (nthL [[Sh.i .i64 (Int.ofNat 1)], [Sh.i .i64 (Int.ofNat 2)]])) (need (roomB 2 8) (need (roomB 2 8) (need (roomB 1 8) (need (roomB 2 8) (need (roomB 2 8) (need (okB Int 2 (updG 2 (nthL [[Sh.i .i64 (Int.ofNat 1)], [Sh.i .i64 (Int.ofNat 2)]]) (Int.ofNat 1) [Sh.i .i64 (Int.ofNat 7)])) (need (okB Int 2 (nthL [[Sh.i .i64 (Int.ofNat 1)], [Sh.i .i64 (Int.ofNat 7)]])) (need (okB Int 2 (snocG 1 (nthL [[Sh.i .i64 (Int.ofNat 1)]]) [Sh.i .i64 (Int.ofNat 2)])) (need (okB Int 2 (nthL [[Sh.i .i64 (Int.ofNat 1)], [Sh.i .i64 (Int.ofNat 2)]])) (node (A.eq (Int.ofNat 1) (Int.ofNat 1)) (need (L.ok L.Y) (node (A.seq (L.K L.Y) [114, 101, 103, 105, 115, 116, 101, 114, 32, 53, 59, 32, 113, 117, 101, 117, 101, 32, 51]) (need (L.ok L.X) (node (A.seq (L.K L.X) [114, 101, 103, 105, 115, 116, 101, 114, 32, 53, 59, 32, 113, 117, 101, 117, 101]) (node (sameL (lst Int 2 (updG 2 (nthL [[Sh.i .i64 (Int.ofNat 1)], [Sh.i .i64 (Int.ofNat 2)]]) (Int.ofNat 1) [Sh.i .i64 (Int.ofNat 7)])) (lst Int 2 (nthL [[Sh.i .i64 (Int.ofNat 1)], [Sh.i .i64 (Int.ofNat 7)]]))) (leaf (Fe2.ret (Sh.b (sameL (lst Int 2 (snocG 1 (nthL [[Sh.i .i64 (Int.ofNat 1)]]) [Sh.i .i64 (Int.ofNat 2)])) (lst Int 2 (nthL [[Sh.i .i64 (Int.ofNat 1)], [Sh.i .i64 (Int.ofNat 2)]])))))) (leaf (Fe2.ret (Sh.b false)))) (leaf (Fe2.ret (Sh.b false))))) (leaf (Fe2.ret (Sh.b false))))) (leaf (Fe2.ret (Sh.b false))))))))))))))))) := by kernel_rfl
end Go.Proofs
namespace Go.Sx
theorem FnOK.up {P : Program} {gls : List (Nat × Sh)} {f : Nat} {F F' : List Sh → Tree Sh} (h : FnOK P gls f F) (hF : ∀ (H : Mem) (shs : List Sh) (args : List Value) (φ : Sh → Prop), RepL H shs args → (F' shs).All φ → (F shs).All (Go.Sx.up φ)) : FnOK P gls f F' :=
 fun H w shs args φ on hg hr hφ => (h H w shs args _ on hg hr (hF H shs args φ hr hφ)).mono fun e w' ⟨v, s, H', he, ⟨s', hw, hs⟩, r⟩ => let ⟨H2, r2⟩ := r.wk hw; ⟨v, s', H2, he, hs, r2⟩
end Go.Sx
namespace Go.Pl
open Go Go.Sx Go.Proofs
def d0 : Nat → Sta := newT (rwAt obG)
def d1 (j : Nat) : Sta := if j = 1 then ⟨3, 0, [3], []⟩ else d0 j
noncomputable def LX : Lx7 where
 X := fnT d0
 Y := updG 2 (fnT d0) 1 (staS ⟨3, 0, [3], []⟩)
 K g := keyT ((List.range 2).map (stF 2 g))
 ok g := stB 2 g && keysB 2 (stF 2 g)
theorem y_eq : ∀ j, j < 2 → updG 2 (fnT d0) 1 (staS ⟨3, 0, [3], []⟩) j = staS (d1 j) := fun j hj => by
 have : j = 0 ∨ j = 1 := by omega
 rcases this with rfl | rfl
 ·simp [updG, inI, d1, fnT]
 ·simp [updG, inI, d1]
theorem stX : ∀ j, j < 2 → stF 2 (fnT d0) j = d0 j := stF_fnT
theorem stY : ∀ j, j < 2 → stF 2 (updG 2 (fnT d0) 1 (staS ⟨3, 0, [3], []⟩)) j = d1 j := stF_of y_eq
theorem range2 {α : Type} (f g : Nat → α) (h : ∀ j, j < 2 → f j = g j) : (List.range 2).map f = [g 0, g 1] := by
 rw [show List.range 2 = [0, 1] from rfl]
 simp only [List.map_cons, List.map_nil]
 rw [h 0 (by decide), h 1 (by decide)]
theorem itoa_one {n : Nat} (h : n < 10) : itoaS (n : Int) = [UInt8.ofNat (48 + n)] := by
 unfold itoaS Go.Lib.itoa
 rw [if_neg (by omega)]
 have : ((n : Int)).toNat = n := by simp
 rw [this, Go.Lib.decDigits_one h]
theorem key0 : keyT [d0 0, d0 1] = [114, 101, 103, 105, 115, 116, 101, 114, 32, 53, 59, 32, 113, 117, 101, 117, 101] := by
 have h5 : itoaS 5 = [53] := itoa_one (n := 5) (by decide)
 have e0 : d0 0 = ⟨1, 5, [], []⟩ := rfl
 have e1 : d0 1 = ⟨3, 0, [], []⟩ := rfl
 rw [e0, e1]
 have k0 : keyS ⟨1, 5, [], []⟩ = [114, 101, 103, 105, 115, 116, 101, 114, 32, 53] := by
  show joinS [wordO 1, itoaS 5] [32] = _
  rw [h5]; rfl
 have k1 : keyS ⟨3, 0, [], []⟩ = [113, 117, 101, 117, 101] := rfl
 show joinS [keyS ⟨1, 5, [], []⟩, keyS ⟨3, 0, [], []⟩] [59, 32] = _
 rw [k0, k1]; rfl
theorem key1 : keyT [d1 0, d1 1] = [114, 101, 103, 105, 115, 116, 101, 114, 32, 53, 59, 32, 113, 117, 101, 117, 101, 32, 51] := by
 have h5 : itoaS 5 = [53] := itoa_one (n := 5) (by decide)
 have h3 : itoaS 3 = [51] := itoa_one (n := 3) (by decide)
 have e0 : d1 0 = ⟨1, 5, [], []⟩ := rfl
 have e1 : d1 1 = ⟨3, 0, [3], []⟩ := rfl
 rw [e0, e1]
 have k0 : keyS ⟨1, 5, [], []⟩ = [114, 101, 103, 105, 115, 116, 101, 114, 32, 53] := by
  show joinS [wordO 1, itoaS 5] [32] = _
  rw [h5]; rfl
 have k1 : keyS ⟨3, 0, [3], []⟩ = [113, 117, 101, 117, 101, 32, 51] := by
  show joinS [wordO 3, itoaS 3] [32] = _
  rw [h3]; rfl
 show joinS [keyS ⟨1, 5, [], []⟩, keyS ⟨3, 0, [3], []⟩] [59, 32] = _
 rw [k0, k1]; rfl
theorem all2 {p : Nat → Bool} (h0 : p 0 = true) (h1 : p 1 = true) : (List.range 2).all p = true := by
 rw [show List.range 2 = [0, 1] from rfl]
 simp [h0, h1]
theorem keys2 {d : Nat → Sta} (h0 : okT (d 0) = true) (h1 : okT (d 1) = true) : keysB 2 d = true := by
 unfold keysB
 rw [all2 h0 h1]; rfl
end Go.Pl
namespace Go.Proofs
open Go Go.Sx Go.Pl
theorem O25v : FnOK Tryz.prog (gls7 W7) 25 (F25v LX) := O25.up fun H shs args φ hr h => by
 unfold F25v at h
 split at h
 ·rename_i g
  obtain ⟨⟨hg, _⟩, hφ⟩ := h
  have hg : ∀ i, i < 2 → g i = obG i := hg
  have hr : ∀ j, j < 2 → rwAt (α := Oj) g j = rwAt obG j := fun j hj => by unfold rwAt; rw [hg j hj]
  have e0 : rwAt (α := Oj) obG 0 = ⟨1, 5⟩ := rfl
  have e1 : rwAt (α := Oj) obG 1 = ⟨3, 0⟩ := rfl
  have hs : slN 2 (.sl 2 2 g) = some (2, g) := rfl
  simp only [F25, hs]
  refine ⟨okB_of (o := rwAt obG) fun i hi => ?_, all2 ?_ ?_, fun e => (by cases e), fun _ => ⟨fun _ => up_mk (s' := .tup [.agg [.sl 4 2 (fnT d0)], .v .nilIface]) ⟨⟨.inr ⟨rfl, rfl, fun j hj => ?_⟩, trivial⟩, rfl, trivial⟩ hφ, fun e => ?_⟩⟩
  ·rw [hg i hi]
   have : i = 0 ∨ i = 1 := by omega
   rcases this with rfl | rfl <;> rfl
  ·rw [hr 0 (by decide), e0]; rfl
  ·rw [hr 1 (by decide), e1]; rfl
  ·show staS (newT (rwAt g) j) = staS (newT (rwAt obG) j)
   unfold newT
   rw [hr j hj]
  ·have : allOb 2 (rwAt g) = true := all2 (by rw [hr 0 (by decide), e0]; rfl) (by rw [hr 1 (by decide), e1]; rfl)
   rw [this] at e; cases e
 ·exact h.elim
theorem O29v : FnOK Tryz.prog (gls7 W7) 29 (F29v LX) := O29.up fun H shs args φ hr h => by
 unfold F29v at h
 split at h
 ·rename_i g t u v w
  have hs : slN 4 (.sl 4 2 g) = some (2, g) := rfl
  split at h
  ·rename_i ht hu hv hw
   obtain ⟨⟨hg, _⟩, hφ⟩ := h
   have hg : g = fnT d0 := hg
   subst hg
   have e1 : stF 2 (fnT d0) (1 : Int).toNat = ⟨3, 0, [], []⟩ := stX 1 (by decide)
   simp only [F29, hs, ht, hu, hv, hw]
   rw [e1]
   exact ⟨stB_fnT _ _, rfl, fun _ => ⟨rfl, fun e => (by cases e), fun _ => ⟨fun e => (by cases e), fun _ => ⟨rfl, up_mk (s' := .tup [.agg [.sl 4 2 LX.Y], .i .i64 1, .i .i64 0, .v .nilIface]) ⟨⟨.inr ⟨rfl, rfl, fun _ _ => rfl⟩, trivial⟩, rfl, rfl, rfl, trivial⟩ hφ⟩⟩⟩, fun e => (by cases e)⟩
  ·rename_i ht hu hv hw
   obtain ⟨⟨hg, _⟩, hφ⟩ := h
   have hg : g = fnT d0 := hg
   subst hg
   simp only [F29, hs, ht, hu, hv, hw]
   exact ⟨stB_fnT _ _, rfl, fun e => (by cases e), fun _ => up_mk (s' := .tup [.agg [.sl 4 0 noT], .i .i64 0, .i .i64 0, .er 0 242]) ⟨⟨.inl ⟨rfl, rfl⟩, trivial⟩, rfl, rfl, rfl, trivial⟩ hφ⟩
  ·exact h.elim
 ·exact h.elim
theorem O32v : FnOK Tryz.prog (gls7 W7) 32 (F32v LX) := O32.mono fun H shs args φ hr h => by
 unfold F32v at h
 split at h
 ·rename_i g
  obtain ⟨h1, hφ⟩ := h
  have h1 : (stB 2 g && keysB 2 (stF 2 g)) = true := h1
  simp only [Bool.and_eq_true] at h1
  have hs : slN 4 (.sl 4 2 g) = some (2, g) := rfl
  simp only [F32, hs]
  exact ⟨h1.1, h1.2, hφ⟩
 ·exact h.elim
theorem O12s : ∀ g F, spec12 LX g = some F → FnOK Tryz.prog (gls7 W7) g F := fun g F h => by
 unfold spec12 at h
 split at h
 ·cases h; exact O14
 ·cases h; exact O15
 ·cases h; exact O16
 ·cases h; exact O18
 ·cases h; exact O19
 ·cases h; exact O25v
 ·cases h; exact O29v
 ·cases h; exact O32v
 ·cases h
theorem fok12 (stop : Nat → List Nat → Bool) : FnsOK Tryz.prog (C7 prim W7 (spec12 LX) stop) := C7.fok O12s fun g h => by
 unfold spec12 at h
 split at h
 all_goals first | (cases h; done) | kernel_rfl
def F12 : List Sh → Tree Sh
 | [] => .leaf (.v (.bool true))
 | _ => .fail
theorem O12 : FnOK Tryz.prog (gls7 W7) 12 F12 := by
 refine fnOK_Ru (C := C7 prim W7 (spec12 LX) sAl) (C7.ok _ _) (fok12 _) (m := 300) (n := 400) (L := L0) (fn := Tryz.f12) (by kernel_rfl) (by kernel_rfl) fun H w shs args φ hrep h => ?_
 have hn : Tryz.f12.ntmps = 81 := by kernel_rfl
 unfold F12 at h
 split at h
 ·refine ⟨[], hrep, ?_⟩
  rw [hn, a12 prim W7 LX]
  have kx : LX.K LX.X = [114, 101, 103, 105, 115, 116, 101, 114, 32, 53, 59, 32, 113, 117, 101, 117, 101] := by
   show keyT ((List.range 2).map (stF 2 (fnT d0))) = _
   rw [range2 _ d0 stX, key0]
  have ky : LX.K LX.Y = [114, 101, 103, 105, 115, 116, 101, 114, 32, 53, 59, 32, 113, 117, 101, 117, 101, 32, 51] := by
   show keyT ((List.range 2).map (stF 2 (updG 2 (fnT d0) 1 (staS ⟨3, 0, [3], []⟩)))) = _
   rw [range2 _ d1 stY, key1]
  have ox : LX.ok LX.X = true := by
   show (stB 2 (fnT d0) && keysB 2 (stF 2 (fnT d0))) = true
   rw [stB_fnT, keys2 (by rw [stX 0 (by decide)]; rfl) (by rw [stX 1 (by decide)]; rfl)]; rfl
  have oy : LX.ok LX.Y = true := by
   show (stB 2 (updG 2 (fnT d0) 1 (staS ⟨3, 0, [3], []⟩)) && keysB 2 (stF 2 (updG 2 (fnT d0) 1 (staS ⟨3, 0, [3], []⟩)))) = true
   rw [stB_of y_eq, keys2 (by rw [stY 0 (by decide)]; rfl) (by rw [stY 1 (by decide)]; rfl)]; rfl
  rw [kx, ky, ox, oy]
  have fin : up φ (.b true) := up_mk (s' := .v (.bool true)) (.inr rfl) h
  refine ⟨⟨fun _ _ => rfl, trivial⟩, ⟨rfl, trivial⟩, ⟨rfl, trivial⟩, rfl, rfl, rfl, rfl, rfl, rfl, rfl, rfl, rfl, rfl, rfl, fun _ => ⟨rfl, fun _ => ⟨rfl, fun _ => ⟨fun _ => fin, fun e => (by cases e)⟩, fun e => (by cases e)⟩, fun e => (by cases e)⟩, fun e => (by cases e)⟩
 ·exact h.elim
end Go.Proofs
namespace Go.Pl
open Go Go.Sx
def noO (n : Nat) (o : Nat → Oj) : Bool := !goodO n o
def in24 (n : Nat) (g : Nat → List Sh) (m : Nat) (h : Nat → List Sh) : Bool := okB Oj n g && kindsB n (rwAt g) && okB Cl m h && fewB m
def behU (n : Nat) (d : Nat → Sta) (c : Nat → Cl) (m : Nat) : Nat → Rf := fun j => toR (behT n d c m j)
end Go.Pl
namespace Go.Proofs
open Go Go.Sx Go.Pl
noncomputable def F24g : List Sh → Tree Sh
 | [s0, s1] => match slN 2 s0, slN 4 s1 with
  | some (n, g), some (m, h) => .need (in24 n g m h) (.need (goodO n (rwAt g)) (.leaf (.tup [.agg [.sl 4 n (fnT (behT n (newT (rwAt g)) (rwAt h) m))], .sl 4 n (fnU (behU n (newT (rwAt g)) (rwAt h) m)), .v (.bool true)])))
  | _, _ => .fail
 | _ => .fail
noncomputable def F24n : List Sh → Tree Sh
 | [s0, s1] => match slN 2 s0, slN 4 s1 with
  | some (n, g), some (m, h) => .need (in24 n g m h) (.need (noO n (rwAt g)) (.leaf (.tup [.agg [.sl 4 0 noT], .sl 4 0 noT, .v (.bool false)])))
  | _, _ => .fail
 | _ => .fail
end Go.Proofs
namespace Go.Proofs
open Go Go.Sx Go.Pl
end Go.Proofs
namespace Go.Pl
open Go Go.Sx Go.Proofs
open Go.Lib (decDigits itoa)
end Go.Pl
namespace Go.Pl
open Go Go.Sx Go.Proofs
section
variable {n m : Nat} {o d e : Nat → Sta} {c : Nat → Cl}
theorem behT_inv (h0 : ∀ j, j < n → InvS 0 (o j)) : ∀ m j, j < n → InvS m (behT n o c m j)
 | 0, j, hj => h0 j hj
 | m + 1, j, hj => by
  have ih := behT_inv h0 m
  unfold behT
  split
  ·rename_i hok
   exact (nxtU_eq (fun j hj => ih j hj) hok).2 j hj
  ·have := ih j hj
   exact { this with ql := Nat.le_succ_of_le this.ql, pl := Nat.le_succ_of_le this.pl }
theorem new_all {o : Nat → Oj} (hg : goodO n o = true) : n ≤ 8 ∧ ∀ j, j < n → InvS 0 (newT o j) := by
 unfold goodO bigO at hg
 rw [Bool.and_eq_true] at hg
 obtain ⟨h1, h2⟩ := hg
 refine ⟨?_, fun j hj => (new_inv ?_).1⟩
 ·simp at h1; omega
 ·simpa using all_range h2 j hj
theorem atT_in {i : Nat} (h : i < n) : atT n d i = d i := by
 unfold atT
 have : inI n i = true := by simp [inI, h]
 rw [this]; rfl
end
end Go.Pl
namespace Go.Proofs
open Go Go.Sx Go.Pl
theorem fnOK_wk {P : Program} {gls : List (Nat × Sh)} {g : Nat} {F G : List Sh → Tree Sh} (hF : FnOK P gls g F) (h : ∀ (shs : List Sh) (φ : Sh → Prop), (G shs).All φ → ∃ s' : Sh, φ s' ∧ (F shs).All fun s => Wk s s') : FnOK P gls g G := by
 intro H w shs args φ hon hg hr hφ
 obtain ⟨s', h1, h2⟩ := h shs φ hφ
 refine (hF H w shs args _ hon hg hr h2).mono fun e w' ⟨v, s, H', he, hs, r⟩ => ?_
 obtain ⟨H2, r2⟩ := r.wk hs
 exact ⟨v, s', H2, he, h1, r2⟩
theorem in24_of {n m : Nat} {g h : Nat → List Sh} (q : in24 n g m h = true) : okB Oj n g = true ∧ kindsB n (rwAt g) = true ∧ okB Cl m h = true ∧ fewB m = true := by
 unfold in24 at q
 simp only [Bool.and_eq_true] at q
 exact ⟨q.1.1.1, q.1.1.2, q.1.2, q.2⟩
theorem wk_sl {st n : Nat} {g : Nat → List Sh} : Wk (.sl st n g) (.sl st n g) := .inr ⟨rfl, rfl, fun _ _ => rfl⟩
theorem O24g : FnOK Tryz.prog (gls7 W7) 24 F24g := fnOK_wk O24 fun shs φ h => by
 unfold F24g at h
 split at h
 ·split at h
  ·rename_i e1 e2
   obtain ⟨h1, h2, hφ⟩ := h
   obtain ⟨q1, q2, q3, q4⟩ := in24_of h1
   refine ⟨_, hφ, ?_⟩
   unfold F24
   simp only [e1, e2]
   exact ⟨q1, q2, q3, q4, fun _ => ⟨⟨wk_sl, trivial⟩, wk_sl, .inr rfl, trivial⟩, fun q => by rw [h2] at q; cases q⟩
  ·exact h.elim
 ·exact h.elim
theorem O24n : FnOK Tryz.prog (gls7 W7) 24 F24n := fnOK_wk O24 fun shs φ h => by
 unfold F24n at h
 split at h
 ·split at h
  ·rename_i e1 e2
   obtain ⟨h1, h2, hφ⟩ := h
   obtain ⟨q1, q2, q3, q4⟩ := in24_of h1
   refine ⟨_, hφ, ?_⟩
   unfold F24
   simp only [e1, e2]
   refine ⟨q1, q2, q3, q4, fun q => ?_, fun _ => ⟨⟨wk_sl, trivial⟩, wk_sl, .inr rfl, trivial⟩⟩
   unfold noO at h2
   rw [q] at h2; cases h2
  ·exact h.elim
 ·exact h.elim
end Go.Proofs
namespace Go.Pl
open Go Go.Sx
def nodU (n : Nat) (f : Nat → Rf) (m : Nat) (e : Nat → Rf) : Bool := decide (difU n f m e = 0)
noncomputable def zrB (l : List Sh) : Bool := @decide (l = [.i .i64 0, .i .i64 0, .sl 0 0 fun _ => [], .sl 0 0 fun _ => []]) (Classical.propDecidable _)
def inT (n : Nat) (i : Int) (b : Bool) : Bool := inI n i == b
end Go.Pl
namespace Go.Proofs
open Go.Sx.Tree
open Go Go.Sx Go.Pl
noncomputable def F24d : List Sh → Tree Sh
 | [s0, s1] => match slN 2 s0, slN 4 s1 with
  | some (n, g), some (m, h) => .need (in24 n g m h) (.node (goodO n (rwAt g)) (.leaf (.tup [.agg [.sl 4 n (fnT (behT n (newT (rwAt g)) (rwAt h) m))], .sl 4 n (fnU (behU n (newT (rwAt g)) (rwAt h) m)), .v (.bool true)])) (.leaf (.tup [.agg [.sl 4 0 noT], .sl 4 0 noT, .v (.bool false)])))
  | _, _ => .fail
 | _ => .fail
noncomputable def F33t : List Sh → Tree Sh
 | [.agg [s0], t] => match slN 4 s0, icode t with
  | some (n, g), some i => .need (stB n g) (.need (inT n i true) (.leaf (.tup [.agg (staS (atT n (stF n g) i)), .v (.bool true)])))
  | _, _ => .fail
 | _ => .fail
noncomputable def F33f : List Sh → Tree Sh
 | [.agg [s0], t] => match slN 4 s0, icode t with
  | some (n, g), some i => .need (stB n g) (.need (inT n i false) (.leaf (.tup [.agg [.i .i64 0, .i .i64 0, .sl 1 0 noI, .sl 2 0 noI], .v (.bool false)])))
  | _, _ => .fail
 | _ => .fail
noncomputable def F39 : List Sh → Tree Sh
 | [s0, s1] => match slN 4 s0, slN 4 s1 with
  | some (n, g), some (m, h) => .need (rfB n g) (.need (rfB m h) (.need (manyU n m) (.leaf (.b (nodU n (rfF n g) m (rfF m h))))))
  | _, _ => .fail
 | _ => .fail
noncomputable def F36z : List Sh → Tree Sh
 | [.agg [x, y, s2, s3]] => .need (zrB [x, y, s2, s3]) (.leaf (.str []))
 | _ => .fail
noncomputable def G18w : List Sh → Tree Sh
 | [.sl 1 n g, .sl 1 m h] => .need (okB Int n g) (.need (okB Int m h) (.need (eqI n g m h) (.leaf (.v (.bool true)))))
 | _ => .fail
noncomputable def spec7 (L : Lk7) (b : Bool) : Nat → Option (List Sh → Tree Sh)
 | 12 => some F12
 | 18 => some G18w
 | 24 => some F24d
 | 27 => some F27x
 | 28 => some F28
 | 31 => some F31
 | 33 => some (bif b then F33t else F33f)
 | 35 => some (G35 L)
 | 36 => some (bif b then F36c else F36z)
 | 39 => some F39
 | 64 => some F64
 | _ => none
def pR7 : List Nat := [0, 1, 0, 1, 0, 0, 1, 0, 0, 1, 0, 1, 1, 1, 1, 1, 1, 1, 1, 1, 1, 1, 1, 1]
def td7 : List It := [It.code [0, 1, 0, 1, 1, 1, 1, 1, 1, 1, 1, 1, 1, 1, 1, 1], It.inBlock 0, It.code [1, 1, 1, 1, 1, 1, 1, 1, 1, 1, 1, 1, 1, 1]]
def tb7 : List It := It.code [0, 0, 1, 0, 1, 1, 1, 1, 1, 1, 1, 1, 1, 1, 1, 1, 1] :: td7
def k7 : List It := [It.inBlock 2, It.code [1, 1, 0, 0, 1, 0, 0, 1, 0, 1, 1, 1, 1, 1, 1, 1, 1, 1, 1, 1, 1, 1], It.inBlock 1, It.code [1, 1, 0, 0, 1, 0, 1, 1, 1, 1, 1, 1, 1, 1, 1, 1, 1, 1, 1], It.code [0, 1, 0, 1, 1, 1, 1, 1, 1, 1, 1, 1, 1, 1, 1, 1], It.inBlock 0, It.code [1, 1, 1, 1, 1, 1, 1, 1, 1, 1, 1, 1, 1, 1]]
def tm7 (n' : Nat) (v : Nat → Rf) : List (Nat × SV) := [(9, .ptr 0 0), (10, .ptr 1 0), (12, .ptr 2 0), (13, .ptr 3 0), (15, .ptr 4 0), (16, .sh (.sl 4 n' (fnU v))), (22, .fn 63 [.ptr 5 0]), (23, .ptr 6 0)]
def hp7 (n n' : Nat) (d d' : Nat → Sta) (u : Nat → Rf) (stop i : Int) : List (Nat × SB) := [(0, .box [.sym .i64 stop] 3), (1, .box [.bool false] 4), (2, .box [.sh (.sl 4 n (fnT d))] 47), (3, .box [.sh (.sl 4 n (fnU u))] 48), (4, .box [.sh (.sl 4 n' (fnT d'))] 47), (5, .box [.sh (.sl 4 n (fnT d))] 47), (6, .box [.sym .i64 i] 3)]
def L7r (n n' : Nat) (d d' : Nat → Sta) (u v : Nat → Rf) (stop i : Int) : Core := { tm := tmOf 175 (tm7 n' v), hp := hp7 n n' d d' u stop i, nx := 7, lim := L0, tc := [] }
def tmT7 (n' : Nat) (v : Nat → Rf) : List SV := tmOf 175 (tm7 n' v ++ [(24, .ptr 7 0), (112, .fn 63 [.ptr 5 0])])
def L7t (n n' : Nat) (d d' : Nat → Sta) (u v : Nat → Rf) (stop i : Int) : Core := { tm := tmT7 n' v, hp := hp7 n n' d d' u stop i ++ [(7, .box [.sym .i64 0] 3)], nx := 8, lim := L0, tc := [] }
def s7 (n' : Nat) (v : Nat → Rf) (l : Nat) : List Fw := [⟨7, none, k7, tmT7 n' v, some (l, pR7, .ready)⟩]
def L7i (n n' : Nat) (d d' : Nat → Sta) (u v : Nat → Rf) (stop i : Int) (l : Nat) (k j : Int) : Core :=
 { tm := tmOf 20 [(0, .val (yv l)), (7, .sh (.sl 4 n (fnT d))), (8, .sym .i64 (n : Int)), (9, .sym .i64 k)], hp := hp7 n n' d d' u stop i ++ [(7, .box [.sym .i64 j] 3)], nx := 8, lim := L0, tc := [] }
theorem a7t (A : Prim) (W : Wd) (L : Lk7) (n n1 : Nat) (o o1 : Nat → Oj) (m : Nat) (c : Nat → Cl) (i0 : Int) (d d1 : Nat → Sta) (u v : Nat → Rf) (stop i : Int) : runX (C7 A W (spec7 L true) sAl) noPause 300 800 7 none [.code []] (start0 175 [.sl 2 n (fnR o), .sl 2 n1 (fnR o1), .sl 4 m (fnR c), .i .i64 i0, .i .i64 stop] L0) [] [⟨7, none, td7, L7r n n1 d d1 u v stop i, []⟩] = node (A.lt (Int.ofNat 100) (A.ofN n)) (leaf (Fe2.ret (Sh.b true))) (node (A.lt (Int.ofNat 100) (A.ofN n1)) (leaf (Fe2.ret (Sh.b true))) (node (A.lt (Int.ofNat 200) (A.ofN m)) (leaf (Fe2.ret (Sh.b true))) (need (in24 n (fnR o) m (fnR c)) (node (goodO n (rwAt (fnR o))) (need (in24 n1 (fnR o1) m (fnR c)) (node (goodO n1 (rwAt (fnR o1))) (need (stB n (fnT (behT n (newT (rwAt (fnR o))) (rwAt (fnR c)) m))) (need (inT n i0 true) (node (A.le (Int.ofNat 0) i0) (node (A.lt i0 (A.ofN n)) (need (A.inB i0 n) (node (A.nt (A.beq true (A.lt i0 (A.ofN n)))) (leaf (Fe2.ret (Sh.b false))) (need (keyB (atT n (stF n (fnT (behT n (newT (rwAt (fnR o))) (rwAt (fnR c)) m))) i0).kind (atT n (stF n (fnT (behT n (newT (rwAt (fnR o))) (rwAt (fnR c)) m))) i0).num (len (atT n (stF n (fnT (behT n (newT (rwAt (fnR o))) (rwAt (fnR c)) m))) i0).q) (fnR (nth (atT n (stF n (fnT (behT n (newT (rwAt (fnR o))) (rwAt (fnR c)) m))) i0).q)) (len (atT n (stF n (fnT (behT n (newT (rwAt (fnR o))) (rwAt (fnR c)) m))) i0).ps) (fnR (nth (atT n (stF n (fnT (behT n (newT (rwAt (fnR o))) (rwAt (fnR c)) m))) i0).ps))) (need (rowB [Sh.i .i64 (behU n (newT (rwAt (fnR o))) (rwAt (fnR c)) m (A.toN i0)).kind, Sh.i .i64 (behU n (newT (rwAt (fnR o))) (rwAt (fnR c)) m (A.toN i0)).num, Sh.sl 1 (len (behU n (newT (rwAt (fnR o))) (rwAt (fnR c)) m (A.toN i0)).keys) (fnR (nth (behU n (newT (rwAt (fnR o))) (rwAt (fnR c)) m (A.toN i0)).keys)), Sh.sl 1 (len (behU n (newT (rwAt (fnR o))) (rwAt (fnR c)) m (A.toN i0)).vals) (fnR (nth (behU n (newT (rwAt (fnR o))) (rwAt (fnR c)) m (A.toN i0)).vals))]) (need (okU (rowF [Sh.i .i64 (behU n (newT (rwAt (fnR o))) (rwAt (fnR c)) m (A.toN i0)).kind, Sh.i .i64 (behU n (newT (rwAt (fnR o))) (rwAt (fnR c)) m (A.toN i0)).num, Sh.sl 1 (len (behU n (newT (rwAt (fnR o))) (rwAt (fnR c)) m (A.toN i0)).keys) (fnR (nth (behU n (newT (rwAt (fnR o))) (rwAt (fnR c)) m (A.toN i0)).keys)), Sh.sl 1 (len (behU n (newT (rwAt (fnR o))) (rwAt (fnR c)) m (A.toN i0)).vals) (fnR (nth (behU n (newT (rwAt (fnR o))) (rwAt (fnR c)) m (A.toN i0)).vals))])) (node (A.nt (A.seq (L.key (sQ (atT n (stF n (fnT (behT n (newT (rwAt (fnR o))) (rwAt (fnR c)) m))) i0).kind (atT n (stF n (fnT (behT n (newT (rwAt (fnR o))) (rwAt (fnR c)) m))) i0).num (len (atT n (stF n (fnT (behT n (newT (rwAt (fnR o))) (rwAt (fnR c)) m))) i0).q) (fnR (nth (atT n (stF n (fnT (behT n (newT (rwAt (fnR o))) (rwAt (fnR c)) m))) i0).q)) (len (atT n (stF n (fnT (behT n (newT (rwAt (fnR o))) (rwAt (fnR c)) m))) i0).ps) (fnR (nth (atT n (stF n (fnT (behT n (newT (rwAt (fnR o))) (rwAt (fnR c)) m))) i0).ps)))) (keyU (rowF [Sh.i .i64 (behU n (newT (rwAt (fnR o))) (rwAt (fnR c)) m (A.toN i0)).kind, Sh.i .i64 (behU n (newT (rwAt (fnR o))) (rwAt (fnR c)) m (A.toN i0)).num, Sh.sl 1 (len (behU n (newT (rwAt (fnR o))) (rwAt (fnR c)) m (A.toN i0)).keys) (fnR (nth (behU n (newT (rwAt (fnR o))) (rwAt (fnR c)) m (A.toN i0)).keys)), Sh.sl 1 (len (behU n (newT (rwAt (fnR o))) (rwAt (fnR c)) m (A.toN i0)).vals) (fnR (nth (behU n (newT (rwAt (fnR o))) (rwAt (fnR c)) m (A.toN i0)).vals))])))) (leaf (Fe2.ret (Sh.b false))) (node (A.nt (A.eq (atT n (stF n (fnT (behT n (newT (rwAt (fnR o))) (rwAt (fnR c)) m))) i0).kind (behU n (newT (rwAt (fnR o))) (rwAt (fnR c)) m (A.toN i0)).kind)) (leaf (Fe2.ret (Sh.b false))) (leaf (Fe2.at_ 0 [Eqn.sh (Sh.sl 4 n1 (fnU (behU n1 (newT (rwAt (fnR o1))) (rwAt (fnR c)) m))) (Sh.sl 4 n1 (fnU v)), Eqn.int stop stop, Eqn.sh (Sh.sl 4 n (fnT (behT n (newT (rwAt (fnR o))) (rwAt (fnR c)) m))) (Sh.sl 4 n (fnT d)), Eqn.sh (Sh.sl 4 n (fnU (behU n (newT (rwAt (fnR o))) (rwAt (fnR c)) m))) (Sh.sl 4 n (fnU u)), Eqn.sh (Sh.sl 4 n1 (fnT (behT n1 (newT (rwAt (fnR o1))) (rwAt (fnR c)) m))) (Sh.sl 4 n1 (fnT d1)), Eqn.sh (Sh.sl 4 n (fnT (behT n (newT (rwAt (fnR o))) (rwAt (fnR c)) m))) (Sh.sl 4 n (fnT d)), Eqn.int (Int.ofNat 0) i]))))))))) (node (A.nt (A.beq true (A.lt i0 (A.ofN n)))) (leaf (Fe2.ret (Sh.b false))) (need (keyB (atT n (stF n (fnT (behT n (newT (rwAt (fnR o))) (rwAt (fnR c)) m))) i0).kind (atT n (stF n (fnT (behT n (newT (rwAt (fnR o))) (rwAt (fnR c)) m))) i0).num (len (atT n (stF n (fnT (behT n (newT (rwAt (fnR o))) (rwAt (fnR c)) m))) i0).q) (fnR (nth (atT n (stF n (fnT (behT n (newT (rwAt (fnR o))) (rwAt (fnR c)) m))) i0).q)) (len (atT n (stF n (fnT (behT n (newT (rwAt (fnR o))) (rwAt (fnR c)) m))) i0).ps) (fnR (nth (atT n (stF n (fnT (behT n (newT (rwAt (fnR o))) (rwAt (fnR c)) m))) i0).ps))) (need (rowB [Sh.i .i64 (Int.ofNat 0), Sh.i .i64 (Int.ofNat 0), Sh.sl 0 0 fun (x : Nat) => [], Sh.sl 0 0 fun (x : Nat) => []]) (need (okU (rowF [Sh.i .i64 (Int.ofNat 0), Sh.i .i64 (Int.ofNat 0), Sh.sl 0 0 fun (x : Nat) => [], Sh.sl 0 0 fun (x : Nat) => []])) (node (A.nt (A.seq (L.key (sQ (atT n (stF n (fnT (behT n (newT (rwAt (fnR o))) (rwAt (fnR c)) m))) i0).kind (atT n (stF n (fnT (behT n (newT (rwAt (fnR o))) (rwAt (fnR c)) m))) i0).num (len (atT n (stF n (fnT (behT n (newT (rwAt (fnR o))) (rwAt (fnR c)) m))) i0).q) (fnR (nth (atT n (stF n (fnT (behT n (newT (rwAt (fnR o))) (rwAt (fnR c)) m))) i0).q)) (len (atT n (stF n (fnT (behT n (newT (rwAt (fnR o))) (rwAt (fnR c)) m))) i0).ps) (fnR (nth (atT n (stF n (fnT (behT n (newT (rwAt (fnR o))) (rwAt (fnR c)) m))) i0).ps)))) (keyU (rowF [Sh.i .i64 (Int.ofNat 0), Sh.i .i64 (Int.ofNat 0), Sh.sl 0 0 fun (x : Nat) => [], Sh.sl 0 0 fun (x : Nat) => []])))) (leaf (Fe2.ret (Sh.b false))) (node (A.nt (A.eq (atT n (stF n (fnT (behT n (newT (rwAt (fnR o))) (rwAt (fnR c)) m))) i0).kind (Int.ofNat 0))) (leaf (Fe2.ret (Sh.b false))) (leaf (Fe2.at_ 0 [Eqn.sh (Sh.sl 4 n1 (fnU (behU n1 (newT (rwAt (fnR o1))) (rwAt (fnR c)) m))) (Sh.sl 4 n1 (fnU v)), Eqn.int stop stop, Eqn.sh (Sh.sl 4 n (fnT (behT n (newT (rwAt (fnR o))) (rwAt (fnR c)) m))) (Sh.sl 4 n (fnT d)), Eqn.sh (Sh.sl 4 n (fnU (behU n (newT (rwAt (fnR o))) (rwAt (fnR c)) m))) (Sh.sl 4 n (fnU u)), Eqn.sh (Sh.sl 4 n1 (fnT (behT n1 (newT (rwAt (fnR o1))) (rwAt (fnR c)) m))) (Sh.sl 4 n1 (fnT d1)), Eqn.sh (Sh.sl 4 n (fnT (behT n (newT (rwAt (fnR o))) (rwAt (fnR c)) m))) (Sh.sl 4 n (fnT d)), Eqn.int (Int.ofNat 0) i]))))))))) (leaf (Fe2.ret (Sh.b false)))))) (leaf (Fe2.ret (Sh.b true))))) (need (in24 n1 (fnR o1) m (fnR c)) (node (goodO n1 (rwAt (fnR o1))) (leaf (Fe2.ret (Sh.b true))) (leaf (Fe2.ret (Sh.b true))))))))) := by kernel_rfl
theorem a7f (A : Prim) (W : Wd) (L : Lk7) (n n1 : Nat) (o o1 : Nat → Oj) (m : Nat) (c : Nat → Cl) (i0 : Int) (d d1 : Nat → Sta) (u v : Nat → Rf) (stop i : Int) : runX (C7 A W (spec7 L false) sAl) noPause 300 800 7 none [.code []] (start0 175 [.sl 2 n (fnR o), .sl 2 n1 (fnR o1), .sl 4 m (fnR c), .i .i64 i0, .i .i64 stop] L0) [] [⟨7, none, td7, L7r n n1 d d1 u v stop i, []⟩] = node (A.lt (Int.ofNat 100) (A.ofN n)) (leaf (Fe2.ret (Sh.b true))) (node (A.lt (Int.ofNat 100) (A.ofN n1)) (leaf (Fe2.ret (Sh.b true))) (node (A.lt (Int.ofNat 200) (A.ofN m)) (leaf (Fe2.ret (Sh.b true))) (need (in24 n (fnR o) m (fnR c)) (node (goodO n (rwAt (fnR o))) (need (in24 n1 (fnR o1) m (fnR c)) (node (goodO n1 (rwAt (fnR o1))) (need (stB n (fnT (behT n (newT (rwAt (fnR o))) (rwAt (fnR c)) m))) (need (inT n i0 false) (node (A.le (Int.ofNat 0) i0) (node (A.lt i0 (A.ofN n)) (need (A.inB i0 n) (node (A.nt (A.beq false (A.lt i0 (A.ofN n)))) (leaf (Fe2.ret (Sh.b false))) (need (keyB (Int.ofNat 0) (Int.ofNat 0) 0 noI 0 noI) (need (zrB [Sh.i .i64 (behU n (newT (rwAt (fnR o))) (rwAt (fnR c)) m (A.toN i0)).kind, Sh.i .i64 (behU n (newT (rwAt (fnR o))) (rwAt (fnR c)) m (A.toN i0)).num, Sh.sl 1 (len (behU n (newT (rwAt (fnR o))) (rwAt (fnR c)) m (A.toN i0)).keys) (fnR (nth (behU n (newT (rwAt (fnR o))) (rwAt (fnR c)) m (A.toN i0)).keys)), Sh.sl 1 (len (behU n (newT (rwAt (fnR o))) (rwAt (fnR c)) m (A.toN i0)).vals) (fnR (nth (behU n (newT (rwAt (fnR o))) (rwAt (fnR c)) m (A.toN i0)).vals))]) (node (A.nt (A.seq (L.key (sQ (Int.ofNat 0) (Int.ofNat 0) 0 noI 0 noI)) [])) (leaf (Fe2.ret (Sh.b false))) (node (A.nt (A.eq (Int.ofNat 0) (behU n (newT (rwAt (fnR o))) (rwAt (fnR c)) m (A.toN i0)).kind)) (leaf (Fe2.ret (Sh.b false))) (leaf (Fe2.at_ 0 [Eqn.sh (Sh.sl 4 n1 (fnU (behU n1 (newT (rwAt (fnR o1))) (rwAt (fnR c)) m))) (Sh.sl 4 n1 (fnU v)), Eqn.int stop stop, Eqn.sh (Sh.sl 4 n (fnT (behT n (newT (rwAt (fnR o))) (rwAt (fnR c)) m))) (Sh.sl 4 n (fnT d)), Eqn.sh (Sh.sl 4 n (fnU (behU n (newT (rwAt (fnR o))) (rwAt (fnR c)) m))) (Sh.sl 4 n (fnU u)), Eqn.sh (Sh.sl 4 n1 (fnT (behT n1 (newT (rwAt (fnR o1))) (rwAt (fnR c)) m))) (Sh.sl 4 n1 (fnT d1)), Eqn.sh (Sh.sl 4 n (fnT (behT n (newT (rwAt (fnR o))) (rwAt (fnR c)) m))) (Sh.sl 4 n (fnT d)), Eqn.int (Int.ofNat 0) i])))))))) (node (A.nt (A.beq false (A.lt i0 (A.ofN n)))) (leaf (Fe2.ret (Sh.b false))) (need (keyB (Int.ofNat 0) (Int.ofNat 0) 0 noI 0 noI) (need (zrB [Sh.i .i64 (Int.ofNat 0), Sh.i .i64 (Int.ofNat 0), Sh.sl 0 0 fun (x : Nat) => [], Sh.sl 0 0 fun (x : Nat) => []]) (node (A.nt (A.seq (L.key (sQ (Int.ofNat 0) (Int.ofNat 0) 0 noI 0 noI)) [])) (leaf (Fe2.ret (Sh.b false))) (node (A.nt (A.eq (Int.ofNat 0) (Int.ofNat 0))) (leaf (Fe2.ret (Sh.b false))) (leaf (Fe2.at_ 0 [Eqn.sh (Sh.sl 4 n1 (fnU (behU n1 (newT (rwAt (fnR o1))) (rwAt (fnR c)) m))) (Sh.sl 4 n1 (fnU v)), Eqn.int stop stop, Eqn.sh (Sh.sl 4 n (fnT (behT n (newT (rwAt (fnR o))) (rwAt (fnR c)) m))) (Sh.sl 4 n (fnT d)), Eqn.sh (Sh.sl 4 n (fnU (behU n (newT (rwAt (fnR o))) (rwAt (fnR c)) m))) (Sh.sl 4 n (fnU u)), Eqn.sh (Sh.sl 4 n1 (fnT (behT n1 (newT (rwAt (fnR o1))) (rwAt (fnR c)) m))) (Sh.sl 4 n1 (fnT d1)), Eqn.sh (Sh.sl 4 n (fnT (behT n (newT (rwAt (fnR o))) (rwAt (fnR c)) m))) (Sh.sl 4 n (fnT d)), Eqn.int (Int.ofNat 0) i])))))))) (need (keyB (Int.ofNat 0) (Int.ofNat 0) 0 noI 0 noI) (need (zrB [Sh.i .i64 (Int.ofNat 0), Sh.i .i64 (Int.ofNat 0), Sh.sl 0 0 fun (x : Nat) => [], Sh.sl 0 0 fun (x : Nat) => []]) (node (A.nt (A.seq (L.key (sQ (Int.ofNat 0) (Int.ofNat 0) 0 noI 0 noI)) [])) (leaf (Fe2.ret (Sh.b false))) (node (A.nt (A.eq (Int.ofNat 0) (Int.ofNat 0))) (leaf (Fe2.ret (Sh.b false))) (leaf (Fe2.at_ 0 [Eqn.sh (Sh.sl 4 n1 (fnU (behU n1 (newT (rwAt (fnR o1))) (rwAt (fnR c)) m))) (Sh.sl 4 n1 (fnU v)), Eqn.int stop stop, Eqn.sh (Sh.sl 4 n (fnT (behT n (newT (rwAt (fnR o))) (rwAt (fnR c)) m))) (Sh.sl 4 n (fnT d)), Eqn.sh (Sh.sl 4 n (fnU (behU n (newT (rwAt (fnR o))) (rwAt (fnR c)) m))) (Sh.sl 4 n (fnU u)), Eqn.sh (Sh.sl 4 n1 (fnT (behT n1 (newT (rwAt (fnR o1))) (rwAt (fnR c)) m))) (Sh.sl 4 n1 (fnT d1)), Eqn.sh (Sh.sl 4 n (fnT (behT n (newT (rwAt (fnR o))) (rwAt (fnR c)) m))) (Sh.sl 4 n (fnT d)), Eqn.int (Int.ofNat 0) i]))))))))) (leaf (Fe2.ret (Sh.b true))))) (need (in24 n1 (fnR o1) m (fnR c)) (node (goodO n1 (rwAt (fnR o1))) (leaf (Fe2.ret (Sh.b true))) (leaf (Fe2.ret (Sh.b true))))))))) := by kernel_rfl
theorem b7 (A : Prim) (W : Wd) (L : Lk7) (n n1 : Nat) (d d1 : Nat → Sta) (u v : Nat → Rf) (stop i : Int) : runX (C7 A W (spec7 L true) sAl) noPause 300 800 7 none tb7 (L7r n n1 d d1 u v stop i) [] [⟨7, none, .code pR7 :: k7, L7t n n1 d d1 u v stop i, []⟩] = node (A.lt i (Int.ofNat 2)) (leaf (Fe2.at_ 0 [Eqn.sh (Sh.sl 4 n1 (fnU v)) (Sh.sl 4 n1 (fnU v)), Eqn.int stop stop, Eqn.sh (Sh.sl 4 n (fnT d)) (Sh.sl 4 n (fnT d)), Eqn.sh (Sh.sl 4 n (fnU u)) (Sh.sl 4 n (fnU u)), Eqn.sh (Sh.sl 4 n1 (fnT d1)) (Sh.sl 4 n1 (fnT d1)), Eqn.sh (Sh.sl 4 n (fnT d)) (Sh.sl 4 n (fnT d)), Eqn.int i i, Eqn.int (Int.ofNat 0) (Int.ofNat 0)])) (need (stB n (fnT d)) (need (stB n1 (fnT d1)) (need (manyB n n1) (need (rfB n (fnU u)) (need (rfB n1 (fnU v)) (need (manyU n n1) (need (okB Int (difN n (fnT d) n1 (fnT d1)) (difR n (fnT d) n1 (fnT d1))) (need (okB Int (difU n (rfF n (fnU u)) n1 (rfF n1 (fnU v))) (dirU n (rfF n (fnU u)) n1 (rfF n1 (fnU v)))) (need (eqI (difN n (fnT d) n1 (fnT d1)) (difR n (fnT d) n1 (fnT d1)) (difU n (rfF n (fnU u)) n1 (rfF n1 (fnU v))) (dirU n (rfF n (fnU u)) n1 (rfF n1 (fnU v)))) (need (stB n (fnT d)) (need (stB n1 (fnT d1)) (need (manyB n n1) (need (rfB n (fnU u)) (need (rfB n1 (fnU v)) (need (manyU n n1) (leaf (Fe2.ret (Sh.b (A.beq (sameB n (fnT d) n1 (fnT d1)) (nodU n (rfF n (fnU u)) n1 (rfF n1 (fnU v)))))))))))))))))))))) := by kernel_rfl
theorem t7 (A : Prim) (W : Wd) (L : Lk7) (n n1 : Nat) (d d1 : Nat → Sta) (u v : Nat → Rf) (stop i : Int) (l : Nat) (k j : Int) : runX (C7 A W (spec7 L true) sAl) noPause 300 800 63 none [.code []] { L7t n n1 d d1 u v stop i with tm := (.val (yv l) :: [.ptr 5 0]) ++ List.replicate (20 - (1 + 1)) .any } (s7 n1 v l) [⟨63, none, td63, L7i n n1 d d1 u v stop i l k j, s7 n1 v l⟩] = need (roomB n 64) (leaf (Fe2.at_ 0 [Eqn.val (Value.func (Fn.yield l) { toList := [] } { toList := [] }) (Value.func (Fn.yield l) { toList := [] } { toList := [] }), Eqn.sh (Sh.sl 4 n (fnT d)) (Sh.sl 4 n (fnT d)), Eqn.int (A.ofN n) (Int.ofNat n), Eqn.int (Int.ofNat 0) k, Eqn.int stop stop, Eqn.sh (Sh.sl 4 n (fnT d)) (Sh.sl 4 n (fnT d)), Eqn.sh (Sh.sl 4 n (fnU u)) (Sh.sl 4 n (fnU u)), Eqn.sh (Sh.sl 4 n1 (fnT d1)) (Sh.sl 4 n1 (fnT d1)), Eqn.sh (Sh.sl 4 n (fnT d)) (Sh.sl 4 n (fnT d)), Eqn.int i i, Eqn.int (Int.ofNat 0) j, Eqn.nat l l, Eqn.sh (Sh.sl 4 n1 (fnU v)) (Sh.sl 4 n1 (fnU v))])) := by kernel_rfl
theorem i7 (A : Prim) (W : Wd) (L : Lk7) (n n1 : Nat) (d d1 : Nat → Sta) (u v : Nat → Rf) (stop i : Int) (l : Nat) (k j k' j' i' : Int) : runX (C7 A W (spec7 L true) sAl) noPause 300 800 63 none tb63 (L7i n n1 d d1 u v stop i l k j) (s7 n1 v l) [⟨63, none, td63, L7i n n1 d d1 u v stop i l k' j', s7 n1 v l⟩, ⟨7, none, td7, L7r n n1 d d1 u v stop i', []⟩] = node (A.lt k (Int.ofNat n)) (need (A.inB k n) (must [Eqn.nat l l] (must [Eqn.nat l l] (node (A.nt (A.eq k j)) (must [Eqn.nat l l] (leaf (Fe2.ret (Sh.b false)))) (node (A.le (A.ofN n) j) (must [Eqn.nat l l] (leaf (Fe2.ret (Sh.b false)))) (need (A.inB j n) (need (keyB (d (A.toN k)).kind (d (A.toN k)).num (len (d (A.toN k)).q) (fnR (nth (d (A.toN k)).q)) (len (d (A.toN k)).ps) (fnR (nth (d (A.toN k)).ps))) (need (rowB [Sh.i .i64 (u (A.toN j)).kind, Sh.i .i64 (u (A.toN j)).num, Sh.sl 1 (len (u (A.toN j)).keys) (fnR (nth (u (A.toN j)).keys)), Sh.sl 1 (len (u (A.toN j)).vals) (fnR (nth (u (A.toN j)).vals))]) (need (okU (rowF [Sh.i .i64 (u (A.toN j)).kind, Sh.i .i64 (u (A.toN j)).num, Sh.sl 1 (len (u (A.toN j)).keys) (fnR (nth (u (A.toN j)).keys)), Sh.sl 1 (len (u (A.toN j)).vals) (fnR (nth (u (A.toN j)).vals))])) (node (A.nt (A.seq (L.key (sQ (d (A.toN k)).kind (d (A.toN k)).num (len (d (A.toN k)).q) (fnR (nth (d (A.toN k)).q)) (len (d (A.toN k)).ps) (fnR (nth (d (A.toN k)).ps)))) (keyU (rowF [Sh.i .i64 (u (A.toN j)).kind, Sh.i .i64 (u (A.toN j)).num, Sh.sl 1 (len (u (A.toN j)).keys) (fnR (nth (u (A.toN j)).keys)), Sh.sl 1 (len (u (A.toN j)).vals) (fnR (nth (u (A.toN j)).vals))])))) (must [Eqn.nat l l] (leaf (Fe2.ret (Sh.b false)))) (node (A.eq i (Int.ofNat 0)) (node (A.eq (A.add .i64 j (Int.ofNat 1)) stop) (must [Eqn.nat l l] (node (A.nt (A.eq (A.add .i64 j (Int.ofNat 1)) (A.ofN n))) (node (A.eq i (Int.ofNat 0)) (node (A.nt (A.eq (A.add .i64 j (Int.ofNat 1)) stop)) (leaf (Fe2.ret (Sh.b false))) (leaf (Fe2.at_ 1 [Eqn.sh (Sh.sl 4 n1 (fnU v)) (Sh.sl 4 n1 (fnU v)), Eqn.int stop stop, Eqn.sh (Sh.sl 4 n (fnT d)) (Sh.sl 4 n (fnT d)), Eqn.sh (Sh.sl 4 n (fnU u)) (Sh.sl 4 n (fnU u)), Eqn.sh (Sh.sl 4 n1 (fnT d1)) (Sh.sl 4 n1 (fnT d1)), Eqn.sh (Sh.sl 4 n (fnT d)) (Sh.sl 4 n (fnT d)), Eqn.int (A.add .i64 i (Int.ofNat 1)) i']))) (leaf (Fe2.ret (Sh.b false)))) (leaf (Fe2.at_ 1 [Eqn.sh (Sh.sl 4 n1 (fnU v)) (Sh.sl 4 n1 (fnU v)), Eqn.int stop stop, Eqn.sh (Sh.sl 4 n (fnT d)) (Sh.sl 4 n (fnT d)), Eqn.sh (Sh.sl 4 n (fnU u)) (Sh.sl 4 n (fnU u)), Eqn.sh (Sh.sl 4 n1 (fnT d1)) (Sh.sl 4 n1 (fnT d1)), Eqn.sh (Sh.sl 4 n (fnT d)) (Sh.sl 4 n (fnT d)), Eqn.int (A.add .i64 i (Int.ofNat 1)) i'])))) (must [Eqn.nat l l] (leaf (Fe2.at_ 0 [Eqn.val (Value.func (Fn.yield l) { toList := [] } { toList := [] }) (Value.func (Fn.yield l) { toList := [] } { toList := [] }), Eqn.sh (Sh.sl 4 n (fnT d)) (Sh.sl 4 n (fnT d)), Eqn.int (Int.ofNat n) (Int.ofNat n), Eqn.int (A.add .i64 k (Int.ofNat 1)) k', Eqn.int stop stop, Eqn.sh (Sh.sl 4 n (fnT d)) (Sh.sl 4 n (fnT d)), Eqn.sh (Sh.sl 4 n (fnU u)) (Sh.sl 4 n (fnU u)), Eqn.sh (Sh.sl 4 n1 (fnT d1)) (Sh.sl 4 n1 (fnT d1)), Eqn.sh (Sh.sl 4 n (fnT d)) (Sh.sl 4 n (fnT d)), Eqn.int i i, Eqn.int (A.add .i64 j (Int.ofNat 1)) j', Eqn.nat l l, Eqn.sh (Sh.sl 4 n1 (fnU v)) (Sh.sl 4 n1 (fnU v))])))) (must [Eqn.nat l l] (leaf (Fe2.at_ 0 [Eqn.val (Value.func (Fn.yield l) { toList := [] } { toList := [] }) (Value.func (Fn.yield l) { toList := [] } { toList := [] }), Eqn.sh (Sh.sl 4 n (fnT d)) (Sh.sl 4 n (fnT d)), Eqn.int (Int.ofNat n) (Int.ofNat n), Eqn.int (A.add .i64 k (Int.ofNat 1)) k', Eqn.int stop stop, Eqn.sh (Sh.sl 4 n (fnT d)) (Sh.sl 4 n (fnT d)), Eqn.sh (Sh.sl 4 n (fnU u)) (Sh.sl 4 n (fnU u)), Eqn.sh (Sh.sl 4 n1 (fnT d1)) (Sh.sl 4 n1 (fnT d1)), Eqn.sh (Sh.sl 4 n (fnT d)) (Sh.sl 4 n (fnT d)), Eqn.int i i, Eqn.int (A.add .i64 j (Int.ofNat 1)) j', Eqn.nat l l, Eqn.sh (Sh.sl 4 n1 (fnU v)) (Sh.sl 4 n1 (fnU v))])))))))))))))) (node (A.nt (A.eq j (A.ofN n))) (node (A.eq i (Int.ofNat 0)) (node (A.nt (A.eq j stop)) (leaf (Fe2.ret (Sh.b false))) (leaf (Fe2.at_ 1 [Eqn.sh (Sh.sl 4 n1 (fnU v)) (Sh.sl 4 n1 (fnU v)), Eqn.int stop stop, Eqn.sh (Sh.sl 4 n (fnT d)) (Sh.sl 4 n (fnT d)), Eqn.sh (Sh.sl 4 n (fnU u)) (Sh.sl 4 n (fnU u)), Eqn.sh (Sh.sl 4 n1 (fnT d1)) (Sh.sl 4 n1 (fnT d1)), Eqn.sh (Sh.sl 4 n (fnT d)) (Sh.sl 4 n (fnT d)), Eqn.int (A.add .i64 i (Int.ofNat 1)) i']))) (leaf (Fe2.ret (Sh.b false)))) (leaf (Fe2.at_ 1 [Eqn.sh (Sh.sl 4 n1 (fnU v)) (Sh.sl 4 n1 (fnU v)), Eqn.int stop stop, Eqn.sh (Sh.sl 4 n (fnT d)) (Sh.sl 4 n (fnT d)), Eqn.sh (Sh.sl 4 n (fnU u)) (Sh.sl 4 n (fnU u)), Eqn.sh (Sh.sl 4 n1 (fnT d1)) (Sh.sl 4 n1 (fnT d1)), Eqn.sh (Sh.sl 4 n (fnT d)) (Sh.sl 4 n (fnT d)), Eqn.int (A.add .i64 i (Int.ofNat 1)) i']))) := by kernel_rfl
theorem z36 (A : Prim) (W : Wd) : runTo (C7 A W noSpec sAl) nH0 300 400 36 [.code []] (start0 58 [.agg [.v (.int .i64 0), .v (.int .i64 0), .sl 0 0 fun _ => [], .sl 0 0 fun _ => []]] L0) [] [] = leaf (Fe2.ret (Sh.str [])) := by kernel_rfl
end Go.Proofs
namespace Go.Proofs
open Go.Sx.Tree
open Go Go.Sx Go.Pl
theorem all_b7 (A : Prim) (W : Wd) (L : Lk7) (n n1 : Nat) (d d1 : Nat → Sta) (u v : Nat → Rf) (stop i : Int) {ψ : Fe2 → Prop} (h1 : (A.lt i (Int.ofNat 2)) = false → (stB n (fnT d)) = true) (h2 : (A.lt i (Int.ofNat 2)) = false → (stB n1 (fnT d1)) = true) (h3 : (A.lt i (Int.ofNat 2)) = false → (manyB n n1) = true) (h4 : (A.lt i (Int.ofNat 2)) = false → (rfB n (fnU u)) = true) (h5 : (A.lt i (Int.ofNat 2)) = false → (rfB n1 (fnU v)) = true) (h6 : (A.lt i (Int.ofNat 2)) = false → (manyU n n1) = true) (h7 : (A.lt i (Int.ofNat 2)) = false → (okB Int (difN n (fnT d) n1 (fnT d1)) (difR n (fnT d) n1 (fnT d1))) = true) (h8 : (A.lt i (Int.ofNat 2)) = false → (okB Int (difU n (rfF n (fnU u)) n1 (rfF n1 (fnU v))) (dirU n (rfF n (fnU u)) n1 (rfF n1 (fnU v)))) = true) (h9 : (A.lt i (Int.ofNat 2)) = false → (eqI (difN n (fnT d) n1 (fnT d1)) (difR n (fnT d) n1 (fnT d1)) (difU n (rfF n (fnU u)) n1 (rfF n1 (fnU v))) (dirU n (rfF n (fnU u)) n1 (rfF n1 (fnU v)))) = true) (y1 : (A.lt i (Int.ofNat 2)) = true → ψ (Fe2.at_ 0 [Eqn.sh (Sh.sl 4 n1 (fnU v)) (Sh.sl 4 n1 (fnU v)), Eqn.int stop stop, Eqn.sh (Sh.sl 4 n (fnT d)) (Sh.sl 4 n (fnT d)), Eqn.sh (Sh.sl 4 n (fnU u)) (Sh.sl 4 n (fnU u)), Eqn.sh (Sh.sl 4 n1 (fnT d1)) (Sh.sl 4 n1 (fnT d1)), Eqn.sh (Sh.sl 4 n (fnT d)) (Sh.sl 4 n (fnT d)), Eqn.int i i, Eqn.int (Int.ofNat 0) (Int.ofNat 0)])) (y2 : (A.lt i (Int.ofNat 2)) = false → ψ (Fe2.ret (Sh.b (A.beq (sameB n (fnT d) n1 (fnT d1)) (nodU n (rfF n (fnU u)) n1 (rfF n1 (fnU v))))))) : MeetsT ψ (runX (C7 A W (spec7 L true) sAl) noPause 300 800 7 none tb7 (L7r n n1 d d1 u v stop i) [] [⟨7, none, .code pR7 :: k7, L7t n n1 d d1 u v stop i, []⟩]) := by
 rw [b7 A W L n n1 d d1 u v stop i, meetsT_eq]
 exact ⟨fun q0 => (y1 q0), fun q0 => ⟨(h1 q0), ⟨(h2 q0), ⟨(h3 q0), ⟨(h4 q0), ⟨(h5 q0), ⟨(h6 q0), ⟨(h7 q0), ⟨(h8 q0), ⟨(h9 q0), ⟨(h1 q0), ⟨(h2 q0), ⟨(h3 q0), ⟨(h4 q0), ⟨(h5 q0), ⟨(h6 q0), (y2 q0)⟩⟩⟩⟩⟩⟩⟩⟩⟩⟩⟩⟩⟩⟩⟩⟩
theorem all_t7 (A : Prim) (W : Wd) (L : Lk7) (n n1 : Nat) (d d1 : Nat → Sta) (u v : Nat → Rf) (stop i : Int) (l : Nat) (k j : Int) {ψ : Fe2 → Prop} (h1 : (roomB n 64) = true) (y1 : ψ (Fe2.at_ 0 [Eqn.val (Value.func (Fn.yield l) { toList := [] } { toList := [] }) (Value.func (Fn.yield l) { toList := [] } { toList := [] }), Eqn.sh (Sh.sl 4 n (fnT d)) (Sh.sl 4 n (fnT d)), Eqn.int (A.ofN n) (Int.ofNat n), Eqn.int (Int.ofNat 0) k, Eqn.int stop stop, Eqn.sh (Sh.sl 4 n (fnT d)) (Sh.sl 4 n (fnT d)), Eqn.sh (Sh.sl 4 n (fnU u)) (Sh.sl 4 n (fnU u)), Eqn.sh (Sh.sl 4 n1 (fnT d1)) (Sh.sl 4 n1 (fnT d1)), Eqn.sh (Sh.sl 4 n (fnT d)) (Sh.sl 4 n (fnT d)), Eqn.int i i, Eqn.int (Int.ofNat 0) j, Eqn.nat l l, Eqn.sh (Sh.sl 4 n1 (fnU v)) (Sh.sl 4 n1 (fnU v))])) : MeetsT ψ (runX (C7 A W (spec7 L true) sAl) noPause 300 800 63 none [.code []] { L7t n n1 d d1 u v stop i with tm := (.val (yv l) :: [.ptr 5 0]) ++ List.replicate (20 - (1 + 1)) .any } (s7 n1 v l) [⟨63, none, td63, L7i n n1 d d1 u v stop i l k j, s7 n1 v l⟩]) := by
 rw [t7 A W L n n1 d d1 u v stop i l k j, meetsT_eq]
 exact ⟨(h1), (y1)⟩
theorem all_z36 (A : Prim) (W : Wd) {ψ : Fe2 → Prop} (y1 : ψ (Fe2.ret (Sh.str []))) : MeetsT ψ (runTo (C7 A W noSpec sAl) nH0 300 400 36 [.code []] (start0 58 [.agg [.v (.int .i64 0), .v (.int .i64 0), .sl 0 0 fun _ => [], .sl 0 0 fun _ => []]] L0) [] []) := by
 rw [z36 A W, meetsT_eq]
 exact (y1)
end Go.Proofs
namespace Go.Pl
open Go Go.Sx
end Go.Pl
namespace Go.Proofs
open Go Go.Sx Go.Pl
end Go.Proofs
namespace Go.Proofs
open Go Go.Sx Go.Pl
end Go.Proofs
namespace Go.Pl
open Go Go.Sx Go.Proofs
section
variable {n m : Nat} {d e : Nat → Sta} {i op k v i' op' k' v' : Int}
end
theorem no2 {b : Bool} {P : Prop} (h : b = false) (h2 : b = true) : P := by rw [h] at h2; cases h2
end Go.Pl
namespace Go.Proofs
open Go Go.Sx Go.Pl
theorem lt_f {a b : Nat} (h : prim.lt (Int.ofNat a) (prim.ofN b) = false) : b ≤ a := by
 simp [prim_lt, prim_ofN] at h; omega
theorem in24_mk {n m : Nat} {o : Nat → Oj} {c : Nat → Cl} (h1 : kindsB n o = true) (h2 : m ≤ 200) : in24 n (fnR o) m (fnR c) = true := by
 unfold in24 fewB
 rw [rwAt_fnR]
 simp only [Bool.and_eq_true, decide_eq_true_eq]
 exact ⟨⟨⟨okB_put _ _, h1⟩, okB_put _ _⟩, by omega⟩
theorem many_mk {n m : Nat} (h : n ≤ 100000) (h2 : m ≤ 100000) : manyB n m = true := decide_eq_true ⟨h, h2⟩
end Go.Proofs
