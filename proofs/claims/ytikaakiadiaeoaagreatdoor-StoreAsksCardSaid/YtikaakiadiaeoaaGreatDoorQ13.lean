/-
  Chapter 7: StoreOwn. Chapter 7: StoreAsks. From the readings of a row to the shapes of the executor: ints, flat structs of ints, slices of them, the listed variables; and back: the row's post. The listed variables, as the executor's globals. Chapter 7: the listed variables are the executor's globals. Own work (written by program). From a law's summary to its row's post: it answers true, and what it was given reads as it did. Arguments of chapter 7: the kinds of objects fit; a struct of ints. Chapter 7: what the laws' rows have in common. Chapter 7: the law StoreAsks, as its row says. Chapter 7: the tied card of StoreAsks.
-/
import Derived.Test.YtikaakiadiaeoaaGreatDoorQ12
import Derived.ProofKit
import Derived.Deep.Slices
import Derived.Stop.LaidErr
import Derived.LaidMore
import Derived.OpenShut
import Derived.MakeChecks
import Derived.Test.YtikaakiadiaeoaaGreatDoorRows
import Derived.Carry
import Derived.Stop.Joined
import Derived.Test.YtikaakiadiaeoaaGreatDoorTie
import Derived.Test.YtikaakiadiaeoaaGreatDoorCards
namespace Go.Pl
open Go Go.Sx Go.Proofs
theorem toR_inj {m k : Nat} {s t : Sta} (hs : InvS m s) (ht : InvS k t) (h : toR s = toR t) : s = t := by
 obtain ⟨kind, num, q, ps⟩ := s
 obtain ⟨kind', num', q', ps'⟩ := t
 injection h with e1 e2 e3 e4
 simp only at e1 e2 e3 e4
 subst e1 e2
 by_cases hk : kind = 4
 ·have h1 : q = [] := hs.q0 (by show kind ≠ 3; omega)
  have h2 : q' = [] := ht.q0 (by show kind ≠ 3; omega)
  subst h1 h2
  replace e4 : ps.map (·.val) = ps'.map (·.val) := e4
  have : ps = ps' := by
   clear hs ht
   induction ps generalizing ps' with
   | nil => cases ps' with
    | nil => rfl
    | cons b l => cases e3
   | cons a l ih => cases ps' with
    | nil => cases e3
    | cons b l' =>
     simp only [List.map_cons, List.cons.injEq] at e3 e4
     obtain ⟨a1, a2⟩ := a
     obtain ⟨b1, b2⟩ := b
     have x1 : a1 = b1 := e3.1
     have x2 : a2 = b2 := e4.1
     rw [ih l' e3.2 e4.2, x1, x2]
  rw [this]
 ·have h1 : ps = [] := hs.p0 hk
  have h2 : ps' = [] := ht.p0 hk
  subst h1 h2
  simp at e4
  rw [e4]
end Go.Pl
namespace Go.Proofs
open Go Go.Sx Go.Pl
section
variable {H0 : Mem} {w0 : World} {φ : Sh → Prop} {nl n nd : Nat} {w : Nat → Int} {d e : Nat → Sta} {u v : Nat → Rf} {k : Int}
theorem add1 {j : Nat} (h : j ≤ 100000) : prim.add .i64 (j : Int) (Int.ofNat 1) = ((j + 1 : Nat) : Int) := by
 show IntKind.i64.wrap ((j : Int) + 1) = _
 rw [wrap_id (by omega) (by omega)]; rfl
end
section
variable {H0 : Mem} {w0 : World} {φ : Sh → Prop} {nl n : Nat} {w : Nat → Int} {d e : Nat → Sta}
end
end Go.Proofs
namespace Go.Pl
open Go Go.Sx Go.Proofs
theorem atT_out {n : Nat} {d : Nat → Sta} {i : Int} (h : inI n i = false) : atT n d i = zeroT := by
 unfold atT
 rw [h]; rfl
theorem diff_same' {m k n n1 : Nat} {d e : Nat → Sta} (hd : ∀ j, j < n → InvS m (d j)) (he : ∀ j, j < n1 → InvS k (e j)) :
  diffU n (fun j => toR (d j)) n1 (fun j => toR (e j)) (max n n1) = diffL n (stF n (fnT d)) n1 (stF n1 (fnT e)) := by
 unfold diffU diffL diffN
 congr 1
 refine List.filter_congr fun j hj => ?_
 have hj : j < max n n1 := List.mem_range.1 hj
 unfold unU unT
 have ii (n : Nat) : inI n (j : Int) = decide (j < n) := by simp [inI]
 by_cases h1 : j < n
 ·by_cases h2 : j < n1
  ·rw [atT_in h1, atT_in h2, stF_fnT j h1, stF_fnT j h2]
   have e1 : decide (d j = e j) = eqU (toR (d j)) (toR (e j)) := by
    rw [Bool.eq_iff_iff, eqU_iff, decide_eq_true_eq]
    exact ⟨fun q => by rw [q], toR_inj (hd j h1) (he j h2)⟩
   rw [e1, ii, ii]
   simp [h1, h2]
  ·rw [ii, ii]
   simp [h1, h2]
 ·rw [ii, ii]
  have h2 : j < n1 := by omega
  simp [h1, h2]
theorem nod_same {n n1 : Nat} {f e : Nat → Rf} {g h : Nat → List Sh} (hs : diffU n f n1 e (max n n1) = diffL n (stF n g) n1 (stF n1 h)) : sameB n g n1 h = nodU n f n1 e := by
 have e1 : difN n g n1 h = difU n f n1 e := by
  unfold difN difU
  rw [hs]
 unfold sameB nodU
 rw [e1]
 by_cases hn : n = n1
 ·subst hn
  by_cases q : difU n f n e = 0 <;> simp [q]
 ·have : difU n f n1 e ≠ 0 := fun q => by
   unfold difU diffU at q
   rw [List.length_map, List.length_eq_zero_iff, List.filter_eq_nil_iff] at q
   have := q (min n n1) (List.mem_range.2 (by omega))
   unfold unU at this
   simp at this
   omega
  have h2 : ¬ (n : Int) = (n1 : Int) := by omega
  simp [this, h2]
end Go.Pl
namespace Go.Proofs
open Go Go.Sx Go.Pl
theorem goesW_runXT {P : Program} {C : Ctx} {H0 : Mem} {w0 : World} (hC : CtxOK P C) (hF : FnsOK P C) (hN : noDeferAll C.fns = true) {pause : Nat → List It → Bool} {m n g : Nat} {r : Option (Nat × Nat)} {td : List It} {c : Core} {stk : List Fw} {ts : List TgtW} {φ : Sh → Prop}
  (hx : MeetsT (FeWOK P C (K0 H0 w0) ts φ) (runX C pause m n g r td c stk ts)) : GoesW P C (K0 H0 w0) g r td c stk φ := goesW_runX hC hF hN (by rw [meetsT_eq] at hx; rw [meetsW_eq]; exact hx)
theorem O24d : FnOK Tryz.prog (gls7 W7) 24 F24d := by
 intro H w shs args φ hon hg hr hφ
 unfold F24d at hφ
 split at hφ
 ·split at hφ
  ·rename_i s0 s1 n g m h e1 e2
   obtain ⟨h1, hy, hno⟩ := hφ
   cases hg2 : goodO n (rwAt g) with
   | true =>
    refine O24g H w _ args φ hon hg hr ?_
    unfold F24g
    simp only [e1, e2]
    exact ⟨h1, hg2, hy hg2⟩
   | false =>
    refine O24n H w _ args φ hon hg hr ?_
    unfold F24n
    simp only [e1, e2]
    exact ⟨h1, by unfold noO; rw [hg2]; rfl, hno hg2⟩
  ·exact hφ.elim
 ·exact hφ.elim
theorem O33t : FnOK Tryz.prog (gls7 W7) 33 F33t := fnOK_wk O33 fun shs φ h => by
 unfold F33t at h
 split at h
 ·split at h
  ·rename_i e1 e2
   obtain ⟨h1, h2, hφ⟩ := h
   refine ⟨_, hφ, ?_⟩
   unfold F33
   simp only [e1, e2]
   refine ⟨h1, ⟨rfl, rfl, wk_sl, wk_sl, trivial⟩, ?_, trivial⟩
   rw [eq_of_beq h2]
   exact .inr rfl
  ·exact h.elim
 ·exact h.elim
theorem O33f : FnOK Tryz.prog (gls7 W7) 33 F33f := fnOK_wk O33 fun shs φ h => by
 unfold F33f at h
 split at h
 ·split at h
  ·rename_i e1 e2
   obtain ⟨h1, h2, hφ⟩ := h
   refine ⟨_, hφ, ?_⟩
   unfold F33
   simp only [e1, e2]
   have hi := eq_of_beq h2
   rw [atT_out hi, hi]
   exact ⟨h1, ⟨rfl, rfl, .inl ⟨rfl, rfl⟩, .inl ⟨rfl, rfl⟩, trivial⟩, .inr rfl, trivial⟩
  ·exact h.elim
 ·exact h.elim
theorem fok0' (stop : Nat → List Nat → Bool) : FnsOK Tryz.prog (C7 prim W7 spec39 stop) := C7.fok (fun g F h => by
 unfold spec39 at h
 split at h
 ·cases h; exact O28
 ·cases h) fun g h => by
 unfold spec39 at h
 split at h
 all_goals first | (cases h; done) | kernel_rfl
theorem O39 : FnOK Tryz.prog (gls7 W7) 39 F39 := by
 refine fnOK_Su (C := C7 prim W7 spec39 sAl) (C7.ok _ _) (fn := Tryz.f39) (by kernel_rfl) (by kernel_rfl) fun H w shs args φ hrep h => ?_
 have hn : Tryz.f39.ntmps = 10 := by kernel_rfl
 unfold F39 at h
 split at h
 ·split at h
  ·rename_i n g m h' e1 e2
   obtain ⟨h1, h2, h3, hφ⟩ := h
   match args, hrep with
   | [v1, v2], ⟨r1, r2, _⟩ =>
    refine ⟨[.sl 4 n (fnU (rfF n g)), .sl 4 m (fnU (rfF m h'))], ⟨rep_sl_congr (rep_slN e1 r1) (rfB_at h1), rep_sl_congr (rep_slN e2 r2) (rfB_at h2), trivial⟩, L0, ?_⟩
    refine gSt (C7.ok _ _) (fok0' _) (hold := nH0) (m := 300) (n := 400) (ts := []) ?_
    rw [hn]
    refine all_a39 prim W7 n m _ _ (rfB_fnU _ _) (rfB_fnU _ _) h3 ?_
    refine up_mk (s' := .b (nodU n (rfF n g) m (rfF m h'))) (.inl ?_) hφ
    rw [rfF_fnU, rfF_fnU]
    unfold nodU
    by_cases q : difU n (rfF n g) m (rfF m h') = 0 <;> simp [prim_eq, prim_ofN, q]
  ·exact h.elim
 ·exact h.elim
theorem rep_lit2 {H : Mem} {v : Value} {s t : Sh} (h : Rep H (.agg [.i .i64 0, .i .i64 0, s, t]) v) : Rep H (.agg [.v (.int .i64 0), .v (.int .i64 0), s, t]) v := by
 cases h with
 | agg _ vs hl hr =>
  refine .agg _ _ hl fun j s' v' h1 h2 => ?_
  match j, h1 with
  | 0, h1 =>
   cases h1
   exact rep_lit (hr 0 _ _ rfl h2)
  | 1, h1 =>
   cases h1
   exact rep_lit (hr 1 _ _ rfl h2)
  | 2, h1 => exact hr 2 _ _ h1 h2
  | 3, h1 => exact hr 3 _ _ h1 h2
  | j + 4, h1 => cases h1
theorem O36z : FnOK Tryz.prog (gls7 W7) 36 F36z := by
 refine fnOK_Su (C := C7 prim W7 noSpec sAl) (C7.ok _ _) (fn := Tryz.f36) (by kernel_rfl) (by kernel_rfl) fun H w shs args φ hrep h => ?_
 have hn : Tryz.f36.ntmps = 58 := by kernel_rfl
 unfold F36z at h
 split at h
 ·rename_i x y s2 s3
  obtain ⟨h1, hφ⟩ := h
  have e := @of_decide_eq_true _ (Classical.propDecidable _) h1
  match args, hrep with
  | [v], ⟨r, _⟩ =>
  have r : Rep H (.agg [.i .i64 0, .i .i64 0, .sl 0 0 fun _ => [], .sl 0 0 fun _ => []]) v := by rw [← e]; exact r
  have hz : up φ (.str []) := up_mk (s' := .str []) rfl hφ
  refine ⟨[.agg [.v (.int .i64 0), .v (.int .i64 0), .sl 0 0 fun _ => [], .sl 0 0 fun _ => []]], ⟨rep_lit2 r, trivial⟩, L0, ?_⟩
  refine gSt (C7.ok _ _) (fok0 _) (hold := nH0) (m := 300) (n := 400) (ts := []) ?_
  rw [hn]
  exact all_z36 prim W7 hz
 ·exact h.elim
theorem OG18w : FnOK Tryz.prog (gls7 W7) 18 G18w := fnOK_wk OG18 fun shs φ h => by
 unfold G18w at h
 split at h
 ·obtain ⟨h1, h2, h3, hφ⟩ := h
  refine ⟨_, hφ, h1, h2, ?_⟩
  rw [h3]
  exact .inr rfl
 ·exact h.elim
theorem fok7 (b : Bool) (stop : Nat → List Nat → Bool) : FnsOK Tryz.prog (C7 prim W7 (spec7 LK b) stop) := C7.fok (fun g F h => by
 unfold spec7 at h
 split at h
 ·cases h; exact O12
 ·cases h; exact OG18w
 ·cases h; exact O24d
 ·cases h; exact O27x
 ·cases h; exact O28
 ·cases h; exact O31
 ·cases h
  cases b
  ·exact O33f
  ·exact O33t
 ·cases h; exact O35k
 ·cases h
  cases b
  ·exact O36z
  ·exact O36c
 ·cases h; exact O39
 ·cases h; exact O64
 ·cases h) fun g h => by
 unfold spec7 at h
 split at h
 all_goals first | (cases h; done) | kernel_rfl
theorem goesW_spec {A : Prim} {W : Wd} {s s' : Nat → Option (List Sh → Tree Sh)} {stop stop' : Nat → List Nat → Bool} {K : Kx} {g : Nat} {r : Option (Nat × Nat)} {td : List It} {c : Core} {φ : Sh → Prop}
  (h : GoesW Tryz.prog (C7 A W s stop) K g r td c [] φ) : GoesW Tryz.prog (C7 A W s' stop') K g r td c [] φ := fun H E w a items rs B ms cs fn hp hf st hi hr hs hnd hx =>
 h H E w a items rs B ms cs fn hp hf ⟨st.den, st.hp, st.wok, st.free, st.gl, st.defers⟩ hi hr (by cases ms with
  | nil => exact hs
  | cons _ _ => exact hs.elim) hnd hx
section
variable {H0 : Mem} {w0 : World} {φ : Sh → Prop} {n n1 m : Nat} {d d1 : Nat → Sta} {stop : Int}
theorem loop7 {b : Bool} (hn : n ≤ 8) (hm : m ≤ 50000) (hd : ∀ j, j < n → InvS m (d j)) {i : Nat} (hi : i < 2) {l : Nat} (next : GoesW Tryz.prog (C7 prim W7 (spec7 LK true) sAl) (K0 H0 w0) 7 none td7 (L7r n n1 d d1 (fun j => toR (d j)) (fun j => toR (d1 j)) stop ((i + 1 : Nat) : Int)) [] φ) :
  ∀ r k, k + r = n → GoesW Tryz.prog (C7 prim W7 (spec7 LK true) sAl) (K0 H0 w0) 63 none td63 (L7i n n1 d d1 (fun j => toR (d j)) (fun j => toR (d1 j)) stop (i : Int) l (k : Int) (k : Int)) (s7 n1 (fun j => toR (d1 j)) l) φ
 | r, k, hk => by
  refine goesW_into (fn := Tryz.f63) (tb := tb63) (by kernel_rfl) (by kernel_rfl) ?_
  refine goesW_runXT (C7.ok _ _) (fok7 _ _) nd7 (pause := noPause) (m := 300) (n := 800) (ts := [⟨63, none, td63, L7i n n1 d d1 (fun j => toR (d j)) (fun j => toR (d1 j)) stop (i : Int) l ((k + 1 : Nat) : Int) ((k + 1 : Nat) : Int), s7 n1 (fun j => toR (d1 j)) l⟩, ⟨7, none, td7, L7r n n1 d d1 (fun j => toR (d j)) (fun j => toR (d1 j)) stop ((i + 1 : Nat) : Int), []⟩]) ?_
  have lt (q : prim.lt (k : Int) (Int.ofNat n) = true) : k < n := by simp [prim_lt] at q; omega
  have ge (q : prim.lt (k : Int) (Int.ofNat n) = false) : n ≤ k := by simp [prim_lt] at q; omega
  have w1 : prim.add .i64 (i : Int) (Int.ofNat 1) = ((i + 1 : Nat) : Int) := add1 (by omega)
  have w2 : prim.add .i64 (k : Int) (Int.ofNat 1) = ((k + 1 : Nat) : Int) := add1 (by omega)
  have k1 : prim.nt (prim.eq (k : Int) (k : Int)) = false := by simp [prim_nt, prim_eq]
  have k2 (q : prim.lt (k : Int) (Int.ofNat n) = true) : prim.le (prim.ofN n) (k : Int) = false := by
   have := lt q
   simp [prim_le, prim_ofN]; omega
  have k3 (q : prim.lt (k : Int) (Int.ofNat n) = true) : prim.nt (prim.seq (LK.key (sQ (d (prim.toN (k : Int))).kind (d (prim.toN (k : Int))).num (len (d (prim.toN (k : Int))).q) (fnR (nth (d (prim.toN (k : Int))).q)) (len (d (prim.toN (k : Int))).ps) (fnR (nth (d (prim.toN (k : Int))).ps)))) (keyU (rowF (rfS (toR (d (prim.toN (k : Int)))))))) = false := by
   rw [sQ_eq, rowF_self]
   have e : LK.key (d (prim.toN (k : Int))) = keyU (toR (d (prim.toN (k : Int)))) := key_eq (hd (prim.toN (k : Int)) (by simp [prim_toN]; exact lt q))
   rw [e]
   simp [prim_nt, prim_seq]
  have k7 (q : prim.eq (prim.add .i64 (k : Int) (Int.ofNat 1)) stop = true) : prim.nt (prim.eq (prim.add .i64 (k : Int) (Int.ofNat 1)) stop) = false := by rw [q]; rfl
  have k8 (q : prim.lt (k : Int) (Int.ofNat n) = false) : prim.nt (prim.eq (k : Int) (prim.ofN n)) = false := by
   have := ge q
   have : k = n := by omega
   subst this
   simp [prim_nt, prim_eq, prim_ofN]
  have k9 (q : prim.lt (k : Int) (Int.ofNat n) = true) : prim.inB (k : Int) n = true := by
   have := lt q
   simp [prim_inB]; omega
  have k11 (q : prim.lt (k : Int) (Int.ofNat n) = true) : keyB (d (prim.toN (k : Int))).kind (d (prim.toN (k : Int))).num (len (d (prim.toN (k : Int))).q) (fnR (nth (d (prim.toN (k : Int))).q)) (len (d (prim.toN (k : Int))).ps) (fnR (nth (d (prim.toN (k : Int))).ps)) = true :=
   keyB_ok (okT_inv (by omega) (hd (prim.toN (k : Int)) (by simp [prim_toN]; exact lt q)))
  have k12 (q : prim.lt (k : Int) (Int.ofNat n) = true) : okU (rowF (rfS (toR (d (prim.toN (k : Int)))))) = true := by
   rw [rowF_self]
   exact okU_inv hm (hd (prim.toN (k : Int)) (by simp [prim_toN]; exact lt q))
  have rec_ (q : prim.lt (k : Int) (Int.ofNat n) = true) : FeWOK Tryz.prog (C7 prim W7 (spec7 LK true) sAl) (K0 H0 w0) [⟨63, none, td63, L7i n n1 d d1 (fun j => toR (d j)) (fun j => toR (d1 j)) stop (i : Int) l ((k + 1 : Nat) : Int) ((k + 1 : Nat) : Int), s7 n1 (fun j => toR (d1 j)) l⟩, ⟨7, none, td7, L7r n n1 d d1 (fun j => toR (d j)) (fun j => toR (d1 j)) stop ((i + 1 : Nat) : Int), []⟩] φ (Fe2.at_ 0 [Eqn.val (Value.func (Fn.yield l) { toList := [] } { toList := [] }) (Value.func (Fn.yield l) { toList := [] } { toList := [] }), Eqn.sh (Sh.sl 4 n (fnT d)) (Sh.sl 4 n (fnT d)), Eqn.int (Int.ofNat n) (Int.ofNat n), Eqn.int (prim.add .i64 (k : Int) (Int.ofNat 1)) ((k + 1 : Nat) : Int), Eqn.int stop stop, Eqn.sh (Sh.sl 4 n (fnT d)) (Sh.sl 4 n (fnT d)), Eqn.sh (Sh.sl 4 n (fnU fun j => toR (d j))) (Sh.sl 4 n (fnU fun j => toR (d j))), Eqn.sh (Sh.sl 4 n1 (fnT d1)) (Sh.sl 4 n1 (fnT d1)), Eqn.sh (Sh.sl 4 n (fnT d)) (Sh.sl 4 n (fnT d)), Eqn.int (i : Int) (i : Int), Eqn.int (prim.add .i64 (k : Int) (Int.ofNat 1)) ((k + 1 : Nat) : Int), Eqn.nat l l, Eqn.sh (Sh.sl 4 n1 (fnU fun j => toR (d1 j))) (Sh.sl 4 n1 (fnU fun j => toR (d1 j)))]) := by
   refine ⟨⟨rfl, rfl, rfl, w2, rfl, rfl, rfl, rfl, rfl, rfl, w2, rfl, rfl, trivial⟩, _, rfl, ?_⟩
   have := lt q
   match r, hk with
   | 0, hk => omega
   | r + 1, hk => exact loop7 (b := b) hn hm hd hi next r (k + 1) (by omega)
  have next_ : FeWOK Tryz.prog (C7 prim W7 (spec7 LK true) sAl) (K0 H0 w0) [⟨63, none, td63, L7i n n1 d d1 (fun j => toR (d j)) (fun j => toR (d1 j)) stop (i : Int) l ((k + 1 : Nat) : Int) ((k + 1 : Nat) : Int), s7 n1 (fun j => toR (d1 j)) l⟩, ⟨7, none, td7, L7r n n1 d d1 (fun j => toR (d j)) (fun j => toR (d1 j)) stop ((i + 1 : Nat) : Int), []⟩] φ (Fe2.at_ 1 [Eqn.sh (Sh.sl 4 n1 (fnU fun j => toR (d1 j))) (Sh.sl 4 n1 (fnU fun j => toR (d1 j))), Eqn.int stop stop, Eqn.sh (Sh.sl 4 n (fnT d)) (Sh.sl 4 n (fnT d)), Eqn.sh (Sh.sl 4 n (fnU fun j => toR (d j))) (Sh.sl 4 n (fnU fun j => toR (d j))), Eqn.sh (Sh.sl 4 n1 (fnT d1)) (Sh.sl 4 n1 (fnT d1)), Eqn.sh (Sh.sl 4 n (fnT d)) (Sh.sl 4 n (fnT d)), Eqn.int (prim.add .i64 (i : Int) (Int.ofNat 1)) ((i + 1 : Nat) : Int)]) :=
   ⟨⟨rfl, rfl, rfl, rfl, rfl, rfl, w1, trivial⟩, _, rfl, next⟩
  rw [i7 prim W7 LK n n1 d d1 _ _ stop i l k k (k + 1 : Nat) (k + 1 : Nat) (i + 1 : Nat), meetsT_eq]
  exact ⟨fun q0 => ⟨k9 q0, ⟨⟨rfl, trivial⟩, ⟨⟨rfl, trivial⟩, ⟨fun q1 => no2 k1 q1, fun q1 => ⟨fun q2 => no2 (k2 q0) q2, fun q2 => ⟨k9 q0, ⟨k11 q0, ⟨rowB_self _, ⟨k12 q0, ⟨fun q3 => no2 (k3 q0) q3, fun q3 => ⟨fun q4 => ⟨fun q5 => ⟨⟨rfl, trivial⟩, ⟨fun q6 => ⟨fun q7 => ⟨fun q8 => no2 (k7 q5) q8, fun q8 => next_⟩, fun q7 => no2 q7 q4⟩, fun q6 => next_⟩⟩, fun q5 => ⟨⟨rfl, trivial⟩, rec_ q0⟩⟩, fun q4 => ⟨⟨rfl, trivial⟩, rec_ q0⟩⟩⟩⟩⟩⟩⟩⟩⟩⟩⟩⟩, fun q0 => ⟨fun q1 => no2 (k8 q0) q1, fun q1 => next_⟩⟩
theorem round7 {m1 : Nat} (hn : n ≤ 8) (hn1 : n1 ≤ 8) (hm : m ≤ 50000) (hd : ∀ j, j < n → InvS m (d j)) (hd1 : ∀ j, j < n1 → InvS m1 (d1 j)) (hφ : φ (.b true)) : ∀ r i : Nat, i + r = 2 → GoesW Tryz.prog (C7 prim W7 (spec7 LK true) sAl) (K0 H0 w0) 7 none td7 (L7r n n1 d d1 (fun j => toR (d j)) (fun j => toR (d1 j)) stop (i : Int)) [] φ
 | r, i, hi => by
  refine goesW_into (fn := Tryz.f7) (tb := tb7) (by kernel_rfl) (by kernel_rfl) ?_
  have here (h2 : i < 2) : GoesW Tryz.prog (C7 prim W7 (spec7 LK true) sAl) (K0 H0 w0) 7 none (.code pR7 :: k7) (L7t n n1 d d1 (fun j => toR (d j)) (fun j => toR (d1 j)) stop (i : Int)) [] φ := by
   refine goesW_range (C7.ok _ _) (fok7 _ _) (fn := Tryz.f7) (fn2 := Tryz.f63) (g2 := 63) (caps := [.ptr 5 0]) (by kernel_rfl) (x := .tmp 112) (ps := #[113, 114]) (ca := codeAt (bodyOf Tryz.f7) (0 :: pR7)) (cb := codeAt (bodyOf Tryz.f7) (1 :: pR7)) (by kernel_rfl) (by kernel_rfl) (by kernel_rfl) (by kernel_rfl) fun l => ?_
   have hn63 : Tryz.f63.ntmps = 20 := by kernel_rfl
   rw [hn63]
   refine goesW_runXT (C7.ok _ _) (fok7 _ _) nd7 (pause := noPause) (m := 300) (n := 800) (ts := [⟨63, none, td63, L7i n n1 d d1 (fun j => toR (d j)) (fun j => toR (d1 j)) stop (i : Int) l ((0 : Nat) : Int) ((0 : Nat) : Int), s7 n1 (fun j => toR (d1 j)) l⟩]) ?_
   refine all_t7 prim W7 LK n n1 d d1 _ _ stop i l ((0 : Nat) : Int) ((0 : Nat) : Int) (room_le (by omega) (by omega)) ⟨⟨rfl, rfl, rfl, rfl, rfl, rfl, rfl, rfl, rfl, rfl, rfl, rfl, rfl, trivial⟩, _, rfl, ?_⟩
   match r, hi with
   | 0, hi => omega
   | r + 1, hi => exact loop7 (b := true) hn hm hd h2 (round7 hn hn1 hm hd hd1 hφ r (i + 1) (by omega)) n 0 (by omega)
  refine goesW_runXT (C7.ok _ _) (fok7 _ _) nd7 (pause := noPause) (m := 300) (n := 800) (ts := [⟨7, none, .code pR7 :: k7, L7t n n1 d d1 (fun j => toR (d j)) (fun j => toR (d1 j)) stop (i : Int), []⟩]) ?_
  have hs := diff_same' hd hd1
  have hmm : manyB n n1 = true := many_mk (by omega) (by omega)
  refine all_b7 prim W7 LK n n1 d d1 _ _ stop i (fun _ => stB_fnT _ _) (fun _ => stB_fnT _ _) (fun _ => hmm) (fun _ => rfB_fnU _ _) (fun _ => rfB_fnU _ _) (fun _ => hmm) (fun _ => okB_put _ _) (fun _ => okB_put _ _) ?_ ?_ ?_
  ·intro _
   rw [rfF_fnU, rfF_fnU]
   unfold difN difR difU dirU
   rw [hs]
   exact (eqI_nth (diffL n (stF n (fnT d)) n1 (stF n1 (fnT d1))) (diffL n (stF n (fnT d)) n1 (stF n1 (fnT d1)))).trans (sameL_true rfl)
  ·intro q
   refine ⟨⟨rfl, rfl, rfl, rfl, rfl, rfl, rfl, rfl, trivial⟩, _, rfl, here ?_⟩
   simp [prim_lt] at q; omega
  ·intro _
   rw [rfF_fnU, rfF_fnU, nod_same hs]
   have : prim.beq (nodU n (fun j => toR (d j)) n1 fun j => toR (d1 j)) (nodU n (fun j => toR (d j)) n1 fun j => toR (d1 j)) = true := by simp [prim_beq]
   rw [this]
   exact hφ
end
noncomputable def F7 : List Sh → Tree Sh
 | [s0, s1, s2, .i .i64 _, .i .i64 _] => match slN 2 s0, slN 2 s1, slN 4 s2 with
  | some (n, g), some (n1, g1), some (m, h) => .need (okB Oj n g) (.need (kindsB n (rwAt g)) (.need (okB Oj n1 g1) (.need (kindsB n1 (rwAt g1)) (.need (okB Cl m h) (.leaf (.b true))))))
  | _, _, _ => .fail
 | _ => .fail
theorem O7 : FnOK Tryz.prog (gls7 W7) 7 F7 := by
 refine fnOK_W (C := C7 prim W7 (spec7 LK true) sAl) (C7.ok _ _) (fn := Tryz.f7) (by kernel_rfl) (by kernel_rfl) fun H w shs args φ hrep h => ?_
 have hn : Tryz.f7.ntmps = 175 := by kernel_rfl
 unfold F7 at h
 split at h
 ·rename_i s0 s1 s2 i0 stop
  split at h
  ·rename_i n g n1 g1 m hh e1 e2 e3
   obtain ⟨h1, hk, h2, hk1, h3, hφ⟩ := h
   have hφ : φ (.b true) := hφ
   match args, hrep with
   | [v0, v1, v2, v3, v4], ⟨r0, r1, r2, r3, r4, _⟩ =>
    refine ⟨[.sl 2 n (fnR (rwAt (α := Oj) g)), .sl 2 n1 (fnR (rwAt (α := Oj) g1)), .sl 4 m (fnR (rwAt (α := Cl) hh)), .i .i64 i0, .i .i64 stop], ⟨rep_rows (rep_slN e1 r0) h1, rep_rows (rep_slN e2 r1) h2, rep_rows (rep_slN e3 r2) h3, r3, r4, trivial⟩, L0, ?_⟩
    rw [hn]
    generalize rwAt (α := Oj) g = o at *
    generalize rwAt (α := Oj) g1 = o1 at *
    generalize rwAt (α := Cl) hh = c at *
    have next : goodO n o = true → goodO n1 o1 = true → m ≤ 200 → GoesW Tryz.prog (C7 prim W7 (spec7 LK true) sAl) (K0 H w) 7 none td7 (L7r n n1 (behT n (newT o) c m) (behT n1 (newT o1) c m) (fun j => toR (behT n (newT o) c m j)) (fun j => toR (behT n1 (newT o1) c m j)) stop ((0 : Nat) : Int)) [] φ := fun q q1 hm => by
     obtain ⟨h8, h0⟩ := new_all q
     obtain ⟨h81, h01⟩ := new_all q1
     exact round7 h8 h81 (by omega) (behT_inv h0 m) (behT_inv h01 m) hφ 2 0 (by omega)
    cases hi : inI n i0 with
    | true =>
     have hi' : 0 ≤ i0 ∧ i0 < n := of_decide_eq_true hi
     have hinT : inT n i0 true = true := by unfold inT; rw [hi]; rfl
     refine goesW_runXT (C7.ok _ _) (fok7 _ _) nd7 (pause := noPause) (m := 300) (n := 800) (ts := [⟨7, none, td7, L7r n n1 (behT n (newT o) c m) (behT n1 (newT o1) c m) (fun j => toR (behT n (newT o) c m j)) (fun j => toR (behT n1 (newT o1) c m j)) stop ((0 : Nat) : Int), []⟩]) ?_
     have hat : atT n (stF n (fnT (behT n (newT o) c m))) i0 = behT n (newT o) c m (prim.toN i0) := by
      unfold atT
      rw [hi]
      exact stF_fnT _ (by omega)
     have k5 : prim.le (Int.ofNat 0) i0 = true := by simp [prim_le]; omega
     have k6 : prim.lt i0 (prim.ofN n) = true := by simp [prim_lt, prim_ofN]; omega
     have k7 : prim.nt (prim.beq true (prim.lt i0 (prim.ofN n))) = false := by rw [k6]; rfl
     have k10 : prim.inB i0 n = true := by simp [prim_inB]; omega
     have jn : prim.toN i0 < n := by simp [prim_toN]; omega
     cases hg : goodO n o with
     | false =>
      rw [a7t prim W7 LK n n1 o o1 m c i0, meetsT_eq]
      simp only [rwAt_fnR]
      exact ⟨fun q0 => hφ, fun q0 => ⟨fun q1 => hφ, fun q1 => ⟨fun q2 => hφ, fun q2 => ⟨in24_mk hk (lt_f q2), ⟨fun q3 => no2 hg q3, fun q3 => ⟨in24_mk hk1 (lt_f q2), ⟨fun q4 => hφ, fun q4 => hφ⟩⟩⟩⟩⟩⟩⟩
     | true =>
     have dD := behT_inv (c := c) (new_all hg).2 m
     have h8 := (new_all hg).1
     have k8 : prim.nt (prim.seq (LK.key (sQ (behT n (newT o) c m (prim.toN i0)).kind (behT n (newT o) c m (prim.toN i0)).num (len (behT n (newT o) c m (prim.toN i0)).q) (fnR (nth (behT n (newT o) c m (prim.toN i0)).q)) (len (behT n (newT o) c m (prim.toN i0)).ps) (fnR (nth (behT n (newT o) c m (prim.toN i0)).ps)))) (keyU (rowF (rfS (behU n (newT o) c m (prim.toN i0)))))) = false := by
      rw [sQ_eq, rowF_self]
      have e : LK.key (behT n (newT o) c m (prim.toN i0)) = keyU (toR (behT n (newT o) c m (prim.toN i0))) := key_eq (dD _ jn)
      rw [e]
      simp [prim_nt, prim_seq, behU]
     have k9 : prim.nt (prim.eq (behT n (newT o) c m (prim.toN i0)).kind (behU n (newT o) c m (prim.toN i0)).kind) = false := by simp [prim_nt, prim_eq, behU, toR]
     have k11 (hm : m ≤ 100000) : keyB (behT n (newT o) c m (prim.toN i0)).kind (behT n (newT o) c m (prim.toN i0)).num (len (behT n (newT o) c m (prim.toN i0)).q) (fnR (nth (behT n (newT o) c m (prim.toN i0)).q)) (len (behT n (newT o) c m (prim.toN i0)).ps) (fnR (nth (behT n (newT o) c m (prim.toN i0)).ps)) = true := keyB_ok (okT_inv hm (dD _ jn))
     have k12 (hm : m ≤ 50000) : okU (rowF (rfS (behU n (newT o) c m (prim.toN i0)))) = true := by
      rw [rowF_self]
      exact okU_inv hm (dD _ jn)
     rw [a7t prim W7 LK n n1 o o1 m c i0, meetsT_eq]
     simp only [rwAt_fnR, hat]
     exact ⟨fun q0 => hφ, fun q0 => ⟨fun q1 => hφ, fun q1 => ⟨fun q2 => hφ, fun q2 => ⟨in24_mk hk (lt_f q2), ⟨fun q3 => ⟨in24_mk hk1 (lt_f q2), ⟨fun q4 => ⟨stB_fnT _ _, ⟨hinT, ⟨fun q5 => ⟨fun q6 => ⟨k10, ⟨fun q7 => no2 k7 q7, fun q7 => ⟨k11 (by have := lt_f q2; omega), ⟨rowB_self _, ⟨k12 (by have := lt_f q2; omega), ⟨fun q8 => no2 k8 q8, fun q8 => ⟨fun q9 => no2 k9 q9, fun q9 => ⟨⟨rfl, rfl, rfl, rfl, rfl, rfl, rfl, trivial⟩, _, rfl, next hg q4 (lt_f q2)⟩⟩⟩⟩⟩⟩⟩⟩, fun q6 => no2 q6 k6⟩, fun q5 => no2 q5 k5⟩⟩⟩, fun q4 => hφ⟩⟩, fun q3 => no2 q3 hg⟩⟩⟩⟩⟩
    | false =>
     have hinT : inT n i0 false = true := by unfold inT; rw [hi]; rfl
     refine goesW_spec (s := spec7 LK false) (stop := sAl) ?_
     have next := fun q q1 q2 => goesW_spec (s' := spec7 LK false) (stop' := sAl) (next q q1 q2)
     refine goesW_runXT (C7.ok _ _) (fok7 _ _) nd7 (pause := noPause) (m := 300) (n := 800) (ts := [⟨7, none, td7, L7r n n1 (behT n (newT o) c m) (behT n1 (newT o1) c m) (fun j => toR (behT n (newT o) c m j)) (fun j => toR (behT n1 (newT o1) c m j)) stop ((0 : Nat) : Int), []⟩]) ?_
     have kk (q : prim.le (Int.ofNat 0) i0 = true) : prim.lt i0 (prim.ofN n) = false := by
      have h2 : ¬ (0 ≤ i0 ∧ i0 < n) := by
       have := hi
       simpa [inI] using this
      simp [prim_le] at q
      simp [prim_lt, prim_ofN]; omega
     have k7 (q : prim.lt i0 (prim.ofN n) = false) : prim.nt (prim.beq false (prim.lt i0 (prim.ofN n))) = false := by rw [q]; rfl
     have k8 : prim.nt (prim.seq (LK.key (sQ (Int.ofNat 0) (Int.ofNat 0) 0 noI 0 noI)) []) = false := by
      have : LK.key (sQ (Int.ofNat 0) (Int.ofNat 0) 0 noI 0 noI) = [] := by
       show keyS ⟨0, 0, [], []⟩ = []
       rfl
      rw [this]; rfl
     have k10 : prim.nt (prim.eq (Int.ofNat 0) (Int.ofNat 0)) = false := rfl
     have k11 : keyB (Int.ofNat 0) (Int.ofNat 0) 0 noI 0 noI = true := rfl
     have k12 : zrB [Sh.i .i64 (Int.ofNat 0), Sh.i .i64 (Int.ofNat 0), Sh.sl 0 0 fun (x : Nat) => [], Sh.sl 0 0 fun (x : Nat) => []] = true := @decide_eq_true _ (Classical.propDecidable _) rfl
     cases hg : goodO n o with
     | false =>
      rw [a7f prim W7 LK n n1 o o1 m c i0, meetsT_eq]
      simp only [rwAt_fnR]
      exact ⟨fun q0 => hφ, fun q0 => ⟨fun q1 => hφ, fun q1 => ⟨fun q2 => hφ, fun q2 => ⟨in24_mk hk (lt_f q2), ⟨fun q3 => no2 hg q3, fun q3 => ⟨in24_mk hk1 (lt_f q2), ⟨fun q4 => hφ, fun q4 => hφ⟩⟩⟩⟩⟩⟩⟩
     | true =>
     rw [a7f prim W7 LK n n1 o o1 m c i0, meetsT_eq]
     simp only [rwAt_fnR]
     exact ⟨fun q0 => hφ, fun q0 => ⟨fun q1 => hφ, fun q1 => ⟨fun q2 => hφ, fun q2 => ⟨in24_mk hk (lt_f q2), ⟨fun q3 => ⟨in24_mk hk1 (lt_f q2), ⟨fun q4 => ⟨stB_fnT _ _, ⟨hinT, ⟨fun q5 => ⟨fun q6 => no2 (kk q5) q6, fun q6 => ⟨fun q7 => no2 (k7 q6) q7, fun q7 => ⟨k11, ⟨k12, ⟨fun q8 => no2 k8 q8, fun q8 => ⟨fun q9 => no2 k10 q9, fun q9 => ⟨⟨rfl, rfl, rfl, rfl, rfl, rfl, rfl, trivial⟩, _, rfl, next hg q4 (lt_f q2)⟩⟩⟩⟩⟩⟩⟩, fun q5 => ⟨k11, ⟨k12, ⟨fun q6 => no2 k8 q6, fun q6 => ⟨fun q7 => no2 k10 q7, fun q7 => ⟨⟨rfl, rfl, rfl, rfl, rfl, rfl, rfl, trivial⟩, _, rfl, next hg q4 (lt_f q2)⟩⟩⟩⟩⟩⟩⟩⟩, fun q4 => hφ⟩⟩, fun q3 => no2 q3 hg⟩⟩⟩⟩⟩
  ·exact h.elim
 ·exact h.elim
end Go.Proofs
namespace Go.Sx
open Go.RowKit Go.ChangeShapes Go.WideShapes Go.Deep
def memOf (w : World) : Mem := fun b => w.heap[b]?
theorem memOf_on (w : World) : (memOf w).on w := fun _ _ h => h
theorem hcell_memOf {w : World} {a : Addr} {v : Value} (h : w.cell? a = some v) : hcell (memOf w) a.block a.off = some v ∧ a.spot = none := by
 unfold World.cell? at h
 unfold hcell memOf
 split at h
 ·rename_i c t f hb
  rw [hb]
  cases hs : a.spot with
  | none => simp only [hs, Option.isSome_none, Bool.false_eq_true, if_false] at h; exact ⟨h, rfl⟩
  | some x => simp [hs] at h
 ·cases h
section
variable {H : Type} {enc : TypeId × Value → H} {P : Program} {w : World} {base : Nat} {spare : Nat → Bool} {held : Bool}
def flatB (P : Program) (fs : Array Field) (k : Nat) : Bool :=
 fs.size == k && (List.range k).all fun i => match fs[i]? with
  | some f => f.offset == i && (match P.underlying f.type with | some (.int .i64) => true | _ => false) && P.cellsOf f.type == 1
  | none => false
def rowB (P : Program) (e k : Nat) : Bool :=
 match P.underlying e with
 | some (.int .i64) => k == 1 && P.cellsOf e == 1
 | some (.struct fs) => flatB P fs k && P.cellsOf e == k
 | _ => false
def int64 (n : Int) : Prop := (Lit.int .i64 n).wf = true
theorem flat_cells {e k fuel : Nat} {cs : List Value} {x : DataW H × List MemPlace} (hr : rowB P e k = true) (h : DataW.trod enc P w base spare held fuel e cs = some x) :
  ∃ ns : List Int, ns.length = k ∧ cs = ns.map (Value.int .i64) ∧ ∀ n ∈ ns, int64 n := by
 unfold rowB at hr
 split at hr
 ·rename_i hu
  simp only [Bool.and_eq_true, beq_iff_eq] at hr
  obtain ⟨n, rfl, _, hw⟩ := DataW.trod_int hu h
  exact ⟨[n], hr.1.symm, rfl, fun m hm => by simp at hm; subst hm; exact hw⟩
 ·rename_i fs hu
  simp only [Bool.and_eq_true, beq_iff_eq] at hr
  obtain ⟨hf, hc⟩ := hr
  unfold flatB at hf
  simp only [Bool.and_eq_true, beq_iff_eq] at hf
  obtain ⟨hk, hf⟩ := hf
  obtain ⟨xs, m, _, _, hlen, hxs, hel⟩ := DataW.trod_struct hu h
  rw [hc] at hlen
  have cell : ∀ i, i < k → ∃ n, cs[i]? = some (.int .i64 n) ∧ int64 n := fun i hi => by
   have q := List.all_eq_true.1 hf i (List.mem_range.2 hi)
   split at q
   ·rename_i f hfi
    simp only [Bool.and_eq_true, beq_iff_eq] at q
    obtain ⟨⟨ho, ht⟩, h1⟩ := q
    have ht : P.underlying f.type = some (.int .i64) := by
     split at ht
     ·assumption
     ·cases ht
    have q2 := hel i f hfi
    rw [ho, h1] at q2
    have hxi : i < xs.length := by rw [hxs, hk]; exact hi
    rw [List.getElem?_eq_getElem hxi] at q2
    obtain ⟨n, e1, _, e3⟩ := DataW.trod_int ht q2
    refine ⟨n, ?_, e3⟩
    have : (List.take 1 (List.drop i cs))[0]? = some (.int .i64 n) := by rw [e1]; rfl
    simpa using this
   ·cases q
  clear hel h hf
  have : ∀ (j : Nat) (l : List Value), l.length = j → (∀ i, i < j → ∃ n, l[i]? = some (.int .i64 n) ∧ int64 n) → ∃ ns : List Int, ns.length = j ∧ l = ns.map (Value.int .i64) ∧ ∀ n ∈ ns, int64 n := by
   intro j
   induction j with
   | zero => intro l hl _; exact ⟨[], rfl, by simpa using hl, fun _ h => by simp at h⟩
   | succ j ih =>
    intro l hl hc
    match l, hl with
    | v :: l, hl =>
     obtain ⟨ns, h1, h2, h3⟩ := ih l (by simpa using hl) fun i hi => by simpa using hc (i + 1) (by omega)
     obtain ⟨n, q1, q2⟩ := hc 0 (by omega)
     simp at q1
     subst q1
     exact ⟨n :: ns, by simp [h1], by simp [h2], fun m hm => by
      rcases List.mem_cons.1 hm with rfl | hm
      ·exact q2
      ·exact h3 m hm⟩
  exact this k cs hlen cell
 ·cases hr
def shInts (ns : List Int) : List Sh := ns.map (Sh.i .i64)
theorem cells?_at {w : World} {base : Nat} {a : Addr} {n : Nat} {cs : List Value} (h : w.cells? base a n = some cs) : cs.length = n ∧ ∀ j, j < n → w.cell? (a.add j) = cs[j]? := by
 unfold World.cells? at h
 split at h
 ·have : ∀ (l : List Nat) (cs : List Value), l.mapM (fun i => w.cell? (a.add i)) = some cs → cs.length = l.length ∧ ∀ (j : Nat) (i : Nat), l[j]? = some i → w.cell? (a.add i) = cs[j]? := by
   intro l
   induction l with
   | nil => intro cs h; simp at h; subst h; exact ⟨rfl, fun j i e => by simp at e⟩
   | cons x l ih =>
    intro cs h
    rw [List.mapM_cons] at h
    simp only [Option.bind_eq_bind, Option.bind_eq_some_iff, Option.pure_def] at h
    obtain ⟨v, h1, vs, h2, h3⟩ := h
    cases h3
    obtain ⟨e1, e2⟩ := ih vs h2
    refine ⟨by simp [e1], fun j i e => ?_⟩
    match j, e with
    | 0, e => simp at e; subst e; simpa using h1
    | j + 1, e => simpa using e2 j i (by simpa using e)
  obtain ⟨e1, e2⟩ := this _ _ h
  rw [List.length_range] at e1
  exact ⟨e1, fun j hj => e2 j j (by simp [hj])⟩
 ·cases h
theorem add_off (a : Addr) (n : Nat) : (a.add n).off = a.off + n ∧ (a.add n).block = a.block := by
 unfold Addr.add
 split
 ·subst_vars; exact ⟨rfl, rfl⟩
 ·exact ⟨rfl, rfl⟩
theorem add_add' (a : Addr) (i j : Nat) : (a.add i).add j = a.add (i + j) := by
 unfold Addr.add
 by_cases hi : i = 0 <;> by_cases hj : j = 0 <;> simp [hi, hj, Nat.add_assoc]
theorem rep_rowsl {t e k fuel : Nat} {cs : List Value} {x : DataW H × List MemPlace} (ht : P.underlying t = some (.slice e)) (hr : rowB P e k = true) (hk : P.cellsOf e = k) (h0 : 0 < k)
  (h : DataW.trod enc P w base spare held fuel t cs = some x) :
  ∃ v n g, cs = [v] ∧ Rep (memOf w) (.sl k n g) v ∧ ∀ i, i < n → ∃ ns : List Int, ns.length = k ∧ g i = shInts ns ∧ ∀ n ∈ ns, int64 n := by
 rcases open_slice ht h with ⟨rfl, _⟩ | ⟨a, len, cap, m, n, D, Pl, rfl, hb, hl, hcap, hm, _, hel⟩
 ·exact ⟨_, 0, fun _ => [], rfl, .sl0 _ _ _ _ (Nat.zero_le _), fun i hi => by omega⟩
 have hlm : len ≤ m := by rw [hm]; split <;> omega
 rw [hk] at hel
 have row : ∀ i, i < len → ∃ ns : List Int, ns.length = k ∧ w.cells? base (a.add (i * k)) k = some (ns.map (Value.int .i64)) ∧ ∀ n ∈ ns, int64 n := fun i hi => by
  obtain ⟨cs', h1, h2⟩ := hel i (by omega)
  obtain ⟨ns, e1, rfl, e3⟩ := flat_cells hr h2
  exact ⟨ns, e1, h1, e3⟩
 by_cases hz : len = 0
 ·subst hz
  exact ⟨_, 0, fun _ => [], rfl, .sl0 _ _ _ _ hcap, fun i hi => by omega⟩
 let N : Nat → List Int := fun i => if h : i < len then (row i h).choose else []
 have hN : ∀ i, i < len → (N i).length = k ∧ w.cells? base (a.add (i * k)) k = some ((N i).map (Value.int .i64)) ∧ ∀ n ∈ N i, int64 n := fun i hi => by
  simp only [N, dif_pos hi]
  exact (row i hi).choose_spec
 have cell : ∀ i j, i < len → j < k → w.cell? (a.add (i * k + j)) = ((N i).map (Value.int .i64))[j]? := fun i j hi hj => by
  have := (cells?_at (hN i hi).2.1).2 j hj
  rwa [add_add'] at this
 have hspot : a.spot = none := by
  have h1 := cell 0 0 (by omega) h0
  have : ∃ v, w.cell? a = some v := by
   have hl0 := (hN 0 (by omega)).1
   match hq : N 0 with
   | [] => rw [hq] at hl0; simp at hl0; omega
   | x :: r =>
    rw [hq] at h1
    simp [Addr.add] at h1
    exact ⟨_, h1⟩
  obtain ⟨v, hv⟩ := this
  exact (hcell_memOf hv).2
 obtain ⟨blk, off, spot⟩ := a
 simp only at hspot
 subst hspot
 refine ⟨_, len, fun i => shInts (N i), rfl, .sl _ _ _ blk off cap (fun i j => ((N i).map (Value.int .i64)).getD j .nilFunc) hl hcap (fun i hi => by simp [shInts, (hN i hi).1]) (fun i j hi hj => ?_) (fun i j hi hj => ?_) (fun i j s hi e => ?_), fun i hi => ⟨N i, (hN i hi).1, rfl, (hN i hi).2.2⟩⟩
 ·have h1 := cell i j hi hj
  have hlt : j < ((N i).map (Value.int .i64)).length := by simpa [(hN i hi).1] using hj
  rw [List.getElem?_eq_getElem hlt] at h1
  have h2 := (hcell_memOf h1).1
  rw [(add_off _ _).1, (add_off _ _).2] at h2
  simp only [Nat.add_assoc] at h2 ⊢
  rw [h2, List.getD_eq_getElem?_getD, List.getElem?_eq_getElem hlt]; rfl
 ·have hlt : j < (N i).length := by rw [(hN i hi).1]; exact hj
  simp [List.getD_eq_getElem?_getD, hlt]; rfl
 ·simp only [shInts, List.getElem?_map, Option.map_eq_some_iff] at e
  obtain ⟨n, h3, rfl⟩ := e
  simp [List.getD_eq_getElem?_getD, h3]
  exact .i _ _
theorem rep_slice_arg {t e k : Nat} {v : Value} {d : DataW H} {ps : List MemPlace} (ht : P.underlying t = some (.slice e)) (hr : rowB P e k = true) (hk : P.cellsOf e = k) (h0 : 0 < k) {b0 : Nat} (hval : Value.okWide P w .any b0 t v) (hd : DataW.Trod enc P w base spare held t v d ps) :
  ∃ n g, Rep (memOf w) (.sl k n g) v ∧ ∀ i, i < n → ∃ ns : List Int, ns.length = k ∧ g i = shInts ns ∧ ∀ n ∈ ns, int64 n := by
 obtain ⟨fuel, hd⟩ := hd
 obtain ⟨u, n, g, h1, h2, h3⟩ := rep_rowsl ht hr hk h0 hd
 have : v = u := by
  unfold Value.okWide at hval
  rw [ht] at hval
  cases v <;> simp [Value.cells] at h1 <;> first | exact h1 | skip
  all_goals (unfold Cell.okWide at hval; simp [ht] at hval; try (simp [Cell.ok, ht] at hval))
 subst this
 exact ⟨n, g, h2, h3⟩
end
end Go.Sx
namespace Go.Sx
open Go.RowKit Go.ChangeShapes Go.WideShapes Go.Deep
theorem var_heap {P : Program} {W : World} {n : String} {g : Nat} {cs : Array Value} (hg : P.globalNamed n = some g) (h : W.var? P n = some cs) : ∃ e f, W.heap[g]? = some (.cells cs e f) := by
 unfold World.var? at h
 rw [hg] at h
 simp only [Option.bind_some] at h
 split at h
 ·rename_i c e f hb
  cases h
  exact ⟨_, _, hb⟩
 ·cases h
theorem laid_er {P : Program} {n nm : String} {text : List UInt8} {r : List (String × DataW Unit)} {W : World} {g : Nat} {ti tp te ts : TypeId} {ms : Array (String × TypeId)} {f : Field}
  (h : laidMet P ((n, .iface nm (.ptr (.agg [.lit (.string text)]))) :: r) W)
  (hg : P.globalNamed n = some g) (ht : (P.globals[g]?).map (·.type) = some ti) (hi : P.underlying ti = some (.interface ms)) (hrow : ∀ u, P.typeName? 3 u = some nm → u = tp)
  (hp : P.underlying tp = some (.pointer te)) (he : P.underlying te = some (.struct #[f])) (hft : f.type = ts) (hfo : f.offset = 0) (hs : P.underlying ts = some .string) (hc : P.cellsOf te = 1) (hcs : P.cellsOf ts = 1) :
  GlobAt (memOf W) g (.er g tp) := by
 obtain ⟨ps, ⟨g0, t0, cs0, f0, p0, q0, hg0, ht0, hv0, hd0, _, e0⟩, _, hrows⟩ := h
 obtain rfl := Option.some.inj (hg.symm.trans hg0)
 obtain rfl := Option.some.inj (ht.symm.trans ht0)
 subst e0
 obtain ⟨l0⟩ := cs0
 have ok0 : ∀ u v, l0 = [.iface u v] → Value.okWide P W .any 0 u v := fun u v e => by
  subst e
  exact (hrows g 0 (by simp [MemPlace.row])).2 u v (by simpa using World.var?_cell hg0 hv0 0)
 obtain ⟨a0, s0, rfl, hc0, hs0, hz0, rfl⟩ := errorString_of_trod hi hrow hp he hft hfo hs hc hcs hd0 ok0
 obtain ⟨c0, t0, hb0⟩ := (hrows a0.block a0.off (by simp [MemPlace.row])).1
 obtain ⟨e, f, hh⟩ := var_heap hg hv0
 have h1 : hcell (memOf W) g 0 = some (.iface tp (.pointer (some a0))) := by
  unfold hcell memOf
  rw [hh]; rfl
 exact ⟨_, h1, .er g tp a0 c0 t0 h1 hb0, rfl⟩
theorem laid_strs {P : Program} {n : String} {texts : List (List UInt8)} {r : List (String × DataW Unit)} {W : World} {g : Nat} {t e : TypeId} {k : Nat}
  (h : laidMet P ((n, .agg (texts.map fun s => .lit (.string s))) :: r) W)
  (hg : P.globalNamed n = some g) (ht : (P.globals[g]?).map (·.type) = some t) (hu : P.underlying t = some (.array k e)) (he : P.underlying e = some .string) (hce : P.cellsOf e = 1) (hct : P.cellsOf t = texts.length) :
  GlobAt (memOf W) g (.tup (texts.map Sh.str)) := by
 obtain ⟨ps, ⟨g0, t0, cs0, f0, p0, q0, hg0, ht0, hv0, hd0, _, e0⟩, _, hrows⟩ := h
 obtain rfl := Option.some.inj (hg.symm.trans hg0)
 obtain rfl := Option.some.inj (ht.symm.trans ht0)
 obtain ⟨e1, f1, hh⟩ := var_heap hg hv0
 obtain ⟨xs, m, _, hx, hlen, hxs, hel⟩ := DataW.trod_array hu hd0
 have hxs' : xs.map (·.1) = texts.map fun s => .lit (.string s) := by
  have := congrArg Prod.fst hx
  simp at this
  exact this.symm
 have hkt : k = texts.length := by
  have := congrArg List.length hxs'
  simp at this
  omega
 subst hkt
 have cell : ∀ j (hj : j < texts.length), cs0[j]? = some (.string ⟨texts[j].toArray⟩) := fun j hj => by
  have q := hel j hj
  rw [hce, Nat.mul_one] at q
  have hxj : j < xs.length := by omega
  rw [List.getElem?_eq_getElem hxj] at q
  obtain ⟨s, q1, q2, _⟩ := DataW.trod_string he q
  have q3 : (xs.map (·.1))[j]? = some (.lit (.string texts[j])) := by rw [hxs']; simp [hj]
  have q4 : (xs[j]).1 = .lit (.string texts[j]) := by
   rw [List.getElem?_map, List.getElem?_eq_getElem hxj] at q3
   simpa using q3
  rw [q2] at q4
  simp at q4
  have q5 : (List.take 1 (List.drop j cs0.toList))[0]? = some (.string s) := by rw [q1]; rfl
  have q6 : cs0[j]? = some (.string s) := by simpa using q5
  rw [q6]
  obtain ⟨⟨l⟩⟩ := s
  have : l = texts[j] := q4
  subst this; rfl
 refine ⟨⟨cs0, e1, f1, hh, by rw [List.length_map, ← hct, ← hlen]; simp⟩, fun j => .string ⟨(texts.getD j []).toArray⟩, fun j hj => ?_, fun j s hs => ?_⟩
 ·have hj' : j < texts.length := by simpa using hj
  refine ⟨?_, rfl⟩
  unfold hcell memOf
  rw [hh]
  simp only [cell j hj', List.getD_eq_getElem?_getD, List.getElem?_eq_getElem hj', Option.getD_some]
 ·rw [List.getElem?_map, Option.map_eq_some_iff] at hs
  obtain ⟨l, h1, rfl⟩ := hs
  show Rep (memOf W) (.str l) (.string ⟨(texts.getD j []).toArray⟩)
  rw [List.getD_eq_getElem?_getD, h1]
  exact .str l
theorem laid_nums {P : Program} {n : String} {kd : IntKind} {texts : List Int} {r : List (String × DataW Unit)} {W : World} {g : Nat} {t e : TypeId} {k : Nat}
  (h : laidMet P ((n, .agg (texts.map fun s => .lit (.int kd s))) :: r) W)
  (hg : P.globalNamed n = some g) (ht : (P.globals[g]?).map (·.type) = some t) (hu : P.underlying t = some (.array k e)) (he : P.underlying e = some (.int kd)) (hce : P.cellsOf e = 1) (hct : P.cellsOf t = texts.length) :
  GlobAt (memOf W) g (.tup (texts.map (Sh.i kd))) := by
 obtain ⟨ps, ⟨g0, t0, cs0, f0, p0, q0, hg0, ht0, hv0, hd0, _, e0⟩, _, hrows⟩ := h
 obtain rfl := Option.some.inj (hg.symm.trans hg0)
 obtain rfl := Option.some.inj (ht.symm.trans ht0)
 obtain ⟨e1, f1, hh⟩ := var_heap hg hv0
 obtain ⟨xs, m, _, hx, hlen, hxs, hel⟩ := DataW.trod_array hu hd0
 have hxs' : xs.map (·.1) = texts.map fun s => .lit (.int kd s) := by
  have := congrArg Prod.fst hx
  simp at this
  exact this.symm
 have hkt : k = texts.length := by
  have := congrArg List.length hxs'
  simp at this
  omega
 subst hkt
 have cell : ∀ j (hj : j < texts.length), cs0[j]? = some (.int kd texts[j]) := fun j hj => by
  have q := hel j hj
  rw [hce, Nat.mul_one] at q
  have hxj : j < xs.length := by omega
  rw [List.getElem?_eq_getElem hxj] at q
  obtain ⟨s, q1, q2, _⟩ := DataW.trod_int he q
  have q3 : (xs.map (·.1))[j]? = some (.lit (.int kd texts[j])) := by rw [hxs']; simp [hj]
  have q4 : (xs[j]).1 = .lit (.int kd texts[j]) := by
   rw [List.getElem?_map, List.getElem?_eq_getElem hxj] at q3
   simpa using q3
  rw [q2] at q4
  simp at q4
  have q5 : (List.take 1 (List.drop j cs0.toList))[0]? = some (.int kd s) := by rw [q1]; rfl
  have q6 : cs0[j]? = some (.int kd s) := by simpa using q5
  rw [q6]
  rw [q4]
 refine ⟨⟨cs0, e1, f1, hh, by rw [List.length_map, ← hct, ← hlen]; simp⟩, fun j => .int kd (texts.getD j 0), fun j hj => ?_, fun j s hs => ?_⟩
 ·have hj' : j < texts.length := by simpa using hj
  refine ⟨?_, rfl⟩
  unfold hcell memOf
  rw [hh]
  simp only [cell j hj', List.getD_eq_getElem?_getD, List.getElem?_eq_getElem hj', Option.getD_some]
 ·rw [List.getElem?_map, Option.map_eq_some_iff] at hs
  obtain ⟨l, h1, rfl⟩ := hs
  show Rep (memOf W) (.i kd l) (.int kd (texts.getD j 0))
  rw [List.getD_eq_getElem?_getD, h1]
  exact .i kd l
end Go.Sx
namespace Go.Proofs
open Go Go.Sx Go.RowKit Go.ChangeShapes
theorem star7 : "*" ++ "errors.errorString" = "*errors.errorString" := by decide
theorem row7 (u : TypeId) (h : Tryz.prog.typeName? 3 u = some "*errors.errorString") : u = 242 :=
 typeName_ptr_named (nm := "errors.errorString") (by rw [star7]; kernel_rfl) (by kernel_rfl) (by decide) u (by rw [star7]; exact h)
open YtikaakiadiaeoaaGreatDoor.Rows in
abbrev laid7 : List (String × DataW Unit) := storeListsRow.laid
theorem gls_laid {W : World} (h : laidMetH Tryz.prog laid7 W) : GlobOK (gls7 W7) (memOf W) := by
 rw [MakeChecks.laidMetH_plain _ _ _ (by kernel_rfl)] at h
 have e16 : GlobAt (memOf W) 16 (.tup (pow10.map (Sh.i .u64))) := laid_nums (kd := .u64) (texts := pow10) h.tail.tail (by kernel_rfl) (by kernel_rfl) Tryz.underlying233 Tryz.underlying217 (by kernel_rfl) (by kernel_rfl)
 have e5 : GlobAt (memOf W) 5 (.er 5 242) := laid_er h.tail.tail.tail (by kernel_rfl) (by kernel_rfl) Tryz.underlying52 row7 Tryz.underlying242 Tryz.underlying244 rfl rfl Tryz.underlying9 (by kernel_rfl) (by kernel_rfl)
 have e6 : GlobAt (memOf W) 6 (.er 6 242) := laid_er h.tail.tail.tail.tail (by kernel_rfl) (by kernel_rfl) Tryz.underlying52 row7 Tryz.underlying242 Tryz.underlying244 rfl rfl Tryz.underlying9 (by kernel_rfl) (by kernel_rfl)
 have e0 : GlobAt (memOf W) 0 (.er 0 242) := laid_er h.tail.tail.tail.tail.tail (by kernel_rfl) (by kernel_rfl) Tryz.underlying52 row7 Tryz.underlying242 Tryz.underlying244 rfl rfl Tryz.underlying9 (by kernel_rfl) (by kernel_rfl)
 have e3 : GlobAt (memOf W) 3 (.er 3 242) := laid_er h.tail.tail.tail.tail.tail.tail (by kernel_rfl) (by kernel_rfl) Tryz.underlying52 row7 Tryz.underlying242 Tryz.underlying244 rfl rfl Tryz.underlying9 (by kernel_rfl) (by kernel_rfl)
 have e1 : GlobAt (memOf W) 1 (.er 1 242) := laid_er h.tail.tail.tail.tail.tail.tail.tail (by kernel_rfl) (by kernel_rfl) Tryz.underlying52 row7 Tryz.underlying242 Tryz.underlying244 rfl rfl Tryz.underlying9 (by kernel_rfl) (by kernel_rfl)
 have e7 : GlobAt (memOf W) 7 (.tup (wds W7 7 4)) := laid_strs (texts := [W7 7 0, W7 7 1, W7 7 2, W7 7 3]) h.tail.tail.tail.tail.tail.tail.tail.tail (by kernel_rfl) (by kernel_rfl) Tryz.underlying182 Tryz.underlying9 (by kernel_rfl) (by kernel_rfl)
 have e8 : GlobAt (memOf W) 8 (.tup (wds W7 8 7)) := laid_strs (texts := [W7 8 0, W7 8 1, W7 8 2, W7 8 3, W7 8 4, W7 8 5, W7 8 6]) h.tail.tail.tail.tail.tail.tail.tail.tail.tail (by kernel_rfl) (by kernel_rfl) Tryz.underlying183 Tryz.underlying9 (by kernel_rfl) (by kernel_rfl)
 have e9 : GlobAt (memOf W) 9 (.tup (wds W7 9 9)) := laid_strs (texts := [W7 9 0, W7 9 1, W7 9 2, W7 9 3, W7 9 4, W7 9 5, W7 9 6, W7 9 7, W7 9 8]) h.tail.tail.tail.tail.tail.tail.tail.tail.tail.tail (by kernel_rfl) (by kernel_rfl) Tryz.underlying184 Tryz.underlying9 (by kernel_rfl) (by kernel_rfl)
 have e10 : GlobAt (memOf W) 10 (.tup (wds W7 10 3)) := laid_strs (texts := [W7 10 0, W7 10 1, W7 10 2]) h.tail.tail.tail.tail.tail.tail.tail.tail.tail.tail.tail (by kernel_rfl) (by kernel_rfl) Tryz.underlying185 Tryz.underlying9 (by kernel_rfl) (by kernel_rfl)
 have e11 : GlobAt (memOf W) 11 (.tup (wds W7 11 4)) := laid_strs (texts := [W7 11 0, W7 11 1, W7 11 2, W7 11 3]) h.tail.tail.tail.tail.tail.tail.tail.tail.tail.tail.tail.tail (by kernel_rfl) (by kernel_rfl) Tryz.underlying182 Tryz.underlying9 (by kernel_rfl) (by kernel_rfl)
 have e12 : GlobAt (memOf W) 12 (.tup (wds W7 12 4)) := laid_strs (texts := [W7 12 0, W7 12 1, W7 12 2, W7 12 3]) h.tail.tail.tail.tail.tail.tail.tail.tail.tail.tail.tail.tail.tail (by kernel_rfl) (by kernel_rfl) Tryz.underlying182 Tryz.underlying9 (by kernel_rfl) (by kernel_rfl)
 intro g s hg
 match g, hg with
 | 0, hg => cases hg; exact e0
 | 1, hg => cases hg; exact e1
 | 2, hg => cases hg
 | 3, hg => cases hg; exact e3
 | 4, hg => cases hg
 | 5, hg => cases hg; exact e5
 | 6, hg => cases hg; exact e6
 | 7, hg => cases hg; exact e7
 | 8, hg => cases hg; exact e8
 | 9, hg => cases hg; exact e9
 | 10, hg => cases hg; exact e10
 | 11, hg => cases hg; exact e11
 | 12, hg => cases hg; exact e12
 | 13, hg => cases hg
 | 14, hg => cases hg
 | 15, hg => cases hg
 | 16, hg => cases hg; exact e16
 | n + 17, hg => simp [gls7, look?] at hg
end Go.Proofs
namespace Go.Sx
open Go.RowKit Go.ChangeShapes Go.WideShapes Go.Deep Go.Pl
theorem SpecRes.below {H : Mem} {w w' : World} {s : Sh} {v : Value} {H' : Mem} (h : SpecRes H w s v H' w') : Below w.heap.size w w' := ⟨h.os, h.tape, h.output, h.size, h.old⟩
theorem SpecRes.bool {H : Mem} {w w' : World} {b : Bool} {v : Value} {H' : Mem} (h : SpecRes H w (.b b) v H' w') : v = .bool b := by
 obtain ⟨E1, _, _, h1, _⟩ := h.res 0
 exact h1
def rowedB (P : Program) (ts : List TypeId) : Bool := ts.all fun t => P.readableRec t && decide (t < P.types.size)
section
variable {H : Type} {enc : TypeId × Value → H} {P : Program}
theorem below_all (hl : laidOutB P = true) {W W' : World} (hb : Below W.heap.size W W') :
  ∀ {ts : List TypeId} {vs : List Value} {ds : List (DataW H)} {p : List MemPlace}, rowedB P ts = true → DataW.TrodAll enc P W 0 (fun _ => true) true ts vs ds p → (∀ x ∈ p, x.block < W.heap.size) →
   DataW.TrodAll enc P W' 0 (fun b => decide (b < W.heap.size)) true ts vs ds p
 | [], _, _, _, _, h, _ => by
  obtain ⟨rfl, rfl, rfl⟩ := trodAll_nil h
  exact rfl
 | t :: ts, _, _, _, hr, h, hlt => by
  obtain ⟨v, vs1, d, ds1, a, b, rfl, rfl, rfl, h1, h2⟩ := trodAll_cons h
  simp only [rowedB, List.all_cons, Bool.and_eq_true, decide_eq_true_eq] at hr
  exact ⟨a, b, Below.trod hl hr.1.1 hr.1.2 h1 hb fun x hx => hlt x (List.mem_append_left _ hx), below_all hl hb (by simp only [rowedB]; exact hr.2) h2 fun x hx => hlt x (List.mem_append_right _ hx), rfl⟩
theorem post_law (hl : laidOutB P = true) {f : Func} {s : ChangeSpec} {W W' : World} {args : Array Value} {t : TypeId} {ds gs : List (DataW H)} {before : List MemPlace} (hs : s.vars = []) (hr : rowedB P f.params.toList = true) (ht : f.resultTypes = #[t]) (hu : P.underlying t = some .bool)
  (hW : DataW.Whole enc P f.params.toList s.vars false W args.toList ds gs before) (hb : Below W.heap.size W W')
  (h1 : (s.fn H (ds ++ gs)).results = [.lit (.bool true)]) (h2 : (s.fn H (ds ++ gs)).args = ds) (h3 : (s.fn H (ds ++ gs)).vars = []) :
  s.post enc P f false true false false W args (.bool true) W' := by
 have hlt := hW.lt
 have hW0 := hW
 obtain ⟨p, q, hA, hV, e, hfz, hnd⟩ := hW
 rw [hs] at hV
 obtain ⟨rfl, rfl⟩ := trodVars_none hV
 subst e
 refine ⟨ds, [], p ++ [], [], p, [], hW0, ?_, ?_, ?_, Below.frame hb _, fun e => by cases e⟩
 ·rw [h1, ht]
  exact trodAll_mk1 (shut_bool hu true)
 ·rw [h2]
  exact below_all hl hb hr hA fun x hx => hlt x (by simpa using hx)
 ·rw [h3, hs]
  exact rfl
end
theorem okB_rows {α : Type} [Row α] {k n : Nat} {g : Nat → List Sh} (hk : ∀ ns : List Int, ns.length = k → (Row.get (α := α) (shInts ns)).isSome = true) (h : ∀ i, i < n → ∃ ns : List Int, ns.length = k ∧ g i = shInts ns ∧ ∀ n ∈ ns, int64 n) : okB α n g = true := by
 induction n with
 | zero => rfl
 | succ n ih =>
  obtain ⟨ns, h1, h2, _⟩ := h n (by omega)
  simp only [okB, ih fun i hi => h i (by omega), Bool.true_and]
  rw [h2]
  exact hk ns h1
theorem okB_oj {n : Nat} {g : Nat → List Sh} (h : ∀ i, i < n → ∃ ns : List Int, ns.length = 2 ∧ g i = shInts ns ∧ ∀ n ∈ ns, int64 n) : okB Oj n g = true := okB_rows (fun ns hn => by
 match ns, hn with
 | [a, b], _ => rfl) h
theorem okB_cl {n : Nat} {g : Nat → List Sh} (h : ∀ i, i < n → ∃ ns : List Int, ns.length = 4 ∧ g i = shInts ns ∧ ∀ n ∈ ns, int64 n) : okB Cl n g = true := okB_rows (fun ns hn => by
 match ns, hn with
 | [a, b, c, d], _ => rfl) h
end Go.Sx
namespace Go.Sx
open Go.RowKit Go.ChangeShapes Go.WideShapes Go.Deep Go.Pl
theorem kinds_oj {n : Nat} {g : Nat → List Sh} (h : ∀ i, i < n → ∃ ns : List Int, ns.length = 2 ∧ g i = shInts ns ∧ ∀ n ∈ ns, int64 n) : kindsB n (rwAt (α := Oj) g) = true := by
 unfold kindsB
 refine List.all_eq_true.2 fun j hj => ?_
 obtain ⟨ns, h1, h2, h3⟩ := h j (List.mem_range.1 hj)
 match ns, h1 with
 | [a, b], _ =>
  have e : rwAt (α := Oj) g j = ⟨a, b⟩ := by
   unfold rwAt
   rw [h2]; rfl
  rw [e]
  have := h3 a (by simp)
  unfold int64 at this
  have h1 : IntKind.i64.min = -9223372036854775808 := by decide
  have h2 : IntKind.i64.max = 9223372036854775807 := by decide
  simp [Lit.wf, IntKind.wrap] at this
  unfold in64
  simp
  omega
section
variable {H : Type} {enc : TypeId × Value → H} {P : Program} {w : World} {base : Nat} {spare : Nat → Bool} {held : Bool}
end
end Go.Sx
namespace Go.Proofs.YtikaakiadiaeoaaGreatDoor
open Go.ChangeShapes Go.WideShapes Go.ChangeAt Go.WideMaps Go.WideElems Go.RowKit Go.Sx Go.Pl
theorem own7 : ownKnob Tryz.prog.godebug = none := by kernel_rfl
theorem laidOut7 : laidOutB Tryz.prog = true := by kernel_rfl
theorem door7 (os : Os) (args : Array Value) : laidMetH Tryz.prog laid7 ((World.doorLaid Tryz.prog 400 os).forCall (fun _ _ => 0) ⟨#[], args, []⟩).memory :=
 laidMetH_of_parts3 (fuel := 8) (laidMet_of_run' 8 (by kernel_rfl) (by kernel_rfl)) (by kernel_rfl) (by kernel_rfl)
end Go.Proofs.YtikaakiadiaeoaaGreatDoor
namespace Go.Proofs.YtikaakiadiaeoaaGreatDoor
open Go.ChangeShapes Go.WideShapes Go.ChangeAt Go.WideMaps Go.WideElems Go.RowKit Go.Sx Go.Pl
set_option maxRecDepth 100000 in
theorem lifted7 (os : Os) (started : os.Started) (H : Type) (enc : TypeId × Value → H) :
  ReturnsInHanded {} Tryz.checked os 7 .any (fun w args => (Rows.storeAsksSpec.pre enc Tryz.prog Tryz.f7 [] false w args ∧ laidMetH Tryz.prog laid7 w) ∧ sizedMet enc Tryz.prog Tryz.f7 (OpenSpec.ofChange Rows.storeAsksSpec) false w args)
   (Rows.storeAsksSpec.post enc Tryz.prog Tryz.f7 false true false false) := by
 refine returnsInHanded_of_change_and (C := Tryz.checked) (X := fun w _ => laidMetH Tryz.prog laid7 w) (fun _ _ _ hh h => h.of_heap hh) own7 started (by kernel_rfl) Tryz.func7
  (ChangeSpec.witness_shaped (enc := enc) (C := Tryz.checked) (os := os) (X := fun w _ => laidMetH Tryz.prog laid7 w) false (World.doorLaid Tryz.prog 400 os) #[.slice none 0 0, .slice none 0 0, .slice none 0 0, .int .i64 0, .int .i64 0] 8 rfl (World.shaped_of_RefB (by kernel_rfl) (by kernel_rfl)) (by kernel_rfl) (by kernel_rfl) (by kernel_rfl) (door7 os _)) ?_
 intro W base args ds gs before hval0 hW _ _ hL _
 have hval : ∀ (j : Nat) t v, Tryz.f7.params[j]? = some t → args[j]? = some v → Value.okWide Tryz.prog W .any base t v := hval0
 have hW' := hW
 obtain ⟨p, q, hA0, hV, e, hfz, hnd⟩ := hW
 obtain ⟨rfl, rfl⟩ := trodVars_none hV
 have hA : DataW.TrodAll enc Tryz.prog W 0 (fun _ => true) true Tryz.f7.params.toList args.toList ds p := hA0
 rw [Tryz.params7] at hA hval
 obtain ⟨v0, vs0, d0, ds0, p0, q0, ea, rfl, rfl, t0, hA⟩ := trodAll_cons hA
 obtain ⟨v1, vs1, d1, ds1, p1, q1, rfl, rfl, rfl, t1, hA⟩ := trodAll_cons hA
 obtain ⟨v2, vs2, d2, ds2, p2, q2, rfl, rfl, rfl, t2, hA⟩ := trodAll_cons hA
 obtain ⟨v3, vs3, d3, ds3, p3, q3, rfl, rfl, rfl, t3, hA⟩ := trodAll_cons hA
 obtain ⟨v4, vs4, d4, ds4, p4, q4, rfl, rfl, rfl, t4, hA⟩ := trodAll_cons hA
 obtain ⟨rfl, rfl, rfl⟩ := trodAll_nil hA
 have at_ : ∀ (j : Nat) v, [v0, v1, v2, v3, v4][j]? = some v → args[j]? = some v := fun j v h => by rw [← Array.getElem?_toList, ea]; exact h
 obtain ⟨k0, s0, r0, a0⟩ := rep_slice_arg (k := 2) Tryz.underlying41 (by kernel_rfl) (by kernel_rfl) (by decide) (hval 0 41 v0 rfl (at_ 0 v0 rfl)) t0
 obtain ⟨k1, s1, r1, a1⟩ := rep_slice_arg (k := 2) Tryz.underlying41 (by kernel_rfl) (by kernel_rfl) (by decide) (hval 1 41 v1 rfl (at_ 1 v1 rfl)) t1
 obtain ⟨k2, s2, r2, a2⟩ := rep_slice_arg (k := 4) Tryz.underlying42 (by kernel_rfl) (by kernel_rfl) (by decide) (hval 2 42 v2 rfl (at_ 2 v2 rfl)) t2
 obtain ⟨x3, rfl, _, _, _⟩ := open_int Tryz.underlying3 (hval 3 3 v3 rfl (at_ 3 v3 rfl)) t3
 obtain ⟨x4, rfl, _, _, _⟩ := open_int Tryz.underlying3 (hval 4 3 v4 rfl (at_ 4 v4 rfl)) t4
 have hc := O7 (memOf W) W [.sl 2 k0 s0, .sl 2 k1 s1, .sl 4 k2 s2, .i .i64 x3, .i .i64 x4] [v0, v1, v2, .int .i64 x3, .int .i64 x4] (fun s => s = .b true) (memOf_on W) (gls_laid hL)
  ⟨r0, r1, r2, .i _ _, .i _ _, trivial⟩ ⟨okB_oj a0, kinds_oj a0, okB_oj a1, kinds_oj a1, okB_cl a2, rfl⟩
 have eargs : args = [v0, v1, v2, .int .i64 x3, .int .i64 x4].toArray := by rw [← ea]
 rw [eargs]
 refine hc.mono fun e W' ⟨v, s, H', he, hs, hr⟩ => ?_
 subst he hs
 obtain rfl := hr.bool
 refine ⟨_, rfl, post_law laidOut7 rfl (by kernel_rfl) (by kernel_rfl) Tryz.underlying4 (by rw [eargs] at hW'; exact hW') hr.below rfl rfl rfl⟩
theorem storeAsks_holds : Rows.StoreAsksSaid :=
 OpenClaim.holds_of_wide 7 Tryz.f7 rfl rfl rfl rfl rfl rfl rfl ⟨rfl, rfl, rfl, rfl, rfl⟩ rfl rfl rfl rfl rfl (by kernel_rfl) Tryz.func7 (by kernel_rfl)
  (of_decide_eq_true (by kernel_rfl)) (by unfold Func.isWrapper; first | (rw [if_pos (by decide +kernel)]; kernel_rfl) | (rw [if_neg (by decide +kernel)]; exact ⟨rfl, rfl⟩))
  (fun os started H enc _ => lifted7 os started H enc)
end Go.Proofs.YtikaakiadiaeoaaGreatDoor
namespace Go.Proofs.YtikaakiadiaeoaaGreatDoor
open Go
theorem storeAsks_card : Rows.StoreAsksCardSaid :=
 Claim7.holds_tied_plain_at .later [] [.data, .data, .data, .sentinel, .sentinel, .sentinel, .sentinel, .sentinel, .data, .data, .data, .data, .data, .data] true (true, "4a60ae6fac43e9984ca8293a95a0ce4093e80da91277938538b84fd690e406b6") true
  storeAsks_holds (fun _ h => by cases h) (by kernel_rfl) (fun _ h => by cases h) storeAsks_row_tie rfl ⟨rfl, rfl⟩ (by kernel_rfl) rfl
  (fun f fn hf hfn => by
   obtain rfl : f = 7 := Option.some.inj ((show Tryz.prog.funcNamed "umpire/umpirelaw7.StoreAsks" = some 7 by kernel_rfl).symm.trans hf) |>.symm
   obtain rfl : fn = Tryz.f7 := (Option.some.inj (Tryz.func7.symm.trans hfn)).symm
   exact ⟨by kernel_rfl, fun j t ht => by
    rw [Tryz.params7] at ht
    have hm : t ∈ [41, 41, 42, 3, 3] := by simpa using Array.mem_of_getElem? ht
    have hall : ([41, 41, 42, 3, 3].all fun u => !Tryz.prog.wantsStandIn u) = true := by kernel_rfl
    exact (show Tryz.prog.wantsStandIn t = false by simpa using List.all_eq_true.1 hall t hm)⟩)
  (by kernel_rfl)
#print axioms storeAsks_card
end Go.Proofs.YtikaakiadiaeoaaGreatDoor
