/-
  Chapter 6: SpecApart. From the readings of a row to the shapes of the executor: ints, flat structs of ints, slices of them, the listed variables; and back: the row's post. The listed variables, as the executor's globals. Chapter 6: the listed variables are the executor's globals. Own work (written by program). From a law's summary to its row's post: it answers true, and what it was given reads as it did. Arguments of chapter 7: the kinds of objects fit; a struct of ints. Chapter 6: what the laws' rows have in common. Arguments of chapter 6: rows of three numbers. Chapter 6: the law SpecApart, as its row says. Chapter 6: the tied card of SpecApart.
-/
import Derived.Test.YtikaakiadiaeoaaGreatDoorP10
import Derived.ProofKit
import Derived.Deep.Slices
import Derived.Stop.LaidErr
import Derived.LaidMore
import Derived.OpenShut
import Derived.MakeChecks
import Derived.Test.YtikaakiadiaeoaaGreatDoorRows
import Derived.Carry
import Derived.Stop.Joined
import GoSem.PinnedTables
import Derived.Test.YtikaakiadiaeoaaGreatDoorTie
import Derived.Test.YtikaakiadiaeoaaGreatDoorCards
namespace Go.Pl
open Go Go.Sx Go.Proofs
def nxL (op k v : Int) (ps : List Pr) : List Pr := (opT ⟨4, 0, [], ps⟩ op k v).1.ps
def rtL (op k v : Int) (ps : List Pr) : Int := (opT ⟨4, 0, [], ps⟩ op k v).2.1
def gtL (op k v : Int) (ps : List Pr) : Int := (opT ⟨4, 0, [], ps⟩ op k v).2.2
theorem lstP (ps : List Pr) : lst Pr (len ps) (fnR (nth ps)) = ps := lst_nth ps
theorem nxM_e (op k v : Int) (ps : List Pr) : nxM op k v (len ps) (fnR (nth ps)) = nxL op k v ps := by unfold nxM nxL; rw [lstP]
theorem rtM_e (op k v : Int) (ps : List Pr) : rtM op k v (len ps) (fnR (nth ps)) = rtL op k v ps := by unfold rtM rtL; rw [lstP]
theorem gtM_e (op k v : Int) (ps : List Pr) : gtM op k v (len ps) (fnR (nth ps)) = gtL op k v ps := by unfold gtM gtL; rw [lstP]
theorem eqM_e (ps qs : List Pr) : eqM (len ps) (fnR (nth ps)) (len qs) (fnR (nth qs)) = decide (ps = qs) := by unfold eqM; rw [lstP, lstP]
theorem good_op {op k v : Int} (h : goodM op k v = true) : (op = 7 ∨ op = 8 ∨ op = 9) ∧ 0 ≤ k ∧ k ≤ 1000 := by
 unfold goodM badM at h
 simp only [Bool.not_eq_true', Bool.or_eq_false_iff] at h
 obtain ⟨h1, h2⟩ := h
 have h1 : ofOp op = 4 := by simpa [badOp] using h1
 constructor
 ·unfold ofOp at h1
  repeat' split at h1
  all_goals first | omega | assumption
 ·simp [badKV] at h2
  omega
theorem wf_iff {ps : List Pr} : wfP ps = true ↔ SortP ps ∧ ∀ p ∈ ps, 0 ≤ p.key ∧ p.key ≤ 1000 := by
 unfold wfP SortP
 rw [Bool.and_eq_true, decide_eq_true_eq, List.all_eq_true]
 simp
def MapI (i : Nat) (ps : List Pr) : Prop := wfP ps = true ∧ ps.length ≤ i
theorem MapI.sort {i : Nat} {ps : List Pr} (h : MapI i ps) : SortP ps := (wf_iff.1 h.1).1
theorem MapI.ok {i : Nat} {ps : List Pr} (h : MapI i ps) (hi : i ≤ 1000) : okM (len ps) (fnR (nth ps)) = true := by
 unfold okM wfG
 rw [lstP, okB_put, h.1]
 have := h.2
 have e : (len ps ≤ 100000) := by unfold len; omega
 simp only [Bool.and_eq_true, decide_eq_true_eq]
 refine ⟨⟨⟨trivial, e⟩, trivial⟩, room_le (by unfold len; omega) (by omega)⟩
theorem map_nx {i : Nat} {ps : List Pr} {op k v : Int} (h : MapI i ps) (hg : goodM op k v = true) : MapI (i + 1) (nxL op k v ps) := by
 obtain ⟨hop, hk⟩ := good_op hg
 have hs := h.sort
 have hb := (wf_iff.1 h.1).2
 have hl := h.2
 rcases hop with rfl | rfl | rfl
 ·show MapI (i + 1) (putP ps k v)
  refine ⟨wf_iff.2 ⟨(put_keys hs).2, fun p hp => ?_⟩, ?_⟩
  ·rcases (put_keys hs).1 p hp with e | ⟨q, hq, e⟩
   ·rw [e]; exact hk
   ·rw [← e]; exact hb q hq
  ·rw [len_put]
   split <;> omega
 ·show MapI (i + 1) ps
  exact ⟨h.1, by omega⟩
 ·show MapI (i + 1) (delP ps k)
  refine ⟨wf_iff.2 ⟨(del_keys hs).2, fun p hp => hb p ((del_keys hs).1 p hp)⟩, ?_⟩
  rw [len_del h.1]
  split <;> omega
def updO (op v : Int) (o : Option Int) : Option Int := if op = 7 then some v else if op = 9 then none else o
theorem get_nx {ps : List Pr} {op k v : Int} (hs : SortP ps) (hop : op = 7 ∨ op = 8 ∨ op = 9) (j : Int) : getP (nxL op k v ps) j = if j = k then updO op v (getP ps j) else getP ps j := by
 rcases hop with rfl | rfl | rfl
 ·exact get_put hs j
 ·show getP ps j = _
  split <;> rfl
 ·exact get_del hs j
theorem sort_nx {ps : List Pr} {op k v : Int} (hs : SortP ps) (hop : op = 7 ∨ op = 8 ∨ op = 9) : SortP (nxL op k v ps) := by
 rcases hop with rfl | rfl | rfl
 ·exact (put_keys hs).2
 ·exact hs
 ·exact (del_keys hs).2
theorem rt_get {ps : List Pr} {op k v : Int} (hop : op = 7 ∨ op = 8 ∨ op = 9) : rtL op k v ps = if op = 7 then 1 else if (getP ps k).isSome = true then 3 else 2 := by
 rcases hop with rfl | rfl | rfl
 ·rfl
 ·show retP ps k = _
  unfold retP
  rw [has_get]; rfl
 ·show retP ps k = _
  unfold retP
  rw [has_get]; rfl
theorem gt_get {ps : List Pr} {op k v : Int} (hs : SortP ps) (hop : op = 7 ∨ op = 8 ∨ op = 9) : gtL op k v ps = if op = 7 then 0 else (getP ps k).getD 0 := by
 rcases hop with rfl | rfl | rfl
 ·rfl
 ·show valP ps k = _
  rw [val_get hs]; rfl
 ·show valP ps k = _
  rw [val_get hs]; rfl
section
variable {i : Nat} {ps : List Pr} {a k v b k' v' : Int}
theorem apart_nx (h : MapI i ps) (h1 : goodM a k v = true) (h2 : goodM b k' v' = true) (hk : k ≠ k') : nxL b k' v' (nxL a k v ps) = nxL a k v (nxL b k' v' ps) := by
 obtain ⟨o1, _⟩ := good_op h1
 obtain ⟨o2, _⟩ := good_op h2
 have s1 := sort_nx (k := k) (v := v) h.sort o1
 have s2 := sort_nx (k := k') (v := v') h.sort o2
 refine get_ext (sort_nx s1 o2) (sort_nx s2 o1) fun j => ?_
 rw [get_nx s1 o2, get_nx s2 o1, get_nx h.sort o1, get_nx h.sort o2]
 by_cases e : j = k
 ·rw [if_pos e, if_pos e, if_neg (by omega), if_neg (by omega)]
 ·rw [if_neg e, if_neg e]
theorem apart_rt (h : MapI i ps) (h1 : goodM a k v = true) (h2 : goodM b k' v' = true) (hk : k ≠ k') : rtL a k v (nxL b k' v' ps) = rtL a k v ps := by
 obtain ⟨o1, _⟩ := good_op h1
 obtain ⟨o2, _⟩ := good_op h2
 rw [rt_get o1, rt_get o1, get_nx h.sort o2, if_neg hk]
theorem apart_gt (h : MapI i ps) (h1 : goodM a k v = true) (h2 : goodM b k' v' = true) (hk : k ≠ k') : gtL a k v (nxL b k' v' ps) = gtL a k v ps := by
 obtain ⟨o1, _⟩ := good_op h1
 obtain ⟨o2, _⟩ := good_op h2
 rw [gt_get (sort_nx h.sort o2) o1, gt_get h.sort o1, get_nx h.sort o2, if_neg hk]
end
end Go.Pl
namespace Go.Proofs
open Go Go.Sx Go.Pl
theorem okM_wf {b : Nat} {l : Nat → List Sh} (h : okM b l = true) : wfG b l = true ∧ okB Pr b l = true ∧ roomB (b + 1) 16 = true := by
 unfold okM at h
 rw [Bool.and_eq_true] at h
 refine ⟨h.1, ?_, h.2⟩
 have := h.1
 unfold wfG at this
 rw [Bool.and_eq_true, Bool.and_eq_true] at this
 exact this.1.1
theorem bad_good {op k v : Int} (h : badM op k v = false) : goodM op k v = true := by unfold goodM; rw [h]; rfl
theorem OM42 : FnOK Tryz.prog (gls7 W7) 42 M42 := by
 intro H w shs args φ hon hg hr h
 unfold M42 at h
 split at h
 ·rename_i s2 s3 t u v
  split at h
  ·rename_i g b l op k v e1 e2 e3 e4 e5
   obtain ⟨h1, h2⟩ := h
   obtain ⟨m1, m2, m3⟩ := okM_wf h1
   have m4 : mapOK op b l = true := by unfold mapOK; rw [m1, m3]; simp
   have m5 : roomB (0 + 1) 8 = true := room_le (by omega) (by omega)
   cases hb : badM op k v with
   | true =>
    have hφ := h2.1 hb
    refine (O42 H w _ args (fun s => s = .tup [.agg (staS zeroT), .i .i64 0, .i .i64 0, .er (errM op) 242]) hon hg hr ?_).mono fun e w' ⟨v', s, H', he, hs, r⟩ => ?_
    ·unfold F42
     simp only [e1, e2, e3, e4, e5]
     refine ⟨rfl, m2, m5, fun q => ?_, fun q => ⟨fun _ => ?_, fun q2 => ?_⟩⟩
     ·show _ = _
      unfold errM; rw [if_pos q]
     ·show _ = _
      unfold errM; rw [if_neg (by rw [q]; simp)]
     ·unfold badM at hb
      rw [q] at hb
      exact no2 q2 hb
    ·subst hs
     obtain ⟨H2, r2⟩ := (res_q4 r).wk (s' := erZ (errM op)) ⟨⟨rfl, rfl, .inl ⟨rfl, rfl⟩, .inl ⟨rfl, rfl⟩, trivial⟩, rfl, rfl, rfl, trivial⟩
     exact ⟨v', _, H2, he, hφ, r2⟩
   | false =>
    have hφ := h2.2 hb
    have e : opT ⟨4, 0, lst Int 0 g, lst Pr b l⟩ op k v = (⟨4, 0, [], nxM op k v b l⟩, rtM op k v b l, gtM op k v b l) := by
     rcases (good_op (bad_good hb)).1 with rfl | rfl | rfl <;> rfl
    have hb' : badOp 4 op = false ∧ badKV 4 0 op k v = false := by
     unfold badM at hb
     rwa [Bool.or_eq_false_iff] at hb
    refine (O42 H w _ args (fun s => s = .tup [.agg (staS ⟨4, 0, [], nxM op k v b l⟩), .i .i64 (rtM op k v b l), .i .i64 (gtM op k v b l), .v .nilIface]) hon hg hr ?_).mono fun e w' ⟨v', s, H', he, hs, r⟩ => ?_
    ·unfold F42
     simp only [e1, e2, e3, e4, e5]
     refine ⟨rfl, m2, m5, fun q => no2 hb'.1 q, fun _ => ⟨fun q => no2 hb'.2 q, fun _ => ⟨m4, ?_⟩⟩⟩
     show _ = _
     rw [e]
    ·subst hs
     obtain ⟨H2, r2⟩ := (res_q2 r).wk (s' := okRes op k v b l) ⟨⟨rfl, rfl, .inl ⟨rfl, rfl⟩, wk_sl, trivial⟩, rfl, rfl, rfl, trivial⟩
     exact ⟨v', _, H2, he, hφ, r2⟩
  ·exact h.elim
 ·exact h.elim
theorem OM42g : FnOK Tryz.prog (gls7 W7) 42 M42g := OM42.mono fun H shs args φ hr h => by
 unfold M42g at h
 split at h
 ·split at h
  ·rename_i e1 e2 e3 e4 e5
   unfold M42
   simp only [e1, e2, e3, e4, e5]
   obtain ⟨h1, h2, h3⟩ := h
   refine ⟨h1, fun q => ?_, fun _ => h3⟩
   unfold goodM at h2
   rw [q] at h2; cases h2
  ·exact h.elim
 ·exact h.elim
theorem OM42b (e : Nat) : FnOK Tryz.prog (gls7 W7) 42 (M42b e) := OM42.mono fun H shs args φ hr h => by
 unfold M42b at h
 split at h
 ·split at h
  ·rename_i e1 e2 e3 e4 e5
   unfold M42
   simp only [e1, e2, e3, e4, e5]
   obtain ⟨h1, h2, h3, h4⟩ := h
   have h3 := Nat.eq_of_beq_eq_true h3
   refine ⟨h1, fun q => ?_, fun q => no2 q h2⟩
   rw [h3]; exact h4
  ·exact h.elim
 ·exact h.elim
theorem OM45 : FnOK Tryz.prog (gls7 W7) 45 M45 := O45.mono fun H shs args φ hr h => by
 unfold M45 at h
 split at h
 ·split at h
  ·rename_i e1 e2 e3 e4
   unfold F45
   simp only [e1, e2, e3, e4]
   obtain ⟨h1, h2, h3⟩ := h
   refine ⟨rfl, h1, rfl, h2, ?_⟩
   have e : ∀ {b b' : Nat} {l l' : Nat → List Sh} {g g' : Nat → List Sh}, eqT ⟨4, 0, lst Int 0 g, lst Pr b l⟩ ⟨4, 0, lst Int 0 g', lst Pr b' l'⟩ = eqM b l b' l' := by
    intro b b' l l' g g'
    unfold eqT eqM
    by_cases q : lst Pr b l = lst Pr b' l'
    ·rw [q]; simp [lst]
    ·simp [q]
   show φ (.b (eqT _ _))
   rw [e]; exact h3
  ·exact h.elim
 ·exact h.elim
theorem OM41 : FnOK Tryz.prog (gls7 W7) 41 M41 := by
 intro H w shs args φ hon hg hr h
 unfold M41 at h
 split at h
 ·rename_i t u
  split at h
  ·rename_i e1 e2
   match args, hr with
   | [v], ⟨r, _⟩ =>
    have r' : Rep H (.agg [.i .i64 4, .i .i64 0]) v := by
     cases r with
     | agg _ vs hl hr =>
      refine .agg _ _ hl fun j s' v' h1 h2 => ?_
      match j, h1 with
      | 0, h1 => cases h1; exact rep_num e1 (hr 0 _ _ rfl h2)
      | 1, h1 => cases h1; exact rep_num e2 (hr 1 _ _ rfl h2)
      | j + 2, h1 => cases h1
    refine (O41 H w [.agg [.i .i64 4, .i .i64 0]] [v] (fun s => s = .tup [.agg [.i .i64 4, .i .i64 0, .sl 1 0 noI, .sl 2 0 noP], .v .nilIface]) hon hg ⟨r', trivial⟩ ⟨rfl, ⟨fun q => (Bool.false_ne_true q).elim, fun _ => rfl⟩⟩).mono fun e w' ⟨v', s, H', he, hs, r⟩ => ?_
    subst hs
    exact ⟨v', _, H', he, h, res_q1 r⟩
  ·exact h.elim
 ·exact h.elim
theorem fokM (stop : Nat → List Nat → Bool) : FnsOK Tryz.prog (C7 prim W7 specM stop) := C7.fok (fun g F h => by
 unfold specM at h
 split at h
 ·cases h; exact O40
 ·cases h; exact OM41
 ·cases h; exact OM42
 ·cases h; exact OM45
 ·cases h) fun g h => by
 unfold specM at h
 split at h
 all_goals first | (cases h; done) | kernel_rfl
theorem fnOK_no {g : Nat} : FnOK Tryz.prog (gls7 W7) g fun _ => .fail := fun H w shs args φ hon hg hr h => h.elim
theorem fokMg (stop : Nat → List Nat → Bool) : FnsOK Tryz.prog (C7 prim W7 specMg stop) := C7.fok (fun g F h => by
 unfold specMg at h
 split at h
 ·cases h; exact OM42g
 ·cases h; exact fnOK_no
 ·cases h) fun g h => by
 unfold specMg at h
 split at h
 all_goals first | (cases h; done) | kernel_rfl
theorem fokMb (e : Nat) (stop : Nat → List Nat → Bool) : FnsOK Tryz.prog (C7 prim W7 (specMb e) stop) := C7.fok (fun g F h => by
 unfold specMb at h
 split at h
 ·cases h; exact OM42b e
 ·cases h; exact fnOK_no
 ·cases h) fun g h => by
 unfold specMb at h
 split at h
 all_goals first | (cases h; done) | kernel_rfl
section
variable {H0 : Mem} {w0 : World} {φ : Sh → Prop} {n : Nat} {c : Nat → Ca} {x y z x' y' z' : Int}
theorem end10 {i : Nat} {ps : List Pr} (hi : ¬ i < n) (hs : i ≤ 300) (hI : MapI i ps) (hφ : φ (.b true)) : GoesS Tryz.prog (C7 prim W7 specM sAl) (K0 H0 w0) 10 tbA (LP10 n c x y z x' y' z' (len ps) (nth ps) (i : Nat)) [] emp φ := by
 refine gSt (C7.ok _ _) (fokM _) (hold := nH0) (m := 300) (n := 400) (ts := [⟨10, tdA, LP10 n c x y z x' y' z' 0 (nth []) 0, []⟩]) ?_
 have lt {P : Prop} (h : prim.lt (i : Int) (prim.ofN n) = true) : P := by simp [prim_lt, prim_ofN] at h; omega
 have ok1 (h : badM x y z = false) : okM (len (nxM x y z (len ps) (fnR (nth ps)))) (fnR (nth (nxM x y z (len ps) (fnR (nth ps))))) = true := by
  rw [nxM_e]; exact (map_nx hI (bad_good h)).ok (by omega)
 have ok2 (h : badM x' y' z' = false) : okM (len (nxM x' y' z' (len ps) (fnR (nth ps)))) (fnR (nth (nxM x' y' z' (len ps) (fnR (nth ps))))) = true := by
  rw [nxM_e]; exact (map_nx hI (bad_good h)).ok (by omega)
 have ne (h : prim.eq y y' = false) : y ≠ y' := by simpa [prim_eq] using h
 have z6 (h1 : badM x y z = false) (h2 : badM x' y' z' = false) (h3 : prim.eq y y' = false) : eqM (len (nxM x' y' z' (len (nxM x y z (len ps) (fnR (nth ps)))) (fnR (nth (nxM x y z (len ps) (fnR (nth ps))))))) (fnR (nth (nxM x' y' z' (len (nxM x y z (len ps) (fnR (nth ps)))) (fnR (nth (nxM x y z (len ps) (fnR (nth ps)))))))) (len (nxM x y z (len (nxM x' y' z' (len ps) (fnR (nth ps)))) (fnR (nth (nxM x' y' z' (len ps) (fnR (nth ps))))))) (fnR (nth (nxM x y z (len (nxM x' y' z' (len ps) (fnR (nth ps)))) (fnR (nth (nxM x' y' z' (len ps) (fnR (nth ps)))))))) = true := by
  rw [nxM_e, nxM_e, nxM_e, nxM_e, eqM_e]
  exact decide_eq_true (apart_nx hI (bad_good h1) (bad_good h2) (ne h3))
 have z7 (h1 : badM x y z = false) (h2 : badM x' y' z' = false) (h3 : prim.eq y y' = false) : prim.eq (rtM x y z (len ps) (fnR (nth ps))) (rtM x y z (len (nxM x' y' z' (len ps) (fnR (nth ps)))) (fnR (nth (nxM x' y' z' (len ps) (fnR (nth ps)))))) = true := by
  rw [nxM_e, rtM_e, rtM_e, apart_rt hI (bad_good h1) (bad_good h2) (ne h3)]; simp [prim_eq]
 have z8 (h1 : badM x y z = false) (h2 : badM x' y' z' = false) (h3 : prim.eq y y' = false) : prim.eq (gtM x y z (len ps) (fnR (nth ps))) (gtM x y z (len (nxM x' y' z' (len ps) (fnR (nth ps)))) (fnR (nth (nxM x' y' z' (len ps) (fnR (nth ps)))))) = true := by
  rw [nxM_e, gtM_e, gtM_e, apart_gt hI (bad_good h1) (bad_good h2) (ne h3)]; simp [prim_eq]
 have z9 (h1 : badM x y z = false) (h2 : badM x' y' z' = false) (h3 : prim.eq y y' = false) : prim.eq (rtM x' y' z' (len ps) (fnR (nth ps))) (rtM x' y' z' (len (nxM x y z (len ps) (fnR (nth ps)))) (fnR (nth (nxM x y z (len ps) (fnR (nth ps)))))) = true := by
  rw [nxM_e, rtM_e, rtM_e, apart_rt hI (bad_good h2) (bad_good h1) (ne h3).symm]; simp [prim_eq]
 have z10 (h1 : badM x y z = false) (h2 : badM x' y' z' = false) (h3 : prim.eq y y' = false) : prim.eq (gtM x' y' z' (len ps) (fnR (nth ps))) (gtM x' y' z' (len (nxM x y z (len ps) (fnR (nth ps)))) (fnR (nth (nxM x y z (len ps) (fnR (nth ps)))))) = true := by
  rw [nxM_e, gtM_e, gtM_e, apart_gt hI (bad_good h2) (bad_good h1) (ne h3).symm]; simp [prim_eq]
 have z4 (h3 : prim.eq x (Int.ofNat 8) = true) : prim.nt (eqM (len (nxM x y z (len ps) (fnR (nth ps)))) (fnR (nth (nxM x y z (len ps) (fnR (nth ps))))) (len ps) (fnR (nth ps))) = false := by
  have : x = 8 := by simpa [prim_eq] using h3
  subst this
  rw [nxM_e, eqM_e]
  have : nxL 8 y z ps = ps := rfl
  rw [this]; simp [prim_nt]
 refine all_b10 prim W7 n c x y z x' y' z' i 0 (len ps) 0 (nth ps) (nth []) rfl rfl rfl rfl rfl rfl rfl rfl rfl rfl ?_ ?_ ?_ ?_ ?_ ?_ ?_ ?_ ?_ ?_ ?_ ?_ ?_ ?_ ?_ ?_ ?_ ?_ ?_ ?_ ?_ ?_ ?_ ?_ ?_ ?_ ?_ ?_ ?_ ?_ ?_ ?_ ?_ ?_ ?_ ?_ ?_
 ·exact fun q0 => lt q0
 ·exact fun _ => hI.ok (by omega)
 ·exact fun _ _ _ _ => okB_put _ _
 ·exact fun _ _ _ _ => okB_put _ _
 ·exact fun _ q1 _ _ _ _ => ok1 q1
 ·exact fun _ _ q2 _ _ _ q3 => no2 q2 q3
 ·exact fun _ _ q2 _ _ _ _ => ok2 q2
 ·exact fun _ _ _ _ _ _ _ _ => okB_put _ _
 ·exact fun _ _ _ _ _ _ _ _ => okB_put _ _
 ·exact fun _ q1 _ _ _ => ok1 q1
 ·exact fun _ _ q2 _ _ q3 => no2 q2 q3
 ·exact fun _ _ q2 _ _ _ => ok2 q2
 ·exact fun _ _ _ _ _ _ _ => okB_put _ _
 ·exact fun _ _ _ _ _ _ _ => okB_put _ _
 ·exact fun q0 => lt q0
 ·exact fun _ _ _ => hφ
 ·exact fun _ _ _ => hφ
 ·exact fun _ _ _ => hφ
 ·exact fun _ _ _ q3 q4 => no2 (z4 q3) q4
 ·exact fun _ _ _ _ _ _ => hφ
 ·exact fun _ q1 _ _ _ _ _ q2 => no2 q1 q2
 ·exact fun _ _ q1 _ _ _ q2 _ => no2 q1 q2
 ·exact fun _ q1 _ _ _ _ _ q2 => no2 q1 q2
 ·intro _ q1 q2 _ _ q5 _ _ _ _ _ _
  have := z10 q1 q2 q5
  show φ (.b _)
  rw [this]; exact hφ
 ·exact fun _ q1 q2 _ _ q5 _ _ _ _ _ q6 => no2 q6 (z9 q1 q2 q5)
 ·exact fun _ q1 q2 _ _ q5 _ _ _ _ q6 => no2 q6 (z8 q1 q2 q5)
 ·exact fun _ q1 q2 _ _ q5 _ _ _ q6 => no2 q6 (z7 q1 q2 q5)
 ·exact fun _ q1 q2 _ _ q5 _ _ q6 => no2 q6 (z6 q1 q2 q5)
 ·exact fun _ _ _ _ _ => hφ
 ·exact fun _ q1 _ _ _ _ q2 => no2 q1 q2
 ·exact fun _ _ q1 _ _ q2 _ => no2 q1 q2
 ·exact fun _ q1 _ _ _ _ q2 => no2 q1 q2
 ·intro _ q1 q2 _ q5 _ _ _ _ _ _
  have := z10 q1 q2 q5
  show φ (.b _)
  rw [this]; exact hφ
 ·exact fun _ q1 q2 _ q5 _ _ _ _ _ q6 => no2 q6 (z9 q1 q2 q5)
 ·exact fun _ q1 q2 _ q5 _ _ _ _ q6 => no2 q6 (z8 q1 q2 q5)
 ·exact fun _ q1 q2 _ q5 _ _ _ q6 => no2 q6 (z7 q1 q2 q5)
 ·exact fun _ q1 q2 _ q5 _ _ q6 => no2 q6 (z6 q1 q2 q5)
theorem err_cases (op : Int) : isE 1 op = true ∨ isE 3 op = true := by
 unfold isE errM
 split
 ·exact .inl rfl
 ·exact .inr rfl
theorem loop10 (hn : n ≤ 300) (hφ : φ (.b true)) : ∀ r i ps, i + r = n → MapI i ps → GoesS Tryz.prog (C7 prim W7 specM sAl) (K0 H0 w0) 10 tdA (LP10 n c x y z x' y' z' (len ps) (nth ps) (i : Nat)) [] emp φ
 | 0, i, ps, hi, hI => by
  refine gSi (fn := Tryz.f10) (tb := tbA) (by kernel_rfl) (by kernel_rfl) ?_
  exact end10 (by omega) (by omega) hI hφ
 | r + 1, i, ps, hi, hI => by
  refine gSi (fn := Tryz.f10) (tb := tbA) (by kernel_rfl) (by kernel_rfl) ?_
  have w1 : prim.add .i64 (i : Int) (Int.ofNat 1) = ((i + 1 : Nat) : Int) := add1 (by omega)
  have no {P : Prop} (h : prim.lt (i : Int) (prim.ofN n) = false) : P := by simp [prim_lt, prim_ofN] at h; omega
  have inb (h : prim.lt (i : Int) (prim.ofN n) = true) : prim.inB (i : Int) n = true := by simp [prim_inB]; omega
  have hok := hI.ok (show i ≤ 1000 by omega)
  have hI' : MapI (i + 1) ps := ⟨hI.1, Nat.le_succ_of_le hI.2⟩
  cases hb : badM (c i).op (c i).key (c i).val with
  | false =>
   have hg := bad_good hb
   refine goesS_spec (s := specMg) (stop := sAl) ?_
   refine gSt (C7.ok _ _) (fokMg _) (hold := nH0) (m := 300) (n := 400) (ts := [⟨10, tdA, LP10 n c x y z x' y' z' (len (nxM (c i).op (c i).key (c i).val (len ps) (fnR (nth ps)))) (nth (nxM (c i).op (c i).key (c i).val (len ps) (fnR (nth ps)))) ((i + 1 : Nat) : Int), []⟩]) ?_
   refine all_c10 prim W7 n c x y z x' y' z' i _ (len ps) _ (nth ps) _ rfl rfl rfl inb (fun _ => hok) (fun _ => hg) (fun q => no q) (fun q => no q) (fun q => no q) (fun q => no q) (fun q => no q) ?_ (fun q => no q) (fun q => no q) (fun q => no q)
   intro q0
   refine ⟨⟨rfl, w1, rfl, rfl, rfl, rfl, rfl, rfl, rfl, rfl, rfl, rfl, trivial⟩, _, rfl, goesS_spec (s := specM) (stop := sAl) ?_⟩
   have := loop10 hn hφ r (i + 1) _ (by omega) (map_nx hI hg)
   rw [← nxM_e] at this
   exact this
  | true =>
   rcases err_cases (c i).op with he | he
   ·refine goesS_spec (s := specMb 1) (stop := sAl) ?_
    refine gSt (C7.ok _ _) (fokMb 1 _) (hold := nH0) (m := 300) (n := 400) (ts := [⟨10, tdA, LP10 n c x y z x' y' z' (len ps) (nth ps) ((i + 1 : Nat) : Int), []⟩]) ?_
    refine all_d10 prim W7 n c x y z x' y' z' i _ (len ps) _ (nth ps) _ rfl inb (fun _ => hok) (fun _ => hb) (fun _ => he) (fun q => no q) (fun q => no q) (fun q => no q) (fun q => no q) (fun q => no q) ?_ (fun q => no q)
    exact fun q0 => ⟨⟨rfl, w1, rfl, rfl, rfl, rfl, rfl, rfl, rfl, rfl, rfl, rfl, trivial⟩, _, rfl, goesS_spec (stop := sAl) (loop10 hn hφ r (i + 1) _ (by omega) hI')⟩
   ·refine goesS_spec (s := specMb 3) (stop := sAl) ?_
    refine gSt (C7.ok _ _) (fokMb 3 _) (hold := nH0) (m := 300) (n := 400) (ts := [⟨10, tdA, LP10 n c x y z x' y' z' (len ps) (nth ps) ((i + 1 : Nat) : Int), []⟩]) ?_
    refine all_e10 prim W7 n c x y z x' y' z' i _ (len ps) _ (nth ps) _ rfl inb (fun _ => hok) (fun _ => hb) (fun _ => he) (fun q => no q) (fun q => no q) (fun q => no q) (fun q => no q) (fun q => no q) ?_ (fun q => no q)
    exact fun q0 => ⟨⟨rfl, w1, rfl, rfl, rfl, rfl, rfl, rfl, rfl, rfl, rfl, rfl, trivial⟩, _, rfl, goesS_spec (stop := sAl) (loop10 hn hφ r (i + 1) _ (by omega) hI')⟩
end
def F10 : List Sh → Tree Sh
 | [.sl 3 n g, .agg [.i .i64 _, .i .i64 _, .i .i64 _], .agg [.i .i64 _, .i .i64 _, .i .i64 _]] => .need (okB Ca n g) (.leaf (.b true))
 | _ => .fail
theorem O10 : FnOK Tryz.prog (gls7 W7) 10 F10 := by
 refine fnOK_S (C := C7 prim W7 specM sAl) (C7.ok _ _) (fn := Tryz.f10) (by kernel_rfl) (by kernel_rfl) fun H w shs args φ hrep h => ?_
 have hn : Tryz.f10.ntmps = 179 := by kernel_rfl
 unfold F10 at h
 split at h
 ·rename_i n g x y z x' y' z'
  obtain ⟨h1, hφ⟩ := h
  match args, hrep with
  | [v, v1, v2], ⟨r, r1, r2, _⟩ =>
   refine ⟨[.sl 3 n (fnR (rwAt (α := Ca) g)), .agg [.i .i64 x, .i .i64 y, .i .i64 z], .agg [.i .i64 x', .i .i64 y', .i .i64 z']], ⟨rep_rows r h1, r1, r2, trivial⟩, L0, ?_⟩
   have hφ : φ (.b true) := hφ
   generalize rwAt (α := Ca) g = c
   refine gSt (C7.ok _ _) (fokM _) (hold := nH0) (m := 300) (n := 400) (ts := [⟨10, tdA, LP10 n c x y z x' y' z' 0 (nth []) ((0 : Nat) : Int), []⟩]) ?_
   rw [hn]
   exact all_a10 prim W7 n c x y z x' y' z' _ 0 (nth []) rfl (fun _ => hφ) (fun q => ⟨⟨rfl, rfl, rfl, rfl, rfl, rfl, rfl, rfl, rfl, rfl, rfl, rfl, trivial⟩, _, rfl, loop10 (lt_f q) hφ n 0 [] (by omega) ⟨rfl, by simp⟩⟩)
 ·exact h.elim
end Go.Proofs
namespace Go.Sx
open Go.RowKit Go.ChangeShapes Go.WideShapes Go.Deep
def memOf (w : World) : Mem := fun b => w.heap[b]?
theorem memOf_on (w : World) : (memOf w).on w := fun _ _ h => h
theorem hcell_memOf {w : World} {a : Addr} {v : Value} (h : w.cell? a = some v) : hcell (memOf w) a.block a.off = some v ∧ a.spot = none := by
 unfold World.cell? at h
 unfold hcell memOf
 split at h
 ·rename_i c t f hb
  rw [hb]
  cases hs : a.spot with
  | none => simp only [hs, Option.isSome_none, Bool.false_eq_true, if_false] at h; exact ⟨h, rfl⟩
  | some x => simp [hs] at h
 ·cases h
section
variable {H : Type} {enc : TypeId × Value → H} {P : Program} {w : World} {base : Nat} {spare : Nat → Bool} {held : Bool}
def flatB (P : Program) (fs : Array Field) (k : Nat) : Bool :=
 fs.size == k && (List.range k).all fun i => match fs[i]? with
  | some f => f.offset == i && (match P.underlying f.type with | some (.int .i64) => true | _ => false) && P.cellsOf f.type == 1
  | none => false
def rowB (P : Program) (e k : Nat) : Bool :=
 match P.underlying e with
 | some (.int .i64) => k == 1 && P.cellsOf e == 1
 | some (.struct fs) => flatB P fs k && P.cellsOf e == k
 | _ => false
def int64 (n : Int) : Prop := (Lit.int .i64 n).wf = true
theorem flat_cells {e k fuel : Nat} {cs : List Value} {x : DataW H × List MemPlace} (hr : rowB P e k = true) (h : DataW.trod enc P w base spare held fuel e cs = some x) :
  ∃ ns : List Int, ns.length = k ∧ cs = ns.map (Value.int .i64) ∧ ∀ n ∈ ns, int64 n := by
 unfold rowB at hr
 split at hr
 ·rename_i hu
  simp only [Bool.and_eq_true, beq_iff_eq] at hr
  obtain ⟨n, rfl, _, hw⟩ := DataW.trod_int hu h
  exact ⟨[n], hr.1.symm, rfl, fun m hm => by simp at hm; subst hm; exact hw⟩
 ·rename_i fs hu
  simp only [Bool.and_eq_true, beq_iff_eq] at hr
  obtain ⟨hf, hc⟩ := hr
  unfold flatB at hf
  simp only [Bool.and_eq_true, beq_iff_eq] at hf
  obtain ⟨hk, hf⟩ := hf
  obtain ⟨xs, m, _, _, hlen, hxs, hel⟩ := DataW.trod_struct hu h
  rw [hc] at hlen
  have cell : ∀ i, i < k → ∃ n, cs[i]? = some (.int .i64 n) ∧ int64 n := fun i hi => by
   have q := List.all_eq_true.1 hf i (List.mem_range.2 hi)
   split at q
   ·rename_i f hfi
    simp only [Bool.and_eq_true, beq_iff_eq] at q
    obtain ⟨⟨ho, ht⟩, h1⟩ := q
    have ht : P.underlying f.type = some (.int .i64) := by
     split at ht
     ·assumption
     ·cases ht
    have q2 := hel i f hfi
    rw [ho, h1] at q2
    have hxi : i < xs.length := by rw [hxs, hk]; exact hi
    rw [List.getElem?_eq_getElem hxi] at q2
    obtain ⟨n, e1, _, e3⟩ := DataW.trod_int ht q2
    refine ⟨n, ?_, e3⟩
    have : (List.take 1 (List.drop i cs))[0]? = some (.int .i64 n) := by rw [e1]; rfl
    simpa using this
   ·cases q
  clear hel h hf
  have : ∀ (j : Nat) (l : List Value), l.length = j → (∀ i, i < j → ∃ n, l[i]? = some (.int .i64 n) ∧ int64 n) → ∃ ns : List Int, ns.length = j ∧ l = ns.map (Value.int .i64) ∧ ∀ n ∈ ns, int64 n := by
   intro j
   induction j with
   | zero => intro l hl _; exact ⟨[], rfl, by simpa using hl, fun _ h => by simp at h⟩
   | succ j ih =>
    intro l hl hc
    match l, hl with
    | v :: l, hl =>
     obtain ⟨ns, h1, h2, h3⟩ := ih l (by simpa using hl) fun i hi => by simpa using hc (i + 1) (by omega)
     obtain ⟨n, q1, q2⟩ := hc 0 (by omega)
     simp at q1
     subst q1
     exact ⟨n :: ns, by simp [h1], by simp [h2], fun m hm => by
      rcases List.mem_cons.1 hm with rfl | hm
      ·exact q2
      ·exact h3 m hm⟩
  exact this k cs hlen cell
 ·cases hr
def shInts (ns : List Int) : List Sh := ns.map (Sh.i .i64)
theorem rep_ints {M : Mem} {ns : List Int} : Rep M (.agg (shInts ns)) (.agg (ns.map (Value.int .i64)).toArray) := by
 refine .agg _ _ (by simp [shInts]) fun j s v h1 h2 => ?_
 simp only [shInts, List.getElem?_map, Option.map_eq_some_iff] at h1
 obtain ⟨n, h3, rfl⟩ := h1
 simp [h3] at h2
 subst h2
 exact .i _ _
theorem cells?_at {w : World} {base : Nat} {a : Addr} {n : Nat} {cs : List Value} (h : w.cells? base a n = some cs) : cs.length = n ∧ ∀ j, j < n → w.cell? (a.add j) = cs[j]? := by
 unfold World.cells? at h
 split at h
 ·have : ∀ (l : List Nat) (cs : List Value), l.mapM (fun i => w.cell? (a.add i)) = some cs → cs.length = l.length ∧ ∀ (j : Nat) (i : Nat), l[j]? = some i → w.cell? (a.add i) = cs[j]? := by
   intro l
   induction l with
   | nil => intro cs h; simp at h; subst h; exact ⟨rfl, fun j i e => by simp at e⟩
   | cons x l ih =>
    intro cs h
    rw [List.mapM_cons] at h
    simp only [Option.bind_eq_bind, Option.bind_eq_some_iff, Option.pure_def] at h
    obtain ⟨v, h1, vs, h2, h3⟩ := h
    cases h3
    obtain ⟨e1, e2⟩ := ih vs h2
    refine ⟨by simp [e1], fun j i e => ?_⟩
    match j, e with
    | 0, e => simp at e; subst e; simpa using h1
    | j + 1, e => simpa using e2 j i (by simpa using e)
  obtain ⟨e1, e2⟩ := this _ _ h
  rw [List.length_range] at e1
  exact ⟨e1, fun j hj => e2 j j (by simp [hj])⟩
 ·cases h
theorem add_off (a : Addr) (n : Nat) : (a.add n).off = a.off + n ∧ (a.add n).block = a.block := by
 unfold Addr.add
 split
 ·subst_vars; exact ⟨rfl, rfl⟩
 ·exact ⟨rfl, rfl⟩
theorem add_add' (a : Addr) (i j : Nat) : (a.add i).add j = a.add (i + j) := by
 unfold Addr.add
 by_cases hi : i = 0 <;> by_cases hj : j = 0 <;> simp [hi, hj, Nat.add_assoc]
theorem rep_rowsl {t e k fuel : Nat} {cs : List Value} {x : DataW H × List MemPlace} (ht : P.underlying t = some (.slice e)) (hr : rowB P e k = true) (hk : P.cellsOf e = k) (h0 : 0 < k)
  (h : DataW.trod enc P w base spare held fuel t cs = some x) :
  ∃ v n g, cs = [v] ∧ Rep (memOf w) (.sl k n g) v ∧ ∀ i, i < n → ∃ ns : List Int, ns.length = k ∧ g i = shInts ns ∧ ∀ n ∈ ns, int64 n := by
 rcases open_slice ht h with ⟨rfl, _⟩ | ⟨a, len, cap, m, n, D, Pl, rfl, hb, hl, hcap, hm, _, hel⟩
 ·exact ⟨_, 0, fun _ => [], rfl, .sl0 _ _ _ _ (Nat.zero_le _), fun i hi => by omega⟩
 have hlm : len ≤ m := by rw [hm]; split <;> omega
 rw [hk] at hel
 have row : ∀ i, i < len → ∃ ns : List Int, ns.length = k ∧ w.cells? base (a.add (i * k)) k = some (ns.map (Value.int .i64)) ∧ ∀ n ∈ ns, int64 n := fun i hi => by
  obtain ⟨cs', h1, h2⟩ := hel i (by omega)
  obtain ⟨ns, e1, rfl, e3⟩ := flat_cells hr h2
  exact ⟨ns, e1, h1, e3⟩
 by_cases hz : len = 0
 ·subst hz
  exact ⟨_, 0, fun _ => [], rfl, .sl0 _ _ _ _ hcap, fun i hi => by omega⟩
 let N : Nat → List Int := fun i => if h : i < len then (row i h).choose else []
 have hN : ∀ i, i < len → (N i).length = k ∧ w.cells? base (a.add (i * k)) k = some ((N i).map (Value.int .i64)) ∧ ∀ n ∈ N i, int64 n := fun i hi => by
  simp only [N, dif_pos hi]
  exact (row i hi).choose_spec
 have cell : ∀ i j, i < len → j < k → w.cell? (a.add (i * k + j)) = ((N i).map (Value.int .i64))[j]? := fun i j hi hj => by
  have := (cells?_at (hN i hi).2.1).2 j hj
  rwa [add_add'] at this
 have hspot : a.spot = none := by
  have h1 := cell 0 0 (by omega) h0
  have : ∃ v, w.cell? a = some v := by
   have hl0 := (hN 0 (by omega)).1
   match hq : N 0 with
   | [] => rw [hq] at hl0; simp at hl0; omega
   | x :: r =>
    rw [hq] at h1
    simp [Addr.add] at h1
    exact ⟨_, h1⟩
  obtain ⟨v, hv⟩ := this
  exact (hcell_memOf hv).2
 obtain ⟨blk, off, spot⟩ := a
 simp only at hspot
 subst hspot
 refine ⟨_, len, fun i => shInts (N i), rfl, .sl _ _ _ blk off cap (fun i j => ((N i).map (Value.int .i64)).getD j .nilFunc) hl hcap (fun i hi => by simp [shInts, (hN i hi).1]) (fun i j hi hj => ?_) (fun i j hi hj => ?_) (fun i j s hi e => ?_), fun i hi => ⟨N i, (hN i hi).1, rfl, (hN i hi).2.2⟩⟩
 ·have h1 := cell i j hi hj
  have hlt : j < ((N i).map (Value.int .i64)).length := by simpa [(hN i hi).1] using hj
  rw [List.getElem?_eq_getElem hlt] at h1
  have h2 := (hcell_memOf h1).1
  rw [(add_off _ _).1, (add_off _ _).2] at h2
  simp only [Nat.add_assoc] at h2 ⊢
  rw [h2, List.getD_eq_getElem?_getD, List.getElem?_eq_getElem hlt]; rfl
 ·have hlt : j < (N i).length := by rw [(hN i hi).1]; exact hj
  simp [List.getD_eq_getElem?_getD, hlt]; rfl
 ·simp only [shInts, List.getElem?_map, Option.map_eq_some_iff] at e
  obtain ⟨n, h3, rfl⟩ := e
  simp [List.getD_eq_getElem?_getD, h3]
  exact .i _ _
theorem rep_slice_arg {t e k : Nat} {v : Value} {d : DataW H} {ps : List MemPlace} (ht : P.underlying t = some (.slice e)) (hr : rowB P e k = true) (hk : P.cellsOf e = k) (h0 : 0 < k) {b0 : Nat} (hval : Value.okWide P w .any b0 t v) (hd : DataW.Trod enc P w base spare held t v d ps) :
  ∃ n g, Rep (memOf w) (.sl k n g) v ∧ ∀ i, i < n → ∃ ns : List Int, ns.length = k ∧ g i = shInts ns ∧ ∀ n ∈ ns, int64 n := by
 obtain ⟨fuel, hd⟩ := hd
 obtain ⟨u, n, g, h1, h2, h3⟩ := rep_rowsl ht hr hk h0 hd
 have : v = u := by
  unfold Value.okWide at hval
  rw [ht] at hval
  cases v <;> simp [Value.cells] at h1 <;> first | exact h1 | skip
  all_goals (unfold Cell.okWide at hval; simp [ht] at hval; try (simp [Cell.ok, ht] at hval))
 subst this
 exact ⟨n, g, h2, h3⟩
end
end Go.Sx
namespace Go.Sx
open Go.RowKit Go.ChangeShapes Go.WideShapes Go.Deep
theorem var_heap {P : Program} {W : World} {n : String} {g : Nat} {cs : Array Value} (hg : P.globalNamed n = some g) (h : W.var? P n = some cs) : ∃ e f, W.heap[g]? = some (.cells cs e f) := by
 unfold World.var? at h
 rw [hg] at h
 simp only [Option.bind_some] at h
 split at h
 ·rename_i c e f hb
  cases h
  exact ⟨_, _, hb⟩
 ·cases h
theorem laid_er {P : Program} {n nm : String} {text : List UInt8} {r : List (String × DataW Unit)} {W : World} {g : Nat} {ti tp te ts : TypeId} {ms : Array (String × TypeId)} {f : Field}
  (h : laidMet P ((n, .iface nm (.ptr (.agg [.lit (.string text)]))) :: r) W)
  (hg : P.globalNamed n = some g) (ht : (P.globals[g]?).map (·.type) = some ti) (hi : P.underlying ti = some (.interface ms)) (hrow : ∀ u, P.typeName? 3 u = some nm → u = tp)
  (hp : P.underlying tp = some (.pointer te)) (he : P.underlying te = some (.struct #[f])) (hft : f.type = ts) (hfo : f.offset = 0) (hs : P.underlying ts = some .string) (hc : P.cellsOf te = 1) (hcs : P.cellsOf ts = 1) :
  GlobAt (memOf W) g (.er g tp) := by
 obtain ⟨ps, ⟨g0, t0, cs0, f0, p0, q0, hg0, ht0, hv0, hd0, _, e0⟩, _, hrows⟩ := h
 obtain rfl := Option.some.inj (hg.symm.trans hg0)
 obtain rfl := Option.some.inj (ht.symm.trans ht0)
 subst e0
 obtain ⟨l0⟩ := cs0
 have ok0 : ∀ u v, l0 = [.iface u v] → Value.okWide P W .any 0 u v := fun u v e => by
  subst e
  exact (hrows g 0 (by simp [MemPlace.row])).2 u v (by simpa using World.var?_cell hg0 hv0 0)
 obtain ⟨a0, s0, rfl, hc0, hs0, hz0, rfl⟩ := errorString_of_trod hi hrow hp he hft hfo hs hc hcs hd0 ok0
 obtain ⟨c0, t0, hb0⟩ := (hrows a0.block a0.off (by simp [MemPlace.row])).1
 obtain ⟨e, f, hh⟩ := var_heap hg hv0
 have h1 : hcell (memOf W) g 0 = some (.iface tp (.pointer (some a0))) := by
  unfold hcell memOf
  rw [hh]; rfl
 exact ⟨_, h1, .er g tp a0 c0 t0 h1 hb0, rfl⟩
theorem laid_strs {P : Program} {n : String} {texts : List (List UInt8)} {r : List (String × DataW Unit)} {W : World} {g : Nat} {t e : TypeId} {k : Nat}
  (h : laidMet P ((n, .agg (texts.map fun s => .lit (.string s))) :: r) W)
  (hg : P.globalNamed n = some g) (ht : (P.globals[g]?).map (·.type) = some t) (hu : P.underlying t = some (.array k e)) (he : P.underlying e = some .string) (hce : P.cellsOf e = 1) (hct : P.cellsOf t = texts.length) :
  GlobAt (memOf W) g (.tup (texts.map Sh.str)) := by
 obtain ⟨ps, ⟨g0, t0, cs0, f0, p0, q0, hg0, ht0, hv0, hd0, _, e0⟩, _, hrows⟩ := h
 obtain rfl := Option.some.inj (hg.symm.trans hg0)
 obtain rfl := Option.some.inj (ht.symm.trans ht0)
 obtain ⟨e1, f1, hh⟩ := var_heap hg hv0
 obtain ⟨xs, m, _, hx, hlen, hxs, hel⟩ := DataW.trod_array hu hd0
 have hxs' : xs.map (·.1) = texts.map fun s => .lit (.string s) := by
  have := congrArg Prod.fst hx
  simp at this
  exact this.symm
 have hkt : k = texts.length := by
  have := congrArg List.length hxs'
  simp at this
  omega
 subst hkt
 have cell : ∀ j (hj : j < texts.length), cs0[j]? = some (.string ⟨texts[j].toArray⟩) := fun j hj => by
  have q := hel j hj
  rw [hce, Nat.mul_one] at q
  have hxj : j < xs.length := by omega
  rw [List.getElem?_eq_getElem hxj] at q
  obtain ⟨s, q1, q2, _⟩ := DataW.trod_string he q
  have q3 : (xs.map (·.1))[j]? = some (.lit (.string texts[j])) := by rw [hxs']; simp [hj]
  have q4 : (xs[j]).1 = .lit (.string texts[j]) := by
   rw [List.getElem?_map, List.getElem?_eq_getElem hxj] at q3
   simpa using q3
  rw [q2] at q4
  simp at q4
  have q5 : (List.take 1 (List.drop j cs0.toList))[0]? = some (.string s) := by rw [q1]; rfl
  have q6 : cs0[j]? = some (.string s) := by simpa using q5
  rw [q6]
  obtain ⟨⟨l⟩⟩ := s
  have : l = texts[j] := q4
  subst this; rfl
 refine ⟨⟨cs0, e1, f1, hh, by rw [List.length_map, ← hct, ← hlen]; simp⟩, fun j => .string ⟨(texts.getD j []).toArray⟩, fun j hj => ?_, fun j s hs => ?_⟩
 ·have hj' : j < texts.length := by simpa using hj
  refine ⟨?_, rfl⟩
  unfold hcell memOf
  rw [hh]
  simp only [cell j hj', List.getD_eq_getElem?_getD, List.getElem?_eq_getElem hj', Option.getD_some]
 ·rw [List.getElem?_map, Option.map_eq_some_iff] at hs
  obtain ⟨l, h1, rfl⟩ := hs
  show Rep (memOf W) (.str l) (.string ⟨(texts.getD j []).toArray⟩)
  rw [List.getD_eq_getElem?_getD, h1]
  exact .str l
theorem laid_nums {P : Program} {n : String} {kd : IntKind} {texts : List Int} {r : List (String × DataW Unit)} {W : World} {g : Nat} {t e : TypeId} {k : Nat}
  (h : laidMet P ((n, .agg (texts.map fun s => .lit (.int kd s))) :: r) W)
  (hg : P.globalNamed n = some g) (ht : (P.globals[g]?).map (·.type) = some t) (hu : P.underlying t = some (.array k e)) (he : P.underlying e = some (.int kd)) (hce : P.cellsOf e = 1) (hct : P.cellsOf t = texts.length) :
  GlobAt (memOf W) g (.tup (texts.map (Sh.i kd))) := by
 obtain ⟨ps, ⟨g0, t0, cs0, f0, p0, q0, hg0, ht0, hv0, hd0, _, e0⟩, _, hrows⟩ := h
 obtain rfl := Option.some.inj (hg.symm.trans hg0)
 obtain rfl := Option.some.inj (ht.symm.trans ht0)
 obtain ⟨e1, f1, hh⟩ := var_heap hg hv0
 obtain ⟨xs, m, _, hx, hlen, hxs, hel⟩ := DataW.trod_array hu hd0
 have hxs' : xs.map (·.1) = texts.map fun s => .lit (.int kd s) := by
  have := congrArg Prod.fst hx
  simp at this
  exact this.symm
 have hkt : k = texts.length := by
  have := congrArg List.length hxs'
  simp at this
  omega
 subst hkt
 have cell : ∀ j (hj : j < texts.length), cs0[j]? = some (.int kd texts[j]) := fun j hj => by
  have q := hel j hj
  rw [hce, Nat.mul_one] at q
  have hxj : j < xs.length := by omega
  rw [List.getElem?_eq_getElem hxj] at q
  obtain ⟨s, q1, q2, _⟩ := DataW.trod_int he q
  have q3 : (xs.map (·.1))[j]? = some (.lit (.int kd texts[j])) := by rw [hxs']; simp [hj]
  have q4 : (xs[j]).1 = .lit (.int kd texts[j]) := by
   rw [List.getElem?_map, List.getElem?_eq_getElem hxj] at q3
   simpa using q3
  rw [q2] at q4
  simp at q4
  have q5 : (List.take 1 (List.drop j cs0.toList))[0]? = some (.int kd s) := by rw [q1]; rfl
  have q6 : cs0[j]? = some (.int kd s) := by simpa using q5
  rw [q6]
  rw [q4]
 refine ⟨⟨cs0, e1, f1, hh, by rw [List.length_map, ← hct, ← hlen]; simp⟩, fun j => .int kd (texts.getD j 0), fun j hj => ?_, fun j s hs => ?_⟩
 ·have hj' : j < texts.length := by simpa using hj
  refine ⟨?_, rfl⟩
  unfold hcell memOf
  rw [hh]
  simp only [cell j hj', List.getD_eq_getElem?_getD, List.getElem?_eq_getElem hj', Option.getD_some]
 ·rw [List.getElem?_map, Option.map_eq_some_iff] at hs
  obtain ⟨l, h1, rfl⟩ := hs
  show Rep (memOf W) (.i kd l) (.int kd (texts.getD j 0))
  rw [List.getD_eq_getElem?_getD, h1]
  exact .i kd l
end Go.Sx
namespace Go.Proofs
open Go Go.Sx Go.RowKit Go.ChangeShapes
theorem star7 : "*" ++ "errors.errorString" = "*errors.errorString" := by decide
theorem row7 (u : TypeId) (h : Tryz.prog.typeName? 3 u = some "*errors.errorString") : u = 242 :=
 typeName_ptr_named (nm := "errors.errorString") (by rw [star7]; kernel_rfl) (by kernel_rfl) (by decide) u (by rw [star7]; exact h)
open YtikaakiadiaeoaaGreatDoor.Rows in
abbrev laid7 : List (String × DataW Unit) := specLineRow.laid
theorem gls_laid {W : World} (h : laidMetH Tryz.prog laid7 W) : GlobOK (gls7 W7) (memOf W) := by
 rw [MakeChecks.laidMetH_plain _ _ _ (by kernel_rfl)] at h
 have e16 : GlobAt (memOf W) 16 (.tup (pow10.map (Sh.i .u64))) := laid_nums (kd := .u64) (texts := pow10) h.tail.tail (by kernel_rfl) (by kernel_rfl) Tryz.underlying233 Tryz.underlying217 (by kernel_rfl) (by kernel_rfl)
 have e15 : GlobAt (memOf W) 15 (.er 15 242) := laid_er h.tail.tail.tail.tail (by kernel_rfl) (by kernel_rfl) Tryz.underlying52 row7 Tryz.underlying242 Tryz.underlying244 rfl rfl Tryz.underlying9 (by kernel_rfl) (by kernel_rfl)
 have e14 : GlobAt (memOf W) 14 (.er 14 242) := laid_er h.tail.tail.tail.tail.tail (by kernel_rfl) (by kernel_rfl) Tryz.underlying52 row7 Tryz.underlying242 Tryz.underlying244 rfl rfl Tryz.underlying9 (by kernel_rfl) (by kernel_rfl)
 have e4 : GlobAt (memOf W) 4 (.er 4 242) := laid_er h.tail.tail.tail.tail.tail.tail (by kernel_rfl) (by kernel_rfl) Tryz.underlying52 row7 Tryz.underlying242 Tryz.underlying244 rfl rfl Tryz.underlying9 (by kernel_rfl) (by kernel_rfl)
 have e2 : GlobAt (memOf W) 2 (.er 2 242) := laid_er h.tail.tail.tail.tail.tail.tail.tail (by kernel_rfl) (by kernel_rfl) Tryz.underlying52 row7 Tryz.underlying242 Tryz.underlying244 rfl rfl Tryz.underlying9 (by kernel_rfl) (by kernel_rfl)
 have e0 : GlobAt (memOf W) 0 (.er 0 242) := laid_er h.tail.tail.tail.tail.tail.tail.tail.tail (by kernel_rfl) (by kernel_rfl) Tryz.underlying52 row7 Tryz.underlying242 Tryz.underlying244 rfl rfl Tryz.underlying9 (by kernel_rfl) (by kernel_rfl)
 have e3 : GlobAt (memOf W) 3 (.er 3 242) := laid_er h.tail.tail.tail.tail.tail.tail.tail.tail.tail (by kernel_rfl) (by kernel_rfl) Tryz.underlying52 row7 Tryz.underlying242 Tryz.underlying244 rfl rfl Tryz.underlying9 (by kernel_rfl) (by kernel_rfl)
 have e1 : GlobAt (memOf W) 1 (.er 1 242) := laid_er h.tail.tail.tail.tail.tail.tail.tail.tail.tail.tail (by kernel_rfl) (by kernel_rfl) Tryz.underlying52 row7 Tryz.underlying242 Tryz.underlying244 rfl rfl Tryz.underlying9 (by kernel_rfl) (by kernel_rfl)
 have e7 : GlobAt (memOf W) 7 (.tup (wds W7 7 4)) := laid_strs (texts := [W7 7 0, W7 7 1, W7 7 2, W7 7 3]) h.tail.tail.tail.tail.tail.tail.tail.tail.tail.tail.tail (by kernel_rfl) (by kernel_rfl) Tryz.underlying182 Tryz.underlying9 (by kernel_rfl) (by kernel_rfl)
 have e8 : GlobAt (memOf W) 8 (.tup (wds W7 8 7)) := laid_strs (texts := [W7 8 0, W7 8 1, W7 8 2, W7 8 3, W7 8 4, W7 8 5, W7 8 6]) h.tail.tail.tail.tail.tail.tail.tail.tail.tail.tail.tail.tail (by kernel_rfl) (by kernel_rfl) Tryz.underlying183 Tryz.underlying9 (by kernel_rfl) (by kernel_rfl)
 have e9 : GlobAt (memOf W) 9 (.tup (wds W7 9 9)) := laid_strs (texts := [W7 9 0, W7 9 1, W7 9 2, W7 9 3, W7 9 4, W7 9 5, W7 9 6, W7 9 7, W7 9 8]) h.tail.tail.tail.tail.tail.tail.tail.tail.tail.tail.tail.tail.tail (by kernel_rfl) (by kernel_rfl) Tryz.underlying184 Tryz.underlying9 (by kernel_rfl) (by kernel_rfl)
 have e10 : GlobAt (memOf W) 10 (.tup (wds W7 10 3)) := laid_strs (texts := [W7 10 0, W7 10 1, W7 10 2]) h.tail.tail.tail.tail.tail.tail.tail.tail.tail.tail.tail.tail.tail.tail (by kernel_rfl) (by kernel_rfl) Tryz.underlying185 Tryz.underlying9 (by kernel_rfl) (by kernel_rfl)
 have e11 : GlobAt (memOf W) 11 (.tup (wds W7 11 4)) := laid_strs (texts := [W7 11 0, W7 11 1, W7 11 2, W7 11 3]) h.tail.tail.tail.tail.tail.tail.tail.tail.tail.tail.tail.tail.tail.tail.tail (by kernel_rfl) (by kernel_rfl) Tryz.underlying182 Tryz.underlying9 (by kernel_rfl) (by kernel_rfl)
 have e12 : GlobAt (memOf W) 12 (.tup (wds W7 12 4)) := laid_strs (texts := [W7 12 0, W7 12 1, W7 12 2, W7 12 3]) h.tail.tail.tail.tail.tail.tail.tail.tail.tail.tail.tail.tail.tail.tail.tail.tail (by kernel_rfl) (by kernel_rfl) Tryz.underlying182 Tryz.underlying9 (by kernel_rfl) (by kernel_rfl)
 intro g s hg
 match g, hg with
 | 0, hg => cases hg; exact e0
 | 1, hg => cases hg; exact e1
 | 2, hg => cases hg; exact e2
 | 3, hg => cases hg; exact e3
 | 4, hg => cases hg; exact e4
 | 5, hg => cases hg
 | 6, hg => cases hg
 | 7, hg => cases hg; exact e7
 | 8, hg => cases hg; exact e8
 | 9, hg => cases hg; exact e9
 | 10, hg => cases hg; exact e10
 | 11, hg => cases hg; exact e11
 | 12, hg => cases hg; exact e12
 | 13, hg => cases hg
 | 14, hg => cases hg; exact e14
 | 15, hg => cases hg; exact e15
 | 16, hg => cases hg; exact e16
 | n + 17, hg => simp [gls7, look?] at hg
end Go.Proofs
namespace Go.Sx
open Go.RowKit Go.ChangeShapes Go.WideShapes Go.Deep Go.Pl
theorem SpecRes.below {H : Mem} {w w' : World} {s : Sh} {v : Value} {H' : Mem} (h : SpecRes H w s v H' w') : Below w.heap.size w w' := ⟨h.os, h.tape, h.output, h.size, h.old⟩
theorem SpecRes.bool {H : Mem} {w w' : World} {b : Bool} {v : Value} {H' : Mem} (h : SpecRes H w (.b b) v H' w') : v = .bool b := by
 obtain ⟨E1, _, _, h1, _⟩ := h.res 0
 exact h1
def rowedB (P : Program) (ts : List TypeId) : Bool := ts.all fun t => P.readableRec t && decide (t < P.types.size)
section
variable {H : Type} {enc : TypeId × Value → H} {P : Program}
theorem below_all (hl : laidOutB P = true) {W W' : World} (hb : Below W.heap.size W W') :
  ∀ {ts : List TypeId} {vs : List Value} {ds : List (DataW H)} {p : List MemPlace}, rowedB P ts = true → DataW.TrodAll enc P W 0 (fun _ => true) true ts vs ds p → (∀ x ∈ p, x.block < W.heap.size) →
   DataW.TrodAll enc P W' 0 (fun b => decide (b < W.heap.size)) true ts vs ds p
 | [], _, _, _, _, h, _ => by
  obtain ⟨rfl, rfl, rfl⟩ := trodAll_nil h
  exact rfl
 | t :: ts, _, _, _, hr, h, hlt => by
  obtain ⟨v, vs1, d, ds1, a, b, rfl, rfl, rfl, h1, h2⟩ := trodAll_cons h
  simp only [rowedB, List.all_cons, Bool.and_eq_true, decide_eq_true_eq] at hr
  exact ⟨a, b, Below.trod hl hr.1.1 hr.1.2 h1 hb fun x hx => hlt x (List.mem_append_left _ hx), below_all hl hb (by simp only [rowedB]; exact hr.2) h2 fun x hx => hlt x (List.mem_append_right _ hx), rfl⟩
theorem post_law (hl : laidOutB P = true) {f : Func} {s : ChangeSpec} {W W' : World} {args : Array Value} {t : TypeId} {ds gs : List (DataW H)} {before : List MemPlace} (hs : s.vars = []) (hr : rowedB P f.params.toList = true) (ht : f.resultTypes = #[t]) (hu : P.underlying t = some .bool)
  (hW : DataW.Whole enc P f.params.toList s.vars false W args.toList ds gs before) (hb : Below W.heap.size W W')
  (h1 : (s.fn H (ds ++ gs)).results = [.lit (.bool true)]) (h2 : (s.fn H (ds ++ gs)).args = ds) (h3 : (s.fn H (ds ++ gs)).vars = []) :
  s.post enc P f false true false false W args (.bool true) W' := by
 have hlt := hW.lt
 have hW0 := hW
 obtain ⟨p, q, hA, hV, e, hfz, hnd⟩ := hW
 rw [hs] at hV
 obtain ⟨rfl, rfl⟩ := trodVars_none hV
 subst e
 refine ⟨ds, [], p ++ [], [], p, [], hW0, ?_, ?_, ?_, Below.frame hb _, fun e => by cases e⟩
 ·rw [h1, ht]
  exact trodAll_mk1 (shut_bool hu true)
 ·rw [h2]
  exact below_all hl hb hr hA fun x hx => hlt x (by simpa using hx)
 ·rw [h3, hs]
  exact rfl
end
theorem okB_rows {α : Type} [Row α] {k n : Nat} {g : Nat → List Sh} (hk : ∀ ns : List Int, ns.length = k → (Row.get (α := α) (shInts ns)).isSome = true) (h : ∀ i, i < n → ∃ ns : List Int, ns.length = k ∧ g i = shInts ns ∧ ∀ n ∈ ns, int64 n) : okB α n g = true := by
 induction n with
 | zero => rfl
 | succ n ih =>
  obtain ⟨ns, h1, h2, _⟩ := h n (by omega)
  simp only [okB, ih fun i hi => h i (by omega), Bool.true_and]
  rw [h2]
  exact hk ns h1
end Go.Sx
namespace Go.Sx
open Go.RowKit Go.ChangeShapes Go.WideShapes Go.Deep Go.Pl
section
variable {H : Type} {enc : TypeId × Value → H} {P : Program} {w : World} {base : Nat} {spare : Nat → Bool} {held : Bool}
theorem rep_struct_arg {t k : Nat} {fs : Array Field} {v : Value} {d : DataW H} {ps : List MemPlace} (hu : P.underlying t = some (.struct fs)) (hr : rowB P t k = true) {b0 : Nat} (hval : Value.okWide P w .any b0 t v) (hd : DataW.Trod enc P w base spare held t v d ps) :
  ∃ ns : List Int, ns.length = k ∧ v = .agg (ns.map (Value.int .i64)).toArray ∧ Rep (memOf w) (.agg (shInts ns)) v ∧ ∀ n ∈ ns, int64 n := by
 unfold Value.okWide at hval
 rw [hu] at hval
 obtain ⟨cs, rfl, hsz, _⟩ := hval
 obtain ⟨fuel, hd⟩ := hd
 obtain ⟨ns, h1, h2, h3⟩ := flat_cells hr hd
 have e : cs = (ns.map (Value.int .i64)).toArray := by
  have : cs.toList = ns.map (Value.int .i64) := by simpa [Value.cells] using h2
  rw [← this]
 subst e
 exact ⟨ns, h1, rfl, rep_ints, h3⟩
theorem rep_struct3_arg {t : Nat} {fs : Array Field} {v : Value} {d : DataW H} {ps : List MemPlace} (hu : P.underlying t = some (.struct fs)) (hr : rowB P t 3 = true) {b0 : Nat} (hval : Value.okWide P w .any b0 t v) (hd : DataW.Trod enc P w base spare held t v d ps) :
  ∃ x0 x1 x2 : Int, v = .agg #[.int .i64 x0, .int .i64 x1, .int .i64 x2] ∧ Rep (memOf w) (.agg [.i .i64 x0, .i .i64 x1, .i .i64 x2]) v ∧ int64 x0 ∧ int64 x1 ∧ int64 x2 := by
 obtain ⟨ns, h1, rfl, h2, h3⟩ := rep_struct_arg hu hr hval hd
 match ns, h1, h2, h3 with
 | [x0, x1, x2], _, h2, h3 => exact ⟨x0, x1, x2, rfl, h2, h3 x0 (by simp), h3 x1 (by simp), h3 x2 (by simp)⟩
end
end Go.Sx
namespace Go.Proofs.YtikaakiadiaeoaaGreatDoor
open Go.ChangeShapes Go.WideShapes Go.ChangeAt Go.WideMaps Go.WideElems Go.RowKit Go.Sx Go.Pl
theorem own7 : ownKnob Tryz.prog.godebug = none := by kernel_rfl
theorem laidOut7 : laidOutB Tryz.prog = true := by kernel_rfl
noncomputable def firstG : Nat := (Tryz.prog.globalNamed "unicode/utf8.first").getD 0
noncomputable def door6 (os : Os) : World :=
 { World.doorLaid Tryz.prog 400 os with heap := (World.doorLaid Tryz.prog 400 os).heap.modify firstG fun o => match o with
  | .cells _ e f => .cells (Go.Pinned.utf8FirstZ.map fun n => Value.int .u8 (Int.ofNat n)).toArray e f
  | o => o }
theorem door7 (os : Os) (args : Array Value) : laidMetH Tryz.prog laid7 ((door6 os).forCall (fun _ _ => 0) ⟨#[], args, []⟩).memory :=
 laidMetH_of_parts3 (fuel := 8) (laidMet_of_run' 8 (by kernel_rfl) (by kernel_rfl)) (by kernel_rfl) (by kernel_rfl)
end Go.Proofs.YtikaakiadiaeoaaGreatDoor
namespace Go.Sx
open Go Go.RowKit Go.Pl
theorem okB_cp {n : Nat} {g : Nat → List Sh} (h : ∀ i, i < n → ∃ ns : List Int, ns.length = 3 ∧ g i = shInts ns ∧ ∀ n ∈ ns, int64 n) : okB Ca n g = true := okB_rows (fun ns hn => by
 match ns, hn with
 | [a, b, c], _ => rfl) h
end Go.Sx
namespace Go.Proofs.YtikaakiadiaeoaaGreatDoor
open Go.ChangeShapes Go.WideShapes Go.ChangeAt Go.WideMaps Go.WideElems Go.RowKit Go.Sx Go.Pl
set_option maxRecDepth 100000 in
theorem lifted10 (os : Os) (started : os.Started) (H : Type) (enc : TypeId × Value → H) :
  ReturnsInHanded {} Tryz.checked os 10 .any (fun w args => (Rows.specApartSpec.pre enc Tryz.prog Tryz.f10 [] false w args ∧ laidMetH Tryz.prog laid7 w) ∧ sizedMet enc Tryz.prog Tryz.f10 (OpenSpec.ofChange Rows.specApartSpec) false w args)
   (Rows.specApartSpec.post enc Tryz.prog Tryz.f10 false true false false) := by
 refine returnsInHanded_of_change_and (C := Tryz.checked) (X := fun w _ => laidMetH Tryz.prog laid7 w) (fun _ _ _ hh h => h.of_heap hh) own7 started (by kernel_rfl) Tryz.func10
  (ChangeSpec.witness_shaped (enc := enc) (C := Tryz.checked) (os := os) (X := fun w _ => laidMetH Tryz.prog laid7 w) false (door6 os) #[.slice none 0 0, .agg #[.int .i64 0, .int .i64 0, .int .i64 0], .agg #[.int .i64 0, .int .i64 0, .int .i64 0]] 8 rfl (World.shaped_of_RefB (by kernel_rfl) (by kernel_rfl)) (by kernel_rfl) (by kernel_rfl) (by kernel_rfl) (door7 os _)) ?_
 intro W base args ds gs before hval0 hW _ _ hL _
 have hval : ∀ (j : Nat) t v, Tryz.f10.params[j]? = some t → args[j]? = some v → Value.okWide Tryz.prog W .any base t v := hval0
 have hW' := hW
 obtain ⟨p, q, hA0, hV, e, hfz, hnd⟩ := hW
 obtain ⟨rfl, rfl⟩ := trodVars_none hV
 have hA : DataW.TrodAll enc Tryz.prog W 0 (fun _ => true) true Tryz.f10.params.toList args.toList ds p := hA0
 rw [Tryz.params10] at hA hval
 obtain ⟨v0, vs0, d0, ds0, p0, q0, ea, rfl, rfl, t0, hA⟩ := trodAll_cons hA
 obtain ⟨v1, vs1, d1, ds1, p1, q1, rfl, rfl, rfl, t1, hA⟩ := trodAll_cons hA
 obtain ⟨v2, vs2, d2, ds2, p2, q2, rfl, rfl, rfl, t2, hA⟩ := trodAll_cons hA
 obtain ⟨rfl, rfl, rfl⟩ := trodAll_nil hA
 have at_ : ∀ (j : Nat) v, [v0, v1, v2][j]? = some v → args[j]? = some v := fun j v h => by rw [← Array.getElem?_toList, ea]; exact h
 obtain ⟨k0, s0, r0, a0⟩ := rep_slice_arg (k := 3) Tryz.underlying83 (by kernel_rfl) (by kernel_rfl) (by decide) (hval 0 83 v0 rfl (at_ 0 v0 rfl)) t0
 obtain ⟨x10, x11, x12, rfl, r1, _⟩ := rep_struct3_arg Tryz.underlying91 (by kernel_rfl) (hval 1 91 v1 rfl (at_ 1 v1 rfl)) t1
 obtain ⟨x20, x21, x22, rfl, r2, _⟩ := rep_struct3_arg Tryz.underlying91 (by kernel_rfl) (hval 2 91 v2 rfl (at_ 2 v2 rfl)) t2
 have hc := O10 (memOf W) W [.sl 3 k0 s0, .agg [.i .i64 x10, .i .i64 x11, .i .i64 x12], .agg [.i .i64 x20, .i .i64 x21, .i .i64 x22]] [v0, .agg #[.int .i64 x10, .int .i64 x11, .int .i64 x12], .agg #[.int .i64 x20, .int .i64 x21, .int .i64 x22]] (fun s => s = .b true) (memOf_on W) (gls_laid hL)
  ⟨r0, r1, r2, trivial⟩ ⟨okB_cp a0, rfl⟩
 have eargs : args = [v0, .agg #[.int .i64 x10, .int .i64 x11, .int .i64 x12], .agg #[.int .i64 x20, .int .i64 x21, .int .i64 x22]].toArray := by rw [← ea]
 rw [eargs]
 refine hc.mono fun e W' ⟨v, s, H', he, hs, hr⟩ => ?_
 subst he hs
 obtain rfl := hr.bool
 refine ⟨_, rfl, post_law laidOut7 rfl (by kernel_rfl) (by kernel_rfl) Tryz.underlying4 (by rw [eargs] at hW'; exact hW') hr.below rfl rfl rfl⟩
theorem specApart_holds : Rows.SpecApartSaid :=
 OpenClaim.holds_of_wide 10 Tryz.f10 rfl rfl rfl rfl rfl rfl rfl ⟨rfl, rfl, rfl, rfl, rfl⟩ rfl rfl rfl rfl rfl (by kernel_rfl) Tryz.func10 (by kernel_rfl)
  (of_decide_eq_true (by kernel_rfl)) (by unfold Func.isWrapper; first | (rw [if_pos (by decide +kernel)]; kernel_rfl) | (rw [if_neg (by decide +kernel)]; exact ⟨rfl, rfl⟩))
  (fun os started H enc _ => lifted10 os started H enc)
end Go.Proofs.YtikaakiadiaeoaaGreatDoor
namespace Go.Proofs.YtikaakiadiaeoaaGreatDoor
open Go
theorem specApart_card : Rows.SpecApartCardSaid :=
 Claim7.holds_tied_plain_at .later [] [.data, .data, .data, .data, .sentinel, .sentinel, .sentinel, .sentinel, .sentinel, .sentinel, .sentinel, .data, .data, .data, .data, .data, .data, .pinned] true (true, "4a60ae6fac43e9984ca8293a95a0ce4093e80da91277938538b84fd690e406b6") true
  specApart_holds (fun _ h => by cases h) (by kernel_rfl) (fun _ h => by cases h) specApart_row_tie rfl ⟨rfl, rfl⟩ (by kernel_rfl) rfl
  (fun f fn hf hfn => by
   obtain rfl : f = 10 := Option.some.inj ((show Tryz.prog.funcNamed "umpire/umpirelaw6.SpecApart" = some 10 by kernel_rfl).symm.trans hf) |>.symm
   obtain rfl : fn = Tryz.f10 := (Option.some.inj (Tryz.func10.symm.trans hfn)).symm
   exact ⟨by kernel_rfl, fun j t ht => by
    rw [Tryz.params10] at ht
    have hm : t ∈ [83, 91, 91] := by simpa using Array.mem_of_getElem? ht
    have hall : ([83, 91, 91].all fun u => !Tryz.prog.wantsStandIn u) = true := by kernel_rfl
    exact (show Tryz.prog.wantsStandIn t = false by simpa using List.all_eq_true.1 hall t hm)⟩)
  (by kernel_rfl)
#print axioms specApart_card
end Go.Proofs.YtikaakiadiaeoaaGreatDoor
