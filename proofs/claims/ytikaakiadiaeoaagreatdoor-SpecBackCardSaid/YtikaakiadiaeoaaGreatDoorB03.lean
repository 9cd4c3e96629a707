/-
  Operations that make or write memory, the fourth part: slices that are written out, made, appended to, cut; entries of maps. Bytes of one's own: appended to, made of a string, read as a string. Operations that make or write memory, the fifth part: append, cutting a slice, an entry of a map. Operations that make or write memory, the last part: cutting a slice, an entry of a map. Steps one behind the other; calls of functions of which a summary is known.
-/
import Derived.Test.YtikaakiadiaeoaaGreatDoorB02
import Derived.Lib.AppendStr
import Derived.Lib.ConvBytes
import Derived.Laws.BytesString
namespace Go.Sx
section
variable {P : Program} {C : Ctx} {K : Kx} {H H' : Mem} {E E' : Env} {w w' : World}
theorem rep_length (z : List SV) : ∀ n, (rep z n).length = n * z.length
 | 0 => by simp [rep]
 | n + 1 => by simp [rep, rep_length z n, Nat.add_mul, Nat.add_comm]
theorem rep_get (z : List SV) (hz : 0 < z.length) : ∀ (n j : Nat), j < n * z.length → (rep z n)[j]? = z[j % z.length]?
 | 0, j, h => by simp at h
 | n + 1, j, h => by
  rw [rep, List.getElem?_append]
  split
  ·rw [Nat.mod_eq_of_lt (by assumption)]
  ·rename_i hj
   have hj : z.length ≤ j := by omega
   rw [rep_get z hz n _ (by rw [Nat.add_mul] at h; omega)]
   rw [Nat.mod_eq_sub_mod hj]
theorem made_get (cs : Array Value) (n j : Nat) (h : j < n) (hc : 0 < cs.size) : (madeCells cs n).toList[j]? = cs.toList[j % cs.size]? := by
 have : j % cs.size < cs.size := Nat.mod_lt _ hc
 simp [madeCells, h, this]
theorem den_rep {z : List SV} {cs : Array Value} {n st : Nat} (hd : DenL H E z cs.toList) (hs : cs.size = st) (h0 : 0 < st) : DenL H E (rep z n) (madeCells cs (n * st)).toList := by
 have hl := hd.length
 rw [Array.length_toList, hs] at hl
 refine DenL.of_at (by rw [Array.length_toList, size_madeCells, rep_length, ← hl]) fun j s v h1 h2 => ?_
 have hj : j < n * st := by
  have := (List.getElem?_eq_some_iff.1 h2).1
  rwa [Array.length_toList, size_madeCells] at this
 rw [rep_get z (by omega) n j (by rw [← hl]; exact hj)] at h1
 rw [made_get cs _ _ hj (by omega), hs] at h2
 rw [← hl] at h1
 exact hd.at_ h1 h2
theorem desc_slice {t e : Nat} {i : TyI} (h : TyOK P t i) (hi : i.ty = .slice e) : P.underlying t = some (.slice e) := by
 have := h.desc
 rw [hi] at this
 exact this
theorem maxLen_big : 16777216 ≤ maxLen := by decide
theorem w_buildSlice {c : Core} {a : Act} {o : Oper} {t n : Nat} {parts : Array (Nat × Operand)} {φ : SV × Core → Prop} (hC : CtxOK P C) (hd : DenL H E c.tm a.tmps.toList) (hh : HeapOK K H E w c.hp) (hw : WOK K H w) (hf : Free E c)
  (ho : o.op = .buildSlice t n parts) (h : (execBuildSlice C c t n parts.toList).All φ) : WOut P K H E w c a o φ := by
 unfold execBuildSlice at h
 split at h
 ·rename_i i hi
  split at h
  ·rename_i e hty
   have hu := desc_slice (hC.ty _ _ hi) hty
   split at h
   ·rename_i j hj
    obtain ⟨inf, z, h1, h2, h3, h4, h5, h6, _⟩ := (hC.ty _ _ hj).info
    cases hb : (Nat.ble (n * j.size) 16777216 && Nat.blt 0 j.size) <;> simp only [hb, cond_true, cond_false] at h
    ·exact h.elim
    simp only [Bool.and_eq_true] at hb
    have hb1 := Nat.le_of_ble_eq_true hb.1
    have hb2 := blt_spec hb.2
    split at h
    ·rename_i l hl
     have h5' : DenL H E j.zero z.cells.toList := h5.le (fun _ _ e => by cases e) (fun _ _ e => by cases e)
     have hz := den_rep (n := n) h5' h6 hb2
     obtain ⟨cells', e1, e2⟩ := fill_den (place := fun i => some (i * j.size, j.size)) (fun _ _ _ e => e) hd parts.toList hz hl
     have hlt : c.nx < c.lim := by
      unfold alloc at h
      cases hb : Nat.blt c.nx c.lim <;> simp only [hb, cond_true, cond_false] at h
      ·exact h.elim
      ·exact blt_spec hb
     have hlen : cells'.size = n * j.size := by
      have q1 := e2.length
      have q2 := hz.length
      have q3 : l.length = (rep j.zero n).length := by
       have : ∀ (parts : List (Nat × Operand)) (z l : List SV), fillP (fun k => some (k * j.size, j.size)) (evL c.tm) z parts = some l → l.length = z.length := by
        intro parts
        induction parts with
        | nil => intro z l h; simp [fillP] at h; subst h; rfl
        | cons p r ih =>
         intro z l h
         obtain ⟨k, x⟩ := p
         simp only [fillP] at h
         cases hb : ((evL c.tm x).okc && (evL c.tm x).cells.length == j.size && Nat.ble (k * j.size + j.size) z.length) <;> simp only [hb, cond_true, cond_false] at h
         ·cases h
         ·rw [ih _ _ h, length_setAt]
       exact this _ _ _ hl
      rw [Array.length_toList] at q1 q2
      rw [size_madeCells] at q2
      omega
     have hmax : n ≤ maxLen := by
      have : n * 1 ≤ n * j.size := Nat.mul_le_mul_left _ hb2
      have := maxLen_big
      omega
     have hmul : 0 < n → 0 < n * j.size := fun h => Nat.mul_pos h hb2
     obtain ⟨c', hφ, hp⟩ := alloc_post (o := .cells cells' e) (v := .slice (some ⟨w.heap.size, 0, none⟩) n n) hh hw hf h rfl
      ⟨_, cells'.toList, Env.set_self _ _ _, World.ownsRow_lit w cells' n (Nat.zero_le _) hmax hlen, e2.le (fun _ _ e => e) (Env.le_set (hf _ (Nat.le_refl _) hlt)), fun b hb => by
       simp [blkV] at hb; subst hb; exact mine_new hw⟩
     refine ⟨_, _, _, H, _, _, hφ, ⟨Env.set_self _ _ _, _, _, _, rfl⟩, hp, .inl rfl, ?_⟩
     have hsz : (sizeOf e).run P w = .ok j.size w := sizeOf_run (hC.ty _ _ hj) w
     have e1' : Instr.fill (fun i => some (i * j.size, j.size)) (madeCells z.cells (n * j.size)) (parts.toList.map fun p => (p.1, a.eval p.2)) = some cells' := e1
     have hzr : (zeroValue e).run P w = .ok z w := by simp [zeroValue, typeInfo, h1, h4]
     have hn2 : ¬ (16777216 < n * j.size) := by omega
     by_cases hn : n * j.size = 0
     ·have : madeCells z.cells (n * j.size) = #[] := by rw [hn]; simp [madeCells]
      rw [this] at e1'
      simp [execOp, ho, Instr.buildSlice, run_underlying hu, hsz, hn, newRow, Array.range_zero']
      rw [e1']
      rfl
     ·simp [execOp, ho, Instr.buildSlice, run_underlying hu, hsz, hn, hn2, hzr, newRow]
      unfold madeCells at e1'
      rw [e1']
      rfl
    ·exact h.elim
   ·exact h.elim
  ·exact h.elim
 ·exact h.elim
theorem alloc_lt {c : Core} {b : SB} {v : SV} {φ : SV × Core → Prop} (h : (alloc c b v).All φ) : c.nx < c.lim := by
 unfold alloc at h
 cases hb : Nat.blt c.nx c.lim <;> simp only [hb, cond_true, cond_false] at h
 ·exact h.elim
 ·exact blt_spec hb
theorem natOf_spec {x : SV} {n : Int} {m : Nat} (h1 : intOf? x = some n) (h2 : natOf prim x = some m) : m = n.toNat := by
 cases x <;> simp [intOf?, natOf] at h1 h2
 all_goals (subst h1; subst h2; rfl)
theorem isZero_spec {x : SV} {u : Value} (h : isZero x = true) (hd : Den H E x u) : ∃ k, u = .int k 0 := by
 cases x <;> simp [isZero] at h
 subst h
 exact ⟨_, hd⟩
theorem room_spec {n b : Nat} (h : prim.room n b = true) : n * b ≤ 140737488355328 ∧ n ≤ maxLen := by simpa [prim] using h
theorem le_spec {a b : Int} (h : prim.le a b = true) : a ≤ b := by simpa [prim] using h
theorem bytes_le {p q kn : Nat} (h : p = q) (hb : kn * q ≤ 140737488355328) : (p : Int) * (kn : Int) ≤ 281474976710656 := by
 subst h
 have h : ((p * kn : Nat) : Int) ≤ 281474976710656 := by rw [Nat.mul_comm]; omega
 rwa [Int.natCast_mul] at h
theorem made0_ent {K : Kx} {H : Mem} {E : Env} {w : World} {id e st : Nat} {x : SV} {v : Value} (he : E id = some v) (hr : w.ownsRow 0 e st v 0 []) (hm : ∀ b, blkV v = some b → Mine K H b) : Ent K H E w id (made0 x e st) := by
 have h1 : Ent K H E w id (.row [] e st 0) := ⟨_, [], he, hr, trivial, hm⟩
 have h2 : Ent K H E w id (.own e st 0 fun _ => []) := ⟨_, [], he, hr, ⟨by simp, fun _ h => by omega, fun _ h => by simp at h, fun _ _ _ _ h => by omega⟩, hm⟩
 cases x <;> first | exact h1 | exact h2
theorem w_makeSlice {c : Core} {a : Act} {o : Oper} {t : Nat} {x y : Operand} {same : Bool} {φ : SV × Core → Prop} (hC : CtxOK P C) (hd : DenL H E c.tm a.tmps.toList) (hh : HeapOK K H E w c.hp) (hw : WOK K H w) (hf : Free E c)
  (ho : o.op = .makeSlice t x y) (hsame : same = true → a.eval x = a.eval y) (h : (execMakeSlice C c t (evL c.tm x) (evL c.tm y) same).All φ) : WOut P K H E w c a o φ := by
 have dx := den_ev (H := H) (E := E) hd x
 have dy := den_ev (H := H) (E := E) hd y
 unfold execMakeSlice at h
 split at h
 ·rename_i i hi
  split at h
  ·rename_i e hty
   have hu := desc_slice (hC.ty _ _ hi) hty
   split at h
   ·rename_i j hj
    obtain ⟨inf, z, h1, h2, h3, h4, h5, h6, _⟩ := (hC.ty _ _ hj).info
    split at h
    ·rename_i ki kn hki hkn
     obtain ⟨k, ey⟩ := intOf_spec hki dy
     have hA := hC.A
     rw [hA] at h hkn
     have hkn := natOf_spec hki hkn
     cases hz : isZero (evL c.tm x) <;> simp only [hz, cond_true, cond_false] at h
     ·cases hs : (same && oneL j.zero && Nat.blt 0 j.size) <;> simp only [hs, cond_true, cond_false] at h
      ·exact h.elim
      simp only [Bool.and_eq_true] at hs
      have ex := hsame hs.1.1
      have hj0 := blt_spec hs.2
      split at h
      ·rename_i zs hzs
       obtain ⟨g1, g2, g3⟩ := h
       have g1 := le_spec g1
       obtain ⟨g2, g4⟩ := room_spec g2
       have hlt := alloc_lt g3
       have hki' : ki = (kn : Int) := by omega
       subst hki'
       have hr := run_make (P := P) w t e inf z hu h1 h4 k k (kn : Int) (kn : Int) (by omega) (Int.le_refl _) (bytes_le h3 g2) (by have : maxLen = 9223372036854775807 := rfl; omega)
       simp only [Int.toNat_natCast, h2] at hr
       have h5' : DenL H E j.zero z.cells.toList := h5.le (fun _ _ e => by cases e) (fun _ _ e => by cases e)
       have hzr : RepL H zs z.cells.toList := toShL_rep (K := K) (w := w) (hp := []) ⟨fun _ _ e => by simp [look?] at e, fun _ _ _ _ _ e => by simp [look?] at e⟩ hzs h5'
       have hone := one_cells hs.1.2 h5'
       have hzl := hzr.length
       rw [Array.length_toList, h6] at hzl
       have hget : ∀ (m : Nat) (u : Value), (madeCells z.cells (kn * j.size)).toList[m]? = some u → z.cells.toList[m % j.size]? = some u := fun m u hm => by
        have : m < kn * j.size := by
         have := (List.getElem?_eq_some_iff.1 hm).1
         rwa [Array.length_toList, size_madeCells] at this
        rw [made_get _ _ _ this (by omega), h6] at hm
        exact hm
       have hrows : RepRows H j.size kn (fun _ => zs) (madeCells z.cells (kn * j.size)).toList := by
        refine ⟨by rw [Array.length_toList, size_madeCells], fun _ _ => hzl.symm, fun u hu' => ?_, fun i m s v hi e1 e2 => ?_⟩
        ·obtain ⟨m, hm⟩ := List.mem_iff_getElem?.1 hu'
         exact hone u (List.mem_of_getElem? (hget m u hm))
        ·have e2 := hget _ _ e2
         have hm : m < j.size := by rw [hzl]; exact (List.getElem?_eq_some_iff.1 e1).1
         rw [Nat.mul_comm, Nat.mul_add_mod, Nat.mod_eq_of_lt hm] at e2
         exact hzr.at_ e1 e2
       obtain ⟨c', hφ, hp⟩ := alloc_post (o := .cells (madeCells z.cells (kn * j.size)) e) (v := .slice (some ⟨w.heap.size, 0, none⟩) kn kn) hh hw hf g3 rfl
        ⟨_, _, Env.set_self _ _ _, World.ownsRow_lit w _ kn (Nat.zero_le _) g4 (size_madeCells _ _), hrows, fun b hb => by
         simp [blkV] at hb; subst hb; exact mine_new hw⟩
       refine ⟨_, _, _, H, _, _, hφ, ⟨Env.set_self _ _ _, _, _, _, rfl⟩, hp, .inl rfl, ?_⟩
       simp [execOp, ho, ex, ey, hr]
      ·exact h.elim
     ·obtain ⟨g1, g2, g3⟩ := h
      have g1 := le_spec g1
      obtain ⟨g2, g4⟩ := room_spec g2
      have hlt := alloc_lt g3
      obtain ⟨l, ex⟩ := isZero_spec hz dx
      have hki' : ki = (kn : Int) := by omega
      subst hki'
      have hr := run_make (P := P) w t e inf z hu h1 h4 l k 0 (kn : Int) (by omega) (by omega) (bytes_le h3 g2) (by have : maxLen = 9223372036854775807 := rfl; omega)
      simp only [Int.toNat_natCast, Int.toNat_zero, h2] at hr
      obtain ⟨c', hφ, hp⟩ := alloc_post (o := .cells (madeCells z.cells (kn * j.size)) e) (v := .slice (some ⟨w.heap.size, 0, none⟩) 0 kn) hh hw hf g3 rfl
       (made0_ent (Env.set_self _ _ _) (World.ownsRow_made w _ kn (Nat.zero_le _) g4 (size_madeCells _ _)) fun b hb => by
        simp [blkV] at hb; subst hb; exact mine_new hw)
      refine ⟨_, _, _, H, _, _, hφ, ⟨Env.set_self _ _ _, _, _, _, rfl⟩, hp, .inl rfl, ?_⟩
      simp [execOp, ho, ex, ey, hr]
    ·exact h.elim
   ·exact h.elim
  ·exact h.elim
 ·exact h.elim
end
end Go.Sx
namespace Go.Sx
open Go.Lib
section
variable {P : Program} {w : World}
theorem bytesV_length (l : List UInt8) : (bytesV l).length = l.length := by simp [bytesV]
theorem bytesV_app (l m : List UInt8) : bytesV (l ++ m) = bytesV l ++ bytesV m := by simp [bytesV]
theorem bytesV_one (l : List UInt8) : ∀ u ∈ bytesV l, u.oneCell' = true := fun u hu => by
 simp only [bytesV, List.mem_map] at hu
 obtain ⟨b, _, rfl⟩ := hu
 rfl
theorem run_storeCells_clear (P : Program) (g o : Nat) (t : TypeId) (fz : Nat × Nat) : ∀ (vs : List Value) (i : Nat) (cur : Array Value) (w : World), w.heap[g]? = some (.cells cur t fz) → (∀ j, o + i ≤ j → j < cur.size → ¬ (fz.1 ≤ j ∧ j < fz.2)) → o + i + vs.length ≤ cur.size → (∀ v ∈ vs, v.oneCell' = true) →
  (storeCells ⟨g, o, none⟩ vs i).run P w = .ok () (w.setRow g (cur.toList.take (o + i) ++ vs ++ cur.toList.drop (o + i + vs.length)).toArray)
 | [], i, cur, w, hg, _, _, _ => by
  simp only [storeCells, List.append_nil, List.length_nil, Nat.add_zero, List.take_append_drop, Array.toArray_toList]
  rw [setRow_self w g cur t fz hg]
  rfl
 | v :: rest, i, cur, w, hg, hfz, hl, h1 => by
  have hi : o + i < cur.size := by simp at hl; omega
  have hadd : (⟨g, o, none⟩ : Addr).add i = ⟨g, o + i, none⟩ := by unfold Addr.add; split <;> simp_all
  have hcell : w.cell? ⟨g, o + i, none⟩ = some cur[o + i] := by simp [World.cell?, hg, hi]
  have hfro : w.frozen? ⟨g, o + i, none⟩ = false := by
   have := hfz (o + i) (Nat.le_refl _) hi
   obtain ⟨lo, hi'⟩ := fz
   simp only [World.frozen?, hg, Bool.and_eq_false_iff, decide_eq_false_iff_not]
   simp only at this
   omega
  have hst : (store ((⟨g, o, none⟩ : Addr).add i) v).run P w = .ok () (w.setRow g (cur.setIfInBounds (o + i) v)) := by
   rw [hadd, run_store P w _ v _ (h1 v (by simp)), hcell]
   simp [hfro, setCell_eq_setRow w g (o + i) cur t fz v hg]
  have ih := run_storeCells_clear P g o t fz rest (i + 1) (cur.setIfInBounds (o + i) v) (w.setRow g (cur.setIfInBounds (o + i) v)) (setRow_heap w g cur _ t _ hg) (fun j h1 h2 => hfz j (by omega) (by simpa using h2)) (by simp at hl ⊢; omega) (fun x hx => h1 x (by simp [hx]))
  simp only [storeCells, Sem.run_bind, hst, Result.andThen_ok, ih, setRow_setRow]
  congr 3
  have e := list_seg_step cur.toList (o + i) v rest (by simp at hl ⊢; omega)
  simpa [Array.toList_setIfInBounds, Nat.add_assoc] using e
structure SrcB (P : Program) (w : World) (u : TypeId) (x : Value) (m : List UInt8) : Prop where
 ty : P.underlying u = some .string ∨ ∃ d, P.underlying u = some (.slice d)
 len : ∀ w' : World, (Builtin.lenOf x).run P w' = .ok m.length w'
 cells : ∀ w' : World, w'.heap = w.heap → (Builtin.firstCells 1 m.length x).run P w' = .ok (bytesV m).toArray w'
theorem append_buf (t u ty e : TypeId) (i : TypeInfo) (ht : P.underlying t = some (.slice e)) (hi : P.info? e = some i) (hz : i.zero = some (.int .u8 0)) (hsize : i.size = 1) (hby : i.bytes = 1)
  (v : Value) (l : List UInt8) (hown : OwnsBuf w e v l) (x : Value) (m : List UInt8) (hx : SrcB P w u x m) (h63 : l.length + m.length ≤ maxLen) (hbytes : (l.length + m.length) * 1 ≤ 140737488355328) :
  ∃ v' w', (Builtin.append_ #[t, u] ty #[v, x]).run P w = .ok v' w' ∧ OwnsBuf w' e v' (l ++ m) ∧ w.grownBy w' (blkV v) ∧ ∀ b, blkV v' = some b → blkV v = some b ∨ w.heap.size ≤ b := by
 have hsmall : l.length + m.length ≤ 9223372036854775807 := by simp only [maxLen] at h63; omega
 have hll : (l ++ m).length = l.length + m.length := by simp
 have hz1 : (Value.int .u8 0).cells.size = 1 := rfl
 have grown : ∀ (cap : Nat) (row : Option Nat), OwnsBuf (w.drew.alloc (.cells ((bytesV l).toArray ++ (bytesV m).toArray ++ Builtin.zeroCells (Value.int .u8 0).cells (grownCap w (l.length + m.length) cap e - (l.length + m.length))) e)) e
   (.slice (some ⟨w.heap.size, 0, none⟩) (l.length + m.length) (grownCap w (l.length + m.length) cap e)) (l ++ m) ∧
   w.grownBy (w.drew.alloc (.cells ((bytesV l).toArray ++ (bytesV m).toArray ++ Builtin.zeroCells (Value.int .u8 0).cells (grownCap w (l.length + m.length) cap e - (l.length + m.length))) e)) row := fun cap row => by
  have hge := grownCap_ge w (l.length + m.length) cap e
  have hcm : grownCap w (l.length + m.length) cap e ≤ maxLen := grownCap_le_maxLen w (l.length + m.length) cap e h63
  refine ⟨.inr ⟨w.heap.size, _, _, (0, 0), by rw [hll], heap_alloc_new w.drew _, .inl (Nat.zero_le _), by rw [hll]; exact hge, hcm, ?_, ?_⟩, ⟨rfl, rfl, rfl, by simp, fun k hk _ => by first | exact Go.heap_alloc_old w.drew _ k hk | exact heap_alloc_old w.drew _ hk⟩⟩
  ·simp only [Array.size_append, List.size_toArray, size_zeroCells, hz1, bytesV_length]
   omega
  ·simp only [Array.toList_append, List.append_assoc]
   rw [← List.append_assoc, ← bytesV_app, ← bytesV_length (l ++ m)]
   exact List.take_left
 have grow : ∀ (base : Option Addr) (cap : Nat), v = .slice base l.length cap → cap < l.length + m.length → (Builtin.firstCells 1 l.length v).run P w.drew = .ok (bytesV l).toArray w.drew →
   (Builtin.append_ #[t, u] ty #[v, x]).run P w = .ok (.slice (some ⟨w.heap.size, 0, none⟩) (l.length + m.length) (grownCap w (l.length + m.length) cap e))
    (w.drew.alloc (.cells ((bytesV l).toArray ++ (bytesV m).toArray ++ Builtin.zeroCells (Value.int .u8 0).cells (grownCap w (l.length + m.length) cap e - (l.length + m.length))) e)) := fun base cap hv hg hfo => by
  subst hv
  have hn : ¬ (l.length + m.length ≤ cap) := by omega
  have h63' : ¬ (9223372036854775807 < ((l.length : Int) + (m.length : Int))) := by omega
  have h48' : ¬ (281474976710656 < Builtin.nextslicecap (l.length + m.length) cap) := by
   have := growslice_fits (old := cap) (need := l.length + m.length) (by omega) hbytes
   omega
  have hf := hx.cells w.drew rfl
  have hl := hx.len w
  rcases hx.ty with hu | ⟨d, hu⟩
  ·simp [Builtin.append_, run_underlying ht, run_underlying hu, sizeOf, typeInfo, zeroValue, hi, hz, hsize, hl, hn, h63', h48', hby, Question.forced, hf, hfo, newRow, grownCap]
   congr 2
   apply Array.ext'
   simp [List.append_assoc]
  ·simp [Builtin.append_, run_underlying ht, run_underlying hu, sizeOf, typeInfo, zeroValue, hi, hz, hsize, hl, hn, h63', h48', hby, Question.forced, hf, hfo, newRow, grownCap]
   congr 2
   apply Array.ext'
   simp [List.append_assoc]
 rcases hown with ⟨rfl, rfl⟩ | ⟨g, cap, cur, fz, rfl, hg, hfz, hnc, hcm, hcs, htake⟩
 ·by_cases hm : m.length = 0
  ·have hm0 : m = [] := List.eq_nil_of_length_eq_zero hm
   subst hm0
   have hl := hx.len w
   have hf := hx.cells w rfl
   refine ⟨.slice none 0 0, w, ?_, .inl ⟨rfl, rfl⟩, ⟨rfl, rfl, rfl, Nat.le_refl _, fun _ _ _ => rfl⟩, fun b hb => .inl hb⟩
   simp only [List.length_nil] at hl hf
   rcases hx.ty with hu | ⟨d, hu⟩
   ·simp [Builtin.append_, run_underlying ht, run_underlying hu, sizeOf, typeInfo, hi, hsize, hl, hf]
   ·simp [Builtin.append_, run_underlying ht, run_underlying hu, sizeOf, typeInfo, hi, hsize, hl, hf]
  ·have hr := grow none 0 rfl (by simp; omega) (by simp [Builtin.firstCells, bytesV])
   have hgr := grown 0 (blkV (.slice none 0 0))
   exact ⟨_, _, hr, hgr.1, hgr.2, fun b hb => .inr (by simp [blkV] at hb; omega)⟩
 ·by_cases hroom : l.length + m.length ≤ cap
  ·have hl := hx.len w
   have hf := hx.cells w rfl
   have hst := run_storeCells_clear P g l.length e fz (bytesV m) 0 cur w hg (fun j h1 h2 => by omega) (by rw [bytesV_length]; omega) (bytesV_one m)
   simp only [Nat.add_zero, bytesV_length] at hst
   have hr : (Builtin.append_ #[t, u] ty #[.slice (some ⟨g, 0, none⟩) l.length cap, x]).run P w = .ok (.slice (some ⟨g, 0, none⟩) (l.length + m.length) cap) (w.setRow g (cur.toList.take l.length ++ bytesV m ++ cur.toList.drop (l.length + m.length)).toArray) := by
    rcases hx.ty with hu | ⟨d, hu⟩
    ·simp [Builtin.append_, run_underlying ht, run_underlying hu, sizeOf, typeInfo, hi, hsize, hl, hroom, hf, Addr.add_lit, hst]
    ·simp [Builtin.append_, run_underlying ht, run_underlying hu, sizeOf, typeInfo, hi, hsize, hl, hroom, hf, Addr.add_lit, hst]
   refine ⟨_, _, hr, .inr ⟨g, cap, _, fz, by rw [hll], setRow_heap w g cur _ e _ hg, by rw [hll]; omega, by rw [hll]; exact hroom, hcm, ?_, ?_⟩, ⟨rfl, rfl, rfl, by simp, fun k _ hk => setRow_other w g k _ (fun e => hk (by simp [blkV, e]))⟩, fun b hb => .inl hb⟩
   ·simp only [List.size_toArray, List.length_append, List.length_take, List.length_drop, Array.length_toList, bytesV_length]
    omega
   ·rw [htake, ← bytesV_app, ← bytesV_length (l ++ m)]
    exact List.take_left
  ·have hfo : (Builtin.firstCells 1 l.length (.slice (some ⟨g, 0, none⟩) l.length cap)).run P w.drew = .ok (bytesV l).toArray w.drew := by
    refine run_firstCells_some (P := P) w.drew 1 l.length ⟨g, 0, none⟩ l.length cap (bytesV l) (by rw [bytesV_length]; omega) fun j u hj => ?_
    have hadd : (⟨g, 0, none⟩ : Addr).add j = ⟨g, j, none⟩ := by unfold Addr.add; split <;> simp_all
    show w.cell? _ = _
    rw [hadd, cell_of_row w g j cur e fz hg]
    rw [← htake, List.getElem?_take] at hj
    split at hj
    ·simpa using hj
    ·cases hj
   have hr := grow (some ⟨g, 0, none⟩) cap rfl (by omega) hfo
   have hgr := grown cap (blkV (.slice (some ⟨g, 0, none⟩) l.length cap))
   exact ⟨_, _, hr, hgr.1, hgr.2, fun b hb => .inr (by simp [blkV] at hb; omega)⟩
theorem srcB_str {u : TypeId} (hu : P.underlying u = some .string) (m : List UInt8) : SrcB P w u (.string ⟨m.toArray⟩) m := by
 refine ⟨.inl hu, fun w' => ?_, fun w' _ => ?_⟩
 ·simp [Builtin.lenOf, ByteArray.size]
 ·have := run_firstCells_string (P := P) w' 1 ⟨m.toArray⟩
  have e : (⟨m.toArray⟩ : ByteArray).size = m.length := by simp [ByteArray.size]
  rw [e] at this
  rw [this]
  simp [strCells, bytesV]
theorem srcB_own {u e' e : TypeId} (hu : P.underlying u = some (.slice e')) {x : Value} {m : List UInt8} (hx : OwnsBuf w e x m) : SrcB P w u x m := by
 refine ⟨.inr ⟨e', hu⟩, fun w' => ?_, fun w' hw => ?_⟩
 ·rcases hx with ⟨rfl, rfl⟩ | ⟨g, cap, cur, fz, rfl, _⟩ <;> simp [Builtin.lenOf]
 ·rcases hx with ⟨rfl, rfl⟩ | ⟨g, cap, cur, fz, rfl, hg, hfz, hnc, hcm, hcs, htake⟩
  ·simp [Builtin.firstCells, bytesV]
  ·refine run_firstCells_some (P := P) w' 1 m.length ⟨g, 0, none⟩ m.length cap (bytesV m) (by rw [bytesV_length]; omega) fun j u hj => ?_
   have hadd : (⟨g, 0, none⟩ : Addr).add j = ⟨g, j, none⟩ := by unfold Addr.add; split <;> simp_all
   rw [hadd, cell_of_row w' g j cur e fz (by rw [hw]; exact hg)]
   rw [← htake, List.getElem?_take] at hj
   split at hj
   ·simpa using hj
   ·cases hj
theorem ownsBuf_row {e n : Nat} {v : Value} {xs : List Value} {l : List UInt8} (h : w.ownsRow 0 e 1 v n xs) (hx : xs = bytesV l) : OwnsBuf w e v l := by
 have hn : n = l.length := by have := h.1; rw [hx, bytesV_length] at this; omega
 subst hn
 rcases h.2 with ⟨rfl, h0⟩ | ⟨g, cap, cur, rfl, _, hg, hnc, hcm, hcs, htake⟩
 ·exact .inl ⟨rfl, List.eq_nil_of_length_eq_zero h0⟩
 ·exact .inr ⟨g, cap, cur, (0, 0), rfl, hg, .inl (Nat.zero_le _), hnc, hcm, by omega, by rw [← hx, ← htake]; simp⟩
theorem conv_str {src dst e : TypeId} (hs : P.underlying src = some (.slice e)) (he : P.underlying e = some (.int .u8)) (hd : P.underlying dst = some .string) {v : Value} {l : List UInt8} (h : OwnsBuf w e v l) :
  ∀ w' : World, (∀ b, blkV v = some b → w'.heap[b]? = w.heap[b]?) → (convert src dst v).run P w' = .ok (.string ⟨l.toArray⟩) w' := fun w' hk => by
 rcases h with ⟨rfl, rfl⟩ | ⟨g, cap, cur, fz, rfl, hg, hfz, hnc, hcm, hcs, htake⟩
 ·rw [run_convert_bytes_string w' src dst e none 0 0 hs he hd]
  rfl
 ·rw [run_convert_bytes_string w' src dst e _ _ _ hs he hd]
  have hg' : w'.heap[g]? = some (.cells cur e fz) := by rw [hk g rfl]; exact hg
  have hl : (loadCells ⟨g, 0, none⟩ l.length).run P w' = .ok ((l.map fun b => (b.toNat : Int)).map (Value.int .u8)).toArray w' := by
   have := run_loadCells_list (P := P) (w := w') ⟨g, 0, none⟩ (bytesV l) fun j u hj => by
    have hadd : (⟨g, 0, none⟩ : Addr).add j = ⟨g, j, none⟩ := by unfold Addr.add; split <;> simp_all
    rw [hadd, cell_of_row w' g j cur e fz hg']
    rw [← htake, List.getElem?_take] at hj
    split at hj
    ·simpa using hj
    ·cases hj
   rw [bytesV_length] at this
   rw [this]
   simp [bytesV, Function.comp_def]
  rw [run_bytesToString w' _ _ _ _ hl]
  have key : ∀ (l : List UInt8) (s : ByteArray), (l.map fun b => (b.toNat : Int)).foldl (fun r n => r.push (UInt8.ofNat n.toNat)) s = ⟨s.data ++ l.toArray⟩ := by
   intro l
   induction l with
   | nil => intro s; simp
   | cons a l ih =>
    intro s
    rw [List.map_cons, List.foldl_cons, ih]
    congr 1
    simp [ByteArray.push]
  rw [key]
  congr 3
  simp [ByteArray.empty, ByteArray.emptyWithCapacity]
  first | done | rfl
theorem conv_bytes {src dst e : TypeId} (hs : P.underlying src = some .string) (hd : P.underlying dst = some (.slice e)) (he : P.underlying e = some (.int .u8)) (l : List UInt8) (hmax : l.length ≤ maxLen) :
  ∃ v' w', (convert src dst (.string ⟨l.toArray⟩)).run P w = .ok v' w' ∧ OwnsBuf w' e v' l ∧ w.grownBy w' none ∧ ∀ b, blkV v' = some b → w.heap.size ≤ b := by
 have hr := Lib.run_convert_string_bytes (P := P) w src dst e ⟨l.toArray⟩ hs hd he
 have es : (⟨l.toArray⟩ : ByteArray).size = l.length := by simp [ByteArray.size]
 have hge := grownCap_ge w l.length 0 e
 have hcm : grownCap w l.length 0 e ≤ maxLen := grownCap_le_maxLen w l.length 0 e hmax
 have hcz : (bytesCells w e ⟨l.toArray⟩).size = grownCap w l.length 0 e := by
  simp only [bytesCells, Array.size_append, Array.size_map, Array.size_replicate, es]
  have : l.toArray.size = l.length := by simp
  omega
 refine ⟨_, _, hr, .inr ⟨w.heap.size, _, _, _, by rw [es], bytesWorld_at_new w e _, .inr (by rw [hcz]; exact Nat.le_refl _), hge, hcm, hcz, ?_⟩, ⟨rfl, rfl, rfl, by rw [bytesWorld_size]; omega, fun k hk _ => bytesWorld_at_old w e _ k hk⟩, fun b hb => by simp [blkV] at hb; omega⟩
 have : (bytesCells w e ⟨l.toArray⟩).toList = bytesV l ++ List.replicate (grownCap w l.length 0 e - l.length) (.int .u8 0) := by
  simp [bytesCells, bytesV, es]
 rw [this, ← bytesV_length l]
 exact List.take_left
end
end Go.Sx
namespace Go.Sx
section
variable {P : Program} {C : Ctx} {K : Kx} {H H' : Mem} {E E' : Env} {w w' : World}
def Src (w : World) (u : Value) (m : Nat) (xs : List Value) : Prop :=
 (m = 0 ∧ ∃ A c, u = .slice A 0 c) ∨ (∃ a c, u = .slice (some a) m c ∧ ∀ j v, xs[j]? = some v → w.cell? (a.add j) = some v)
theorem src_row {e st m : Nat} {u : Value} {xs : List Value} (h : w.ownsRow 0 e st u m xs) : Src w u m xs := by
 rcases h.2 with ⟨rfl, rfl⟩ | ⟨g, cap, cur, rfl, _⟩
 ·exact .inl ⟨rfl, _, _, rfl⟩
 ·exact .inr ⟨_, _, rfl, h.cells (g := g) rfl⟩
theorem src_rep {st n : Nat} {g : Nat → List Sh} {u : Value} (h0 : 0 < st) (h : Rep H (.sl st n g) u) (hon : H.on w) : ∃ xs, RepRows H st n g xs ∧ Src w u n xs := by
 cases h with
 | sl0 _ _ A cap hc => exact ⟨[], ⟨by simp, fun _ h => by omega, fun _ h => by simp at h, fun _ _ _ _ h => by omega⟩, .inl ⟨rfl, _, _, rfl⟩⟩
 | sl _ _ _ b off cap c h1 h2 h3 h4 h5 h6 =>
  have hk : ∀ k, k < n * st → k / st < n ∧ k % st < st ∧ k / st * st + k % st = k := fun k hk => ⟨(Nat.div_lt_iff_lt_mul h0).2 hk, Nat.mod_lt _ h0, by rw [Nat.mul_comm]; exact Nat.div_add_mod _ _⟩
  have hget : ∀ (k : Nat) (v : Value), ((List.range (n * st)).map fun k => c (k / st) (k % st))[k]? = some v → k < n * st ∧ v = c (k / st) (k % st) := fun k v e => by
   have e := range_map_get e
   exact ⟨e.1, e.2.symm⟩
  refine ⟨(List.range (n * st)).map fun k => c (k / st) (k % st), ⟨by simp, h3, fun u hu => ?_, fun i j s v hi e1 e2 => ?_⟩, .inr ⟨_, _, rfl, fun j v e => ?_⟩⟩
  ·obtain ⟨k, hk'⟩ := List.mem_iff_getElem?.1 hu
   obtain ⟨a1, rfl⟩ := hget _ _ hk'
   exact h5 _ _ (hk k a1).1 (hk k a1).2.1
  ·obtain ⟨_, rfl⟩ := hget _ _ e2
   have hj : j < st := by rw [← h3 i hi]; exact (List.getElem?_eq_some_iff.1 e1).1
   have d1 : (i * st + j) / st = i := by rw [Nat.mul_comm, Nat.mul_add_div h0, Nat.div_eq_of_lt hj, Nat.add_zero]
   have d2 : (i * st + j) % st = j := by rw [Nat.mul_comm, Nat.mul_add_mod, Nat.mod_eq_of_lt hj]
   rw [d1, d2]
   exact h6 i j s hi e1
  ·obtain ⟨a1, rfl⟩ := hget _ _ e
   obtain ⟨b1, b2, b3⟩ := hk j a1
   have := hcell_on hon (h4 _ _ b1 b2)
   rw [Nat.add_assoc, b3] at this
   simpa [Addr.add_lit] using this
theorem rows_nil (st : Nat) (g : Nat → List Sh) : RepRows H st 0 g [] := ⟨by simp, fun _ h => by omega, fun _ h => by simp at h, fun _ _ _ _ h => by omega⟩
theorem rows_take {st m n : Nat} {g : Nat → List Sh} {xs : List Value} (h : RepRows H st m g xs) (hn : n ≤ m) : RepRows H st n g (xs.take (n * st)) := by
 obtain ⟨h1, h2, h3, h4⟩ := h
 have hle : n * st ≤ m * st := Nat.mul_le_mul_right _ hn
 refine ⟨by rw [List.length_take, h1]; omega, fun i hi => h2 i (by omega), fun u hu => h3 u (List.mem_of_mem_take hu), fun i j s v hi e1 e2 => ?_⟩
 rw [List.getElem?_take] at e2
 split at e2
 ·exact h4 i j s v (by omega) e1 e2
 ·cases e2
theorem src_view {e st m n : Nat} {A : Option Addr} {k c : Nat} {xs : List Value} (h : w.ownsRow 0 e st (.slice A k c) m xs) (hn : n ≤ k) : Src w (.slice A n c) n (xs.take (n * st)) := by
 rcases src_row h with ⟨rfl, A', c', e⟩ | ⟨a, c', e, hc⟩
 ·cases e
  have : n = 0 := by omega
  subst this
  exact .inl ⟨rfl, _, _, rfl⟩
 ·cases e
  refine .inr ⟨_, _, rfl, fun j v hj => hc j v ?_⟩
  rw [List.getElem?_take] at hj
  split at hj
  ·exact hj
  ·cases hj
theorem src_els {hp : List (Nat × SB)} {st m : Nat} {h : Nat → List Sh} {x : SV} {u : Value} (h0 : 0 < st) (hh : HeapOK K H E w hp) (hon : H.on w) (he : elsOf hp st x = some (m, h)) (hd : Den H E x u) :
  ∃ xs, RepRows H st m h xs ∧ Src w u m xs := by
 unfold elsOf at he
 split at he
 ·cases he
  simp only [Den] at hd; subst hd
  exact ⟨[], rows_nil _ _, .inl ⟨rfl, _, _, rfl⟩⟩
 ·rename_i id
  split at he
  ·rename_i cells el st' n hl
   cases hb : (st == st' && oneL cells) <;> simp only [hb, cond_true, cond_false] at he
   ·cases he
   simp only [Bool.and_eq_true, beq_iff_eq] at hb
   obtain ⟨rfl, hone⟩ := hb
   simp only [Option.map_eq_some_iff] at he
   obtain ⟨l, h1, h2⟩ := he
   simp only [Prod.mk.injEq] at h2
   obtain ⟨rfl, rfl⟩ := h2
   obtain ⟨v, xs, e1, e2, e3, _⟩ := hh.ent _ _ hl
   rw [hd.1] at e1; cases e1
   exact ⟨xs, rows_chunks e2.1 (toShL_rep hh h1 e3) (one_cells hone e3), src_row e2⟩
  ·rename_i el st' n g hl
   cases hb : (st == st') <;> simp only [hb, cond_true, cond_false] at he
   ·cases he
   obtain rfl : st = st' := by simpa using hb
   cases he
   obtain ⟨v, xs, e1, e2, e3, _⟩ := hh.ent _ _ hl
   rw [hd.1] at e1; cases e1
   exact ⟨xs, e3, src_row e2⟩
  ·rename_i st' n g hl
   cases hb : (st == st') <;> simp only [hb, cond_true, cond_false] at he
   ·cases he
   obtain rfl : st = st' := by simpa using hb
   cases he
   obtain ⟨v, e1, e2⟩ := hh.ent _ _ hl
   rw [hd.1] at e1; cases e1
   exact src_rep h0 e2 hon
  ·cases he
 ·rename_i st' n g
  cases hb : (st == st') <;> simp only [hb, cond_true, cond_false] at he
  ·cases hb2 : (st' == 0 && n == 0) <;> simp only [hb2, cond_true, cond_false] at he
   ·cases he
   simp only [Bool.and_eq_true, beq_iff_eq] at hb2
   obtain ⟨rfl, rfl⟩ := hb2
   cases he
   cases hd with
   | sl0 _ _ A cap hc => exact ⟨[], rows_nil _ _, .inl ⟨rfl, _, _, rfl⟩⟩
   | sl _ _ _ b off cap c h1 h2 h3 h4 h5 h6 => exact ⟨[], rows_nil _ _, .inl ⟨rfl, _, _, rfl⟩⟩
  ·obtain rfl : st = st' := by simpa using hb
   cases he
   exact src_rep h0 hd hon
 ·rename_i id n
  split at he
  ·rename_i el st' m' g hl
   cases hb : (st == st') <;> simp only [hb, cond_true, cond_false] at he
   ·cases he
   obtain rfl : st = st' := by simpa using hb
   cases he
   obtain ⟨v, xs, e1, e2, e3, _⟩ := hh.ent _ _ hl
   obtain ⟨A, k, c, a1, a2, rfl⟩ := hd
   rw [a1] at e1; cases e1
   have hk : k = m' := by
    have := lenV_row e2
    simpa [lenV] using this
   exact ⟨_, rows_take e3 (by omega), src_view e2 a2⟩
  ·cases he
 ·cases he
theorem rows_snoc {st n m : Nat} {g h : Nat → List Sh} {xs ys : List Value} (h1 : RepRows H st n g xs) (h2 : RepRows H st m h ys) : RepRows H st (n + m) (prim.snoc g n h) (xs ++ ys) := by
 obtain ⟨a1, a2, a3, a4⟩ := h1
 obtain ⟨b1, b2, b3, b4⟩ := h2
 have hs : ∀ i, prim.snoc g n h i = if i < n then g i else h (i - n) := fun _ => rfl
 refine ⟨by rw [List.length_append, a1, b1, Nat.add_mul], fun i hi => ?_, fun u hu => ?_, fun i j s v hi e1 e2 => ?_⟩
 ·rw [hs]
  split
  ·exact a2 i (by assumption)
  ·exact b2 _ (by omega)
 ·rcases List.mem_append.1 hu with hu | hu
  ·exact a3 u hu
  ·exact b3 u hu
 ·rw [hs] at e1
  split at e1
  ·rename_i hin
   have hj : j < st := by rw [← a2 i hin]; exact (List.getElem?_eq_some_iff.1 e1).1
   have : i * st + j < xs.length := by
    rw [a1]
    calc i * st + j < i * st + st := by omega
     _ = (i + 1) * st := by rw [Nat.add_mul, Nat.one_mul]
     _ ≤ n * st := Nat.mul_le_mul_right _ hin
   rw [List.getElem?_append_left this] at e2
   exact a4 i j s v hin e1 e2
  ·rename_i hin
   have hge : n * st ≤ i * st := Nat.mul_le_mul_right _ (by omega)
   rw [List.getElem?_append_right (by rw [a1]; omega)] at e2
   have : i * st + j - xs.length = (i - n) * st + j := by rw [a1, Nat.sub_mul]; omega
   rw [this] at e2
   exact b4 (i - n) j s v (by omega) e1 e2
theorem append_post {c : Core} {s : SV} {v v' : Value} {sb : SB} {φ : SV × Core → Prop} (hh : HeapOK K H E w c.hp) (hw : WOK K H w) (hf : Free E c)
  (h : (alloc (dropOwn c s) sb (.gs c.nx)).All φ) (hs : (ownId s = none ∧ blkV v = none) ∨ ∃ id sb0, ownId s = some id ∧ look? c.hp id = some sb0 ∧ E id = some v ∧ obk E id sb0 = blkV v)
  (hm : ∀ b, blkV v = some b → Mine K H b) (hg : w.grownBy w' (blkV v)) (hv' : ∀ b, blkV v' = some b → blkV v = some b ∨ w.heap.size ≤ b)
  (he : c.nx < c.lim → Ent K H (E.set c.nx v') w' c.nx sb) : ∃ c', φ (.gs c.nx, c') ∧ Post K H E w c H (E.set c.nx v') w' c' := by
 have hnx : (dropOwn c s).nx = c.nx := by unfold dropOwn; split <;> rfl
 have hlim : (dropOwn c s).lim = c.lim := by unfold dropOwn; split <;> rfl
 have htm : (dropOwn c s).tm = c.tm := by unfold dropOwn; split <;> rfl
 have htc : ∀ id ∈ c.tc, id ∈ (dropOwn c s).tc := by
  unfold dropOwn
  split
  ·exact fun _ h => List.mem_cons_of_mem _ h
  ·exact fun _ h => h
 have hlt := alloc_lt h
 rw [hnx, hlim] at hlt
 have he := he hlt
 have hnone := hf c.nx (Nat.le_refl _) hlt
 have hle : E.le (E.set c.nx v') := Env.le_set hnone
 have hb : Nat.blt (dropOwn c s).nx (dropOwn c s).lim = true := by
  rw [hnx, hlim]; unfold Nat.blt; exact Nat.ble_eq_true_of_le hlt
 unfold alloc at h
 rw [hb] at h
 simp only [cond_true] at h
 have hvb : ∀ b, blkV v = some b → b < w.heap.size ∧ ∃ id sb0, ownId s = some id ∧ look? c.hp id = some sb0 ∧ E id = some v ∧ obk E id sb0 = some b ∧ id ∈ (dropOwn c s).tc := fun b hb => by
  rcases hs with ⟨_, h2⟩ | ⟨id, sb0, h1, h2, h3, h4⟩
  ·rw [hb] at h2; cases h2
  ·exact ⟨((hh.ent _ _ h2).lt (h4.trans hb)).1, id, sb0, h1, h2, h3, h4.trans hb, by simp [dropOwn, h1]⟩
 have hold : ∀ id2 sb2, look? (dropOwn c s).hp id2 = some sb2 → look? c.hp id2 = some sb2 ∧ ∀ b, obk E id2 sb2 = some b → blkV v ≠ some b := by
  intro id2 sb2 hl
  have key : look? c.hp id2 = some sb2 ∧ ownId s ≠ some id2 := by
   unfold dropOwn at hl
   split at hl
   ·rename_i id hid
    simp only [look_hdel] at hl
    cases e : (id == id2) <;> simp only [e, cond_true, cond_false] at hl
    ·refine ⟨hl, fun e2 => ?_⟩
     rw [hid] at e2; cases e2
     simp at e
    ·cases hl
   ·rename_i hid
    exact ⟨hl, fun e2 => by rw [hid] at e2; cases e2⟩
  refine ⟨key.1, fun b ho e => ?_⟩
  obtain ⟨_, id, sb0, h1, h2, h3, h4, _⟩ := hvb b e
  have := hh.dis _ _ _ _ _ h2 key.1 h4 ho
  subst this
  exact key.2 h1
 have hkeep : ∀ b, b < w.heap.size → blkV v ≠ some b → w'.heap[b]? = w.heap[b]? := fun b hb hn => hg.block b hb fun e => hn e.symm
 refine ⟨_, h, fun _ _ e => e, hle, ?_, by simp [hnx], .inl (by simp [hnx]; omega), hlim, htm, ?_, ?_, htc, hg.size, ?_, ?_, ?_, ?_, ?_⟩
 ·intro i h1 h2
  by_cases e : i = c.nx
  ·subst e; simp [hnx]
  ·simp [Env.set, e, h1] at h2
 ·have hent : ∀ id sb', look? (dropOwn c s).hp id = some sb' → Ent K H (E.set c.nx v') w' id sb' ∧ Ent K H E w id sb' ∧ ∀ b, obk E id sb' = some b → blkV v ≠ some b := fun id sb' hl => by
   obtain ⟨h1, h2⟩ := hold id sb' hl
   have := hh.ent _ _ h1
   exact ⟨this.kept (fun _ _ e => e) hle (fun b hb => hkeep b (this.lt hb).1 (h2 b hb)) (fun b hb => (this.lt hb).2.1), this, h2⟩
  have hnew : ∀ b, obk (E.set c.nx v') c.nx sb = some b → blkV v' = some b := fun b hb => by
   have := obk_bk hb
   simpa [bk, Env.set] using this
  refine ⟨fun id sb' hl => ?_, fun id id' sb1 sb2 b h1 h2 o1 o2 => ?_⟩
  ·simp only [look_hins, hnx] at hl
   cases hid : (c.nx == id) <;> simp only [hid, cond_true, cond_false] at hl
   ·exact (hent id sb' hl).1
   ·cases hl
    obtain rfl : c.nx = id := by simpa using hid
    exact he
  ·simp only [look_hins, hnx] at h1 h2
   have cross : ∀ {i : Nat} {s1 : SB}, look? (dropOwn c s).hp i = some s1 → obk (E.set c.nx v') i s1 = some b → blkV v' = some b → False := fun {i s1} h1 o1 hvb' => by
    obtain ⟨_, a2, a3⟩ := hent _ _ h1
    rw [obk_eq a2 hle] at o1
    rcases hv' b hvb' with h | h
    ·exact a3 b o1 h
    ·have := (a2.lt o1).1; omega
   cases hid : (c.nx == id) <;> cases hid' : (c.nx == id') <;> simp only [hid, hid', cond_true, cond_false] at h1 h2
   ·obtain ⟨_, a2, _⟩ := hent _ _ h1
    obtain ⟨_, b2, _⟩ := hent _ _ h2
    rw [obk_eq a2 hle] at o1
    rw [obk_eq b2 hle] at o2
    exact hh.dis _ _ _ _ _ (hold _ _ h1).1 (hold _ _ h2).1 o1 o2
   ·obtain rfl : c.nx = id' := by simpa using hid'
    cases h2
    exact (cross h1 o1 (hnew b o2)).elim
   ·obtain rfl : c.nx = id := by simpa using hid
    cases h1
    exact (cross h2 o2 (hnew b o1)).elim
   ·have e1 : c.nx = id := by simpa using hid
    have e2 : c.nx = id' := by simpa using hid'
    rw [← e1, ← e2]
 ·refine ⟨hg.os.trans hw.os, hg.tape.trans hw.tape, hg.output.trans hw.output, Nat.le_trans hw.size hg.size, fun b hb hn => ?_, fun b o hb => ?_, hw.le, hw.fresh⟩
  ·rw [hkeep b (by have := hw.size; omega) fun e => ?_]
   ·exact hw.kept b hb hn
   ·rcases (hm b e).2 with h | h
    ·omega
    ·exact hn h
  ·have h1 := hw.on b o hb
   rw [hkeep b (Array.getElem?_eq_some_iff.1 h1).1 fun e => ?_]
   ·exact h1
   ·have := (hm b e).1
    rw [hb] at this; cases this
 ·intro b hb hne
  refine hkeep b hb fun e => ?_
  obtain ⟨_, id, sb0, h1, h2, h3, h4, h5⟩ := hvb b e
  exact hne id h5 (obk_bk h4)
 ·intro i b h1 h2
  by_cases e : i = c.nx
  ·subst e
   simp [bk, Env.set] at h2
   rcases hv' b h2 with h | h
   ·obtain ⟨_, id, sb0, h1, h2, h3, h4, h5⟩ := hvb b h
    exact .inr ⟨id, h5, obk_bk h4⟩
   ·exact .inl h
  ·simp [bk, Env.set, e, h1] at h2
 ·intro i hi
  have hi : i ∈ (dropOwn c s).tc := hi
  unfold dropOwn at hi
  split at hi
  ·rename_i id hid
   cases hi with
   | head =>
    rcases hs with ⟨h1, _⟩ | ⟨id', sb0, h1, h2, h3, h4⟩
    ·rw [hid] at h1; cases h1
    ·rw [hid] at h1; cases h1
     exact .inr (.inr ⟨sb0, h2, by rw [h4]; simp [bk, h3]⟩)
   | tail _ hi => exact .inl hi
  ·exact .inl hi
 ·intro i s0 b0 h1 h2 h3
  refine .inr ⟨s0, ?_, obk_le h3 hle⟩
  have h2 : i ∉ (dropOwn c s).tc := h2
  have hd : look? (dropOwn c s).hp i = some s0 := by
   unfold dropOwn at h2 ⊢
   split at h2
   ·rename_i id hid
    simp only [hid, look_hdel]
    cases e : (id == i) <;> simp only [cond_true, cond_false]
    ·exact h1
    ·obtain rfl : id = i := by simpa using e
     exact (h2 (List.mem_cons_self ..)).elim
   ·exact h1
  simp only [look_hins, hnx]
  cases hid : (c.nx == i) <;> simp only [cond_true, cond_false]
  ·exact hd
  ·obtain rfl : c.nx = i := by simpa using hid
   obtain ⟨u, hu⟩ := (hh.ent _ _ h1).some_
   rw [hnone] at hu; cases hu
 ·intro i s0 h1 hne
  simp only [look_hins, hnx] at h1
  cases hid : (c.nx == i) <;> simp only [hid, cond_true, cond_false] at h1
  ·have := (hold _ _ h1).1
   exact ⟨s0, this, fun b h => by rw [obk_eq (hh.ent _ _ this) hle] at h; exact h⟩
  ·obtain rfl : c.nx = i := by simpa using hid
   exact (hne hnone).elim
theorem owns_nil (w : World) (e st : Nat) : w.ownsRow 0 e st (.slice none 0 0) 0 [] := ⟨by simp, .inl ⟨rfl, rfl⟩⟩
theorem own_spec {c : Core} {e st : Nat} {s : SV} {v : Value} (hh : HeapOK K H E w c.hp) (h : isOwn c.hp e s = true) (hd : Den H E s v) :
  ((ownId s = none ∧ blkV v = none) ∨ ∃ id sb0, ownId s = some id ∧ look? c.hp id = some sb0 ∧ E id = some v ∧ obk E id sb0 = blkV v) ∧ (∀ b, blkV v = some b → Mine K H b) ∧
  (∀ a n, rowOf c.hp st s = some (a, n) → ∃ xs, w.ownsRow 0 e st v n xs ∧ DenL H E a xs) ∧
  (∀ n g, elsOf c.hp st s = some (n, g) → ∃ xs, w.ownsRow 0 e st v n xs ∧ RepRows H st n g xs) ∧
  (∀ n g more, xOf c.hp e st s = some (n, g, more) → ∃ xs ys, w.ownsRow 0 e st v (n + more.length / st) (xs ++ ys) ∧ RepRows H st n g xs ∧ DenL H E more ys ∧ more.length % st = 0 ∧ oneL more = true) := by
 unfold isOwn at h
 split at h
 ·simp only [Den] at hd; subst hd
  refine ⟨.inl ⟨rfl, rfl⟩, fun b hb => by simp [blkV] at hb, fun a n hr => ?_, fun n g hr => ?_, fun n g more hr => by simp [xOf] at hr⟩
  ·simp [rowOf] at hr
   obtain ⟨rfl, rfl⟩ := hr
   exact ⟨[], owns_nil _ _ _, trivial⟩
  ·simp [elsOf] at hr
   obtain ⟨rfl, rfl⟩ := hr
   exact ⟨[], owns_nil _ _ _, rows_nil _ _⟩
 ·rename_i id
  split at h
  ·rename_i cells e' st' n hl
   obtain rfl : e = e' := by simpa using h
   obtain ⟨v2, xs, e1, e2, e3, e4⟩ := hh.ent _ _ hl
   rw [hd.1] at e1; cases e1
   refine ⟨.inr ⟨id, _, rfl, hl, hd.1, by simp [obk, hd.1]⟩, e4, fun a n2 hr => ?_, fun n2 g hr => ?_, fun n2 g more hr => by simp [xOf, hl] at hr⟩
   ·simp only [rowOf, hl] at hr
    cases hb : (st == st') <;> simp only [hb, cond_true, cond_false] at hr
    ·cases hr
    obtain rfl : st = st' := by simpa using hb
    cases hr
    exact ⟨xs, e2, e3⟩
   ·simp only [elsOf, hl] at hr
    cases hb : (st == st' && oneL cells) <;> simp only [hb, cond_true, cond_false] at hr
    ·cases hr
    simp only [Bool.and_eq_true, beq_iff_eq] at hb
    obtain ⟨rfl, hone⟩ := hb
    simp only [Option.map_eq_some_iff] at hr
    obtain ⟨l, h1, h2⟩ := hr
    simp only [Prod.mk.injEq] at h2
    obtain ⟨rfl, rfl⟩ := h2
    exact ⟨xs, e2, rows_chunks e2.1 (toShL_rep hh h1 e3) (one_cells hone e3)⟩
  ·rename_i e' st' n g hl
   obtain rfl : e = e' := by simpa using h
   obtain ⟨v2, xs, e1, e2, e3, e4⟩ := hh.ent _ _ hl
   rw [hd.1] at e1; cases e1
   refine ⟨.inr ⟨id, _, rfl, hl, hd.1, by simp [obk, hd.1]⟩, e4, fun a n2 hr => ?_, fun n2 g2 hr => ?_, fun n2 g2 more hr => ?_⟩
   ·simp [rowOf, hl] at hr
   ·simp only [elsOf, hl] at hr
    cases hb : (st == st') <;> simp only [hb, cond_true, cond_false] at hr
    ·cases hr
    obtain rfl : st = st' := by simpa using hb
    cases hr
    exact ⟨xs, e2, e3⟩
   ·simp only [xOf, hl] at hr
    cases hb : (e == e && st == st') <;> simp only [hb, cond_true, cond_false] at hr
    ·cases hr
    simp only [Bool.and_eq_true, beq_iff_eq] at hb
    obtain ⟨_, rfl⟩ := hb
    cases hr
    exact ⟨xs, [], by simpa using e2, e3, trivial, by simp, rfl⟩
  ·rename_i e' st' n g more hl
   obtain rfl : e = e' := by simpa using h
   obtain ⟨v2, xs, ys, e1, e2, e3, e4, e5, e6, e7⟩ := hh.ent _ _ hl
   rw [hd.1] at e1; cases e1
   refine ⟨.inr ⟨id, _, rfl, hl, hd.1, by simp [obk, hd.1]⟩, e7, fun a n2 hr => by simp [rowOf, hl] at hr, fun n2 g2 hr => by simp [elsOf, hl] at hr, fun n2 g2 more2 hr => ?_⟩
   simp only [xOf, hl] at hr
   cases hb : (e == e && st == st') <;> simp only [hb, cond_true, cond_false] at hr
   ·cases hr
   simp only [Bool.and_eq_true, beq_iff_eq] at hb
   obtain ⟨_, rfl⟩ := hb
   cases hr
   exact ⟨xs, ys, e2, e3, e4, e5, e6⟩
  ·rename_i e' l hl
   obtain rfl : e = e' := by simpa using h
   obtain ⟨v2, e1, e2, e4⟩ := hh.ent _ _ hl
   rw [hd.1] at e1; cases e1
   exact ⟨.inr ⟨id, _, rfl, hl, hd.1, by simp [obk, hd.1]⟩, e4, fun a n2 hr => by simp [rowOf, hl] at hr, fun n2 g2 hr => by simp [elsOf, hl] at hr, fun n2 g2 more2 hr => by simp [xOf, hl] at hr⟩
  ·cases h
 ·cases h
theorem src_rowOf {hp : List (Nat × SB)} {st m : Nat} {b : List SV} {x : SV} {u : Value} (hh : HeapOK K H E w hp) (he : rowOf hp st x = some (b, m)) (hd : Den H E x u) :
  ∃ xs, xs.length = m * st ∧ DenL H E b xs ∧ Src w u m xs := by
 unfold rowOf at he
 split at he
 ·cases he
  simp only [Den] at hd; subst hd
  exact ⟨[], by simp, trivial, .inl ⟨rfl, _, _, rfl⟩⟩
 ·rename_i id
  split at he
  ·rename_i cells el st' n hl
   cases hb : (st == st') <;> simp only [hb, cond_true, cond_false] at he
   ·cases he
   obtain rfl : st = st' := by simpa using hb
   cases he
   obtain ⟨v, xs, e1, e2, e3, _⟩ := hh.ent _ _ hl
   rw [hd.1] at e1; cases e1
   exact ⟨xs, e2.1, e3, src_row e2⟩
  ·cases he
 ·cases he
theorem one_app : ∀ {l m : List SV}, oneL l = true → oneL m = true → oneL (l ++ m) = true
 | [], _, _, h => h
 | x :: l, m, h1, h2 => by
  simp only [oneL, Bool.and_eq_true, List.cons_append] at h1 ⊢
  exact ⟨h1.1, one_app h1.2 h2⟩
theorem owns_slice {e st n : Nat} {v : Value} {xs : List Value} (h : w.ownsRow 0 e st v n xs) : ∃ A n c, v = .slice A n c := by
 rcases h.2 with ⟨rfl, _⟩ | ⟨g, cap, cur, rfl, _⟩
 ·exact ⟨_, _, _, rfl⟩
 ·exact ⟨_, _, _, rfl⟩
theorem room_small (n m b : Nat) (h1 : Nat.ble ((n + m) * b) 140737488355328 = true) (h2 : Nat.ble (n + m) 1073741824 = true) : n + m ≤ maxLen ∧ (n + m) * b ≤ 140737488355328 := by
 have h1 := Nat.le_of_ble_eq_true h1
 have h2 := Nat.le_of_ble_eq_true h2
 have : maxLen = 9223372036854775807 := rfl
 exact ⟨by omega, h1⟩
theorem w_append {c : Core} {a : Act} {o : Oper} {t : Nat} {x y : Operand} {φ : SV × Core → Prop} (hC : CtxOK P C) (hd : DenL H E c.tm a.tmps.toList) (hh : HeapOK K H E w c.hp) (hw : WOK K H w) (hf : Free E c)
  (ho : o.op = .call { callee := .builtin .append, args := #[x, y], argTypes := #[t, t] }) (h : (execAppend C c t (evL c.tm x) (evL c.tm y)).All φ) : WOut P K H E w c a o φ := by
 have dx := den_ev (H := H) (E := E) hd x
 have dy := den_ev (H := H) (E := E) hd y
 unfold execAppend at h
 split at h
 ·rename_i i hi
  split at h
  ·rename_i e hty
   have hu := desc_slice (hC.ty _ _ hi) hty
   split at h
   ·rename_i te hte
    obtain ⟨inf, z, h1, h2, h3, h4, h5, h6, _⟩ := (hC.ty _ _ hte).info
    cases hb : (isOwn c.hp e (evL c.tm x) && !sameId (evL c.tm x) (evL c.tm y) && Nat.blt 0 te.size) <;> simp only [hb, cond_true, cond_false] at h
    ·exact h.elim
    simp only [Bool.and_eq_true] at hb
    have h0 := blt_spec hb.2
    obtain ⟨o1, o2, o3, o4, o5⟩ := own_spec (st := te.size) hh hb.1.1 dx
    have fin : ∀ (n m : Nat) (xs news : List Value) (sb : SB), (alloc (dropOwn c (evL c.tm x)) sb (.gs c.nx)).All φ → w.ownsRow 0 e te.size (a.eval x) n xs → Src w (a.eval y) m news → news.length = m * te.size → (∀ u ∈ news, u.oneCell' = true) →
      n + m ≤ maxLen → (n + m) * te.bytes ≤ 140737488355328 →
      (∀ (v' : Value) (w' : World), w'.ownsRow 0 e te.size v' (n + m) (xs ++ news) → (∀ b, blkV v' = some b → Mine K H b) → c.nx < c.lim → Ent K H (E.set c.nx v') w' c.nx sb) → WOut P K H E w c a o φ := by
     intro n m xs news sb h hown hsrc hl hone hmax hbytes hent
     obtain ⟨v', w', hr, ho', hg, hv'⟩ := append_any (P := P) t o.type e inf z te.size te.bytes hu h1 h4 h2 h3 h6 h0 (a.eval x) n xs hown (a.eval y) m news hsrc hl hone hmax hbytes
     have hmine : ∀ b, blkV v' = some b → Mine K H b := fun b hb => by
      rcases hv' b hb with h | h
      ·exact o2 b h
      ·refine ⟨?_, .inl (by have := hw.size; omega)⟩
       cases hH : H b with
       | none => rfl
       | some o => have := (Array.getElem?_eq_some_iff.1 (hw.on b o hH)).1; omega
     obtain ⟨c', hφ, hp⟩ := append_post hh hw hf h o1 o2 hg hv' (hent v' w' ho' hmine)
     obtain ⟨A, n', cc, e3⟩ := owns_slice ho'
     refine ⟨_, v', _, H, _, w', hφ, ⟨Env.set_self _ _ _, A, n', cc, e3⟩, hp, .inl rfl, ?_⟩
     simp only [execOp, ho, resolve]
     simp [invoke, builtin, hr]
    split at h
    ·rename_i aa n bb m hr1 hr2
     cases hb2 : (oneL bb && Nat.ble ((n + m) * te.bytes) 140737488355328 && Nat.ble (n + m) 1073741824) <;> simp only [hb2, cond_true, cond_false] at h
     ·exact h.elim
     simp only [Bool.and_eq_true] at hb2
     obtain ⟨xs, p1, p2⟩ := o3 _ _ hr1
     obtain ⟨ys, q1, q2, q3⟩ := src_rowOf hh hr2 dy
     obtain ⟨r1, r2⟩ := room_small n m te.bytes hb2.1.2 hb2.2
     exact fin n m xs ys _ h p1 q3 q1 (one_cells hb2.1.1 q2) r1 r2 fun v' w' s1 s2 s3 =>
      ⟨v', _, Env.set_self _ _ _, s1, (p2.append q2).le (fun _ _ e => e) (Env.le_set (hf _ (Nat.le_refl _) s3)), s2⟩
    ·split at h
     ·rename_i n g m k hr1 hr2
      rw [hC.A] at h
      obtain ⟨hroom, h⟩ := h
      obtain ⟨r2, r1⟩ := room_spec hroom
      have ea : prim.addN n m = n + m := rfl
      rw [ea] at r1 r2 h
      obtain ⟨xs, p1, p2⟩ := o4 _ _ hr1
      obtain ⟨ys, q1, q2⟩ := src_els h0 hh hw.on hr2 dy
      exact fin n m xs ys _ h p1 q2 q1.1 q1.2.2.1 r1 r2 fun v' w' s1 s2 s3 =>
       ⟨v', _, Env.set_self _ _ _, s1, rows_snoc p2 q1, s2⟩
     ·split at h
      ·rename_i n g more bb m hr1 hr2
       cases hone : oneL bb <;> simp only [hone, cond_true, cond_false] at h
       ·exact h.elim
       rw [hC.A] at h
       obtain ⟨hroom, h⟩ := h
       obtain ⟨r2, r1⟩ := room_spec hroom
       obtain ⟨xs, zs, p1, p2, p3, p4, p5⟩ := o5 _ _ _ hr1
       obtain ⟨ys, q1, q2, q3⟩ := src_rowOf hh hr2 dy
       have hbl : bb.length = m * te.size := by rw [← q2.length, q1]
       have hdiv : (more ++ bb).length / te.size = more.length / te.size + m := by
        rw [List.length_append, hbl, Nat.add_mul_div_right _ _ h0]
       have hmod : (more ++ bb).length % te.size = 0 := by
        rw [List.length_append, hbl, Nat.add_mul_mod_self_right, p4]
       have ea : prim.addN n (Nat.div (more ++ bb).length te.size) = n + more.length / te.size + m := by
        show n + (more ++ bb).length / te.size = _
        rw [hdiv]; omega
       rw [ea] at r1 r2
       have hon : oneL (more ++ bb) = true := one_app p5 hone
       exact fin (n + more.length / te.size) m (xs ++ zs) ys _ h p1 q3 q1 (one_cells hone q2) r1 r2 fun v' w' s1 s2 s3 =>
        ⟨v', xs, zs ++ ys, Env.set_self _ _ _, by rw [hdiv, ← List.append_assoc, ← Nat.add_assoc]; exact s1, p2, (p3.append q2).le (fun _ _ e => e) (Env.le_set (hf _ (Nat.le_refl _) s3)), hmod, hon, s2⟩
      ·exact h.elim
   ·exact h.elim
  ·exact h.elim
 ·exact h.elim
/-! Bytes. -/
theorem byteL_spec : ∀ {cells : List SV} {l : List UInt8} {xs : List Value}, byteL cells = some l → DenL H E cells xs → xs = bytesV l
 | [], _, [], h, _ => by simp [byteL] at h; subst h; rfl
 | x :: r, l, v :: vs, h, ⟨hd, hr⟩ => by
  unfold byteL at h
  split at h
  ·rename_i e; cases e
  ·rename_i n r' e
   cases e
   cases hb : (decide (0 ≤ n) && decide (n < 256)) <;> simp only [hb, cond_true, cond_false] at h
   ·cases h
   simp only [Bool.and_eq_true, decide_eq_true_eq] at hb
   simp only [Option.map_eq_some_iff] at h
   obtain ⟨m, hm, rfl⟩ := h
   have ih := byteL_spec hm hr
   have hv : v = .int .u8 n := hd
   rw [ih, hv]
   show _ = Value.int .u8 ((UInt8.ofNat n.toNat).toNat : Int) :: bytesV m
   have : (UInt8.ofNat n.toNat).toNat = n.toNat := by
    rw [UInt8.toNat_ofNat']
    exact Nat.mod_eq_of_lt (by omega)
   rw [this, show ((n.toNat : Nat) : Int) = n by omega]
  ·cases h
 | [], _, _ :: _, _, h => h.elim
 | _ :: _, _, [], _, h => h.elim
theorem bufOf_spec {hp : List (Nat × SB)} {e : Nat} {x : SV} {u : Value} {l : List UInt8} (hh : HeapOK K H E w hp) (h : bufOf hp e x = some l) (hd : Den H E x u) : OwnsBuf w e u l := by
 unfold bufOf at h
 split at h
 ·cases h
  have hd : u = _ := hd
  exact .inl ⟨hd, rfl⟩
 ·rename_i id
  split at h
  ·rename_i e' l' hl
   cases hb : (e == e') <;> simp only [hb, cond_true, cond_false] at h
   ·cases h
   cases h
   obtain rfl : e = e' := by simpa using hb
   obtain ⟨v, e1, e2, _⟩ := hh.ent _ _ hl
   rw [hd.1] at e1; cases e1
   exact e2
  ·rename_i cells e' st n hl
   cases hb : (e == e' && st == 1 && n == cells.length) <;> simp only [hb, cond_true, cond_false] at h
   ·cases h
   simp only [Bool.and_eq_true, beq_iff_eq] at hb
   obtain ⟨⟨rfl, rfl⟩, rfl⟩ := hb
   obtain ⟨v, xs, e1, e2, e3, _⟩ := hh.ent _ _ hl
   rw [hd.1] at e1; cases e1
   exact ownsBuf_row e2 (byteL_spec h e3)
  ·cases h
 ·cases h
theorem byteTy_spec (hC : CtxOK P C) {e : Nat} (h : byteTy C e = true) : P.underlying e = some (.int .u8) ∧ ∃ i, P.info? e = some i ∧ i.zero = some (.int .u8 0) ∧ i.size = 1 ∧ i.bytes = 1 := by
 unfold byteTy at h
 split at h
 ·rename_i te hte
  have ht := hC.ty _ _ hte
  split at h
  ·rename_i n hty hz
   simp only [Bool.and_eq_true, beq_iff_eq] at h
   obtain ⟨⟨h1, h2⟩, rfl⟩ := h
   have hu := ht.desc
   rw [hty] at hu
   obtain ⟨inf, z, q1, q2, q3, q4, q5, q6, _, q8⟩ := ht.info
   rw [hz] at q5
   refine ⟨hu, inf, q1, ?_, by omega, by omega⟩
   rw [q4]
   have hone := (q8 (by rw [hty]; rfl)).2
   have hc : z.cells = #[z] := by
    cases z <;> simp [Value.oneCell', Value.cells] at hone ⊢
   rw [hc] at q5
   have : z = .int .u8 0 := q5.1
   rw [this]
  ·cases h
 ·cases h
theorem buf_slice {e : Nat} {v : Value} {l : List UInt8} (h : OwnsBuf w e v l) : ∃ A n c, v = .slice A n c := by
 rcases h with ⟨rfl, _⟩ | ⟨g, cap, cur, fz, rfl, _⟩
 ·exact ⟨_, _, _, rfl⟩
 ·exact ⟨_, _, _, rfl⟩
theorem w_append_bytes {c : Core} {a : Act} {o : Oper} {t u e : Nat} {x y : Operand} {l m : List UInt8} {φ : SV × Core → Prop} (hC : CtxOK P C) (hd : DenL H E c.tm a.tmps.toList) (hh : HeapOK K H E w c.hp) (hw : WOK K H w) (hf : Free E c)
  (ho : o.op = .call { callee := .builtin .append, args := #[x, y], argTypes := #[t, u] }) (ht : P.underlying t = some (.slice e)) (hb : byteTy C e = true) (hown : isOwn c.hp e (evL c.tm x) = true) (hl : bufOf c.hp e (evL c.tm x) = some l)
  (hm : SrcB P w u (a.eval y) m) (hr : prim.room (prim.addN (prim.len l) (prim.len m)) 1 = true) (h : (alloc (dropOwn c (evL c.tm x)) (.buf e (prim.app l m)) (.gs c.nx)).All φ) : WOut P K H E w c a o φ := by
 have dx := den_ev (H := H) (E := E) hd x
 obtain ⟨hu8, i, i1, i2, i3, i4⟩ := byteTy_spec hC hb
 obtain ⟨o1, o2, _⟩ := own_spec (st := 1) hh hown dx
 obtain ⟨r2, r1⟩ := room_spec hr
 obtain ⟨v', w', hrun, hb', hg, hv'⟩ := append_buf (P := P) t u o.type e i ht i1 i2 i3 i4 (a.eval x) l (bufOf_spec hh hl dx) (a.eval y) m hm r1 r2
 have hmine : ∀ b, blkV v' = some b → Mine K H b := fun b hb => by
  rcases hv' b hb with h | h
  ·exact o2 b h
  ·refine ⟨?_, .inl (by have := hw.size; omega)⟩
   cases hH : H b with
   | none => rfl
   | some o => have := (Array.getElem?_eq_some_iff.1 (hw.on b o hH)).1; omega
 obtain ⟨c', hφ, hp⟩ := append_post hh hw hf h o1 o2 hg hv' (fun _ => ⟨v', Env.set_self _ _ _, hb', hmine⟩)
 obtain ⟨A, n', cc, e3⟩ := buf_slice hb'
 refine ⟨_, v', _, H, _, w', hφ, ⟨Env.set_self _ _ _, A, n', cc, e3⟩, hp, .inl rfl, ?_⟩
 simp only [execOp, ho, resolve]
 simp [invoke, builtin, hrun]
theorem w_appendS {c : Core} {a : Act} {o : Oper} {t u : Nat} {x y : Operand} {φ : SV × Core → Prop} (hC : CtxOK P C) (hd : DenL H E c.tm a.tmps.toList) (hh : HeapOK K H E w c.hp) (hw : WOK K H w) (hf : Free E c)
  (ho : o.op = .call { callee := .builtin .append, args := #[x, y], argTypes := #[t, u] }) (h : (execAppendS C c t u (evL c.tm x) (evL c.tm y)).All φ) : WOut P K H E w c a o φ := by
 have dy := den_ev (H := H) (E := E) hd y
 unfold execAppendS at h
 split at h
 ·rename_i ti ui hti hui
  split at h
  ·rename_i e h1 h2
   split at h
   ·rename_i l m hl hm
    cases hb : (byteTy C e && isOwn c.hp e (evL c.tm x)) <;> simp only [hb, cond_true, cond_false] at h
    ·exact h.elim
    simp only [Bool.and_eq_true] at hb
    rw [hC.A] at h
    have hu := (hC.ty _ _ hui).desc
    rw [h2] at hu
    have ey := textOf_den hm dy
    exact w_append_bytes hC hd hh hw hf ho (desc_slice (hC.ty _ _ hti) h1) hb.1 hb.2 hl (by rw [ey]; exact srcB_str hu m) h.1 h.2
   ·exact h.elim
  ·exact h.elim
 ·exact h.elim
theorem w_appendB {c : Core} {a : Act} {o : Oper} {t : Nat} {x y : Operand} {φ : SV × Core → Prop} {r : Tree (SV × Core)} (hC : CtxOK P C) (hd : DenL H E c.tm a.tmps.toList) (hh : HeapOK K H E w c.hp) (hw : WOK K H w) (hf : Free E c)
  (ho : o.op = .call { callee := .builtin .append, args := #[x, y], argTypes := #[t, t] }) (hr : execAppendB C c t (evL c.tm x) (evL c.tm y) = some r) (h : r.All φ) : WOut P K H E w c a o φ := by
 have dy := den_ev (H := H) (E := E) hd y
 unfold execAppendB at hr
 split at hr
 ·rename_i id hx
  split at hr
  ·rename_i e l hl
   split at hr
   ·rename_i ti m hti hm
    split at hr
    ·rename_i e' hty
     cases hb : (e == e' && byteTy C e && !sameId (evL c.tm x) (evL c.tm y)) <;> simp only [hb, cond_true, cond_false] at hr
     ·cases hr
     cases hr
     simp only [Bool.and_eq_true, beq_iff_eq] at hb
     obtain ⟨⟨rfl, hb⟩, _⟩ := hb
     rw [hC.A] at h
     have ht := desc_slice (hC.ty _ _ hti) hty
     have ho1 : isOwn c.hp e (evL c.tm x) = true := by rw [hx]; simp [isOwn, hl]
     have ho2 : bufOf c.hp e (evL c.tm x) = some l := by rw [hx]; simp [bufOf, hl]
     exact w_append_bytes hC hd hh hw hf ho ht hb ho1 ho2 (srcB_own ht (bufOf_spec hh hm dy)) h.1 h.2
    ·cases hr
   ·cases hr
  ·cases hr
 ·cases hr
theorem w_conv {c : Core} {a : Act} {o : Oper} {t u : Nat} {x : Operand} {φ : SV × Core → Prop} (hC : CtxOK P C) (hd : DenL H E c.tm a.tmps.toList) (hh : HeapOK K H E w c.hp) (hw : WOK K H w) (hf : Free E c)
  (ho : o.op = .convert t u x) (h : (execConv C c t u (evL c.tm x)).All φ) : WOut P K H E w c a o φ := by
 have dx := den_ev (H := H) (E := E) hd x
 unfold execConv at h
 split at h
 ·rename_i ti ui hti hui
  have ht := (hC.ty _ _ hti).desc
  have hu := (hC.ty _ _ hui).desc
  split at h
  ·rename_i k1 k2 e1 e2
   rw [e1] at ht
   rw [e2] at hu
   have key : ∀ (k : IntKind) (n : Int), a.eval x = .int k n → (execOp a.eval o).run P w = .ok (.value (.int k2 (k2.wrap n))) w := fun k n hv => by
    simp only [execOp, ho, hv]
    simp [convert, run_underlying ht, run_underlying hu, Conv.intToInt]
   split at h
   ·rename_i k n hx
    rw [hx] at dx
    exact ⟨_, .int k2 (k2.wrap n), _, H, E, w, h, rfl, Post.refl hh hw, .inl rfl, key k n dx⟩
   ·rename_i k n hx
    rw [hx] at dx
    rw [hC.A] at h
    exact ⟨_, .int k2 (k2.wrap n), _, H, E, w, h, rfl, Post.refl hh hw, .inl rfl, key k n dx⟩
   ·exact h.elim
  ·rename_i e e1 e2
   rw [e1] at ht
   rw [e2] at hu
   split at h
   ·rename_i l hl
    cases hb : byteTy C e <;> simp only [hb, cond_true, cond_false] at h
    ·exact h.elim
    rw [hC.A] at h
    obtain ⟨h1, h2⟩ := h
    obtain ⟨r2, r1⟩ := room_spec h1
    obtain ⟨hu8, _⟩ := byteTy_spec hC hb
    have ex := textOf_den hl dx
    obtain ⟨v', w', hrun, hb', hg, hv'⟩ := conv_bytes (P := P) (w := w) (src := t) (dst := u) ht hu hu8 l r1
    have hmine : ∀ b, blkV v' = some b → Mine K H b := fun b hb => by
     have := hv' b hb
     refine ⟨?_, .inl (by have := hw.size; omega)⟩
     cases hH : H b with
     | none => rfl
     | some o => have := (Array.getElem?_eq_some_iff.1 (hw.on b o hH)).1; omega
    obtain ⟨c', hφ, hp⟩ := append_post (s := .nils) (v := .slice none 0 0) (v' := v') hh hw hf h2 (.inl ⟨rfl, rfl⟩) (fun b hb => by simp [blkV] at hb) hg (fun b hb => .inr (hv' b hb)) (fun _ => ⟨v', Env.set_self _ _ _, hb', hmine⟩)
    obtain ⟨A, n', cc, e3⟩ := buf_slice hb'
    refine ⟨_, v', _, H, _, w', hφ, ⟨Env.set_self _ _ _, A, n', cc, e3⟩, hp, .inl rfl, ?_⟩
    simp only [execOp, ho, ex]
    simp [hrun]
   ·exact h.elim
  ·rename_i e e1 e2
   rw [e1] at ht
   rw [e2] at hu
   split at h
   ·rename_i l hl
    cases hb : byteTy C e <;> simp only [hb, cond_true, cond_false] at h
    ·exact h.elim
    obtain ⟨hu8, _⟩ := byteTy_spec hC hb
    have hrun := conv_str (P := P) (src := t) (dst := u) ht hu8 hu (bufOf_spec hh hl dx) w fun _ _ => rfl
    refine ⟨_, .string ⟨l.toArray⟩, _, H, E, w, h, .str l, Post.refl hh hw, .inl rfl, ?_⟩
    simp only [execOp, ho]
    simp [hrun]
   ·exact h.elim
  ·exact h.elim
 ·exact h.elim
end
end Go.Sx
namespace Go.Sx
section
variable {P : Program} {C : Ctx} {K : Kx} {H H' : Mem} {E E' : Env} {w w' : World}
theorem rep_slice {st n : Nat} {g : Nat → List Sh} {u : Value} (h : Rep H (.sl st n g) u) : ∃ A cap, u = .slice A n cap ∧ n ≤ cap ∧ cap ≤ maxLen := by
 cases h with
 | sl0 _ _ A cap hc => exact ⟨_, _, rfl, Nat.zero_le _, hc⟩
 | sl _ _ _ b off cap c h1 h2 => exact ⟨_, _, rfl, h1, h2⟩
theorem rep_sub {st n l h cap : Nat} {g g' : Nat → List Sh} {A : Option Addr} (hr : Rep H (.sl st n g) (.slice A n cap)) (hl : l ≤ h) (hh : h ≤ n) (hg : ∀ j, j < h - l → g' j = g (l + j)) :
  Rep H (.sl st (h - l) g') (sliced A l h cap st) := by
 by_cases e : h - l = 0
 ·unfold sliced
  rw [e]
  refine .sl0 _ _ _ _ ?_
  obtain ⟨A', cap', e1, _, e2⟩ := rep_slice hr
  cases e1
  omega
 ·generalize hn : n = m at hr
  cases hr with
  | sl0 _ _ _ _ hc => omega
  | sl _ _ _ b off _ c h1 h2 h3 h4 h5 h6 =>
   subst hn
   unfold sliced
   rw [if_neg (by omega)]
   simp only [Option.map_some, Addr.add_lit]
   refine .sl _ _ _ b (off + l * st) _ (fun i j => c (l + i) j) (by omega) (by omega) (fun i hi => by rw [hg i hi]; exact h3 _ (by omega)) (fun i j hi hj => ?_) (fun i j hi hj => h5 _ _ (by omega) hj) fun i j s hi e => ?_
   ·have := h4 (l + i) j (by omega) hj
    rw [Nat.add_mul] at this
    rw [← this]; congr 1; omega
   ·rw [hg i hi] at e
    exact h6 _ _ _ (by omega) e
theorem upTo_spec {i : Int} {n : Nat} (h : prim.upTo i n = true) : 0 ≤ i ∧ i ≤ n := by simpa [prim] using h
theorem same_post {c : Core} {hp : List (Nat × SB)} (hH : H.le H') (hh : HeapOK K H' E w hp) (hw : WOK K H' w) (hz : Frz H' E c.hp hp) : Post K H E w c H' E w { c with hp } :=
 ⟨hH, fun _ _ e => e, fun _ h1 h2 => (h2 h1).elim, Nat.le_refl _, .inr rfl, rfl, rfl, hh, hw, fun _ h => h, Nat.le_refl _, fun _ _ _ => rfl, fun i b h1 h2 => by simp [bk, h1] at h2, fun _ h => .inl h,
  fun id sb b h1 _ h3 => (hz.keep id sb b h1 h3).imp (fun h => h) fun h => ⟨sb, h, h3⟩, fun id sb h _ => hz.old id sb h⟩
theorem w_slice {c : Core} {a : Act} {o : Oper} {t : Nat} {x : Operand} {lo hi : Option Operand} {φ : SV × Core → Prop} (hC : CtxOK P C) (hd : DenL H E c.tm a.tmps.toList) (hh : HeapOK K H E w c.hp) (hw : WOK K H w)
  (ho : o.op = .slice t x lo hi none) (h : (execSlice C c t (evL c.tm x) (lo.map (evL c.tm)) (hi.map (evL c.tm))).All φ) : WOut P K H E w c a o φ := by
 have dx := den_ev (H := H) (E := E) hd x
 unfold execSlice at h
 split at h
 ·rename_i ti hti
  split at h
  ·rename_i e hty
   have hu := desc_slice (hC.ty _ _ hti) hty
   split at h
   ·rename_i te hte
    have hsz : ∀ w, (sizeOf e).run P w = .ok te.size w := fun w => sizeOf_run (hC.ty _ _ hte) w
    split at h
    ·rename_i id n hv hvw e1 e2
     have e1' : lo = none := by cases lo <;> simp at e1 ⊢
     subst e1'
     simp only [Option.map_eq_some_iff] at e2
     obtain ⟨y, rfl, rfl⟩ := e2
     split at h
     ·rename_i hi hn q1 q2
      obtain ⟨k, ey⟩ := intOf_spec q1 (den_ev (H := H) (E := E) hd y)
      rw [hC.A] at h q2
      have q2 := natOf_spec q1 q2
      obtain ⟨g1, g2⟩ := h
      obtain ⟨g1, g3⟩ := upTo_spec g1
      unfold viewOf at hvw
      split at hvw
      ·rename_i id' hx
       split at hvw
       ·rename_i el st' m g hl
        cases hb : (te.size == st') <;> simp only [hb, cond_true, cond_false] at hvw
        ·cases hvw
        cases hvw
        rw [hx] at dx
        obtain ⟨he, A, n2, cap, eu⟩ := dx
        obtain ⟨v, xs, e3, e4, _⟩ := hh.ent _ _ hl
        rw [he] at e3; cases e3
        rw [eu] at e4 he
        have hk : n2 = n := by
         have := lenV_row e4
         simpa [lenV] using this
        subst hk
        have helem : P.elem t = e := by simp [Program.elem, hu]
        have hu' : P.underlying t = some (.slice (P.elem t)) := by rw [helem]; exact hu
        have hcap : n2 ≤ cap := by
         rcases e4.2 with ⟨e5, _⟩ | ⟨_, _, _, e5, _, _, e6, _⟩
         ·cases e5; exact Nat.le_refl _
         ·cases e5; exact e6
        have hr := run_slice_h (P := P) w t A n2 cap hu' k hi (by omega) (by omega)
        subst q2
        have hs : sliced A 0 hi.toNat cap te.size = .slice A hi.toNat cap := by cases A <;> simp [sliced, Addr.add]
        refine ⟨_, .slice A hi.toNat cap, _, H, E, w, g2, ⟨A, n2, cap, he, by omega, rfl⟩, Post.refl hh hw, .inl rfl, ?_⟩
        rw [helem, hsz] at hr
        simp [execOp, ho, run_sliceAt_slice _ _ _ _ _ _ hu', eu, ey, hr, hs]
       ·cases hvw
      ·cases hvw
     ·exact h.elim
    split at h
    ·exact h.elim
    ·rename_i hp hfz
     have hfz' : ∃ H', H.le H' ∧ HeapOK K H' E w hp ∧ WOK K H' w ∧ Frz H' E c.hp hp := by
      split at hfz
      ·exact freeze_ok hfz hh hw
      ·cases hfz; exact ⟨H, fun _ _ e => e, hh, hw, Frz.refl _ _ _⟩
     obtain ⟨H', hH, hh', hw', hz'⟩ := hfz'
     split at h
     ·rename_i st n g hsh
      have hrep := toSh_rep hh' hsh (dx.le hH (fun _ _ e => e))
      obtain ⟨A, cap, eu, hcap, hmax⟩ := rep_slice hrep
      rw [eu] at hrep
      cases hb : (st == te.size) <;> simp only [hb, cond_true, cond_false] at h
      ·exact h.elim
      obtain rfl : st = te.size := by simpa using hb
      have helem : P.elem t = e := by simp [Program.elem, hu]
      have hu' : P.underlying t = some (.slice (P.elem t)) := by rw [helem]; exact hu
      have fin : ∀ (sv : SV) (l h : Nat) (g' : Nat → List Sh), φ (sv, { c with hp }) → sv = .sh (.sl te.size (h - l) g') → l ≤ h → h ≤ n → (∀ j, j < h - l → g' j = g (l + j)) →
        (Instr.slice t (.slice A n cap) (lo.map a.eval) (hi.map a.eval) none).run P w = ((sizeOf (P.elem t)).run P w).andThen (fun s w => .ok (sliced A l h cap s) w) → WOut P K H E w c a o φ := by
       intro sv l h g' hφ hsv h1 h2 h3 hr
       refine ⟨_, sliced A l h cap te.size, _, H', E, w, hφ, ?_, same_post hH hh' hw' hz', .inl rfl, ?_⟩
       ·subst hsv
        exact rep_sub hrep h1 h2 h3
       ·rw [helem, hsz] at hr
        simp [execOp, ho, run_sliceAt_slice _ _ _ _ _ _ hu', eu, hr]
      have hA := hC.A
      rw [hA] at h
      split at h
      ·rename_i e1 e2
       have e1' : lo = none := by cases lo <;> simp at e1 ⊢
       have e2' : hi = none := by cases hi <;> simp at e2 ⊢
       subst e1' e2'
       exact fin _ 0 n g h (by rw [Nat.sub_zero]) (by omega) (by omega) (fun j _ => by rw [Nat.zero_add]) (run_slice_all (P := P) w t A n cap hu')
      ·rename_i hv e1 e2
       have e1' : lo = none := by cases lo <;> simp at e1 ⊢
       subst e1'
       simp only [Option.map_eq_some_iff] at e2
       obtain ⟨y, rfl, rfl⟩ := e2
       split at h
       ·rename_i hi hn q1 q2
        obtain ⟨k, ey⟩ := intOf_spec q1 (den_ev (H := H) (E := E) hd y)
        have q2 := natOf_spec q1 q2
        obtain ⟨g1, g2⟩ := h
        obtain ⟨g1, g3⟩ := upTo_spec g1
        refine fin _ 0 hn g g2 (by rw [Nat.sub_zero]) (by omega) (by omega) (fun j _ => by rw [Nat.zero_add]) ?_
        have := run_slice_h (P := P) w t A n cap hu' k hi (by omega) (by omega)
        simp only [Option.map_some, Option.map_none, ey]
        rw [this, q2]
       ·exact h.elim
      ·rename_i lv e1 e2
       have e2' : hi = none := by cases hi <;> simp at e2 ⊢
       subst e2'
       simp only [Option.map_eq_some_iff] at e1
       obtain ⟨y, rfl, rfl⟩ := e1
       split at h
       ·rename_i li l q1 q2
        obtain ⟨k, ey⟩ := intOf_spec q1 (den_ev (H := H) (E := E) hd y)
        have q2 := natOf_spec q1 q2
        obtain ⟨g1, g2⟩ := h
        obtain ⟨g1, g3⟩ := upTo_spec g1
        refine fin _ l n _ g2 rfl (by omega) (by omega) (fun j _ => rfl) ?_
        have := run_slice_l (P := P) w t A n cap hu' k li (by omega) (by omega)
        simp only [Option.map_some, Option.map_none, ey]
        rw [this, q2]
       ·exact h.elim
      ·rename_i lv hv e1 e2
       simp only [Option.map_eq_some_iff] at e1 e2
       obtain ⟨y, rfl, rfl⟩ := e1
       obtain ⟨z, rfl, rfl⟩ := e2
       split at h
       ·rename_i li l hi hn q1 q2 q3 q4
        obtain ⟨k, ey⟩ := intOf_spec q1 (den_ev (H := H) (E := E) hd y)
        obtain ⟨k2, ez⟩ := intOf_spec q3 (den_ev (H := H) (E := E) hd z)
        have q2 := natOf_spec q1 q2
        have q4 := natOf_spec q3 q4
        obtain ⟨g1, g2, g3⟩ := h
        obtain ⟨g1, g4⟩ := upTo_spec g1
        obtain ⟨g2, g5⟩ := upTo_spec g2
        refine fin _ l hn _ g3 rfl (by omega) (by omega) (fun j _ => rfl) ?_
        have := run_slice_lh (P := P) w t A n cap hu' k k2 li hi (by omega) (by omega) (by omega)
        simp only [Option.map_some, ey, ez]
        rw [this, q2, q4]
       ·exact h.elim
     ·exact h.elim
   ·exact h.elim
  ·exact h.elim
 ·exact h.elim
theorem den_setLit {k : IntKind} {n : Int} {sv : SV} {v : Value} (hv : Den H E sv v) : ∀ {es es' : List (SV × SV)} {ms : List MapEntry} (j : Nat), setLit k n sv es = some es' → DenM H E es ms →
  (∃ i u m, Instr.findNow (.int k) (.int k n) ms j = some (some (j + i, u)) ∧ ms[i]? = some m ∧ m.key = .int k n ∧ DenM H E es' (ms.modify i fun m => { m with key := .int k n, val := v })) ∨
  (Instr.findNow (.int k) (.int k n) ms j = some none ∧ ∀ clk, DenM H E es' (ms ++ [{ key := .int k n, val := v, born := clk }]))
 | [], es', [], j, h, _ => by
  simp [setLit] at h
  subst h
  exact .inr ⟨rfl, fun clk => ⟨rfl, hv, trivial⟩⟩
 |(k', u) :: es, es', m :: ms, j, h, ⟨h1, h2, h3⟩ => by
  unfold setLit at h
  split at h
  ·rename_i e; cases e
  ·rename_i l p u es0 e
   simp only [List.cons.injEq, Prod.mk.injEq] at e
   obtain ⟨⟨rfl, rfl⟩, rfl⟩ := e
   have h1 : m.key = .int l p := h1
   cases hb : (l == k) <;> simp only [hb, cond_true, cond_false] at h
   ·cases h
   obtain rfl : l = k := by simpa using hb
   cases hp : (p == n) <;> simp only [hp, cond_true, cond_false] at h
   ·have hne : (n == p) = false := by simp at hp ⊢; exact fun e => hp e.symm
    simp only [Option.map_eq_some_iff] at h
    obtain ⟨r, hr, rfl⟩ := h
    rcases den_setLit hv (j + 1) hr h3 with ⟨i, u', m', e1, e2, e3, e4⟩ | ⟨e1, e2⟩
    ·refine .inl ⟨i + 1, u', m', ?_, by simpa using e2, e3, ?_⟩
     ·simp [Instr.findNow, h1, Instr.sameNow, hne, e1]; omega
     ·simp only [List.modify_succ_cons]
      exact ⟨h1, h2, e4⟩
    ·refine .inr ⟨by simp [Instr.findNow, h1, Instr.sameNow, hne, e1], fun clk => ⟨h1, h2, e2 clk⟩⟩
   ·cases h
    obtain rfl : p = n := by simpa using hp
    refine .inl ⟨0, m.val, m, by simp [Instr.findNow, h1, Instr.sameNow], rfl, h1, ?_⟩
    simp only [List.modify_zero_cons]
    exact ⟨rfl, hv, h3⟩
  ·cases h
 | [], _, _ :: _, _, _, h => h.elim
 | _ :: _, _, [], _, _, h => h.elim
theorem heap_setObj (w : World) (b k : Nat) (o o' : Obj) (h : w.heap[b]? = some o) : (w.heap.setIfInBounds b o')[k]? = if k = b then some o' else w.heap[k]? := by
 have hlt := (Array.getElem?_eq_some_iff.1 h).1
 by_cases e : k = b
 ·subst e; simp [hlt]
 ·simp [e, Array.getElem?_setIfInBounds_ne (Ne.symm e)]
theorem w_mapSet {c : Core} {a : Act} {o : Oper} {t : Nat} {x y z : Operand} {φ : SV × Core → Prop} (hC : CtxOK P C) (hd : DenL H E c.tm a.tmps.toList) (hh : HeapOK K H E w c.hp) (hw : WOK K H w)
  (ho : o.op = .mapUpdate t x y z ∨ o.op = .insert t x y z) (h : (execMapSet C c t (evL c.tm x) (evL c.tm y) (evL c.tm z)).All φ) : WOut P K H E w c a o φ := by
 have dx := den_ev (H := H) (E := E) hd x
 have dy := den_ev (H := H) (E := E) hd y
 have dz := den_ev (H := H) (E := E) hd z
 unfold execMapSet at h
 split at h
 ·rename_i ti hti
  split at h
  ·rename_i kt vt hty
   have ht := (hC.ty _ _ hti).desc
   rw [hty] at ht
   have ht : P.underlying t = some (.map kt vt) := ht
   split at h
   ·rename_i kti hkti
    have hk := (hC.ty _ _ hkti).desc
    split at h
    ·rename_i kk id k n hkk hx hy
     rw [hkk] at hk
     have hk : P.underlying kt = some (.int kk) := hk
     rw [hx] at dx
     rw [hy] at dy
     obtain ⟨b, he, ex⟩ := dx
     have ey : a.eval y = .int k n := dy
     split at h
     ·rename_i es hl
      cases hb : (kk == k) <;> simp only [hb, cond_true, cond_false] at h
      ·exact h.elim
      obtain rfl : kk = k := by simpa using hb
      split at h
      ·rename_i es' hes
       obtain ⟨b', ms, clk, he', h1, h2, h3⟩ := hh.ent _ _ hl
       rw [he] at he'; cases he'
       have hg : (getObj b).run P w = .ok (.map ms clk) w := by simp [getObj, Sem.run, h1]
       have hck := checkKey_int (P := P) hk false kk n w
       have hso : ∀ o', (setObj b o').run P w = .ok () { w with heap := w.heap.setIfInBounds b o' } := fun o' => by simp [setObj, Sem.run, h1]
       have fin : ∀ (o' : Obj) (ms' : Array MapEntry) (clk' : Nat), o' = .map ms' clk' → DenM H E es' ms'.toList → (Instr.mapUpdate t (.map (some b)) (.int kk n) (a.eval z)).run P w = .ok () { w with heap := w.heap.setIfInBounds b o' } → WOut P K H E w c a o φ := by
        intro o' ms' clk' ho' hd' hr
        subst ho'
        refine ⟨_, undef, _, H, E, { w with heap := w.heap.setIfInBounds b (.map ms' clk') }, h, trivial, ?_, .inr ⟨rfl, rfl⟩, ?_⟩
        rotate_left
        ·rcases ho with ho | ho <;> simp [execOp, ho, ex, ey, hr]
        ·refine set_post hh hw hl (b := b) (by simp [obk, he, blkV]) (fun k hk => ?_) (by simp) rfl rfl rfl ?_ (by simp [obk, he, blkV])
         ·simp only; rw [heap_setObj w b k _ _ h1, if_neg hk]
         ·exact ⟨b, ms', clk', he, by simp only; rw [heap_setObj w b b _ _ h1, if_pos rfl], hd', h3⟩
       rcases den_setLit dz 0 hes h2 with ⟨i, u, m, e1, e2, e3, e4⟩ | ⟨e1, e2⟩
       ·refine fin (.map (ms.modify i fun m => { m with key := .int kk n, val := a.eval z }) clk) _ clk rfl (by simpa using e4) ?_
        have e2' : ms[i]? = some m := by simpa using e2
        simp only [Nat.zero_add] at e1
        simp [Instr.mapUpdate, run_underlying ht, hg, hck, Instr.findKey, run_underlying hk, e1, e2', e3, Instr.keyThatStays, Instr.sameBits, hso]
       ·refine fin (.map (ms.push { key := .int kk n, val := a.eval z, born := clk }) (clk + 1)) _ (clk + 1) rfl (by simpa using e2 clk) ?_
        simp [Instr.mapUpdate, run_underlying ht, hg, hck, Instr.findKey, run_underlying hk, e1, hso]
      ·exact h.elim
     ·exact h.elim
    ·exact h.elim
   ·exact h.elim
  ·exact h.elim
 ·exact h.elim
/-! Maps of which some entries are known. -/
theorem set_post2 {c : Core} {id b nx' : Nat} {sb sb' : SB} (hh : HeapOK K H E w c.hp) (hw : WOK K H w) (hl : look? c.hp id = some sb) (hb : obk E id sb = some b)
  (hE : E.le E') (hnew : ∀ i, E i = none → E' i ≠ none → c.nx ≤ i ∧ i < nx') (hbk : ∀ i, E i = none → bk E' i = none) (hnx : c.nx ≤ nx') (hlim : nx' ≤ c.lim ∨ nx' = c.nx)
  (hother : ∀ k, k ≠ b → w'.heap[k]? = w.heap[k]?) (hsz : w'.heap.size = w.heap.size) (hos : w'.os = w.os) (htape : w'.tape = w.tape) (hout : w'.output = w.output)
  (he : Ent K H E' w' id sb') (hb' : obk E' id sb' = some b) : Post K H E w c H E' w' { c with hp := hset c.hp id sb', nx := nx', tc := id :: c.tc } := by
 have hmine := ((hh.ent _ _ hl).lt hb)
 refine ⟨fun _ _ e => e, hE, hnew, hnx, hlim, rfl, rfl, ?_, ?_, fun _ h => List.mem_cons_of_mem _ h, by omega, ?_, fun i b h1 h2 => (by rw [hbk i h1] at h2; cases h2), ?_, ?_, ?_⟩
 ·refine ⟨fun id2 sb2 hl2 => ?_, fun id1 id2 sb1 sb2 b0 h1 h2 o1 o2 => ?_⟩
  ·simp only [look_hset] at hl2
   cases hid : (id == id2) <;> simp only [hid, cond_true, cond_false] at hl2
   ·have hent := hh.ent _ _ hl2
    refine hent.kept (fun _ _ e => e) hE (fun b0 hb0 => hother b0 fun e => ?_) fun b0 hb0 => (hent.lt hb0).2.1
    subst e
    have := hh.dis _ _ _ _ _ hl hl2 hb hb0
    subst this
    simp at hid
   ·obtain rfl : id = id2 := by simpa using hid
    rw [hl] at hl2
    cases hl2
    exact he
  ·have conv : ∀ {i : Nat} {s : SB}, look? (hset c.hp id sb') i = some s → obk E' i s = some b0 → ∃ s', look? c.hp i = some s' ∧ obk E i s' = some b0 := by
    intro i s h o
    rw [look_hset] at h
    cases hid : (id == i) <;> simp only [hid, cond_true, cond_false] at h
    ·exact ⟨s, h, by rw [← obk_eq (hh.ent _ _ h) hE]; exact o⟩
    ·obtain rfl : id = i := by simpa using hid
     rw [hl] at h
     cases h
     rw [hb'] at o; cases o
     exact ⟨sb, hl, hb⟩
   obtain ⟨s1, a1, a2⟩ := conv h1 o1
   obtain ⟨s2, a3, a4⟩ := conv h2 o2
   exact hh.dis _ _ _ _ _ a1 a3 a2 a4
 ·refine ⟨hos.trans hw.os, htape.trans hw.tape, hout.trans hw.output, by have := hw.size; omega, fun k hk hn => ?_, fun k o hk => ?_, hw.le, hw.fresh⟩
  ·rw [hother k fun e => ?_]
   ·exact hw.kept k hk hn
   ·subst e
    rcases hmine.2.2 with h | h
    ·omega
    ·exact hn h
  ·rw [hother k fun e => ?_]
   ·exact hw.on k o hk
   ·subst e
    rw [hmine.2.1] at hk; cases hk
 ·intro k hk hne
  refine hother k fun e => ?_
  subst e
  exact hne id (List.mem_cons_self ..) (obk_bk hb)
 ·intro i hi
  cases hi with
  | head => exact .inr (.inr ⟨sb, hl, hb.trans (obk_bk hb).symm⟩)
  | tail _ hi => exact .inl hi
 ·intro i s0 b0 h1 h2 h3
  refine .inr ⟨s0, ?_, obk_le h3 hE⟩
  simp only [look_hset]
  cases hid : (id == i) <;> simp only [cond_true, cond_false]
  ·exact h1
  ·obtain rfl : id = i := by simpa using hid
   exact (h2 (List.mem_cons_self ..)).elim
 ·intro i s0 h1 _
  simp only [look_hset] at h1
  cases hid : (id == i) <;> simp only [hid, cond_true, cond_false] at h1
  ·exact ⟨s0, h1, fun b0 h => by rw [obk_eq (hh.ent _ _ h1) hE] at h; exact h⟩
  ·obtain rfl : id = i := by simpa using hid
   rw [hl] at h1; cases h1
   exact ⟨sb, hl, fun b0 h => by rw [hb'] at h; cases h; exact hb⟩
theorem int_inj {k : IntKind} {a b : Int} (h : Value.int k a = .int k b) : a = b := by cases h; rfl
theorem entAt_cons {k : IntKind} {n p : Int} {m : MapEntry} {ms : List MapEntry} (hm : m.key = .int k p) : entAt k n (m :: ms) = if n = p then some m.val else entAt k n ms := by
 by_cases e : n = p
 ·subst e; simp [entAt, hm, Instr.sameNow]
 ·have e' : (n == p) = false := by simpa using e
  rw [if_neg e]
  simp [entAt, hm, Instr.sameNow, e']
theorem entAt_mem {k : IntKind} {n : Int} : ∀ {ms : List MapEntry}, (∀ m ∈ ms, ∃ n, m.key = .int k n) → (∀ (i j : Nat) (m m' : MapEntry), ms[i]? = some m → ms[j]? = some m' → m.key = m'.key → i = j) → ∀ m ∈ ms, m.key = .int k n → entAt k n ms = some m.val
 | m0 :: ms, hk, h1, m, hm, e => by
  obtain ⟨p, hp⟩ := hk m0 (List.mem_cons_self ..)
  rw [entAt_cons hp]
  by_cases en : n = p
  ·subst en
   rw [if_pos rfl]
   obtain ⟨j, hj⟩ := List.mem_iff_getElem?.1 hm
   have := h1 0 j m0 m rfl hj (hp.trans e.symm)
   subst this
   simp at hj
   rw [hj]
  ·rw [if_neg en]
   refine entAt_mem (fun m hm => hk m (List.mem_cons_of_mem _ hm)) (fun i j m m' a b c => by have := h1 (i + 1) (j + 1) m m' (by simpa using a) (by simpa using b) c; omega) m ?_ e
   cases hm with
   | head => rw [hp] at e; exact (en (int_inj e).symm).elim
   | tail _ h => exact h
theorem entAt_none {k : IntKind} {n : Int} : ∀ {ms : List MapEntry}, (∀ m ∈ ms, ∃ n, m.key = .int k n) → (∀ m ∈ ms, m.key ≠ .int k n) → entAt k n ms = none
 | [], _, _ => rfl
 | m :: ms, hk, h => by
  obtain ⟨p, hp⟩ := hk m (List.mem_cons_self ..)
  rw [entAt_cons hp, if_neg]
  ·exact entAt_none (fun m hm => hk m (List.mem_cons_of_mem _ hm)) fun m hm => h m (List.mem_cons_of_mem _ hm)
  ·intro e; subst e; exact h m (List.mem_cons_self ..) hp
theorem entAt_of {k : IntKind} {ms : List MapEntry} {N : Int → Option Value} (hk : ∀ m ∈ ms, ∃ n, m.key = .int k n) (h1 : ∀ (i j : Nat) (m m' : MapEntry), ms[i]? = some m → ms[j]? = some m' → m.key = m'.key → i = j)
  (h2 : ∀ m ∈ ms, ∀ n, m.key = .int k n → N n = some m.val) (h3 : ∀ n v, N n = some v → ∃ m ∈ ms, m.key = .int k n) : ∀ n, entAt k n ms = N n := fun n => by
 cases hn : N n with
 | none =>
  refine entAt_none hk fun m hm e => ?_
  rw [h2 m hm n e] at hn; cases hn
 | some v =>
  obtain ⟨m, hm, e⟩ := h3 n v hn
  rw [entAt_mem hk h1 m hm e]
  rw [h2 m hm n e] at hn; exact hn
theorem MapOK.in_ {k : IntKind} {ms : List MapEntry} {clk : Nat} {N : Int → Option Value} (h : MapOK k ms clk N) : (∀ m ∈ ms, ∀ n, m.key = .int k n → N n = some m.val) ∧ (∀ n v, N n = some v → ∃ m ∈ ms, m.key = .int k n ∧ m.val = v) := by
 refine ⟨fun m hm n e => by rw [← h.at_, entAt_mem h.key h.one m hm e], fun n v hn => ?_⟩
 rw [← h.at_] at hn
 obtain ⟨i, _, m, h1, h2, h3⟩ := findNow_some h.key 0 hn
 exact ⟨m, List.mem_of_getElem? h1, h2, h3⟩
theorem MapOK.push {k : IntKind} {ms : List MapEntry} {clk : Nat} {N : Int → Option Value} (h : MapOK k ms clk N) {n : Int} (hn : N n = none) (v : Value) :
  MapOK k (ms ++ [{ key := .int k n, val := v, born := clk }]) (clk + 1) (fun j => if j = n then some v else N j) := by
 have hne : ∀ m ∈ ms, m.key ≠ .int k n := fun m hm e => by rw [h.in_.1 m hm n e] at hn; cases hn
 have hkey : ∀ m ∈ ms ++ [{ key := .int k n, val := v, born := clk : MapEntry }], ∃ n, m.key = .int k n := fun m hm => by
  rcases List.mem_append.1 hm with hm | hm
  ·exact h.key m hm
  ·simp at hm; subst hm; exact ⟨n, rfl⟩
 have hget : ∀ (i : Nat) (m : MapEntry), (ms ++ [{ key := .int k n, val := v, born := clk : MapEntry }])[i]? = some m → (i < ms.length ∧ ms[i]? = some m) ∨ (i = ms.length ∧ m = { key := .int k n, val := v, born := clk }) := fun i m hi => by
  rw [List.getElem?_append] at hi
  split at hi
  ·exact .inl ⟨by assumption, hi⟩
  ·have : i - ms.length = 0 := by
    have := (List.getElem?_eq_some_iff.1 hi).1
    simp at this; omega
   rw [this] at hi
   simp at hi
   exact .inr ⟨by omega, hi.symm⟩
 have hone : ∀ (i j : Nat) (m m' : MapEntry), (ms ++ [{ key := .int k n, val := v, born := clk : MapEntry }])[i]? = some m → (ms ++ [{ key := .int k n, val := v, born := clk : MapEntry }])[j]? = some m' → m.key = m'.key → i = j := fun i j m m' a b e => by
  rcases hget i m a with ⟨_, a⟩ | ⟨a, rfl⟩ <;> rcases hget j m' b with ⟨_, b⟩ | ⟨b, rfl⟩
  ·exact h.one i j m m' a b e
  ·exact (hne m (List.mem_of_getElem? a) e).elim
  ·exact (hne m' (List.mem_of_getElem? b) e.symm).elim
  ·omega
 refine ⟨hkey, entAt_of hkey hone (fun m hm j e => ?_) (fun j u hj => ?_), hone, fun i j m m' a b e => ?_, fun m hm => ?_⟩
 ·rcases List.mem_append.1 hm with hm1 | hm1
  ·rw [if_neg (show ¬ j = n from fun e2 => hne m hm1 (by rw [← e2]; exact e))]
   exact h.in_.1 m hm1 j e
  ·simp at hm1; subst hm1
   rw [if_pos (int_inj e).symm]
 ·by_cases e : j = n
  ·subst e; exact ⟨_, List.mem_append.2 (.inr (List.mem_cons_self ..)), rfl⟩
  ·rw [if_neg e] at hj
   obtain ⟨m, hm, q, _⟩ := h.in_.2 j u hj
   exact ⟨m, List.mem_append.2 (.inl hm), q⟩
 ·rcases hget i m a with ⟨_, a⟩ | ⟨a, rfl⟩ <;> rcases hget j m' b with ⟨_, b⟩ | ⟨b, rfl⟩
  ·exact h.born i j m m' a b e
  ·have := h.lt m (List.mem_of_getElem? a); simp at e; omega
  ·have := h.lt m' (List.mem_of_getElem? b); simp at e; omega
  ·omega
 ·rcases List.mem_append.1 hm with hm | hm
  ·have := h.lt m hm; omega
  ·simp at hm; subst hm; simp
theorem MapOK.set {k : IntKind} {ms : List MapEntry} {clk : Nat} {N : Int → Option Value} (h : MapOK k ms clk N) {n : Int} {i : Nat} {m0 : MapEntry} (hi : ms[i]? = some m0) (hk : m0.key = .int k n) (v : Value) {f : MapEntry → MapEntry}
  (hf1 : (f m0).key = .int k n) (hf2 : (f m0).val = v) (hf3 : (f m0).born = m0.born) : MapOK k (ms.modify i f) clk (fun j => if j = n then some v else N j) := by
 have hget : ∀ (j : Nat) (m : MapEntry), (ms.modify i f)[j]? = some m → (j = i ∧ m = f m0) ∨ (j ≠ i ∧ ms[j]? = some m) := fun j m hj => by
  rw [List.getElem?_modify] at hj
  by_cases e : i = j
  ·subst e
   rw [hi] at hj
   simp at hj
   exact .inl ⟨rfl, hj.symm⟩
  ·simp [e] at hj
   exact .inr ⟨fun e2 => e e2.symm, hj⟩
 have hin : ∀ m ∈ ms.modify i f, m = f m0 ∨ (m ∈ ms ∧ m.key ≠ .int k n) := fun m hm => by
  obtain ⟨j, hj⟩ := List.mem_iff_getElem?.1 hm
  rcases hget j m hj with ⟨_, e⟩ | ⟨e, e2⟩
  ·exact .inl e
  ·refine .inr ⟨List.mem_of_getElem? e2, fun e3 => e ?_⟩
   exact h.one j i m m0 e2 hi (e3.trans hk.symm)
 have hkey : ∀ m ∈ ms.modify i f, ∃ n, m.key = .int k n := fun m hm => by
  rcases hin m hm with rfl | hm
  ·exact ⟨n, hf1⟩
  ·exact h.key m hm.1
 have hnew : f m0 ∈ ms.modify i f := by
  refine List.mem_iff_getElem?.2 ⟨i, ?_⟩
  rw [List.getElem?_modify]; simp [hi]
 have hone : ∀ (a b : Nat) (m m' : MapEntry), (ms.modify i f)[a]? = some m → (ms.modify i f)[b]? = some m' → m.key = m'.key → a = b := fun a b m m' ha hb e => by
  rcases hget a m ha with ⟨a1, rfl⟩ | ⟨a1, a2⟩ <;> rcases hget b m' hb with ⟨b1, rfl⟩ | ⟨b1, b2⟩
  ·omega
  ·exact (b1 (h.one b i m' m0 b2 hi (e.symm.trans (hf1.trans hk.symm)))).elim
  ·exact (a1 (h.one a i m m0 a2 hi (e.trans (hf1.trans hk.symm)))).elim
  ·exact h.one a b m m' a2 b2 e
 refine ⟨hkey, entAt_of hkey hone (fun m hm j e => ?_) (fun j u hj => ?_), hone, fun a b m m' ha hb e => ?_, fun m hm => ?_⟩
 ·rcases hin m hm with rfl | ⟨hm, hne⟩
  ·rw [hf1] at e; rw [if_pos (int_inj e).symm, hf2]
  ·rw [if_neg fun e2 => by subst e2; exact hne e]
   exact h.in_.1 m hm j e
 ·by_cases e : j = n
  ·subst e; exact ⟨_, hnew, hf1⟩
  ·rw [if_neg e] at hj
   obtain ⟨m, hm, q, _⟩ := h.in_.2 j u hj
   obtain ⟨a, ha⟩ := List.mem_iff_getElem?.1 hm
   refine ⟨m, List.mem_iff_getElem?.2 ⟨a, ?_⟩, q⟩
   have hne : ¬ i = a := fun e2 => by subst e2; rw [hi] at ha; cases ha; rw [hk] at q; exact e (int_inj q).symm
   rw [List.getElem?_modify, ha]
   simp [hne]
 ·rcases hget a m ha with ⟨a1, rfl⟩ | ⟨a1, a2⟩ <;> rcases hget b m' hb with ⟨b1, rfl⟩ | ⟨b1, b2⟩
  ·omega
  ·exact (b1 (h.born b i m' m0 b2 hi (e.symm.trans hf3))).elim
  ·exact (a1 (h.born a i m m0 a2 hi (e.trans hf3))).elim
  ·exact h.born a b m m' a2 b2 e
 ·rcases hin m hm with rfl | hm
  ·rw [hf3]; exact h.lt m0 (List.mem_of_getElem? hi)
  ·exact h.lt m hm.1
theorem MapOK.del {k : IntKind} {ms : List MapEntry} {clk : Nat} {N : Int → Option Value} (h : MapOK k ms clk N) {n : Int} {i : Nat} {m0 : MapEntry} (hi : ms[i]? = some m0) (hk : m0.key = .int k n) :
  MapOK k (ms.eraseIdx i) clk (fun j => if j = n then none else N j) := by
 have hget : ∀ (j : Nat) (m : MapEntry), (ms.eraseIdx i)[j]? = some m → ms[if j < i then j else j + 1]? = some m := fun j m hj => by
  rw [List.getElem?_eraseIdx] at hj
  split at hj
  ·rename_i e; rw [if_pos e]; exact hj
  ·rename_i e; rw [if_neg e]; exact hj
 have hne : ∀ m ∈ ms.eraseIdx i, m ∈ ms ∧ m.key ≠ .int k n := fun m hm => by
  obtain ⟨j, hj⟩ := List.mem_iff_getElem?.1 hm
  have := hget j m hj
  refine ⟨List.mem_of_getElem? this, fun e => ?_⟩
  have := h.one _ i m m0 this hi (e.trans hk.symm)
  split at this <;> omega
 have hkey : ∀ m ∈ ms.eraseIdx i, ∃ n, m.key = .int k n := fun m hm => h.key m (hne m hm).1
 have hone : ∀ (a b : Nat) (m m' : MapEntry), (ms.eraseIdx i)[a]? = some m → (ms.eraseIdx i)[b]? = some m' → m.key = m'.key → a = b := fun a b m m' ha hb e => by
  have := h.one _ _ m m' (hget a m ha) (hget b m' hb) e
  split at this <;> split at this <;> omega
 refine ⟨hkey, entAt_of hkey hone (fun m hm j e => ?_) (fun j u hj => ?_), hone, fun a b m m' ha hb e => ?_, fun m hm => h.lt m (hne m hm).1⟩
 ·rw [if_neg fun e2 => by subst e2; exact (hne m hm).2 e]
  exact h.in_.1 m (hne m hm).1 j e
 ·by_cases e : j = n
  ·rw [if_pos e] at hj; cases hj
  ·rw [if_neg e] at hj
   obtain ⟨m, hm, q, _⟩ := h.in_.2 j u hj
   obtain ⟨a, ha⟩ := List.mem_iff_getElem?.1 hm
   have hai : a ≠ i := fun e2 => by subst e2; rw [hi] at ha; cases ha; rw [hk] at q; exact e (int_inj q).symm
   refine ⟨m, List.mem_iff_getElem?.2 ⟨if a < i then a else a - 1, ?_⟩, q⟩
   rw [List.getElem?_eraseIdx]
   by_cases hlt : a < i
   ·simp [hlt, ha]
   ·rw [if_neg hlt, if_neg (by omega), show a - 1 + 1 = a by omega, ha]
 ·have := h.born _ _ m m' (hget a m ha) (hget b m' hb) e
  split at this <;> split at this <;> omega
theorem ovr_cons {M : Int → Option Value} {n : Int} {o : Option Value} {uv : List (Int × Option Value)} : ovr M ((n, o) :: uv) = fun j => if j = n then o else ovr M uv j := rfl
theorem MapOK.same {k : IntKind} {ms : List MapEntry} {clk : Nat} {N N' : Int → Option Value} (h : MapOK k ms clk N) (e : ∀ j, N j = N' j) : MapOK k ms clk N' := by
 have : N = N' := funext e
 rw [← this]; exact h
theorem zero_pack {e : Nat} {te : TyI} {z : SV} (hte : TyOK P e te) (hz : pack te.ty.isAgg te.zero = some z) : ∃ zv : Value, Den H E z zv ∧ (∀ w : World, (zeroValue e).run P w = .ok zv w) ∧ (te.ty.isAgg = false → zv.oneCell' = true) := by
 obtain ⟨inf, zv, h1, h2, _, h4, h5, h6, h7, h8⟩ := hte.info
 have h5' : DenL H E te.zero zv.cells.toList := h5.le (fun _ _ e => by cases e) (fun _ _ e => by cases e)
 refine ⟨zv, ?_, fun w => by simp [zeroValue, typeInfo, h1, h4], fun ha => (h8 ha).2⟩
 rcases pack_spec hz with ⟨ha, rfl⟩ | ⟨ha, hl⟩
 ·obtain ⟨cs, rfl⟩ := h7 ha
  exact ⟨cs, rfl, h5'⟩
 ·rw [hl] at h5'
  have h8 := (h8 ha).2
  cases zv with
  | agg cs => simp [Value.oneCell'] at h8
  | _ =>
   simp [Value.cells, DenL] at h5'
   exact h5'
theorem arr_modify_self {es : Array MapEntry} {i : Nat} {f : MapEntry → MapEntry} {m : MapEntry} (h : es[i]? = some m) (hf : f m = m) : es.modify i f = es := by
 apply Array.ext
 ·simp
 ·intro j h1 h2
  rw [Array.getElem_modify]
  split
  ·rename_i e
   subst e
   have : es[i] = m := by
    rw [Array.getElem?_eq_getElem h2] at h; cases h; rfl
   rw [this, hf]
  ·rfl
theorem w_mapEntry {c : Core} {a : Act} {o : Oper} {t : Nat} {x y : Operand} {φ : SV × Core → Prop} (hC : CtxOK P C) (hd : DenL H E c.tm a.tmps.toList) (hh : HeapOK K H E w c.hp) (hw : WOK K H w) (hf : Free E c)
  (ho : o.op = .mapEntry t x y) (h : (execMapEntry C c t (evL c.tm x) (evL c.tm y)).All φ) : WOut P K H E w c a o φ := by
 have dx := den_ev (H := H) (E := E) hd x
 have dy := den_ev (H := H) (E := E) hd y
 unfold execMapEntry at h
 split at h
 ·rename_i ti hti
  split at h
  ·rename_i kt e hty
   have ht := (hC.ty _ _ hti).desc
   rw [hty] at ht
   have ht : P.underlying t = some (.map kt e) := ht
   split at h
   ·rename_i kti te hkti hte
    have hk := (hC.ty _ _ hkti).desc
    have hte := hC.ty _ _ hte
    split at h
    ·rename_i kk z id j n lit hkk hz hx hy
     rw [hkk] at hk
     have hk : P.underlying kt = some (.int kk) := hk
     rw [hx] at dx
     obtain ⟨b, he, ex⟩ := dx
     have ey : a.eval y = .int j n := kindInt_spec hy dy
     split at h
     ·rename_i fk M fs us tag hl
      cases hb : (j == kk && fk == kk && z.one && Nat.blt c.nx c.lim) <;> simp only [hb, cond_true, cond_false] at h
      ·exact h.elim
      simp only [Bool.and_eq_true, beq_iff_eq] at hb
      obtain ⟨⟨⟨rfl, rfl⟩, hzone⟩, hlt⟩ := hb
      have hlt := blt_spec hlt
      obtain ⟨b', ms, clk, fv, uv, he', h1, d1, d2, hM, hok, _, hmine⟩ := hh.ent _ _ hl
      rw [he] at he'; cases he'
      rw [hC.A] at h
      obtain ⟨p, sv, ov, hφ, hpo, hat⟩ := findF_spec hM d2 d1 h
      have hg : (getObj b).run P w = .ok (.map ms clk) w := by simp [getObj, Sem.run, h1]
      have hck := checkKey_int (P := P) hk false fk n w
      have hso : ∀ o', (setObj b o').run P w = .ok () { w with heap := w.heap.setIfInBounds b o' } := fun o' => by simp [setObj, Sem.run, h1]
      obtain ⟨zv, hzd, hzr, hz1⟩ := zero_pack (H := H) (E := E) hte hz
      have hnone := hf c.nx (Nat.le_refl _) hlt
      have fin : ∀ (ms' : Array MapEntry) (clk' : Nat) (v : Value) (bn : Nat), Den H E (bif p then sv else z) v → v.oneCell' = true → MapOK fk ms'.toList clk' (ovr M ((n, some v) :: uv)) → (∃ m ∈ ms'.toList, m.key = .int fk n ∧ m.born = bn) →
        (Instr.mapEntry t (.map (some b)) (.int fk n)).run P w = .ok (.tuple #[v, goInt bn]) { w with heap := w.heap.setIfInBounds b (.map ms' clk') } → WOut P K H E w c a o φ := by
       intro ms' clk' v bn hv hv1 hok' htag hr
       obtain ⟨m, hm, hmk, hmb⟩ := htag
       have hle : E.le (E.set c.nx (goInt bn)) := Env.le_set hnone
       refine ⟨_, .tuple #[v, goInt bn], _, H, E.set c.nx (goInt bn), { w with heap := w.heap.setIfInBounds b (.map ms' clk') }, hφ, ⟨_, rfl, hv.le (fun _ _ e => e) hle, Env.set_self _ _ _, trivial⟩, ?_, .inl rfl, ?_⟩
       ·refine set_post2 (E' := E.set c.nx (goInt bn)) (nx' := c.nx + 1) hh hw hl (b := b) (by simp [obk, he, blkV]) hle (fun i h1 h2 => ?_) (fun i h1 => ?_) (Nat.le_succ _) (.inl hlt) (fun k hk => ?_) (by simp) rfl rfl rfl ?_ (by simp [obk, hle _ _ he, blkV])
        ·by_cases e : i = c.nx
         ·subst e; omega
         ·simp [Env.set, e, h1] at h2
        ·by_cases e : i = c.nx
         ·subst e; simp [bk, Env.set, goInt, blkV]
         ·simp [bk, Env.set, e, h1]
        ·simp only; rw [heap_setObj w b k _ _ h1, if_neg hk]
        ·exact ⟨b, ms', clk', fv, (n, some v) :: uv, hle _ _ he, by simp only; rw [heap_setObj w b b _ _ h1, if_pos rfl], d1.le (fun _ _ e => e) hle, ⟨rfl, ⟨hv.le (fun _ _ e => e) hle, hv1⟩, d2.le (fun _ _ e => e) hle⟩, hM, hok',
          ⟨m, hm, hmk, by rw [Env.set_self, hmb]; rfl⟩, hmine⟩
       ·simp [execOp, ho, ex, ey, hr]
      rw [← hok.at_] at hat
      cases p with
      | true =>
       cases ov with
       | none => exact hpo.elim
       | some v =>
        obtain ⟨i, e1, m, e2, e3, e4⟩ := findNow_some hok.key 0 hat
        simp only [Nat.zero_add] at e1
        have e2' : ms[i]? = some m := by simpa using e2
        refine fin ms clk v m.born hpo.1 hpo.2 (hok.same fun k => ?_) ⟨m, List.mem_of_getElem? e2, e3, rfl⟩ ?_
        ·rw [ovr_cons]
         by_cases ek : k = n
         ·subst ek; simp only [if_true]; rw [← hok.at_]; exact hat
         ·simp [ek]
        ·have hmod : (ms.modify i fun e => { key := .int fk n, val := e.val, born := e.born }) = ms := arr_modify_self e2' (by cases m; simp at e3; simp [e3])
         simp [Instr.mapEntry, run_underlying ht, hg, hck, Instr.findKey, run_underlying hk, e1, e2', e3, Instr.keyThatStays, Instr.sameBits, hso, hmod]
      | false =>
       cases ov with
       | some v => exact hpo.elim
       | none =>
        have e1 := findNow_none hok.key 0 hat
        rw [hok.at_] at hat
        have hz1 : zv.oneCell' = true := one_cell hzone hzd
        refine fin (ms.push { key := .int fk n, val := zv, born := clk }) (clk + 1) zv clk hzd hz1 (by simpa [ovr_cons] using hok.push hat zv) ⟨{ key := .int fk n, val := zv, born := clk }, by simp, rfl, rfl⟩ ?_
        simp [Instr.mapEntry, run_underlying ht, hg, hck, Instr.findKey, run_underlying hk, e1, hzr, hso]
     ·exact h.elim
    ·exact h.elim
   ·exact h.elim
  ·exact h.elim
 ·exact h.elim
theorem w_entryStore {c : Core} {a : Act} {o : Oper} {t : Nat} {x y z : Operand} {φ : SV × Core → Prop} (hd : DenL H E c.tm a.tmps.toList) (hh : HeapOK K H E w c.hp) (hw : WOK K H w)
  (ho : o.op = .entryStore t x y z) (h : (execEntryStore c (evL c.tm x) (evL c.tm y) (evL c.tm z)).All φ) : WOut P K H E w c a o φ := by
 have dx := den_ev (H := H) (E := E) hd x
 have dy := den_ev (H := H) (E := E) hd y
 have dz := den_ev (H := H) (E := E) hd z
 unfold execEntryStore at h
 split at h
 ·rename_i id s hx hy
  rw [hx] at dx
  rw [hy] at dy
  obtain ⟨b, he, ex⟩ := dx
  have dy : E s = some (a.eval y) := dy
  split at h
  ·rename_i fk M fs us s' n hl
   cases hb : (s == s' && (evL c.tm z).one) <;> simp only [hb, cond_true, cond_false] at h
   ·exact h.elim
   simp only [Bool.and_eq_true, beq_iff_eq] at hb
   obtain ⟨rfl, hone⟩ := hb
   obtain ⟨b', ms, clk, fv, uv, he', h1, d1, d2, hM, hok, ⟨m, hm, hmk, hms⟩, hmine⟩ := hh.ent _ _ hl
   rw [he] at he'; cases he'
   rw [dy] at hms
   have ey : a.eval y = .int .i64 m.born := Option.some.inj hms
   have hg : (getObj b).run P w = .ok (.map ms clk) w := by simp [getObj, Sem.run, h1]
   have hso : ∀ o', (setObj b o').run P w = .ok () { w with heap := w.heap.setIfInBounds b o' } := fun o' => by simp [setObj, Sem.run, h1]
   obtain ⟨i, hi⟩ := List.mem_iff_getElem?.1 hm
   have hi' : ms[i]? = some m := by simpa using hi
   have hfind : ms.findIdx? (fun e => (e.born : Int) == m.born) = some i := by
    rw [Array.findIdx?_eq_some_iff_getElem]
    have hlt := (Array.getElem?_eq_some_iff.1 hi').1
    refine ⟨hlt, by rw [(Array.getElem?_eq_some_iff.1 hi').2]; simp, fun j hj => ?_⟩
    have hjl : j < ms.size := by omega
    intro e
    have e : ms[j].born = m.born := by simp only [beq_iff_eq] at e; exact Int.ofNat.inj e
    have := hok.born j i ms[j] m (by simp [hjl]) hi e
    omega
   refine ⟨_, undef, _, H, E, { w with heap := w.heap.setIfInBounds b (.map (ms.modify i fun e => { e with val := a.eval z }) clk) }, h, trivial, ?_, .inr ⟨rfl, rfl⟩, ?_⟩
   ·refine set_post hh hw hl (b := b) (by simp [obk, he, blkV]) (fun k hk => ?_) (by simp) rfl rfl rfl ?_ (by simp [obk, he, blkV])
    ·simp only; rw [heap_setObj w b k _ _ h1, if_neg hk]
    ·refine ⟨b, _, clk, fv, (n, some (a.eval z)) :: uv, he, by simp only; rw [heap_setObj w b b _ _ h1, if_pos rfl], d1, ⟨rfl, ⟨dz, one_cell hone dz⟩, d2⟩, hM, ?_, ⟨{ m with val := a.eval z }, ?_, hmk, by rw [dy, ey]⟩, hmine⟩
     ·have := hok.set hi hmk (a.eval z) (f := fun e => { e with val := a.eval z }) hmk rfl rfl
      simpa [ovr_cons] using this
     ·rw [Array.toList_modify]
      refine List.mem_iff_getElem?.2 ⟨i, ?_⟩
      rw [List.getElem?_modify, hi]; simp
   ·simp [execOp, ho, Instr.entryStore, ex, ey, hg, asInt, asIntOf, hfind, hso]
  ·exact h.elim
 ·exact h.elim
theorem w_delete {c : Core} {a : Act} {o : Oper} {t : Nat} {ts : Array TypeId} {x y : Operand} {φ : SV × Core → Prop} (hC : CtxOK P C) (hd : DenL H E c.tm a.tmps.toList) (hh : HeapOK K H E w c.hp) (hw : WOK K H w)
  (ho : o.op = .call { callee := .builtin .delete, args := #[x, y], argTypes := ts }) (hts : ts[0]? = some t) (h : (execDelete C c t (evL c.tm x) (evL c.tm y)).All φ) : WOut P K H E w c a o φ := by
 have dx := den_ev (H := H) (E := E) hd x
 have dy := den_ev (H := H) (E := E) hd y
 unfold execDelete at h
 split at h
 ·rename_i ti hti
  split at h
  ·rename_i kt e hty
   have ht := (hC.ty _ _ hti).desc
   rw [hty] at ht
   have ht : P.underlying t = some (.map kt e) := ht
   split at h
   ·rename_i kti hkti
    have hk := (hC.ty _ _ hkti).desc
    split at h
    ·rename_i kk id j n lit hkk hx hy
     rw [hkk] at hk
     have hk : P.underlying kt = some (.int kk) := hk
     rw [hx] at dx
     obtain ⟨b, he, ex⟩ := dx
     have ey : a.eval y = .int j n := kindInt_spec hy dy
     split at h
     ·rename_i fk M fs us tag hl
      cases hb : (j == kk && fk == kk) <;> simp only [hb, cond_true, cond_false] at h
      ·exact h.elim
      simp only [Bool.and_eq_true, beq_iff_eq] at hb
      obtain ⟨rfl, rfl⟩ := hb
      obtain ⟨b', ms, clk, fv, uv, he', h1, d1, d2, hM, hok, _, hmine⟩ := hh.ent _ _ hl
      rw [he] at he'; cases he'
      have hg : (getObj b).run P w = .ok (.map ms clk) w := by simp [getObj, Sem.run, h1]
      have hck := fun em => checkKey_int (P := P) hk em fk n w
      have hso : ∀ o', (setObj b o').run P w = .ok () { w with heap := w.heap.setIfInBounds b o' } := fun o' => by simp [setObj, Sem.run, h1]
      have fin : ∀ (ms' : Array MapEntry), MapOK fk ms'.toList clk (ovr M ((n, none) :: uv)) → (Builtin.delete_ ts o.type #[.map (some b), .int fk n]).run P w = .ok (.tuple #[]) { w with heap := w.heap.setIfInBounds b (.map ms' clk) } → WOut P K H E w c a o φ := by
       intro ms' hok' hr
       refine ⟨_, .tuple #[], _, H, E, { w with heap := w.heap.setIfInBounds b (.map ms' clk) }, h, trivial, ?_, .inl rfl, ?_⟩
       ·refine set_post hh hw hl (b := b) (by simp [obk, he, blkV]) (fun k hk => ?_) (by simp) rfl rfl rfl ?_ (by simp [obk, he, blkV])
        ·simp only; rw [heap_setObj w b k _ _ h1, if_neg hk]
        ·exact ⟨b, ms', clk, fv, (n, none) :: uv, he, by simp only; rw [heap_setObj w b b _ _ h1, if_pos rfl], d1, ⟨rfl, trivial, d2⟩, hM, hok', trivial, hmine⟩
       ·simp only [execOp, ho, resolve]
        simp [invoke, builtin, ex, ey, hr]
      cases hat : entAt fk n ms.toList with
      | some v =>
       obtain ⟨i, e1, m, e2, e3, e4⟩ := findNow_some hok.key 0 hat
       simp only [Nat.zero_add] at e1
       refine fin (ms.eraseIdxIfInBounds i) ?_ ?_
       ·have := hok.del e2 e3
        simpa [ovr_cons, Array.toList_eraseIdxIfInBounds] using this
       ·simp [Builtin.delete_, hts, run_underlying ht, hg, hck, Instr.findKey, run_underlying hk, e1, hso]
      | none =>
       have e1 := findNow_none hok.key 0 hat
       refine fin ms ?_ ?_
       ·refine hok.same fun k => ?_
        rw [ovr_cons]
        by_cases ek : k = n
        ·subst ek; simp only [if_true]; rw [← hok.at_]; exact hat
        ·simp [ek]
       ·simp [Builtin.delete_, hts, run_underlying ht, hg, hck, Instr.findKey, run_underlying hk, e1, hso]
     ·exact h.elim
    ·exact h.elim
   ·exact h.elim
  ·exact h.elim
 ·exact h.elim
end
end Go.Sx
namespace Go.Sx
theorem Tree.All_bind {α β : Type} {φ : β → Prop} {k : α → Tree β} : ∀ {t : Tree α}, (t.bind k).All φ → t.All fun a => (k a).All φ
 | .leaf _, h => h
 | .node _ _ _, h => ⟨fun e => Tree.All_bind (h.1 e), fun e => Tree.All_bind (h.2 e)⟩
 | .need _ _, h => ⟨h.1, Tree.All_bind h.2⟩
 | .must _ _, h => ⟨h.1, Tree.All_bind h.2⟩
 | .both _ _, h => ⟨Tree.All_bind h.1, Tree.All_bind h.2⟩
 | .fail, h => h.elim
theorem Tree.All.mono {α : Type} {φ ψ : α → Prop} (h : ∀ a, φ a → ψ a) : ∀ {t : Tree α}, t.All φ → t.All ψ
 | .leaf _, hh => h _ hh
 | .node _ _ _, hh => ⟨fun e => (hh.1 e).mono h, fun e => (hh.2 e).mono h⟩
 | .need _ _, hh => ⟨hh.1, hh.2.mono h⟩
 | .must _ _, hh => ⟨hh.1, hh.2.mono h⟩
 | .both _ _, hh => ⟨hh.1.mono h, hh.2.mono h⟩
 | .fail, hh => hh.elim
section
variable {P : Program} {C : Ctx} {K : Kx} {H H' H'' : Mem} {E E' E'' : Env} {w w' w'' : World}
def Mv (K : Kx) (H : Mem) (E : Env) (w : World) (c : Core) (H' : Mem) (E' : Env) (w' : World) (c' : Core) : Prop := Post K H E w c H' E' w' { c' with tm := c.tm }
theorem Post.mv {c c' : Core} (h : Post K H E w c H' E' w' c') : Mv K H E w c H' E' w' c' := by
 have := h.tm
 unfold Mv
 rw [← this]; exact h
theorem Mv.to {c c' d d' : Core} (h : Mv K H E w c H' E' w' c') (h1 : d.hp = c.hp) (h2 : d.nx = c.nx) (h3 : d.lim = c.lim) (h4 : d.tc = c.tc) (h1' : d'.hp = c'.hp) (h2' : d'.nx = c'.nx) (h3' : d'.lim = c'.lim) (h4' : d'.tc = c'.tc) : Mv K H E w d H' E' w' d' := by
 obtain ⟨t, hp, nx, lim, tc⟩ := c
 obtain ⟨t', hp', nx', lim', tc'⟩ := c'
 obtain ⟨t1, hp1, nx1, lim1, tc1⟩ := d
 obtain ⟨t2, hp2, nx2, lim2, tc2⟩ := d'
 simp only at h1 h2 h3 h4 h1' h2' h3' h4'
 subst h1 h2 h3 h4 h1' h2' h3' h4'
 exact ⟨h.Hle, h.Ele, h.new, h.nx, h.lim, h.limE, rfl, h.hp, h.wok, h.tc, h.size, h.fr, h.newb, h.tch, h.keep, h.old⟩
structure Ch (K : Kx) (H : Mem) (E : Env) (w : World) (q : List (Nat × SB)) (u : List Nat) (H' : Mem) (E' : Env) (w' : World) (q' : List (Nat × SB)) (u' : List Nat) (New : Nat → Prop) : Prop where
 Hle : H.le H'
 Ele : E.le E'
 new : ∀ i, E i = none → E' i ≠ none → New i
 hp : HeapOK K H' E' w' q'
 wok : WOK K H' w'
 tc : ∀ id ∈ u, id ∈ u'
 size : w.heap.size ≤ w'.heap.size
 fr : ∀ b, b < w.heap.size → (∀ id ∈ u', bk E id ≠ some b) → w'.heap[b]? = w.heap[b]?
 newb : ∀ i b, E i = none → bk E' i = some b → w.heap.size ≤ b ∨ ∃ id ∈ u', bk E id = some b
 tch : ∀ id ∈ u', id ∈ u ∨ E id = none ∨ ∃ sb, look? q id = some sb ∧ obk E id sb = bk E id
 keep : ∀ id sb b, look? q id = some sb → id ∉ u' → obk E id sb = some b → H' b ≠ none ∨ ∃ sb', look? q' id = some sb' ∧ obk E' id sb' = some b
 old : ∀ id sb, look? q' id = some sb → E id ≠ none → ∃ sb0, look? q id = some sb0 ∧ ∀ b, obk E' id sb = some b → obk E id sb0 = some b
theorem Mv.ch {c c' : Core} (h : Mv K H E w c H' E' w' c') : Ch K H E w c.hp c.tc H' E' w' c'.hp c'.tc (fun i => c.nx ≤ i ∧ i < c'.nx) :=
 ⟨h.Hle, h.Ele, h.new, h.hp, h.wok, h.tc, h.size, h.fr, h.newb, h.tch, h.keep, h.old⟩
theorem Ch.mv {c c' : Core} (h : Ch K H E w c.hp c.tc H' E' w' c'.hp c'.tc (fun i => c.nx ≤ i ∧ i < c'.nx)) (h1 : c.nx ≤ c'.nx) (h2 : c'.nx ≤ c.lim ∨ c'.nx = c.nx) (h3 : c'.lim = c.lim) : Mv K H E w c H' E' w' c' :=
 ⟨h.Hle, h.Ele, h.new, h1, h2, h3, rfl, h.hp, h.wok, h.tc, h.size, h.fr, h.newb, h.tch, h.keep, h.old⟩
theorem Ch.mono {hp hp' : List (Nat × SB)} {tc tc' : List Nat} {N N' : Nat → Prop} (h : Ch K H E w hp tc H' E' w' hp' tc' N) (hN : ∀ i, N i → N' i) : Ch K H E w hp tc H' E' w' hp' tc' N' :=
 { h with new := fun i h1 h2 => hN i (h.new i h1 h2) }
theorem Ch.add {hp hp' : List (Nat × SB)} {tc' : List Nat} {N : Nat → Prop} (h : Ch K H E w hp [] H' E' w' hp' tc' N) (t : List Nat) : Ch K H E w hp t H' E' w' hp' (tc' ++ t) N :=
 { h with
  tc := fun id hid => List.mem_append.2 (.inr hid)
  fr := fun b hb hne => h.fr b hb fun id hid => hne id (List.mem_append.2 (.inl hid))
  newb := fun i b h1 h2 => (h.newb i b h1 h2).imp (fun h => h) fun ⟨id, h3, h4⟩ => ⟨id, List.mem_append.2 (.inl h3), h4⟩
  tch := fun id hid => by
   rcases List.mem_append.1 hid with h1 | h1
   ·rcases h.tch id h1 with h2 | h2
    ·cases h2
    ·exact .inr h2
   ·exact .inl h1
  keep := fun id sb b h1 h2 h3 => h.keep id sb b h1 (fun h4 => h2 (List.mem_append.2 (.inl h4))) h3 }
theorem Ch.trans {hp hp1 hp2 : List (Nat × SB)} {tc tc1 tc2 : List Nat} {N : Nat → Prop} (h1 : Ch K H E w hp tc H' E' w' hp1 tc1 N) (h2 : Ch K H' E' w' hp1 tc1 H'' E'' w'' hp2 tc2 N) : Ch K H E w hp tc H'' E'' w'' hp2 tc2 N := by
 have tc1 := h1.tc
 have tc2 := h2.tc
 have noneE : ∀ {i : Nat}, E' i = none → E i = none := fun {i} h => by
  cases he : E i with
  | none => rfl
  | some v => rw [h1.Ele _ _ he] at h; cases h
 have bkE : ∀ {i b : Nat}, E i ≠ none → bk E' i = some b → bk E i = some b := fun {i b} hne h => by
  cases he : E i with
  | none => exact (hne he).elim
  | some v => simp only [bk, h1.Ele _ _ he] at h; simpa [bk, he] using h
 refine ⟨fun b o h => h2.Hle b o (h1.Hle b o h), fun i v h => h2.Ele i v (h1.Ele i v h), fun i e1 e2 => ?_, h2.hp, h2.wok, fun id h => tc2 id (tc1 id h), Nat.le_trans h1.size h2.size,
  fun b hb hne => ?_, fun i b e1 e2 => ?_, fun id hid => ?_, fun id sb b hl hn ho => ?_, fun id sb hl hne => ?_⟩
 ·cases he : E' i with
  | none => exact h2.new i he e2
  | some v => exact h1.new i e1 (by rw [he]; simp)
 ·rw [h2.fr b (by have := h1.size; omega) fun id hid e => ?_]
  ·exact h1.fr b hb fun id hid => hne id (tc2 id hid)
  ·cases he : E id with
   | none =>
    rcases h1.newb id b he e with h | ⟨id', h3, h4⟩
    ·omega
    ·exact hne id' (tc2 id' h3) h4
   | some v => exact hne id hid (bkE (by rw [he]; simp) e)
 ·cases he : E' i with
  | none =>
   rcases h2.newb i b he e2 with h | ⟨id', h3, h4⟩
   ·exact .inl (by have := h1.size; omega)
   ·cases he2 : E id' with
    | none =>
     rcases h1.newb id' b he2 h4 with h | ⟨id2, h5, h6⟩
     ·exact .inl h
     ·exact .inr ⟨id2, tc2 _ h5, h6⟩
    | some v => exact .inr ⟨id', h3, bkE (by rw [he2]; simp) h4⟩
  | some v =>
   have e3 : bk E' i = some b := by simp only [bk, h2.Ele _ _ he] at e2; simpa [bk, he] using e2
   rcases h1.newb i b e1 e3 with h | ⟨id2, h5, h6⟩
   ·exact .inl h
   ·exact .inr ⟨id2, tc2 _ h5, h6⟩
 ·rcases h2.tch id hid with h | h | ⟨sb, h3, h4⟩
  ·exact h1.tch id h
  ·exact .inr (.inl (noneE h))
  ·cases he : E id with
   | none => exact .inr (.inl rfl)
   | some v =>
    obtain ⟨sb0, h5, h6⟩ := h1.old id sb h3 (by rw [he]; simp)
    refine .inr (.inr ⟨sb0, h5, ?_⟩)
    have e' : bk E' id = bk E id := by simp [bk, he, h1.Ele _ _ he]
    rw [e'] at h4
    cases hb : bk E id with
    | some b => exact h6 b (by rw [h4, hb])
    | none =>
     cases ho : obk E id sb0 with
     | none => rfl
     | some b => rw [← hb]; rw [obk_bk ho]
 ·rcases h1.keep id sb b hl (fun h => hn (tc2 id h)) ho with h | ⟨sb', h3, h4⟩
  ·cases hb : H' b with
   | none => exact (h hb).elim
   | some o => exact .inl (by rw [h2.Hle b o hb]; simp)
  ·exact h2.keep id sb' b h3 hn h4
 ·have hne' : E' id ≠ none := fun h => hne (noneE h)
  obtain ⟨sb1, h3, h4⟩ := h2.old id sb hl hne'
  obtain ⟨sb0, h5, h6⟩ := h1.old id sb1 h3 hne
  exact ⟨sb0, h5, fun b hb => h6 b (h4 b hb)⟩
theorem Mv.trans {c c1 c2 : Core} (h1 : Mv K H E w c H' E' w' c1) (h2 : Mv K H' E' w' c1 H'' E'' w'' c2) : Mv K H E w c H'' E'' w'' c2 := by
 have hnx1 : c.nx ≤ c1.nx := h1.nx
 have hnx2 : c1.nx ≤ c2.nx := h2.nx
 have hlim1 : c1.lim = c.lim := h1.limE
 have hlim2 : c2.lim = c1.lim := h2.limE
 have hl1 : c1.nx ≤ c.lim ∨ c1.nx = c.nx := h1.lim
 have hl2 : c2.nx ≤ c1.lim ∨ c2.nx = c1.nx := h2.lim
 exact ((h1.ch.mono fun i hi => ⟨hi.1, by omega⟩).trans (h2.ch.mono fun i hi => ⟨by omega, hi.2⟩)).mv (by omega) (by omega) (by omega)
theorem Mv.free {c c' : Core} (h : Mv K H E w c H' E' w' c') (hf : Free E c) : Free E' c' := by
 intro i h1 h2
 have hn : c.nx ≤ c'.nx := h.nx
 have hl : c'.lim = c.lim := h.limE
 cases he : E' i with
 | none => rfl
 | some v =>
  have := h.new i (hf i (by omega) (by omega)) (by rw [he]; simp)
  have h3 : i < c'.nx := this.2
  omega
structure St (C : Ctx) (K : Kx) (H : Mem) (E : Env) (w : World) (c : Core) (a : Act) : Prop where
 den : DenL H E c.tm a.tmps.toList
 hp : HeapOK K H E w c.hp
 wok : WOK K H w
 free : Free E c
 gl : GlobOK C.gls H
 defers : a.defers = []
/-! Functions of which a summary is known. -/
structure SpecRes (H : Mem) (w : World) (s : Sh) (v : Value) (H' : Mem) (w' : World) : Prop where
 Hle : H.le H'
 on : H'.on w'
 os : w'.os = w.os
 tape : w'.tape = w.tape
 output : w'.output = w.output
 size : w.heap.size ≤ w'.heap.size
 old : ∀ b, b < w.heap.size → w'.heap[b]? = w.heap[b]?
 fresh : ∀ b, H' b ≠ none → H b ≠ none ∨ w.heap.size ≤ b
 res : ∀ b0 : Nat, ∃ E1 : Env, (∀ i, E1 i ≠ none → b0 ≤ i ∧ i < (ofSh s b0).2.2) ∧ (∀ i b, bk E1 i = some b → w.heap.size ≤ b) ∧ Den H' E1 (ofSh s b0).1 v ∧ HeapOK ⟨w, fun _ => False, H⟩ H' E1 w' (insAll [] (ofSh s b0).2.1)
def FnOK (P : Program) (gls : List (Nat × Sh)) (f : Nat) (F : List Sh → Tree Sh) : Prop :=
 ∀ (H : Mem) (w : World) (shs : List Sh) (args : List Value) (φ : Sh → Prop), H.on w → GlobOK gls H → RepL H shs args → (F shs).All φ →
  Calls P f args.toArray w fun e w' => ∃ v s H', e = .returned v ∧ φ s ∧ SpecRes H w s v H' w'
def SpecsOK (P : Program) (C : Ctx) : Prop := ∀ g F, C.spec g = some F → FnOK P C.gls g F
theorem look_insAll : ∀ (l hp : List (Nat × SB)) (i : Nat), look? (insAll hp l) i = match look? (insAll [] l) i with | some x => some x | none => look? hp i
 | [], hp, i => by simp [insAll, look?]
 |(j, b) :: l, hp, i => by
  rw [insAll, insAll, look_insAll l (hins hp j b), look_insAll l (hins [] j b), look_hins, look_hins]
  cases look? (insAll [] l) i with
  | some x => rfl
  | none => cases h : (j == i) <;> simp [look?]
mutual
theorem ofSh_le : ∀ (s : Sh) (b : Nat), b ≤ (ofSh s b).2.2
 | .os _ _ _ _, b => by simp [ofSh]
 | .agg l, b => by simpa [ofSh] using ofShL_le l b
 | .tup l, b => by simpa [ofSh] using ofShL_le l b
 | .i _ _, b => Nat.le_refl _
 | .b _, b => Nat.le_refl _
 | .v _, b => Nat.le_refl _
 | .str _, b => Nat.le_refl _
 | .sl _ _ _, b => Nat.le_refl _
 | .ifc _ _, b => Nat.le_refl _
 | .fn _ _, b => Nat.le_refl _
 | .er _ _, b => Nat.le_refl _
 | .pt _, b => Nat.le_refl _
theorem ofShL_le : ∀ (l : List Sh) (b : Nat), b ≤ (ofShL l b).2.2
 | [], b => Nat.le_refl _
 | x :: r, b => by simpa [ofShL] using Nat.le_trans (ofSh_le x b) (ofShL_le r _)
end
theorem Ent.world {K1 : Kx} {id : Nat} {sb : SB} (h : Ent K1 H E w id sb) (hE : E.le E') (hm : ∀ b, Mine K1 H b → Mine K H b) : Ent K H E' w id sb := by
 cases sb with
 | box cells elem => obtain ⟨b, cs, he, h1, h2, h3⟩ := h; exact ⟨b, cs, hE _ _ he, h1, h2.le (fun _ _ e => e) hE, hm _ h3⟩
 | row cells elem st n => obtain ⟨v, xs, he, h1, h2, h3⟩ := h; exact ⟨v, xs, hE _ _ he, h1, h2.le (fun _ _ e => e) hE, fun b hb => hm _ (h3 b hb)⟩
 | own elem st n g => obtain ⟨v, xs, he, h1, h2, h3⟩ := h; exact ⟨v, xs, hE _ _ he, h1, h2, fun b hb => hm _ (h3 b hb)⟩
 | fz st n g => obtain ⟨v, he, h1⟩ := h; exact ⟨v, hE _ _ he, h1⟩
 | map es => obtain ⟨b, ms, clk, he, h1, h2, h3⟩ := h; exact ⟨b, ms, clk, hE _ _ he, h1, h2.le (fun _ _ e => e) hE, hm _ h3⟩
 | fzb l => obtain ⟨v, he, h1⟩ := h; exact ⟨v, hE _ _ he, h1⟩
 | ownx elem st n g more => obtain ⟨v, xs, ys, he, h1, h2, h3, h4, h5, h6⟩ := h; exact ⟨v, xs, ys, hE _ _ he, h1, h2, h3.le (fun _ _ e => e) hE, h4, h5, fun b hb => hm _ (h6 b hb)⟩
 | fm k M fs us tag => obtain ⟨b, ms, clk, fv, uv, he, h1, h2, h3, h4, h5, h6, h7⟩ := h; exact ⟨b, ms, clk, fv, uv, hE _ _ he, h1, h2.le (fun _ _ e => e) hE, h3.le (fun _ _ e => e) hE, h4, h5, h6.le hE, hm _ h7⟩
 | buf e l => obtain ⟨v, he, h1, h3⟩ := h; exact ⟨v, hE _ _ he, h1, fun b hb => hm _ (h3 b hb)⟩
def CallOut (P : Program) (K : Kx) (H : Mem) (E : Env) (w : World) (c : Core) (g : Nat) (vargs : List Value) (φ : SV × Core → Prop) : Prop :=
 Calls P g vargs.toArray w fun e w' => ∃ p v H' E', e = .returned v ∧ φ p ∧ Den H' E' p.1 v ∧ Post K H E w c H' E' w' p.2
theorem spread_ok (hS : SpecsOK P C) {c : Core} {g : Nat} {F : List Sh → Tree Sh} {args : List SV} {vargs : List Value} {φ : SV × Core → Prop} (hF : C.spec g = some F) (hh : HeapOK K H E w c.hp) (hw : WOK K H w) (hf : Free E c)
  (hg : GlobOK C.gls H) (hd : DenL H E args vargs) (h : (spread c F args).All φ) : CallOut P K H E w c g vargs φ := by
 unfold spread at h
 split at h
 ·exact h.elim
 ·rename_i hp hfz
  obtain ⟨H1, hH, hh1, hw1, hz⟩ := freeze_ok hfz hh hw
  split at h
  ·exact h.elim
  ·rename_i shs hsh
   have hrep := toShL_rep hh1 hsh (hd.le hH fun _ _ e => e)
   refine Calls.mono (hS g F hF H1 w shs vargs _ hw1.on (hg.le hH) hrep (Tree.All_bind h)) fun e w' ⟨v, s, H', he, hφ, r⟩ => ?_
   obtain ⟨E1, r1, r2, r3, r4⟩ := r.res c.nx
   cases hb : Nat.ble (ofSh s c.nx).2.2 c.lim <;> simp only [hb, cond_true, cond_false] at hφ
   ·exact hφ.elim
   have hb := Nat.le_of_ble_eq_true hb
   have hge := ofSh_le s c.nx
   have E1none : ∀ i u, E i = some u → E1 i = none := fun i u hu => by
    cases h1 : E1 i with
    | none => rfl
    | some u' =>
     have := r1 i (by rw [h1]; simp)
     have := hf i this.1 (by omega)
     rw [this] at hu; cases hu
   let E2 : Env := fun i => match E1 i with | some u => some u | none => E i
   have hE : E.le E2 := fun i u hu => by simp [E2, E1none i u hu, hu]
   have hE1 : E1.le E2 := fun i u hu => by simp [E2, hu]
   have conv : ∀ i, E i = none → E2 i = E1 i := fun i hi => by simp only [E2, hi]; cases E1 i <;> rfl
   have hold : ∀ {id : Nat} {sb : SB}, Ent K H1 E w id sb → Ent K H' E2 w' id sb := fun {id sb} hent =>
    hent.kept r.Hle hE (fun b hb => r.old b (hent.lt hb).1) fun b hb => by
     cases hx : H' b with
     | none => rfl
     | some o =>
      rcases r.fresh b (by rw [hx]; simp) with h | h
      ·exact (h (hent.lt hb).2.1).elim
      ·have := (hent.lt hb).1; omega
   have hnew : ∀ {id : Nat} {sb : SB}, look? (insAll [] (ofSh s c.nx).2.1) id = some sb → Ent K H' E2 w' id sb ∧ (∀ b, obk E2 id sb = some b → w.heap.size ≤ b ∧ obk E1 id sb = some b) ∧ E id = none := fun {id sb} hl => by
    have hent := r4.ent _ _ hl
    refine ⟨hent.world hE1 fun b hm => ⟨hm.1, ?_⟩, fun b ho => ?_, ?_⟩
    ·rcases hm.2 with h | h
     ·exact .inl (Nat.le_trans hw.size h)
     ·exact h.elim
    ·rw [obk_eq hent hE1] at ho
     exact ⟨r2 id b (obk_bk ho), ho⟩
    ·obtain ⟨u, hu⟩ := hent.some_
     have := r1 id (by rw [hu]; simp)
     exact hf id this.1 (by omega)
   refine ⟨_, v, H', E2, he, hφ, r3.le (fun _ _ e => e) hE1, fun b o h => r.Hle b o (hH b o h), hE, fun i h1 h2 => ?_, hge, .inl hb, rfl, rfl, ⟨fun id sb hl => ?_, fun id id' sb sb' b h1 h2 o1 o2 => ?_⟩,
    ⟨r.os.trans hw.os, r.tape.trans hw.tape, r.output.trans hw.output, Nat.le_trans hw.size r.size, fun b hb hn => ?_, r.on, fun b o h => r.Hle b o (hw1.le b o h), fun b hb => ?_⟩, fun _ h => h, r.size, fun b hb _ => r.old b hb, fun i b h1 h2 => ?_,
    fun _ h => .inl h, fun id sb b hl _ ho => ?_, fun id sb hl hne => ?_⟩
   ·rw [conv i h1] at h2
    exact r1 i h2
   ·have hl : look? (insAll hp (ofSh s c.nx).2.1) id = some sb := hl
    rw [look_insAll] at hl
    split at hl
    ·rename_i x hx
     cases hl
     exact (hnew hx).1
    ·exact hold (hh1.ent _ _ hl)
   ·have h1 : look? (insAll hp (ofSh s c.nx).2.1) id = some sb := h1
    have h2 : look? (insAll hp (ofSh s c.nx).2.1) id' = some sb' := h2
    rw [look_insAll] at h1 h2
    split at h1
    ·rename_i x hx
     cases h1
     split at h2
     ·rename_i y hy
      cases h2
      exact r4.dis _ _ _ _ _ hx hy ((hnew hx).2.1 b o1).2 ((hnew hy).2.1 b o2).2
     ·have a1 := ((hnew hx).2.1 b o1).1
      rw [obk_eq (hh1.ent _ _ h2) hE] at o2
      have := ((hh1.ent _ _ h2).lt o2).1
      omega
    ·rw [obk_eq (hh1.ent _ _ h1) hE] at o1
     have a0 := ((hh1.ent _ _ h1).lt o1).1
     split at h2
     ·rename_i y hy
      cases h2
      have a1 := ((hnew hy).2.1 b o2).1
      omega
     ·rw [obk_eq (hh1.ent _ _ h2) hE] at o2
      exact hh1.dis _ _ _ _ _ h1 h2 o1 o2
   ·rw [r.old b (by have := hw.size; omega)]
    exact hw.kept b hb hn
   ·rcases r.fresh b hb with h | h
    ·exact hw1.fresh b h
    ·exact .inr (.inl (Nat.le_trans hw.size h))
   ·simp only [bk, conv i h1] at h2
    exact .inl (r2 i b h2)
   ·rcases hz.keep id sb b hl ho with h | h
    ·left
     cases hb : H1 b with
     | none => exact (h hb).elim
     | some o => rw [r.Hle b o hb]; simp
    ·refine .inr ⟨sb, ?_, obk_le ho hE⟩
     show look? (insAll hp (ofSh s c.nx).2.1) id = some sb
     rw [look_insAll]
     split
     ·rename_i x hx
      obtain ⟨u, hu⟩ := (hh.ent _ _ hl).some_
      have := (hnew hx).2.2
      rw [hu] at this; cases this
     ·exact h
   ·have hl : look? (insAll hp (ofSh s c.nx).2.1) id = some sb := hl
    rw [look_insAll] at hl
    split at hl
    ·rename_i x hx
     exact (hne (hnew hx).2.2).elim
    ·obtain ⟨sb0, h3, h4⟩ := hz.old id sb hl
     exact ⟨sb0, h3, fun b hb => h4 b (by rw [obk_eq (hh1.ent _ _ hl) hE] at hb; exact hb)⟩
mutual
theorem plain_den {H1 H2 : Mem} {E1 E2 : Env} : ∀ (s : Sh) (b : Nat) (v : Value), plainSh s = true → Den H1 E1 (ofSh s b).1 v → Den H2 E2 (ofSh s b).1 v
 | .i k n, _, _, _, h => h
 | .b x, _, _, _, h => h
 | .str l, _, _, _, h => by cases h; exact .str l
 | .v x, _, _, _, h => by
  cases x <;> exact h
 | .agg l, b, _, hp, ⟨vs, h1, h2⟩ => ⟨vs, h1, plain_denL l b _ (by simpa [plainSh] using hp) h2⟩
 | .tup l, b, _, hp, ⟨vs, h1, h2⟩ => ⟨vs, h1, plain_denL l b _ (by simpa [plainSh] using hp) h2⟩
 | .sl _ _ _, _, _, hp, _ => by simp [plainSh] at hp
 | .os _ _ _ _, _, _, hp, _ => by simp [plainSh] at hp
 | .ifc _ _, _, _, hp, _ => by simp [plainSh] at hp
 | .fn _ _, _, _, hp, _ => by simp [plainSh] at hp
 | .er _ _, _, _, hp, _ => by simp [plainSh] at hp
 | .pt _, _, _, hp, _ => by simp [plainSh] at hp
theorem plain_denL {H1 H2 : Mem} {E1 E2 : Env} : ∀ (l : List Sh) (b : Nat) (vs : List Value), plainShL l = true → DenL H1 E1 (ofShL l b).1 vs → DenL H2 E2 (ofShL l b).1 vs
 | [], _, [], _, _ => trivial
 | [], _, _ :: _, _, h => h.elim
 | _ :: _, _, [], _, h => h.elim
 | x :: r, b, v :: vs, hp, ⟨h1, h2⟩ => by
  simp only [plainShL, Bool.and_eq_true] at hp
  exact ⟨plain_den x b v hp.1 h1, plain_denL r _ vs hp.2 h2⟩
end
theorem lend_ok (hS : SpecsOK P C) {c : Core} {g : Nat} {F : List Sh → Tree Sh} {args : List SV} {vargs : List Value} {φ : SV × Core → Prop} (hF : C.spec g = some F) (hh : HeapOK K H E w c.hp) (hw : WOK K H w)
  (hg : GlobOK C.gls H) (hd : DenL H E args vargs) (h : (spreadL c F args).All φ) : CallOut P K H E w c g vargs φ := by
 unfold spreadL at h
 split at h
 ·exact h.elim
 ·rename_i hp hfz
  obtain ⟨H1, hH, hh1, hw1, hz⟩ := freeze_ok hfz hh hw
  split at h
  ·exact h.elim
  ·rename_i shs hsh
   have hrep := toShL_rep hh1 hsh (hd.le hH fun _ _ e => e)
   refine Calls.mono (hS g F hF H1 w shs vargs _ hw1.on (hg.le hH) hrep (Tree.All_bind h)) fun e w' ⟨v, s, H', he, hφ, r⟩ => ?_
   obtain ⟨E1, r1, r2, r3, r4⟩ := r.res c.nx
   cases hb : plainSh s <;> simp only [hb, cond_true, cond_false] at hφ
   ·exact hφ.elim
   have keep : ∀ id sb, look? c.hp id = some sb → Ent K H E w' id sb := fun id sb hl => by
    have hent := hh.ent id sb hl
    exact hent.kept (fun _ _ e => e) (fun _ _ e => e) (fun b ho => r.old b (hent.lt ho).1) fun b ho => (hent.lt ho).2.1
   refine ⟨_, v, H, E, he, hφ, plain_den s c.nx v hb r3, fun _ _ e => e, fun _ _ e => e, fun i h1 h2 => (h2 h1).elim, Nat.le_refl _, .inr rfl, rfl, rfl, ⟨keep, fun id id' sb sb' b h1 h2 o1 o2 => hh.dis id id' sb sb' b h1 h2 o1 o2⟩,
    ⟨r.os.trans hw.os, r.tape.trans hw.tape, r.output.trans hw.output, Nat.le_trans hw.size r.size, fun b hb hn => ?_, fun b o e => ?_, hw.le, hw.fresh⟩, fun _ h => h, r.size, fun b hb _ => r.old b hb, fun i b h1 h2 => ?_,
    fun _ h => .inl h, fun id sb b hl _ ho => .inr ⟨sb, hl, ho⟩, fun id sb hl _ => ⟨sb, hl, fun b h => h⟩⟩
   ·rw [r.old b (Nat.lt_of_lt_of_le hb hw.size)]
    exact hw.kept b hb hn
   ·rw [r.old b (Array.getElem?_eq_some_iff.1 (hw.on b o e)).1]
    exact hw.on b o e
   ·simp [bk, h1] at h2
end
end Go.Sx
