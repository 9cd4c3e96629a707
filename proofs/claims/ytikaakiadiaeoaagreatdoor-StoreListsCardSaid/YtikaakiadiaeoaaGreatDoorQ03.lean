/-
  Operations that make or write memory, the fifth part: append, cutting a slice, an entry of a map. Own work. Operations that make or write memory, the last part: cutting a slice, an entry of a map. Own work. Steps one behind the other; calls of functions of which a summary is known. Own work. One operation, whatever it is. Own work. A region that draws its order. Own work. The run of a function's code. Own work.
-/
import Derived.Test.YtikaakiadiaeoaaGreatDoorQ02
namespace Go.Sx
section
variable {P : Program} {C : Ctx} {K : Kx} {H H' : Mem} {E E' : Env} {w w' : World}

/-- Where the cells of an appended slice are. -/
def Src (w : World) (u : Value) (m : Nat) (xs : List Value) : Prop :=
  (m = 0 ∧ ∃ A c, u = .slice A 0 c) ∨ (∃ a c, u = .slice (some a) m c ∧ ∀ j v, xs[j]? = some v → w.cell? (a.add j) = some v)
theorem src_row {e st m : Nat} {u : Value} {xs : List Value} (h : w.ownsRow 0 e st u m xs) : Src w u m xs := by
  rcases h.2 with ⟨rfl, rfl⟩ | ⟨g, cap, cur, rfl, _⟩
  · exact .inl ⟨rfl, _, _, rfl⟩
  · exact .inr ⟨_, _, rfl, h.cells (g := g) rfl⟩
theorem src_rep {st n : Nat} {g : Nat → List Sh} {u : Value} (h0 : 0 < st) (h : Rep H (.sl st n g) u) (hon : H.on w) : ∃ xs, RepRows H st n g xs ∧ Src w u n xs := by
  cases h with
  | sl0 _ _ A cap hc => exact ⟨[], ⟨by simp, fun _ h => by omega, fun _ h => by simp at h, fun _ _ _ _ h => by omega⟩, .inl ⟨rfl, _, _, rfl⟩⟩
  | sl _ _ _ b off cap c h1 h2 h3 h4 h5 h6 =>
    have hk : ∀ k, k < n * st → k / st < n ∧ k % st < st ∧ k / st * st + k % st = k := fun k hk => ⟨(Nat.div_lt_iff_lt_mul h0).2 hk, Nat.mod_lt _ h0, by rw [Nat.mul_comm]; exact Nat.div_add_mod _ _⟩
    have hget : ∀ (k : Nat) (v : Value), ((List.range (n * st)).map fun k => c (k / st) (k % st))[k]? = some v → k < n * st ∧ v = c (k / st) (k % st) := fun k v e => by
      have e := range_map_get e
      exact ⟨e.1, e.2.symm⟩
    refine ⟨(List.range (n * st)).map fun k => c (k / st) (k % st), ⟨by simp, h3, fun u hu => ?_, fun i j s v hi e1 e2 => ?_⟩, .inr ⟨_, _, rfl, fun j v e => ?_⟩⟩
    · obtain ⟨k, hk'⟩ := List.mem_iff_getElem?.1 hu
      obtain ⟨a1, rfl⟩ := hget _ _ hk'
      exact h5 _ _ (hk k a1).1 (hk k a1).2.1
    · obtain ⟨_, rfl⟩ := hget _ _ e2
      have hj : j < st := by rw [← h3 i hi]; exact (List.getElem?_eq_some_iff.1 e1).1
      have d1 : (i * st + j) / st = i := by rw [Nat.mul_comm, Nat.mul_add_div h0, Nat.div_eq_of_lt hj, Nat.add_zero]
      have d2 : (i * st + j) % st = j := by rw [Nat.mul_comm, Nat.mul_add_mod, Nat.mod_eq_of_lt hj]
      rw [d1, d2]
      exact h6 i j s hi e1
    · obtain ⟨a1, rfl⟩ := hget _ _ e
      obtain ⟨b1, b2, b3⟩ := hk j a1
      have := hcell_on hon (h4 _ _ b1 b2)
      rw [Nat.add_assoc, b3] at this
      simpa [Addr.add_lit] using this
theorem rows_nil (st : Nat) (g : Nat → List Sh) : RepRows H st 0 g [] := ⟨by simp, fun _ h => by omega, fun _ h => by simp at h, fun _ _ _ _ h => by omega⟩
/-- The first elements of an own slice. -/
theorem rows_take {st m n : Nat} {g : Nat → List Sh} {xs : List Value} (h : RepRows H st m g xs) (hn : n ≤ m) : RepRows H st n g (xs.take (n * st)) := by
  obtain ⟨h1, h2, h3, h4⟩ := h
  have hle : n * st ≤ m * st := Nat.mul_le_mul_right _ hn
  refine ⟨by rw [List.length_take, h1]; omega, fun i hi => h2 i (by omega), fun u hu => h3 u (List.mem_of_mem_take hu), fun i j s v hi e1 e2 => ?_⟩
  rw [List.getElem?_take] at e2
  split at e2
  · exact h4 i j s v (by omega) e1 e2
  · cases e2
theorem src_view {e st m n : Nat} {A : Option Addr} {k c : Nat} {xs : List Value} (h : w.ownsRow 0 e st (.slice A k c) m xs) (hn : n ≤ k) : Src w (.slice A n c) n (xs.take (n * st)) := by
  rcases src_row h with ⟨rfl, A', c', e⟩ | ⟨a, c', e, hc⟩
  · cases e
    have : n = 0 := by omega
    subst this
    exact .inl ⟨rfl, _, _, rfl⟩
  · cases e
    refine .inr ⟨_, _, rfl, fun j v hj => hc j v ?_⟩
    rw [List.getElem?_take] at hj
    split at hj
    · exact hj
    · cases hj
theorem src_els {hp : List (Nat × SB)} {st m : Nat} {h : Nat → List Sh} {x : SV} {u : Value} (h0 : 0 < st) (hh : HeapOK K H E w hp) (hon : H.on w) (he : elsOf hp st x = some (m, h)) (hd : Den H E x u) :
    ∃ xs, RepRows H st m h xs ∧ Src w u m xs := by
  unfold elsOf at he
  split at he
  · cases he
    simp only [Den] at hd; subst hd
    exact ⟨[], rows_nil _ _, .inl ⟨rfl, _, _, rfl⟩⟩
  · rename_i id
    split at he
    · rename_i cells el st' n hl
      cases hb : (st == st' && oneL cells) <;> simp only [hb, cond_true, cond_false] at he
      · cases he
      simp only [Bool.and_eq_true, beq_iff_eq] at hb
      obtain ⟨rfl, hone⟩ := hb
      simp only [Option.map_eq_some_iff] at he
      obtain ⟨l, h1, h2⟩ := he
      simp only [Prod.mk.injEq] at h2
      obtain ⟨rfl, rfl⟩ := h2
      obtain ⟨v, xs, e1, e2, e3, _⟩ := hh.ent _ _ hl
      rw [hd.1] at e1; cases e1
      exact ⟨xs, rows_chunks e2.1 (toShL_rep hh h1 e3) (one_cells hone e3), src_row e2⟩
    · rename_i el st' n g hl
      cases hb : (st == st') <;> simp only [hb, cond_true, cond_false] at he
      · cases he
      obtain rfl : st = st' := by simpa using hb
      cases he
      obtain ⟨v, xs, e1, e2, e3, _⟩ := hh.ent _ _ hl
      rw [hd.1] at e1; cases e1
      exact ⟨xs, e3, src_row e2⟩
    · rename_i st' n g hl
      cases hb : (st == st') <;> simp only [hb, cond_true, cond_false] at he
      · cases he
      obtain rfl : st = st' := by simpa using hb
      cases he
      obtain ⟨v, e1, e2⟩ := hh.ent _ _ hl
      rw [hd.1] at e1; cases e1
      exact src_rep h0 e2 hon
    · cases he
  · rename_i st' n g
    cases hb : (st == st') <;> simp only [hb, cond_true, cond_false] at he
    · cases hb2 : (st' == 0 && n == 0) <;> simp only [hb2, cond_true, cond_false] at he
      · cases he
      simp only [Bool.and_eq_true, beq_iff_eq] at hb2
      obtain ⟨rfl, rfl⟩ := hb2
      cases he
      cases hd with
      | sl0 _ _ A cap hc => exact ⟨[], rows_nil _ _, .inl ⟨rfl, _, _, rfl⟩⟩
      | sl _ _ _ b off cap c h1 h2 h3 h4 h5 h6 => exact ⟨[], rows_nil _ _, .inl ⟨rfl, _, _, rfl⟩⟩
    · obtain rfl : st = st' := by simpa using hb
      cases he
      exact src_rep h0 hd hon
  · rename_i id n
    split at he
    · rename_i el st' m' g hl
      cases hb : (st == st') <;> simp only [hb, cond_true, cond_false] at he
      · cases he
      obtain rfl : st = st' := by simpa using hb
      cases he
      obtain ⟨v, xs, e1, e2, e3, _⟩ := hh.ent _ _ hl
      obtain ⟨A, k, c, a1, a2, rfl⟩ := hd
      rw [a1] at e1; cases e1
      have hk : k = m' := by
        have := lenV_row e2
        simpa [lenV] using this
      exact ⟨_, rows_take e3 (by omega), src_view e2 a2⟩
    · cases he
  · cases he
theorem rows_snoc {st n m : Nat} {g h : Nat → List Sh} {xs ys : List Value} (h1 : RepRows H st n g xs) (h2 : RepRows H st m h ys) : RepRows H st (n + m) (prim.snoc g n h) (xs ++ ys) := by
  obtain ⟨a1, a2, a3, a4⟩ := h1
  obtain ⟨b1, b2, b3, b4⟩ := h2
  have hs : ∀ i, prim.snoc g n h i = if i < n then g i else h (i - n) := fun _ => rfl
  refine ⟨by rw [List.length_append, a1, b1, Nat.add_mul], fun i hi => ?_, fun u hu => ?_, fun i j s v hi e1 e2 => ?_⟩
  · rw [hs]
    split
    · exact a2 i (by assumption)
    · exact b2 _ (by omega)
  · rcases List.mem_append.1 hu with hu | hu
    · exact a3 u hu
    · exact b3 u hu
  · rw [hs] at e1
    split at e1
    · rename_i hin
      have hj : j < st := by rw [← a2 i hin]; exact (List.getElem?_eq_some_iff.1 e1).1
      have : i * st + j < xs.length := by
        rw [a1]
        calc i * st + j < i * st + st := by omega
          _ = (i + 1) * st := by rw [Nat.add_mul, Nat.one_mul]
          _ ≤ n * st := Nat.mul_le_mul_right _ hin
      rw [List.getElem?_append_left this] at e2
      exact a4 i j s v hin e1 e2
    · rename_i hin
      have hge : n * st ≤ i * st := Nat.mul_le_mul_right _ (by omega)
      rw [List.getElem?_append_right (by rw [a1]; omega)] at e2
      have : i * st + j - xs.length = (i - n) * st + j := by rw [a1, Nat.sub_mul]; omega
      rw [this] at e2
      exact b4 (i - n) j s v (by omega) e1 e2

/-- A row of one's own has grown. -/
theorem append_post {c : Core} {s : SV} {v v' : Value} {sb : SB} {φ : SV × Core → Prop} (hh : HeapOK K H E w c.hp) (hw : WOK K H w) (hf : Free E c)
    (h : (alloc (dropOwn c s) sb (.gs c.nx)).All φ) (hs : (ownId s = none ∧ blkV v = none) ∨ ∃ id sb0, ownId s = some id ∧ look? c.hp id = some sb0 ∧ E id = some v ∧ obk E id sb0 = blkV v)
    (hm : ∀ b, blkV v = some b → Mine K H b) (hg : w.grownBy w' (blkV v)) (hv' : ∀ b, blkV v' = some b → blkV v = some b ∨ w.heap.size ≤ b)
    (he : c.nx < c.lim → Ent K H (E.set c.nx v') w' c.nx sb) : ∃ c', φ (.gs c.nx, c') ∧ Post K H E w c H (E.set c.nx v') w' c' := by
  have hnx : (dropOwn c s).nx = c.nx := by unfold dropOwn; split <;> rfl
  have hlim : (dropOwn c s).lim = c.lim := by unfold dropOwn; split <;> rfl
  have htm : (dropOwn c s).tm = c.tm := by unfold dropOwn; split <;> rfl
  have htc : ∀ id ∈ c.tc, id ∈ (dropOwn c s).tc := by
    unfold dropOwn
    split
    · exact fun _ h => List.mem_cons_of_mem _ h
    · exact fun _ h => h
  have hlt := alloc_lt h
  rw [hnx, hlim] at hlt
  have he := he hlt
  have hnone := hf c.nx (Nat.le_refl _) hlt
  have hle : E.le (E.set c.nx v') := Env.le_set hnone
  have hb : Nat.blt (dropOwn c s).nx (dropOwn c s).lim = true := by
    rw [hnx, hlim]; unfold Nat.blt; exact Nat.ble_eq_true_of_le hlt
  unfold alloc at h
  rw [hb] at h
  simp only [cond_true] at h
  have hvb : ∀ b, blkV v = some b → b < w.heap.size ∧ ∃ id sb0, ownId s = some id ∧ look? c.hp id = some sb0 ∧ E id = some v ∧ obk E id sb0 = some b ∧ id ∈ (dropOwn c s).tc := fun b hb => by
    rcases hs with ⟨_, h2⟩ | ⟨id, sb0, h1, h2, h3, h4⟩
    · rw [hb] at h2; cases h2
    · exact ⟨((hh.ent _ _ h2).lt (h4.trans hb)).1, id, sb0, h1, h2, h3, h4.trans hb, by simp [dropOwn, h1]⟩
  -- an entry that is still there was there before, and is another one's
  have hold : ∀ id2 sb2, look? (dropOwn c s).hp id2 = some sb2 → look? c.hp id2 = some sb2 ∧ ∀ b, obk E id2 sb2 = some b → blkV v ≠ some b := by
    intro id2 sb2 hl
    have key : look? c.hp id2 = some sb2 ∧ ownId s ≠ some id2 := by
      unfold dropOwn at hl
      split at hl
      · rename_i id hid
        simp only [look_hdel] at hl
        cases e : (id == id2) <;> simp only [e, cond_true, cond_false] at hl
        · refine ⟨hl, fun e2 => ?_⟩
          rw [hid] at e2; cases e2
          simp at e
        · cases hl
      · rename_i hid
        exact ⟨hl, fun e2 => by rw [hid] at e2; cases e2⟩
    refine ⟨key.1, fun b ho e => ?_⟩
    obtain ⟨_, id, sb0, h1, h2, h3, h4, _⟩ := hvb b e
    have := hh.dis _ _ _ _ _ h2 key.1 h4 ho
    subst this
    exact key.2 h1
  have hkeep : ∀ b, b < w.heap.size → blkV v ≠ some b → w'.heap[b]? = w.heap[b]? := fun b hb hn => hg.block b hb fun e => hn e.symm
  refine ⟨_, h, fun _ _ e => e, hle, ?_, by simp [hnx], .inl (by simp [hnx]; omega), hlim, htm, ?_, ?_, htc, hg.size, ?_, ?_, ?_, ?_, ?_⟩
  · intro i h1 h2
    by_cases e : i = c.nx
    · subst e; simp [hnx]
    · simp [Env.set, e, h1] at h2
  · have hent : ∀ id sb', look? (dropOwn c s).hp id = some sb' → Ent K H (E.set c.nx v') w' id sb' ∧ Ent K H E w id sb' ∧ ∀ b, obk E id sb' = some b → blkV v ≠ some b := fun id sb' hl => by
      obtain ⟨h1, h2⟩ := hold id sb' hl
      have := hh.ent _ _ h1
      exact ⟨this.kept (fun _ _ e => e) hle (fun b hb => hkeep b (this.lt hb).1 (h2 b hb)) (fun b hb => (this.lt hb).2.1), this, h2⟩
    have hnew : ∀ b, obk (E.set c.nx v') c.nx sb = some b → blkV v' = some b := fun b hb => by
      have := obk_bk hb
      simpa [bk, Env.set] using this
    refine ⟨fun id sb' hl => ?_, fun id id' sb1 sb2 b h1 h2 o1 o2 => ?_⟩
    · simp only [look_hins, hnx] at hl
      cases hid : (c.nx == id) <;> simp only [hid, cond_true, cond_false] at hl
      · exact (hent id sb' hl).1
      · cases hl
        obtain rfl : c.nx = id := by simpa using hid
        exact he
    · simp only [look_hins, hnx] at h1 h2
      have cross : ∀ {i : Nat} {s1 : SB}, look? (dropOwn c s).hp i = some s1 → obk (E.set c.nx v') i s1 = some b → blkV v' = some b → False := fun {i s1} h1 o1 hvb' => by
        obtain ⟨_, a2, a3⟩ := hent _ _ h1
        rw [obk_eq a2 hle] at o1
        rcases hv' b hvb' with h | h
        · exact a3 b o1 h
        · have := (a2.lt o1).1; omega
      cases hid : (c.nx == id) <;> cases hid' : (c.nx == id') <;> simp only [hid, hid', cond_true, cond_false] at h1 h2
      · obtain ⟨_, a2, _⟩ := hent _ _ h1
        obtain ⟨_, b2, _⟩ := hent _ _ h2
        rw [obk_eq a2 hle] at o1
        rw [obk_eq b2 hle] at o2
        exact hh.dis _ _ _ _ _ (hold _ _ h1).1 (hold _ _ h2).1 o1 o2
      · obtain rfl : c.nx = id' := by simpa using hid'
        cases h2
        exact (cross h1 o1 (hnew b o2)).elim
      · obtain rfl : c.nx = id := by simpa using hid
        cases h1
        exact (cross h2 o2 (hnew b o1)).elim
      · have e1 : c.nx = id := by simpa using hid
        have e2 : c.nx = id' := by simpa using hid'
        rw [← e1, ← e2]
  · refine ⟨hg.os.trans hw.os, hg.tape.trans hw.tape, hg.output.trans hw.output, Nat.le_trans hw.size hg.size, fun b hb hn => ?_, fun b o hb => ?_, hw.le, hw.fresh⟩
    · rw [hkeep b (by have := hw.size; omega) fun e => ?_]
      · exact hw.kept b hb hn
      · rcases (hm b e).2 with h | h
        · omega
        · exact hn h
    · have h1 := hw.on b o hb
      rw [hkeep b (Array.getElem?_eq_some_iff.1 h1).1 fun e => ?_]
      · exact h1
      · have := (hm b e).1
        rw [hb] at this; cases this
  · intro b hb hne
    refine hkeep b hb fun e => ?_
    obtain ⟨_, id, sb0, h1, h2, h3, h4, h5⟩ := hvb b e
    exact hne id h5 (obk_bk h4)
  · intro i b h1 h2
    by_cases e : i = c.nx
    · subst e
      simp [bk, Env.set] at h2
      rcases hv' b h2 with h | h
      · obtain ⟨_, id, sb0, h1, h2, h3, h4, h5⟩ := hvb b h
        exact .inr ⟨id, h5, obk_bk h4⟩
      · exact .inl h
    · simp [bk, Env.set, e, h1] at h2
  · intro i hi
    have hi : i ∈ (dropOwn c s).tc := hi
    unfold dropOwn at hi
    split at hi
    · rename_i id hid
      cases hi with
      | head =>
        rcases hs with ⟨h1, _⟩ | ⟨id', sb0, h1, h2, h3, h4⟩
        · rw [hid] at h1; cases h1
        · rw [hid] at h1; cases h1
          exact .inr (.inr ⟨sb0, h2, by rw [h4]; simp [bk, h3]⟩)
      | tail _ hi => exact .inl hi
    · exact .inl hi
  · intro i s0 b0 h1 h2 h3
    refine .inr ⟨s0, ?_, obk_le h3 hle⟩
    have h2 : i ∉ (dropOwn c s).tc := h2
    have hd : look? (dropOwn c s).hp i = some s0 := by
      unfold dropOwn at h2 ⊢
      split at h2
      · rename_i id hid
        simp only [hid, look_hdel]
        cases e : (id == i) <;> simp only [cond_true, cond_false]
        · exact h1
        · obtain rfl : id = i := by simpa using e
          exact (h2 (List.mem_cons_self ..)).elim
      · exact h1
    simp only [look_hins, hnx]
    cases hid : (c.nx == i) <;> simp only [cond_true, cond_false]
    · exact hd
    · obtain rfl : c.nx = i := by simpa using hid
      obtain ⟨u, hu⟩ := (hh.ent _ _ h1).some_
      rw [hnone] at hu; cases hu
  · intro i s0 h1 hne
    simp only [look_hins, hnx] at h1
    cases hid : (c.nx == i) <;> simp only [hid, cond_true, cond_false] at h1
    · have := (hold _ _ h1).1
      exact ⟨s0, this, fun b h => by rw [obk_eq (hh.ent _ _ this) hle] at h; exact h⟩
    · obtain rfl : c.nx = i := by simpa using hid
      exact (hne hnone).elim
theorem owns_nil (w : World) (e st : Nat) : w.ownsRow 0 e st (.slice none 0 0) 0 [] := ⟨by simp, .inl ⟨rfl, rfl⟩⟩
/-- What is appended to is one's own. -/
theorem own_spec {c : Core} {e st : Nat} {s : SV} {v : Value} (hh : HeapOK K H E w c.hp) (h : isOwn c.hp e s = true) (hd : Den H E s v) :
    ((ownId s = none ∧ blkV v = none) ∨ ∃ id sb0, ownId s = some id ∧ look? c.hp id = some sb0 ∧ E id = some v ∧ obk E id sb0 = blkV v) ∧ (∀ b, blkV v = some b → Mine K H b) ∧
    (∀ a n, rowOf c.hp st s = some (a, n) → ∃ xs, w.ownsRow 0 e st v n xs ∧ DenL H E a xs) ∧
    (∀ n g, elsOf c.hp st s = some (n, g) → ∃ xs, w.ownsRow 0 e st v n xs ∧ RepRows H st n g xs) ∧
    (∀ n g more, xOf c.hp e st s = some (n, g, more) → ∃ xs ys, w.ownsRow 0 e st v (n + more.length / st) (xs ++ ys) ∧ RepRows H st n g xs ∧ DenL H E more ys ∧ more.length % st = 0 ∧ oneL more = true) := by
  unfold isOwn at h
  split at h
  · simp only [Den] at hd; subst hd
    refine ⟨.inl ⟨rfl, rfl⟩, fun b hb => by simp [blkV] at hb, fun a n hr => ?_, fun n g hr => ?_, fun n g more hr => by simp [xOf] at hr⟩
    · simp [rowOf] at hr
      obtain ⟨rfl, rfl⟩ := hr
      exact ⟨[], owns_nil _ _ _, trivial⟩
    · simp [elsOf] at hr
      obtain ⟨rfl, rfl⟩ := hr
      exact ⟨[], owns_nil _ _ _, rows_nil _ _⟩
  · rename_i id
    split at h
    · rename_i cells e' st' n hl
      obtain rfl : e = e' := by simpa using h
      obtain ⟨v2, xs, e1, e2, e3, e4⟩ := hh.ent _ _ hl
      rw [hd.1] at e1; cases e1
      refine ⟨.inr ⟨id, _, rfl, hl, hd.1, by simp [obk, hd.1]⟩, e4, fun a n2 hr => ?_, fun n2 g hr => ?_, fun n2 g more hr => by simp [xOf, hl] at hr⟩
      · simp only [rowOf, hl] at hr
        cases hb : (st == st') <;> simp only [hb, cond_true, cond_false] at hr
        · cases hr
        obtain rfl : st = st' := by simpa using hb
        cases hr
        exact ⟨xs, e2, e3⟩
      · simp only [elsOf, hl] at hr
        cases hb : (st == st' && oneL cells) <;> simp only [hb, cond_true, cond_false] at hr
        · cases hr
        simp only [Bool.and_eq_true, beq_iff_eq] at hb
        obtain ⟨rfl, hone⟩ := hb
        simp only [Option.map_eq_some_iff] at hr
        obtain ⟨l, h1, h2⟩ := hr
        simp only [Prod.mk.injEq] at h2
        obtain ⟨rfl, rfl⟩ := h2
        exact ⟨xs, e2, rows_chunks e2.1 (toShL_rep hh h1 e3) (one_cells hone e3)⟩
    · rename_i e' st' n g hl
      obtain rfl : e = e' := by simpa using h
      obtain ⟨v2, xs, e1, e2, e3, e4⟩ := hh.ent _ _ hl
      rw [hd.1] at e1; cases e1
      refine ⟨.inr ⟨id, _, rfl, hl, hd.1, by simp [obk, hd.1]⟩, e4, fun a n2 hr => ?_, fun n2 g2 hr => ?_, fun n2 g2 more hr => ?_⟩
      · simp [rowOf, hl] at hr
      · simp only [elsOf, hl] at hr
        cases hb : (st == st') <;> simp only [hb, cond_true, cond_false] at hr
        · cases hr
        obtain rfl : st = st' := by simpa using hb
        cases hr
        exact ⟨xs, e2, e3⟩
      · simp only [xOf, hl] at hr
        cases hb : (e == e && st == st') <;> simp only [hb, cond_true, cond_false] at hr
        · cases hr
        simp only [Bool.and_eq_true, beq_iff_eq] at hb
        obtain ⟨_, rfl⟩ := hb
        cases hr
        exact ⟨xs, [], by simpa using e2, e3, trivial, by simp, rfl⟩
    · rename_i e' st' n g more hl
      obtain rfl : e = e' := by simpa using h
      obtain ⟨v2, xs, ys, e1, e2, e3, e4, e5, e6, e7⟩ := hh.ent _ _ hl
      rw [hd.1] at e1; cases e1
      refine ⟨.inr ⟨id, _, rfl, hl, hd.1, by simp [obk, hd.1]⟩, e7, fun a n2 hr => by simp [rowOf, hl] at hr, fun n2 g2 hr => by simp [elsOf, hl] at hr, fun n2 g2 more2 hr => ?_⟩
      simp only [xOf, hl] at hr
      cases hb : (e == e && st == st') <;> simp only [hb, cond_true, cond_false] at hr
      · cases hr
      simp only [Bool.and_eq_true, beq_iff_eq] at hb
      obtain ⟨_, rfl⟩ := hb
      cases hr
      exact ⟨xs, ys, e2, e3, e4, e5, e6⟩
    · cases h
  · cases h
theorem src_rowOf {hp : List (Nat × SB)} {st m : Nat} {b : List SV} {x : SV} {u : Value} (hh : HeapOK K H E w hp) (he : rowOf hp st x = some (b, m)) (hd : Den H E x u) :
    ∃ xs, xs.length = m * st ∧ DenL H E b xs ∧ Src w u m xs := by
  unfold rowOf at he
  split at he
  · cases he
    simp only [Den] at hd; subst hd
    exact ⟨[], by simp, trivial, .inl ⟨rfl, _, _, rfl⟩⟩
  · rename_i id
    split at he
    · rename_i cells el st' n hl
      cases hb : (st == st') <;> simp only [hb, cond_true, cond_false] at he
      · cases he
      obtain rfl : st = st' := by simpa using hb
      cases he
      obtain ⟨v, xs, e1, e2, e3, _⟩ := hh.ent _ _ hl
      rw [hd.1] at e1; cases e1
      exact ⟨xs, e2.1, e3, src_row e2⟩
    · cases he
  · cases he
theorem one_app : ∀ {l m : List SV}, oneL l = true → oneL m = true → oneL (l ++ m) = true
  | [], _, _, h => h
  | x :: l, m, h1, h2 => by
    simp only [oneL, Bool.and_eq_true, List.cons_append] at h1 ⊢
    exact ⟨h1.1, one_app h1.2 h2⟩
theorem owns_slice {e st n : Nat} {v : Value} {xs : List Value} (h : w.ownsRow 0 e st v n xs) : ∃ A n c, v = .slice A n c := by
  rcases h.2 with ⟨rfl, _⟩ | ⟨g, cap, cur, rfl, _⟩
  · exact ⟨_, _, _, rfl⟩
  · exact ⟨_, _, _, rfl⟩
theorem room_small (n m b : Nat) (h1 : Nat.ble ((n + m) * b) 140737488355328 = true) (h2 : Nat.ble (n + m) 1073741824 = true) : n + m ≤ maxLen ∧ (n + m) * b ≤ 140737488355328 := by
  have h1 := Nat.le_of_ble_eq_true h1
  have h2 := Nat.le_of_ble_eq_true h2
  have : maxLen = 9223372036854775807 := rfl
  exact ⟨by omega, h1⟩
theorem w_append {c : Core} {a : Act} {o : Oper} {t : Nat} {x y : Operand} {φ : SV × Core → Prop} (hC : CtxOK P C) (hd : DenL H E c.tm a.tmps.toList) (hh : HeapOK K H E w c.hp) (hw : WOK K H w) (hf : Free E c)
    (ho : o.op = .call { callee := .builtin .append, args := #[x, y], argTypes := #[t, t] }) (h : (execAppend C c t (evL c.tm x) (evL c.tm y)).All φ) : WOut P K H E w c a o φ := by
  have dx := den_ev (H := H) (E := E) hd x
  have dy := den_ev (H := H) (E := E) hd y
  unfold execAppend at h
  split at h
  · rename_i i hi
    split at h
    · rename_i e hty
      have hu := desc_slice (hC.ty _ _ hi) hty
      split at h
      · rename_i te hte
        obtain ⟨inf, z, h1, h2, h3, h4, h5, h6, _⟩ := (hC.ty _ _ hte).info
        cases hb : (isOwn c.hp e (evL c.tm x) && !sameId (evL c.tm x) (evL c.tm y) && Nat.blt 0 te.size) <;> simp only [hb, cond_true, cond_false] at h
        · exact h.elim
        simp only [Bool.and_eq_true] at hb
        have h0 := blt_spec hb.2
        obtain ⟨o1, o2, o3, o4, o5⟩ := own_spec (st := te.size) hh hb.1.1 dx
        have fin : ∀ (n m : Nat) (xs news : List Value) (sb : SB), (alloc (dropOwn c (evL c.tm x)) sb (.gs c.nx)).All φ → w.ownsRow 0 e te.size (a.eval x) n xs → Src w (a.eval y) m news → news.length = m * te.size → (∀ u ∈ news, u.oneCell' = true) →
            n + m ≤ maxLen → (n + m) * te.bytes ≤ 140737488355328 →
            (∀ (v' : Value) (w' : World), w'.ownsRow 0 e te.size v' (n + m) (xs ++ news) → (∀ b, blkV v' = some b → Mine K H b) → c.nx < c.lim → Ent K H (E.set c.nx v') w' c.nx sb) → WOut P K H E w c a o φ := by
          intro n m xs news sb h hown hsrc hl hone hmax hbytes hent
          obtain ⟨v', w', hr, ho', hg, hv'⟩ := append_any (P := P) t o.type e inf z te.size te.bytes hu h1 h4 h2 h3 h6 h0 (a.eval x) n xs hown (a.eval y) m news hsrc hl hone hmax hbytes
          have hmine : ∀ b, blkV v' = some b → Mine K H b := fun b hb => by
            rcases hv' b hb with h | h
            · exact o2 b h
            · refine ⟨?_, .inl (by have := hw.size; omega)⟩
              cases hH : H b with
              | none => rfl
              | some o => have := (Array.getElem?_eq_some_iff.1 (hw.on b o hH)).1; omega
          obtain ⟨c', hφ, hp⟩ := append_post hh hw hf h o1 o2 hg hv' (hent v' w' ho' hmine)
          obtain ⟨A, n', cc, e3⟩ := owns_slice ho'
          refine ⟨_, v', _, H, _, w', hφ, ⟨Env.set_self _ _ _, A, n', cc, e3⟩, hp, .inl rfl, ?_⟩
          simp only [execOp, ho, resolve]
          simp [invoke, builtin, hr]
        split at h
        · rename_i aa n bb m hr1 hr2
          cases hb2 : (oneL bb && Nat.ble ((n + m) * te.bytes) 140737488355328 && Nat.ble (n + m) 1073741824) <;> simp only [hb2, cond_true, cond_false] at h
          · exact h.elim
          simp only [Bool.and_eq_true] at hb2
          obtain ⟨xs, p1, p2⟩ := o3 _ _ hr1
          obtain ⟨ys, q1, q2, q3⟩ := src_rowOf hh hr2 dy
          obtain ⟨r1, r2⟩ := room_small n m te.bytes hb2.1.2 hb2.2
          exact fin n m xs ys _ h p1 q3 q1 (one_cells hb2.1.1 q2) r1 r2 fun v' w' s1 s2 s3 =>
            ⟨v', _, Env.set_self _ _ _, s1, (p2.append q2).le (fun _ _ e => e) (Env.le_set (hf _ (Nat.le_refl _) s3)), s2⟩
        · split at h
          · rename_i n g m k hr1 hr2
            rw [hC.A] at h
            obtain ⟨hroom, h⟩ := h
            obtain ⟨r2, r1⟩ := room_spec hroom
            have ea : prim.addN n m = n + m := rfl
            rw [ea] at r1 r2 h
            obtain ⟨xs, p1, p2⟩ := o4 _ _ hr1
            obtain ⟨ys, q1, q2⟩ := src_els h0 hh hw.on hr2 dy
            exact fin n m xs ys _ h p1 q2 q1.1 q1.2.2.1 r1 r2 fun v' w' s1 s2 s3 =>
              ⟨v', _, Env.set_self _ _ _, s1, rows_snoc p2 q1, s2⟩
          · split at h
            · rename_i n g more bb m hr1 hr2
              cases hone : oneL bb <;> simp only [hone, cond_true, cond_false] at h
              · exact h.elim
              rw [hC.A] at h
              obtain ⟨hroom, h⟩ := h
              obtain ⟨r2, r1⟩ := room_spec hroom
              obtain ⟨xs, zs, p1, p2, p3, p4, p5⟩ := o5 _ _ _ hr1
              obtain ⟨ys, q1, q2, q3⟩ := src_rowOf hh hr2 dy
              have hbl : bb.length = m * te.size := by rw [← q2.length, q1]
              have hdiv : (more ++ bb).length / te.size = more.length / te.size + m := by
                rw [List.length_append, hbl, Nat.add_mul_div_right _ _ h0]
              have hmod : (more ++ bb).length % te.size = 0 := by
                rw [List.length_append, hbl, Nat.add_mul_mod_self_right, p4]
              have ea : prim.addN n (Nat.div (more ++ bb).length te.size) = n + more.length / te.size + m := by
                show n + (more ++ bb).length / te.size = _
                rw [hdiv]; omega
              rw [ea] at r1 r2
              have hon : oneL (more ++ bb) = true := one_app p5 hone
              exact fin (n + more.length / te.size) m (xs ++ zs) ys _ h p1 q3 q1 (one_cells hone q2) r1 r2 fun v' w' s1 s2 s3 =>
                ⟨v', xs, zs ++ ys, Env.set_self _ _ _, by rw [hdiv, ← List.append_assoc, ← Nat.add_assoc]; exact s1, p2, (p3.append q2).le (fun _ _ e => e) (Env.le_set (hf _ (Nat.le_refl _) s3)), hmod, hon, s2⟩
            · exact h.elim
      · exact h.elim
    · exact h.elim
  · exact h.elim
end
end Go.Sx
namespace Go.Sx
section
variable {P : Program} {C : Ctx} {K : Kx} {H H' : Mem} {E E' : Env} {w w' : World}

theorem rep_slice {st n : Nat} {g : Nat → List Sh} {u : Value} (h : Rep H (.sl st n g) u) : ∃ A cap, u = .slice A n cap ∧ n ≤ cap ∧ cap ≤ maxLen := by
  cases h with
  | sl0 _ _ A cap hc => exact ⟨_, _, rfl, Nat.zero_le _, hc⟩
  | sl _ _ _ b off cap c h1 h2 => exact ⟨_, _, rfl, h1, h2⟩
theorem rep_sub {st n l h cap : Nat} {g g' : Nat → List Sh} {A : Option Addr} (hr : Rep H (.sl st n g) (.slice A n cap)) (hl : l ≤ h) (hh : h ≤ n) (hg : ∀ j, j < h - l → g' j = g (l + j)) :
    Rep H (.sl st (h - l) g') (sliced A l h cap st) := by
  by_cases e : h - l = 0
  · unfold sliced
    rw [e]
    refine .sl0 _ _ _ _ ?_
    obtain ⟨A', cap', e1, _, e2⟩ := rep_slice hr
    cases e1
    omega
  · generalize hn : n = m at hr
    cases hr with
    | sl0 _ _ _ _ hc => omega
    | sl _ _ _ b off _ c h1 h2 h3 h4 h5 h6 =>
      subst hn
      unfold sliced
      rw [if_neg (by omega)]
      simp only [Option.map_some, Addr.add_lit]
      refine .sl _ _ _ b (off + l * st) _ (fun i j => c (l + i) j) (by omega) (by omega) (fun i hi => by rw [hg i hi]; exact h3 _ (by omega)) (fun i j hi hj => ?_) (fun i j hi hj => h5 _ _ (by omega) hj) fun i j s hi e => ?_
      · have := h4 (l + i) j (by omega) hj
        rw [Nat.add_mul] at this
        rw [← this]; congr 1; omega
      · rw [hg i hi] at e
        exact h6 _ _ _ (by omega) e
theorem upTo_spec {i : Int} {n : Nat} (h : prim.upTo i n = true) : 0 ≤ i ∧ i ≤ n := by simpa [prim] using h
theorem same_post {c : Core} {hp : List (Nat × SB)} (hH : H.le H') (hh : HeapOK K H' E w hp) (hw : WOK K H' w) (hz : Frz H' E c.hp hp) : Post K H E w c H' E w { c with hp } :=
  ⟨hH, fun _ _ e => e, fun _ h1 h2 => (h2 h1).elim, Nat.le_refl _, .inr rfl, rfl, rfl, hh, hw, fun _ h => h, Nat.le_refl _, fun _ _ _ => rfl, fun i b h1 h2 => by simp [bk, h1] at h2, fun _ h => .inl h,
    fun id sb b h1 _ h3 => (hz.keep id sb b h1 h3).imp (fun h => h) fun h => ⟨sb, h, h3⟩, fun id sb h _ => hz.old id sb h⟩
theorem w_slice {c : Core} {a : Act} {o : Oper} {t : Nat} {x : Operand} {lo hi : Option Operand} {φ : SV × Core → Prop} (hC : CtxOK P C) (hd : DenL H E c.tm a.tmps.toList) (hh : HeapOK K H E w c.hp) (hw : WOK K H w)
    (ho : o.op = .slice t x lo hi none) (h : (execSlice C c t (evL c.tm x) (lo.map (evL c.tm)) (hi.map (evL c.tm))).All φ) : WOut P K H E w c a o φ := by
  have dx := den_ev (H := H) (E := E) hd x
  unfold execSlice at h
  split at h
  · rename_i ti hti
    split at h
    · rename_i e hty
      have hu := desc_slice (hC.ty _ _ hti) hty
      split at h
      · rename_i te hte
        have hsz : ∀ w, (sizeOf e).run P w = .ok te.size w := fun w => sizeOf_run (hC.ty _ _ hte) w
        split at h
        · rename_i id n hv hvw e1 e2
          have e1' : lo = none := by cases lo <;> simp at e1 ⊢
          subst e1'
          simp only [Option.map_eq_some_iff] at e2
          obtain ⟨y, rfl, rfl⟩ := e2
          split at h
          · rename_i hi hn q1 q2
            obtain ⟨k, ey⟩ := intOf_spec q1 (den_ev (H := H) (E := E) hd y)
            rw [hC.A] at h q2
            have q2 := natOf_spec q1 q2
            obtain ⟨g1, g2⟩ := h
            obtain ⟨g1, g3⟩ := upTo_spec g1
            unfold viewOf at hvw
            split at hvw
            · rename_i id' hx
              split at hvw
              · rename_i el st' m g hl
                cases hb : (te.size == st') <;> simp only [hb, cond_true, cond_false] at hvw
                · cases hvw
                cases hvw
                rw [hx] at dx
                obtain ⟨he, A, n2, cap, eu⟩ := dx
                obtain ⟨v, xs, e3, e4, _⟩ := hh.ent _ _ hl
                rw [he] at e3; cases e3
                rw [eu] at e4 he
                have hk : n2 = n := by
                  have := lenV_row e4
                  simpa [lenV] using this
                subst hk
                have helem : P.elem t = e := by simp [Program.elem, hu]
                have hu' : P.underlying t = some (.slice (P.elem t)) := by rw [helem]; exact hu
                have hcap : n2 ≤ cap := by
                  rcases e4.2 with ⟨e5, _⟩ | ⟨_, _, _, e5, _, _, e6, _⟩
                  · cases e5; exact Nat.le_refl _
                  · cases e5; exact e6
                have hr := run_slice_h (P := P) w t A n2 cap hu' k hi (by omega) (by omega)
                subst q2
                have hs : sliced A 0 hi.toNat cap te.size = .slice A hi.toNat cap := by cases A <;> simp [sliced, Addr.add]
                refine ⟨_, .slice A hi.toNat cap, _, H, E, w, g2, ⟨A, n2, cap, he, by omega, rfl⟩, Post.refl hh hw, .inl rfl, ?_⟩
                rw [helem, hsz] at hr
                simp [execOp, ho, run_sliceAt_slice _ _ _ _ _ _ hu', eu, ey, hr, hs]
              · cases hvw
            · cases hvw
          · exact h.elim
        split at h
        · exact h.elim
        · rename_i hp hfz
          have hfz' : ∃ H', H.le H' ∧ HeapOK K H' E w hp ∧ WOK K H' w ∧ Frz H' E c.hp hp := by
            split at hfz
            · exact freeze_ok hfz hh hw
            · cases hfz; exact ⟨H, fun _ _ e => e, hh, hw, Frz.refl _ _ _⟩
          obtain ⟨H', hH, hh', hw', hz'⟩ := hfz'
          split at h
          · rename_i st n g hsh
            have hrep := toSh_rep hh' hsh (dx.le hH (fun _ _ e => e))
            obtain ⟨A, cap, eu, hcap, hmax⟩ := rep_slice hrep
            rw [eu] at hrep
            cases hb : (st == te.size) <;> simp only [hb, cond_true, cond_false] at h
            · exact h.elim
            obtain rfl : st = te.size := by simpa using hb
            have helem : P.elem t = e := by simp [Program.elem, hu]
            have hu' : P.underlying t = some (.slice (P.elem t)) := by rw [helem]; exact hu
            have fin : ∀ (sv : SV) (l h : Nat) (g' : Nat → List Sh), φ (sv, { c with hp }) → sv = .sh (.sl te.size (h - l) g') → l ≤ h → h ≤ n → (∀ j, j < h - l → g' j = g (l + j)) →
                (Instr.slice t (.slice A n cap) (lo.map a.eval) (hi.map a.eval) none).run P w = ((sizeOf (P.elem t)).run P w).andThen (fun s w => .ok (sliced A l h cap s) w) → WOut P K H E w c a o φ := by
              intro sv l h g' hφ hsv h1 h2 h3 hr
              refine ⟨_, sliced A l h cap te.size, _, H', E, w, hφ, ?_, same_post hH hh' hw' hz', .inl rfl, ?_⟩
              · subst hsv
                exact rep_sub hrep h1 h2 h3
              · rw [helem, hsz] at hr
                simp [execOp, ho, run_sliceAt_slice _ _ _ _ _ _ hu', eu, hr]
            have hA := hC.A
            rw [hA] at h
            split at h
            · rename_i e1 e2
              have e1' : lo = none := by cases lo <;> simp at e1 ⊢
              have e2' : hi = none := by cases hi <;> simp at e2 ⊢
              subst e1' e2'
              exact fin _ 0 n g h (by rw [Nat.sub_zero]) (by omega) (by omega) (fun j _ => by rw [Nat.zero_add]) (run_slice_all (P := P) w t A n cap hu')
            · rename_i hv e1 e2
              have e1' : lo = none := by cases lo <;> simp at e1 ⊢
              subst e1'
              simp only [Option.map_eq_some_iff] at e2
              obtain ⟨y, rfl, rfl⟩ := e2
              split at h
              · rename_i hi hn q1 q2
                obtain ⟨k, ey⟩ := intOf_spec q1 (den_ev (H := H) (E := E) hd y)
                have q2 := natOf_spec q1 q2
                obtain ⟨g1, g2⟩ := h
                obtain ⟨g1, g3⟩ := upTo_spec g1
                refine fin _ 0 hn g g2 (by rw [Nat.sub_zero]) (by omega) (by omega) (fun j _ => by rw [Nat.zero_add]) ?_
                have := run_slice_h (P := P) w t A n cap hu' k hi (by omega) (by omega)
                simp only [Option.map_some, Option.map_none, ey]
                rw [this, q2]
              · exact h.elim
            · rename_i lv e1 e2
              have e2' : hi = none := by cases hi <;> simp at e2 ⊢
              subst e2'
              simp only [Option.map_eq_some_iff] at e1
              obtain ⟨y, rfl, rfl⟩ := e1
              split at h
              · rename_i li l q1 q2
                obtain ⟨k, ey⟩ := intOf_spec q1 (den_ev (H := H) (E := E) hd y)
                have q2 := natOf_spec q1 q2
                obtain ⟨g1, g2⟩ := h
                obtain ⟨g1, g3⟩ := upTo_spec g1
                refine fin _ l n _ g2 rfl (by omega) (by omega) (fun j _ => rfl) ?_
                have := run_slice_l (P := P) w t A n cap hu' k li (by omega) (by omega)
                simp only [Option.map_some, Option.map_none, ey]
                rw [this, q2]
              · exact h.elim
            · rename_i lv hv e1 e2
              simp only [Option.map_eq_some_iff] at e1 e2
              obtain ⟨y, rfl, rfl⟩ := e1
              obtain ⟨z, rfl, rfl⟩ := e2
              split at h
              · rename_i li l hi hn q1 q2 q3 q4
                obtain ⟨k, ey⟩ := intOf_spec q1 (den_ev (H := H) (E := E) hd y)
                obtain ⟨k2, ez⟩ := intOf_spec q3 (den_ev (H := H) (E := E) hd z)
                have q2 := natOf_spec q1 q2
                have q4 := natOf_spec q3 q4
                obtain ⟨g1, g2, g3⟩ := h
                obtain ⟨g1, g4⟩ := upTo_spec g1
                obtain ⟨g2, g5⟩ := upTo_spec g2
                refine fin _ l hn _ g3 rfl (by omega) (by omega) (fun j _ => rfl) ?_
                have := run_slice_lh (P := P) w t A n cap hu' k k2 li hi (by omega) (by omega) (by omega)
                simp only [Option.map_some, ey, ez]
                rw [this, q2, q4]
              · exact h.elim
          · exact h.elim
      · exact h.elim
    · exact h.elim
  · exact h.elim
/-- An entry set, in a map whose keys are ints. -/
theorem den_setLit {k : IntKind} {n : Int} {sv : SV} {v : Value} (hv : Den H E sv v) : ∀ {es es' : List (SV × SV)} {ms : List MapEntry} (j : Nat), setLit k n sv es = some es' → DenM H E es ms →
    (∃ i u m, Instr.findNow (.int k) (.int k n) ms j = some (some (j + i, u)) ∧ ms[i]? = some m ∧ m.key = .int k n ∧ DenM H E es' (ms.modify i fun m => { m with key := .int k n, val := v })) ∨
    (Instr.findNow (.int k) (.int k n) ms j = some none ∧ ∀ clk, DenM H E es' (ms ++ [{ key := .int k n, val := v, born := clk }]))
  | [], es', [], j, h, _ => by
    simp [setLit] at h
    subst h
    exact .inr ⟨rfl, fun clk => ⟨rfl, hv, trivial⟩⟩
  | (k', u) :: es, es', m :: ms, j, h, ⟨h1, h2, h3⟩ => by
    unfold setLit at h
    split at h
    · rename_i e; cases e
    · rename_i l p u es0 e
      simp only [List.cons.injEq, Prod.mk.injEq] at e
      obtain ⟨⟨rfl, rfl⟩, rfl⟩ := e
      have h1 : m.key = .int l p := h1
      cases hb : (l == k) <;> simp only [hb, cond_true, cond_false] at h
      · cases h
      obtain rfl : l = k := by simpa using hb
      cases hp : (p == n) <;> simp only [hp, cond_true, cond_false] at h
      · have hne : (n == p) = false := by simp at hp ⊢; exact fun e => hp e.symm
        simp only [Option.map_eq_some_iff] at h
        obtain ⟨r, hr, rfl⟩ := h
        rcases den_setLit hv (j + 1) hr h3 with ⟨i, u', m', e1, e2, e3, e4⟩ | ⟨e1, e2⟩
        · refine .inl ⟨i + 1, u', m', ?_, by simpa using e2, e3, ?_⟩
          · simp [Instr.findNow, h1, Instr.sameNow, hne, e1]; omega
          · simp only [List.modify_succ_cons]
            exact ⟨h1, h2, e4⟩
        · refine .inr ⟨by simp [Instr.findNow, h1, Instr.sameNow, hne, e1], fun clk => ⟨h1, h2, e2 clk⟩⟩
      · cases h
        obtain rfl : p = n := by simpa using hp
        refine .inl ⟨0, m.val, m, by simp [Instr.findNow, h1, Instr.sameNow], rfl, h1, ?_⟩
        simp only [List.modify_zero_cons]
        exact ⟨rfl, hv, h3⟩
    · cases h
  | [], _, _ :: _, _, _, h => h.elim
  | _ :: _, _, [], _, _, h => h.elim
theorem heap_setObj (w : World) (b k : Nat) (o o' : Obj) (h : w.heap[b]? = some o) : (w.heap.setIfInBounds b o')[k]? = if k = b then some o' else w.heap[k]? := by
  have hlt := (Array.getElem?_eq_some_iff.1 h).1
  by_cases e : k = b
  · subst e; simp [hlt]
  · simp [e, Array.getElem?_setIfInBounds_ne (Ne.symm e)]
theorem w_mapSet {c : Core} {a : Act} {o : Oper} {t : Nat} {x y z : Operand} {φ : SV × Core → Prop} (hC : CtxOK P C) (hd : DenL H E c.tm a.tmps.toList) (hh : HeapOK K H E w c.hp) (hw : WOK K H w)
    (ho : o.op = .mapUpdate t x y z ∨ o.op = .insert t x y z) (h : (execMapSet C c t (evL c.tm x) (evL c.tm y) (evL c.tm z)).All φ) : WOut P K H E w c a o φ := by
  have dx := den_ev (H := H) (E := E) hd x
  have dy := den_ev (H := H) (E := E) hd y
  have dz := den_ev (H := H) (E := E) hd z
  unfold execMapSet at h
  split at h
  · rename_i ti hti
    split at h
    · rename_i kt vt hty
      have ht := (hC.ty _ _ hti).desc
      rw [hty] at ht
      have ht : P.underlying t = some (.map kt vt) := ht
      split at h
      · rename_i kti hkti
        have hk := (hC.ty _ _ hkti).desc
        split at h
        · rename_i kk id k n hkk hx hy
          rw [hkk] at hk
          have hk : P.underlying kt = some (.int kk) := hk
          rw [hx] at dx
          rw [hy] at dy
          obtain ⟨b, he, ex⟩ := dx
          have ey : a.eval y = .int k n := dy
          split at h
          · rename_i es hl
            cases hb : (kk == k) <;> simp only [hb, cond_true, cond_false] at h
            · exact h.elim
            obtain rfl : kk = k := by simpa using hb
            split at h
            · rename_i es' hes
              obtain ⟨b', ms, clk, he', h1, h2, h3⟩ := hh.ent _ _ hl
              rw [he] at he'; cases he'
              have hg : (getObj b).run P w = .ok (.map ms clk) w := by simp [getObj, Sem.run, h1]
              have hck := checkKey_int (P := P) hk false kk n w
              have hso : ∀ o', (setObj b o').run P w = .ok () { w with heap := w.heap.setIfInBounds b o' } := fun o' => by simp [setObj, Sem.run, h1]
              have fin : ∀ (o' : Obj) (ms' : Array MapEntry) (clk' : Nat), o' = .map ms' clk' → DenM H E es' ms'.toList → (Instr.mapUpdate t (.map (some b)) (.int kk n) (a.eval z)).run P w = .ok () { w with heap := w.heap.setIfInBounds b o' } → WOut P K H E w c a o φ := by
                intro o' ms' clk' ho' hd' hr
                subst ho'
                refine ⟨_, undef, _, H, E, { w with heap := w.heap.setIfInBounds b (.map ms' clk') }, h, trivial, ?_, .inr ⟨rfl, rfl⟩, ?_⟩
                rotate_left
                · rcases ho with ho | ho <;> simp [execOp, ho, ex, ey, hr]
                · refine set_post hh hw hl (b := b) (by simp [obk, he, blkV]) (fun k hk => ?_) (by simp) rfl rfl rfl ?_ (by simp [obk, he, blkV])
                  · simp only; rw [heap_setObj w b k _ _ h1, if_neg hk]
                  · exact ⟨b, ms', clk', he, by simp only; rw [heap_setObj w b b _ _ h1, if_pos rfl], hd', h3⟩
              rcases den_setLit dz 0 hes h2 with ⟨i, u, m, e1, e2, e3, e4⟩ | ⟨e1, e2⟩
              · refine fin (.map (ms.modify i fun m => { m with key := .int kk n, val := a.eval z }) clk) _ clk rfl (by simpa using e4) ?_
                have e2' : ms[i]? = some m := by simpa using e2
                simp only [Nat.zero_add] at e1
                simp [Instr.mapUpdate, run_underlying ht, hg, hck, Instr.findKey, run_underlying hk, e1, e2', e3, Instr.keyThatStays, Instr.sameBits, hso]
              · refine fin (.map (ms.push { key := .int kk n, val := a.eval z, born := clk }) (clk + 1)) _ (clk + 1) rfl (by simpa using e2 clk) ?_
                simp [Instr.mapUpdate, run_underlying ht, hg, hck, Instr.findKey, run_underlying hk, e1, hso]
            · exact h.elim
          · exact h.elim
        · exact h.elim
      · exact h.elim
    · exact h.elim
  · exact h.elim

/-! Maps of which some entries are known. -/
/-- As 'set_post', with new ids that name no block. -/
theorem set_post2 {c : Core} {id b nx' : Nat} {sb sb' : SB} (hh : HeapOK K H E w c.hp) (hw : WOK K H w) (hl : look? c.hp id = some sb) (hb : obk E id sb = some b)
    (hE : E.le E') (hnew : ∀ i, E i = none → E' i ≠ none → c.nx ≤ i ∧ i < nx') (hbk : ∀ i, E i = none → bk E' i = none) (hnx : c.nx ≤ nx') (hlim : nx' ≤ c.lim ∨ nx' = c.nx)
    (hother : ∀ k, k ≠ b → w'.heap[k]? = w.heap[k]?) (hsz : w'.heap.size = w.heap.size) (hos : w'.os = w.os) (htape : w'.tape = w.tape) (hout : w'.output = w.output)
    (he : Ent K H E' w' id sb') (hb' : obk E' id sb' = some b) : Post K H E w c H E' w' { c with hp := hset c.hp id sb', nx := nx', tc := id :: c.tc } := by
  have hmine := ((hh.ent _ _ hl).lt hb)
  refine ⟨fun _ _ e => e, hE, hnew, hnx, hlim, rfl, rfl, ?_, ?_, fun _ h => List.mem_cons_of_mem _ h, by omega, ?_, fun i b h1 h2 => (by rw [hbk i h1] at h2; cases h2), ?_, ?_, ?_⟩
  · refine ⟨fun id2 sb2 hl2 => ?_, fun id1 id2 sb1 sb2 b0 h1 h2 o1 o2 => ?_⟩
    · simp only [look_hset] at hl2
      cases hid : (id == id2) <;> simp only [hid, cond_true, cond_false] at hl2
      · have hent := hh.ent _ _ hl2
        refine hent.kept (fun _ _ e => e) hE (fun b0 hb0 => hother b0 fun e => ?_) fun b0 hb0 => (hent.lt hb0).2.1
        subst e
        have := hh.dis _ _ _ _ _ hl hl2 hb hb0
        subst this
        simp at hid
      · obtain rfl : id = id2 := by simpa using hid
        rw [hl] at hl2
        cases hl2
        exact he
    · have conv : ∀ {i : Nat} {s : SB}, look? (hset c.hp id sb') i = some s → obk E' i s = some b0 → ∃ s', look? c.hp i = some s' ∧ obk E i s' = some b0 := by
        intro i s h o
        rw [look_hset] at h
        cases hid : (id == i) <;> simp only [hid, cond_true, cond_false] at h
        · exact ⟨s, h, by rw [← obk_eq (hh.ent _ _ h) hE]; exact o⟩
        · obtain rfl : id = i := by simpa using hid
          rw [hl] at h
          cases h
          rw [hb'] at o; cases o
          exact ⟨sb, hl, hb⟩
      obtain ⟨s1, a1, a2⟩ := conv h1 o1
      obtain ⟨s2, a3, a4⟩ := conv h2 o2
      exact hh.dis _ _ _ _ _ a1 a3 a2 a4
  · refine ⟨hos.trans hw.os, htape.trans hw.tape, hout.trans hw.output, by have := hw.size; omega, fun k hk hn => ?_, fun k o hk => ?_, hw.le, hw.fresh⟩
    · rw [hother k fun e => ?_]
      · exact hw.kept k hk hn
      · subst e
        rcases hmine.2.2 with h | h
        · omega
        · exact hn h
    · rw [hother k fun e => ?_]
      · exact hw.on k o hk
      · subst e
        rw [hmine.2.1] at hk; cases hk
  · intro k hk hne
    refine hother k fun e => ?_
    subst e
    exact hne id (List.mem_cons_self ..) (obk_bk hb)
  · intro i hi
    cases hi with
    | head => exact .inr (.inr ⟨sb, hl, hb.trans (obk_bk hb).symm⟩)
    | tail _ hi => exact .inl hi
  · intro i s0 b0 h1 h2 h3
    refine .inr ⟨s0, ?_, obk_le h3 hE⟩
    simp only [look_hset]
    cases hid : (id == i) <;> simp only [cond_true, cond_false]
    · exact h1
    · obtain rfl : id = i := by simpa using hid
      exact (h2 (List.mem_cons_self ..)).elim
  · intro i s0 h1 _
    simp only [look_hset] at h1
    cases hid : (id == i) <;> simp only [hid, cond_true, cond_false] at h1
    · exact ⟨s0, h1, fun b0 h => by rw [obk_eq (hh.ent _ _ h1) hE] at h; exact h⟩
    · obtain rfl : id = i := by simpa using hid
      rw [hl] at h1; cases h1
      exact ⟨sb, hl, fun b0 h => by rw [hb'] at h; cases h; exact hb⟩

theorem int_inj {k : IntKind} {a b : Int} (h : Value.int k a = .int k b) : a = b := by cases h; rfl
theorem entAt_cons {k : IntKind} {n p : Int} {m : MapEntry} {ms : List MapEntry} (hm : m.key = .int k p) : entAt k n (m :: ms) = if n = p then some m.val else entAt k n ms := by
  by_cases e : n = p
  · subst e; simp [entAt, hm, Instr.sameNow]
  · have e' : (n == p) = false := by simpa using e
    rw [if_neg e]
    simp [entAt, hm, Instr.sameNow, e']
theorem entAt_mem {k : IntKind} {n : Int} : ∀ {ms : List MapEntry}, (∀ m ∈ ms, ∃ n, m.key = .int k n) → (∀ (i j : Nat) (m m' : MapEntry), ms[i]? = some m → ms[j]? = some m' → m.key = m'.key → i = j) → ∀ m ∈ ms, m.key = .int k n → entAt k n ms = some m.val
  | m0 :: ms, hk, h1, m, hm, e => by
    obtain ⟨p, hp⟩ := hk m0 (List.mem_cons_self ..)
    rw [entAt_cons hp]
    by_cases en : n = p
    · subst en
      rw [if_pos rfl]
      obtain ⟨j, hj⟩ := List.mem_iff_getElem?.1 hm
      have := h1 0 j m0 m rfl hj (hp.trans e.symm)
      subst this
      simp at hj
      rw [hj]
    · rw [if_neg en]
      refine entAt_mem (fun m hm => hk m (List.mem_cons_of_mem _ hm)) (fun i j m m' a b c => by have := h1 (i + 1) (j + 1) m m' (by simpa using a) (by simpa using b) c; omega) m ?_ e
      cases hm with
      | head => rw [hp] at e; exact (en (int_inj e).symm).elim
      | tail _ h => exact h
theorem entAt_none {k : IntKind} {n : Int} : ∀ {ms : List MapEntry}, (∀ m ∈ ms, ∃ n, m.key = .int k n) → (∀ m ∈ ms, m.key ≠ .int k n) → entAt k n ms = none
  | [], _, _ => rfl
  | m :: ms, hk, h => by
    obtain ⟨p, hp⟩ := hk m (List.mem_cons_self ..)
    rw [entAt_cons hp, if_neg]
    · exact entAt_none (fun m hm => hk m (List.mem_cons_of_mem _ hm)) fun m hm => h m (List.mem_cons_of_mem _ hm)
    · intro e; subst e; exact h m (List.mem_cons_self ..) hp
theorem entAt_of {k : IntKind} {ms : List MapEntry} {N : Int → Option Value} (hk : ∀ m ∈ ms, ∃ n, m.key = .int k n) (h1 : ∀ (i j : Nat) (m m' : MapEntry), ms[i]? = some m → ms[j]? = some m' → m.key = m'.key → i = j)
    (h2 : ∀ m ∈ ms, ∀ n, m.key = .int k n → N n = some m.val) (h3 : ∀ n v, N n = some v → ∃ m ∈ ms, m.key = .int k n) : ∀ n, entAt k n ms = N n := fun n => by
  cases hn : N n with
  | none =>
    refine entAt_none hk fun m hm e => ?_
    rw [h2 m hm n e] at hn; cases hn
  | some v =>
    obtain ⟨m, hm, e⟩ := h3 n v hn
    rw [entAt_mem hk h1 m hm e]
    rw [h2 m hm n e] at hn; exact hn
theorem MapOK.in_ {k : IntKind} {ms : List MapEntry} {clk : Nat} {N : Int → Option Value} (h : MapOK k ms clk N) : (∀ m ∈ ms, ∀ n, m.key = .int k n → N n = some m.val) ∧ (∀ n v, N n = some v → ∃ m ∈ ms, m.key = .int k n ∧ m.val = v) := by
  refine ⟨fun m hm n e => by rw [← h.at_, entAt_mem h.key h.one m hm e], fun n v hn => ?_⟩
  rw [← h.at_] at hn
  obtain ⟨i, _, m, h1, h2, h3⟩ := findNow_some h.key 0 hn
  exact ⟨m, List.mem_of_getElem? h1, h2, h3⟩
theorem MapOK.push {k : IntKind} {ms : List MapEntry} {clk : Nat} {N : Int → Option Value} (h : MapOK k ms clk N) {n : Int} (hn : N n = none) (v : Value) :
    MapOK k (ms ++ [{ key := .int k n, val := v, born := clk }]) (clk + 1) (fun j => if j = n then some v else N j) := by
  have hne : ∀ m ∈ ms, m.key ≠ .int k n := fun m hm e => by rw [h.in_.1 m hm n e] at hn; cases hn
  have hkey : ∀ m ∈ ms ++ [{ key := .int k n, val := v, born := clk : MapEntry }], ∃ n, m.key = .int k n := fun m hm => by
    rcases List.mem_append.1 hm with hm | hm
    · exact h.key m hm
    · simp at hm; subst hm; exact ⟨n, rfl⟩
  have hget : ∀ (i : Nat) (m : MapEntry), (ms ++ [{ key := .int k n, val := v, born := clk : MapEntry }])[i]? = some m → (i < ms.length ∧ ms[i]? = some m) ∨ (i = ms.length ∧ m = { key := .int k n, val := v, born := clk }) := fun i m hi => by
    rw [List.getElem?_append] at hi
    split at hi
    · exact .inl ⟨by assumption, hi⟩
    · have : i - ms.length = 0 := by
        have := (List.getElem?_eq_some_iff.1 hi).1
        simp at this; omega
      rw [this] at hi
      simp at hi
      exact .inr ⟨by omega, hi.symm⟩
  have hone : ∀ (i j : Nat) (m m' : MapEntry), (ms ++ [{ key := .int k n, val := v, born := clk : MapEntry }])[i]? = some m → (ms ++ [{ key := .int k n, val := v, born := clk : MapEntry }])[j]? = some m' → m.key = m'.key → i = j := fun i j m m' a b e => by
    rcases hget i m a with ⟨_, a⟩ | ⟨a, rfl⟩ <;> rcases hget j m' b with ⟨_, b⟩ | ⟨b, rfl⟩
    · exact h.one i j m m' a b e
    · exact (hne m (List.mem_of_getElem? a) e).elim
    · exact (hne m' (List.mem_of_getElem? b) e.symm).elim
    · omega
  refine ⟨hkey, entAt_of hkey hone (fun m hm j e => ?_) (fun j u hj => ?_), hone, fun i j m m' a b e => ?_, fun m hm => ?_⟩
  · rcases List.mem_append.1 hm with hm1 | hm1
    · rw [if_neg (show ¬ j = n from fun e2 => hne m hm1 (by rw [← e2]; exact e))]
      exact h.in_.1 m hm1 j e
    · simp at hm1; subst hm1
      rw [if_pos (int_inj e).symm]
  · by_cases e : j = n
    · subst e; exact ⟨_, List.mem_append.2 (.inr (List.mem_cons_self ..)), rfl⟩
    · rw [if_neg e] at hj
      obtain ⟨m, hm, q, _⟩ := h.in_.2 j u hj
      exact ⟨m, List.mem_append.2 (.inl hm), q⟩
  · rcases hget i m a with ⟨_, a⟩ | ⟨a, rfl⟩ <;> rcases hget j m' b with ⟨_, b⟩ | ⟨b, rfl⟩
    · exact h.born i j m m' a b e
    · have := h.lt m (List.mem_of_getElem? a); simp at e; omega
    · have := h.lt m' (List.mem_of_getElem? b); simp at e; omega
    · omega
  · rcases List.mem_append.1 hm with hm | hm
    · have := h.lt m hm; omega
    · simp at hm; subst hm; simp
theorem MapOK.set {k : IntKind} {ms : List MapEntry} {clk : Nat} {N : Int → Option Value} (h : MapOK k ms clk N) {n : Int} {i : Nat} {m0 : MapEntry} (hi : ms[i]? = some m0) (hk : m0.key = .int k n) (v : Value) {f : MapEntry → MapEntry}
    (hf1 : (f m0).key = .int k n) (hf2 : (f m0).val = v) (hf3 : (f m0).born = m0.born) : MapOK k (ms.modify i f) clk (fun j => if j = n then some v else N j) := by
  have hget : ∀ (j : Nat) (m : MapEntry), (ms.modify i f)[j]? = some m → (j = i ∧ m = f m0) ∨ (j ≠ i ∧ ms[j]? = some m) := fun j m hj => by
    rw [List.getElem?_modify] at hj
    by_cases e : i = j
    · subst e
      rw [hi] at hj
      simp at hj
      exact .inl ⟨rfl, hj.symm⟩
    · simp [e] at hj
      exact .inr ⟨fun e2 => e e2.symm, hj⟩
  have hin : ∀ m ∈ ms.modify i f, m = f m0 ∨ (m ∈ ms ∧ m.key ≠ .int k n) := fun m hm => by
    obtain ⟨j, hj⟩ := List.mem_iff_getElem?.1 hm
    rcases hget j m hj with ⟨_, e⟩ | ⟨e, e2⟩
    · exact .inl e
    · refine .inr ⟨List.mem_of_getElem? e2, fun e3 => e ?_⟩
      exact h.one j i m m0 e2 hi (e3.trans hk.symm)
  have hkey : ∀ m ∈ ms.modify i f, ∃ n, m.key = .int k n := fun m hm => by
    rcases hin m hm with rfl | hm
    · exact ⟨n, hf1⟩
    · exact h.key m hm.1
  have hnew : f m0 ∈ ms.modify i f := by
    refine List.mem_iff_getElem?.2 ⟨i, ?_⟩
    rw [List.getElem?_modify]; simp [hi]
  have hone : ∀ (a b : Nat) (m m' : MapEntry), (ms.modify i f)[a]? = some m → (ms.modify i f)[b]? = some m' → m.key = m'.key → a = b := fun a b m m' ha hb e => by
    rcases hget a m ha with ⟨a1, rfl⟩ | ⟨a1, a2⟩ <;> rcases hget b m' hb with ⟨b1, rfl⟩ | ⟨b1, b2⟩
    · omega
    · exact (b1 (h.one b i m' m0 b2 hi (e.symm.trans (hf1.trans hk.symm)))).elim
    · exact (a1 (h.one a i m m0 a2 hi (e.trans (hf1.trans hk.symm)))).elim
    · exact h.one a b m m' a2 b2 e
  refine ⟨hkey, entAt_of hkey hone (fun m hm j e => ?_) (fun j u hj => ?_), hone, fun a b m m' ha hb e => ?_, fun m hm => ?_⟩
  · rcases hin m hm with rfl | ⟨hm, hne⟩
    · rw [hf1] at e; rw [if_pos (int_inj e).symm, hf2]
    · rw [if_neg fun e2 => by subst e2; exact hne e]
      exact h.in_.1 m hm j e
  · by_cases e : j = n
    · subst e; exact ⟨_, hnew, hf1⟩
    · rw [if_neg e] at hj
      obtain ⟨m, hm, q, _⟩ := h.in_.2 j u hj
      obtain ⟨a, ha⟩ := List.mem_iff_getElem?.1 hm
      refine ⟨m, List.mem_iff_getElem?.2 ⟨a, ?_⟩, q⟩
      have hne : ¬ i = a := fun e2 => by subst e2; rw [hi] at ha; cases ha; rw [hk] at q; exact e (int_inj q).symm
      rw [List.getElem?_modify, ha]
      simp [hne]
  · rcases hget a m ha with ⟨a1, rfl⟩ | ⟨a1, a2⟩ <;> rcases hget b m' hb with ⟨b1, rfl⟩ | ⟨b1, b2⟩
    · omega
    · exact (b1 (h.born b i m' m0 b2 hi (e.symm.trans hf3))).elim
    · exact (a1 (h.born a i m m0 a2 hi (e.trans hf3))).elim
    · exact h.born a b m m' a2 b2 e
  · rcases hin m hm with rfl | hm
    · rw [hf3]; exact h.lt m0 (List.mem_of_getElem? hi)
    · exact h.lt m hm.1
theorem MapOK.del {k : IntKind} {ms : List MapEntry} {clk : Nat} {N : Int → Option Value} (h : MapOK k ms clk N) {n : Int} {i : Nat} {m0 : MapEntry} (hi : ms[i]? = some m0) (hk : m0.key = .int k n) :
    MapOK k (ms.eraseIdx i) clk (fun j => if j = n then none else N j) := by
  have hget : ∀ (j : Nat) (m : MapEntry), (ms.eraseIdx i)[j]? = some m → ms[if j < i then j else j + 1]? = some m := fun j m hj => by
    rw [List.getElem?_eraseIdx] at hj
    split at hj
    · rename_i e; rw [if_pos e]; exact hj
    · rename_i e; rw [if_neg e]; exact hj
  have hne : ∀ m ∈ ms.eraseIdx i, m ∈ ms ∧ m.key ≠ .int k n := fun m hm => by
    obtain ⟨j, hj⟩ := List.mem_iff_getElem?.1 hm
    have := hget j m hj
    refine ⟨List.mem_of_getElem? this, fun e => ?_⟩
    have := h.one _ i m m0 this hi (e.trans hk.symm)
    split at this <;> omega
  have hkey : ∀ m ∈ ms.eraseIdx i, ∃ n, m.key = .int k n := fun m hm => h.key m (hne m hm).1
  have hone : ∀ (a b : Nat) (m m' : MapEntry), (ms.eraseIdx i)[a]? = some m → (ms.eraseIdx i)[b]? = some m' → m.key = m'.key → a = b := fun a b m m' ha hb e => by
    have := h.one _ _ m m' (hget a m ha) (hget b m' hb) e
    split at this <;> split at this <;> omega
  refine ⟨hkey, entAt_of hkey hone (fun m hm j e => ?_) (fun j u hj => ?_), hone, fun a b m m' ha hb e => ?_, fun m hm => h.lt m (hne m hm).1⟩
  · rw [if_neg fun e2 => by subst e2; exact (hne m hm).2 e]
    exact h.in_.1 m (hne m hm).1 j e
  · by_cases e : j = n
    · rw [if_pos e] at hj; cases hj
    · rw [if_neg e] at hj
      obtain ⟨m, hm, q, _⟩ := h.in_.2 j u hj
      obtain ⟨a, ha⟩ := List.mem_iff_getElem?.1 hm
      have hai : a ≠ i := fun e2 => by subst e2; rw [hi] at ha; cases ha; rw [hk] at q; exact e (int_inj q).symm
      refine ⟨m, List.mem_iff_getElem?.2 ⟨if a < i then a else a - 1, ?_⟩, q⟩
      rw [List.getElem?_eraseIdx]
      by_cases hlt : a < i
      · simp [hlt, ha]
      · rw [if_neg hlt, if_neg (by omega), show a - 1 + 1 = a by omega, ha]
  · have := h.born _ _ m m' (hget a m ha) (hget b m' hb) e
    split at this <;> split at this <;> omega
theorem ovr_cons {M : Int → Option Value} {n : Int} {o : Option Value} {uv : List (Int × Option Value)} : ovr M ((n, o) :: uv) = fun j => if j = n then o else ovr M uv j := rfl
theorem MapOK.same {k : IntKind} {ms : List MapEntry} {clk : Nat} {N N' : Int → Option Value} (h : MapOK k ms clk N) (e : ∀ j, N j = N' j) : MapOK k ms clk N' := by
  have : N = N' := funext e
  rw [← this]; exact h
theorem zero_pack {e : Nat} {te : TyI} {z : SV} (hte : TyOK P e te) (hz : pack te.ty.isAgg te.zero = some z) : ∃ zv : Value, Den H E z zv ∧ (∀ w : World, (zeroValue e).run P w = .ok zv w) ∧ (te.ty.isAgg = false → zv.oneCell' = true) := by
  obtain ⟨inf, zv, h1, h2, _, h4, h5, h6, h7, h8⟩ := hte.info
  have h5' : DenL H E te.zero zv.cells.toList := h5.le (fun _ _ e => by cases e) (fun _ _ e => by cases e)
  refine ⟨zv, ?_, fun w => by simp [zeroValue, typeInfo, h1, h4], fun ha => (h8 ha).2⟩
  rcases pack_spec hz with ⟨ha, rfl⟩ | ⟨ha, hl⟩
  · obtain ⟨cs, rfl⟩ := h7 ha
    exact ⟨cs, rfl, h5'⟩
  · rw [hl] at h5'
    have h8 := (h8 ha).2
    cases zv with
    | agg cs => simp [Value.oneCell'] at h8
    | _ =>
      simp [Value.cells, DenL] at h5'
      exact h5'
theorem arr_modify_self {es : Array MapEntry} {i : Nat} {f : MapEntry → MapEntry} {m : MapEntry} (h : es[i]? = some m) (hf : f m = m) : es.modify i f = es := by
  apply Array.ext
  · simp
  · intro j h1 h2
    rw [Array.getElem_modify]
    split
    · rename_i e
      subst e
      have : es[i] = m := by
        rw [Array.getElem?_eq_getElem h2] at h; cases h; rfl
      rw [this, hf]
    · rfl
theorem w_mapEntry {c : Core} {a : Act} {o : Oper} {t : Nat} {x y : Operand} {φ : SV × Core → Prop} (hC : CtxOK P C) (hd : DenL H E c.tm a.tmps.toList) (hh : HeapOK K H E w c.hp) (hw : WOK K H w) (hf : Free E c)
    (ho : o.op = .mapEntry t x y) (h : (execMapEntry C c t (evL c.tm x) (evL c.tm y)).All φ) : WOut P K H E w c a o φ := by
  have dx := den_ev (H := H) (E := E) hd x
  have dy := den_ev (H := H) (E := E) hd y
  unfold execMapEntry at h
  split at h
  · rename_i ti hti
    split at h
    · rename_i kt e hty
      have ht := (hC.ty _ _ hti).desc
      rw [hty] at ht
      have ht : P.underlying t = some (.map kt e) := ht
      split at h
      · rename_i kti te hkti hte
        have hk := (hC.ty _ _ hkti).desc
        have hte := hC.ty _ _ hte
        split at h
        · rename_i kk z id j n lit hkk hz hx hy
          rw [hkk] at hk
          have hk : P.underlying kt = some (.int kk) := hk
          rw [hx] at dx
          obtain ⟨b, he, ex⟩ := dx
          have ey : a.eval y = .int j n := kindInt_spec hy dy
          split at h
          · rename_i fk M fs us tag hl
            cases hb : (j == kk && fk == kk && z.one && Nat.blt c.nx c.lim) <;> simp only [hb, cond_true, cond_false] at h
            · exact h.elim
            simp only [Bool.and_eq_true, beq_iff_eq] at hb
            obtain ⟨⟨⟨rfl, rfl⟩, hzone⟩, hlt⟩ := hb
            have hlt := blt_spec hlt
            obtain ⟨b', ms, clk, fv, uv, he', h1, d1, d2, hM, hok, _, hmine⟩ := hh.ent _ _ hl
            rw [he] at he'; cases he'
            rw [hC.A] at h
            obtain ⟨p, sv, ov, hφ, hpo, hat⟩ := findF_spec hM d2 d1 h
            have hg : (getObj b).run P w = .ok (.map ms clk) w := by simp [getObj, Sem.run, h1]
            have hck := checkKey_int (P := P) hk false fk n w
            have hso : ∀ o', (setObj b o').run P w = .ok () { w with heap := w.heap.setIfInBounds b o' } := fun o' => by simp [setObj, Sem.run, h1]
            obtain ⟨zv, hzd, hzr, hz1⟩ := zero_pack (H := H) (E := E) hte hz
            have hnone := hf c.nx (Nat.le_refl _) hlt
            have fin : ∀ (ms' : Array MapEntry) (clk' : Nat) (v : Value) (bn : Nat), Den H E (bif p then sv else z) v → v.oneCell' = true → MapOK fk ms'.toList clk' (ovr M ((n, some v) :: uv)) → (∃ m ∈ ms'.toList, m.key = .int fk n ∧ m.born = bn) →
                (Instr.mapEntry t (.map (some b)) (.int fk n)).run P w = .ok (.tuple #[v, goInt bn]) { w with heap := w.heap.setIfInBounds b (.map ms' clk') } → WOut P K H E w c a o φ := by
              intro ms' clk' v bn hv hv1 hok' htag hr
              obtain ⟨m, hm, hmk, hmb⟩ := htag
              have hle : E.le (E.set c.nx (goInt bn)) := Env.le_set hnone
              refine ⟨_, .tuple #[v, goInt bn], _, H, E.set c.nx (goInt bn), { w with heap := w.heap.setIfInBounds b (.map ms' clk') }, hφ, ⟨_, rfl, hv.le (fun _ _ e => e) hle, Env.set_self _ _ _, trivial⟩, ?_, .inl rfl, ?_⟩
              · refine set_post2 (E' := E.set c.nx (goInt bn)) (nx' := c.nx + 1) hh hw hl (b := b) (by simp [obk, he, blkV]) hle (fun i h1 h2 => ?_) (fun i h1 => ?_) (Nat.le_succ _) (.inl hlt) (fun k hk => ?_) (by simp) rfl rfl rfl ?_ (by simp [obk, hle _ _ he, blkV])
                · by_cases e : i = c.nx
                  · subst e; omega
                  · simp [Env.set, e, h1] at h2
                · by_cases e : i = c.nx
                  · subst e; simp [bk, Env.set, goInt, blkV]
                  · simp [bk, Env.set, e, h1]
                · simp only; rw [heap_setObj w b k _ _ h1, if_neg hk]
                · exact ⟨b, ms', clk', fv, (n, some v) :: uv, hle _ _ he, by simp only; rw [heap_setObj w b b _ _ h1, if_pos rfl], d1.le (fun _ _ e => e) hle, ⟨rfl, ⟨hv.le (fun _ _ e => e) hle, hv1⟩, d2.le (fun _ _ e => e) hle⟩, hM, hok',
                    ⟨m, hm, hmk, by rw [Env.set_self, hmb]; rfl⟩, hmine⟩
              · simp [execOp, ho, ex, ey, hr]
            rw [← hok.at_] at hat
            cases p with
            | true =>
              cases ov with
              | none => exact hpo.elim
              | some v =>
                obtain ⟨i, e1, m, e2, e3, e4⟩ := findNow_some hok.key 0 hat
                simp only [Nat.zero_add] at e1
                have e2' : ms[i]? = some m := by simpa using e2
                refine fin ms clk v m.born hpo.1 hpo.2 (hok.same fun k => ?_) ⟨m, List.mem_of_getElem? e2, e3, rfl⟩ ?_
                · rw [ovr_cons]
                  by_cases ek : k = n
                  · subst ek; simp only [if_true]; rw [← hok.at_]; exact hat
                  · simp [ek]
                · have hmod : (ms.modify i fun e => { key := .int fk n, val := e.val, born := e.born }) = ms := arr_modify_self e2' (by cases m; simp at e3; simp [e3])
                  simp [Instr.mapEntry, run_underlying ht, hg, hck, Instr.findKey, run_underlying hk, e1, e2', e3, Instr.keyThatStays, Instr.sameBits, hso, hmod]
            | false =>
              cases ov with
              | some v => exact hpo.elim
              | none =>
                have e1 := findNow_none hok.key 0 hat
                rw [hok.at_] at hat
                have hz1 : zv.oneCell' = true := one_cell hzone hzd
                refine fin (ms.push { key := .int fk n, val := zv, born := clk }) (clk + 1) zv clk hzd hz1 (by simpa [ovr_cons] using hok.push hat zv) ⟨{ key := .int fk n, val := zv, born := clk }, by simp, rfl, rfl⟩ ?_
                simp [Instr.mapEntry, run_underlying ht, hg, hck, Instr.findKey, run_underlying hk, e1, hzr, hso]
          · exact h.elim
        · exact h.elim
      · exact h.elim
    · exact h.elim
  · exact h.elim
theorem w_entryStore {c : Core} {a : Act} {o : Oper} {t : Nat} {x y z : Operand} {φ : SV × Core → Prop} (hd : DenL H E c.tm a.tmps.toList) (hh : HeapOK K H E w c.hp) (hw : WOK K H w)
    (ho : o.op = .entryStore t x y z) (h : (execEntryStore c (evL c.tm x) (evL c.tm y) (evL c.tm z)).All φ) : WOut P K H E w c a o φ := by
  have dx := den_ev (H := H) (E := E) hd x
  have dy := den_ev (H := H) (E := E) hd y
  have dz := den_ev (H := H) (E := E) hd z
  unfold execEntryStore at h
  split at h
  · rename_i id s hx hy
    rw [hx] at dx
    rw [hy] at dy
    obtain ⟨b, he, ex⟩ := dx
    have dy : E s = some (a.eval y) := dy
    split at h
    · rename_i fk M fs us s' n hl
      cases hb : (s == s' && (evL c.tm z).one) <;> simp only [hb, cond_true, cond_false] at h
      · exact h.elim
      simp only [Bool.and_eq_true, beq_iff_eq] at hb
      obtain ⟨rfl, hone⟩ := hb
      obtain ⟨b', ms, clk, fv, uv, he', h1, d1, d2, hM, hok, ⟨m, hm, hmk, hms⟩, hmine⟩ := hh.ent _ _ hl
      rw [he] at he'; cases he'
      rw [dy] at hms
      have ey : a.eval y = .int .i64 m.born := Option.some.inj hms
      have hg : (getObj b).run P w = .ok (.map ms clk) w := by simp [getObj, Sem.run, h1]
      have hso : ∀ o', (setObj b o').run P w = .ok () { w with heap := w.heap.setIfInBounds b o' } := fun o' => by simp [setObj, Sem.run, h1]
      obtain ⟨i, hi⟩ := List.mem_iff_getElem?.1 hm
      have hi' : ms[i]? = some m := by simpa using hi
      have hfind : ms.findIdx? (fun e => (e.born : Int) == m.born) = some i := by
        rw [Array.findIdx?_eq_some_iff_getElem]
        have hlt := (Array.getElem?_eq_some_iff.1 hi').1
        refine ⟨hlt, by rw [(Array.getElem?_eq_some_iff.1 hi').2]; simp, fun j hj => ?_⟩
        have hjl : j < ms.size := by omega
        intro e
        have e : ms[j].born = m.born := by simp only [beq_iff_eq] at e; exact Int.ofNat.inj e
        have := hok.born j i ms[j] m (by simp [hjl]) hi e
        omega
      refine ⟨_, undef, _, H, E, { w with heap := w.heap.setIfInBounds b (.map (ms.modify i fun e => { e with val := a.eval z }) clk) }, h, trivial, ?_, .inr ⟨rfl, rfl⟩, ?_⟩
      · refine set_post hh hw hl (b := b) (by simp [obk, he, blkV]) (fun k hk => ?_) (by simp) rfl rfl rfl ?_ (by simp [obk, he, blkV])
        · simp only; rw [heap_setObj w b k _ _ h1, if_neg hk]
        · refine ⟨b, _, clk, fv, (n, some (a.eval z)) :: uv, he, by simp only; rw [heap_setObj w b b _ _ h1, if_pos rfl], d1, ⟨rfl, ⟨dz, one_cell hone dz⟩, d2⟩, hM, ?_, ⟨{ m with val := a.eval z }, ?_, hmk, by rw [dy, ey]⟩, hmine⟩
          · have := hok.set hi hmk (a.eval z) (f := fun e => { e with val := a.eval z }) hmk rfl rfl
            simpa [ovr_cons] using this
          · rw [Array.toList_modify]
            refine List.mem_iff_getElem?.2 ⟨i, ?_⟩
            rw [List.getElem?_modify, hi]; simp
      · simp [execOp, ho, Instr.entryStore, ex, ey, hg, asInt, asIntOf, hfind, hso]
    · exact h.elim
  · exact h.elim
theorem w_delete {c : Core} {a : Act} {o : Oper} {t : Nat} {ts : Array TypeId} {x y : Operand} {φ : SV × Core → Prop} (hC : CtxOK P C) (hd : DenL H E c.tm a.tmps.toList) (hh : HeapOK K H E w c.hp) (hw : WOK K H w)
    (ho : o.op = .call { callee := .builtin .delete, args := #[x, y], argTypes := ts }) (hts : ts[0]? = some t) (h : (execDelete C c t (evL c.tm x) (evL c.tm y)).All φ) : WOut P K H E w c a o φ := by
  have dx := den_ev (H := H) (E := E) hd x
  have dy := den_ev (H := H) (E := E) hd y
  unfold execDelete at h
  split at h
  · rename_i ti hti
    split at h
    · rename_i kt e hty
      have ht := (hC.ty _ _ hti).desc
      rw [hty] at ht
      have ht : P.underlying t = some (.map kt e) := ht
      split at h
      · rename_i kti hkti
        have hk := (hC.ty _ _ hkti).desc
        split at h
        · rename_i kk id j n lit hkk hx hy
          rw [hkk] at hk
          have hk : P.underlying kt = some (.int kk) := hk
          rw [hx] at dx
          obtain ⟨b, he, ex⟩ := dx
          have ey : a.eval y = .int j n := kindInt_spec hy dy
          split at h
          · rename_i fk M fs us tag hl
            cases hb : (j == kk && fk == kk) <;> simp only [hb, cond_true, cond_false] at h
            · exact h.elim
            simp only [Bool.and_eq_true, beq_iff_eq] at hb
            obtain ⟨rfl, rfl⟩ := hb
            obtain ⟨b', ms, clk, fv, uv, he', h1, d1, d2, hM, hok, _, hmine⟩ := hh.ent _ _ hl
            rw [he] at he'; cases he'
            have hg : (getObj b).run P w = .ok (.map ms clk) w := by simp [getObj, Sem.run, h1]
            have hck := fun em => checkKey_int (P := P) hk em fk n w
            have hso : ∀ o', (setObj b o').run P w = .ok () { w with heap := w.heap.setIfInBounds b o' } := fun o' => by simp [setObj, Sem.run, h1]
            have fin : ∀ (ms' : Array MapEntry), MapOK fk ms'.toList clk (ovr M ((n, none) :: uv)) → (Builtin.delete_ ts o.type #[.map (some b), .int fk n]).run P w = .ok (.tuple #[]) { w with heap := w.heap.setIfInBounds b (.map ms' clk) } → WOut P K H E w c a o φ := by
              intro ms' hok' hr
              refine ⟨_, .tuple #[], _, H, E, { w with heap := w.heap.setIfInBounds b (.map ms' clk) }, h, trivial, ?_, .inl rfl, ?_⟩
              · refine set_post hh hw hl (b := b) (by simp [obk, he, blkV]) (fun k hk => ?_) (by simp) rfl rfl rfl ?_ (by simp [obk, he, blkV])
                · simp only; rw [heap_setObj w b k _ _ h1, if_neg hk]
                · exact ⟨b, ms', clk, fv, (n, none) :: uv, he, by simp only; rw [heap_setObj w b b _ _ h1, if_pos rfl], d1, ⟨rfl, trivial, d2⟩, hM, hok', trivial, hmine⟩
              · simp only [execOp, ho, resolve]
                simp [invoke, builtin, ex, ey, hr]
            cases hat : entAt fk n ms.toList with
            | some v =>
              obtain ⟨i, e1, m, e2, e3, e4⟩ := findNow_some hok.key 0 hat
              simp only [Nat.zero_add] at e1
              refine fin (ms.eraseIdxIfInBounds i) ?_ ?_
              · have := hok.del e2 e3
                simpa [ovr_cons, Array.toList_eraseIdxIfInBounds] using this
              · simp [Builtin.delete_, hts, run_underlying ht, hg, hck, Instr.findKey, run_underlying hk, e1, hso]
            | none =>
              have e1 := findNow_none hok.key 0 hat
              refine fin ms ?_ ?_
              · refine hok.same fun k => ?_
                rw [ovr_cons]
                by_cases ek : k = n
                · subst ek; simp only [if_true]; rw [← hok.at_]; exact hat
                · simp [ek]
              · simp [Builtin.delete_, hts, run_underlying ht, hg, hck, Instr.findKey, run_underlying hk, e1, hso]
          · exact h.elim
        · exact h.elim
      · exact h.elim
    · exact h.elim
  · exact h.elim
end
end Go.Sx
namespace Go.Sx
theorem Tree.All_bind {α β : Type} {φ : β → Prop} {k : α → Tree β} : ∀ {t : Tree α}, (t.bind k).All φ → t.All fun a => (k a).All φ
  | .leaf _, h => h
  | .node _ _ _, h => ⟨fun e => Tree.All_bind (h.1 e), fun e => Tree.All_bind (h.2 e)⟩
  | .need _ _, h => ⟨h.1, Tree.All_bind h.2⟩
  | .must _ _, h => ⟨h.1, Tree.All_bind h.2⟩
  | .both _ _, h => ⟨Tree.All_bind h.1, Tree.All_bind h.2⟩
  | .fail, h => h.elim
theorem Tree.All.mono {α : Type} {φ ψ : α → Prop} (h : ∀ a, φ a → ψ a) : ∀ {t : Tree α}, t.All φ → t.All ψ
  | .leaf _, hh => h _ hh
  | .node _ _ _, hh => ⟨fun e => (hh.1 e).mono h, fun e => (hh.2 e).mono h⟩
  | .need _ _, hh => ⟨hh.1, hh.2.mono h⟩
  | .must _ _, hh => ⟨hh.1, hh.2.mono h⟩
  | .both _ _, hh => ⟨hh.1.mono h, hh.2.mono h⟩
  | .fail, hh => hh.elim
section
variable {P : Program} {C : Ctx} {K : Kx} {H H' H'' : Mem} {E E' E'' : Env} {w w' w'' : World}

/-- A step, whatever the temporaries. -/
def Mv (K : Kx) (H : Mem) (E : Env) (w : World) (c : Core) (H' : Mem) (E' : Env) (w' : World) (c' : Core) : Prop := Post K H E w c H' E' w' { c' with tm := c.tm }
theorem Post.mv {c c' : Core} (h : Post K H E w c H' E' w' c') : Mv K H E w c H' E' w' c' := by
  have := h.tm
  unfold Mv
  rw [← this]; exact h
theorem Mv.to {c c' d d' : Core} (h : Mv K H E w c H' E' w' c') (h1 : d.hp = c.hp) (h2 : d.nx = c.nx) (h3 : d.lim = c.lim) (h4 : d.tc = c.tc) (h1' : d'.hp = c'.hp) (h2' : d'.nx = c'.nx) (h3' : d'.lim = c'.lim) (h4' : d'.tc = c'.tc) : Mv K H E w d H' E' w' d' := by
  obtain ⟨t, hp, nx, lim, tc⟩ := c
  obtain ⟨t', hp', nx', lim', tc'⟩ := c'
  obtain ⟨t1, hp1, nx1, lim1, tc1⟩ := d
  obtain ⟨t2, hp2, nx2, lim2, tc2⟩ := d'
  simp only at h1 h2 h3 h4 h1' h2' h3' h4'
  subst h1 h2 h3 h4 h1' h2' h3' h4'
  exact ⟨h.Hle, h.Ele, h.new, h.nx, h.lim, h.limE, rfl, h.hp, h.wok, h.tc, h.size, h.fr, h.newb, h.tch, h.keep, h.old⟩
/-- What a step changes, whatever its new ids. -/
structure Ch (K : Kx) (H : Mem) (E : Env) (w : World) (q : List (Nat × SB)) (u : List Nat) (H' : Mem) (E' : Env) (w' : World) (q' : List (Nat × SB)) (u' : List Nat) (New : Nat → Prop) : Prop where
  Hle : H.le H'
  Ele : E.le E'
  new : ∀ i, E i = none → E' i ≠ none → New i
  hp : HeapOK K H' E' w' q'
  wok : WOK K H' w'
  tc : ∀ id ∈ u, id ∈ u'
  size : w.heap.size ≤ w'.heap.size
  fr : ∀ b, b < w.heap.size → (∀ id ∈ u', bk E id ≠ some b) → w'.heap[b]? = w.heap[b]?
  newb : ∀ i b, E i = none → bk E' i = some b → w.heap.size ≤ b ∨ ∃ id ∈ u', bk E id = some b
  tch : ∀ id ∈ u', id ∈ u ∨ E id = none ∨ ∃ sb, look? q id = some sb ∧ obk E id sb = bk E id
  keep : ∀ id sb b, look? q id = some sb → id ∉ u' → obk E id sb = some b → H' b ≠ none ∨ ∃ sb', look? q' id = some sb' ∧ obk E' id sb' = some b
  old : ∀ id sb, look? q' id = some sb → E id ≠ none → ∃ sb0, look? q id = some sb0 ∧ ∀ b, obk E' id sb = some b → obk E id sb0 = some b
theorem Mv.ch {c c' : Core} (h : Mv K H E w c H' E' w' c') : Ch K H E w c.hp c.tc H' E' w' c'.hp c'.tc (fun i => c.nx ≤ i ∧ i < c'.nx) :=
  ⟨h.Hle, h.Ele, h.new, h.hp, h.wok, h.tc, h.size, h.fr, h.newb, h.tch, h.keep, h.old⟩
theorem Ch.mv {c c' : Core} (h : Ch K H E w c.hp c.tc H' E' w' c'.hp c'.tc (fun i => c.nx ≤ i ∧ i < c'.nx)) (h1 : c.nx ≤ c'.nx) (h2 : c'.nx ≤ c.lim ∨ c'.nx = c.nx) (h3 : c'.lim = c.lim) : Mv K H E w c H' E' w' c' :=
  ⟨h.Hle, h.Ele, h.new, h1, h2, h3, rfl, h.hp, h.wok, h.tc, h.size, h.fr, h.newb, h.tch, h.keep, h.old⟩
theorem Ch.mono {hp hp' : List (Nat × SB)} {tc tc' : List Nat} {N N' : Nat → Prop} (h : Ch K H E w hp tc H' E' w' hp' tc' N) (hN : ∀ i, N i → N' i) : Ch K H E w hp tc H' E' w' hp' tc' N' :=
  { h with new := fun i h1 h2 => hN i (h.new i h1 h2) }
theorem Ch.add {hp hp' : List (Nat × SB)} {tc' : List Nat} {N : Nat → Prop} (h : Ch K H E w hp [] H' E' w' hp' tc' N) (t : List Nat) : Ch K H E w hp t H' E' w' hp' (tc' ++ t) N :=
  { h with
    tc := fun id hid => List.mem_append.2 (.inr hid)
    fr := fun b hb hne => h.fr b hb fun id hid => hne id (List.mem_append.2 (.inl hid))
    newb := fun i b h1 h2 => (h.newb i b h1 h2).imp (fun h => h) fun ⟨id, h3, h4⟩ => ⟨id, List.mem_append.2 (.inl h3), h4⟩
    tch := fun id hid => by
      rcases List.mem_append.1 hid with h1 | h1
      · rcases h.tch id h1 with h2 | h2
        · cases h2
        · exact .inr h2
      · exact .inl h1
    keep := fun id sb b h1 h2 h3 => h.keep id sb b h1 (fun h4 => h2 (List.mem_append.2 (.inl h4))) h3 }
theorem Ch.trans {hp hp1 hp2 : List (Nat × SB)} {tc tc1 tc2 : List Nat} {N : Nat → Prop} (h1 : Ch K H E w hp tc H' E' w' hp1 tc1 N) (h2 : Ch K H' E' w' hp1 tc1 H'' E'' w'' hp2 tc2 N) : Ch K H E w hp tc H'' E'' w'' hp2 tc2 N := by
  have tc1 := h1.tc
  have tc2 := h2.tc
  have noneE : ∀ {i : Nat}, E' i = none → E i = none := fun {i} h => by
    cases he : E i with
    | none => rfl
    | some v => rw [h1.Ele _ _ he] at h; cases h
  have bkE : ∀ {i b : Nat}, E i ≠ none → bk E' i = some b → bk E i = some b := fun {i b} hne h => by
    cases he : E i with
    | none => exact (hne he).elim
    | some v => simp only [bk, h1.Ele _ _ he] at h; simpa [bk, he] using h
  refine ⟨fun b o h => h2.Hle b o (h1.Hle b o h), fun i v h => h2.Ele i v (h1.Ele i v h), fun i e1 e2 => ?_, h2.hp, h2.wok, fun id h => tc2 id (tc1 id h), Nat.le_trans h1.size h2.size,
    fun b hb hne => ?_, fun i b e1 e2 => ?_, fun id hid => ?_, fun id sb b hl hn ho => ?_, fun id sb hl hne => ?_⟩
  · cases he : E' i with
    | none => exact h2.new i he e2
    | some v => exact h1.new i e1 (by rw [he]; simp)
  · rw [h2.fr b (by have := h1.size; omega) fun id hid e => ?_]
    · exact h1.fr b hb fun id hid => hne id (tc2 id hid)
    · cases he : E id with
      | none =>
        rcases h1.newb id b he e with h | ⟨id', h3, h4⟩
        · omega
        · exact hne id' (tc2 id' h3) h4
      | some v => exact hne id hid (bkE (by rw [he]; simp) e)
  · cases he : E' i with
    | none =>
      rcases h2.newb i b he e2 with h | ⟨id', h3, h4⟩
      · exact .inl (by have := h1.size; omega)
      · cases he2 : E id' with
        | none =>
          rcases h1.newb id' b he2 h4 with h | ⟨id2, h5, h6⟩
          · exact .inl h
          · exact .inr ⟨id2, tc2 _ h5, h6⟩
        | some v => exact .inr ⟨id', h3, bkE (by rw [he2]; simp) h4⟩
    | some v =>
      have e3 : bk E' i = some b := by simp only [bk, h2.Ele _ _ he] at e2; simpa [bk, he] using e2
      rcases h1.newb i b e1 e3 with h | ⟨id2, h5, h6⟩
      · exact .inl h
      · exact .inr ⟨id2, tc2 _ h5, h6⟩
  · rcases h2.tch id hid with h | h | ⟨sb, h3, h4⟩
    · exact h1.tch id h
    · exact .inr (.inl (noneE h))
    · cases he : E id with
      | none => exact .inr (.inl rfl)
      | some v =>
        obtain ⟨sb0, h5, h6⟩ := h1.old id sb h3 (by rw [he]; simp)
        refine .inr (.inr ⟨sb0, h5, ?_⟩)
        have e' : bk E' id = bk E id := by simp [bk, he, h1.Ele _ _ he]
        rw [e'] at h4
        cases hb : bk E id with
        | some b => exact h6 b (by rw [h4, hb])
        | none =>
          cases ho : obk E id sb0 with
          | none => rfl
          | some b => rw [← hb]; rw [obk_bk ho]
  · rcases h1.keep id sb b hl (fun h => hn (tc2 id h)) ho with h | ⟨sb', h3, h4⟩
    · cases hb : H' b with
      | none => exact (h hb).elim
      | some o => exact .inl (by rw [h2.Hle b o hb]; simp)
    · exact h2.keep id sb' b h3 hn h4
  · have hne' : E' id ≠ none := fun h => hne (noneE h)
    obtain ⟨sb1, h3, h4⟩ := h2.old id sb hl hne'
    obtain ⟨sb0, h5, h6⟩ := h1.old id sb1 h3 hne
    exact ⟨sb0, h5, fun b hb => h6 b (h4 b hb)⟩
theorem Mv.trans {c c1 c2 : Core} (h1 : Mv K H E w c H' E' w' c1) (h2 : Mv K H' E' w' c1 H'' E'' w'' c2) : Mv K H E w c H'' E'' w'' c2 := by
  have hnx1 : c.nx ≤ c1.nx := h1.nx
  have hnx2 : c1.nx ≤ c2.nx := h2.nx
  have hlim1 : c1.lim = c.lim := h1.limE
  have hlim2 : c2.lim = c1.lim := h2.limE
  have hl1 : c1.nx ≤ c.lim ∨ c1.nx = c.nx := h1.lim
  have hl2 : c2.nx ≤ c1.lim ∨ c2.nx = c1.nx := h2.lim
  exact ((h1.ch.mono fun i hi => ⟨hi.1, by omega⟩).trans (h2.ch.mono fun i hi => ⟨by omega, hi.2⟩)).mv (by omega) (by omega) (by omega)
theorem Mv.free {c c' : Core} (h : Mv K H E w c H' E' w' c') (hf : Free E c) : Free E' c' := by
  intro i h1 h2
  have hn : c.nx ≤ c'.nx := h.nx
  have hl : c'.lim = c.lim := h.limE
  cases he : E' i with
  | none => rfl
  | some v =>
    have := h.new i (hf i (by omega) (by omega)) (by rw [he]; simp)
    have h3 : i < c'.nx := this.2
    omega

/-- The state between two steps. -/
structure St (C : Ctx) (K : Kx) (H : Mem) (E : Env) (w : World) (c : Core) (a : Act) : Prop where
  den : DenL H E c.tm a.tmps.toList
  hp : HeapOK K H E w c.hp
  wok : WOK K H w
  free : Free E c
  gl : GlobOK C.gls H
  defers : a.defers = []

/-! Functions of which a summary is known. -/
structure SpecRes (H : Mem) (w : World) (s : Sh) (v : Value) (H' : Mem) (w' : World) : Prop where
  Hle : H.le H'
  on : H'.on w'
  os : w'.os = w.os
  tape : w'.tape = w.tape
  output : w'.output = w.output
  size : w.heap.size ≤ w'.heap.size
  old : ∀ b, b < w.heap.size → w'.heap[b]? = w.heap[b]?
  fresh : ∀ b, H' b ≠ none → H b ≠ none ∨ w.heap.size ≤ b
  res : ∀ b0 : Nat, ∃ E1 : Env, (∀ i, E1 i ≠ none → b0 ≤ i ∧ i < (ofSh s b0).2.2) ∧ (∀ i b, bk E1 i = some b → w.heap.size ≤ b) ∧ Den H' E1 (ofSh s b0).1 v ∧ HeapOK ⟨w, fun _ => False, H⟩ H' E1 w' (insAll [] (ofSh s b0).2.1)
def FnOK (P : Program) (gls : List (Nat × Sh)) (f : Nat) (F : List Sh → Tree Sh) : Prop :=
  ∀ (H : Mem) (w : World) (shs : List Sh) (args : List Value) (φ : Sh → Prop), H.on w → GlobOK gls H → RepL H shs args → (F shs).All φ →
    Calls P f args.toArray w fun e w' => ∃ v s H', e = .returned v ∧ φ s ∧ SpecRes H w s v H' w'
def SpecsOK (P : Program) (C : Ctx) : Prop := ∀ g F, C.spec g = some F → FnOK P C.gls g F

theorem look_insAll : ∀ (l hp : List (Nat × SB)) (i : Nat), look? (insAll hp l) i = match look? (insAll [] l) i with | some x => some x | none => look? hp i
  | [], hp, i => by simp [insAll, look?]
  | (j, b) :: l, hp, i => by
    rw [insAll, insAll, look_insAll l (hins hp j b), look_insAll l (hins [] j b), look_hins, look_hins]
    cases look? (insAll [] l) i with
    | some x => rfl
    | none => cases h : (j == i) <;> simp [look?]
mutual
theorem ofSh_le : ∀ (s : Sh) (b : Nat), b ≤ (ofSh s b).2.2
  | .os _ _ _ _, b => by simp [ofSh]
  | .agg l, b => by simpa [ofSh] using ofShL_le l b
  | .tup l, b => by simpa [ofSh] using ofShL_le l b
  | .i _ _, b => Nat.le_refl _
  | .b _, b => Nat.le_refl _
  | .v _, b => Nat.le_refl _
  | .str _, b => Nat.le_refl _
  | .sl _ _ _, b => Nat.le_refl _
  | .ifc _ _, b => Nat.le_refl _
  | .fn _ _, b => Nat.le_refl _
  | .er _ _, b => Nat.le_refl _
  | .pt _, b => Nat.le_refl _
theorem ofShL_le : ∀ (l : List Sh) (b : Nat), b ≤ (ofShL l b).2.2
  | [], b => Nat.le_refl _
  | x :: r, b => by simpa [ofShL] using Nat.le_trans (ofSh_le x b) (ofShL_le r _)
end
theorem Ent.world {K1 : Kx} {id : Nat} {sb : SB} (h : Ent K1 H E w id sb) (hE : E.le E') (hm : ∀ b, Mine K1 H b → Mine K H b) : Ent K H E' w id sb := by
  cases sb with
  | box cells elem => obtain ⟨b, cs, he, h1, h2, h3⟩ := h; exact ⟨b, cs, hE _ _ he, h1, h2.le (fun _ _ e => e) hE, hm _ h3⟩
  | row cells elem st n => obtain ⟨v, xs, he, h1, h2, h3⟩ := h; exact ⟨v, xs, hE _ _ he, h1, h2.le (fun _ _ e => e) hE, fun b hb => hm _ (h3 b hb)⟩
  | own elem st n g => obtain ⟨v, xs, he, h1, h2, h3⟩ := h; exact ⟨v, xs, hE _ _ he, h1, h2, fun b hb => hm _ (h3 b hb)⟩
  | fz st n g => obtain ⟨v, he, h1⟩ := h; exact ⟨v, hE _ _ he, h1⟩
  | map es => obtain ⟨b, ms, clk, he, h1, h2, h3⟩ := h; exact ⟨b, ms, clk, hE _ _ he, h1, h2.le (fun _ _ e => e) hE, hm _ h3⟩
  | fzb l => obtain ⟨v, he, h1⟩ := h; exact ⟨v, hE _ _ he, h1⟩
  | ownx elem st n g more => obtain ⟨v, xs, ys, he, h1, h2, h3, h4, h5, h6⟩ := h; exact ⟨v, xs, ys, hE _ _ he, h1, h2, h3.le (fun _ _ e => e) hE, h4, h5, fun b hb => hm _ (h6 b hb)⟩
  | fm k M fs us tag => obtain ⟨b, ms, clk, fv, uv, he, h1, h2, h3, h4, h5, h6, h7⟩ := h; exact ⟨b, ms, clk, fv, uv, hE _ _ he, h1, h2.le (fun _ _ e => e) hE, h3.le (fun _ _ e => e) hE, h4, h5, h6.le hE, hm _ h7⟩

/-- What a call leaves. -/
def CallOut (P : Program) (K : Kx) (H : Mem) (E : Env) (w : World) (c : Core) (g : Nat) (vargs : List Value) (φ : SV × Core → Prop) : Prop :=
  Calls P g vargs.toArray w fun e w' => ∃ p v H' E', e = .returned v ∧ φ p ∧ Den H' E' p.1 v ∧ Post K H E w c H' E' w' p.2
theorem spread_ok (hS : SpecsOK P C) {c : Core} {g : Nat} {F : List Sh → Tree Sh} {args : List SV} {vargs : List Value} {φ : SV × Core → Prop} (hF : C.spec g = some F) (hh : HeapOK K H E w c.hp) (hw : WOK K H w) (hf : Free E c)
    (hg : GlobOK C.gls H) (hd : DenL H E args vargs) (h : (spread c F args).All φ) : CallOut P K H E w c g vargs φ := by
  unfold spread at h
  split at h
  · exact h.elim
  · rename_i hp hfz
    obtain ⟨H1, hH, hh1, hw1, hz⟩ := freeze_ok hfz hh hw
    split at h
    · exact h.elim
    · rename_i shs hsh
      have hrep := toShL_rep hh1 hsh (hd.le hH fun _ _ e => e)
      refine Calls.mono (hS g F hF H1 w shs vargs _ hw1.on (hg.le hH) hrep (Tree.All_bind h)) fun e w' ⟨v, s, H', he, hφ, r⟩ => ?_
      obtain ⟨E1, r1, r2, r3, r4⟩ := r.res c.nx
      cases hb : Nat.ble (ofSh s c.nx).2.2 c.lim <;> simp only [hb, cond_true, cond_false] at hφ
      · exact hφ.elim
      have hb := Nat.le_of_ble_eq_true hb
      have hge := ofSh_le s c.nx
      have E1none : ∀ i u, E i = some u → E1 i = none := fun i u hu => by
        cases h1 : E1 i with
        | none => rfl
        | some u' =>
          have := r1 i (by rw [h1]; simp)
          have := hf i this.1 (by omega)
          rw [this] at hu; cases hu
      let E2 : Env := fun i => match E1 i with | some u => some u | none => E i
      have hE : E.le E2 := fun i u hu => by simp [E2, E1none i u hu, hu]
      have hE1 : E1.le E2 := fun i u hu => by simp [E2, hu]
      have conv : ∀ i, E i = none → E2 i = E1 i := fun i hi => by simp only [E2, hi]; cases E1 i <;> rfl
      have hold : ∀ {id : Nat} {sb : SB}, Ent K H1 E w id sb → Ent K H' E2 w' id sb := fun {id sb} hent =>
        hent.kept r.Hle hE (fun b hb => r.old b (hent.lt hb).1) fun b hb => by
          cases hx : H' b with
          | none => rfl
          | some o =>
            rcases r.fresh b (by rw [hx]; simp) with h | h
            · exact (h (hent.lt hb).2.1).elim
            · have := (hent.lt hb).1; omega
      have hnew : ∀ {id : Nat} {sb : SB}, look? (insAll [] (ofSh s c.nx).2.1) id = some sb → Ent K H' E2 w' id sb ∧ (∀ b, obk E2 id sb = some b → w.heap.size ≤ b ∧ obk E1 id sb = some b) ∧ E id = none := fun {id sb} hl => by
        have hent := r4.ent _ _ hl
        refine ⟨hent.world hE1 fun b hm => ⟨hm.1, ?_⟩, fun b ho => ?_, ?_⟩
        · rcases hm.2 with h | h
          · exact .inl (Nat.le_trans hw.size h)
          · exact h.elim
        · rw [obk_eq hent hE1] at ho
          exact ⟨r2 id b (obk_bk ho), ho⟩
        · obtain ⟨u, hu⟩ := hent.some_
          have := r1 id (by rw [hu]; simp)
          exact hf id this.1 (by omega)
      refine ⟨_, v, H', E2, he, hφ, r3.le (fun _ _ e => e) hE1, fun b o h => r.Hle b o (hH b o h), hE, fun i h1 h2 => ?_, hge, .inl hb, rfl, rfl, ⟨fun id sb hl => ?_, fun id id' sb sb' b h1 h2 o1 o2 => ?_⟩,
        ⟨r.os.trans hw.os, r.tape.trans hw.tape, r.output.trans hw.output, Nat.le_trans hw.size r.size, fun b hb hn => ?_, r.on, fun b o h => r.Hle b o (hw1.le b o h), fun b hb => ?_⟩, fun _ h => h, r.size, fun b hb _ => r.old b hb, fun i b h1 h2 => ?_,
        fun _ h => .inl h, fun id sb b hl _ ho => ?_, fun id sb hl hne => ?_⟩
      · rw [conv i h1] at h2
        exact r1 i h2
      · have hl : look? (insAll hp (ofSh s c.nx).2.1) id = some sb := hl
        rw [look_insAll] at hl
        split at hl
        · rename_i x hx
          cases hl
          exact (hnew hx).1
        · exact hold (hh1.ent _ _ hl)
      · have h1 : look? (insAll hp (ofSh s c.nx).2.1) id = some sb := h1
        have h2 : look? (insAll hp (ofSh s c.nx).2.1) id' = some sb' := h2
        rw [look_insAll] at h1 h2
        split at h1
        · rename_i x hx
          cases h1
          split at h2
          · rename_i y hy
            cases h2
            exact r4.dis _ _ _ _ _ hx hy ((hnew hx).2.1 b o1).2 ((hnew hy).2.1 b o2).2
          · have a1 := ((hnew hx).2.1 b o1).1
            rw [obk_eq (hh1.ent _ _ h2) hE] at o2
            have := ((hh1.ent _ _ h2).lt o2).1
            omega
        · rw [obk_eq (hh1.ent _ _ h1) hE] at o1
          have a0 := ((hh1.ent _ _ h1).lt o1).1
          split at h2
          · rename_i y hy
            cases h2
            have a1 := ((hnew hy).2.1 b o2).1
            omega
          · rw [obk_eq (hh1.ent _ _ h2) hE] at o2
            exact hh1.dis _ _ _ _ _ h1 h2 o1 o2
      · rw [r.old b (by have := hw.size; omega)]
        exact hw.kept b hb hn
      · rcases r.fresh b hb with h | h
        · exact hw1.fresh b h
        · exact .inr (.inl (Nat.le_trans hw.size h))
      · simp only [bk, conv i h1] at h2
        exact .inl (r2 i b h2)
      · rcases hz.keep id sb b hl ho with h | h
        · left
          cases hb : H1 b with
          | none => exact (h hb).elim
          | some o => rw [r.Hle b o hb]; simp
        · refine .inr ⟨sb, ?_, obk_le ho hE⟩
          show look? (insAll hp (ofSh s c.nx).2.1) id = some sb
          rw [look_insAll]
          split
          · rename_i x hx
            obtain ⟨u, hu⟩ := (hh.ent _ _ hl).some_
            have := (hnew hx).2.2
            rw [hu] at this; cases this
          · exact h
      · have hl : look? (insAll hp (ofSh s c.nx).2.1) id = some sb := hl
        rw [look_insAll] at hl
        split at hl
        · rename_i x hx
          exact (hne (hnew hx).2.2).elim
        · obtain ⟨sb0, h3, h4⟩ := hz.old id sb hl
          exact ⟨sb0, h3, fun b hb => h4 b (by rw [obk_eq (hh1.ent _ _ hl) hE] at hb; exact hb)⟩
end
end Go.Sx
namespace Go.Sx
/-- A function that can be entered. -/
def Enters (P : Program) (g : Nat) : Prop := ∃ fn, P.funcs[g]? = some fn ∧ fn.body.isSome = true ∧ fn.name ≠ "runtime.NumGoroutine"
structure FnsOK (P : Program) (C : Ctx) : Prop where
  sp : SpecsOK P C
  en : ∀ g, (C.spec g).isSome = true ∨ (C.fns.get g).isSome = true → Enters P g
section
variable {P : Program} {C : Ctx} {K : Kx} {H H' H'' : Mem} {E E' E'' : Env} {w w' w'' : World}

theorem callFunc_run {g : Nat} (h : Enters P g) (args : Array Value) (w : World) : (callFunc g args).run P w = .ok (.enter g args) w := by
  obtain ⟨fn, h1, h2, h3⟩ := h
  have hb : fn.body ≠ none := by cases hb : fn.body <;> simp [hb] at h2 ⊢
  unfold callFunc
  rw [Sem.run_bind, run_program]
  simp [h1, h3, hb]

/-- The outcome of an operation. -/
def OpOut (P : Program) (K : Kx) (H : Mem) (E : Env) (w : World) (c : Core) (a : Act) (o : Oper) (φ : SV × Core → Prop) : Prop :=
  ∀ (next : Act → World → Prop) (Q : Exit → Act → World → Prop),
    (∀ (p : SV × Core) (v : Value) (H' : Mem) (E' : Env) (w' : World), φ p → Den H' E' p.1 v → Post K H E w c H' E' w' p.2 → next (a.put o.dst v) w') → o.wp P a w next Q
theorem WOut.op {c : Core} {a : Act} {o : Oper} {φ : SV × Core → Prop} (h : WOut P K H E w c a o φ) : OpOut P K H E w c a o φ := by
  obtain ⟨p, v, r, H', E', w', h1, h2, h3, h4, h5⟩ := h
  intro next Q hn
  unfold Oper.wp
  rw [h5]
  rcases h4 with rfl | ⟨rfl, rfl⟩
  · exact hn p v H' E' w' h1 h2 h3
  · exact hn p _ H' E' w' h1 h2 h3
/-- What a nested run gives. -/
def CallHyp (P : Program) (C : Ctx) (K : Kx) (call : Nat → List SV → Core → Tree (SV × Core)) : Prop :=
  ∀ (H : Mem) (E : Env) (w : World) (c : Core) (g : Nat) (args : List SV) (vargs : List Value) (φ : SV × Core → Prop), DenL H E args vargs → HeapOK K H E w c.hp → WOK K H w → Free E c → GlobOK C.gls H →
    (call g args c).All φ → Enters P g ∧ CallOut P K H E w c g vargs φ
theorem noCall_hyp : CallHyp P C K noCall := fun _ _ _ _ _ _ _ _ _ _ _ _ _ h => h.elim
theorem den_map {a : Act} {tm : List SV} (hd : DenL H E tm a.tmps.toList) : ∀ xs : List Operand, DenL H E (xs.map (evL tm)) (xs.map a.eval)
  | [] => trivial
  | x :: xs => ⟨den_ev hd x, den_map hd xs⟩
theorem exec_call {call : Nat → List SV → Core → Tree (SV × Core)} {c : Core} {a : Act} {o : Oper} {k : Call} {f : Operand} {φ : SV × Core → Prop} (hF : FnsOK P C) (hK : CallHyp P C K call) (st : St C K H E w c a) (ho : o.op = .call k)
    (hf : k.callee = .value f) (h : (match evL c.tm f with
      | .fn g cs => match C.spec g with
        | some F => spread c F (k.args.toList.map (evL c.tm) ++ cs)
        | none => call g (k.args.toList.map (evL c.tm) ++ cs) c
      | _ => .fail).All φ) : OpOut P K H E w c a o φ := by
  have df := den_ev (H := H) (E := E) st.den f
  split at h
  · rename_i g cs hg
    rw [hg] at df
    obtain ⟨vs, ef, hvs⟩ := df
    have hargs := (den_map st.den k.args.toList).append hvs
    have key : Enters P g ∧ CallOut P K H E w c g (k.args.toList.map a.eval ++ vs.toList) φ := by
      split at h
      · rename_i F hF2
        exact ⟨hF.en g (.inl (by rw [hF2]; rfl)), spread_ok hF.sp hF2 st.hp st.wok st.free st.gl hargs h⟩
      · exact hK H E w c g _ _ φ hargs st.hp st.wok st.free st.gl h
    intro next Q hn
    have hr : (execOp a.eval o).run P w = .ok (.enter g (k.args.map a.eval ++ vs)) w := by
      simp only [execOp, ho, resolve, hf]
      simp [Deferred.ofValue, ef, invoke, callFunc_run key.1]
    unfold Oper.wp
    rw [hr]
    have he : (k.args.toList.map a.eval ++ vs.toList).toArray = k.args.map a.eval ++ vs := by
      apply Array.toList_inj.1; simp
    have := key.2
    unfold CallOut at this
    rw [he] at this
    refine Calls.mono this fun e w' ⟨p, v, H', E', e1, e2, e3, e4⟩ => ?_
    subst e1
    exact hn p v H' E' w' e2 e3 e4
  · exact h.elim
theorem exec0_ok {call : Nat → List SV → Core → Tree (SV × Core)} {c : Core} {a : Act} {o : Oper} {φ : SV × Core → Prop} (hC : CtxOK P C) (hF : FnsOK P C) (hK : CallHyp P C K call) (st : St C K H E w c a)
    (h : (exec0 C call c o).All φ) : OpOut P K H E w c a o φ := by
  by_cases hq : quietKind o.op = true
  · exact ((exec0_quiet hC st.den st.hp st.gl hq h).toW st.hp st.wok).op
  unfold exec0 at h
  split at h
  case h_4 e ho => exact (w_alloc hC st.hp st.wok st.free ho h).op
  case h_5 e x ho => exact (w_box st.den st.hp st.wok st.free ho h).op
  case h_7 t n parts ho => exact (w_buildSlice hC st.den st.hp st.wok st.free ho h).op
  case h_9 t x v ho => exact (w_store hC st.den st.hp st.wok ho h).op
  case h_20 t ho => exact (w_makeMap st.hp st.wok st.free ho h).op
  case h_21 t l k ho =>
    refine (w_makeSlice hC st.den st.hp st.wok st.free ho (fun hs => ?_) h).op
    split at hs
    · rename_i i j
      obtain rfl : i = j := by simpa using hs
      rfl
    · cases hs
  case h_22 t x lo hi ho => exact (w_slice hC st.den st.hp st.wok ho h).op
  case h_24 t m k v ho => exact (w_mapSet hC st.den st.hp st.wok (.inr ho) h).op
  case h_25 t m k v ho => exact (w_mapSet hC st.den st.hp st.wok (.inl ho) h).op
  case h_26 t m k ho => exact (w_mapEntry hC st.den st.hp st.wok st.free ho h).op
  case h_27 t m s v ho => exact (w_entryStore st.den st.hp st.wok ho h).op
  case h_28 k ho =>
    unfold execCall at h
    split at h
    · rename_i b hb
      obtain ⟨callee, xs, ts⟩ := k
      simp only at hb
      subst hb
      simp only at h
      split at h
      · rename_i x t h1 h2
        rw [ho] at hq; simp [quietKind] at hq
      · rename_i m k t r h1 h2
        have e1 : xs = #[m, k] := by cases xs; simp at h1; subst h1; rfl
        subst e1
        have e2 : ts[0]? = some t := by rw [← Array.getElem?_toList, h2]; rfl
        exact (w_delete hC st.den st.hp st.wok ho e2 h).op
      · rename_i s x t u h1 h2
        cases hu : (t == u) <;> simp only [hu, cond_true, cond_false] at h
        · exact h.elim
        obtain rfl : t = u := by simpa using hu
        have e1 : xs = #[s, x] := by cases xs; simp at h1; subst h1; rfl
        have e2 : ts = #[t, t] := by cases ts; simp at h2; subst h2; rfl
        subst e1 e2
        exact (w_append hC st.den st.hp st.wok st.free ho h).op
      · rw [ho] at hq; simp [quietKind] at hq
      · rw [ho] at hq; simp [quietKind] at hq
      · exact h.elim
    · rename_i f hb
      exact exec_call hF hK st ho hb h
    · exact h.elim
  case h_29 => exact h.elim
  all_goals
    rename_i ho
    rw [ho] at hq
    simp [quietKind] at hq

theorem exec_ok {call : Nat → List SV → Core → Tree (SV × Core)} {c : Core} {a : Act} {o : Oper} {φ : SV × Core → Prop} (hC : CtxOK P C) (hF : FnsOK P C) (hK : CallHyp P C K call) (st : St C K H E w c a)
    (h : (exec C call c o).All φ) : OpOut P K H E w c a o φ := by
  obtain ⟨ψ, h, hψ⟩ := exec_hard h
  intro next Q hn
  refine exec0_ok hC hF hK st h next Q fun p v H' E' w' h1 h2 h3 => ?_
  obtain ⟨x, q1, q2⟩ := hψ p h1
  exact hn (x, p.2) v H' E' w' q1 (q2 _ _ _ h2) h3

/-! One operation of a region. -/
theorem den_put {c : Core} {a : Act} (hd : DenL H E c.tm a.tmps.toList) (dst : Option Nat) {sv : SV} {v : Value} (hv : Den H E sv v) : DenL H E (putS c.tm dst sv) (a.put dst v).tmps.toList := by
  cases dst with
  | none => exact hd
  | some d =>
    simp only [putS, Act.put, Array.toList_setIfInBounds]
    exact hd.set d hv
theorem put_defers {a : Act} {dst : Option Nat} {v : Value} : (a.put dst v).defers = a.defers := by cases dst <;> rfl
theorem St.step {c c' : Core} {a : Act} (st : St C K H E w c a) (dst : Option Nat) {sv : SV} {v : Value} (hv : Den H' E' sv v) (hp : Post K H E w c H' E' w' c') : St C K H' E' w' (c'.put dst sv) (a.put dst v) := by
  refine ⟨?_, hp.hp, hp.wok, ?_, st.gl.le hp.Hle, by rw [put_defers]; exact st.defers⟩
  · have := den_put (c := c') (a := a) (by rw [hp.tm]; exact st.den.le hp.Hle hp.Ele) dst hv
    exact this
  · exact hp.mv.free st.free
theorem St.put {c : Core} {a : Act} (st : St C K H E w c a) (dst : Option Nat) {sv : SV} {v : Value} (hv : Den H E sv v) : St C K H E w (c.put dst sv) (a.put dst v) :=
  ⟨den_put st.den dst hv, st.hp, st.wok, st.free, st.gl, by rw [put_defers]; exact st.defers⟩
theorem St.know {c : Core} {a : Act} (st : St C K H E w c a) {d : Nat} {b : Bool} (hd : c.tm.getD d .any = .test b) : St C K H E w (c.put (some d) (.bool b)) a := by
  refine ⟨?_, st.hp, st.wok, st.free, st.gl, st.defers⟩
  have h1 : c.tm[d]? = some (.test b) := by
    rw [List.getD_eq_getElem?_getD] at hd
    cases h : c.tm[d]? with
    | none => simp [h] at hd
    | some x => simp [h] at hd; rw [hd]
  obtain ⟨v, e1, e2⟩ := st.den.get h1
  have e2 : v = .bool b := e2
  subst e2
  have h2 := st.den.set d (s := .bool b) (v := .bool b) rfl
  have h3 : a.tmps.toList.set d (.bool b) = a.tmps.toList := by
    apply List.ext_getElem?
    intro j
    by_cases hj : d = j
    · subst hj
      have : d < a.tmps.toList.length := (List.getElem?_eq_some_iff.1 e1).1
      rw [List.getElem?_set_self this, e1]
    · rw [List.getElem?_set_ne hj]
  rw [h3] at h2
  exact h2
theorem den_getD {tm : List SV} {a : Act} (hd : DenL H E tm a.tmps.toList) {d : Nat} {sv : SV} (h : tm.getD d .any = sv) (hne : sv ≠ .any) : ∃ v, a.tmps[d]? = some v ∧ Den H E sv v := by
  have h1 : tm[d]? = some sv := by
    rw [List.getD_eq_getElem?_getD] at h
    cases h' : tm[d]? with
    | none => simp [h'] at h; exact (hne h.symm).elim
    | some x => simp [h'] at h; rw [h]
  obtain ⟨v, e1, e2⟩ := hd.get h1
  exact ⟨v, by rw [← Array.getElem?_toList]; exact e1, e2⟩
/-- What 'wantOf' says. -/
theorem wantOf_spec {ops : Array Oper} {tm : List SV} {a : Act} (hd : DenL H E tm a.tmps.toList) (o : Oper) :
    match wantOf ops.toList tm o with
    | .yes => Region.wanted o (yielded ops a.tmps) = true
    | .no => Region.wanted o (yielded ops a.tmps) = false
    | .ask d c b => tm.getD d .any = .test c ∧ Region.wanted o (yielded ops a.tmps) = (c == b)
    | .lost => True := by
  unfold wantOf Region.wanted
  cases hg : o.guard with
  | none => rfl
  | some jb =>
    obtain ⟨j, b⟩ := jb
    simp only
    have hop : opAt ops.toList j = ops[j]? := by simp [opAt]
    rw [hop]
    cases hds : (ops[j]?).bind (·.dst) with
    | none => trivial
    | some d =>
      simp only
      have hy : ∀ c : Bool, a.tmps[d]? = some (.bool c) → yielded ops a.tmps j = some c := fun c hc => by
        simp [yielded, hds, hc]
      cases hx : tm.getD d .any with
      | bool c =>
        obtain ⟨v, e1, e2⟩ := den_getD hd hx (by simp)
        have e2 : v = .bool c := e2
        subst e2
        have := hy c e1
        cases c <;> cases b <;> simp [this]
      | test c =>
        obtain ⟨v, e1, e2⟩ := den_getD hd hx (by simp)
        have e2 : v = .bool c := e2
        subst e2
        have := hy c e1
        refine ⟨hx, ?_⟩
        rw [this]
        cases c <;> cases b <;> rfl
      | tup l =>
        obtain ⟨v, e1, e2⟩ := den_getD hd hx (by simp)
        obtain ⟨vs, rfl, _⟩ := e2
        have : yielded ops a.tmps j = none := by simp [yielded, hds, e1]
        rw [this]; rfl
      | _ => trivial
theorem skV_ok {ops : List Oper} {i : Nat} : Den H E (skV ops i) undef := by
  unfold skV
  cases ops.any (fun o => match o.guard with | some (j, _) => Nat.beq j i | none => false)
  · trivial
  · exact ⟨#[], rfl, trivial⟩
/-- The outcome of a step. -/
def StepOut (P : Program) (C : Ctx) (K : Kx) (H : Mem) (E : Env) (w : World) (c : Core) (a : Act) (ops : Array Oper) (i : Nat) (φ : Core → Prop) : Prop :=
  ∀ (next : Act → World → Prop) (Q : Exit → Act → World → Prop),
    (∀ (c' : Core) (a' : Act) (H' : Mem) (E' : Env) (w' : World), φ c' → St C K H' E' w' c' a' → Mv K H E w c H' E' w' c' → (∃ v, a' = a.put ((ops[i]?).bind (·.dst)) v) → next a' w') → wpOp P ops Q i next a w
theorem mv_refl {c c' : Core} {a : Act} (st : St C K H E w c a) (h1 : c'.hp = c.hp) (h2 : c'.nx = c.nx) (h3 : c'.lim = c.lim) (h4 : c'.tc = c.tc) : Mv K H E w c H E w c' :=
  (Post.refl st.hp st.wok).mv.to rfl rfl rfl rfl h1 h2 h3 h4
theorem doOp_ok {call : Nat → List SV → Core → Tree (SV × Core)} {c : Core} {a : Act} {ops : Array Oper} {i : Nat} {o : Oper} {φ : Core → Prop} (hC : CtxOK P C) (hF : FnsOK P C) (hK : CallHyp P C K call) (st : St C K H E w c a)
    (hi : ops[i]? = some o) (hw : Region.wanted o (yielded ops a.tmps) = true) (h : (doOp C call c o).All φ) : StepOut P C K H E w c a ops i φ := by
  intro next Q hn
  unfold wpOp
  simp only [hi, hw, if_true]
  refine .inl (exec_ok hC hF hK st (Tree.All_bind h) next Q fun p v H' E' w' h1 h2 h3 => ?_)
  exact hn _ _ H' E' w' h1 (st.step o.dst h2 h3) (h3.mv.to rfl rfl rfl rfl rfl rfl rfl rfl) ⟨v, by rw [hi]; rfl⟩
theorem skipOp_ok {c : Core} {a : Act} {ops : Array Oper} {i : Nat} {o : Oper} {φ : Core → Prop} (st : St C K H E w c a)
    (hi : ops[i]? = some o) (hw : Region.wanted o (yielded ops a.tmps) = false) (h : φ (c.put o.dst (skV ops.toList i))) : StepOut P C K H E w c a ops i φ := by
  intro next Q hn
  unfold wpOp
  simp only [hi, hw]
  exact hn _ _ H E w h (st.put o.dst skV_ok) (mv_refl st rfl rfl rfl rfl) ⟨undef, by rw [hi]; rfl⟩
theorem opStep_ok {call : Nat → List SV → Core → Tree (SV × Core)} {c : Core} {a : Act} {ops : Array Oper} {i : Nat} {φ : Core → Prop} (hC : CtxOK P C) (hF : FnsOK P C) (hK : CallHyp P C K call) (st : St C K H E w c a)
    (h : (opStep C call ops.toList c i).All φ) : StepOut P C K H E w c a ops i φ := by
  unfold opStep at h
  have hop : opAt ops.toList i = ops[i]? := by simp [opAt]
  rw [hop] at h
  split at h
  · rename_i hi
    intro next Q hn
    unfold wpOp
    simp only [hi]
    exact hn _ _ H E w h st (mv_refl st rfl rfl rfl rfl) ⟨undef, by rw [hi]; rfl⟩
  · rename_i o hi
    have hs := wantOf_spec (ops := ops) st.den o
    split at h
    · rename_i hw
      rw [hw] at hs
      exact doOp_ok hC hF hK st hi hs h
    · rename_i hw
      rw [hw] at hs
      exact skipOp_ok st hi hs h
    · rename_i d t b hw
      rw [hw] at hs
      obtain ⟨h1, h2⟩ := hs
      have key : ∀ v : Bool, t = v → (let c' := c.put (some d) (.bool v); bif v == b then doOp C call c' o else .leaf (c'.put o.dst (skV ops.toList i))).All φ → StepOut P C K H E w c a ops i φ := fun v hv hh => by
        subst hv
        have st' := st.know h1
        have mvc : Mv K H E w c H E w (c.put (some d) (.bool t)) := mv_refl st rfl rfl rfl rfl
        intro next Q hn
        cases hb : (t == b) <;> simp only [hb, cond_true, cond_false] at hh
        · refine skipOp_ok (P := P) st' hi (by rw [h2, hb]) hh next Q fun c' a' H' E' w' e1 e2 e3 e4 => hn c' a' H' E' w' e1 e2 (mvc.trans e3) e4
        · refine doOp_ok hC hF hK st' hi (by rw [h2, hb]) hh next Q fun c' a' H' E' w' e1 e2 e3 e4 => hn c' a' H' E' w' e1 e2 (mvc.trans e3) e4
      cases t with
      | true => exact key true rfl (by have := h.1 rfl; cases b <;> simpa using this)
      | false => exact key false rfl (by have := h.2 rfl; cases b <;> simpa using this)
    · exact h.elim
end
end Go.Sx
namespace Go.Sx
section
variable {P : Program} {C : Ctx} {K : Kx} {H H' H'' : Mem} {E E' E'' : Env} {w w' w'' : World}

theorem needs_all {α : Type} {φ : α → Prop} : ∀ {bs : List Bool} {t : Tree α}, (needs t bs).All φ → (∀ b ∈ bs, b = true) ∧ t.All φ
  | [], _, h => ⟨fun _ h => (by cases h), h⟩
  | b :: r, t, h => by
    obtain ⟨h1, h2⟩ := h
    obtain ⟨h3, h4⟩ := needs_all h2
    refine ⟨fun x hx => ?_, h4⟩
    cases hx with
    | head => exact h1
    | tail _ hx => exact h3 x hx
theorem nonAny_some {r : Option (List Bool × SV)} {x : List Bool × SV} (h : nonAny r = some x) : r = some x := by
  unfold nonAny at h
  split at h
  · cases h
  · exact h
theorem quietLeaf_sub : ∀ {t : Tree (SV × Core)} {bs bs' : List Bool} {v : SV}, quietLeaf t bs = some (bs', v) → ∀ b ∈ bs, b ∈ bs'
  | .leaf _, _, _, _, h => by simp [quietLeaf] at h; obtain ⟨rfl, _⟩ := h; exact fun _ h => h
  | .need b t, bs, bs', v, h => fun x hx => quietLeaf_sub (t := t) h x (List.mem_cons_of_mem _ hx)
  | .node _ _ _, _, _, _, h => by simp [quietLeaf] at h
  | .both _ _, _, _, _, h => by simp [quietLeaf] at h
  | .must _ _, _, _, _, h => by simp [quietLeaf] at h
  | .fail, _, _, _, h => by simp [quietLeaf] at h
theorem quietLeaf_all : ∀ {t : Tree (SV × Core)} {bs bs' : List Bool} {v : SV}, quietLeaf t bs = some (bs', v) → (∀ b ∈ bs', b = true) → t.All fun p => p.1 = v
  | .leaf _, _, _, _, h, _ => by simp [quietLeaf] at h; exact h.2
  | .need b t, bs, bs', v, h, hb => ⟨hb b (quietLeaf_sub (t := t) h b (List.mem_cons_self ..)), quietLeaf_all (t := t) h hb⟩
  | .node _ _ _, _, _, _, h, _ => by simp [quietLeaf] at h
  | .both _ _, _, _, _, h, _ => by simp [quietLeaf] at h
  | .must _ _, _, _, _, h, _ => by simp [quietLeaf] at h
  | .fail, _, _, _, h, _ => by simp [quietLeaf] at h
theorem allOf_all {α : Type} {φ : α → Prop} {f : Nat → Tree α} : ∀ {rs : List Nat}, (allOf f rs).All φ → ∀ i ∈ rs, (f i).All φ
  | [], h, _, _ => h.elim
  | [i], h, j, hj => by simp at hj; subst hj; exact h
  | i :: k :: r, h, j, hj => by
    obtain ⟨h1, h2⟩ := h
    cases hj with
    | head => exact h1
    | tail _ hj => exact allOf_all h2 j hj
theorem firstQ_spec {opsA : Array Oper} {lock : List (Nat × SB)} {listed : Array Bool} {tm0 : List SV} {c : Core} {q : Quiet} : ∀ {rs : List Nat}, firstQ C opsA lock listed tm0 c rs = q → q ≠ .no → ∃ i ∈ rs, quiet1 C opsA lock listed tm0 c i = q
  | [], h, hn => by simp [firstQ] at h; exact (hn h.symm).elim
  | i :: r, h, hn => by
    unfold firstQ at h
    split at h
    · obtain ⟨j, h1, h2⟩ := firstQ_spec h hn
      exact ⟨j, List.mem_cons_of_mem _ h1, h2⟩
    · exact ⟨i, List.mem_cons_self .., h⟩
theorem countP_lt {p q : Nat → Bool} {i : Nat} : ∀ {l : List Nat}, (∀ x, q x = true → p x = true) → i ∈ l → p i = true → q i = false → l.countP q < l.countP p
  | [], _, h, _, _ => by cases h
  | x :: l, hpq, h, h1, h2 => by
    have hle : l.countP q ≤ l.countP p := List.countP_mono_left fun x _ h => hpq x h
    rw [List.countP_cons, List.countP_cons]
    cases h with
    | head => simp [h1, h2]; omega
    | tail _ h =>
      have := countP_lt hpq h h1 h2
      by_cases hq : q x = true
      · simp [hq, hpq x hq]; omega
      · simp [hq]; omega
def cnt (ops : Array Oper) (listed : Array Bool) : Nat := (List.range ops.size).countP fun j => !listed.getD j true
theorem cnt_set {ops : Array Oper} {listed : Array Bool} {i : Nat} (hi : i < ops.size) (hu : listed.getD i true = false) : cnt ops (listed.setIfInBounds i true) < cnt ops listed := by
  have hs : i < listed.size := by
    rcases Nat.lt_or_ge i listed.size with h | h
    · exact h
    · simp [Array.getElem?_eq_none h] at hu
  refine countP_lt (i := i) (fun x hx => ?_) (List.mem_range.2 hi) (by rw [hu]; rfl) (by simp [hs])
  by_cases hxi : i = x
  · subst hxi; rw [hu]; rfl
  · rw [getD_set_ne true hxi] at hx; exact hx
theorem lock_not {unl : List Nat} : ∀ {hp : List (Nat × SB)} {id : Nat} {sb : SB}, look? (lockHp hp unl) id = some sb → unl.contains id = false
  | [], _, _, h => by simp [lockHp, look?] at h
  | (j, x) :: l, id, sb, h => by
    unfold lockHp at h
    cases hu : unl.contains j <;> simp only [hu, cond_true, cond_false] at h
    · simp only [look?] at h
      cases hj : (j == id) <;> simp only [hj, cond_true, cond_false] at h
      · exact lock_not h
      · obtain rfl : j = id := by simpa using hj
        exact hu
    · exact lock_not h
theorem lock_look {unl : List Nat} : ∀ {hp : List (Nat × SB)} {id : Nat} {sb : SB}, look? (lockHp hp unl) id = some sb → look? hp id = some sb
  | [], _, _, h => h
  | (j, x) :: l, id, sb, h => by
    have hn := lock_not h
    unfold lockHp at h
    cases hu : unl.contains j <;> simp only [hu, cond_true, cond_false] at h
    · simp only [look?] at h ⊢
      cases hj : (j == id) <;> simp only [hj, cond_true, cond_false] at h ⊢
      · exact lock_look h
      · exact h
    · have h := lock_look h
      simp only [look?]
      cases hj : (j == id) <;> simp only [cond_true, cond_false]
      · exact h
      · obtain rfl : j = id := by simpa using hj
        rw [hn] at hu; cases hu
/-- The state within a region: how it began, and how far it is. -/
structure Rg (C : Ctx) (K : Kx) (opsA : Array Oper) (base stp : Nat) (lock : List (Nat × SB)) (H0 : Mem) (E0 : Env) (w0 : World) (c0 : Core) (H : Mem) (E : Env) (w : World) (c : Core) (a : Act) (listed : Array Bool) (tm0 : List SV) : Prop where
  st : St C K H E w c a
  nx : c.nx = 0
  lim : c.lim = 0
  free : ∀ j, j < opsA.size → listed.getD j true = false → ∀ id, base + stp * j ≤ id → id < base + stp * (j + 1) → E id = none
  den0 : DenL H0 E0 tm0 a.tmps.toList
  ch : Ch K H0 E0 w0 c0.hp c0.tc H E w c.hp c.tc (fun i => base ≤ i ∧ i < base + stp * opsA.size)
  lk : ∀ id sb b, look? lock id = some sb → obk E0 id sb = some b → H b ≠ none ∨ ∃ sb', look? c.hp id = some sb' ∧ obk E id sb' = some b
  agr : Agr H0 E0 lock w0 w
  on : H0.on w
/-- What does not change while the region runs. -/
def Still (H0 : Mem) (E0 : Env) (lock : List (Nat × SB)) (w0 : World) (w' : World) : Prop := Agr H0 E0 lock w0 w' ∧ H0.on w'
variable {opsA : Array Oper} {base stp : Nat} {lock : List (Nat × SB)} {H0 : Mem} {E0 : Env} {w0 : World} {c0 : Core} {c : Core} {a : Act} {listed : Array Bool} {tm0 : List SV}

theorem quiet1_take (hC : CtxOK P C) (hH0 : HeapOK K H0 E0 w0 lock) (hg0 : GlobOK C.gls H0) (r : Rg C K opsA base stp lock H0 E0 w0 c0 H E w c a listed tm0) {i j : Nat} {bs : List Bool} {v v0 : SV}
    (h : quiet1 C opsA lock listed tm0 c i = .take j bs v v0) (hb : ∀ b ∈ bs, b = true) :
    j = i ∧ ∃ o u, opsA[i]? = some o ∧ Region.free .any opsA listed i = true ∧ YieldsIf P opsA (Still H0 E0 lock w0) o u a ∧ Den H E v u ∧ Den H0 E0 v0 u := by
  unfold quiet1 at h
  have hop : opAt opsA.toList i = opsA[i]? := by simp [opAt]
  rw [hop] at h
  simp only [freeF_eq] at h
  split at h
  · cases h
  · rename_i o hi
    have hs := wantOf_spec (ops := opsA) r.st.den o
    split at h
    · cases h
    · rename_i hw
      rw [hw] at hs
      cases hf : Region.free .any opsA listed i <;> simp only [hf, cond_true, cond_false] at h
      · cases h
      cases h
      exact ⟨rfl, o, undef, hi, rfl, .inr ⟨hs, rfl⟩, skV_ok, skV_ok⟩
    · rename_i hw
      rw [hw] at hs
      cases hq : (quietKind o.op && Region.free .any opsA listed i) <;> simp only [hq, cond_true, cond_false] at h
      · cases h
      simp only [Bool.and_eq_true] at hq
      split at h
      · rename_i bs' v' hl
        cases h
        have hall := quietLeaf_all (nonAny_some hl) hb
        obtain ⟨p, u, h1, h2, h3, h4⟩ := exec_quiet (c := { c with tm := tm0, hp := lock }) (w := w0) hC r.den0 hH0 hg0 hq.1 hall
        subst h1
        exact ⟨rfl, o, u, hi, hq.2, .inl ⟨hs, fun w' hw' => h4 w' hw'.1 hw'.2⟩, h3.le r.ch.Hle r.ch.Ele, h3⟩
      · cases hp : pureOp c.tm o.op <;> simp only [hp, cond_true, cond_false] at h
        · cases h
        split at h
        · rename_i bs' v' hl
          cases h
          have hall := quietLeaf_all hl hb
          obtain ⟨p, u, h1, h2, h3, h4⟩ := exec_pure hC r.st.den r.st.hp r.st.gl hp hall
          subst h1
          exact ⟨rfl, o, u, hi, hq.2, .inl ⟨hs, fun w' _ => h4 w'⟩, h3, trivial⟩
        · cases h
    · cases h
theorem quiet1_ask (hC : CtxOK P C) (r : Rg C K opsA base stp lock H0 E0 w0 c0 H E w c a listed tm0) {i d : Nat} {t : Bool} (h : quiet1 C opsA lock listed tm0 c i = .ask d t) : c.tm.getD d .any = .test t := by
  unfold quiet1 at h
  have hop : opAt opsA.toList i = opsA[i]? := by simp [opAt]
  rw [hop] at h
  simp only [freeF_eq] at h
  split at h
  · cases h
  · rename_i o hi
    have hs := wantOf_spec (ops := opsA) r.st.den o
    split at h
    · rename_i d' t' b' hw
      rw [hw] at hs
      cases h
      exact hs.1
    · cases hf : Region.free .any opsA listed i <;> simp only [hf, cond_true, cond_false] at h
      · cases h
      · cases h
    · cases hq : (quietKind o.op && Region.free .any opsA listed i) <;> simp only [hq, cond_true, cond_false] at h
      · cases h
      split at h
      · cases h
      · cases hp : pureOp c.tm o.op <;> simp only [hp, cond_true, cond_false] at h
        · cases h
        split at h
        · cases h
        · cases h
    · cases h
theorem Rg.take (r : Rg C K opsA base stp lock H0 E0 w0 c0 H E w c a listed tm0) {i : Nat} {d : Option Nat} {u : Value} {v v0 : SV} (h1 : Den H E v u) (h0 : Den H0 E0 v0 u) :
    Rg C K opsA base stp lock H0 E0 w0 c0 H E w (c.put d v) (a.put d u) (listed.setIfInBounds i true) (putS tm0 d v0) := by
  refine ⟨r.st.put d h1, r.nx, r.lim, fun j hj hu => r.free j hj ?_, ?_, r.ch, r.lk, r.agr, r.on⟩
  · by_cases hij : i = j
    · subst hij
      cases hx : listed.getD i true with
      | false => rfl
      | true =>
        rcases Nat.lt_or_ge i listed.size with h | h
        · simp [h] at hu
        · simp [Array.getElem?_eq_none h] at hu
    · rw [getD_set_ne true hij] at hu; exact hu
  · have := den_put (c := { c with tm := tm0 }) (a := a) r.den0 d h0
    exact this
theorem Rg.know (r : Rg C K opsA base stp lock H0 E0 w0 c0 H E w c a listed tm0) {d : Nat} {b : Bool} (hd : c.tm.getD d .any = .test b) :
    Rg C K opsA base stp lock H0 E0 w0 c0 H E w (c.put (some d) (.bool b)) a listed (tm0.set d (.bool b)) := by
  refine ⟨r.st.know hd, r.nx, r.lim, r.free, ?_, r.ch, r.lk, r.agr, r.on⟩
  obtain ⟨v, e1, e2⟩ := den_getD r.st.den hd (by simp)
  have e2 : v = .bool b := e2
  subst e2
  have h2 := r.den0.set d (s := .bool b) (v := .bool b) rfl
  have h3 : a.tmps.toList.set d (.bool b) = a.tmps.toList := by
    rw [← Array.getElem?_toList] at e1
    apply List.ext_getElem?
    intro j
    by_cases hj : d = j
    · subst hj
      have : d < a.tmps.toList.length := (List.getElem?_eq_some_iff.1 e1).1
      rw [List.getElem?_set_self this, e1]
    · rw [List.getElem?_set_ne hj]
  rw [h3] at h2
  exact h2
theorem getD_unset {i j : Nat} (hij : (listed.setIfInBounds i true).getD j true = false) : j ≠ i ∧ listed.getD j true = false := by
  by_cases h : i = j
  · subst h
    rcases Nat.lt_or_ge i listed.size with h | h
    · simp [h] at hij
    · simp [Array.getElem?_eq_none h] at hij
  · rw [getD_set_ne true h] at hij
    exact ⟨fun e => h e.symm, hij⟩
/-- A stp that is carried out. -/
theorem Rg.step (hl0 : ∀ id sb, look? lock id = some sb → look? c0.hp id = some sb) (r : Rg C K opsA base stp lock H0 E0 w0 c0 H E w c a listed tm0) {i : Nat} (hi : i < opsA.size) {c' : Core} {a' : Act} {u : Value}
    (st' : St C K H' E' w' c' a') (mv : Mv K H E w { c with tc := [], nx := base + stp * i, lim := base + stp * (i + 1) } H' E' w' c') (ha : a' = a.put ((opsA[i]?).bind (·.dst)) u)
    (hdj : disjoint c'.tc lock = true) :
    Rg C K opsA base stp lock H0 E0 w0 c0 H' E' w' { c' with tc := c'.tc ++ c.tc, nx := c.nx, lim := c.lim } a' (listed.setIfInBounds i true) (putS tm0 ((opsA[i]?).bind (·.dst)) .any) := by
  have hch := mv.ch
  have hnx1 : base + stp * i ≤ c'.nx := mv.nx
  have hlim : c'.nx ≤ base + stp * (i + 1) := by
    have h1 : c'.nx ≤ base + stp * (i + 1) ∨ c'.nx = base + stp * i := mv.lim
    rcases h1 with h1 | h1
    · exact h1
    · rw [h1, Nat.mul_add]; omega
  have hdj' : ∀ id ∈ c'.tc, look? lock id = none := fun id hid => by
    have := List.all_eq_true.1 hdj id hid
    cases h : look? lock id with
    | none => rfl
    | some x => rw [h] at this; cases this
  have hge : ∀ i', i' < opsA.size → base + stp * (i' + 1) ≤ base + stp * opsA.size := fun i' h => Nat.add_le_add_left (Nat.mul_le_mul_left _ h) _
  have hkeep : ∀ b, H b ≠ none → w'.heap[b]? = w.heap[b]? := fun b hb => by
    cases h : H b with
    | none => exact (hb h).elim
    | some o => rw [st'.wok.on b o (mv.Hle b o h), r.st.wok.on b o h]
  have hother : ∀ id sb b, look? lock id = some sb → obk E0 id sb = some b → w'.heap[b]? = w.heap[b]? ∧ (H' b ≠ none ∨ ∃ sb', look? c'.hp id = some sb' ∧ obk E' id sb' = some b) := fun id sb b h1 h2 => by
    rcases r.lk id sb b h1 h2 with h | ⟨sb', h3, h4⟩
    · refine ⟨hkeep b h, .inl ?_⟩
      cases hb : H b with
      | none => exact (h hb).elim
      | some o => rw [mv.Hle b o hb]; simp
    · have hnot : id ∉ c'.tc := fun hid => by rw [hdj' id hid] at h1; cases h1
      refine ⟨mv.fr b ((r.st.hp.ent _ _ h3).lt h4).1 fun id' hid' e => ?_, mv.keep id sb' b h3 hnot h4⟩
      rcases mv.tch id' hid' with h5 | h5 | ⟨sb2, h5, h6⟩
      · cases h5
      · simp [bk, h5] at e
      · have := r.st.hp.dis _ _ _ _ _ h3 h5 h4 (h6.trans e)
        subst this
        exact hnot hid'
  refine ⟨⟨st'.den, st'.hp, st'.wok, ?_, st'.gl, st'.defers⟩, r.nx, r.lim, fun j hj hu id h1 h2 => ?_, ?_, r.ch.trans ((hch.add c.tc).mono fun k hk => ?_), fun id sb b h1 h2 => (hother id sb b h1 h2).2, fun b hb => ?_, fun b o hb => ?_⟩
  · intro k h1 h2
    have h1 : c.nx ≤ k := h1
    have h2 : k < c.lim := h2
    have := r.nx; have := r.lim; omega
  · obtain ⟨hji, hu⟩ := getD_unset hu
    have h0 := r.free j hj hu id h1 h2
    cases he : E' id with
    | none => rfl
    | some v =>
      have := hch.new id h0 (by rw [he]; simp)
      simp only at this
      have q1 := this.1
      have q2 := this.2
      rcases Nat.lt_or_gt_of_ne hji with q | q
      · have : stp * (j + 1) ≤ stp * i := Nat.mul_le_mul_left _ q
        omega
      · have : stp * (i + 1) ≤ stp * j := Nat.mul_le_mul_left _ q
        omega
  · subst ha
    exact den_put (c := { c with tm := tm0 }) (a := a) r.den0 _ trivial
  · simp only at hk
    have := hge i hi
    have h0 : base ≤ base + stp * i := Nat.le_add_right _ _
    exact ⟨by omega, by omega⟩
  · rcases hb with hb | ⟨id, sb, h1, h2⟩
    · have hH : H b ≠ none := by
        cases h : H0 b with
        | none => exact (hb h).elim
        | some o => rw [r.ch.Hle b o h]; simp
      rw [hkeep b hH]
      exact r.agr b (.inl hb)
    · rw [(hother id sb b h1 h2).1]
      exact r.agr b (.inr ⟨id, sb, h1, h2⟩)
  · exact st'.wok.on b o (mv.Hle b o (r.ch.Hle b o hb))
theorem explore_ok {call : Nat → List SV → Core → Tree (SV × Core)} (hC : CtxOK P C) (hF : FnsOK P C) (hK : CallHyp P C K call) (hH0 : HeapOK K H0 E0 w0 lock) (hg0 : GlobOK C.gls H0)
    (hl0 : ∀ id sb, look? lock id = some sb → look? c0.hp id = some sb) (hns : Region.noSelect opsA = true) {R : Act → World → Prop} {φ : Core → Prop}
    (hfin : ∀ H E w c a listed tm0, Rg C K opsA base stp lock H0 E0 w0 c0 H E w c a listed tm0 → φ c → R a w) :
    ∀ (n : Nat) (listed : Array Bool) (tm0 : List SV) (c : Core) (H : Mem) (E : Env) (w : World) (a : Act) (m : Nat), Rg C K opsA base stp lock H0 E0 w0 c0 H E w c a listed tm0 → cnt opsA listed ≤ m →
      (explore C call base stp opsA lock n listed tm0 c).All φ → wpAnyH P .any opsA (fun e a w => e = .normal ∧ R a w) (Still H0 E0 lock w0) m listed a w
  | 0, _, _, _, _, _, _, _, _, _, _, h => h.elim
  | n + 1, listed, tm0, c, H, E, w, a, m, r, hm, h => by
    unfold explore at h
    simp only [readyF_eq] at h
    split at h
    · rename_i hr
      exact wpAnyH_done hr ⟨rfl, hfin H E w c a listed tm0 r h⟩ m
    · rename_i hne
      have hrange : ∀ i, i ∈ Region.ready .any opsA listed → i < opsA.size ∧ listed.getD i true = false := fun i hi => by
        have h0 := (mem_ready.1 hi).1
        refine ⟨?_, h0⟩
        unfold Region.ready at hi
        exact List.mem_range.1 (List.mem_filter.1 hi).1
      have hdec : ∀ i, i ∈ Region.ready .any opsA listed → ∃ m', m = m' + 1 ∧ cnt opsA (listed.setIfInBounds i true) ≤ m' := fun i hi => by
        have := cnt_set (hrange i hi).1 (hrange i hi).2
        exact ⟨m - 1, by omega, by omega⟩
      split at h
      · rename_i j bs v v0 hq
        obtain ⟨i, hi, hq1⟩ := firstQ_spec hq (by simp)
        obtain ⟨hb, h⟩ := needs_all h
        obtain ⟨rfl, o, u, ho, hf, hy, hd, hd0⟩ := quiet1_take hC hH0 hg0 r hq1 hb
        obtain ⟨m', rfl, hm'⟩ := hdec j hi
        have hop : (opAt opsA.toList j).bind (·.dst) = o.dst := by simp [opAt, ho]
        rw [hop] at h
        refine wpAnyH_take ho hns hf (by simpa using hi) (fun c a w hh => by cases hh.1) hy ⟨r.agr, r.on⟩ ?_
        exact explore_ok hC hF hK hH0 hg0 hl0 hns hfin n _ _ _ H E w _ m' (r.take hd hd0) hm' h
      · rename_i d t hq
        obtain ⟨i, hi, hq1⟩ := firstQ_spec hq (by simp)
        have ht := quiet1_ask hC r hq1
        cases t with
        | true => exact explore_ok hC hF hK hH0 hg0 hl0 hns hfin n _ _ _ H E w a m (r.know ht) hm (h.1 rfl)
        | false => exact explore_ok hC hF hK hH0 hg0 hl0 hns hfin n _ _ _ H E w a m (r.know ht) hm (h.2 rfl)
      · rename_i hq
        have hall := allOf_all h
        obtain ⟨i0, hi0⟩ : ∃ i0, i0 ∈ Region.ready .any opsA listed := by
          cases hr : Region.ready .any opsA listed with
          | nil => exact (hne hr).elim
          | cons x xs => exact ⟨x, List.mem_cons_self ..⟩
        obtain ⟨m', rfl, _⟩ := hdec i0 hi0
        refine wpAnyH_all rfl (fun hr => hne hr) fun i hi => ?_
        obtain ⟨m'', hm'', hc⟩ := hdec i hi
        have hmm : m'' = m' := by omega
        subst hmm
        have hi' := hrange i hi
        have st1 : St C K H E w { c with tc := [], nx := base + stp * i, lim := base + stp * (i + 1) } a :=
          ⟨r.st.den, r.st.hp, r.st.wok, fun k h1 h2 => r.free i hi'.1 hi'.2 k h1 h2, r.st.gl, r.st.defers⟩
        refine opStep_ok hC hF hK st1 (Tree.All_bind (hall i hi)) _ _ fun c' a' H' E' w' e1 e2 e3 e4 => ?_
        obtain ⟨u, e4⟩ := e4
        cases hdj : disjoint c'.tc lock <;> simp only [hdj, cond_true, cond_false] at e1
        · exact e1.elim
        have hop : opAt opsA.toList i = opsA[i]? := by simp [opAt]
        rw [hop] at e1
        have r' := r.step hl0 hi'.1 e2 e3 e4 hdj
        exact ⟨⟨r'.agr, r'.on⟩, explore_ok hC hF hK hH0 hg0 hl0 hns hfin n _ _ _ H' E' w' a' m'' r' hc e1⟩
theorem St.sameHeap {c : Core} {a : Act} (st : St C K H E w c a) (h1 : w'.heap = w.heap) (h2 : w'.os = w.os) (h3 : w'.tape = w.tape) (h4 : w'.output = w.output) : St C K H E w' c a :=
  ⟨st.den, ⟨fun id sb hl => (st.hp.ent id sb hl).kept (fun _ _ e => e) (fun _ _ e => e) (fun b _ => by rw [h1]) fun b hb => ((st.hp.ent id sb hl).lt hb).2.1, st.hp.dis⟩,
    ⟨h2.trans st.wok.os, h3.trans st.wok.tape, h4.trans st.wok.output, by rw [h1]; exact st.wok.size, fun b hb hn => by rw [h1]; exact st.wok.kept b hb hn, fun b o hb => by rw [h1]; exact st.wok.on b o hb, st.wok.le, st.wok.fresh⟩,
    st.free, st.gl, st.defers⟩
theorem mv_sameHeap {c c' : Core} (h : Mv K H E w c H' E' w' c') (h1 : w.heap = w''.heap) : Mv K H E w'' c H' E' w' c' := by
  obtain ⟨a1, a2, a3, a4, a5, a6, a7, a8, a9, a10, a11, a12, a13, a14, a15, a16⟩ := h
  exact ⟨a1, a2, a3, a4, a5, a6, a7, a8, a9, a10, by rw [← h1]; exact a11, by rw [← h1]; exact a12, by rw [← h1]; exact a13, a14, a15, a16⟩
theorem Eqn.all_app : ∀ {l l' : List Eqn}, Eqn.all (l ++ l') → Eqn.all l ∧ Eqn.all l'
  | [], _, h => ⟨trivial, h⟩
  | _ :: l, _, h => ⟨⟨h.1, (Eqn.all_app h.2).1⟩, (Eqn.all_app h.2).2⟩
theorem app2_some {a b : Option (List Eqn)} {l : List Eqn} (h : app2 a b = some l) : ∃ x y, a = some x ∧ b = some y ∧ l = x ++ y := by
  unfold app2 at h
  split at h
  · cases h; exact ⟨_, _, rfl, rfl, rfl⟩
  · cases h
theorem iff2_some {c : Bool} {a : Option (List Eqn)} {l : List Eqn} (h : iff2 c a = some l) : c = true ∧ a = some l := by
  cases c
  · cases h
  · exact ⟨rfl, h⟩
theorem eqSh_ok {s s' : Sh} {q : List Eqn} (h : eqSh s s' = some q) (ha : Eqn.all q) : s = s' := by
  unfold eqSh at h
  split at h
  · obtain ⟨h1, h2⟩ := iff2_some h
    simp only [Bool.and_eq_true, beq_iff_eq] at h1
    obtain ⟨rfl, rfl⟩ := h1
    rfl
  · cases h
    exact ha.1
mutual
theorem eqSV_ok : ∀ {x y : SV} {q : List Eqn}, eqSV x y = some q → Eqn.all q → x = y
  | x, y, q, h, ha => by
    unfold eqSV at h
    split at h
    all_goals first
      | (cases h; done)
      | (cases h; rfl)
      | (obtain ⟨h1, h2⟩ := iff2_some h; simp only [Bool.and_eq_true, beq_iff_eq] at h1; obtain ⟨rfl, rfl⟩ := h1; rfl)
      | (obtain ⟨h1, h2⟩ := iff2_some h; simp only [beq_iff_eq] at h1; subst h1; cases h2; rfl)
      | skip
    case h_3 => obtain ⟨h1, h2⟩ := iff2_some h; simp only [beq_iff_eq] at h1; subst h1; cases h2; rw [ha.1]
    case h_5 => cases h; rw [ha.1]
    case h_7 => cases h; rw [ha.1]
    case h_10 => obtain ⟨h1, h2⟩ := iff2_some h; simp only [Bool.and_eq_true, beq_iff_eq] at h1; obtain ⟨⟨rfl, rfl⟩, rfl⟩ := h1; cases h2; rw [ha.1]
    case h_11 => obtain ⟨h1, h2⟩ := iff2_some h; simp only [Bool.and_eq_true, beq_iff_eq] at h1; obtain ⟨rfl, rfl⟩ := h1; cases h2; rw [ha.1, ha.2.1, ha.2.2.1]
    case h_17 => obtain ⟨h1, h2⟩ := iff2_some h; simp only [beq_iff_eq] at h1; subst h1; rw [eqSVL_ok h2 ha]
    case h_18 => rw [eqSVL_ok h ha]
    case h_19 => rw [eqSVL_ok h ha]
    case h_20 => obtain ⟨h1, h2⟩ := iff2_some h; simp only [beq_iff_eq] at h1; subst h1; rw [eqSV_ok h2 ha]
    case h_24 => rw [eqSh_ok h ha]
theorem eqSVL_ok : ∀ {l m : List SV} {q : List Eqn}, eqSVL l m = some q → Eqn.all q → l = m
  | [], [], _, _, _ => rfl
  | x :: l, y :: m, q, h, ha => by
    simp only [eqSVL] at h
    obtain ⟨a, b, h1, h2, rfl⟩ := app2_some h
    rw [eqSV_ok h1 (Eqn.all_app ha).1, eqSVL_ok h2 (Eqn.all_app ha).2]
  | [], _ :: _, _, h, _ => by simp [eqSVL] at h
  | _ :: _, [], _, h, _ => by simp [eqSVL] at h
end
theorem eqSVM_ok : ∀ {l m : List (SV × SV)} {q : List Eqn}, eqSVM l m = some q → Eqn.all q → l = m
  | [], [], _, _, _ => rfl
  | (a, b) :: l, (c, d) :: m, q, h, ha => by
    simp only [eqSVM] at h
    obtain ⟨q1, q2, h1, h2, rfl⟩ := app2_some h
    obtain ⟨q3, q4, h3, h4, rfl⟩ := app2_some h2
    obtain ⟨a1, a2⟩ := Eqn.all_app ha
    obtain ⟨a3, a4⟩ := Eqn.all_app a2
    rw [eqSV_ok h1 a1, eqSV_ok h3 a3, eqSVM_ok h4 a4]
  | [], _ :: _, _, h, _ => by simp [eqSVM] at h
  | _ :: _, [], _, h, _ => by simp [eqSVM] at h
theorem eqFM_ok : ∀ {l m : List (Int × Bool × SV)} {q : List Eqn}, eqFM l m = some q → Eqn.all q → l = m
  | [], [], _, _, _ => rfl
  | (a, p, b) :: l, (c, r, d) :: m, q, h, ha => by
    simp only [eqFM] at h
    obtain ⟨h0, h⟩ := iff2_some h
    obtain ⟨q1, q2, h1, h2, rfl⟩ := app2_some h
    obtain ⟨q3, q4, h3, h4, rfl⟩ := app2_some h2
    obtain ⟨a1, a2⟩ := Eqn.all_app ha
    obtain ⟨a3, a4⟩ := Eqn.all_app a2
    cases h1
    have h0 : p = r := by simpa using h0
    rw [h0, a1.1, eqSV_ok h3 a3, eqFM_ok h4 a4]
  | [], _ :: _, _, h, _ => by simp [eqFM] at h
  | _ :: _, [], _, h, _ => by simp [eqFM] at h
theorem eqTag_ok {x y : Option (Nat × Int)} {q : List Eqn} (h : eqTag x y = some q) (ha : Eqn.all q) : x = y := by
  unfold eqTag at h
  split at h
  · rfl
  · obtain ⟨h1, h2⟩ := iff2_some h
    cases h2
    have h1 := by simpa using h1
    rw [h1, ha.1]
  · cases h
theorem eqSB_ok {x y : SB} {q : List Eqn} (h : eqSB x y = some q) (ha : Eqn.all q) : x = y := by
  unfold eqSB at h
  split at h
  · obtain ⟨h1, h2⟩ := iff2_some h
    have h1 := by simpa using h1
    rw [h1, eqSVL_ok h2 ha]
  · obtain ⟨h1, h2⟩ := iff2_some h
    simp only [Bool.and_eq_true, beq_iff_eq] at h1
    rw [h1.1.1, h1.1.2, h1.2, eqSVL_ok h2 ha]
  · obtain ⟨h1, h2⟩ := iff2_some h
    simp only [Bool.and_eq_true, beq_iff_eq] at h1
    cases h2
    rw [h1.1, h1.2, ha.1, ha.2.1]
  · obtain ⟨h1, h2⟩ := iff2_some h
    have h1 := by simpa using h1
    cases h2
    rw [h1, ha.1, ha.2.1]
  · rw [eqSVM_ok h ha]
  · cases h
    have := ha.1
    simp only [Eqn.ok, Sh.pt.injEq] at this
    rw [this]
  · obtain ⟨h1, h2⟩ := iff2_some h
    simp only [Bool.and_eq_true, beq_iff_eq] at h1
    obtain ⟨q1, q2, h3, h4, rfl⟩ := app2_some h2
    cases h3
    obtain ⟨a1, a2⟩ := Eqn.all_app ha
    rw [h1.1, h1.2, a1.1, a1.2.1, eqSVL_ok h4 a2]
  · obtain ⟨h1, h2⟩ := iff2_some h
    have h1 := by simpa using h1
    obtain ⟨q1, q2, h3, h4, rfl⟩ := app2_some h2
    obtain ⟨q3, q4, h5, h6, rfl⟩ := app2_some h4
    obtain ⟨q5, q6, h7, h8, rfl⟩ := app2_some h6
    cases h3
    obtain ⟨a1, a2⟩ := Eqn.all_app ha
    obtain ⟨a3, a4⟩ := Eqn.all_app a2
    obtain ⟨a5, a6⟩ := Eqn.all_app a4
    rw [h1, a1.1, eqFM_ok h5 a3, eqFM_ok h7 a5, eqTag_ok h8 a6]
  · cases h
theorem eqHp_ok : ∀ {l m : List (Nat × SB)} {q : List Eqn}, eqHp l m = some q → Eqn.all q → l = m
  | [], [], _, _, _ => rfl
  | (i, a) :: l, (j, b) :: m, q, h, ha => by
    simp only [eqHp] at h
    obtain ⟨h0, h⟩ := iff2_some h
    obtain ⟨q1, q2, h1, h2, rfl⟩ := app2_some h
    have h0 := by simpa using h0
    rw [h0, eqSB_ok h1 (Eqn.all_app ha).1, eqHp_ok h2 (Eqn.all_app ha).2]
  | [], _ :: _, _, h, _ => by simp [eqHp] at h
  | _ :: _, [], _, h, _ => by simp [eqHp] at h
theorem eqCore_ok {a b : Core} {q : List Eqn} (h : eqCore a b = some q) (ha : Eqn.all q) : a = b := by
  unfold eqCore at h
  obtain ⟨h0, h⟩ := iff2_some h
  obtain ⟨q1, q2, h1, h2, rfl⟩ := app2_some h
  simp only [Bool.and_eq_true, beq_iff_eq] at h0
  obtain ⟨⟨h3, h4⟩, h5⟩ := h0
  obtain ⟨t, hp, nx, lim, tc⟩ := a
  obtain ⟨t', hp', nx', lim', tc'⟩ := b
  simp only at h1 h2 h3 h4 h5
  rw [eqSVL_ok h1 (Eqn.all_app ha).1, eqHp_ok h2 (Eqn.all_app ha).2, h3, h4, h5]
def Ob.ok : Ob → Prop
  | .b x => x = true
  | .e l => Eqn.all l
theorem strip_all {α : Type} {φ : α → Prop} : ∀ {t : Tree α} {o : List Ob} {a : α}, strip t = some (o, a) → (∀ x ∈ o, x.ok) → φ a → t.All φ
  | .leaf _, o, a, h, _, hφ => by simp [strip] at h; rw [h.2]; exact hφ
  | .need b t, o, a, h, ho, hφ => by
    simp only [strip, Option.map_eq_some_iff, Prod.mk.injEq] at h
    obtain ⟨⟨o', a'⟩, h1, rfl, rfl⟩ := h
    exact ⟨ho _ (List.mem_cons_self ..), strip_all h1 (fun x hx => ho x (List.mem_cons_of_mem _ hx)) hφ⟩
  | .must l t, o, a, h, ho, hφ => by
    simp only [strip, Option.map_eq_some_iff, Prod.mk.injEq] at h
    obtain ⟨⟨o', a'⟩, h1, rfl, rfl⟩ := h
    exact ⟨ho _ (List.mem_cons_self ..), strip_all h1 (fun x hx => ho x (List.mem_cons_of_mem _ hx)) hφ⟩
  | .node _ _ _, _, _, h, _, _ => by simp [strip] at h
  | .both _ _, _, _, h, _, _ => by simp [strip] at h
  | .fail, _, _, h, _, _ => by simp [strip] at h
theorem wrap_all {α : Type} {φ : α → Prop} {t : Tree α} : ∀ {o : List Ob}, (wrap t o).All φ → (∀ x ∈ o, x.ok) ∧ t.All φ
  | [], h => ⟨fun _ h => (by cases h), h⟩
  | .b x :: r, h => by
    obtain ⟨h1, h2⟩ := h
    obtain ⟨h3, h4⟩ := wrap_all h2
    refine ⟨fun y hy => ?_, h4⟩
    cases hy with
    | head => exact h1
    | tail _ hy => exact h3 y hy
  | .e l :: r, h => by
    obtain ⟨h1, h2⟩ := h
    obtain ⟨h3, h4⟩ := wrap_all h2
    refine ⟨fun y hy => ?_, h4⟩
    cases hy with
    | head => exact h1
    | tail _ hy => exact h3 y hy
theorem mustE_all {α : Type} {φ : α → Prop} {t : Tree α} {l : List Eqn} (h : (mustE l t).All φ) : Eqn.all l ∧ t.All φ := by
  unfold mustE at h
  split at h
  · exact ⟨trivial, h⟩
  · exact h
theorem merge2_all {t f : Tree Core} {φ : Core → Prop} (h : (merge2 t f).All φ) : t.All φ ∧ f.All φ := by
  unfold merge2 at h
  split at h
  · rename_i o a q b h1 h2
    split at h
    · rename_i l he
      obtain ⟨h3, h4⟩ := wrap_all h
      obtain ⟨h5, h6⟩ := mustE_all h4
      have := eqCore_ok he h5
      subst this
      exact ⟨strip_all h1 (fun x hx => h3 x (List.mem_append.2 (.inl hx))) h6, strip_all h2 (fun x hx => h3 x (List.mem_append.2 (.inr hx))) h6⟩
    · exact h
  · exact h
theorem merge_all {φ : Core → Prop} : ∀ {t : Tree Core}, (merge t).All φ → t.All φ
  | .leaf _, h => h
  | .fail, h => h
  | .need _ t, h => ⟨h.1, merge_all h.2⟩
  | .must _ t, h => ⟨h.1, merge_all h.2⟩
  | .node _ t f, h => ⟨fun e => merge_all (h.1 e), fun e => merge_all (h.2 e)⟩
  | .both t f, h => by
    have := merge2_all (show (merge2 (merge t) (merge f)).All φ from h)
    exact ⟨merge_all this.1, merge_all this.2⟩
theorem den_scrubL : ∀ {m : Nat} {l : List SV} {vs : List Value}, DenL H E l vs → DenL H E (scrubL m l) vs
  | _, [], _, h => h
  | m, x :: l, v :: vs, ⟨h1, h2⟩ => by
    simp only [scrubL]
    refine ⟨?_, den_scrubL h2⟩
    cases Nat.beq (m % 2) 1
    · trivial
    · exact h1
  | _, _ :: _, [], h => h.elim
theorem den_scrub {g : Nat} {l : List SV} {vs : List Value} (h : DenL H E l vs) : DenL H E (scrub C g l) vs := by
  unfold scrub
  split
  · exact den_scrubL h
  · exact h
theorem mem_insN {i j : Nat} : ∀ {l : List Nat}, i ∈ insN j l ↔ i = j ∨ i ∈ l
  | [] => by simp [insN]
  | k :: l => by
    unfold insN
    cases h1 : (j == k) <;> simp only [cond_true, cond_false]
    · cases h2 : Nat.blt j k <;> simp only [cond_true, cond_false]
      · simp only [List.mem_cons, mem_insN (l := l)]
        constructor
        · rintro (h | h | h) <;> simp [h]
        · rintro (h | h | h) <;> simp [h]
      · simp
    · obtain rfl : j = k := by simpa using h1
      simp
theorem mem_sortN {i : Nat} : ∀ {l : List Nat}, i ∈ sortN l ↔ i ∈ l
  | [] => by simp [sortN]
  | j :: l => by simp [sortN, mem_insN, mem_sortN (l := l)]
theorem Ch.tcEq {hp hp' : List (Nat × SB)} {tc tc' tc2 : List Nat} {N : Nat → Prop} (h : Ch K H E w hp tc H' E' w' hp' tc' N) (he : ∀ i, i ∈ tc2 ↔ i ∈ tc') : Ch K H E w hp tc H' E' w' hp' tc2 N :=
  { h with
    tc := fun id hid => (he id).2 (h.tc id hid)
    fr := fun b hb hne => h.fr b hb fun id hid => hne id ((he id).2 hid)
    newb := fun i b h1 h2 => (h.newb i b h1 h2).imp (fun h => h) fun ⟨id, h3, h4⟩ => ⟨id, (he id).2 h3, h4⟩
    tch := fun id hid => h.tch id ((he id).1 hid)
    keep := fun id sb b h1 h2 h3 => h.keep id sb b h1 (fun h4 => h2 ((he id).2 h4)) h3 }
theorem drawn_any {call : Nat → List SV → Core → Tree (SV × Core)} (hC : CtxOK P C) (hF : FnsOK P C) (hK : CallHyp P C K call) {c : Core} {a : Act} {φ : Core → Prop} (st : St C K H E w c a) {g : Nat} (h : (drawn C call g opsA c).All φ) :
    wpAny P .any opsA (fun e a' w' => e = .normal ∧ ∃ c' H' E', φ c' ∧ St C K H' E' w' c' a' ∧ Mv K H E w c H' E' w' c') opsA.size (Array.replicate opsA.size false) a { w with drawn := w.drawn + 1 } := by
  unfold drawn at h
  simp only at h
  generalize hlk : lockHp c.hp (preTouch C opsA.toList c []) = lock at h
  cases hb : (Nat.ble (c.nx + idStep c opsA.size * opsA.size) c.lim && Region.noSelect opsA) <;> simp only [hb, cond_true, cond_false] at h
  · exact h.elim
  simp only [Bool.and_eq_true] at hb
  have hle := Nat.le_of_ble_eq_true hb.1
  let w1 : World := { w with drawn := w.drawn + 1 }
  have st1 : St C K H E w1 c a := st.sameHeap rfl rfl rfl rfl
  have hlook : ∀ id sb, look? lock id = some sb → look? c.hp id = some sb := fun id sb hl => by rw [← hlk] at hl; exact lock_look hl
  have hH0 : HeapOK K H E w1 lock := ⟨fun id sb hl => st1.hp.ent id sb (hlook id sb hl), fun i j s1 s2 b h1 h2 => st1.hp.dis i j s1 s2 b (hlook _ _ h1) (hlook _ _ h2)⟩
  have hrefl : Ch K H E w1 c.hp c.tc H E w1 c.hp c.tc (fun i => c.nx ≤ i ∧ i < c.nx + idStep c opsA.size * opsA.size) := by
    have := (Post.refl (c := c) st1.hp st1.wok).mv.ch
    exact this.mono fun i hi => by have h2 : i < c.nx := hi.2; exact ⟨hi.1, by omega⟩
  refine wpAny_of_held (S := Still H E lock w1) _ _ _ _ ?_
  refine (explore_ok (c0 := c) (R := fun a' w' => ∃ c' H' E', φ c' ∧ St C K H' E' w' c' a' ∧ Mv K H E w c H' E' w' c') (φ := fun c' => φ { tm := scrub C g c'.tm, hp := c'.hp, nx := c.nx + idStep c opsA.size * opsA.size, lim := c.lim, tc := sortN c'.tc }) hC hF hK hH0 st1.gl hlook hb.2 ?_
    (2 * opsA.size + 1) (Array.replicate opsA.size false) c.tm { c with nx := 0, lim := 0 } H E w1 a opsA.size ?_ ?_ (Tree.All_bind (merge_all h)))
  · intro H' E' w' c' a' listed tm0 r hφ
    have hnew : Free E' { tm := scrub C g c'.tm, hp := c'.hp, nx := c.nx + idStep c opsA.size * opsA.size, lim := c.lim, tc := sortN c'.tc } := fun i h1 h2 => by
      have h1 : c.nx + idStep c opsA.size * opsA.size ≤ i := h1
      have h2 : i < c.lim := h2
      cases he : E' i with
      | none => rfl
      | some v =>
        have := r.ch.new i (st.free i (by omega) h2) (by rw [he]; simp)
        omega
    refine ⟨_, H', E', hφ, ⟨den_scrub r.st.den, r.st.hp, r.st.wok, hnew, r.st.gl, r.st.defers⟩, ?_⟩
    exact mv_sameHeap (Ch.mv (c := c) (c' := { tm := scrub C g c'.tm, hp := c'.hp, nx := c.nx + idStep c opsA.size * opsA.size, lim := c.lim, tc := sortN c'.tc }) (r.ch.tcEq fun i => mem_sortN) (Nat.le_add_right _ _) (.inl hle) rfl) rfl
  · refine ⟨⟨st1.den, st1.hp, st1.wok, fun i h1 h2 => by simp at h2, st1.gl, st1.defers⟩, rfl, rfl, fun j hj _ id h1 h2 => ?_, st1.den, hrefl, fun id sb b h1 h2 => .inr ⟨sb, hlook id sb h1, h2⟩, fun _ _ => rfl, st1.wok.on⟩
    have : c.nx + idStep c opsA.size * (j + 1) ≤ c.nx + idStep c opsA.size * opsA.size := Nat.add_le_add_left (Nat.mul_le_mul_left _ hj) _
    exact st.free id (by omega) (by omega)
  · unfold cnt
    exact Nat.le_trans (List.countP_le_length) (by simp)
theorem drawn_ok {call : Nat → List SV → Core → Tree (SV × Core)} (hC : CtxOK P C) (hF : FnsOK P C) (hK : CallHyp P C K call) {c : Core} {a : Act} {φ : Core → Prop} {id : Nat} (st : St C K H E w c a) {g : Nat} (h : (drawn C call g opsA c).All φ) :
    (Code.region id opsA true).wp P (fun e a' w' => e = .normal ∧ ∃ c' H' E', φ c' ∧ St C K H' E' w' c' a' ∧ Mv K H E w c H' E' w' c') a w :=
  wp_region_any hC.mixed (drawn_any hC hF hK st h)
end
end Go.Sx
namespace Go.Sx
section
variable {P : Program} {C : Ctx} {K : Kx} {H H' H'' : Mem} {E E' E'' : Env} {w w' w'' : World}

/-- One operation of a region, as steps of the machine. -/
theorem one_op {ops : Array Oper} {i : Nat} {rest : List Nat} {next : Act → World → Prop} {a : Act} (h : wpOp P ops (fun _ _ _ => False) i next a w) (b : Frame) (k : List Item) (cs : List Frame) :
    ∃ a' w', next a' w' ∧ Steps P (lone (b.at a (.inRegion ops (i :: rest) :: k)) cs w) (lone (b.at a' (.inRegion ops rest :: k)) cs w') := by
  unfold wpOp at h
  cases ho : ops[i]? with
  | none =>
    simp only [ho] at h
    have hs := step_op_skip (P := P) (b := b) (a := a) (k := k) (cs := cs) (w := w) (ops := ops) (i := i) (rest := rest) (by simp [ho])
    simp only [ho, Option.bind_none, Act.put] at hs
    exact ⟨a, w, h, .one hs⟩
  | some o =>
    simp only [ho] at h
    by_cases hw : Region.wanted o (yielded ops a.tmps) = true
    · simp only [hw, if_true] at h
      rcases h with h | ⟨_, _, _, hq⟩
      case inr => exact hq.elim
      simp only [Oper.wp] at h
      have hg := stepG_op (P := P) (b := b) (k := k) (cs := cs) (w := w) (rest := rest) ho hw
      have hfin : ∀ v, (b.at a (.inRegion ops (i :: rest) :: k)).finish v = b.at (a.put o.dst v) (.inRegion ops rest :: k) := by
        intro v; rw [Frame.finish_at, ho]; rfl
      generalize hr : (execOp a.eval o).run P w = r at h
      cases r with
      | ok n w' =>
        cases n <;> simp only [Oper.upon] at h
        case value v =>
          refine ⟨_, _, h, .one (step_lone_go ?_)⟩
          rw [hg, ← hfin]; simp [stepG.apply, hr]
        case skip =>
          refine ⟨_, _, h, .one (step_lone_go ?_)⟩
          rw [hg, ← hfin]; simp [stepG.apply, hr]
        case defer d =>
          refine ⟨_, _, h, .one (step_lone_go ?_)⟩
          have : ({ b.at a (.inRegion ops (i :: rest) :: k) with defers := d :: a.defers } : Frame).finish undef =
              b.at ({ a with defers := d :: a.defers }.put o.dst undef) (.inRegion ops rest :: k) := by
            have := Frame.finish_at b { a with defers := d :: a.defers } ops i rest k undef
            rw [ho] at this; exact this
          rw [hg]; simp only [stepG.apply, Sem.runT_eq, hr, GStep.bare_after]
          exact congrArg (fun fr => GStep.go { frame := fr, callers := cs, status := .running, dying := none } w') this
        case enter f args =>
          obtain ⟨e, w'', fr, hR, hsteps, _, hleave⟩ := h (b.at a (.inRegion ops (i :: rest) :: k) :: cs)
          have henter : step P (lone (b.at a (.inRegion ops (i :: rest) :: k)) cs w) =
              .next (lone (Frame.enter P f args .normal) (b.at a (.inRegion ops (i :: rest) :: k) :: cs) w') :=
            step_lone_go (by rw [hg]; simp [stepG.apply, hr, Frame.at])
          cases e with
          | returned v =>
            refine ⟨_, _, hR, .head henter (hsteps.trans (.one ?_))⟩
            rw [← hfin]; exact step_leave_returned hleave
          | panicked chain => exact hR.elim
          | outgrown => obtain ⟨_, _, hq⟩ := hR; exact hq.elim
        case row row args =>
          obtain ⟨v, w'', hR, hsteps⟩ := h (b.at a (.inRegion ops (i :: rest) :: k)) cs
          have henter : step P (lone (b.at a (.inRegion ops (i :: rest) :: k)) cs w) =
              .next (lone (Frame.ofRow P row args .normal) (b.at a (.inRegion ops (i :: rest) :: k) :: cs) w') :=
            step_lone_go (by rw [hg]; simp [stepG.apply, hr, Frame.at])
          refine ⟨_, _, hR, .head henter ?_⟩
          rw [← hfin]; exact hsteps
        all_goals exact h.elim
      | halt x w' =>
        cases x <;> simp only [Oper.upon] at h
        all_goals exact h.elim
    · simp only [hw, if_false, Bool.false_eq_true] at h
      have hs := step_op_skip (P := P) (b := b) (a := a) (k := k) (cs := cs) (w := w) (ops := ops) (i := i) (rest := rest)
        (by simp [ho]; simpa using hw)
      simp only [ho, Option.bind_some] at hs
      exact ⟨_, _, h, .one hs⟩

/-- The machine's list of what is to be done. -/
inductive ItOK (body : Code) : List It → List Item → Prop
  | nil : ItOK body [] []
  | code (p : List Nat) {td : List It} {k : List Item} : ItOK body td k → ItOK body (.code p :: td) (.code (codeAt body p) :: k)
  | loop (p : List Nat) (x : Code) {td : List It} {k : List Item} : codeAt body p = .loop x → ItOK body td k → ItOK body (.code p :: td) (.inLoop x :: k)
  | inBlock (id : Nat) {td : List It} {k : List Item} : ItOK body td k → ItOK body (.inBlock id :: td) (.inBlock id :: k)
  | beg {td : List It} {k : List Item} : ItOK body td k → ItOK body (.beg :: td) (.beginRound :: k)
  | reg (p : List Nat) (l : List Nat) (id : Nat) (ops : Array Oper) {td : List It} {k : List Item} : codeAt body p = .region id ops false → ItOK body td k → ItOK body (.reg p l :: td) (.inRegion ops l :: k)
theorem exit_ok {body : Code} {id : Nat} : ∀ {td td' : List It} {k : List Item}, ItOK body td k → exitIt id td = some td' → ∃ k', exitTo id k = some k' ∧ ItOK body td' k' := by
  intro td td' k h
  induction h with
  | nil => intro h; simp [exitIt] at h
  | code p _ ih => intro h; simp only [exitIt] at h; obtain ⟨k', h1, h2⟩ := ih h; exact ⟨k', by simpa [exitTo] using h1, h2⟩
  | beg _ ih => intro h; simp only [exitIt] at h; obtain ⟨k', h1, h2⟩ := ih h; exact ⟨k', by simpa [exitTo] using h1, h2⟩
  | loop p x _ _ ih => intro h; simp only [exitIt] at h; obtain ⟨k', h1, h2⟩ := ih h; exact ⟨k', by simpa [exitTo] using h1, h2⟩
  | reg p l id ops _ _ ih => intro h; simp only [exitIt] at h; obtain ⟨k', h1, h2⟩ := ih h; exact ⟨k', by simpa [exitTo] using h1, h2⟩
  | inBlock j h0 ih =>
    intro h
    simp only [exitIt] at h
    cases hj : (j == id) <;> simp only [hj, cond_true, cond_false] at h
    · obtain ⟨k', h1, h2⟩ := ih h
      refine ⟨k', ?_, h2⟩
      have : j ≠ id := by simpa using hj
      simp [exitTo, this, h1]
    · cases h
      obtain rfl : j = id := by simpa using hj
      exact ⟨_, by simp [exitTo], h0⟩

/-! What a function returns. -/
def resV (a : Act) (r : ResultVar) : Sem Value :=
  match r with
  | .tmp t => pure (a.tmps.getD t undef)
  | .cell x t => do loadVar t (← asAddr (a.tmps.getD x undef))
theorem results_resV (fn : Func) (a : Act) : results fn a.tmps = (do let vs ← fn.results.mapM (resV a); pure (if h : vs.size = 1 then vs[0] else .tuple vs)) := rfl
theorem resS_ok (hC : CtxOK P C) {c : Core} {a : Act} (st : St C K H E w c a) : ∀ {rs : List ResultVar} {l : List SV}, resS C c rs = some l → ∃ vs : List Value,
    (rs.mapM (resV a)).run P w = .ok vs w ∧ DenL H E l vs
  | [], l, h => by simp [resS] at h; subst h; exact ⟨[], by simp, trivial⟩
  | .tmp t :: rs, l, h => by
    simp only [resS] at h
    split at h
    · rename_i sv r h1 h2
      cases h
      obtain ⟨vs, e1, e2⟩ := resS_ok hC st h2
      obtain ⟨u, h3, h4⟩ := st.den.get h1
      refine ⟨u :: vs, ?_, h4, e2⟩
      rw [Array.getElem?_toList] at h3
      have : a.tmps.getD t undef = u := by simp [Array.getD_eq_getD_getElem?, h3]
      have hv : (resV a (.tmp t)).run P w = .ok u w := by simp [resV, this]
      simp only [List.mapM_cons, Sem.run_bind, hv, Sem.run_pure, Result.andThen_ok, e1]
    · cases h
  | .cell x t :: rs, l, h => by
    simp only [resS] at h
    split at h
    · rename_i i r h1 h2
      simp only [Option.map_eq_some_iff] at h
      obtain ⟨sv, h3, rfl⟩ := h
      obtain ⟨vs, e1, e2⟩ := resS_ok hC st h2
      have ht := hC.ty _ _ h1
      have dx := den_ev (H := H) (E := E) st.den (.tmp x)
      obtain ⟨ad, cs, q1, q2, q3, q4⟩ := loadS_spec (w := w) dx st.hp st.gl (fun hz => by
        obtain ⟨_, _, _, _, _, _, _, _, _, h1⟩ := ht.info
        exact (h1 hz).1) h3
      refine ⟨vpack i.ty.isAgg cs :: vs, ?_, q3, e2⟩
      have q1 : a.tmps.getD x undef = .pointer (some ad) := q1
      have hl := load_run ht q2 (q4 w (Agr.refl _ _ _ _) st.wok.on)
      have hv : (resV a (.cell x t)).run P w = .ok (vpack i.ty.isAgg cs) w := by simp [resV, asAddr, q1, hl, vpack]
      simp only [List.mapM_cons, Sem.run_bind, hv, Sem.run_pure, Result.andThen_ok, e1]
    · cases h
theorem result_ok (hC : CtxOK P C) {c : Core} {a : Act} {fn : Func} {φ : Out → Prop} (st : St C K H E w c a) (h : (result C fn c).All φ) : ∃ sv v, φ (.done sv c) ∧ Den H E sv v ∧ (results fn a.tmps).run P w = .ok v w := by
  have key : ∀ vs : List Value, (fn.results.toList.mapM (resV a)).run P w = .ok vs w →
      (results fn a.tmps).run P w = .ok (if h : vs.toArray.size = 1 then vs.toArray[0] else .tuple vs.toArray) w := by
    intro vs hv
    rw [results_resV, Array.mapM_eq_mapM_toList]
    simp only [Sem.run_bind, map_eq_pure_bind, hv, Sem.run_pure, Result.andThen_ok]
  unfold result at h
  split at h
  · rename_i sv hs
    obtain ⟨vs, e1, e2⟩ := resS_ok hC st hs
    match vs, e2 with
    | [v], ⟨e2, _⟩ =>
      exact ⟨sv, v, h, e2, by simpa using key [v] e1⟩
  · rename_i l hne hs
    obtain ⟨vs, e1, e2⟩ := resS_ok hC st hs
    refine ⟨_, .tuple vs.toArray, h, ⟨vs.toArray, rfl, e2⟩, ?_⟩
    rw [key vs e1, dif_neg]
    intro h1
    have := e2.length
    simp at h1
    match l, hne, (this ▸ h1 : l.length = 1) with
    | [x], hne, _ => exact hne x rfl
  · exact h.elim
end
end Go.Sx
