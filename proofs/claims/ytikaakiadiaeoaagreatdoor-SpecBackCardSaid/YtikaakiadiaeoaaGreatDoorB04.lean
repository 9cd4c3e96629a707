/-
  One operation, whatever it is. A region that draws its order. The run of a function's code. The run of a function's code is sound. From the run of a function's code to its summary. What remains to be run: rules for loops, and for a function's summary. A state that says less holds where the other does. Tables of a program, checked.
-/
import Derived.Test.YtikaakiadiaeoaaGreatDoorB03
namespace Go.Sx
def Enters (P : Program) (g : Nat) : Prop := ∃ fn, P.funcs[g]? = some fn ∧ fn.body.isSome = true ∧ fn.name ≠ "runtime.NumGoroutine"
def InsOK (P : Program) (g e st bytes : Nat) : Prop :=
 ∀ (w : World) (v x : Value) (n i : Nat) (xs news : List Value), w.ownsRow 0 e st v n xs → w.ownsRow 0 e st x 1 news → (∀ b, blkV v = some b → blkV x ≠ some b) → (∀ u ∈ xs, u.oneCell' = true) → (∀ u ∈ news, u.oneCell' = true) →
  i ≤ n → n + 1 ≤ maxLen → (n + 1) * bytes ≤ 140737488355328 → Calls P g #[v, .int .i64 i, x] w fun en w' => ∃ v', en = .returned v' ∧ w'.ownsRow 0 e st v' (n + 1) (xs.take (i * st) ++ news ++ xs.drop (i * st)) ∧ w.grownBy w' (blkV v) ∧
   ∀ b, blkV v' = some b → blkV v = some b ∨ w.heap.size ≤ b
def GrowOK (P : Program) (g e st bytes : Nat) : Prop :=
 ∀ (w : World) (k : Nat), k ≤ maxLen → k * bytes ≤ 140737488355328 → Calls P g #[.slice none 0 0, .int .i64 k] w fun en w' => ∃ v', en = .returned v' ∧ w'.ownsRow 0 e st v' 0 [] ∧ w.grownBy w' none ∧ ∀ b, blkV v' = some b → w.heap.size ≤ b
structure FnsOK (P : Program) (C : Ctx) : Prop where
 sp : SpecsOK P C
 en : ∀ g, (C.spec g).isSome = true ∨ (C.fns.get g).isSome = true → Enters P g
 is : ∀ g e te, C.ins g = some e → C.ty e = some te → Enters P g ∧ InsOK P g e te.size te.bytes
 gr : ∀ g e te, C.grow g = some e → C.ty e = some te → Enters P g ∧ GrowOK P g e te.size te.bytes
section
variable {P : Program} {C : Ctx} {K : Kx} {H H' H'' : Mem} {E E' E'' : Env} {w w' w'' : World}
theorem callFunc_run {g : Nat} (h : Enters P g) (args : Array Value) (w : World) : (callFunc g args).run P w = .ok (.enter g args) w := by
 obtain ⟨fn, h1, h2, h3⟩ := h
 have hb : fn.body ≠ none := by cases hb : fn.body <;> simp [hb] at h2 ⊢
 unfold callFunc
 rw [Sem.run_bind, run_program]
 simp [h1, h3, hb]
def OpOut (P : Program) (K : Kx) (H : Mem) (E : Env) (w : World) (c : Core) (a : Act) (o : Oper) (φ : SV × Core → Prop) : Prop :=
 ∀ (next : Act → World → Prop) (Q : Exit → Act → World → Prop),
  (∀ (p : SV × Core) (v : Value) (H' : Mem) (E' : Env) (w' : World), φ p → Den H' E' p.1 v → Post K H E w c H' E' w' p.2 → next (a.put o.dst v) w') → o.wp P a w next Q
theorem WOut.op {c : Core} {a : Act} {o : Oper} {φ : SV × Core → Prop} (h : WOut P K H E w c a o φ) : OpOut P K H E w c a o φ := by
 obtain ⟨p, v, r, H', E', w', h1, h2, h3, h4, h5⟩ := h
 intro next Q hn
 unfold Oper.wp
 rw [h5]
 rcases h4 with rfl | ⟨rfl, rfl⟩
 ·exact hn p v H' E' w' h1 h2 h3
 ·exact hn p _ H' E' w' h1 h2 h3
def CallHyp (P : Program) (C : Ctx) (K : Kx) (call : Nat → List SV → Core → Tree (SV × Core)) : Prop :=
 ∀ (H : Mem) (E : Env) (w : World) (c : Core) (g : Nat) (args : List SV) (vargs : List Value) (φ : SV × Core → Prop), DenL H E args vargs → HeapOK K H E w c.hp → WOK K H w → Free E c → GlobOK C.gls H →
  (call g args c).All φ → Enters P g ∧ CallOut P K H E w c g vargs φ
theorem den_map {a : Act} {tm : List SV} (hd : DenL H E tm a.tmps.toList) : ∀ xs : List Operand, DenL H E (xs.map (evL tm)) (xs.map a.eval)
 | [] => trivial
 | x :: xs => ⟨den_ev hd x, den_map hd xs⟩
theorem rows_ins {st n i : Nat} {g : Nat → List Sh} {xs : List Value} {l : List Sh} {news : List Value} (h1 : RepRows H st n g xs) (hl : RepL H l news) (hlen : news.length = st) (hone : ∀ u ∈ news, u.oneCell' = true) (hi : i ≤ n) : RepRows H st (n + 1) (prim.ins g i l) (xs.take (i * st) ++ news ++ xs.drop (i * st)) := by
 obtain ⟨a1, a2, a3, a4⟩ := h1
 have hle : i * st ≤ n * st := Nat.mul_le_mul_right _ hi
 have htl : (xs.take (i * st)).length = i * st := by rw [List.length_take]; omega
 refine ⟨?_, fun j hj => ?_, fun u hu => ?_, fun j k s v hj e1 e2 => ?_⟩
 ·rw [List.length_append, List.length_append, htl, hlen, List.length_drop, a1, Nat.add_mul]; omega
 ·show (if j < i then g j else if j = i then l else g (j - 1)).length = st
  split
  ·exact a2 j (by omega)
  ·split
   ·rw [← hl.length, hlen]
   ·exact a2 _ (by omega)
 ·rcases List.mem_append.1 hu with hu | hu
  ·rcases List.mem_append.1 hu with hu | hu
   ·exact a3 u (List.mem_of_mem_take hu)
   ·exact hone u hu
  ·exact a3 u (List.mem_of_mem_drop hu)
 ·replace e1 : (if j < i then g j else if j = i then l else g (j - 1))[k]? = some s := e1
  have hk : ∀ {r : List Sh}, r[k]? = some s → r.length = st → k < st := fun hr hl' => by rw [← hl']; exact (List.getElem?_eq_some_iff.1 hr).1
  split at e1
  ·rename_i hji
   have hks := hk e1 (a2 j (by omega))
   have hlt : j * st + k < i * st := by
    calc j * st + k < j * st + st := by omega
     _ = (j + 1) * st := by rw [Nat.add_mul, Nat.one_mul]
     _ ≤ i * st := Nat.mul_le_mul_right _ hji
   rw [List.append_assoc, List.getElem?_append_left (by omega), List.getElem?_take, if_pos hlt] at e2
   exact a4 j k s v (by omega) e1 e2
  ·split at e1
   ·rename_i _ hji
    subst hji
    have hks := hk e1 (by rw [← hl.length, hlen])
    rw [List.append_assoc, List.getElem?_append_right (by omega), htl, show j * st + k - j * st = k by omega, List.getElem?_append_left (by omega)] at e2
    exact hl.at_ e1 e2
   ·rename_i hn1 hn2
    have hks := hk e1 (a2 _ (by omega))
    have hge : i * st + st ≤ j * st + k := by
     calc i * st + st = (i + 1) * st := by rw [Nat.add_mul, Nat.one_mul]
      _ ≤ j * st := Nat.mul_le_mul_right _ (by omega)
      _ ≤ j * st + k := Nat.le_add_right _ _
    have hjm : j * st = (j - 1) * st + st := by
     obtain ⟨m, rfl⟩ : ∃ m, j = m + 1 := ⟨j - 1, by omega⟩
     rw [Nat.add_sub_cancel, Nat.add_mul, Nat.one_mul]
    rw [List.getElem?_append_right (by rw [List.length_append, htl, hlen]; exact hge), List.length_append, htl, hlen, List.getElem?_drop] at e2
    rw [show i * st + (j * st + k - (i * st + st)) = (j - 1) * st + k by omega] at e2
    exact a4 (j - 1) k s v (by omega) e1 e2
theorem ins_ok {c : Core} {g e : Nat} {args : List SV} {vargs : List Value} {φ : SV × Core → Prop} (hC : CtxOK P C) (hF : FnsOK P C) (hg : C.ins g = some e) (hh : HeapOK K H E w c.hp) (hw : WOK K H w) (hf : Free E c)
  (hd : DenL H E args vargs) (h : (execIns C c e args).All φ) : Enters P g ∧ CallOut P K H E w c g vargs φ := by
 unfold execIns at h
 split at h
 rotate_left
 ·exact h.elim
 rename_i s i id'
 match vargs, hd with
 | [v, iv, x], ⟨hv, hiv, hx, _⟩ =>
 split at h
 rotate_left
 ·exact h.elim
 rename_i te hte
 split at h
 rotate_left
 ·exact h.elim
 rename_i n gr cells e2 st2 m hl1 hl2
 cases hb : (isOwn c.hp e s && e == e2 && st2 == te.size && m == 1 && !sameId s (.gs id') && Nat.blt 0 te.size && oneL cells) <;> simp only [hb, cond_true, cond_false] at h
 ·exact h.elim
 simp only [Bool.and_eq_true, beq_iff_eq, Bool.not_eq_true', ne_eq] at hb
 obtain ⟨⟨⟨⟨⟨⟨hown, rfl⟩, rfl⟩, rfl⟩, hne⟩, h0⟩, hone⟩ := hb
 have h0 := blt_spec h0
 split at h
 rotate_left
 ·exact h.elim
 rename_i l z k hl hz hk
 rw [hC.A] at hk h
 obtain ⟨g1, g2, h⟩ := h
 obtain ⟨z0, z1⟩ := upTo_spec g1
 obtain ⟨r2, r1⟩ := room_spec g2
 have hz' : intOf? i = some z := by
  unfold i64Of at hz
  split at hz
  ·cases hz; rfl
  ·cases hz; rfl
  ·cases hz
 have eiv : iv = .int .i64 z := by
  unfold i64Of at hz
  split at hz
  ·cases hz; exact hiv
  ·cases hz; exact hiv
  ·cases hz
 have hkz := natOf_spec hz' hk
 subst hkz
 have ea : prim.addN n 1 = n + 1 := rfl
 rw [ea] at r1 r2 h
 obtain ⟨o1, o2, _, o4, _⟩ := own_spec (st := te.size) hh hown hv
 obtain ⟨xs, p2, p3⟩ := o4 _ _ hl1
 obtain ⟨x1, news, q1, q2, q3, q4⟩ := hh.ent _ _ hl2
 rw [hx.1] at q1; cases q1
 have hdis : ∀ b, blkV v = some b → blkV x ≠ some b := fun b h1 h2 => by
  rcases o1 with ⟨_, h3⟩ | ⟨id, sb0, h3, h4, h5, h6⟩
  ·rw [h1] at h3; cases h3
  ·have := hh.dis id id' _ _ b h4 hl2 (h6.trans h1) (by simp [obk, hx.1, h2])
   subst this
   have hs : sameId s (.gs id) = true := by
    unfold sameId
    rw [h3]
    show (id == id) = true
    simp
   rw [hs] at hne; cases hne
 obtain ⟨hent, hins⟩ := hF.is g e te hg hte
 have hrl := toShL_rep hh hl q3
 have hnl : news.length = te.size := by rw [q2.1, Nat.one_mul]
 have hno := one_cells hone q3
 refine ⟨hent, ?_⟩
 unfold CallOut
 have hiz : ((z.toNat : Nat) : Int) = z := by omega
 subst eiv
 have hcall := hins w v x n z.toNat xs news p2 q2 hdis p3.2.2.1 hno (by omega) r1 r2
 rw [hiz] at hcall
 refine Calls.mono hcall fun en w' ⟨v', he, hown', hgr, hv'⟩ => ?_
 have hmine : ∀ b, blkV v' = some b → Mine K H b := fun b hb => by
  rcases hv' b hb with h | h
  ·exact o2 b h
  ·refine ⟨?_, .inl (by have := hw.size; omega)⟩
   cases hH : H b with
   | none => rfl
   | some o => have := (Array.getElem?_eq_some_iff.1 (hw.on b o hH)).1; omega
 obtain ⟨c', hφ, hp⟩ := append_post (s := s) (v := v) (v' := v') hh hw hf h o1 o2 hgr hv' (fun _ => ⟨v', _, Env.set_self _ _ _, hown', rows_ins p3 hrl hnl hno (by omega), hmine⟩)
 obtain ⟨A, n', cc, e3⟩ := owns_slice hown'
 exact ⟨_, v', H, _, he, hφ, ⟨Env.set_self _ _ _, A, n', cc, e3⟩, hp⟩
 | [], h | [_], h | [_, _], h | _ :: _ :: _ :: _ :: _, h => exact (by simp [DenL] at h)
theorem grow_ok {c : Core} {g e : Nat} {args : List SV} {vargs : List Value} {φ : SV × Core → Prop} (hC : CtxOK P C) (hF : FnsOK P C) (hg : C.grow g = some e) (hh : HeapOK K H E w c.hp) (hw : WOK K H w) (hf : Free E c)
  (hd : DenL H E args vargs) (h : (execGrow C c e args).All φ) : Enters P g ∧ CallOut P K H E w c g vargs φ := by
 unfold execGrow at h
 split at h
 rotate_left
 ·exact h.elim
 rename_i i
 match vargs, hd with
 | [v, iv], ⟨hv, hiv, _⟩ =>
 split at h
 rotate_left
 ·exact h.elim
 rename_i te z k hte hz hk
 rw [hC.A] at hk h
 obtain ⟨g1, g2, h⟩ := h
 obtain ⟨r2, r1⟩ := room_spec g2
 have z0 : (0 : Int) ≤ z := of_decide_eq_true g1
 have hz' : intOf? i = some z := by
  unfold i64Of at hz
  split at hz
  ·cases hz; rfl
  ·cases hz; rfl
  ·cases hz
 have eiv : iv = .int .i64 z := by
  unfold i64Of at hz
  split at hz
  ·cases hz; exact hiv
  ·cases hz; exact hiv
  ·cases hz
 have hkz := natOf_spec hz' hk
 subst hkz
 obtain ⟨hent, hgo⟩ := hF.gr g e te hg hte
 refine ⟨hent, ?_⟩
 unfold CallOut
 have hv : v = .slice none 0 0 := hv
 subst hv eiv
 have hcall := hgo w z.toNat r1 r2
 rw [show ((z.toNat : Nat) : Int) = z by omega] at hcall
 refine Calls.mono hcall fun en w' ⟨v', he, hown', hgr, hv'⟩ => ?_
 have hmine : ∀ b, blkV v' = some b → Mine K H b := fun b hb => by
  have h := hv' b hb
  refine ⟨?_, .inl (by have := hw.size; omega)⟩
  cases hH : H b with
  | none => rfl
  | some o => have := (Array.getElem?_eq_some_iff.1 (hw.on b o hH)).1; omega
 obtain ⟨c', hφ, hp⟩ := append_post (s := .nils) (v := .slice none 0 0) (v' := v') hh hw hf h (.inl ⟨rfl, rfl⟩) (fun b hb => by simp [blkV] at hb) hgr (fun b hb => .inr (hv' b hb)) (fun _ => ⟨v', _, Env.set_self _ _ _, hown', rows_nil _ _, hmine⟩)
 obtain ⟨A, n', cc, e3⟩ := owns_slice hown'
 exact ⟨_, v', H, _, he, hφ, ⟨Env.set_self _ _ _, A, n', cc, e3⟩, hp⟩
 | [], h | [_], h | _ :: _ :: _ :: _, h => exact (by simp [DenL] at h)
theorem exec_call {call : Nat → List SV → Core → Tree (SV × Core)} {c : Core} {a : Act} {o : Oper} {k : Call} {f : Operand} {φ : SV × Core → Prop} (hC : CtxOK P C) (hF : FnsOK P C) (hK : CallHyp P C K call) (st : St C K H E w c a) (ho : o.op = .call k)
  (hf : k.callee = .value f) (h : (match evL c.tm f with
   | .fn g cs => match C.ins g with
    | some e => execIns C c e (k.args.toList.map (evL c.tm) ++ cs)
    | none => match C.grow g with
    | some e => execGrow C c e (k.args.toList.map (evL c.tm) ++ cs)
    | none => match C.spec g with
    | some F => bif C.lend g then spreadL c F (k.args.toList.map (evL c.tm) ++ cs) else spread c F (k.args.toList.map (evL c.tm) ++ cs)
    | none => call g (k.args.toList.map (evL c.tm) ++ cs) c
   | _ => .fail).All φ) : OpOut P K H E w c a o φ := by
 have df := den_ev (H := H) (E := E) st.den f
 split at h
 ·rename_i g cs hg
  rw [hg] at df
  obtain ⟨vs, ef, hvs⟩ := df
  have hargs := (den_map st.den k.args.toList).append hvs
  have key : Enters P g ∧ CallOut P K H E w c g (k.args.toList.map a.eval ++ vs.toList) φ := by
   split at h
   ·rename_i e he
    exact ins_ok hC hF he st.hp st.wok st.free hargs h
   split at h
   ·rename_i e he
    exact grow_ok hC hF he st.hp st.wok st.free hargs h
   split at h
   ·rename_i F hF2
    refine ⟨hF.en g (.inl (by rw [hF2]; rfl)), ?_⟩
    cases hl : C.lend g <;> simp only [hl, cond_true, cond_false] at h
    ·exact spread_ok hF.sp hF2 st.hp st.wok st.free st.gl hargs h
    ·exact lend_ok hF.sp hF2 st.hp st.wok st.gl hargs h
   ·exact hK H E w c g _ _ φ hargs st.hp st.wok st.free st.gl h
  intro next Q hn
  have hr : (execOp a.eval o).run P w = .ok (.enter g (k.args.map a.eval ++ vs)) w := by
   simp only [execOp, ho, resolve, hf]
   simp [Deferred.ofValue, ef, invoke, callFunc_run key.1]
  unfold Oper.wp
  rw [hr]
  have he : (k.args.toList.map a.eval ++ vs.toList).toArray = k.args.map a.eval ++ vs := by
   apply Array.toList_inj.1; simp
  have := key.2
  unfold CallOut at this
  rw [he] at this
  refine Calls.mono this fun e w' ⟨p, v, H', E', e1, e2, e3, e4⟩ => ?_
  subst e1
  exact hn p v H' E' w' e2 e3 e4
 ·exact h.elim
theorem exec0_ok {call : Nat → List SV → Core → Tree (SV × Core)} {c : Core} {a : Act} {o : Oper} {φ : SV × Core → Prop} (hC : CtxOK P C) (hF : FnsOK P C) (hK : CallHyp P C K call) (st : St C K H E w c a)
  (h : (exec0 C call c o).All φ) : OpOut P K H E w c a o φ := by
 by_cases hq : quietKind o.op = true
 ·exact ((exec0_quiet hC st.den st.hp st.gl hq h).toW st.hp st.wok).op
 unfold exec0 at h
 split at h
 case h_4 e ho => exact (w_alloc hC st.hp st.wok st.free ho h).op
 case h_5 e x ho => exact (w_box st.den st.hp st.wok st.free ho h).op
 case h_7 t n parts ho => exact (w_buildSlice hC st.den st.hp st.wok st.free ho h).op
 case h_9 t x v ho => exact (w_store hC st.den st.hp st.wok ho h).op
 case h_20 t ho => exact (w_makeMap st.hp st.wok st.free ho h).op
 case h_21 t l k ho =>
  refine (w_makeSlice hC st.den st.hp st.wok st.free ho (fun hs => ?_) h).op
  split at hs
  ·rename_i i j
   obtain rfl : i = j := by simpa using hs
   rfl
  ·cases hs
 case h_22 t x lo hi ho => exact (w_slice hC st.den st.hp st.wok ho h).op
 case h_24 t m k v ho => exact (w_mapSet hC st.den st.hp st.wok (.inr ho) h).op
 case h_25 t m k v ho => exact (w_mapSet hC st.den st.hp st.wok (.inl ho) h).op
 case h_26 t m k ho => exact (w_mapEntry hC st.den st.hp st.wok st.free ho h).op
 case h_27 t m s v ho => exact (w_entryStore st.den st.hp st.wok ho h).op
 case h_28 k ho =>
  unfold execCall at h
  split at h
  ·rename_i b hb
   obtain ⟨callee, xs, ts⟩ := k
   simp only at hb
   subst hb
   simp only at h
   split at h
   ·rename_i x t h1 h2
    rw [ho] at hq; simp [quietKind] at hq
   ·rename_i m k t r h1 h2
    have e1 : xs = #[m, k] := by cases xs; simp at h1; subst h1; rfl
    subst e1
    have e2 : ts[0]? = some t := by rw [← Array.getElem?_toList, h2]; rfl
    exact (w_delete hC st.den st.hp st.wok ho e2 h).op
   ·rename_i s x t u h1 h2
    have e1 : xs = #[s, x] := by cases xs; simp at h1; subst h1; rfl
    have e2 : ts = #[t, u] := by cases ts; simp at h2; subst h2; rfl
    subst e1 e2
    cases hu : (t == u) <;> simp only [hu, cond_true, cond_false] at h
    ·exact (w_appendS hC st.den st.hp st.wok st.free ho h).op
    obtain rfl : t = u := by simpa using hu
    split at h
    ·rename_i r hr
     exact (w_appendB hC st.den st.hp st.wok st.free ho hr h).op
    ·exact (w_append hC st.den st.hp st.wok st.free ho h).op
   ·rw [ho] at hq; simp [quietKind] at hq
   ·rw [ho] at hq; simp [quietKind] at hq
   ·exact h.elim
  ·rename_i f hb
   exact exec_call hC hF hK st ho hb h
  ·exact h.elim
 case h_29 t u x ho => exact (w_conv hC st.den st.hp st.wok st.free ho h).op
 case h_30 => exact h.elim
 all_goals
  rename_i ho
  rw [ho] at hq
  simp [quietKind] at hq
theorem exec_ok {call : Nat → List SV → Core → Tree (SV × Core)} {c : Core} {a : Act} {o : Oper} {φ : SV × Core → Prop} (hC : CtxOK P C) (hF : FnsOK P C) (hK : CallHyp P C K call) (st : St C K H E w c a)
  (h : (exec C call c o).All φ) : OpOut P K H E w c a o φ := by
 obtain ⟨ψ, h, hψ⟩ := exec_hard h
 intro next Q hn
 refine exec0_ok hC hF hK st h next Q fun p v H' E' w' h1 h2 h3 => ?_
 obtain ⟨x, q1, q2⟩ := hψ p h1
 exact hn (x, p.2) v H' E' w' q1 (q2 _ _ _ h2) h3
/-! One operation of a region. -/
theorem den_put {c : Core} {a : Act} (hd : DenL H E c.tm a.tmps.toList) (dst : Option Nat) {sv : SV} {v : Value} (hv : Den H E sv v) : DenL H E (putS c.tm dst sv) (a.put dst v).tmps.toList := by
 cases dst with
 | none => exact hd
 | some d =>
  simp only [putS, Act.put, Array.toList_setIfInBounds]
  exact hd.set d hv
theorem put_defers {a : Act} {dst : Option Nat} {v : Value} : (a.put dst v).defers = a.defers := by cases dst <;> rfl
theorem St.step {c c' : Core} {a : Act} (st : St C K H E w c a) (dst : Option Nat) {sv : SV} {v : Value} (hv : Den H' E' sv v) (hp : Post K H E w c H' E' w' c') : St C K H' E' w' (c'.put dst sv) (a.put dst v) := by
 refine ⟨?_, hp.hp, hp.wok, ?_, st.gl.le hp.Hle, by rw [put_defers]; exact st.defers⟩
 ·have := den_put (c := c') (a := a) (by rw [hp.tm]; exact st.den.le hp.Hle hp.Ele) dst hv
  exact this
 ·exact hp.mv.free st.free
theorem St.put {c : Core} {a : Act} (st : St C K H E w c a) (dst : Option Nat) {sv : SV} {v : Value} (hv : Den H E sv v) : St C K H E w (c.put dst sv) (a.put dst v) :=
 ⟨den_put st.den dst hv, st.hp, st.wok, st.free, st.gl, by rw [put_defers]; exact st.defers⟩
theorem St.know {c : Core} {a : Act} (st : St C K H E w c a) {d : Nat} {b : Bool} (hd : c.tm.getD d .any = .test b) : St C K H E w (c.put (some d) (.bool b)) a := by
 refine ⟨?_, st.hp, st.wok, st.free, st.gl, st.defers⟩
 have h1 : c.tm[d]? = some (.test b) := by
  rw [List.getD_eq_getElem?_getD] at hd
  cases h : c.tm[d]? with
  | none => simp [h] at hd
  | some x => simp [h] at hd; rw [hd]
 obtain ⟨v, e1, e2⟩ := st.den.get h1
 have e2 : v = .bool b := e2
 subst e2
 have h2 := st.den.set d (s := .bool b) (v := .bool b) rfl
 have h3 : a.tmps.toList.set d (.bool b) = a.tmps.toList := by
  apply List.ext_getElem?
  intro j
  by_cases hj : d = j
  ·subst hj
   have : d < a.tmps.toList.length := (List.getElem?_eq_some_iff.1 e1).1
   rw [List.getElem?_set_self this, e1]
  ·rw [List.getElem?_set_ne hj]
 rw [h3] at h2
 exact h2
theorem den_getD {tm : List SV} {a : Act} (hd : DenL H E tm a.tmps.toList) {d : Nat} {sv : SV} (h : tm.getD d .any = sv) (hne : sv ≠ .any) : ∃ v, a.tmps[d]? = some v ∧ Den H E sv v := by
 have h1 : tm[d]? = some sv := by
  rw [List.getD_eq_getElem?_getD] at h
  cases h' : tm[d]? with
  | none => simp [h'] at h; exact (hne h.symm).elim
  | some x => simp [h'] at h; rw [h]
 obtain ⟨v, e1, e2⟩ := hd.get h1
 exact ⟨v, by rw [← Array.getElem?_toList]; exact e1, e2⟩
theorem wantOf_spec {ops : Array Oper} {tm : List SV} {a : Act} (hd : DenL H E tm a.tmps.toList) (o : Oper) :
  match wantOf ops.toList tm o with
  | .yes => Region.wanted o (yielded ops a.tmps) = true
  | .no => Region.wanted o (yielded ops a.tmps) = false
  | .ask d c b => tm.getD d .any = .test c ∧ Region.wanted o (yielded ops a.tmps) = (c == b)
  | .lost => True := by
 unfold wantOf Region.wanted
 cases hg : o.guard with
 | none => rfl
 | some jb =>
  obtain ⟨j, b⟩ := jb
  simp only
  have hop : opAt ops.toList j = ops[j]? := by simp [opAt]
  rw [hop]
  cases hds : (ops[j]?).bind (·.dst) with
  | none => trivial
  | some d =>
   simp only
   have hy : ∀ c : Bool, a.tmps[d]? = some (.bool c) → yielded ops a.tmps j = some c := fun c hc => by
    simp [yielded, hds, hc]
   cases hx : tm.getD d .any with
   | bool c =>
    obtain ⟨v, e1, e2⟩ := den_getD hd hx (by simp)
    have e2 : v = .bool c := e2
    subst e2
    have := hy c e1
    cases c <;> cases b <;> simp [this]
   | test c =>
    obtain ⟨v, e1, e2⟩ := den_getD hd hx (by simp)
    have e2 : v = .bool c := e2
    subst e2
    have := hy c e1
    refine ⟨hx, ?_⟩
    rw [this]
    cases c <;> cases b <;> rfl
   | tup l =>
    obtain ⟨v, e1, e2⟩ := den_getD hd hx (by simp)
    obtain ⟨vs, rfl, _⟩ := e2
    have : yielded ops a.tmps j = none := by simp [yielded, hds, e1]
    rw [this]; rfl
   | _ => trivial
theorem skV_ok {ops : List Oper} {i : Nat} : Den H E (skV ops i) undef := by
 unfold skV
 cases ops.any (fun o => match o.guard with | some (j, _) => Nat.beq j i | none => false)
 ·trivial
 ·exact ⟨#[], rfl, trivial⟩
def StepOut (P : Program) (C : Ctx) (K : Kx) (H : Mem) (E : Env) (w : World) (c : Core) (a : Act) (ops : Array Oper) (i : Nat) (φ : Core → Prop) : Prop :=
 ∀ (next : Act → World → Prop) (Q : Exit → Act → World → Prop),
  (∀ (c' : Core) (a' : Act) (H' : Mem) (E' : Env) (w' : World), φ c' → St C K H' E' w' c' a' → Mv K H E w c H' E' w' c' → (∃ v, a' = a.put ((ops[i]?).bind (·.dst)) v) → next a' w') → wpOp P ops Q i next a w
theorem mv_refl {c c' : Core} {a : Act} (st : St C K H E w c a) (h1 : c'.hp = c.hp) (h2 : c'.nx = c.nx) (h3 : c'.lim = c.lim) (h4 : c'.tc = c.tc) : Mv K H E w c H E w c' :=
 (Post.refl st.hp st.wok).mv.to rfl rfl rfl rfl h1 h2 h3 h4
theorem doOp_ok {call : Nat → List SV → Core → Tree (SV × Core)} {c : Core} {a : Act} {ops : Array Oper} {i : Nat} {o : Oper} {φ : Core → Prop} (hC : CtxOK P C) (hF : FnsOK P C) (hK : CallHyp P C K call) (st : St C K H E w c a)
  (hi : ops[i]? = some o) (hw : Region.wanted o (yielded ops a.tmps) = true) (h : (doOp C call c o).All φ) : StepOut P C K H E w c a ops i φ := by
 intro next Q hn
 unfold wpOp
 simp only [hi, hw, if_true]
 refine .inl (exec_ok hC hF hK st (Tree.All_bind h) next Q fun p v H' E' w' h1 h2 h3 => ?_)
 exact hn _ _ H' E' w' h1 (st.step o.dst h2 h3) (h3.mv.to rfl rfl rfl rfl rfl rfl rfl rfl) ⟨v, by rw [hi]; rfl⟩
theorem skipOp_ok {c : Core} {a : Act} {ops : Array Oper} {i : Nat} {o : Oper} {φ : Core → Prop} (st : St C K H E w c a)
  (hi : ops[i]? = some o) (hw : Region.wanted o (yielded ops a.tmps) = false) (h : φ (c.put o.dst (skV ops.toList i))) : StepOut P C K H E w c a ops i φ := by
 intro next Q hn
 unfold wpOp
 simp only [hi, hw]
 exact hn _ _ H E w h (st.put o.dst skV_ok) (mv_refl st rfl rfl rfl rfl) ⟨undef, by rw [hi]; rfl⟩
theorem opStep_ok {call : Nat → List SV → Core → Tree (SV × Core)} {c : Core} {a : Act} {ops : Array Oper} {i : Nat} {φ : Core → Prop} (hC : CtxOK P C) (hF : FnsOK P C) (hK : CallHyp P C K call) (st : St C K H E w c a)
  (h : (opStep C call ops.toList c i).All φ) : StepOut P C K H E w c a ops i φ := by
 unfold opStep at h
 have hop : opAt ops.toList i = ops[i]? := by simp [opAt]
 rw [hop] at h
 split at h
 ·rename_i hi
  intro next Q hn
  unfold wpOp
  simp only [hi]
  exact hn _ _ H E w h st (mv_refl st rfl rfl rfl rfl) ⟨undef, by rw [hi]; rfl⟩
 ·rename_i o hi
  have hs := wantOf_spec (ops := ops) st.den o
  split at h
  ·rename_i hw
   rw [hw] at hs
   exact doOp_ok hC hF hK st hi hs h
  ·rename_i hw
   rw [hw] at hs
   exact skipOp_ok st hi hs h
  ·rename_i d t b hw
   rw [hw] at hs
   obtain ⟨h1, h2⟩ := hs
   have key : ∀ v : Bool, t = v → (let c' := c.put (some d) (.bool v); bif v == b then doOp C call c' o else .leaf (c'.put o.dst (skV ops.toList i))).All φ → StepOut P C K H E w c a ops i φ := fun v hv hh => by
    subst hv
    have st' := st.know h1
    have mvc : Mv K H E w c H E w (c.put (some d) (.bool t)) := mv_refl st rfl rfl rfl rfl
    intro next Q hn
    cases hb : (t == b) <;> simp only [hb, cond_true, cond_false] at hh
    ·refine skipOp_ok (P := P) st' hi (by rw [h2, hb]) hh next Q fun c' a' H' E' w' e1 e2 e3 e4 => hn c' a' H' E' w' e1 e2 (mvc.trans e3) e4
    ·refine doOp_ok hC hF hK st' hi (by rw [h2, hb]) hh next Q fun c' a' H' E' w' e1 e2 e3 e4 => hn c' a' H' E' w' e1 e2 (mvc.trans e3) e4
   cases t with
   | true => exact key true rfl (by have := h.1 rfl; cases b <;> simpa using this)
   | false => exact key false rfl (by have := h.2 rfl; cases b <;> simpa using this)
  ·exact h.elim
end
end Go.Sx
namespace Go.Sx
section
variable {P : Program} {C : Ctx} {K : Kx} {H H' H'' : Mem} {E E' E'' : Env} {w w' w'' : World}
theorem needs_all {α : Type} {φ : α → Prop} : ∀ {bs : List Bool} {t : Tree α}, (needs t bs).All φ → (∀ b ∈ bs, b = true) ∧ t.All φ
 | [], _, h => ⟨fun _ h => (by cases h), h⟩
 | b :: r, t, h => by
  obtain ⟨h1, h2⟩ := h
  obtain ⟨h3, h4⟩ := needs_all h2
  refine ⟨fun x hx => ?_, h4⟩
  cases hx with
  | head => exact h1
  | tail _ hx => exact h3 x hx
theorem nonAny_some {r : Option (List Bool × SV)} {x : List Bool × SV} (h : nonAny r = some x) : r = some x := by
 unfold nonAny at h
 split at h
 ·cases h
 ·exact h
theorem quietLeaf_sub : ∀ {t : Tree (SV × Core)} {bs bs' : List Bool} {v : SV}, quietLeaf t bs = some (bs', v) → ∀ b ∈ bs, b ∈ bs'
 | .leaf _, _, _, _, h => by simp [quietLeaf] at h; obtain ⟨rfl, _⟩ := h; exact fun _ h => h
 | .need b t, bs, bs', v, h => fun x hx => quietLeaf_sub (t := t) h x (List.mem_cons_of_mem _ hx)
 | .node _ _ _, _, _, _, h => by simp [quietLeaf] at h
 | .both _ _, _, _, _, h => by simp [quietLeaf] at h
 | .must _ _, _, _, _, h => by simp [quietLeaf] at h
 | .fail, _, _, _, h => by simp [quietLeaf] at h
theorem quietLeaf_all : ∀ {t : Tree (SV × Core)} {bs bs' : List Bool} {v : SV}, quietLeaf t bs = some (bs', v) → (∀ b ∈ bs', b = true) → t.All fun p => p.1 = v
 | .leaf _, _, _, _, h, _ => by simp [quietLeaf] at h; exact h.2
 | .need b t, bs, bs', v, h, hb => ⟨hb b (quietLeaf_sub (t := t) h b (List.mem_cons_self ..)), quietLeaf_all (t := t) h hb⟩
 | .node _ _ _, _, _, _, h, _ => by simp [quietLeaf] at h
 | .both _ _, _, _, _, h, _ => by simp [quietLeaf] at h
 | .must _ _, _, _, _, h, _ => by simp [quietLeaf] at h
 | .fail, _, _, _, h, _ => by simp [quietLeaf] at h
theorem allOf_all {α : Type} {φ : α → Prop} {f : Nat → Tree α} : ∀ {rs : List Nat}, (allOf f rs).All φ → ∀ i ∈ rs, (f i).All φ
 | [], h, _, _ => h.elim
 | [i], h, j, hj => by simp at hj; subst hj; exact h
 | i :: k :: r, h, j, hj => by
  obtain ⟨h1, h2⟩ := h
  cases hj with
  | head => exact h1
  | tail _ hj => exact allOf_all h2 j hj
theorem firstQ_spec {opsA : Array Oper} {lock : List (Nat × SB)} {listed : Array Bool} {tm0 : List SV} {c : Core} {q : Quiet} : ∀ {rs : List Nat}, firstQ C opsA lock listed tm0 c rs = q → q ≠ .no → ∃ i ∈ rs, quiet1 C opsA lock listed tm0 c i = q
 | [], h, hn => by simp [firstQ] at h; exact (hn h.symm).elim
 | i :: r, h, hn => by
  unfold firstQ at h
  split at h
  ·obtain ⟨j, h1, h2⟩ := firstQ_spec h hn
   exact ⟨j, List.mem_cons_of_mem _ h1, h2⟩
  ·exact ⟨i, List.mem_cons_self .., h⟩
theorem countP_lt {p q : Nat → Bool} {i : Nat} : ∀ {l : List Nat}, (∀ x, q x = true → p x = true) → i ∈ l → p i = true → q i = false → l.countP q < l.countP p
 | [], _, h, _, _ => by cases h
 | x :: l, hpq, h, h1, h2 => by
  have hle : l.countP q ≤ l.countP p := List.countP_mono_left fun x _ h => hpq x h
  rw [List.countP_cons, List.countP_cons]
  cases h with
  | head => simp [h1, h2]; omega
  | tail _ h =>
   have := countP_lt hpq h h1 h2
   by_cases hq : q x = true
   ·simp [hq, hpq x hq]; omega
   ·simp [hq]; omega
def cnt (ops : Array Oper) (listed : Array Bool) : Nat := (List.range ops.size).countP fun j => !listed.getD j true
theorem cnt_set {ops : Array Oper} {listed : Array Bool} {i : Nat} (hi : i < ops.size) (hu : listed.getD i true = false) : cnt ops (listed.setIfInBounds i true) < cnt ops listed := by
 have hs : i < listed.size := by
  rcases Nat.lt_or_ge i listed.size with h | h
  ·exact h
  ·simp [Array.getElem?_eq_none h] at hu
 refine countP_lt (i := i) (fun x hx => ?_) (List.mem_range.2 hi) (by rw [hu]; rfl) (by simp [hs])
 by_cases hxi : i = x
 ·subst hxi; rw [hu]; rfl
 ·rw [getD_set_ne true hxi] at hx; exact hx
theorem lock_not {unl : List Nat} : ∀ {hp : List (Nat × SB)} {id : Nat} {sb : SB}, look? (lockHp hp unl) id = some sb → unl.contains id = false
 | [], _, _, h => by simp [lockHp, look?] at h
 |(j, x) :: l, id, sb, h => by
  unfold lockHp at h
  cases hu : unl.contains j <;> simp only [hu, cond_true, cond_false] at h
  ·simp only [look?] at h
   cases hj : (j == id) <;> simp only [hj, cond_true, cond_false] at h
   ·exact lock_not h
   ·obtain rfl : j = id := by simpa using hj
    exact hu
  ·exact lock_not h
theorem lock_look {unl : List Nat} : ∀ {hp : List (Nat × SB)} {id : Nat} {sb : SB}, look? (lockHp hp unl) id = some sb → look? hp id = some sb
 | [], _, _, h => h
 |(j, x) :: l, id, sb, h => by
  have hn := lock_not h
  unfold lockHp at h
  cases hu : unl.contains j <;> simp only [hu, cond_true, cond_false] at h
  ·simp only [look?] at h ⊢
   cases hj : (j == id) <;> simp only [hj, cond_true, cond_false] at h ⊢
   ·exact lock_look h
   ·exact h
  ·have h := lock_look h
   simp only [look?]
   cases hj : (j == id) <;> simp only [cond_true, cond_false]
   ·exact h
   ·obtain rfl : j = id := by simpa using hj
    rw [hn] at hu; cases hu
structure Rg (C : Ctx) (K : Kx) (opsA : Array Oper) (base stp : Nat) (lock : List (Nat × SB)) (H0 : Mem) (E0 : Env) (w0 : World) (c0 : Core) (H : Mem) (E : Env) (w : World) (c : Core) (a : Act) (listed : Array Bool) (tm0 : List SV) : Prop where
 st : St C K H E w c a
 nx : c.nx = 0
 lim : c.lim = 0
 free : ∀ j, j < opsA.size → listed.getD j true = false → ∀ id, base + stp * j ≤ id → id < base + stp * (j + 1) → E id = none
 den0 : DenL H0 E0 tm0 a.tmps.toList
 ch : Ch K H0 E0 w0 c0.hp c0.tc H E w c.hp c.tc (fun i => base ≤ i ∧ i < base + stp * opsA.size)
 lk : ∀ id sb b, look? lock id = some sb → obk E0 id sb = some b → H b ≠ none ∨ ∃ sb', look? c.hp id = some sb' ∧ obk E id sb' = some b
 agr : Agr H0 E0 lock w0 w
 on : H0.on w
def Still (H0 : Mem) (E0 : Env) (lock : List (Nat × SB)) (w0 : World) (w' : World) : Prop := Agr H0 E0 lock w0 w' ∧ H0.on w'
variable {opsA : Array Oper} {base stp : Nat} {lock : List (Nat × SB)} {H0 : Mem} {E0 : Env} {w0 : World} {c0 : Core} {c : Core} {a : Act} {listed : Array Bool} {tm0 : List SV}
theorem quiet1_take (hC : CtxOK P C) (hH0 : HeapOK K H0 E0 w0 lock) (hg0 : GlobOK C.gls H0) (r : Rg C K opsA base stp lock H0 E0 w0 c0 H E w c a listed tm0) {i j : Nat} {bs : List Bool} {v v0 : SV}
  (h : quiet1 C opsA lock listed tm0 c i = .take j bs v v0) (hb : ∀ b ∈ bs, b = true) :
  j = i ∧ ∃ o u, opsA[i]? = some o ∧ Region.free .any opsA listed i = true ∧ YieldsIf P opsA (Still H0 E0 lock w0) o u a ∧ Den H E v u ∧ Den H0 E0 v0 u := by
 unfold quiet1 at h
 have hop : opAt opsA.toList i = opsA[i]? := by simp [opAt]
 rw [hop] at h
 simp only [freeF_eq] at h
 split at h
 ·cases h
 ·rename_i o hi
  have hs := wantOf_spec (ops := opsA) r.st.den o
  split at h
  ·cases h
  ·rename_i hw
   rw [hw] at hs
   cases hf : Region.free .any opsA listed i <;> simp only [hf, cond_true, cond_false] at h
   ·cases h
   cases h
   exact ⟨rfl, o, undef, hi, rfl, .inr ⟨hs, rfl⟩, skV_ok, skV_ok⟩
  ·rename_i hw
   rw [hw] at hs
   cases hq : (quietKind o.op && Region.free .any opsA listed i) <;> simp only [hq, cond_true, cond_false] at h
   ·cases h
   simp only [Bool.and_eq_true] at hq
   split at h
   ·rename_i bs' v' hl
    cases h
    have hall := quietLeaf_all (nonAny_some hl) hb
    obtain ⟨p, u, h1, h2, h3, h4⟩ := exec_quiet (c := { c with tm := tm0, hp := lock }) (w := w0) hC r.den0 hH0 hg0 hq.1 hall
    subst h1
    exact ⟨rfl, o, u, hi, hq.2, .inl ⟨hs, fun w' hw' => h4 w' hw'.1 hw'.2⟩, h3.le r.ch.Hle r.ch.Ele, h3⟩
   ·cases hp : pureOp c.tm o.op <;> simp only [hp, cond_true, cond_false] at h
    ·cases h
    split at h
    ·rename_i bs' v' hl
     cases h
     have hall := quietLeaf_all hl hb
     obtain ⟨p, u, h1, h2, h3, h4⟩ := exec_pure hC r.st.den r.st.hp r.st.gl hp hall
     subst h1
     exact ⟨rfl, o, u, hi, hq.2, .inl ⟨hs, fun w' _ => h4 w'⟩, h3, trivial⟩
    ·cases h
  ·cases h
theorem quiet1_ask (hC : CtxOK P C) (r : Rg C K opsA base stp lock H0 E0 w0 c0 H E w c a listed tm0) {i d : Nat} {t : Bool} (h : quiet1 C opsA lock listed tm0 c i = .ask d t) : c.tm.getD d .any = .test t := by
 unfold quiet1 at h
 have hop : opAt opsA.toList i = opsA[i]? := by simp [opAt]
 rw [hop] at h
 simp only [freeF_eq] at h
 split at h
 ·cases h
 ·rename_i o hi
  have hs := wantOf_spec (ops := opsA) r.st.den o
  split at h
  ·rename_i d' t' b' hw
   rw [hw] at hs
   cases h
   exact hs.1
  ·cases hf : Region.free .any opsA listed i <;> simp only [hf, cond_true, cond_false] at h
   ·cases h
   ·cases h
  ·cases hq : (quietKind o.op && Region.free .any opsA listed i) <;> simp only [hq, cond_true, cond_false] at h
   ·cases h
   split at h
   ·cases h
   ·cases hp : pureOp c.tm o.op <;> simp only [hp, cond_true, cond_false] at h
    ·cases h
    split at h
    ·cases h
    ·cases h
  ·cases h
theorem Rg.take (r : Rg C K opsA base stp lock H0 E0 w0 c0 H E w c a listed tm0) {i : Nat} {d : Option Nat} {u : Value} {v v0 : SV} (h1 : Den H E v u) (h0 : Den H0 E0 v0 u) :
  Rg C K opsA base stp lock H0 E0 w0 c0 H E w (c.put d v) (a.put d u) (listed.setIfInBounds i true) (putS tm0 d v0) := by
 refine ⟨r.st.put d h1, r.nx, r.lim, fun j hj hu => r.free j hj ?_, ?_, r.ch, r.lk, r.agr, r.on⟩
 ·by_cases hij : i = j
  ·subst hij
   cases hx : listed.getD i true with
   | false => rfl
   | true =>
    rcases Nat.lt_or_ge i listed.size with h | h
    ·simp [h] at hu
    ·simp [Array.getElem?_eq_none h] at hu
  ·rw [getD_set_ne true hij] at hu; exact hu
 ·have := den_put (c := { c with tm := tm0 }) (a := a) r.den0 d h0
  exact this
theorem Rg.know (r : Rg C K opsA base stp lock H0 E0 w0 c0 H E w c a listed tm0) {d : Nat} {b : Bool} (hd : c.tm.getD d .any = .test b) :
  Rg C K opsA base stp lock H0 E0 w0 c0 H E w (c.put (some d) (.bool b)) a listed (tm0.set d (.bool b)) := by
 refine ⟨r.st.know hd, r.nx, r.lim, r.free, ?_, r.ch, r.lk, r.agr, r.on⟩
 obtain ⟨v, e1, e2⟩ := den_getD r.st.den hd (by simp)
 have e2 : v = .bool b := e2
 subst e2
 have h2 := r.den0.set d (s := .bool b) (v := .bool b) rfl
 have h3 : a.tmps.toList.set d (.bool b) = a.tmps.toList := by
  rw [← Array.getElem?_toList] at e1
  apply List.ext_getElem?
  intro j
  by_cases hj : d = j
  ·subst hj
   have : d < a.tmps.toList.length := (List.getElem?_eq_some_iff.1 e1).1
   rw [List.getElem?_set_self this, e1]
  ·rw [List.getElem?_set_ne hj]
 rw [h3] at h2
 exact h2
theorem getD_unset {i j : Nat} (hij : (listed.setIfInBounds i true).getD j true = false) : j ≠ i ∧ listed.getD j true = false := by
 by_cases h : i = j
 ·subst h
  rcases Nat.lt_or_ge i listed.size with h | h
  ·simp [h] at hij
  ·simp [Array.getElem?_eq_none h] at hij
 ·rw [getD_set_ne true h] at hij
  exact ⟨fun e => h e.symm, hij⟩
theorem Rg.step (hl0 : ∀ id sb, look? lock id = some sb → look? c0.hp id = some sb) (r : Rg C K opsA base stp lock H0 E0 w0 c0 H E w c a listed tm0) {i : Nat} (hi : i < opsA.size) {c' : Core} {a' : Act} {u : Value}
  (st' : St C K H' E' w' c' a') (mv : Mv K H E w { c with tc := [], nx := base + stp * i, lim := base + stp * (i + 1) } H' E' w' c') (ha : a' = a.put ((opsA[i]?).bind (·.dst)) u)
  (hdj : disjoint c'.tc lock = true) :
  Rg C K opsA base stp lock H0 E0 w0 c0 H' E' w' { c' with tc := c'.tc ++ c.tc, nx := c.nx, lim := c.lim } a' (listed.setIfInBounds i true) (putS tm0 ((opsA[i]?).bind (·.dst)) .any) := by
 have hch := mv.ch
 have hnx1 : base + stp * i ≤ c'.nx := mv.nx
 have hlim : c'.nx ≤ base + stp * (i + 1) := by
  have h1 : c'.nx ≤ base + stp * (i + 1) ∨ c'.nx = base + stp * i := mv.lim
  rcases h1 with h1 | h1
  ·exact h1
  ·rw [h1, Nat.mul_add]; omega
 have hdj' : ∀ id ∈ c'.tc, look? lock id = none := fun id hid => by
  have := List.all_eq_true.1 hdj id hid
  cases h : look? lock id with
  | none => rfl
  | some x => rw [h] at this; cases this
 have hge : ∀ i', i' < opsA.size → base + stp * (i' + 1) ≤ base + stp * opsA.size := fun i' h => Nat.add_le_add_left (Nat.mul_le_mul_left _ h) _
 have hkeep : ∀ b, H b ≠ none → w'.heap[b]? = w.heap[b]? := fun b hb => by
  cases h : H b with
  | none => exact (hb h).elim
  | some o => rw [st'.wok.on b o (mv.Hle b o h), r.st.wok.on b o h]
 have hother : ∀ id sb b, look? lock id = some sb → obk E0 id sb = some b → w'.heap[b]? = w.heap[b]? ∧ (H' b ≠ none ∨ ∃ sb', look? c'.hp id = some sb' ∧ obk E' id sb' = some b) := fun id sb b h1 h2 => by
  rcases r.lk id sb b h1 h2 with h | ⟨sb', h3, h4⟩
  ·refine ⟨hkeep b h, .inl ?_⟩
   cases hb : H b with
   | none => exact (h hb).elim
   | some o => rw [mv.Hle b o hb]; simp
  ·have hnot : id ∉ c'.tc := fun hid => by rw [hdj' id hid] at h1; cases h1
   refine ⟨mv.fr b ((r.st.hp.ent _ _ h3).lt h4).1 fun id' hid' e => ?_, mv.keep id sb' b h3 hnot h4⟩
   rcases mv.tch id' hid' with h5 | h5 | ⟨sb2, h5, h6⟩
   ·cases h5
   ·simp [bk, h5] at e
   ·have := r.st.hp.dis _ _ _ _ _ h3 h5 h4 (h6.trans e)
    subst this
    exact hnot hid'
 refine ⟨⟨st'.den, st'.hp, st'.wok, ?_, st'.gl, st'.defers⟩, r.nx, r.lim, fun j hj hu id h1 h2 => ?_, ?_, r.ch.trans ((hch.add c.tc).mono fun k hk => ?_), fun id sb b h1 h2 => (hother id sb b h1 h2).2, fun b hb => ?_, fun b o hb => ?_⟩
 ·intro k h1 h2
  have h1 : c.nx ≤ k := h1
  have h2 : k < c.lim := h2
  have := r.nx; have := r.lim; omega
 ·obtain ⟨hji, hu⟩ := getD_unset hu
  have h0 := r.free j hj hu id h1 h2
  cases he : E' id with
  | none => rfl
  | some v =>
   have := hch.new id h0 (by rw [he]; simp)
   simp only at this
   have q1 := this.1
   have q2 := this.2
   rcases Nat.lt_or_gt_of_ne hji with q | q
   ·have : stp * (j + 1) ≤ stp * i := Nat.mul_le_mul_left _ q
    omega
   ·have : stp * (i + 1) ≤ stp * j := Nat.mul_le_mul_left _ q
    omega
 ·subst ha
  exact den_put (c := { c with tm := tm0 }) (a := a) r.den0 _ trivial
 ·simp only at hk
  have := hge i hi
  have h0 : base ≤ base + stp * i := Nat.le_add_right _ _
  exact ⟨by omega, by omega⟩
 ·rcases hb with hb | ⟨id, sb, h1, h2⟩
  ·have hH : H b ≠ none := by
    cases h : H0 b with
    | none => exact (hb h).elim
    | some o => rw [r.ch.Hle b o h]; simp
   rw [hkeep b hH]
   exact r.agr b (.inl hb)
  ·rw [(hother id sb b h1 h2).1]
   exact r.agr b (.inr ⟨id, sb, h1, h2⟩)
 ·exact st'.wok.on b o (mv.Hle b o (r.ch.Hle b o hb))
theorem explore_ok {call : Nat → List SV → Core → Tree (SV × Core)} (hC : CtxOK P C) (hF : FnsOK P C) (hK : CallHyp P C K call) (hH0 : HeapOK K H0 E0 w0 lock) (hg0 : GlobOK C.gls H0)
  (hl0 : ∀ id sb, look? lock id = some sb → look? c0.hp id = some sb) (hns : Region.noSelect opsA = true) {R : Act → World → Prop} {φ : Core → Prop}
  (hfin : ∀ H E w c a listed tm0, Rg C K opsA base stp lock H0 E0 w0 c0 H E w c a listed tm0 → φ c → R a w) :
  ∀ (n : Nat) (listed : Array Bool) (tm0 : List SV) (c : Core) (H : Mem) (E : Env) (w : World) (a : Act) (m : Nat), Rg C K opsA base stp lock H0 E0 w0 c0 H E w c a listed tm0 → cnt opsA listed ≤ m →
   (explore C call base stp opsA lock n listed tm0 c).All φ → wpAnyH P .any opsA (fun e a w => e = .normal ∧ R a w) (Still H0 E0 lock w0) m listed a w
 | 0, _, _, _, _, _, _, _, _, _, _, h => h.elim
 | n + 1, listed, tm0, c, H, E, w, a, m, r, hm, h => by
  unfold explore at h
  simp only [readyF_eq] at h
  split at h
  ·rename_i hr
   exact wpAnyH_done hr ⟨rfl, hfin H E w c a listed tm0 r h⟩ m
  ·rename_i hne
   have hrange : ∀ i, i ∈ Region.ready .any opsA listed → i < opsA.size ∧ listed.getD i true = false := fun i hi => by
    have h0 := (mem_ready.1 hi).1
    refine ⟨?_, h0⟩
    unfold Region.ready at hi
    exact List.mem_range.1 (List.mem_filter.1 hi).1
   have hdec : ∀ i, i ∈ Region.ready .any opsA listed → ∃ m', m = m' + 1 ∧ cnt opsA (listed.setIfInBounds i true) ≤ m' := fun i hi => by
    have := cnt_set (hrange i hi).1 (hrange i hi).2
    exact ⟨m - 1, by omega, by omega⟩
   split at h
   ·rename_i j bs v v0 hq
    obtain ⟨i, hi, hq1⟩ := firstQ_spec hq (by simp)
    obtain ⟨hb, h⟩ := needs_all h
    obtain ⟨rfl, o, u, ho, hf, hy, hd, hd0⟩ := quiet1_take hC hH0 hg0 r hq1 hb
    obtain ⟨m', rfl, hm'⟩ := hdec j hi
    have hop : (opAt opsA.toList j).bind (·.dst) = o.dst := by simp [opAt, ho]
    rw [hop] at h
    refine wpAnyH_take ho hns hf (by simpa using hi) (fun c a w hh => by cases hh.1) hy ⟨r.agr, r.on⟩ ?_
    exact explore_ok hC hF hK hH0 hg0 hl0 hns hfin n _ _ _ H E w _ m' (r.take hd hd0) hm' h
   ·rename_i d t hq
    obtain ⟨i, hi, hq1⟩ := firstQ_spec hq (by simp)
    have ht := quiet1_ask hC r hq1
    cases t with
    | true => exact explore_ok hC hF hK hH0 hg0 hl0 hns hfin n _ _ _ H E w a m (r.know ht) hm (h.1 rfl)
    | false => exact explore_ok hC hF hK hH0 hg0 hl0 hns hfin n _ _ _ H E w a m (r.know ht) hm (h.2 rfl)
   ·rename_i hq
    have hall := allOf_all h
    obtain ⟨i0, hi0⟩ : ∃ i0, i0 ∈ Region.ready .any opsA listed := by
     cases hr : Region.ready .any opsA listed with
     | nil => exact (hne hr).elim
     | cons x xs => exact ⟨x, List.mem_cons_self ..⟩
    obtain ⟨m', rfl, _⟩ := hdec i0 hi0
    refine wpAnyH_all rfl (fun hr => hne hr) fun i hi => ?_
    obtain ⟨m'', hm'', hc⟩ := hdec i hi
    have hmm : m'' = m' := by omega
    subst hmm
    have hi' := hrange i hi
    have st1 : St C K H E w { c with tc := [], nx := base + stp * i, lim := base + stp * (i + 1) } a :=
     ⟨r.st.den, r.st.hp, r.st.wok, fun k h1 h2 => r.free i hi'.1 hi'.2 k h1 h2, r.st.gl, r.st.defers⟩
    refine opStep_ok hC hF hK st1 (Tree.All_bind (hall i hi)) _ _ fun c' a' H' E' w' e1 e2 e3 e4 => ?_
    obtain ⟨u, e4⟩ := e4
    cases hdj : disjoint c'.tc lock <;> simp only [hdj, cond_true, cond_false] at e1
    ·exact e1.elim
    have hop : opAt opsA.toList i = opsA[i]? := by simp [opAt]
    rw [hop] at e1
    have r' := r.step hl0 hi'.1 e2 e3 e4 hdj
    exact ⟨⟨r'.agr, r'.on⟩, explore_ok hC hF hK hH0 hg0 hl0 hns hfin n _ _ _ H' E' w' a' m'' r' hc e1⟩
theorem St.sameHeap {c : Core} {a : Act} (st : St C K H E w c a) (h1 : w'.heap = w.heap) (h2 : w'.os = w.os) (h3 : w'.tape = w.tape) (h4 : w'.output = w.output) : St C K H E w' c a :=
 ⟨st.den, ⟨fun id sb hl => (st.hp.ent id sb hl).kept (fun _ _ e => e) (fun _ _ e => e) (fun b _ => by rw [h1]) fun b hb => ((st.hp.ent id sb hl).lt hb).2.1, st.hp.dis⟩,
  ⟨h2.trans st.wok.os, h3.trans st.wok.tape, h4.trans st.wok.output, by rw [h1]; exact st.wok.size, fun b hb hn => by rw [h1]; exact st.wok.kept b hb hn, fun b o hb => by rw [h1]; exact st.wok.on b o hb, st.wok.le, st.wok.fresh⟩,
  st.free, st.gl, st.defers⟩
theorem mv_sameHeap {c c' : Core} (h : Mv K H E w c H' E' w' c') (h1 : w.heap = w''.heap) : Mv K H E w'' c H' E' w' c' := by
 obtain ⟨a1, a2, a3, a4, a5, a6, a7, a8, a9, a10, a11, a12, a13, a14, a15, a16⟩ := h
 exact ⟨a1, a2, a3, a4, a5, a6, a7, a8, a9, a10, by rw [← h1]; exact a11, by rw [← h1]; exact a12, by rw [← h1]; exact a13, a14, a15, a16⟩
theorem Eqn.all_app : ∀ {l l' : List Eqn}, Eqn.all (l ++ l') → Eqn.all l ∧ Eqn.all l'
 | [], _, h => ⟨trivial, h⟩
 | _ :: l, _, h => ⟨⟨h.1, (Eqn.all_app h.2).1⟩, (Eqn.all_app h.2).2⟩
theorem app2_some {a b : Option (List Eqn)} {l : List Eqn} (h : app2 a b = some l) : ∃ x y, a = some x ∧ b = some y ∧ l = x ++ y := by
 unfold app2 at h
 split at h
 ·cases h; exact ⟨_, _, rfl, rfl, rfl⟩
 ·cases h
theorem iff2_some {c : Bool} {a : Option (List Eqn)} {l : List Eqn} (h : iff2 c a = some l) : c = true ∧ a = some l := by
 cases c
 ·cases h
 ·exact ⟨rfl, h⟩
theorem eqSh_ok {s s' : Sh} {q : List Eqn} (h : eqSh s s' = some q) (ha : Eqn.all q) : s = s' := by
 unfold eqSh at h
 split at h
 ·obtain ⟨h1, h2⟩ := iff2_some h
  simp only [Bool.and_eq_true, beq_iff_eq] at h1
  obtain ⟨rfl, rfl⟩ := h1
  rfl
 ·cases h
  exact ha.1
mutual
theorem eqSV_ok : ∀ {x y : SV} {q : List Eqn}, eqSV x y = some q → Eqn.all q → x = y
 | x, y, q, h, ha => by
  unfold eqSV at h
  split at h
  all_goals first
   |(cases h; done)
   |(cases h; rfl)
   |(obtain ⟨h1, h2⟩ := iff2_some h; simp only [Bool.and_eq_true, beq_iff_eq] at h1; obtain ⟨rfl, rfl⟩ := h1; rfl)
   |(obtain ⟨h1, h2⟩ := iff2_some h; simp only [beq_iff_eq] at h1; subst h1; cases h2; rfl)
   | skip
  case h_3 => obtain ⟨h1, h2⟩ := iff2_some h; simp only [beq_iff_eq] at h1; subst h1; cases h2; rw [ha.1]
  case h_5 => cases h; rw [ha.1]
  case h_7 => cases h; rw [ha.1]
  case h_10 => obtain ⟨h1, h2⟩ := iff2_some h; simp only [Bool.and_eq_true, beq_iff_eq] at h1; obtain ⟨⟨rfl, rfl⟩, rfl⟩ := h1; cases h2; rw [ha.1]
  case h_11 => obtain ⟨h1, h2⟩ := iff2_some h; simp only [Bool.and_eq_true, beq_iff_eq] at h1; obtain ⟨rfl, rfl⟩ := h1; cases h2; rw [ha.1, ha.2.1, ha.2.2.1]
  case h_17 => obtain ⟨h1, h2⟩ := iff2_some h; simp only [beq_iff_eq] at h1; subst h1; rw [eqSVL_ok h2 ha]
  case h_18 => rw [eqSVL_ok h ha]
  case h_19 => rw [eqSVL_ok h ha]
  case h_20 => obtain ⟨h1, h2⟩ := iff2_some h; simp only [beq_iff_eq] at h1; subst h1; rw [eqSV_ok h2 ha]
  case h_24 => rw [eqSh_ok h ha]
theorem eqSVL_ok : ∀ {l m : List SV} {q : List Eqn}, eqSVL l m = some q → Eqn.all q → l = m
 | [], [], _, _, _ => rfl
 | x :: l, y :: m, q, h, ha => by
  simp only [eqSVL] at h
  obtain ⟨a, b, h1, h2, rfl⟩ := app2_some h
  rw [eqSV_ok h1 (Eqn.all_app ha).1, eqSVL_ok h2 (Eqn.all_app ha).2]
 | [], _ :: _, _, h, _ => by simp [eqSVL] at h
 | _ :: _, [], _, h, _ => by simp [eqSVL] at h
end
theorem eqSVM_ok : ∀ {l m : List (SV × SV)} {q : List Eqn}, eqSVM l m = some q → Eqn.all q → l = m
 | [], [], _, _, _ => rfl
 |(a, b) :: l, (c, d) :: m, q, h, ha => by
  simp only [eqSVM] at h
  obtain ⟨q1, q2, h1, h2, rfl⟩ := app2_some h
  obtain ⟨q3, q4, h3, h4, rfl⟩ := app2_some h2
  obtain ⟨a1, a2⟩ := Eqn.all_app ha
  obtain ⟨a3, a4⟩ := Eqn.all_app a2
  rw [eqSV_ok h1 a1, eqSV_ok h3 a3, eqSVM_ok h4 a4]
 | [], _ :: _, _, h, _ => by simp [eqSVM] at h
 | _ :: _, [], _, h, _ => by simp [eqSVM] at h
theorem eqFM_ok : ∀ {l m : List (Int × Bool × SV)} {q : List Eqn}, eqFM l m = some q → Eqn.all q → l = m
 | [], [], _, _, _ => rfl
 |(a, p, b) :: l, (c, r, d) :: m, q, h, ha => by
  simp only [eqFM] at h
  obtain ⟨h0, h⟩ := iff2_some h
  obtain ⟨q1, q2, h1, h2, rfl⟩ := app2_some h
  obtain ⟨q3, q4, h3, h4, rfl⟩ := app2_some h2
  obtain ⟨a1, a2⟩ := Eqn.all_app ha
  obtain ⟨a3, a4⟩ := Eqn.all_app a2
  cases h1
  have h0 : p = r := by simpa using h0
  rw [h0, a1.1, eqSV_ok h3 a3, eqFM_ok h4 a4]
 | [], _ :: _, _, h, _ => by simp [eqFM] at h
 | _ :: _, [], _, h, _ => by simp [eqFM] at h
theorem eqTag_ok {x y : Option (Nat × Int)} {q : List Eqn} (h : eqTag x y = some q) (ha : Eqn.all q) : x = y := by
 unfold eqTag at h
 split at h
 ·rfl
 ·obtain ⟨h1, h2⟩ := iff2_some h
  cases h2
  have h1 := by simpa using h1
  rw [h1, ha.1]
 ·cases h
theorem eqSB_ok {x y : SB} {q : List Eqn} (h : eqSB x y = some q) (ha : Eqn.all q) : x = y := by
 unfold eqSB at h
 split at h
 ·obtain ⟨h1, h2⟩ := iff2_some h
  have h1 := by simpa using h1
  rw [h1, eqSVL_ok h2 ha]
 ·obtain ⟨h1, h2⟩ := iff2_some h
  simp only [Bool.and_eq_true, beq_iff_eq] at h1
  rw [h1.1.1, h1.1.2, h1.2, eqSVL_ok h2 ha]
 ·obtain ⟨h1, h2⟩ := iff2_some h
  simp only [Bool.and_eq_true, beq_iff_eq] at h1
  cases h2
  rw [h1.1, h1.2, ha.1, ha.2.1]
 ·obtain ⟨h1, h2⟩ := iff2_some h
  have h1 := by simpa using h1
  cases h2
  rw [h1, ha.1, ha.2.1]
 ·rw [eqSVM_ok h ha]
 ·cases h
  have := ha.1
  simp only [Eqn.ok, Sh.pt.injEq] at this
  rw [this]
 ·obtain ⟨h1, h2⟩ := iff2_some h
  simp only [Bool.and_eq_true, beq_iff_eq] at h1
  obtain ⟨q1, q2, h3, h4, rfl⟩ := app2_some h2
  cases h3
  obtain ⟨a1, a2⟩ := Eqn.all_app ha
  rw [h1.1, h1.2, a1.1, a1.2.1, eqSVL_ok h4 a2]
 ·obtain ⟨h1, h2⟩ := iff2_some h
  have h1 := by simpa using h1
  cases h2
  rw [h1, ha.1]
 ·obtain ⟨h1, h2⟩ := iff2_some h
  have h1 := by simpa using h1
  obtain ⟨q1, q2, h3, h4, rfl⟩ := app2_some h2
  obtain ⟨q3, q4, h5, h6, rfl⟩ := app2_some h4
  obtain ⟨q5, q6, h7, h8, rfl⟩ := app2_some h6
  cases h3
  obtain ⟨a1, a2⟩ := Eqn.all_app ha
  obtain ⟨a3, a4⟩ := Eqn.all_app a2
  obtain ⟨a5, a6⟩ := Eqn.all_app a4
  rw [h1, a1.1, eqFM_ok h5 a3, eqFM_ok h7 a5, eqTag_ok h8 a6]
 ·cases h
theorem eqHp_ok : ∀ {l m : List (Nat × SB)} {q : List Eqn}, eqHp l m = some q → Eqn.all q → l = m
 | [], [], _, _, _ => rfl
 |(i, a) :: l, (j, b) :: m, q, h, ha => by
  simp only [eqHp] at h
  obtain ⟨h0, h⟩ := iff2_some h
  obtain ⟨q1, q2, h1, h2, rfl⟩ := app2_some h
  have h0 := by simpa using h0
  rw [h0, eqSB_ok h1 (Eqn.all_app ha).1, eqHp_ok h2 (Eqn.all_app ha).2]
 | [], _ :: _, _, h, _ => by simp [eqHp] at h
 | _ :: _, [], _, h, _ => by simp [eqHp] at h
theorem eqCore_ok {a b : Core} {q : List Eqn} (h : eqCore a b = some q) (ha : Eqn.all q) : a = b := by
 unfold eqCore at h
 obtain ⟨h0, h⟩ := iff2_some h
 obtain ⟨q1, q2, h1, h2, rfl⟩ := app2_some h
 simp only [Bool.and_eq_true, beq_iff_eq] at h0
 obtain ⟨⟨h3, h4⟩, h5⟩ := h0
 obtain ⟨t, hp, nx, lim, tc⟩ := a
 obtain ⟨t', hp', nx', lim', tc'⟩ := b
 simp only at h1 h2 h3 h4 h5
 rw [eqSVL_ok h1 (Eqn.all_app ha).1, eqHp_ok h2 (Eqn.all_app ha).2, h3, h4, h5]
def Ob.ok : Ob → Prop
 | .b x => x = true
 | .e l => Eqn.all l
theorem strip_all {α : Type} {φ : α → Prop} : ∀ {t : Tree α} {o : List Ob} {a : α}, strip t = some (o, a) → (∀ x ∈ o, x.ok) → φ a → t.All φ
 | .leaf _, o, a, h, _, hφ => by simp [strip] at h; rw [h.2]; exact hφ
 | .need b t, o, a, h, ho, hφ => by
  simp only [strip, Option.map_eq_some_iff, Prod.mk.injEq] at h
  obtain ⟨⟨o', a'⟩, h1, rfl, rfl⟩ := h
  exact ⟨ho _ (List.mem_cons_self ..), strip_all h1 (fun x hx => ho x (List.mem_cons_of_mem _ hx)) hφ⟩
 | .must l t, o, a, h, ho, hφ => by
  simp only [strip, Option.map_eq_some_iff, Prod.mk.injEq] at h
  obtain ⟨⟨o', a'⟩, h1, rfl, rfl⟩ := h
  exact ⟨ho _ (List.mem_cons_self ..), strip_all h1 (fun x hx => ho x (List.mem_cons_of_mem _ hx)) hφ⟩
 | .node _ _ _, _, _, h, _, _ => by simp [strip] at h
 | .both _ _, _, _, h, _, _ => by simp [strip] at h
 | .fail, _, _, h, _, _ => by simp [strip] at h
theorem wrap_all {α : Type} {φ : α → Prop} {t : Tree α} : ∀ {o : List Ob}, (wrap t o).All φ → (∀ x ∈ o, x.ok) ∧ t.All φ
 | [], h => ⟨fun _ h => (by cases h), h⟩
 | .b x :: r, h => by
  obtain ⟨h1, h2⟩ := h
  obtain ⟨h3, h4⟩ := wrap_all h2
  refine ⟨fun y hy => ?_, h4⟩
  cases hy with
  | head => exact h1
  | tail _ hy => exact h3 y hy
 | .e l :: r, h => by
  obtain ⟨h1, h2⟩ := h
  obtain ⟨h3, h4⟩ := wrap_all h2
  refine ⟨fun y hy => ?_, h4⟩
  cases hy with
  | head => exact h1
  | tail _ hy => exact h3 y hy
theorem mustE_all {α : Type} {φ : α → Prop} {t : Tree α} {l : List Eqn} (h : (mustE l t).All φ) : Eqn.all l ∧ t.All φ := by
 unfold mustE at h
 split at h
 ·exact ⟨trivial, h⟩
 ·exact h
theorem merge2_all {t f : Tree Core} {φ : Core → Prop} (h : (merge2 t f).All φ) : t.All φ ∧ f.All φ := by
 unfold merge2 at h
 split at h
 ·rename_i o a q b h1 h2
  split at h
  ·rename_i l he
   obtain ⟨h3, h4⟩ := wrap_all h
   obtain ⟨h5, h6⟩ := mustE_all h4
   have := eqCore_ok he h5
   subst this
   exact ⟨strip_all h1 (fun x hx => h3 x (List.mem_append.2 (.inl hx))) h6, strip_all h2 (fun x hx => h3 x (List.mem_append.2 (.inr hx))) h6⟩
  ·exact h
 ·exact h
theorem merge_all {φ : Core → Prop} : ∀ {t : Tree Core}, (merge t).All φ → t.All φ
 | .leaf _, h => h
 | .fail, h => h
 | .need _ t, h => ⟨h.1, merge_all h.2⟩
 | .must _ t, h => ⟨h.1, merge_all h.2⟩
 | .node _ t f, h => ⟨fun e => merge_all (h.1 e), fun e => merge_all (h.2 e)⟩
 | .both t f, h => by
  have := merge2_all (show (merge2 (merge t) (merge f)).All φ from h)
  exact ⟨merge_all this.1, merge_all this.2⟩
theorem den_scrubL : ∀ {m : Nat} {l : List SV} {vs : List Value}, DenL H E l vs → DenL H E (scrubL m l) vs
 | _, [], _, h => h
 | m, x :: l, v :: vs, ⟨h1, h2⟩ => by
  simp only [scrubL]
  refine ⟨?_, den_scrubL h2⟩
  cases Nat.beq (m % 2) 1
  ·trivial
  ·exact h1
 | _, _ :: _, [], h => h.elim
theorem den_scrub {g : Nat} {l : List SV} {vs : List Value} (h : DenL H E l vs) : DenL H E (scrub C g l) vs := by
 unfold scrub
 split
 ·exact den_scrubL h
 ·exact h
theorem mem_insN {i j : Nat} : ∀ {l : List Nat}, i ∈ insN j l ↔ i = j ∨ i ∈ l
 | [] => by simp [insN]
 | k :: l => by
  unfold insN
  cases h1 : (j == k) <;> simp only [cond_true, cond_false]
  ·cases h2 : Nat.blt j k <;> simp only [cond_true, cond_false]
   ·simp only [List.mem_cons, mem_insN (l := l)]
    constructor
    ·rintro (h | h | h) <;> simp [h]
    ·rintro (h | h | h) <;> simp [h]
   ·simp
  ·obtain rfl : j = k := by simpa using h1
   simp
theorem mem_sortN {i : Nat} : ∀ {l : List Nat}, i ∈ sortN l ↔ i ∈ l
 | [] => by simp [sortN]
 | j :: l => by simp [sortN, mem_insN, mem_sortN (l := l)]
theorem Ch.tcEq {hp hp' : List (Nat × SB)} {tc tc' tc2 : List Nat} {N : Nat → Prop} (h : Ch K H E w hp tc H' E' w' hp' tc' N) (he : ∀ i, i ∈ tc2 ↔ i ∈ tc') : Ch K H E w hp tc H' E' w' hp' tc2 N :=
 { h with
  tc := fun id hid => (he id).2 (h.tc id hid)
  fr := fun b hb hne => h.fr b hb fun id hid => hne id ((he id).2 hid)
  newb := fun i b h1 h2 => (h.newb i b h1 h2).imp (fun h => h) fun ⟨id, h3, h4⟩ => ⟨id, (he id).2 h3, h4⟩
  tch := fun id hid => h.tch id ((he id).1 hid)
  keep := fun id sb b h1 h2 h3 => h.keep id sb b h1 (fun h4 => h2 ((he id).2 h4)) h3 }
theorem drawn_any {call : Nat → List SV → Core → Tree (SV × Core)} (hC : CtxOK P C) (hF : FnsOK P C) (hK : CallHyp P C K call) {c : Core} {a : Act} {φ : Core → Prop} (st : St C K H E w c a) {g : Nat} (h : (drawn C call g opsA c).All φ) :
  wpAny P .any opsA (fun e a' w' => e = .normal ∧ ∃ c' H' E', φ c' ∧ St C K H' E' w' c' a' ∧ Mv K H E w c H' E' w' c') opsA.size (Array.replicate opsA.size false) a { w with drawn := w.drawn + 1 } := by
 unfold drawn at h
 simp only at h
 generalize hlk : lockHp c.hp (preTouch C opsA.toList c []) = lock at h
 cases hb : (Nat.ble (c.nx + idStep c opsA.size * opsA.size) c.lim && Region.noSelect opsA) <;> simp only [hb, cond_true, cond_false] at h
 ·exact h.elim
 simp only [Bool.and_eq_true] at hb
 have hle := Nat.le_of_ble_eq_true hb.1
 let w1 : World := { w with drawn := w.drawn + 1 }
 have st1 : St C K H E w1 c a := st.sameHeap rfl rfl rfl rfl
 have hlook : ∀ id sb, look? lock id = some sb → look? c.hp id = some sb := fun id sb hl => by rw [← hlk] at hl; exact lock_look hl
 have hH0 : HeapOK K H E w1 lock := ⟨fun id sb hl => st1.hp.ent id sb (hlook id sb hl), fun i j s1 s2 b h1 h2 => st1.hp.dis i j s1 s2 b (hlook _ _ h1) (hlook _ _ h2)⟩
 have hrefl : Ch K H E w1 c.hp c.tc H E w1 c.hp c.tc (fun i => c.nx ≤ i ∧ i < c.nx + idStep c opsA.size * opsA.size) := by
  have := (Post.refl (c := c) st1.hp st1.wok).mv.ch
  exact this.mono fun i hi => by have h2 : i < c.nx := hi.2; exact ⟨hi.1, by omega⟩
 refine wpAny_of_held (S := Still H E lock w1) _ _ _ _ ?_
 refine (explore_ok (c0 := c) (R := fun a' w' => ∃ c' H' E', φ c' ∧ St C K H' E' w' c' a' ∧ Mv K H E w c H' E' w' c') (φ := fun c' => φ { tm := scrub C g c'.tm, hp := c'.hp, nx := c.nx + idStep c opsA.size * opsA.size, lim := c.lim, tc := sortN c'.tc }) hC hF hK hH0 st1.gl hlook hb.2 ?_
  (2 * opsA.size + 1) (Array.replicate opsA.size false) c.tm { c with nx := 0, lim := 0 } H E w1 a opsA.size ?_ ?_ (Tree.All_bind (merge_all h)))
 ·intro H' E' w' c' a' listed tm0 r hφ
  have hnew : Free E' { tm := scrub C g c'.tm, hp := c'.hp, nx := c.nx + idStep c opsA.size * opsA.size, lim := c.lim, tc := sortN c'.tc } := fun i h1 h2 => by
   have h1 : c.nx + idStep c opsA.size * opsA.size ≤ i := h1
   have h2 : i < c.lim := h2
   cases he : E' i with
   | none => rfl
   | some v =>
    have := r.ch.new i (st.free i (by omega) h2) (by rw [he]; simp)
    omega
  refine ⟨_, H', E', hφ, ⟨den_scrub r.st.den, r.st.hp, r.st.wok, hnew, r.st.gl, r.st.defers⟩, ?_⟩
  exact mv_sameHeap (Ch.mv (c := c) (c' := { tm := scrub C g c'.tm, hp := c'.hp, nx := c.nx + idStep c opsA.size * opsA.size, lim := c.lim, tc := sortN c'.tc }) (r.ch.tcEq fun i => mem_sortN) (Nat.le_add_right _ _) (.inl hle) rfl) rfl
 ·refine ⟨⟨st1.den, st1.hp, st1.wok, fun i h1 h2 => by simp at h2, st1.gl, st1.defers⟩, rfl, rfl, fun j hj _ id h1 h2 => ?_, st1.den, hrefl, fun id sb b h1 h2 => .inr ⟨sb, hlook id sb h1, h2⟩, fun _ _ => rfl, st1.wok.on⟩
  have : c.nx + idStep c opsA.size * (j + 1) ≤ c.nx + idStep c opsA.size * opsA.size := Nat.add_le_add_left (Nat.mul_le_mul_left _ hj) _
  exact st.free id (by omega) (by omega)
 ·unfold cnt
  exact Nat.le_trans (List.countP_le_length) (by simp)
theorem drawn_ok {call : Nat → List SV → Core → Tree (SV × Core)} (hC : CtxOK P C) (hF : FnsOK P C) (hK : CallHyp P C K call) {c : Core} {a : Act} {φ : Core → Prop} {id : Nat} (st : St C K H E w c a) {g : Nat} (h : (drawn C call g opsA c).All φ) :
  (Code.region id opsA true).wp P (fun e a' w' => e = .normal ∧ ∃ c' H' E', φ c' ∧ St C K H' E' w' c' a' ∧ Mv K H E w c H' E' w' c') a w :=
 wp_region_any hC.mixed (drawn_any hC hF hK st h)
end
end Go.Sx
namespace Go.Sx
section
variable {P : Program} {C : Ctx} {K : Kx} {H H' H'' : Mem} {E E' E'' : Env} {w w' w'' : World}
theorem one_op {ops : Array Oper} {i : Nat} {rest : List Nat} {next : Act → World → Prop} {a : Act} (h : wpOp P ops (fun _ _ _ => False) i next a w) (b : Frame) (k : List Item) (cs : List Frame) :
  ∃ a' w', next a' w' ∧ Steps P (lone (b.at a (.inRegion ops (i :: rest) :: k)) cs w) (lone (b.at a' (.inRegion ops rest :: k)) cs w') := by
 unfold wpOp at h
 cases ho : ops[i]? with
 | none =>
  simp only [ho] at h
  have hs := step_op_skip (P := P) (b := b) (a := a) (k := k) (cs := cs) (w := w) (ops := ops) (i := i) (rest := rest) (by simp [ho])
  simp only [ho, Option.bind_none, Act.put] at hs
  exact ⟨a, w, h, .one hs⟩
 | some o =>
  simp only [ho] at h
  by_cases hw : Region.wanted o (yielded ops a.tmps) = true
  ·simp only [hw, if_true] at h
   rcases h with h | ⟨_, _, _, hq⟩
   case inr => exact hq.elim
   simp only [Oper.wp] at h
   have hg := stepG_op (P := P) (b := b) (k := k) (cs := cs) (w := w) (rest := rest) ho hw
   have hfin : ∀ v, (b.at a (.inRegion ops (i :: rest) :: k)).finish v = b.at (a.put o.dst v) (.inRegion ops rest :: k) := by
    intro v; rw [Frame.finish_at, ho]; rfl
   generalize hr : (execOp a.eval o).run P w = r at h
   cases r with
   | ok n w' =>
    cases n <;> simp only [Oper.upon] at h
    case value v =>
     refine ⟨_, _, h, .one (step_lone_go ?_)⟩
     rw [hg, ← hfin]; simp [stepG.apply, hr]
    case skip =>
     refine ⟨_, _, h, .one (step_lone_go ?_)⟩
     rw [hg, ← hfin]; simp [stepG.apply, hr]
    case defer d =>
     refine ⟨_, _, h, .one (step_lone_go ?_)⟩
     have : ({ b.at a (.inRegion ops (i :: rest) :: k) with defers := d :: a.defers } : Frame).finish undef =
       b.at ({ a with defers := d :: a.defers }.put o.dst undef) (.inRegion ops rest :: k) := by
      have := Frame.finish_at b { a with defers := d :: a.defers } ops i rest k undef
      rw [ho] at this; exact this
     rw [hg]; simp only [stepG.apply, Sem.runT_eq, hr, GStep.bare_after]
     exact congrArg (fun fr => GStep.go { frame := fr, callers := cs, status := .running, dying := none } w') this
    case enter f args =>
     obtain ⟨e, w'', fr, hR, hsteps, _, hleave⟩ := h (b.at a (.inRegion ops (i :: rest) :: k) :: cs)
     have henter : step P (lone (b.at a (.inRegion ops (i :: rest) :: k)) cs w) =
       .next (lone (Frame.enter P f args .normal) (b.at a (.inRegion ops (i :: rest) :: k) :: cs) w') :=
      step_lone_go (by rw [hg]; simp [stepG.apply, hr, Frame.at])
     cases e with
     | returned v =>
      refine ⟨_, _, hR, .head henter (hsteps.trans (.one ?_))⟩
      rw [← hfin]; exact step_leave_returned hleave
     | panicked chain => exact hR.elim
     | outgrown => obtain ⟨_, _, hq⟩ := hR; exact hq.elim
    case row row args =>
     obtain ⟨v, w'', hR, hsteps⟩ := h (b.at a (.inRegion ops (i :: rest) :: k)) cs
     have henter : step P (lone (b.at a (.inRegion ops (i :: rest) :: k)) cs w) =
       .next (lone (Frame.ofRow P row args .normal) (b.at a (.inRegion ops (i :: rest) :: k) :: cs) w') :=
      step_lone_go (by rw [hg]; simp [stepG.apply, hr, Frame.at])
     refine ⟨_, _, hR, .head henter ?_⟩
     rw [← hfin]; exact hsteps
    all_goals exact h.elim
   | halt x w' =>
    cases x <;> simp only [Oper.upon] at h
    all_goals exact h.elim
  ·simp only [hw, if_false, Bool.false_eq_true] at h
   have hs := step_op_skip (P := P) (b := b) (a := a) (k := k) (cs := cs) (w := w) (ops := ops) (i := i) (rest := rest)
    (by simp [ho]; simpa using hw)
   simp only [ho, Option.bind_some] at hs
   exact ⟨_, _, h, .one hs⟩
inductive ItOK (body : Code) : List It → List Item → Prop
 | nil : ItOK body [] []
 | code (p : List Nat) {td : List It} {k : List Item} : ItOK body td k → ItOK body (.code p :: td) (.code (codeAt body p) :: k)
 | loop (p : List Nat) (x : Code) {td : List It} {k : List Item} : codeAt body p = .loop x → ItOK body td k → ItOK body (.code p :: td) (.inLoop x :: k)
 | inBlock (id : Nat) {td : List It} {k : List Item} : ItOK body td k → ItOK body (.inBlock id :: td) (.inBlock id :: k)
 | beg {td : List It} {k : List Item} : ItOK body td k → ItOK body (.beg :: td) (.beginRound :: k)
 | reg (p : List Nat) (l : List Nat) (id : Nat) (ops : Array Oper) {td : List It} {k : List Item} : codeAt body p = .region id ops false → ItOK body td k → ItOK body (.reg p l :: td) (.inRegion ops l :: k)
theorem exit_ok {body : Code} {id : Nat} : ∀ {td td' : List It} {k : List Item}, ItOK body td k → exitIt id td = some td' → ∃ k', exitTo id k = some k' ∧ ItOK body td' k' := by
 intro td td' k h
 induction h with
 | nil => intro h; simp [exitIt] at h
 | code p _ ih => intro h; simp only [exitIt] at h; obtain ⟨k', h1, h2⟩ := ih h; exact ⟨k', by simpa [exitTo] using h1, h2⟩
 | beg _ ih => intro h; simp only [exitIt] at h; obtain ⟨k', h1, h2⟩ := ih h; exact ⟨k', by simpa [exitTo] using h1, h2⟩
 | loop p x _ _ ih => intro h; simp only [exitIt] at h; obtain ⟨k', h1, h2⟩ := ih h; exact ⟨k', by simpa [exitTo] using h1, h2⟩
 | reg p l id ops _ _ ih => intro h; simp only [exitIt] at h; obtain ⟨k', h1, h2⟩ := ih h; exact ⟨k', by simpa [exitTo] using h1, h2⟩
 | inBlock j h0 ih =>
  intro h
  simp only [exitIt] at h
  cases hj : (j == id) <;> simp only [hj, cond_true, cond_false] at h
  ·obtain ⟨k', h1, h2⟩ := ih h
   refine ⟨k', ?_, h2⟩
   have : j ≠ id := by simpa using hj
   simp [exitTo, this, h1]
  ·cases h
   obtain rfl : j = id := by simpa using hj
   exact ⟨_, by simp [exitTo], h0⟩
/-! What a function returns. -/
def resV (a : Act) (r : ResultVar) : Sem Value :=
 match r with
 | .tmp t => pure (a.tmps.getD t undef)
 | .cell x t => do loadVar t (← asAddr (a.tmps.getD x undef))
theorem results_resV (fn : Func) (a : Act) : results fn a.tmps = (do let vs ← fn.results.mapM (resV a); pure (if h : vs.size = 1 then vs[0] else .tuple vs)) := rfl
theorem resS_ok (hC : CtxOK P C) {c : Core} {a : Act} (st : St C K H E w c a) : ∀ {rs : List ResultVar} {l : List SV}, resS C c rs = some l → ∃ vs : List Value,
  (rs.mapM (resV a)).run P w = .ok vs w ∧ DenL H E l vs
 | [], l, h => by simp [resS] at h; subst h; exact ⟨[], by simp, trivial⟩
 | .tmp t :: rs, l, h => by
  simp only [resS] at h
  split at h
  ·rename_i sv r h1 h2
   cases h
   obtain ⟨vs, e1, e2⟩ := resS_ok hC st h2
   obtain ⟨u, h3, h4⟩ := st.den.get h1
   refine ⟨u :: vs, ?_, h4, e2⟩
   rw [Array.getElem?_toList] at h3
   have : a.tmps.getD t undef = u := by simp [Array.getD_eq_getD_getElem?, h3]
   have hv : (resV a (.tmp t)).run P w = .ok u w := by simp [resV, this]
   simp only [List.mapM_cons, Sem.run_bind, hv, Sem.run_pure, Result.andThen_ok, e1]
  ·cases h
 | .cell x t :: rs, l, h => by
  simp only [resS] at h
  split at h
  ·rename_i i r h1 h2
   simp only [Option.map_eq_some_iff] at h
   obtain ⟨sv, h3, rfl⟩ := h
   obtain ⟨vs, e1, e2⟩ := resS_ok hC st h2
   have ht := hC.ty _ _ h1
   have dx := den_ev (H := H) (E := E) st.den (.tmp x)
   obtain ⟨ad, cs, q1, q2, q3, q4⟩ := loadS_spec (w := w) dx st.hp st.gl (fun hz => by
    obtain ⟨_, _, _, _, _, _, _, _, _, h1⟩ := ht.info
    exact (h1 hz).1) h3
   refine ⟨vpack i.ty.isAgg cs :: vs, ?_, q3, e2⟩
   have q1 : a.tmps.getD x undef = .pointer (some ad) := q1
   have hl := load_run ht q2 (q4 w (Agr.refl _ _ _ _) st.wok.on)
   have hv : (resV a (.cell x t)).run P w = .ok (vpack i.ty.isAgg cs) w := by simp [resV, asAddr, q1, hl, vpack]
   simp only [List.mapM_cons, Sem.run_bind, hv, Sem.run_pure, Result.andThen_ok, e1]
  ·cases h
theorem result_ok (hC : CtxOK P C) {c : Core} {a : Act} {fn : Func} {φ : Out → Prop} (st : St C K H E w c a) (h : (result C fn c).All φ) : ∃ sv v, φ (.done sv c) ∧ Den H E sv v ∧ (results fn a.tmps).run P w = .ok v w := by
 have key : ∀ vs : List Value, (fn.results.toList.mapM (resV a)).run P w = .ok vs w →
   (results fn a.tmps).run P w = .ok (if h : vs.toArray.size = 1 then vs.toArray[0] else .tuple vs.toArray) w := by
  intro vs hv
  rw [results_resV, Array.mapM_eq_mapM_toList]
  simp only [Sem.run_bind, map_eq_pure_bind, hv, Sem.run_pure, Result.andThen_ok]
 unfold result at h
 split at h
 ·rename_i sv hs
  obtain ⟨vs, e1, e2⟩ := resS_ok hC st hs
  match vs, e2 with
  | [v], ⟨e2, _⟩ =>
   exact ⟨sv, v, h, e2, by simpa using key [v] e1⟩
 ·rename_i l hne hs
  obtain ⟨vs, e1, e2⟩ := resS_ok hC st hs
  refine ⟨_, .tuple vs.toArray, h, ⟨vs.toArray, rfl, e2⟩, ?_⟩
  rw [key vs e1, dif_neg]
  intro h1
  have := e2.length
  simp at h1
  match l, hne, (this ▸ h1 : l.length = 1) with
  | [x], hne, _ => exact hne x rfl
 ·exact h.elim
end
end Go.Sx
namespace Go.Sx
section
variable {P : Program} {C : Ctx} {K : Kx} {H H' H'' : Mem} {E E' E'' : Env} {w w' w'' : World}
def OutOK (P : Program) (C : Ctx) (K : Kx) (fn : Func) (g : Nat) (H : Mem) (E : Env) (w : World) (c : Core) (m : Machine) (b : Frame) (cs : List Frame) : Out → Prop
 | .done sv c' => ∃ (a' : Act) (w' : World) (H' : Mem) (E' : Env) (v : Value) (todo : List Item), Steps P m (lone { b.at a' todo with mode := .returning } cs w') ∧ St C K H' E' w' c' a' ∧ Mv K H E w c H' E' w' c' ∧
   Den H' E' sv v ∧ (results fn a'.tmps).run P w' = .ok v w'
 | .stop g' td' c' => g' = g ∧ ∃ (a' : Act) (w' : World) (H' : Mem) (E' : Env) (items' : List Item), Steps P m (lone (b.at a' items') cs w') ∧ St C K H' E' w' c' a' ∧ Mv K H E w c H' E' w' c' ∧ ItOK (bodyOf fn) td' items'
theorem OutOK.of {fn : Func} {g : Nat} {c c1 : Core} {m m1 : Machine} {b : Frame} {cs : List Frame} {out : Out} (hs : Steps P m m1) (hm : Mv K H E w c H' E' w' c1) (h : OutOK P C K fn g H' E' w' c1 m1 b cs out) :
  OutOK P C K fn g H E w c m b cs out := by
 cases out with
 | done sv c' =>
  obtain ⟨a2, w2, H2, E2, v, todo, h1, h2, h3, h4, h5⟩ := h
  exact ⟨a2, w2, H2, E2, v, todo, hs.trans h1, h2, hm.trans h3, h4, h5⟩
 | stop g' td' c' =>
  obtain ⟨hg, a2, w2, H2, E2, items, h1, h2, h3, h4⟩ := h
  exact ⟨hg, a2, w2, H2, E2, items, hs.trans h1, h2, hm.trans h3, h4⟩
def SigOK (P : Program) (C : Ctx) (K : Kx) (fn : Func) (H : Mem) (E : Env) (w : World) (c : Core) (m : Machine) (b : Frame) (cs : List Frame) : Sig → Prop
 | .done sv c' => ∃ (a' : Act) (w' : World) (H' : Mem) (E' : Env) (v : Value) (todo : List Item), Steps P m (lone { b.at a' todo with mode := .returning } cs w') ∧ St C K H' E' w' c' a' ∧ Mv K H E w c H' E' w' c' ∧
   Den H' E' sv v ∧ (results fn a'.tmps).run P w' = .ok v w'
 | .go td' c' => ∃ (a' : Act) (w' : World) (H' : Mem) (E' : Env) (items' : List Item), Steps P m (lone (b.at a' items') cs w') ∧ St C K H' E' w' c' a' ∧ Mv K H E w c H' E' w' c' ∧ ItOK (bodyOf fn) td' items'
 | .halt td' c' => ∃ (a' : Act) (w' : World) (H' : Mem) (E' : Env) (items' : List Item), Steps P m (lone (b.at a' items') cs w') ∧ St C K H' E' w' c' a' ∧ Mv K H E w c H' E' w' c' ∧ ItOK (bodyOf fn) td' items'
theorem St.scrub {c : Core} {a : Act} (st : St C K H E w c a) (g : Nat) : St C K H E w { c with tm := Go.Sx.scrub C g c.tm } a :=
 ⟨den_scrub st.den, st.hp, st.wok, st.free, st.gl, st.defers⟩
theorem stepR_ok (hC : CtxOK P C) (hF : FnsOK P C) {call : Nat → List SV → Core → Tree (SV × Core)} (hK : CallHyp P C K call) {top : Bool} {g : Nat} {fn : Func} {td : List It} {c : Core} {a : Act} {items : List Item} {φ : Sig → Prop}
  (h : (stepR C call top g fn td c).All φ) (st : St C K H E w c a) (hi : ItOK (bodyOf fn) td items) (b : Frame) (cs : List Frame) :
  ∃ sig, φ sig ∧ SigOK P C K fn H E w c (lone (b.at a items) cs w) b cs sig := by
 have mv0 : Mv K H E w c H E w c := mv_refl st rfl rfl rfl rfl
 have go : ∀ {td' : List It} {c' : Core} {H' : Mem} {E' : Env} {w' : World} {a' : Act} {items' : List Item}, φ (.go td' c') → St C K H' E' w' c' a' → Mv K H E w c H' E' w' c' → ItOK (bodyOf fn) td' items' →
   Steps P (lone (b.at a items) cs w) (lone (b.at a' items') cs w') → ∃ sig, φ sig ∧ SigOK P C K fn H E w c (lone (b.at a items) cs w) b cs sig := fun h1 h2 h3 h4 h5 => ⟨_, h1, _, _, _, _, _, h5, h2, h3, h4⟩
 have fin : ∀ (todo : List Item), ((result C fn c).bind toSig).All φ → step P (lone (b.at a items) cs w) = .next (lone { b.at a todo with mode := .returning } cs w) → ∃ sig, φ sig ∧ SigOK P C K fn H E w c (lone (b.at a items) cs w) b cs sig := fun todo hr hs => by
  obtain ⟨sv, v, h1, h2, h3⟩ := result_ok hC st (Tree.All_bind hr)
  exact ⟨_, h1, a, w, H, E, v, todo, .one hs, st, mv0, h2, h3⟩
 unfold stepR at h
 split at h
 ·cases hi
  exact fin _ h step_end
 ·cases hi with
  | inBlock id hk => exact go h st mv0 hk (.one step_inBlock)
 ·exact h.elim
 ·cases hi with
  | reg p l id ops hc hk => exact go h (st.scrub g) (mv_refl st rfl rfl rfl rfl) hk (.one step_region_end)
 ·rename_i p i r k
  cases hi with
  | reg p l id ops hc hk =>
   rw [hc] at h
   simp only at h
   obtain ⟨a', w', h1, h2⟩ := one_op (opStep_ok hC hF hK st (Tree.All_bind h) (fun a' w' => ∃ c' H' E', φ (.go (.reg p r :: k) c') ∧ St C K H' E' w' c' a' ∧ Mv K H E w c H' E' w' c') (fun _ _ _ => False)
    fun c' a' H' E' w' e1 e2 e3 _ => ⟨c', H', E', e1, e2, e3⟩) b _ cs
   obtain ⟨c', H', E', e1, e2, e3⟩ := h1
   exact go e1 e2 e3 (.reg p r id ops hc hk) h2
 ·rename_i p k
  have hloop : ∀ {x : Code}, codeAt (bodyOf fn) p = x → (∀ y, x ≠ .loop y) → ∃ k', items = .code x :: k' ∧ ItOK (bodyOf fn) k k' := fun {x} hx hne => by
   cases hi with
   | code p hk => exact ⟨_, by rw [hx], hk⟩
   | loop p y hl hk => exact (hne y (hx.symm.trans hl)).elim
  split at h
  ·rename_i hx
   obtain ⟨k', rfl, hk⟩ := hloop hx (by simp)
   exact go h st mv0 hk (.one step_skip)
  ·rename_i hx
   obtain ⟨k', rfl, hk⟩ := hloop hx (by simp)
   exact fin _ h step_ret
  ·rename_i x y hx
   obtain ⟨k', rfl, hk⟩ := hloop hx (by simp)
   have h0 : codeAt (bodyOf fn) (0 :: p) = x := by simp [codeAt, hx, child]
   have h1 : codeAt (bodyOf fn) (1 :: p) = y := by simp [codeAt, hx, child]
   have := ItOK.code (0 :: p) (ItOK.code (1 :: p) hk)
   rw [h0, h1] at this
   exact go h st mv0 this (.one step_seq)
  ·rename_i id x hx
   obtain ⟨k', rfl, hk⟩ := hloop hx (by simp)
   have h0 : codeAt (bodyOf fn) (0 :: p) = x := by simp [codeAt, hx, child]
   have := ItOK.code (0 :: p) (ItOK.inBlock id hk)
   rw [h0] at this
   exact go h st mv0 this (.one step_block)
  ·rename_i x hx
   have h0 : codeAt (bodyOf fn) (0 :: p) = x := by simp [codeAt, hx, child]
   cases hst : C.stopLoop g p <;> simp only [hst, cond_true, cond_false] at h
   ·cases hi with
    | code p hk =>
     have := ItOK.code (0 :: p) (ItOK.loop p x hx hk)
     rw [h0] at this
     rw [hx] at go ⊢
     exact go h st mv0 this (.one step_loop)
    | loop p y hl hk =>
     rw [hx] at hl; cases hl
     have := ItOK.code (0 :: p) (ItOK.loop p x hx hk)
     rw [h0] at this
     exact go h st mv0 this (.one step_inLoop)
   ·exact ⟨_, h, a, w, H, E, items, .refl _ _, st, mv0, hi⟩
  ·rename_i id hx
   obtain ⟨k', rfl, hk⟩ := hloop hx (by simp)
   split at h
   ·rename_i k2 he
    obtain ⟨k3, h1, h2⟩ := exit_ok hk he
    exact go h st mv0 h2 (.one (step_exit h1))
   ·exact h.elim
  ·rename_i x y z hx
   obtain ⟨k', rfl, hk⟩ := hloop hx (by simp)
   have h0 := ItOK.code (0 :: p) hk
   have h1 := ItOK.code (1 :: p) hk
   have e0 : codeAt (bodyOf fn) (0 :: p) = y := by simp [codeAt, hx, child]
   have e1 : codeAt (bodyOf fn) (1 :: p) = z := by simp [codeAt, hx, child]
   rw [e0] at h0
   rw [e1] at h1
   have dx := den_ev (H := H) (E := E) st.den x
   split at h
   ·rename_i hv
    rw [hv] at dx
    exact go h st mv0 h0 (.one (step_cond (t := true) dx))
   ·rename_i hv
    rw [hv] at dx
    exact go h st mv0 h1 (.one (step_cond (t := false) dx))
   ·rename_i t hv
    rw [hv] at dx
    have st' : ∀ v, t = v → St C K H E w (c.put (slotOf x) (.bool v)) a := fun v hv2 => by
     subst hv2
     cases x with
     | tmp d => exact st.know hv
     | const u => exact ⟨st.den, st.hp, st.wok, st.free, st.gl, st.defers⟩
     | global u => exact ⟨st.den, st.hp, st.wok, st.free, st.gl, st.defers⟩
     | func u => exact ⟨st.den, st.hp, st.wok, st.free, st.gl, st.defers⟩
    have mv' : ∀ v : Bool, Mv K H E w c H E w (c.put (slotOf x) (.bool v)) := fun v => mv_refl st rfl rfl rfl rfl
    cases t with
    | true => exact go (h.1 rfl) (st' true rfl) (mv' true) h0 (.one (step_cond (t := true) dx))
    | false => exact go (h.2 rfl) (st' false rfl) (mv' false) h1 (.one (step_cond (t := false) dx))
   ·exact h.elim
  ·rename_i id ops dr hx
   obtain ⟨k', rfl, hk⟩ := hloop hx (by simp)
   cases dr with
   | false =>
    simp only [cond_false] at h
    exact go h st mv0 (.reg p (List.range ops.size) id ops hx hk) (.one step_region)
   | true =>
    simp only [cond_true] at h
    have key : ∀ (f : Core → Tree Sig), ((drawn C call g ops c).bind f).All φ → ∃ c' a' H' E' w', (f c').All φ ∧ St C K H' E' w' c' a' ∧ Mv K H E w c H' E' w' c' ∧ Steps P (lone (b.at a (.code (.region id ops true) :: k')) cs w) (lone (b.at a' k') cs w') := fun f hf => by
     obtain ⟨e, a', w', ⟨he, c', H', E', h1, h2, h3⟩, harr⟩ := drawn_ok (id := id) hC hF hK st (Tree.All_bind hf) b k' cs
     subst he
     exact ⟨c', a', H', E', w', h1, h2, h3, harr⟩
    cases hl : (top && !(drawn C call g ops c).lone) <;> simp only [hl, cond_true, cond_false] at h
    ·obtain ⟨c', a', H', E', w', h1, h2, h3, h4⟩ := key _ h
     exact go h1 h2 h3 hk h4
    ·obtain ⟨c', a', H', E', w', h1, h2, h3, h4⟩ := key _ h
     exact ⟨_, h1, a', w', H', E', k', h4, h2, h3, hk⟩
  ·exact h.elim
def RunOK (P : Program) (C : Ctx) (K : Kx) (run : Bool → Nat → List It → Core → Tree Out) : Prop :=
 ∀ (top : Bool) (g : Nat) (td : List It) (c : Core) (H : Mem) (E : Env) (w : World) (a : Act) (fn : Func) (items : List Item) (φ : Out → Prop), C.fns.get g = some fn → (run top g td c).All φ → St C K H E w c a →
  ItOK (bodyOf fn) td items → ∀ (b : Frame) (cs : List Frame), ∃ out, φ out ∧ OutOK P C K fn g H E w c (lone (b.at a items) cs w) b cs out
theorem look_dropKey {p : Nat → Bool} : ∀ {l : List (Nat × SB)} {i : Nat}, look? (dropKey p l) i = bif p i then none else look? l i
 | [], i => by cases h : p i <;> simp [dropKey, look?]
 |(j, b) :: r, i => by
  have ih := look_dropKey (p := p) (l := r) (i := i)
  simp only [dropKey]
  cases hj : p j <;> simp only [cond_true, cond_false, look?]
  ·cases hji : (j == i) <;> simp only [cond_true, cond_false]
   ·exact ih
   ·obtain rfl : j = i := by simpa using hji
    rw [hj]; rfl
  ·cases hji : (j == i) <;> simp only [cond_true, cond_false]
   ·exact ih
   ·obtain rfl : j = i := by simpa using hji
    rw [ih, hj]; rfl
theorem Mv.gc {c c' : Core} (h : Mv K H E w c H' E' w' c') (hf : Free E c) {p : Nat → Bool} (hp : ∀ i, p i = true → c.nx ≤ i ∧ i < c.lim) : Mv K H E w c H' E' w' { c' with hp := dropKey p c'.hp } := by
 have hl : ∀ {i sb}, look? (dropKey p c'.hp) i = some sb → look? c'.hp i = some sb := fun {i sb} h => by
  rw [look_dropKey] at h
  cases hi : p i <;> simp only [hi, cond_true, cond_false] at h
  ·exact h
  ·cases h
 have hch := h.ch
 refine Ch.mv (c := c) (c' := { c' with hp := dropKey p c'.hp }) ⟨hch.Hle, hch.Ele, hch.new, ⟨fun id sb hq => hch.hp.ent _ _ (hl hq), fun id id' sb sb' b q1 q2 => hch.hp.dis _ _ _ _ _ (hl q1) (hl q2)⟩, hch.wok, hch.tc, hch.size, hch.fr, hch.newb, hch.tch, fun id sb b q1 q2 q3 => ?_, fun id sb q1 => hch.old id sb (hl q1)⟩ h.nx h.lim h.limE
 rcases hch.keep id sb b q1 q2 q3 with q | ⟨sb', q4, q5⟩
 ·exact .inl q
 ·refine .inr ⟨sb', ?_, q5⟩
  show look? (dropKey p c'.hp) id = some sb'
  rw [look_dropKey]
  cases hi : p id <;> simp only [cond_true, cond_false]
  ·exact q4
  ·have := hf id (hp id hi).1 (hp id hi).2
   have q6 := obk_bk q3
   simp [bk, this] at q6
theorem call_hyp (hC : CtxOK P C) (hF : FnsOK P C) {run : Bool → Nat → List It → Core → Tree Out} (hr : RunOK P C K run) : CallHyp P C K (callWith C (run false)) := by
 intro H E w c g args vargs φ hd hh hw hf hg h
 unfold callWith at h
 split at h
 ·exact h.elim
 ·rename_i fn hfn
  cases hb : (Nat.ble args.length fn.ntmps && fn.body.isSome) <;> simp only [hb, cond_true, cond_false] at h
  ·exact h.elim
  simp only [Bool.and_eq_true] at hb
  obtain ⟨body, hbody⟩ := Option.isSome_iff_exists.1 hb.2
  have hP := hC.fn g fn hfn
  refine ⟨hF.en g (.inr (by rw [hfn]; rfl)), fun cs => ?_⟩
  let b : Frame := { (default : Frame) with fn := g, kind := .normal }
  let a : Act := { tmps := vargs.toArray ++ Array.replicate (fn.ntmps - vargs.toArray.size) undef, defers := [] }
  have henter : Frame.enter P g vargs.toArray .normal = b.at a [.code body] := by
   simp [Frame.enter, Frame.at, hP, hbody, b, a]
  have hlen := hd.length
  have st : St C K H E w { tm := args ++ List.replicate (fn.ntmps - args.length) .any, hp := c.hp, nx := c.nx, lim := c.lim, tc := c.tc } a := by
   refine ⟨?_, hh, hw, hf, hg, rfl⟩
   have : a.tmps.toList = vargs ++ List.replicate (fn.ntmps - args.length) undef := by simp [a, hlen]
   rw [this]
   exact hd.append (DenL.any _ _ (by simp))
  have hit : ItOK (bodyOf fn) [.code []] [.code body] := by
   have := ItOK.code (body := bodyOf fn) [] ItOK.nil
   have he : codeAt (bodyOf fn) [] = body := by simp [codeAt, bodyOf, hbody]
   rwa [he] at this
  obtain ⟨out, h1, h2⟩ := hr false g [.code []] _ H E w a fn [.code body] _ hfn (Tree.All_bind h) st hit b cs
  cases out with
  | stop _ _ _ => exact h1.elim
  | done sv c' =>
   obtain ⟨a', w', H', E', v, todo, q1, q2, q3, q4, q5⟩ := h2
   refine ⟨.returned v, w', _, ⟨_, v, H', E', rfl, h1, q4, ?_⟩, by rw [henter]; exact q1, rfl, rfl, q2.defers, rfl, fn, hP, q5⟩
   have q3' := q3.to (d := c) (d' := { c' with tm := c.tm }) rfl rfl rfl rfl rfl rfl rfl rfl
   have q6 := q3'.gc hf (p := fun i => Nat.ble c.nx i && Nat.blt i c.lim && !(reach c'.hp 4000 (refs sv ++ touchedRefs c'.hp c'.tc) []).contains i) (fun i hi => by simp only [Bool.and_eq_true] at hi; exact ⟨Nat.le_of_ble_eq_true hi.1.1, blt_spec hi.1.2⟩)
   exact q6
theorem run_zero : RunOK P C K (run C 0) := fun top g td c H E w a fn items φ _ h st hi b cs =>
 ⟨_, h, rfl, a, w, H, E, items, .refl _ _, st, mv_refl st rfl rfl rfl rfl, hi⟩
theorem run_succ (hC : CtxOK P C) (hF : FnsOK P C) {n : Nat} (ih : RunOK P C K (run C n)) : RunOK P C K (run C (n + 1)) := by
 intro top g td c H E w a fn items φ hfn h st hi b cs
 have hK := call_hyp hC hF ih
 unfold run at h
 rw [hfn] at h
 simp only at h
 obtain ⟨sig, h1, h2⟩ := stepR_ok hC hF hK (Tree.All_bind h) st hi b cs
 cases sig with
 | go td' c' =>
  obtain ⟨a', w', H', E', items', q1, q2, q3, q4⟩ := h2
  obtain ⟨out, q5, q6⟩ := ih top g _ _ _ _ _ _ fn _ φ hfn h1 q2 q4 b cs
  exact ⟨out, q5, q6.of q1 q3⟩
 | done sv c' => exact ⟨_, h1, h2⟩
 | halt td' c' => exact ⟨_, h1, rfl, h2⟩
theorem run_ok (hC : CtxOK P C) (hF : FnsOK P C) : ∀ n, RunOK P C K (run C n)
 | 0 => run_zero
 | n + 1 => run_succ hC hF (run_ok hC hF n)
end
end Go.Sx
namespace Go.Sx
/-! What a function hands out. -/
mutual
def innerIds : SV → List Nat
 | .agg l => innerIdsL l
 | .tup l => innerIdsL l
 | .fn _ l => idsOfL l
 | .ifc _ x => idsOf x
 | .ptr id _ => [id]
 | _ => []
def innerIdsL : List SV → List Nat
 | [] => []
 | x :: r => innerIds x ++ innerIdsL r
end
def ownEls (hp : List (Nat × SB)) (id : Nat) : Option (Nat × Nat × Nat × (Nat → List Sh)) :=
 match look? hp id with
 | some (.own e st n g) => some (e, st, n, g)
 | some (.row cells e st n) => bif oneL cells then (toShL hp cells).map fun l => (e, st, n, nthL (chunks st n l)) else none
 | _ => none
mutual
def osIds (hp : List (Nat × SB)) : SV → List Nat
 | .agg l => osIdsL hp l
 | .tup l => osIdsL hp l
 | .gs id => match look? hp id with
  | some (.fz _ _ _) => []
  | _ => [id]
 | _ => []
def osIdsL (hp : List (Nat × SB)) : List SV → List Nat
 | [] => []
 | x :: r => osIds hp x ++ osIdsL hp r
end
mutual
def outSh (hp : List (Nat × SB)) : SV → Option Sh
 | .agg l => (outShL hp l).map .agg
 | .tup l => (outShL hp l).map .tup
 | .gs id => match look? hp id with
  | some (.fz st n g) => some (.sl st n g)
  | _ => (ownEls hp id).map fun r => .os r.1 r.2.1 r.2.2.1 r.2.2.2
 | x => toSh hp x
def outShL (hp : List (Nat × SB)) : List SV → Option (List Sh)
 | [] => some []
 | x :: r => match outSh hp x, outShL hp r with
  | some s, some l => some (s :: l)
  | _, _ => none
end
def noDup : List Nat → Bool
 | [] => true
 | x :: l => !l.contains x && noDup l
def rowIn (hp : List (Nat × SB)) : List Nat → List Nat
 | [] => []
 | id :: r => (match look? hp id with
  | some (.row cells _ _ _) => idsOfL cells
  | _ => []) ++ rowIn hp r
def finish (c : Core) (v : SV) : Option Sh :=
 match freeze c.hp (innerIds v ++ rowIn c.hp (osIds c.hp v)) with
 | some hp => bif noDup (osIds hp v) then outSh hp v else none
 | none => none
section
variable {P : Program} {C : Ctx} {K : Kx} {H H' H'' : Mem} {E E' E'' E1 : Env} {w w' w'' : World}
theorem noDup_inj : ∀ {l : List Nat} {i j x : Nat}, noDup l = true → l[i]? = some x → l[j]? = some x → i = j
 | [], _, _, _, _, h, _ => by simp at h
 | y :: l, 0, 0, _, _, _, _ => rfl
 | y :: l, 0, j + 1, x, h, h1, h2 => by
  simp only [noDup, Bool.and_eq_true, Bool.not_eq_true'] at h
  simp at h1 h2
  subst h1
  have := List.mem_of_getElem? h2
  simp [this] at h
 | y :: l, i + 1, 0, x, h, h1, h2 => by
  simp only [noDup, Bool.and_eq_true, Bool.not_eq_true'] at h
  simp at h1 h2
  subst h2
  have := List.mem_of_getElem? h1
  simp [this] at h
 | y :: l, i + 1, j + 1, x, h, h1, h2 => by
  simp only [noDup, Bool.and_eq_true] at h
  have e := noDup_inj (l := l) (i := i) (j := j) (x := x) h.2 (by simpa using h1) (by simpa using h2)
  rw [e]
theorem ownEls_ok {hp : List (Nat × SB)} {id : Nat} {r : Nat × Nat × Nat × (Nat → List Sh)} (hh : HeapOK K H E w hp) (h : ownEls hp id = some r) :
  Ent K H E w id (.own r.1 r.2.1 r.2.2.1 r.2.2.2) ∧ ∃ sb, look? hp id = some sb ∧ ∀ b, bk E id = some b → obk E id sb = some b := by
 unfold ownEls at h
 split at h
 ·rename_i e st n g hl
  cases h
  exact ⟨hh.ent _ _ hl, _, hl, fun b hb => hb⟩
 ·rename_i cells e st n hl
  cases ho : oneL cells <;> simp only [ho, cond_true, cond_false] at h
  ·cases h
  simp only [Option.map_eq_some_iff] at h
  obtain ⟨l, h1, rfl⟩ := h
  obtain ⟨v, xs, e1, e2, e3, e4⟩ := hh.ent _ _ hl
  exact ⟨⟨v, xs, e1, e2, rows_chunks e2.1 (toShL_rep hh h1 e3) (one_cells ho e3), e4⟩, _, hl, fun b hb => hb⟩
 ·cases h
def OsAt (K : Kx) (H : Mem) (E : Env) (w : World) (hp : List (Nat × SB)) (id : Nat) (x : SB) : Prop :=
 Ent K H E w id x ∧ (∃ e st n g, x = .own e st n g) ∧ ∃ sb, look? hp id = some sb ∧ ∀ b, bk E id = some b → obk E id sb = some b
mutual
theorem ofSh_den : ∀ {s : Sh} {u : Value} (b0 : Nat), Rep H s u → Den H E1 (ofSh s b0).1 u ∧ (ofSh s b0).2.2 = b0 ∧ (ofSh s b0).2.1 = []
 | .i k n, _, b0, h => by cases h; exact ⟨rfl, rfl, rfl⟩
 | .b y, _, b0, h => by cases h; exact ⟨rfl, rfl, rfl⟩
 | .v y, _, b0, h => by cases h with | v _ h1 => exact ⟨den_lit h1, rfl, rfl⟩
 | .str l, _, b0, h => ⟨h, rfl, rfl⟩
 | .sl _ _ _, _, b0, h => ⟨h, rfl, rfl⟩
 | .ifc _ _, _, b0, h => ⟨h, rfl, rfl⟩
 | .fn _ _, _, b0, h => ⟨argSV_den h, rfl, rfl⟩
 | .er _ _, _, b0, h => ⟨h, rfl, rfl⟩
 | .pt _, _, b0, h => ⟨argSV_den h, rfl, rfl⟩
 | .os _ _ _ _, _, b0, h => by cases h
 | .agg l, u, b0, h => by
  cases h with
  | agg _ vs h1 h2 =>
   have := ofShL_den (l := l) (vs := vs.toList) b0 (RepL.of_at (by simpa using h1) fun j s v e1 e2 => h2 j s v e1 (by simpa using e2))
   exact ⟨⟨vs, rfl, this.1⟩, this.2.1, this.2.2⟩
 | .tup l, u, b0, h => by
  cases h with
  | tup _ vs h1 h2 =>
   have := ofShL_den (l := l) (vs := vs.toList) b0 (RepL.of_at (by simpa using h1) fun j s v e1 e2 => h2 j s v e1 (by simpa using e2))
   exact ⟨⟨vs, rfl, this.1⟩, this.2.1, this.2.2⟩
theorem ofShL_den : ∀ {l : List Sh} {vs : List Value} (b0 : Nat), RepL H l vs → DenL H E1 (ofShL l b0).1 vs ∧ (ofShL l b0).2.2 = b0 ∧ (ofShL l b0).2.1 = []
 | [], [], b0, _ => ⟨trivial, rfl, rfl⟩
 | s :: l, v :: vs, b0, ⟨h1, h2⟩ => by
  have a := ofSh_den b0 h1
  have b := ofShL_den b0 h2
  simp only [ofShL, a.2.1, a.2.2, List.nil_append]
  exact ⟨⟨a.1, b.1⟩, b.2⟩
 | [], _ :: _, _, h => h.elim
 | _ :: _, [], _, h => h.elim
end
def Knows (E E1 : Env) (b0 : Nat) (ids : List Nat) : Prop := ∀ k id, ids[k]? = some id → E1 (b0 + k) = E id
theorem Knows.left {b0 : Nat} {l l' : List Nat} (h : Knows E E1 b0 (l ++ l')) : Knows E E1 b0 l := fun k id hk => h k id (by
 rw [List.getElem?_append_left (List.getElem?_eq_some_iff.1 hk).1]; exact hk)
theorem Knows.right {b0 : Nat} {l l' : List Nat} (h : Knows E E1 b0 (l ++ l')) : Knows E E1 (b0 + l.length) l' := fun k id hk => by
 rw [Nat.add_assoc]
 exact h (l.length + k) id (by rw [List.getElem?_append_right (Nat.le_add_right _ _)]; simpa using hk)
structure OutOf (K : Kx) (H : Mem) (E E1 : Env) (w : World) (hp : List (Nat × SB)) (ids : List Nat) (b0 n : Nat) (l : List (Nat × SB)) : Prop where
 len : n = b0 + ids.length
 mem : ∀ i x, (i, x) ∈ l → ∃ k id, i = b0 + k ∧ ids[k]? = some id ∧ OsAt K H E w hp id x
 cov : ∀ id ∈ ids, ∃ sb, look? hp id = some sb ∧ ∀ b, bk E id = some b → obk E id sb = some b
theorem OutOf.nil {hp : List (Nat × SB)} {b0 : Nat} : OutOf K H E E1 w hp [] b0 b0 [] := ⟨rfl, fun _ _ h => (by cases h), fun _ h => (by cases h)⟩
theorem OutOf.app {hp : List (Nat × SB)} {b0 n m : Nat} {i1 i2 : List Nat} {l1 l2 : List (Nat × SB)} (h1 : OutOf K H E E1 w hp i1 b0 n l1) (h2 : OutOf K H E E1 w hp i2 n m l2) : OutOf K H E E1 w hp (i1 ++ i2) b0 m (l1 ++ l2) := by
 refine ⟨by rw [h2.len, h1.len, List.length_append]; omega, fun i x hx => ?_, fun id hid => (List.mem_append.1 hid).elim (h1.cov id) (h2.cov id)⟩
 rcases List.mem_append.1 hx with hx | hx
 ·obtain ⟨k, id, e1, e2, e3⟩ := h1.mem i x hx
  exact ⟨k, id, e1, by rw [List.getElem?_append_left (List.getElem?_eq_some_iff.1 e2).1]; exact e2, e3⟩
 ·obtain ⟨k, id, e1, e2, e3⟩ := h2.mem i x hx
  exact ⟨i1.length + k, id, by rw [e1, h1.len]; omega, by rw [List.getElem?_append_right (Nat.le_add_right _ _)]; simpa using e2, e3⟩
mutual
theorem outSh_ok {hp : List (Nat × SB)} (hh : HeapOK K H E w hp) : ∀ {x : SV} {s : Sh} {u : Value} (b0 : Nat), outSh hp x = some s → Den H E x u → Knows E E1 b0 (osIds hp x) →
  Den H E1 (ofSh s b0).1 u ∧ OutOf K H E E1 w hp (osIds hp x) b0 (ofSh s b0).2.2 (ofSh s b0).2.1
 | .agg l, s, u, b0, h, hd, hk => by
  simp only [outSh, Option.map_eq_some_iff] at h
  obtain ⟨l', h1, rfl⟩ := h
  obtain ⟨vs, rfl, hl⟩ := hd
  have := outShL_ok hh b0 h1 hl (by simpa [osIds] using hk)
  exact ⟨⟨vs, rfl, this.1⟩, by simpa [osIds, ofSh] using this.2⟩
 | .tup l, s, u, b0, h, hd, hk => by
  simp only [outSh, Option.map_eq_some_iff] at h
  obtain ⟨l', h1, rfl⟩ := h
  obtain ⟨vs, rfl, hl⟩ := hd
  have := outShL_ok hh b0 h1 hl (by simpa [osIds] using hk)
  exact ⟨⟨vs, rfl, this.1⟩, by simpa [osIds, ofSh] using this.2⟩
 | .gs id, s, u, b0, h, hd, hk => by
  simp only [outSh] at h
  split at h
  ·rename_i st n g hl
   cases h
   obtain ⟨v, he, hr⟩ := hh.ent _ _ hl
   rw [hd.1] at he; cases he
   have hi : osIds hp (.gs id) = [] := by simp [osIds, hl]
   rw [hi]
   have := ofSh_den (E1 := E1) b0 hr
   exact ⟨this.1, by rw [this.2.1, this.2.2]; exact OutOf.nil⟩
  ·rename_i hne
   simp only [Option.map_eq_some_iff] at h
   obtain ⟨r, h1, rfl⟩ := h
   have hi : osIds hp (.gs id) = [id] := by
    simp only [osIds]
   rw [hi] at hk ⊢
   have hE1 : E1 b0 = E id := by simpa using hk 0 id rfl
   obtain ⟨a1, a2⟩ := ownEls_ok hh h1
   refine ⟨⟨by rw [hE1]; exact hd.1, hd.2⟩, ⟨by simp [ofSh], fun i x hx => ?_, fun i hi => ?_⟩⟩
   rotate_left
   ·simp at hi; subst hi; exact a2
   simp [ofSh] at hx
   obtain ⟨rfl, rfl⟩ := hx
   exact ⟨0, id, rfl, rfl, a1, ⟨_, _, _, _, rfl⟩, a2⟩
 | .any, s, u, b0, h, hd, hk => by simp [outSh, toSh] at h
 | .val _, s, u, b0, h, hd, hk => outSh_imm hh b0 h (by rfl) (by rfl) hd
 | .int _ _, s, u, b0, h, hd, hk => outSh_imm hh b0 h (by rfl) (by rfl) hd
 | .sym _ _, s, u, b0, h, hd, hk => outSh_imm hh b0 h (by rfl) (by rfl) hd
 | .bool _, s, u, b0, h, hd, hk => outSh_imm hh b0 h (by rfl) (by rfl) hd
 | .test _, s, u, b0, h, hd, hk => outSh_imm hh b0 h (by rfl) (by rfl) hd
 | .str _, s, u, b0, h, hd, hk => outSh_imm hh b0 h (by rfl) (by rfl) hd
 | .ptr _ _, s, u, b0, h, hd, hk => outSh_imm hh b0 h (by rfl) (by rfl) hd
 | .gp _ _ _ _, s, u, b0, h, hd, hk => by simp [outSh, toSh] at h
 | .nilp, s, u, b0, h, hd, hk => outSh_imm hh b0 h (by rfl) (by rfl) hd
 | .nils, s, u, b0, h, hd, hk => outSh_imm hh b0 h (by rfl) (by rfl) hd
 | .nilf, s, u, b0, h, hd, hk => outSh_imm hh b0 h (by rfl) (by rfl) hd
 | .nili, s, u, b0, h, hd, hk => outSh_imm hh b0 h (by rfl) (by rfl) hd
 | .nilm, s, u, b0, h, hd, hk => by simp [outSh, toSh] at h
 | .fn _ _, s, u, b0, h, hd, hk => outSh_imm hh b0 h (by rfl) (by rfl) hd
 | .ifc _ _, s, u, b0, h, hd, hk => outSh_imm hh b0 h (by rfl) (by rfl) hd
 | .mp _, s, u, b0, h, hd, hk => by simp [outSh, toSh] at h
 | .sh _, s, u, b0, h, hd, hk => outSh_imm hh b0 h (by rfl) (by rfl) hd
 | .shp _ _ _ _ _, s, u, b0, h, hd, hk => outSh_imm hh b0 h (by rfl) (by rfl) hd
 | .ev _, s, u, b0, h, hd, hk => by simp [outSh, toSh] at h
 | .vw _ _, s, u, b0, h, hd, hk => by simp [outSh, toSh] at h
 | .glob _, s, u, b0, h, hd, hk => by simp [outSh, toSh] at h
theorem outShL_ok {hp : List (Nat × SB)} (hh : HeapOK K H E w hp) : ∀ {l : List SV} {l' : List Sh} {vs : List Value} (b0 : Nat), outShL hp l = some l' → DenL H E l vs → Knows E E1 b0 (osIdsL hp l) →
  DenL H E1 (ofShL l' b0).1 vs ∧ OutOf K H E E1 w hp (osIdsL hp l) b0 (ofShL l' b0).2.2 (ofShL l' b0).2.1
 | [], l', [], b0, h, _, _ => by simp [outShL] at h; subst h; exact ⟨trivial, OutOf.nil⟩
 | x :: l, l', v :: vs, b0, h, ⟨h1, h2⟩, hk => by
  simp only [outShL] at h
  split at h
  ·rename_i s r e1 e2
   cases h
   have a := outSh_ok hh b0 e1 h1 hk.left
   have hk2 := hk.right
   rw [← a.2.len] at hk2
   have b := outShL_ok hh _ e2 h2 hk2
   simp only [ofShL]
   exact ⟨⟨a.1, b.1⟩, a.2.app b.2⟩
  ·cases h
 | [], _, _ :: _, _, _, h, _ => h.elim
 | _ :: _, _, [], _, _, h, _ => h.elim
theorem outSh_imm {hp : List (Nat × SB)} (hh : HeapOK K H E w hp) {x : SV} {s : Sh} {u : Value} (b0 : Nat) (h : outSh hp x = some s) (hx : outSh hp x = toSh hp x) (hi : osIds hp x = []) (hd : Den H E x u) :
  Den H E1 (ofSh s b0).1 u ∧ OutOf K H E E1 w hp (osIds hp x) b0 (ofSh s b0).2.2 (ofSh s b0).2.1 := by
 rw [hx] at h
 have := ofSh_den (E1 := E1) b0 (toSh_rep hh h hd)
 rw [hi]
 exact ⟨this.1, by rw [this.2.1, this.2.2]; exact OutOf.nil⟩
end
theorem look_mem : ∀ {l hp : List (Nat × SB)} {i : Nat} {x : SB}, look? (insAll hp l) i = some x → (i, x) ∈ l ∨ look? hp i = some x
 | [], _, _, _, h => .inr h
 |(j, b) :: l, hp, i, x, h => by
  rcases look_mem (l := l) h with h | h
  ·exact .inl (List.mem_cons_of_mem _ h)
  ·rw [look_hins] at h
   cases hj : (j == i) <;> simp only [hj, cond_true, cond_false] at h
   ·exact .inr h
   ·cases h
    obtain rfl : j = i := by simpa using hj
    exact .inl (List.mem_cons_self ..)
def K0 (H : Mem) (w : World) : Kx := ⟨w, fun _ => False, H⟩
theorem finish_ok {c : Core} {a : Act} {H0 : Mem} {w0 : World} {sv : SV} {s : Sh} {u : Value} (st : St C (K0 H0 w0) H E w c a) (hf : finish c sv = some s) (hd : Den H E sv u) : ∃ H', SpecRes H0 w0 s u H' w := by
 unfold finish at hf
 split at hf
 ·rename_i hp hfz
  obtain ⟨H1, hH, hh, hw, _⟩ := freeze_ok hfz st.hp st.wok
  cases hn : noDup (osIds hp sv) <;> simp only [hn, cond_true, cond_false] at hf
  ·cases hf
  refine ⟨H1, hw.le, hw.on, hw.os, hw.tape, hw.output, hw.size, fun b hb => hw.kept b hb id, fun b hb => ?_, fun b0 => ?_⟩
  ·rcases hw.fresh b hb with h | h | h
   ·exact .inl h
   ·exact .inr h
   ·exact h.elim
  ·let ids := osIds hp sv
   let E1 : Env := fun i => if b0 ≤ i then (ids[i - b0]?).bind E else none
   have hk : Knows E E1 b0 ids := fun k id hk => by
    simp only [E1, Nat.le_add_right, if_true, Nat.add_sub_cancel_left, hk, Option.bind_some]
   obtain ⟨a1, a2⟩ := outSh_ok (E1 := E1) hh b0 hf (hd.le hH fun _ _ e => e) hk
   have hid : ∀ i v, E1 i = some v → ∃ k id, i = b0 + k ∧ ids[k]? = some id ∧ E id = some v := fun i v hv => by
    simp only [E1] at hv
    split at hv
    ·cases hx : ids[i - b0]? with
     | none => simp [hx] at hv
     | some id => exact ⟨i - b0, id, by omega, hx, by simpa [hx] using hv⟩
    ·cases hv
   have hat : ∀ i x, look? (insAll [] (ofSh s b0).2.1) i = some x → ∃ k id, i = b0 + k ∧ ids[k]? = some id ∧ OsAt (K0 H0 w0) H1 E w hp id x := fun i x hl => by
    rcases look_mem hl with h | h
    ·exact a2.mem i x h
    ·simp [look?] at h
   have hbk : ∀ {k id : Nat}, ids[k]? = some id → bk E1 (b0 + k) = bk E id := fun {k id} h => by simp [bk, hk k id h]
   refine ⟨E1, fun i hi => ?_, fun i b hb => ?_, a1, ⟨fun i x hl => ?_, fun i j x y b h1 h2 o1 o2 => ?_⟩⟩
   ·cases hv : E1 i with
    | none => exact (hi hv).elim
    | some v =>
     obtain ⟨k, id, rfl, h2, _⟩ := hid i v hv
     have : k < (osIds hp sv).length := (List.getElem?_eq_some_iff.1 h2).1
     rw [a2.len]
     exact ⟨Nat.le_add_right _ _, by omega⟩
   ·cases hv : E1 i with
    | none => simp [bk, hv] at hb
    | some v =>
     obtain ⟨k, id, rfl, h2, h3⟩ := hid i v hv
     rw [hbk h2] at hb
     have hown : ∃ sb, look? hp id = some sb ∧ obk E id sb = some b := by
      obtain ⟨sb, q1, q2⟩ := a2.cov id (List.mem_of_getElem? h2)
      exact ⟨sb, q1, q2 b hb⟩
     obtain ⟨sb, h4, h5⟩ := hown
     have := ((hh.ent _ _ h4).lt h5).2.2
     rcases this with h | h
     ·exact h
     ·exact h.elim
   ·obtain ⟨k, id, rfl, h2, h3, ⟨e, st', n, g, rfl⟩, _⟩ := hat i x hl
    obtain ⟨v, xs, e1, e2, e3, e4⟩ := h3
    exact ⟨v, xs, by rw [hk k id h2]; exact e1, e2, e3, e4⟩
   ·obtain ⟨k, id, rfl, p1, _, ⟨_, _, _, _, rfl⟩, sb1, p3, p4⟩ := hat i x h1
    obtain ⟨k', id', rfl, q1, _, ⟨_, _, _, _, rfl⟩, sb2, q3, q4⟩ := hat j y h2
    have o1' : bk E id = some b := by rw [← hbk p1]; exact o1
    have o2' : bk E id' = some b := by rw [← hbk q1]; exact o2
    have := hh.dis _ _ _ _ _ p3 q3 (p4 b o1') (q4 b o2')
    subst this
    rw [noDup_inj hn p1 q1]
 ·cases hf
end
end Go.Sx
namespace Go.Sx
inductive Fin where
 | ret (s : Sh)
 | stop (td : List It) (c : Core)
def fin : Out → Tree Fin
 | .done sv c => match finish c sv with
  | some s => .leaf (.ret s)
  | none => .fail
 | .stop _ td c => .leaf (.stop td c)
def start0 (m : Nat) (shs : List Sh) (L : Nat) : Core := { tm := argL shs ++ List.replicate (m - shs.length) .any, hp := [], nx := 0, lim := L, tc := [] }
section
variable {P : Program} {C : Ctx} {K : Kx} {H H' H'' H0 : Mem} {E E' E'' E1 : Env} {w w' w'' w0 : World}
def Goes (P : Program) (C : Ctx) (K : Kx) (fn : Func) (td : List It) (c : Core) (φ : Sh → Prop) : Prop :=
 ∀ (H : Mem) (E : Env) (w : World) (a : Act) (items : List Item) (b : Frame) (cs : List Frame), St C K H E w c a → ItOK (bodyOf fn) td items →
  ∃ (a' : Act) (w' : World) (v : Value) (s : Sh) (H' : Mem) (todo : List Item), Steps P (lone (b.at a items) cs w) (lone { b.at a' todo with mode := .returning } cs w') ∧ a'.defers = [] ∧ φ s ∧ SpecRes K.H0 K.w0 s v H' w' ∧ (results fn a'.tmps).run P w' = .ok v w'
theorem Goes.mono {fn : Func} {td : List It} {c : Core} {φ ψ : Sh → Prop} (h : Goes P C K fn td c φ) (hp : ∀ s, φ s → ψ s) : Goes P C K fn td c ψ :=
 fun H E w a items b cs st hi => let ⟨a2, w2, v, s, H2, todo, r1, r2, r3, r4⟩ := h H E w a items b cs st hi; ⟨a2, w2, v, s, H2, todo, r1, r2, hp s r3, r4⟩
theorem FnOK.mono {gls : List (Nat × Sh)} {f : Nat} {F F' : List Sh → Tree Sh} (h : FnOK P gls f F') (hp : ∀ (H : Mem) (shs : List Sh) (args : List Value) (φ : Sh → Prop), RepL H shs args → (F shs).All φ → (F' shs).All φ) : FnOK P gls f F :=
 fun H w shs args φ h1 h2 h3 h4 => h H w shs args φ h1 h2 h3 (hp H shs args φ h3 h4)
end
/-! A state that says less. -/
inductive Rn where
 | id (i : Nat)
 | nil
mutual
def leS (hp : List (Nat × SB)) (ρ : List (Nat × Rn)) : SV → SV → Prop
 | _, .any => True
 | x, .sym k m => match x with
  | .int k' n => k' = k ∧ n = m
  | .sym k' n => k' = k ∧ n = m
  | _ => False
 | x, .test b => match x with
  | .bool b' => b' = b
  | .test b' => b' = b
  | _ => False
 | x, .gs id' => match x with
  | .gs id => look? ρ id' = some (.id id)
  | .nils => look? ρ id' = some .nil
  | _ => False
 | x, .ptr id' off' => match x with
  | .ptr id off => look? ρ id' = some (.id id) ∧ off = off'
  | _ => False
 | x, .mp id' => match x with
  | .mp id => look? ρ id' = some (.id id)
  | _ => False
 | x, .fn f' l' => match x with
  | .fn f l => f = f' ∧ leL hp ρ l l'
  | _ => False
 | x, .agg l' => match x with
  | .agg l => leL hp ρ l l'
  | _ => False
 | x, .tup l' => match x with
  | .tup l => leL hp ρ l l'
  | _ => False
 | x, .ifc t' y => match x with
  | .ifc t z => t = t' ∧ leS hp ρ z y
  | _ => False
 | x, .sh s => toSh hp x = some s ∨ (match x, s with | .nils, .sl _ n _ => n = 0 | _, _ => False)
 | x, .shp st' n' g' i' off' => match x with
  | .shp st n g i off => st = st' ∧ n = n' ∧ g = g' ∧ i = i' ∧ off = off'
  | x => toSh hp x = some (.pt (g' i')) ∧ off' = 0 ∧ (g' i').length = st' ∧ i' < n'
 | x, .int k' n' => match x with
  | .int k n => k = k' ∧ n = n'
  | .sym k n => k = k' ∧ n = n'
  | _ => False
 | x, .bool b' => match x with
  | .bool b => b = b'
  | .test b => b = b'
  | _ => False
 | .nilp, .nilp => True
 | .nils, .nils => True
 | .nilf, .nilf => True
 | .nili, .nili => True
 | .nilm, .nilm => True
 | .glob g, .glob g' => g = g'
 | .str l, .str l' => l = l'
 | .val v, .val v' => v = v'
 | _, _ => False
def leL (hp : List (Nat × SB)) (ρ : List (Nat × Rn)) : List SV → List SV → Prop
 | [], [] => True
 | x :: l, y :: l' => leS hp ρ x y ∧ leL hp ρ l l'
 | _, _ => False
end
def leM (hp : List (Nat × SB)) (ρ : List (Nat × Rn)) : List (SV × SV) → List (SV × SV) → Prop
 | [], [] => True
 |(a, b) :: l, (a', b') :: l' => leS hp ρ a a' ∧ leS hp ρ b b' ∧ leM hp ρ l l'
 | _, _ => False
def leB (hp : List (Nat × SB)) (ρ : List (Nat × Rn)) (id' : Nat) : SB → Prop
 | .box cells' e' => match look? ρ id' with
  | some (.id id) => match look? hp id with
   | some (.box cells e) => e = e' ∧ leL hp ρ cells cells'
   | _ => False
  | _ => False
 | .row cells' e' st' n' => match look? ρ id' with
  | some (.id id) => match look? hp id with
   | some (.row cells e st n) => e = e' ∧ st = st' ∧ n = n' ∧ leL hp ρ cells cells'
   | _ => False
  | _ => False
 | .own e' st' n' g' => match look? ρ id' with
  | some (.id id) => match ownEls hp id with
   | some (e, st, n, g) => e = e' ∧ st = st' ∧ n = n' ∧ ∀ i, i < n → g i = g' i
   | _ => False
  | some .nil => n' = 0
  | none => False
 | .map es' => match look? ρ id' with
  | some (.id id) => match look? hp id with
   | some (.map es) => leM hp ρ es es'
   | _ => False
  | _ => False
 | .fz _ _ _ => False
 | .fzb _ => False
 | .ownx _ _ _ _ _ => False
 | .fm _ _ _ _ _ => False
 | .buf e' l' => match look? ρ id' with
  | some (.id id) => match look? hp id with
   | some (.buf e l) => e = e' ∧ l = l'
   | _ => False
  | _ => False
def leH (hp : List (Nat × SB)) (ρ : List (Nat × Rn)) : List (Nat × SB) → Prop
 | [] => True
 |(id', sb) :: l => leB hp ρ id' sb ∧ leH hp ρ l
def rnIds : List (Nat × Rn) → List Nat
 | [] => []
 |(_, .id i) :: l => i :: rnIds l
 | _ :: l => rnIds l
def rnUp (nx : Nat) : List (Nat × Rn) → Bool
 | [] => true
 |(j, _) :: l => Nat.blt j nx && rnUp nx l
def rnOK (nx : Nat) (ρ : List (Nat × Rn)) : Bool := noDup (rnIds ρ) && rnUp nx ρ
def leC (ρ : List (Nat × Rn)) (c c' : Core) : Prop := leL c.hp ρ c.tm c'.tm ∧ leH c.hp ρ c'.hp ∧ rnOK c'.nx ρ = true
end Go.Sx
namespace Go.Sx
section
variable {P : Program} {C : Ctx} {K : Kx} {H H' H'' H0 : Mem} {E E' E'' E1 : Env} {w w' w'' w0 : World} {hp : List (Nat × SB)} {ρ : List (Nat × Rn)}
def rnEnv (ρ : List (Nat × Rn)) (E : Env) : Env := fun i' => match look? ρ i' with
 | some (.id i) => E i
 | some .nil => some (.slice none 0 0)
 | none => none
theorem rnEnv_id {i i' : Nat} (h : look? ρ i' = some (.id i)) : rnEnv ρ E i' = E i := by simp [rnEnv, h]
theorem rnEnv_nil {i' : Nat} (h : look? ρ i' = some .nil) : rnEnv ρ E i' = some (.slice none 0 0) := by simp [rnEnv, h]
mutual
theorem leS_den (hh : HeapOK K H E w hp) : ∀ {x : SV} (y : SV) {u : Value}, leS hp ρ x y → Den H E x u → Den H (rnEnv ρ E) y u
 | x, .any, u, _, _ => trivial
 | x, .sym k m, u, h, hd => by
  cases x <;> simp only [leS] at h
  all_goals first | exact h.elim | (obtain ⟨rfl, rfl⟩ := h; exact hd)
 | x, .test b, u, h, hd => by
  cases x <;> simp only [leS] at h
  all_goals first | exact h.elim | (subst h; exact hd)
 | x, .gs id', u, h, hd => by
  cases x <;> simp only [leS] at h
  case gs id => exact ⟨by rw [rnEnv_id h]; exact hd.1, hd.2⟩
  case nils => obtain rfl : u = _ := hd; exact ⟨rnEnv_nil h, _, _, _, rfl⟩
 | x, .ptr id' off', u, h, hd => by
  cases x <;> simp only [leS] at h
  case ptr id off => obtain ⟨h, rfl⟩ := h; obtain ⟨b, h1, h2⟩ := hd; exact ⟨b, by rw [rnEnv_id h]; exact h1, h2⟩
 | x, .mp id', u, h, hd => by
  cases x <;> simp only [leS] at h
  case mp id => obtain ⟨b, h1, h2⟩ := hd; exact ⟨b, by rw [rnEnv_id h]; exact h1, h2⟩
 | x, .fn f' l', u, h, hd => by
  cases x <;> simp only [leS] at h
  case fn f l => obtain ⟨rfl, h⟩ := h; obtain ⟨vs, rfl, hl⟩ := hd; exact ⟨vs, rfl, leL_den hh l' h hl⟩
 | x, .agg l', u, h, hd => by
  cases x <;> simp only [leS] at h
  case agg l => obtain ⟨vs, rfl, hl⟩ := hd; exact ⟨vs, rfl, leL_den hh l' h hl⟩
 | x, .tup l', u, h, hd => by
  cases x <;> simp only [leS] at h
  case tup l => obtain ⟨vs, rfl, hl⟩ := hd; exact ⟨vs, rfl, leL_den hh l' h hl⟩
 | x, .ifc t' y, u, h, hd => by
  cases x <;> simp only [leS] at h
  case ifc t z => obtain ⟨rfl, h⟩ := h; obtain ⟨v, rfl, hl⟩ := hd; exact ⟨v, rfl, leS_den hh y h hl⟩
 | x, .sh s, u, h, hd => by
  have key : toSh hp x = some s ∨ (x = .nils ∧ ∃ st g, s = .sl st 0 g) := by
   unfold leS at h
   split at h <;> first | exact h.elim | skip
   all_goals simp_all
  rcases key with h | ⟨rfl, st, g, rfl⟩
  ·exact toSh_rep hh h hd
  ·obtain rfl : u = _ := hd
   exact .sl0 _ _ _ _ (Nat.zero_le _)
 | x, .int k n, u, h, hd => by
  cases x <;> simp only [leS] at h
  case int k' n' => obtain ⟨rfl, rfl⟩ := h; exact hd
  case sym k' n' => obtain ⟨rfl, rfl⟩ := h; exact hd
 | x, .bool b, u, h, hd => by
  cases x <;> simp only [leS] at h
  case bool b' => subst h; exact hd
  case test b' => subst h; exact hd
 | x, .nilp, u, h, hd => by
  cases x <;> simp only [leS] at h
  case nilp => exact hd
 | x, .nils, u, h, hd => by
  cases x <;> simp only [leS] at h
  case nils => exact hd
 | x, .nilf, u, h, hd => by
  cases x <;> simp only [leS] at h
  case nilf => exact hd
 | x, .nili, u, h, hd => by
  cases x <;> simp only [leS] at h
  case nili => exact hd
 | x, .nilm, u, h, hd => by
  cases x <;> simp only [leS] at h
  case nilm => exact hd
 | x, .glob g, u, h, hd => by
  cases x <;> simp only [leS] at h
  case glob g' => subst h; exact hd
 | x, .str l, u, h, hd => by
  cases x <;> simp only [leS] at h
  case str l' => subst h; exact hd
 | x, .val v, u, h, hd => by
  cases x <;> simp only [leS] at h
  case val v' => subst h; exact hd
 | x, .shp st n g i off, u, h, hd => by
  have key : (∃ st' n' g' i' off', x = .shp st' n' g' i' off' ∧ st' = st ∧ n' = n ∧ g' = g ∧ i' = i ∧ off' = off) ∨ (toSh hp x = some (.pt (g i)) ∧ off = 0 ∧ (g i).length = st ∧ i < n) := by
   cases x <;> simp only [leS] at h
   case shp => exact .inl ⟨_, _, _, _, _, rfl, h⟩
   all_goals exact .inr h
  rcases key with ⟨_, _, _, _, _, rfl, rfl, rfl, rfl, rfl, rfl⟩ | ⟨h9, rfl, h2, h3⟩
  ·exact hd
  ·have hr := toSh_rep hh h9 hd
   cases hr with
   | pt _ b off2 c a1 a2 a3 => exact ⟨b, off2, c, rfl, h3, h2, fun j hj => ⟨a1 j (by omega), a2 j (by omega)⟩, a3⟩
 | x, .gp id st i off, u, h, hd => by
  cases x <;> simp only [leS] at h
 | x, .ev id, u, h, hd => by
  cases x <;> simp only [leS] at h
 | x, .vw id n, u, h, hd => by
  cases x <;> simp only [leS] at h
theorem leL_den (hh : HeapOK K H E w hp) : ∀ {l : List SV} (l' : List SV) {vs : List Value}, leL hp ρ l l' → DenL H E l vs → DenL H (rnEnv ρ E) l' vs
 | [], [], [], _, _ => trivial
 | _ :: _, y :: l', _ :: _, ⟨h1, h2⟩, ⟨d1, d2⟩ => ⟨leS_den hh y h1 d1, leL_den hh l' h2 d2⟩
 | [], _ :: _, _, h, _ => h.elim
 | _ :: _, [], _, h, _ => h.elim
 | _ :: _, _ :: _, [], _, hd => hd.elim
 | [], [], _ :: _, _, hd => hd.elim
end
theorem leM_den (hh : HeapOK K H E w hp) : ∀ {l l' : List (SV × SV)} {ms : List MapEntry}, leM hp ρ l l' → DenM H E l ms → DenM H (rnEnv ρ E) l' ms
 | [], [], [], _, _ => trivial
 |(_, _) :: _, (a, b) :: l', _ :: _, ⟨h1, h2, h3⟩, ⟨d1, d2, d3⟩ => ⟨leS_den hh a h1 d1, leS_den hh b h2 d2, leM_den hh h3 d3⟩
 | [], _ :: _, _, h, _ => h.elim
 |(_, _) :: _, [], _, h, _ => h.elim
 |(_, _) :: _, (_, _) :: _, [], _, hd => hd.elim
 | [], [], _ :: _, _, hd => hd.elim
theorem rows_congr {st n : Nat} {g g' : Nat → List Sh} {xs : List Value} (h : RepRows H st n g xs) (hg : ∀ i, i < n → g i = g' i) : RepRows H st n g' xs :=
 ⟨h.1, fun i hi => by rw [← hg i hi]; exact h.2.1 i hi, h.2.2.1, fun i j s v hi e1 e2 => h.2.2.2 i j s v hi (by rw [hg i hi]; exact e1) e2⟩
theorem leB_ok (hh : HeapOK K H E w hp) {id' : Nat} {sb : SB} (h : leB hp ρ id' sb) : Ent K H (rnEnv ρ E) w id' sb ∧ ∀ b, obk (rnEnv ρ E) id' sb = some b → ∃ id s0, look? ρ id' = some (.id id) ∧ look? hp id = some s0 ∧ obk E id s0 = some b := by
 cases sb with
 | box cells' e' =>
  simp only [leB] at h
  split at h
  ·rename_i id hr
   split at h
   ·rename_i cells e hl
    obtain ⟨rfl, h⟩ := h
    obtain ⟨b, cs, h1, h2, h3, h4⟩ := hh.ent _ _ hl
    refine ⟨⟨b, cs, by rw [rnEnv_id hr]; exact h1, h2, leL_den hh _ h h3, h4⟩, fun b' hb => ⟨id, _, hr, hl, ?_⟩⟩
    simp only [obk, rnEnv_id hr] at hb ⊢; exact hb
   ·exact h.elim
  ·exact h.elim
 | row cells' e' st' n' =>
  simp only [leB] at h
  split at h
  ·rename_i id hr
   split at h
   ·rename_i cells e st n hl
    obtain ⟨rfl, rfl, rfl, h⟩ := h
    obtain ⟨v, xs, h1, h2, h3, h4⟩ := hh.ent _ _ hl
    refine ⟨⟨v, xs, by rw [rnEnv_id hr]; exact h1, h2, leL_den hh _ h h3, h4⟩, fun b' hb => ⟨id, _, hr, hl, ?_⟩⟩
    simp only [obk, rnEnv_id hr] at hb ⊢; exact hb
   ·exact h.elim
  ·exact h.elim
 | own e' st' n' g' =>
  simp only [leB] at h
  split at h
  ·rename_i id hr
   split at h
   ·rename_i e st n g hl
    obtain ⟨rfl, rfl, rfl, h⟩ := h
    obtain ⟨⟨v, xs, h1, h2, h3, h4⟩, sb0, h5, h6⟩ := ownEls_ok hh hl
    refine ⟨⟨v, xs, by rw [rnEnv_id hr]; exact h1, h2, rows_congr h3 h, h4⟩, fun b' hb => ⟨id, _, hr, h5, h6 b' ?_⟩⟩
    simp only [obk, rnEnv_id hr] at hb; exact hb
   ·exact h.elim
  ·rename_i hr
   subst h
   refine ⟨⟨_, [], rnEnv_nil hr, owns_nil _ _ _, rows_nil _ _, fun b hb => by simp [blkV] at hb⟩, fun b hb => ?_⟩
   simp [obk, rnEnv_nil hr, blkV] at hb
  ·exact h.elim
 | map es' =>
  simp only [leB] at h
  split at h
  ·rename_i id hr
   split at h
   ·rename_i es hl
    obtain ⟨b, ms, clk, h1, h2, h3, h4⟩ := hh.ent _ _ hl
    refine ⟨⟨b, ms, clk, by rw [rnEnv_id hr]; exact h1, h2, leM_den hh h h3, h4⟩, fun b' hb => ⟨id, _, hr, hl, ?_⟩⟩
    simp only [obk, rnEnv_id hr] at hb ⊢; exact hb
   ·exact h.elim
  ·exact h.elim
 | fz st n g => exact h.elim
 | fzb l => exact h.elim
 | ownx e st n g m => exact h.elim
 | fm k M fs us t => exact h.elim
 | buf e l =>
  simp only [leB] at h
  split at h
  ·rename_i id hr
   split at h
   ·rename_i e1 l1 hl
    obtain ⟨rfl, rfl⟩ := h
    obtain ⟨v, he, h1, h3⟩ := hh.ent _ _ hl
    refine ⟨⟨v, by rw [rnEnv_id hr]; exact he, h1, h3⟩, fun b hb => ⟨id, _, hr, hl, ?_⟩⟩
    simp only [obk, rnEnv_id hr] at hb ⊢; exact hb
   ·exact h.elim
  ·exact h.elim
theorem leH_at : ∀ {l : List (Nat × SB)} {i : Nat} {sb : SB}, leH hp ρ l → look? l i = some sb → leB hp ρ i sb
 | [], _, _, _, h => by simp [look?] at h
 |(j, x) :: l, i, sb, ⟨h1, h2⟩, h => by
  simp only [look?] at h
  cases hj : (j == i) <;> simp only [hj, cond_true, cond_false] at h
  ·exact leH_at h2 h
  ·cases h
   obtain rfl : j = i := by simpa using hj
   exact h1
theorem rnUp_lt {nx : Nat} : ∀ {ρ : List (Nat × Rn)} {i : Nat} {r : Rn}, rnUp nx ρ = true → look? ρ i = some r → i < nx
 | [], _, _, _, h => by simp [look?] at h
 |(j, x) :: l, i, r, hu, h => by
  simp only [rnUp, Bool.and_eq_true] at hu
  simp only [look?] at h
  cases hj : (j == i) <;> simp only [hj, cond_true, cond_false] at h
  ·exact rnUp_lt hu.2 h
  ·obtain rfl : j = i := by simpa using hj
   exact blt_spec hu.1
theorem rnIds_mem : ∀ {ρ : List (Nat × Rn)} {i k : Nat}, look? ρ i = some (.id k) → k ∈ rnIds ρ
 | [], _, _, h => by simp [look?] at h
 |(j, x) :: l, i, k, h => by
  simp only [look?] at h
  cases hj : (j == i) <;> simp only [hj, cond_true, cond_false] at h
  ·have := rnIds_mem h
   cases x <;> simp [rnIds, this]
  ·cases h
   simp [rnIds]
theorem rn_inj : ∀ {ρ : List (Nat × Rn)} {i j k : Nat}, noDup (rnIds ρ) = true → look? ρ i = some (.id k) → look? ρ j = some (.id k) → i = j
 | [], _, _, _, _, h, _ => by simp [look?] at h
 |(m, x) :: l, i, j, k, hn, h1, h2 => by
  simp only [look?] at h1 h2
  have tail : noDup (rnIds l) = true := by
   cases x with
   | id a => simp only [rnIds, noDup, Bool.and_eq_true] at hn; exact hn.2
   | nil => exact hn
  have head : ∀ a, x = .id a → a ∈ rnIds l → False := fun a hx ha => by
   subst hx
   simp only [rnIds, noDup, Bool.and_eq_true, Bool.not_eq_true'] at hn
   have : (rnIds l).contains a = true := by simpa using ha
   rw [this] at hn
   exact absurd hn.1 (by simp)
  cases hi : (m == i) <;> cases hj : (m == j) <;> simp only [hi, hj, cond_true, cond_false] at h1 h2
  ·exact rn_inj tail h1 h2
  ·cases h2
   exact (head k rfl (rnIds_mem h1)).elim
  ·cases h1
   exact (head k rfl (rnIds_mem h2)).elim
  ·have e1 : m = i := by simpa using hi
   have e2 : m = j := by simpa using hj
   rw [← e1, ← e2]
theorem St.weak {c c' : Core} {a : Act} (st : St C K H E w c a) (h : leC ρ c c') : St C K H (rnEnv ρ E) w c' a := by
 obtain ⟨h1, h2, h3⟩ := h
 simp only [rnOK, Bool.and_eq_true] at h3
 refine ⟨leL_den st.hp _ h1 st.den, ⟨fun id sb hl => (leB_ok st.hp (leH_at h2 hl)).1, fun id id' sb sb' b l1 l2 o1 o2 => ?_⟩, st.wok, fun i hi _ => ?_, st.gl, st.defers⟩
 ·obtain ⟨i1, s1, a1, a2, a3⟩ := (leB_ok st.hp (leH_at h2 l1)).2 b o1
  obtain ⟨i2, s2, b1, b2, b3⟩ := (leB_ok st.hp (leH_at h2 l2)).2 b o2
  have := st.hp.dis _ _ _ _ _ a2 b2 a3 b3
  subst this
  exact rn_inj h3.1 a1 b1
 ·unfold rnEnv
  cases hr : look? ρ i with
  | none => rfl
  | some r => have := rnUp_lt h3.2 hr; omega
end
end Go.Sx
namespace Go.Sx
def denB : SV → Value → Bool
 | .int k n, .int k' m => k == k' && n == m
 | .bool b, .bool c => b == c
 | .str [], .string s => s.data.toList.isEmpty
 | .nilp, .pointer none => true
 | .nils, .slice none 0 0 => true
 | .nilf, .nilFunc => true
 | .nili, .nilIface => true
 | .nilm, .map none => true
 | _, _ => false
def denLB : List SV → List Value → Bool
 | [], [] => true
 | x :: l, v :: vs => denB x v && denLB l vs
 | _, _ => false
def fieldsB (P : Program) : List Field → List (Nat × Nat × Bool) → Bool
 | [], [] => true
 | f :: r, p :: q => f.offset == p.1 && (match P.info? f.type with | some inf => inf.size == p.2.1 | none => false) &&
   (match P.underlying f.type with | some (.struct _) => p.2.2 | some (.array _ _) => p.2.2 | some _ => !p.2.2 | none => false) && fieldsB P r q
 | _, _ => false
def descB (P : Program) (t : Nat) : Ty → Bool
 | .int k => match P.underlying t with | some (.int k') => k == k' | _ => false
 | .bool => match P.underlying t with | some .bool => true | _ => false
 | .str => match P.underlying t with | some .string => true | _ => false
 | .ptr e => match P.underlying t with | some (.pointer e') => e == e' | _ => false
 | .fn => match P.underlying t with | some (.func _ _ _) => true | _ => false
 | .iface => match P.underlying t with | some (.interface _) => true | _ => false
 | .map k e => match P.underlying t with | some (.map k' e') => k == k' && e == e' | _ => false
 | .slice e => match P.underlying t with | some (.slice e') => e == e' | _ => false
 | .struct fs => match P.underlying t with | some (.struct fields) => fieldsB P fields.toList fs | _ => false
 | .arr n e => match P.underlying t with | some (.array n' e') => n == n' && e == e' | _ => false
 | .other => false
def zeroB (agg : Bool) (size : Nat) : Value → Bool
 | .agg _ => agg
 | v => !agg && size == 1 && v.oneCell'
def tyB (P : Program) (t : Nat) (i : TyI) : Bool :=
 descB P t i.ty && match P.info? t with
  | some inf => inf.size == i.size && inf.bytes == i.bytes && match inf.zero with
   | some z => denLB i.zero z.cells.toList && z.cells.size == i.size && zeroB i.ty.isAgg i.size z
   | none => false
  | none => false
def tysB (P : Program) (t : BT TyI) : Bool := t.allB (tyB P)
theorem denB_ok {x : SV} {v : Value} (h : denB x v = true) {H : Mem} {E : Env} : Den H E x v := by
 unfold denB at h
 split at h
 ·simp only [Bool.and_eq_true, beq_iff_eq] at h
  obtain ⟨rfl, rfl⟩ := h
  rfl
 ·simp only [beq_iff_eq] at h
  subst h; rfl
 ·rename_i s
  have : s.data.toList = [] := by simpa using h
  obtain ⟨⟨l⟩⟩ := s
  simp at this
  subst this
  rfl
 all_goals first | rfl | cases h
theorem denLB_ok {H : Mem} {E : Env} : ∀ {l : List SV} {vs : List Value}, denLB l vs = true → DenL H E l vs
 | [], [], _ => trivial
 | x :: l, v :: vs, h => by
  simp only [denLB, Bool.and_eq_true] at h
  exact ⟨denB_ok h.1, denLB_ok h.2⟩
 | [], _ :: _, h => by simp [denLB] at h
 | _ :: _, [], h => by simp [denLB] at h
theorem fieldsB_ok {P : Program} : ∀ {fields : List Field} {fs : List (Nat × Nat × Bool)}, fieldsB P fields fs = true → fields.length = fs.length ∧ ∀ (j : Nat) (f : Field), fields[j]? = some f → ∃ inf : TypeInfo, P.info? f.type = some inf ∧
  fs[j]? = some (f.offset, inf.size, match P.underlying f.type with | some (.struct _) | some (.array _ _) => true | _ => false) ∧ (P.underlying f.type).isSome = true
 | [], [], _ => ⟨rfl, fun _ _ h => by simp at h⟩
 | f :: r, p :: q, h => by
  simp only [fieldsB, Bool.and_eq_true, beq_iff_eq] at h
  obtain ⟨⟨⟨h1, h2⟩, h3⟩, h4⟩ := h
  obtain ⟨h5, h6⟩ := fieldsB_ok h4
  refine ⟨by simp [h5], fun j f' hj => ?_⟩
  cases j with
  | zero =>
   simp at hj
   subst hj
   split at h2
   ·rename_i inf hi
    simp only [beq_iff_eq] at h2
    refine ⟨inf, hi, ?_, ?_⟩
    ·obtain ⟨p1, p2, p3⟩ := p
     simp only at h1 h2 h3
     subst h1 h2
     simp only [List.getElem?_cons_zero]
     congr 3
     cases hu : P.underlying f.type with
     | none => rw [hu] at h3; cases h3
     | some d => rw [hu] at h3; cases d <;> simpa using h3
    ·split at h3
     ·rename_i e; rw [e]; rfl
     ·rename_i e; rw [e]; rfl
     ·rename_i e; rw [e]; rfl
     ·cases h3
   ·cases h2
  | succ j =>
   obtain ⟨inf, a1, a2, a3⟩ := h6 j f' (by simpa using hj)
   exact ⟨inf, a1, by simpa using a2, a3⟩
 | [], _ :: _, h => by simp [fieldsB] at h
 | _ :: _, [], h => by simp [fieldsB] at h
theorem descB_ok {P : Program} {t : Nat} {ty : Ty} (h : descB P t ty = true) : DescOK P t ty := by
  unfold descB at h
  cases ty
  case other => cases h
  case arr => simp only at h; split at h; · rename_i hu; simp only [Bool.and_eq_true, beq_iff_eq] at h; obtain ⟨rfl, rfl⟩ := h; exact hu
              · cases h
  case int => simp only at h; split at h; · rename_i hu; simp only [beq_iff_eq] at h; subst h; exact hu
              · cases h
  case bool => simp only at h; split at h; · rename_i hu; exact hu
               · cases h
  case str => simp only at h; split at h; · rename_i hu; exact hu
              · cases h
  case ptr => simp only at h; split at h; · rename_i hu; simp only [beq_iff_eq] at h; subst h; exact hu
              · cases h
  case fn => simp only at h; split at h; · rename_i hu; exact ⟨_, _, _, hu⟩
             · cases h
  case iface => simp only at h; split at h; · rename_i hu; exact ⟨_, hu⟩
                · cases h
  case map => simp only at h; split at h; · rename_i hu; simp only [Bool.and_eq_true, beq_iff_eq] at h; obtain ⟨rfl, rfl⟩ := h; exact hu
              · cases h
  case slice => simp only at h; split at h; · rename_i hu; simp only [beq_iff_eq] at h; subst h; exact hu
                · cases h
  case struct =>
    simp only at h
    split at h
    · rename_i fields hu
      have := fieldsB_ok h
      exact ⟨fields, hu, by simpa using this.1, fun j f hj => this.2 j f (by simpa using hj)⟩
    · cases h
theorem tyB_ok {P : Program} {t : Nat} {i : TyI} (h : tyB P t i = true) : TyOK P t i := by
 unfold tyB at h
 simp only [Bool.and_eq_true] at h
 obtain ⟨h1, h2⟩ := h
 refine ⟨descB_ok h1, ?_⟩
 split at h2
 ·rename_i inf hi
  simp only [Bool.and_eq_true, beq_iff_eq] at h2
  obtain ⟨⟨a1, a2⟩, h3⟩ := h2
  split at h3
  ·rename_i z hz
   simp only [Bool.and_eq_true, beq_iff_eq] at h3
   obtain ⟨⟨b1, b2⟩, b3⟩ := h3
   refine ⟨inf, z, hi, a1, a2, hz, denLB_ok b1, b2, fun ha => ?_, fun ha => ?_⟩
   ·unfold zeroB at b3
    split at b3
    ·exact ⟨_, rfl⟩
    ·rw [ha] at b3; simp at b3
   ·unfold zeroB at b3
    split at b3
    ·rw [ha] at b3; cases b3
    ·simp only [Bool.and_eq_true, beq_iff_eq] at b3
     exact ⟨b3.1.2, b3.2⟩
  ·cases h3
 ·cases h2
theorem tysB_ok {P : Program} {l : BT TyI} (h : tysB P l = true) (t : Nat) (i : TyI) (hl : l.get t = some i) : TyOK P t i := tyB_ok ((BT.allB_all h).get hl)
def FnsAre (P : Program) (l : BT Func) : Prop := l.All fun g fn => P.funcs[g]? = some fn
theorem fnsAre_ok {P : Program} {l : BT Func} (h : FnsAre P l) (g : Nat) (fn : Func) (hl : l.get g = some fn) : P.funcs[g]? = some fn := BT.All.get h hl
def entersB (l : BT Func) : Bool := l.allB fun _ fn => fn.body.isSome && !(fn.name == "runtime.NumGoroutine")
theorem entersB_ok {P : Program} {l : BT Func} (h : FnsAre P l) (he : entersB l = true) (g : Nat) (hl : (l.get g).isSome = true) : ∃ fn, P.funcs[g]? = some fn ∧ fn.body.isSome = true ∧ fn.name ≠ "runtime.NumGoroutine" := by
 obtain ⟨fn, hf⟩ := Option.isSome_iff_exists.1 hl
 have h1 := (BT.allB_all he).get hf
 simp only [Bool.and_eq_true, Bool.not_eq_true', beq_eq_false_iff_ne] at h1
 exact ⟨fn, fnsAre_ok h g fn hf, h1.1, h1.2⟩
end Go.Sx
