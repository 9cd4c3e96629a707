/-
  The run of a function's code is sound. Own work. From the run of a function's code to its summary. Own work. What remains to be run: rules for loops, and for a function's summary. Own work. A state that says less holds where the other does. Own work. Tables of a program, checked. Own work.
-/
import Derived.Test.YtikaakiadiaeoaaGreatDoorQ03
namespace Go.Sx
section
variable {P : Program} {C : Ctx} {K : Kx} {H H' H'' : Mem} {E E' E'' : Env} {w w' w'' : World}

/-- What the machine does where the executor says 'out'. -/
def OutOK (P : Program) (C : Ctx) (K : Kx) (fn : Func) (g : Nat) (H : Mem) (E : Env) (w : World) (c : Core) (m : Machine) (b : Frame) (cs : List Frame) : Out → Prop
  | .done sv c' => ∃ (a' : Act) (w' : World) (H' : Mem) (E' : Env) (v : Value) (todo : List Item), Steps P m (lone { b.at a' todo with mode := .returning } cs w') ∧ St C K H' E' w' c' a' ∧ Mv K H E w c H' E' w' c' ∧
      Den H' E' sv v ∧ (results fn a'.tmps).run P w' = .ok v w'
  | .stop g' td' c' => g' = g ∧ ∃ (a' : Act) (w' : World) (H' : Mem) (E' : Env) (items' : List Item), Steps P m (lone (b.at a' items') cs w') ∧ St C K H' E' w' c' a' ∧ Mv K H E w c H' E' w' c' ∧ ItOK (bodyOf fn) td' items'
theorem OutOK.of {fn : Func} {g : Nat} {c c1 : Core} {m m1 : Machine} {b : Frame} {cs : List Frame} {out : Out} (hs : Steps P m m1) (hm : Mv K H E w c H' E' w' c1) (h : OutOK P C K fn g H' E' w' c1 m1 b cs out) :
    OutOK P C K fn g H E w c m b cs out := by
  cases out with
  | done sv c' =>
    obtain ⟨a2, w2, H2, E2, v, todo, h1, h2, h3, h4, h5⟩ := h
    exact ⟨a2, w2, H2, E2, v, todo, hs.trans h1, h2, hm.trans h3, h4, h5⟩
  | stop g' td' c' =>
    obtain ⟨hg, a2, w2, H2, E2, items, h1, h2, h3, h4⟩ := h
    exact ⟨hg, a2, w2, H2, E2, items, hs.trans h1, h2, hm.trans h3, h4⟩
/-- What the machine does where a step says 'sig'. -/
def SigOK (P : Program) (C : Ctx) (K : Kx) (fn : Func) (H : Mem) (E : Env) (w : World) (c : Core) (m : Machine) (b : Frame) (cs : List Frame) : Sig → Prop
  | .done sv c' => ∃ (a' : Act) (w' : World) (H' : Mem) (E' : Env) (v : Value) (todo : List Item), Steps P m (lone { b.at a' todo with mode := .returning } cs w') ∧ St C K H' E' w' c' a' ∧ Mv K H E w c H' E' w' c' ∧
      Den H' E' sv v ∧ (results fn a'.tmps).run P w' = .ok v w'
  | .go td' c' => ∃ (a' : Act) (w' : World) (H' : Mem) (E' : Env) (items' : List Item), Steps P m (lone (b.at a' items') cs w') ∧ St C K H' E' w' c' a' ∧ Mv K H E w c H' E' w' c' ∧ ItOK (bodyOf fn) td' items'
  | .halt td' c' => ∃ (a' : Act) (w' : World) (H' : Mem) (E' : Env) (items' : List Item), Steps P m (lone (b.at a' items') cs w') ∧ St C K H' E' w' c' a' ∧ Mv K H E w c H' E' w' c' ∧ ItOK (bodyOf fn) td' items'
theorem St.scrub {c : Core} {a : Act} (st : St C K H E w c a) (g : Nat) : St C K H E w { c with tm := Go.Sx.scrub C g c.tm } a :=
  ⟨den_scrub st.den, st.hp, st.wok, st.free, st.gl, st.defers⟩
theorem stepR_ok (hC : CtxOK P C) (hF : FnsOK P C) {call : Nat → List SV → Core → Tree (SV × Core)} (hK : CallHyp P C K call) {top : Bool} {g : Nat} {fn : Func} {td : List It} {c : Core} {a : Act} {items : List Item} {φ : Sig → Prop}
    (h : (stepR C call top g fn td c).All φ) (st : St C K H E w c a) (hi : ItOK (bodyOf fn) td items) (b : Frame) (cs : List Frame) :
    ∃ sig, φ sig ∧ SigOK P C K fn H E w c (lone (b.at a items) cs w) b cs sig := by
  have mv0 : Mv K H E w c H E w c := mv_refl st rfl rfl rfl rfl
  have go : ∀ {td' : List It} {c' : Core} {H' : Mem} {E' : Env} {w' : World} {a' : Act} {items' : List Item}, φ (.go td' c') → St C K H' E' w' c' a' → Mv K H E w c H' E' w' c' → ItOK (bodyOf fn) td' items' →
      Steps P (lone (b.at a items) cs w) (lone (b.at a' items') cs w') → ∃ sig, φ sig ∧ SigOK P C K fn H E w c (lone (b.at a items) cs w) b cs sig := fun h1 h2 h3 h4 h5 => ⟨_, h1, _, _, _, _, _, h5, h2, h3, h4⟩
  have fin : ∀ (todo : List Item), ((result C fn c).bind toSig).All φ → step P (lone (b.at a items) cs w) = .next (lone { b.at a todo with mode := .returning } cs w) → ∃ sig, φ sig ∧ SigOK P C K fn H E w c (lone (b.at a items) cs w) b cs sig := fun todo hr hs => by
    obtain ⟨sv, v, h1, h2, h3⟩ := result_ok hC st (Tree.All_bind hr)
    exact ⟨_, h1, a, w, H, E, v, todo, .one hs, st, mv0, h2, h3⟩
  unfold stepR at h
  split at h
  · cases hi
    exact fin _ h step_end
  · cases hi with
    | inBlock id hk => exact go h st mv0 hk (.one step_inBlock)
  · exact h.elim
  · cases hi with
    | reg p l id ops hc hk => exact go h (st.scrub g) (mv_refl st rfl rfl rfl rfl) hk (.one step_region_end)
  · rename_i p i r k
    cases hi with
    | reg p l id ops hc hk =>
      rw [hc] at h
      simp only at h
      obtain ⟨a', w', h1, h2⟩ := one_op (opStep_ok hC hF hK st (Tree.All_bind h) (fun a' w' => ∃ c' H' E', φ (.go (.reg p r :: k) c') ∧ St C K H' E' w' c' a' ∧ Mv K H E w c H' E' w' c') (fun _ _ _ => False)
        fun c' a' H' E' w' e1 e2 e3 _ => ⟨c', H', E', e1, e2, e3⟩) b _ cs
      obtain ⟨c', H', E', e1, e2, e3⟩ := h1
      exact go e1 e2 e3 (.reg p r id ops hc hk) h2
  · rename_i p k
    have hloop : ∀ {x : Code}, codeAt (bodyOf fn) p = x → (∀ y, x ≠ .loop y) → ∃ k', items = .code x :: k' ∧ ItOK (bodyOf fn) k k' := fun {x} hx hne => by
      cases hi with
      | code p hk => exact ⟨_, by rw [hx], hk⟩
      | loop p y hl hk => exact (hne y (hx.symm.trans hl)).elim
    split at h
    · rename_i hx
      obtain ⟨k', rfl, hk⟩ := hloop hx (by simp)
      exact go h st mv0 hk (.one step_skip)
    · rename_i hx
      obtain ⟨k', rfl, hk⟩ := hloop hx (by simp)
      exact fin _ h step_ret
    · rename_i x y hx
      obtain ⟨k', rfl, hk⟩ := hloop hx (by simp)
      have h0 : codeAt (bodyOf fn) (0 :: p) = x := by simp [codeAt, hx, child]
      have h1 : codeAt (bodyOf fn) (1 :: p) = y := by simp [codeAt, hx, child]
      have := ItOK.code (0 :: p) (ItOK.code (1 :: p) hk)
      rw [h0, h1] at this
      exact go h st mv0 this (.one step_seq)
    · rename_i id x hx
      obtain ⟨k', rfl, hk⟩ := hloop hx (by simp)
      have h0 : codeAt (bodyOf fn) (0 :: p) = x := by simp [codeAt, hx, child]
      have := ItOK.code (0 :: p) (ItOK.inBlock id hk)
      rw [h0] at this
      exact go h st mv0 this (.one step_block)
    · rename_i x hx
      have h0 : codeAt (bodyOf fn) (0 :: p) = x := by simp [codeAt, hx, child]
      cases hst : C.stopLoop g p <;> simp only [hst, cond_true, cond_false] at h
      · cases hi with
        | code p hk =>
          have := ItOK.code (0 :: p) (ItOK.loop p x hx hk)
          rw [h0] at this
          rw [hx] at go ⊢
          exact go h st mv0 this (.one step_loop)
        | loop p y hl hk =>
          rw [hx] at hl; cases hl
          have := ItOK.code (0 :: p) (ItOK.loop p x hx hk)
          rw [h0] at this
          exact go h st mv0 this (.one step_inLoop)
      · exact ⟨_, h, a, w, H, E, items, .refl _ _, st, mv0, hi⟩
    · rename_i id hx
      obtain ⟨k', rfl, hk⟩ := hloop hx (by simp)
      split at h
      · rename_i k2 he
        obtain ⟨k3, h1, h2⟩ := exit_ok hk he
        exact go h st mv0 h2 (.one (step_exit h1))
      · exact h.elim
    · rename_i x y z hx
      obtain ⟨k', rfl, hk⟩ := hloop hx (by simp)
      have h0 := ItOK.code (0 :: p) hk
      have h1 := ItOK.code (1 :: p) hk
      have e0 : codeAt (bodyOf fn) (0 :: p) = y := by simp [codeAt, hx, child]
      have e1 : codeAt (bodyOf fn) (1 :: p) = z := by simp [codeAt, hx, child]
      rw [e0] at h0
      rw [e1] at h1
      have dx := den_ev (H := H) (E := E) st.den x
      split at h
      · rename_i hv
        rw [hv] at dx
        exact go h st mv0 h0 (.one (step_cond (t := true) dx))
      · rename_i hv
        rw [hv] at dx
        exact go h st mv0 h1 (.one (step_cond (t := false) dx))
      · rename_i t hv
        rw [hv] at dx
        have st' : ∀ v, t = v → St C K H E w (c.put (slotOf x) (.bool v)) a := fun v hv2 => by
          subst hv2
          cases x with
          | tmp d => exact st.know hv
          | const u => exact ⟨st.den, st.hp, st.wok, st.free, st.gl, st.defers⟩
          | global u => exact ⟨st.den, st.hp, st.wok, st.free, st.gl, st.defers⟩
          | func u => exact ⟨st.den, st.hp, st.wok, st.free, st.gl, st.defers⟩
        have mv' : ∀ v : Bool, Mv K H E w c H E w (c.put (slotOf x) (.bool v)) := fun v => mv_refl st rfl rfl rfl rfl
        cases t with
        | true => exact go (h.1 rfl) (st' true rfl) (mv' true) h0 (.one (step_cond (t := true) dx))
        | false => exact go (h.2 rfl) (st' false rfl) (mv' false) h1 (.one (step_cond (t := false) dx))
      · exact h.elim
    · rename_i id ops dr hx
      obtain ⟨k', rfl, hk⟩ := hloop hx (by simp)
      cases dr with
      | false =>
        simp only [cond_false] at h
        exact go h st mv0 (.reg p (List.range ops.size) id ops hx hk) (.one step_region)
      | true =>
        simp only [cond_true] at h
        have key : ∀ (f : Core → Tree Sig), ((drawn C call g ops c).bind f).All φ → ∃ c' a' H' E' w', (f c').All φ ∧ St C K H' E' w' c' a' ∧ Mv K H E w c H' E' w' c' ∧ Steps P (lone (b.at a (.code (.region id ops true) :: k')) cs w) (lone (b.at a' k') cs w') := fun f hf => by
          obtain ⟨e, a', w', ⟨he, c', H', E', h1, h2, h3⟩, harr⟩ := drawn_ok (id := id) hC hF hK st (Tree.All_bind hf) b k' cs
          subst he
          exact ⟨c', a', H', E', w', h1, h2, h3, harr⟩
        cases hl : (top && !(drawn C call g ops c).lone) <;> simp only [hl, cond_true, cond_false] at h
        · obtain ⟨c', a', H', E', w', h1, h2, h3, h4⟩ := key _ h
          exact go h1 h2 h3 hk h4
        · obtain ⟨c', a', H', E', w', h1, h2, h3, h4⟩ := key _ h
          exact ⟨_, h1, a', w', H', E', k', h4, h2, h3, hk⟩
    · exact h.elim

/-- What a run gives, with so much fuel. -/
def RunOK (P : Program) (C : Ctx) (K : Kx) (run : Bool → Nat → List It → Core → Tree Out) : Prop :=
  ∀ (top : Bool) (g : Nat) (td : List It) (c : Core) (H : Mem) (E : Env) (w : World) (a : Act) (fn : Func) (items : List Item) (φ : Out → Prop), C.fns.get g = some fn → (run top g td c).All φ → St C K H E w c a →
    ItOK (bodyOf fn) td items → ∀ (b : Frame) (cs : List Frame), ∃ out, φ out ∧ OutOK P C K fn g H E w c (lone (b.at a items) cs w) b cs out

theorem look_dropKey {p : Nat → Bool} : ∀ {l : List (Nat × SB)} {i : Nat}, look? (dropKey p l) i = bif p i then none else look? l i
  | [], i => by cases h : p i <;> simp [dropKey, look?]
  | (j, b) :: r, i => by
    have ih := look_dropKey (p := p) (l := r) (i := i)
    simp only [dropKey]
    cases hj : p j <;> simp only [cond_true, cond_false, look?]
    · cases hji : (j == i) <;> simp only [cond_true, cond_false]
      · exact ih
      · obtain rfl : j = i := by simpa using hji
        rw [hj]; rfl
    · cases hji : (j == i) <;> simp only [cond_true, cond_false]
      · exact ih
      · obtain rfl : j = i := by simpa using hji
        rw [ih, hj]; rfl
theorem Mv.gc {c c' : Core} (h : Mv K H E w c H' E' w' c') (hf : Free E c) {p : Nat → Bool} (hp : ∀ i, p i = true → c.nx ≤ i ∧ i < c.lim) : Mv K H E w c H' E' w' { c' with hp := dropKey p c'.hp } := by
  have hl : ∀ {i sb}, look? (dropKey p c'.hp) i = some sb → look? c'.hp i = some sb := fun {i sb} h => by
    rw [look_dropKey] at h
    cases hi : p i <;> simp only [hi, cond_true, cond_false] at h
    · exact h
    · cases h
  have hch := h.ch
  refine Ch.mv (c := c) (c' := { c' with hp := dropKey p c'.hp }) ⟨hch.Hle, hch.Ele, hch.new, ⟨fun id sb hq => hch.hp.ent _ _ (hl hq), fun id id' sb sb' b q1 q2 => hch.hp.dis _ _ _ _ _ (hl q1) (hl q2)⟩, hch.wok, hch.tc, hch.size, hch.fr, hch.newb, hch.tch, fun id sb b q1 q2 q3 => ?_, fun id sb q1 => hch.old id sb (hl q1)⟩ h.nx h.lim h.limE
  rcases hch.keep id sb b q1 q2 q3 with q | ⟨sb', q4, q5⟩
  · exact .inl q
  · refine .inr ⟨sb', ?_, q5⟩
    show look? (dropKey p c'.hp) id = some sb'
    rw [look_dropKey]
    cases hi : p id <;> simp only [cond_true, cond_false]
    · exact q4
    · have := hf id (hp id hi).1 (hp id hi).2
      have q6 := obk_bk q3
      simp [bk, this] at q6
theorem call_hyp (hC : CtxOK P C) (hF : FnsOK P C) {run : Bool → Nat → List It → Core → Tree Out} (hr : RunOK P C K run) : CallHyp P C K (callWith C (run false)) := by
  intro H E w c g args vargs φ hd hh hw hf hg h
  unfold callWith at h
  split at h
  · exact h.elim
  · rename_i fn hfn
    cases hb : (Nat.ble args.length fn.ntmps && fn.body.isSome) <;> simp only [hb, cond_true, cond_false] at h
    · exact h.elim
    simp only [Bool.and_eq_true] at hb
    obtain ⟨body, hbody⟩ := Option.isSome_iff_exists.1 hb.2
    have hP := hC.fn g fn hfn
    refine ⟨hF.en g (.inr (by rw [hfn]; rfl)), fun cs => ?_⟩
    let b : Frame := { (default : Frame) with fn := g, kind := .normal }
    let a : Act := { tmps := vargs.toArray ++ Array.replicate (fn.ntmps - vargs.toArray.size) undef, defers := [] }
    have henter : Frame.enter P g vargs.toArray .normal = b.at a [.code body] := by
      simp [Frame.enter, Frame.at, hP, hbody, b, a]
    have hlen := hd.length
    have st : St C K H E w { tm := args ++ List.replicate (fn.ntmps - args.length) .any, hp := c.hp, nx := c.nx, lim := c.lim, tc := c.tc } a := by
      refine ⟨?_, hh, hw, hf, hg, rfl⟩
      have : a.tmps.toList = vargs ++ List.replicate (fn.ntmps - args.length) undef := by simp [a, hlen]
      rw [this]
      exact hd.append (DenL.any _ _ (by simp))
    have hit : ItOK (bodyOf fn) [.code []] [.code body] := by
      have := ItOK.code (body := bodyOf fn) [] ItOK.nil
      have he : codeAt (bodyOf fn) [] = body := by simp [codeAt, bodyOf, hbody]
      rwa [he] at this
    obtain ⟨out, h1, h2⟩ := hr false g [.code []] _ H E w a fn [.code body] _ hfn (Tree.All_bind h) st hit b cs
    cases out with
    | stop _ _ _ => exact h1.elim
    | done sv c' =>
      obtain ⟨a', w', H', E', v, todo, q1, q2, q3, q4, q5⟩ := h2
      refine ⟨.returned v, w', _, ⟨_, v, H', E', rfl, h1, q4, ?_⟩, by rw [henter]; exact q1, rfl, rfl, q2.defers, rfl, fn, hP, q5⟩
      have q3' := q3.to (d := c) (d' := { c' with tm := c.tm }) rfl rfl rfl rfl rfl rfl rfl rfl
      have q6 := q3'.gc hf (p := fun i => Nat.ble c.nx i && Nat.blt i c.lim && !(reach c'.hp 4000 (refs sv ++ touchedRefs c'.hp c'.tc) []).contains i) (fun i hi => by simp only [Bool.and_eq_true] at hi; exact ⟨Nat.le_of_ble_eq_true hi.1.1, blt_spec hi.1.2⟩)
      exact q6
theorem run_zero : RunOK P C K (run C 0) := fun top g td c H E w a fn items φ _ h st hi b cs =>
  ⟨_, h, rfl, a, w, H, E, items, .refl _ _, st, mv_refl st rfl rfl rfl rfl, hi⟩
theorem run_succ (hC : CtxOK P C) (hF : FnsOK P C) {n : Nat} (ih : RunOK P C K (run C n)) : RunOK P C K (run C (n + 1)) := by
  intro top g td c H E w a fn items φ hfn h st hi b cs
  have hK := call_hyp hC hF ih
  unfold run at h
  rw [hfn] at h
  simp only at h
  obtain ⟨sig, h1, h2⟩ := stepR_ok hC hF hK (Tree.All_bind h) st hi b cs
  cases sig with
  | go td' c' =>
    obtain ⟨a', w', H', E', items', q1, q2, q3, q4⟩ := h2
    obtain ⟨out, q5, q6⟩ := ih top g _ _ _ _ _ _ fn _ φ hfn h1 q2 q4 b cs
    exact ⟨out, q5, q6.of q1 q3⟩
  | done sv c' => exact ⟨_, h1, h2⟩
  | halt td' c' => exact ⟨_, h1, rfl, h2⟩
theorem run_ok (hC : CtxOK P C) (hF : FnsOK P C) : ∀ n, RunOK P C K (run C n)
  | 0 => run_zero
  | n + 1 => run_succ hC hF (run_ok hC hF n)
end
end Go.Sx
namespace Go.Sx
/-! What a function hands out. -/
mutual
/-- The ids that lie in closures and interfaces. -/
def innerIds : SV → List Nat
  | .agg l => innerIdsL l
  | .tup l => innerIdsL l
  | .fn _ l => idsOfL l
  | .ifc _ x => idsOf x
  | .ptr id _ => [id]
  | _ => []
def innerIdsL : List SV → List Nat
  | [] => []
  | x :: r => innerIds x ++ innerIdsL r
end
/-- A slice of one's own, as so many elements. -/
def ownEls (hp : List (Nat × SB)) (id : Nat) : Option (Nat × Nat × Nat × (Nat → List Sh)) :=
  match look? hp id with
  | some (.own e st n g) => some (e, st, n, g)
  | some (.row cells e st n) => bif oneL cells then (toShL hp cells).map fun l => (e, st, n, nthL (chunks st n l)) else none
  | _ => none
mutual
/-- The ids of the slices that are handed out as the receiver's own. -/
def osIds (hp : List (Nat × SB)) : SV → List Nat
  | .agg l => osIdsL hp l
  | .tup l => osIdsL hp l
  | .gs id => match look? hp id with
    | some (.fz _ _ _) => []
    | _ => [id]
  | _ => []
def osIdsL (hp : List (Nat × SB)) : List SV → List Nat
  | [] => []
  | x :: r => osIds hp x ++ osIdsL hp r
end
mutual
def outSh (hp : List (Nat × SB)) : SV → Option Sh
  | .agg l => (outShL hp l).map .agg
  | .tup l => (outShL hp l).map .tup
  | .gs id => match look? hp id with
    | some (.fz st n g) => some (.sl st n g)
    | _ => (ownEls hp id).map fun r => .os r.1 r.2.1 r.2.2.1 r.2.2.2
  | x => toSh hp x
def outShL (hp : List (Nat × SB)) : List SV → Option (List Sh)
  | [] => some []
  | x :: r => match outSh hp x, outShL hp r with
    | some s, some l => some (s :: l)
    | _, _ => none
end
def noDup : List Nat → Bool
  | [] => true
  | x :: l => !l.contains x && noDup l
/-- The shape of a result, own slices as such. -/
def rowIn (hp : List (Nat × SB)) : List Nat → List Nat
  | [] => []
  | id :: r => (match look? hp id with
    | some (.row cells _ _ _) => idsOfL cells
    | _ => []) ++ rowIn hp r
def finish (c : Core) (v : SV) : Option Sh :=
  match freeze c.hp (innerIds v ++ rowIn c.hp (osIds c.hp v)) with
  | some hp => bif noDup (osIds hp v) then outSh hp v else none
  | none => none

section
variable {P : Program} {C : Ctx} {K : Kx} {H H' H'' : Mem} {E E' E'' E1 : Env} {w w' w'' : World}

theorem noDup_inj : ∀ {l : List Nat} {i j x : Nat}, noDup l = true → l[i]? = some x → l[j]? = some x → i = j
  | [], _, _, _, _, h, _ => by simp at h
  | y :: l, 0, 0, _, _, _, _ => rfl
  | y :: l, 0, j + 1, x, h, h1, h2 => by
    simp only [noDup, Bool.and_eq_true, Bool.not_eq_true'] at h
    simp at h1 h2
    subst h1
    have := List.mem_of_getElem? h2
    simp [this] at h
  | y :: l, i + 1, 0, x, h, h1, h2 => by
    simp only [noDup, Bool.and_eq_true, Bool.not_eq_true'] at h
    simp at h1 h2
    subst h2
    have := List.mem_of_getElem? h1
    simp [this] at h
  | y :: l, i + 1, j + 1, x, h, h1, h2 => by
    simp only [noDup, Bool.and_eq_true] at h
    have e := noDup_inj (l := l) (i := i) (j := j) (x := x) h.2 (by simpa using h1) (by simpa using h2)
    rw [e]
theorem ownEls_ok {hp : List (Nat × SB)} {id : Nat} {r : Nat × Nat × Nat × (Nat → List Sh)} (hh : HeapOK K H E w hp) (h : ownEls hp id = some r) :
    Ent K H E w id (.own r.1 r.2.1 r.2.2.1 r.2.2.2) ∧ ∃ sb, look? hp id = some sb ∧ ∀ b, bk E id = some b → obk E id sb = some b := by
  unfold ownEls at h
  split at h
  · rename_i e st n g hl
    cases h
    exact ⟨hh.ent _ _ hl, _, hl, fun b hb => hb⟩
  · rename_i cells e st n hl
    cases ho : oneL cells <;> simp only [ho, cond_true, cond_false] at h
    · cases h
    simp only [Option.map_eq_some_iff] at h
    obtain ⟨l, h1, rfl⟩ := h
    obtain ⟨v, xs, e1, e2, e3, e4⟩ := hh.ent _ _ hl
    exact ⟨⟨v, xs, e1, e2, rows_chunks e2.1 (toShL_rep hh h1 e3) (one_cells ho e3), e4⟩, _, hl, fun b hb => hb⟩
  · cases h
/-- What is said of the k-th slice that is handed out. -/
def OsAt (K : Kx) (H : Mem) (E : Env) (w : World) (hp : List (Nat × SB)) (id : Nat) (x : SB) : Prop :=
  Ent K H E w id x ∧ (∃ e st n g, x = .own e st n g) ∧ ∃ sb, look? hp id = some sb ∧ ∀ b, bk E id = some b → obk E id sb = some b
mutual
theorem ofSh_den : ∀ {s : Sh} {u : Value} (b0 : Nat), Rep H s u → Den H E1 (ofSh s b0).1 u ∧ (ofSh s b0).2.2 = b0 ∧ (ofSh s b0).2.1 = []
  | .i k n, _, b0, h => by cases h; exact ⟨rfl, rfl, rfl⟩
  | .b y, _, b0, h => by cases h; exact ⟨rfl, rfl, rfl⟩
  | .v y, _, b0, h => by cases h with | v _ h1 => exact ⟨den_lit h1, rfl, rfl⟩
  | .str l, _, b0, h => ⟨h, rfl, rfl⟩
  | .sl _ _ _, _, b0, h => ⟨h, rfl, rfl⟩
  | .ifc _ _, _, b0, h => ⟨h, rfl, rfl⟩
  | .fn _ _, _, b0, h => ⟨argSV_den h, rfl, rfl⟩
  | .er _ _, _, b0, h => ⟨h, rfl, rfl⟩
  | .pt _, _, b0, h => ⟨argSV_den h, rfl, rfl⟩
  | .os _ _ _ _, _, b0, h => by cases h
  | .agg l, u, b0, h => by
    cases h with
    | agg _ vs h1 h2 =>
      have := ofShL_den (l := l) (vs := vs.toList) b0 (RepL.of_at (by simpa using h1) fun j s v e1 e2 => h2 j s v e1 (by simpa using e2))
      exact ⟨⟨vs, rfl, this.1⟩, this.2.1, this.2.2⟩
  | .tup l, u, b0, h => by
    cases h with
    | tup _ vs h1 h2 =>
      have := ofShL_den (l := l) (vs := vs.toList) b0 (RepL.of_at (by simpa using h1) fun j s v e1 e2 => h2 j s v e1 (by simpa using e2))
      exact ⟨⟨vs, rfl, this.1⟩, this.2.1, this.2.2⟩
theorem ofShL_den : ∀ {l : List Sh} {vs : List Value} (b0 : Nat), RepL H l vs → DenL H E1 (ofShL l b0).1 vs ∧ (ofShL l b0).2.2 = b0 ∧ (ofShL l b0).2.1 = []
  | [], [], b0, _ => ⟨trivial, rfl, rfl⟩
  | s :: l, v :: vs, b0, ⟨h1, h2⟩ => by
    have a := ofSh_den b0 h1
    have b := ofShL_den b0 h2
    simp only [ofShL, a.2.1, a.2.2, List.nil_append]
    exact ⟨⟨a.1, b.1⟩, b.2⟩
  | [], _ :: _, _, h => h.elim
  | _ :: _, [], _, h => h.elim
end
/-- E1 knows the ids that are handed out under numbers from b0 on. -/
def Knows (E E1 : Env) (b0 : Nat) (ids : List Nat) : Prop := ∀ k id, ids[k]? = some id → E1 (b0 + k) = E id
theorem Knows.left {b0 : Nat} {l l' : List Nat} (h : Knows E E1 b0 (l ++ l')) : Knows E E1 b0 l := fun k id hk => h k id (by
  rw [List.getElem?_append_left (List.getElem?_eq_some_iff.1 hk).1]; exact hk)
theorem Knows.right {b0 : Nat} {l l' : List Nat} (h : Knows E E1 b0 (l ++ l')) : Knows E E1 (b0 + l.length) l' := fun k id hk => by
  rw [Nat.add_assoc]
  exact h (l.length + k) id (by rw [List.getElem?_append_right (Nat.le_add_right _ _)]; simpa using hk)
/-- What is handed out, anew. -/
structure OutOf (K : Kx) (H : Mem) (E E1 : Env) (w : World) (hp : List (Nat × SB)) (ids : List Nat) (b0 n : Nat) (l : List (Nat × SB)) : Prop where
  len : n = b0 + ids.length
  mem : ∀ i x, (i, x) ∈ l → ∃ k id, i = b0 + k ∧ ids[k]? = some id ∧ OsAt K H E w hp id x
  cov : ∀ id ∈ ids, ∃ sb, look? hp id = some sb ∧ ∀ b, bk E id = some b → obk E id sb = some b
theorem OutOf.nil {hp : List (Nat × SB)} {b0 : Nat} : OutOf K H E E1 w hp [] b0 b0 [] := ⟨rfl, fun _ _ h => (by cases h), fun _ h => (by cases h)⟩
theorem OutOf.app {hp : List (Nat × SB)} {b0 n m : Nat} {i1 i2 : List Nat} {l1 l2 : List (Nat × SB)} (h1 : OutOf K H E E1 w hp i1 b0 n l1) (h2 : OutOf K H E E1 w hp i2 n m l2) : OutOf K H E E1 w hp (i1 ++ i2) b0 m (l1 ++ l2) := by
  refine ⟨by rw [h2.len, h1.len, List.length_append]; omega, fun i x hx => ?_, fun id hid => (List.mem_append.1 hid).elim (h1.cov id) (h2.cov id)⟩
  rcases List.mem_append.1 hx with hx | hx
  · obtain ⟨k, id, e1, e2, e3⟩ := h1.mem i x hx
    exact ⟨k, id, e1, by rw [List.getElem?_append_left (List.getElem?_eq_some_iff.1 e2).1]; exact e2, e3⟩
  · obtain ⟨k, id, e1, e2, e3⟩ := h2.mem i x hx
    exact ⟨i1.length + k, id, by rw [e1, h1.len]; omega, by rw [List.getElem?_append_right (Nat.le_add_right _ _)]; simpa using e2, e3⟩
mutual
theorem outSh_ok {hp : List (Nat × SB)} (hh : HeapOK K H E w hp) : ∀ {x : SV} {s : Sh} {u : Value} (b0 : Nat), outSh hp x = some s → Den H E x u → Knows E E1 b0 (osIds hp x) →
    Den H E1 (ofSh s b0).1 u ∧ OutOf K H E E1 w hp (osIds hp x) b0 (ofSh s b0).2.2 (ofSh s b0).2.1
  | .agg l, s, u, b0, h, hd, hk => by
    simp only [outSh, Option.map_eq_some_iff] at h
    obtain ⟨l', h1, rfl⟩ := h
    obtain ⟨vs, rfl, hl⟩ := hd
    have := outShL_ok hh b0 h1 hl (by simpa [osIds] using hk)
    exact ⟨⟨vs, rfl, this.1⟩, by simpa [osIds, ofSh] using this.2⟩
  | .tup l, s, u, b0, h, hd, hk => by
    simp only [outSh, Option.map_eq_some_iff] at h
    obtain ⟨l', h1, rfl⟩ := h
    obtain ⟨vs, rfl, hl⟩ := hd
    have := outShL_ok hh b0 h1 hl (by simpa [osIds] using hk)
    exact ⟨⟨vs, rfl, this.1⟩, by simpa [osIds, ofSh] using this.2⟩
  | .gs id, s, u, b0, h, hd, hk => by
    simp only [outSh] at h
    split at h
    · rename_i st n g hl
      cases h
      obtain ⟨v, he, hr⟩ := hh.ent _ _ hl
      rw [hd.1] at he; cases he
      have hi : osIds hp (.gs id) = [] := by simp [osIds, hl]
      rw [hi]
      have := ofSh_den (E1 := E1) b0 hr
      exact ⟨this.1, by rw [this.2.1, this.2.2]; exact OutOf.nil⟩
    · rename_i hne
      simp only [Option.map_eq_some_iff] at h
      obtain ⟨r, h1, rfl⟩ := h
      have hi : osIds hp (.gs id) = [id] := by
        simp only [osIds]
      rw [hi] at hk ⊢
      have hE1 : E1 b0 = E id := by simpa using hk 0 id rfl
      obtain ⟨a1, a2⟩ := ownEls_ok hh h1
      refine ⟨⟨by rw [hE1]; exact hd.1, hd.2⟩, ⟨by simp [ofSh], fun i x hx => ?_, fun i hi => ?_⟩⟩
      rotate_left
      · simp at hi; subst hi; exact a2
      simp [ofSh] at hx
      obtain ⟨rfl, rfl⟩ := hx
      exact ⟨0, id, rfl, rfl, a1, ⟨_, _, _, _, rfl⟩, a2⟩
  | .any, s, u, b0, h, hd, hk => by simp [outSh, toSh] at h
  | .val _, s, u, b0, h, hd, hk => outSh_imm hh b0 h (by rfl) (by rfl) hd
  | .int _ _, s, u, b0, h, hd, hk => outSh_imm hh b0 h (by rfl) (by rfl) hd
  | .sym _ _, s, u, b0, h, hd, hk => outSh_imm hh b0 h (by rfl) (by rfl) hd
  | .bool _, s, u, b0, h, hd, hk => outSh_imm hh b0 h (by rfl) (by rfl) hd
  | .test _, s, u, b0, h, hd, hk => outSh_imm hh b0 h (by rfl) (by rfl) hd
  | .str _, s, u, b0, h, hd, hk => outSh_imm hh b0 h (by rfl) (by rfl) hd
  | .ptr _ _, s, u, b0, h, hd, hk => outSh_imm hh b0 h (by rfl) (by rfl) hd
  | .gp _ _ _ _, s, u, b0, h, hd, hk => by simp [outSh, toSh] at h
  | .nilp, s, u, b0, h, hd, hk => outSh_imm hh b0 h (by rfl) (by rfl) hd
  | .nils, s, u, b0, h, hd, hk => outSh_imm hh b0 h (by rfl) (by rfl) hd
  | .nilf, s, u, b0, h, hd, hk => outSh_imm hh b0 h (by rfl) (by rfl) hd
  | .nili, s, u, b0, h, hd, hk => outSh_imm hh b0 h (by rfl) (by rfl) hd
  | .nilm, s, u, b0, h, hd, hk => by simp [outSh, toSh] at h
  | .fn _ _, s, u, b0, h, hd, hk => outSh_imm hh b0 h (by rfl) (by rfl) hd
  | .ifc _ _, s, u, b0, h, hd, hk => outSh_imm hh b0 h (by rfl) (by rfl) hd
  | .mp _, s, u, b0, h, hd, hk => by simp [outSh, toSh] at h
  | .sh _, s, u, b0, h, hd, hk => outSh_imm hh b0 h (by rfl) (by rfl) hd
  | .shp _ _ _ _ _, s, u, b0, h, hd, hk => outSh_imm hh b0 h (by rfl) (by rfl) hd
  | .ev _, s, u, b0, h, hd, hk => by simp [outSh, toSh] at h
  | .vw _ _, s, u, b0, h, hd, hk => by simp [outSh, toSh] at h
  | .glob _, s, u, b0, h, hd, hk => by simp [outSh, toSh] at h
theorem outShL_ok {hp : List (Nat × SB)} (hh : HeapOK K H E w hp) : ∀ {l : List SV} {l' : List Sh} {vs : List Value} (b0 : Nat), outShL hp l = some l' → DenL H E l vs → Knows E E1 b0 (osIdsL hp l) →
    DenL H E1 (ofShL l' b0).1 vs ∧ OutOf K H E E1 w hp (osIdsL hp l) b0 (ofShL l' b0).2.2 (ofShL l' b0).2.1
  | [], l', [], b0, h, _, _ => by simp [outShL] at h; subst h; exact ⟨trivial, OutOf.nil⟩
  | x :: l, l', v :: vs, b0, h, ⟨h1, h2⟩, hk => by
    simp only [outShL] at h
    split at h
    · rename_i s r e1 e2
      cases h
      have a := outSh_ok hh b0 e1 h1 hk.left
      have hk2 := hk.right
      rw [← a.2.len] at hk2
      have b := outShL_ok hh _ e2 h2 hk2
      simp only [ofShL]
      exact ⟨⟨a.1, b.1⟩, a.2.app b.2⟩
    · cases h
  | [], _, _ :: _, _, _, h, _ => h.elim
  | _ :: _, _, [], _, _, h, _ => h.elim
theorem outSh_imm {hp : List (Nat × SB)} (hh : HeapOK K H E w hp) {x : SV} {s : Sh} {u : Value} (b0 : Nat) (h : outSh hp x = some s) (hx : outSh hp x = toSh hp x) (hi : osIds hp x = []) (hd : Den H E x u) :
    Den H E1 (ofSh s b0).1 u ∧ OutOf K H E E1 w hp (osIds hp x) b0 (ofSh s b0).2.2 (ofSh s b0).2.1 := by
  rw [hx] at h
  have := ofSh_den (E1 := E1) b0 (toSh_rep hh h hd)
  rw [hi]
  exact ⟨this.1, by rw [this.2.1, this.2.2]; exact OutOf.nil⟩
end
theorem look_mem : ∀ {l hp : List (Nat × SB)} {i : Nat} {x : SB}, look? (insAll hp l) i = some x → (i, x) ∈ l ∨ look? hp i = some x
  | [], _, _, _, h => .inr h
  | (j, b) :: l, hp, i, x, h => by
    rcases look_mem (l := l) h with h | h
    · exact .inl (List.mem_cons_of_mem _ h)
    · rw [look_hins] at h
      cases hj : (j == i) <;> simp only [hj, cond_true, cond_false] at h
      · exact .inr h
      · cases h
        obtain rfl : j = i := by simpa using hj
        exact .inl (List.mem_cons_self ..)
/-- The start of a call. -/
def K0 (H : Mem) (w : World) : Kx := ⟨w, fun _ => False, H⟩
/-- What is handed out is what the receiver may have. -/
theorem finish_ok {c : Core} {a : Act} {H0 : Mem} {w0 : World} {sv : SV} {s : Sh} {u : Value} (st : St C (K0 H0 w0) H E w c a) (hf : finish c sv = some s) (hd : Den H E sv u) : ∃ H', SpecRes H0 w0 s u H' w := by
  unfold finish at hf
  split at hf
  · rename_i hp hfz
    obtain ⟨H1, hH, hh, hw, _⟩ := freeze_ok hfz st.hp st.wok
    cases hn : noDup (osIds hp sv) <;> simp only [hn, cond_true, cond_false] at hf
    · cases hf
    refine ⟨H1, hw.le, hw.on, hw.os, hw.tape, hw.output, hw.size, fun b hb => hw.kept b hb id, fun b hb => ?_, fun b0 => ?_⟩
    · rcases hw.fresh b hb with h | h | h
      · exact .inl h
      · exact .inr h
      · exact h.elim
    · let ids := osIds hp sv
      let E1 : Env := fun i => if b0 ≤ i then (ids[i - b0]?).bind E else none
      have hk : Knows E E1 b0 ids := fun k id hk => by
        simp only [E1, Nat.le_add_right, if_true, Nat.add_sub_cancel_left, hk, Option.bind_some]
      obtain ⟨a1, a2⟩ := outSh_ok (E1 := E1) hh b0 hf (hd.le hH fun _ _ e => e) hk
      have hid : ∀ i v, E1 i = some v → ∃ k id, i = b0 + k ∧ ids[k]? = some id ∧ E id = some v := fun i v hv => by
        simp only [E1] at hv
        split at hv
        · cases hx : ids[i - b0]? with
          | none => simp [hx] at hv
          | some id => exact ⟨i - b0, id, by omega, hx, by simpa [hx] using hv⟩
        · cases hv
      have hat : ∀ i x, look? (insAll [] (ofSh s b0).2.1) i = some x → ∃ k id, i = b0 + k ∧ ids[k]? = some id ∧ OsAt (K0 H0 w0) H1 E w hp id x := fun i x hl => by
        rcases look_mem hl with h | h
        · exact a2.mem i x h
        · simp [look?] at h
      have hbk : ∀ {k id : Nat}, ids[k]? = some id → bk E1 (b0 + k) = bk E id := fun {k id} h => by simp [bk, hk k id h]
      refine ⟨E1, fun i hi => ?_, fun i b hb => ?_, a1, ⟨fun i x hl => ?_, fun i j x y b h1 h2 o1 o2 => ?_⟩⟩
      · cases hv : E1 i with
        | none => exact (hi hv).elim
        | some v =>
          obtain ⟨k, id, rfl, h2, _⟩ := hid i v hv
          have : k < (osIds hp sv).length := (List.getElem?_eq_some_iff.1 h2).1
          rw [a2.len]
          exact ⟨Nat.le_add_right _ _, by omega⟩
      · cases hv : E1 i with
        | none => simp [bk, hv] at hb
        | some v =>
          obtain ⟨k, id, rfl, h2, h3⟩ := hid i v hv
          rw [hbk h2] at hb
          have hown : ∃ sb, look? hp id = some sb ∧ obk E id sb = some b := by
            obtain ⟨sb, q1, q2⟩ := a2.cov id (List.mem_of_getElem? h2)
            exact ⟨sb, q1, q2 b hb⟩
          obtain ⟨sb, h4, h5⟩ := hown
          have := ((hh.ent _ _ h4).lt h5).2.2
          rcases this with h | h
          · exact h
          · exact h.elim
      · obtain ⟨k, id, rfl, h2, h3, ⟨e, st', n, g, rfl⟩, _⟩ := hat i x hl
        obtain ⟨v, xs, e1, e2, e3, e4⟩ := h3
        exact ⟨v, xs, by rw [hk k id h2]; exact e1, e2, e3, e4⟩
      · obtain ⟨k, id, rfl, p1, _, ⟨_, _, _, _, rfl⟩, sb1, p3, p4⟩ := hat i x h1
        obtain ⟨k', id', rfl, q1, _, ⟨_, _, _, _, rfl⟩, sb2, q3, q4⟩ := hat j y h2
        have o1' : bk E id = some b := by rw [← hbk p1]; exact o1
        have o2' : bk E id' = some b := by rw [← hbk q1]; exact o2
        have := hh.dis _ _ _ _ _ p3 q3 (p4 b o1') (q4 b o2')
        subst this
        rw [noDup_inj hn p1 q1]
  · cases hf
end
end Go.Sx
namespace Go.Sx
inductive Fin where
  | ret (s : Sh)
  | stop (td : List It) (c : Core)
def fin : Out → Tree Fin
  | .done sv c => match finish c sv with
    | some s => .leaf (.ret s)
    | none => .fail
  | .stop _ td c => .leaf (.stop td c)
/-- The run, up to its results and stops. -/
def runF (C : Ctx) (n g : Nat) (td : List It) (c : Core) : Tree Fin := (run C n true g td c).bind fin
def start0 (m : Nat) (shs : List Sh) (L : Nat) : Core := { tm := argL shs ++ List.replicate (m - shs.length) .any, hp := [], nx := 0, lim := L, tc := [] }
section
variable {P : Program} {C : Ctx} {K : Kx} {H H' H'' H0 : Mem} {E E' E'' E1 : Env} {w w' w'' w0 : World}

/-- From here on the function returns something that meets φ. -/
def Goes (P : Program) (C : Ctx) (K : Kx) (fn : Func) (td : List It) (c : Core) (φ : Sh → Prop) : Prop :=
  ∀ (H : Mem) (E : Env) (w : World) (a : Act) (items : List Item) (b : Frame) (cs : List Frame), St C K H E w c a → ItOK (bodyOf fn) td items →
    ∃ (a' : Act) (w' : World) (v : Value) (s : Sh) (H' : Mem) (todo : List Item), Steps P (lone (b.at a items) cs w) (lone { b.at a' todo with mode := .returning } cs w') ∧ a'.defers = [] ∧ φ s ∧ SpecRes K.H0 K.w0 s v H' w' ∧ (results fn a'.tmps).run P w' = .ok v w'
def FinOK (P : Program) (C : Ctx) (K : Kx) (fn : Func) (φ : Sh → Prop) : Fin → Prop
  | .ret s => φ s
  | .stop td c => Goes P C K fn td c φ
theorem goes_run (hC : CtxOK P C) (hF : FnsOK P C) {n g : Nat} {fn : Func} {td : List It} {c : Core} {φ : Sh → Prop} (hfn : C.fns.get g = some fn) (h : (runF C n g td c).All (FinOK P C (K0 H0 w0) fn φ)) :
    Goes P C (K0 H0 w0) fn td c φ := by
  intro H E w a items b cs st hi
  obtain ⟨out, h1, h2⟩ := run_ok hC hF n true g td c H E w a fn items _ hfn (Tree.All_bind h) st hi b cs
  cases out with
  | done sv c' =>
    obtain ⟨a', w', H', E', v, todo, q1, q2, q3, q4, q5⟩ := h2
    simp only [fin] at h1
    split at h1
    · rename_i s hs
      obtain ⟨H2, r⟩ := finish_ok q2 hs q4
      exact ⟨a', w', v, s, H2, todo, q1, q2.defers, h1, r, q5⟩
    · exact h1.elim
  | stop g' td' c' =>
    obtain ⟨rfl, a', w', H', E', items', q1, q2, q3, q4⟩ := h2
    obtain ⟨a2, w2, v, s, H2, todo, r1, r2⟩ := h1 H' E' w' a' items' b cs q2 q4
    exact ⟨a2, w2, v, s, H2, todo, q1.trans r1, r2⟩
theorem goes_loop {fn : Func} {p : List Nat} {k : List It} {x : Code} {c : Core} {φ : Sh → Prop} (hx : codeAt (bodyOf fn) p = .loop x) (h : Goes P C K fn (.code (0 :: p) :: .code p :: k) c φ) : Goes P C K fn (.code p :: k) c φ := by
  intro H E w a items b cs st hi
  have h0 : codeAt (bodyOf fn) (0 :: p) = x := by simp [codeAt, hx, child]
  cases hi with
  | code p hk =>
    have := ItOK.code (0 :: p) (ItOK.loop p x hx hk)
    rw [h0] at this
    rw [hx]
    obtain ⟨a2, w2, v, s, H2, todo, r1, r2⟩ := h H E w a _ b cs st this
    exact ⟨a2, w2, v, s, H2, todo, .head step_loop r1, r2⟩
  | loop p y hl hk =>
    rw [hx] at hl; cases hl
    have := ItOK.code (0 :: p) (ItOK.loop p x hx hk)
    rw [h0] at this
    obtain ⟨a2, w2, v, s, H2, todo, r1, r2⟩ := h H E w a _ b cs st this
    exact ⟨a2, w2, v, s, H2, todo, .head step_inLoop r1, r2⟩
theorem Goes.mono {fn : Func} {td : List It} {c : Core} {φ ψ : Sh → Prop} (h : Goes P C K fn td c φ) (hp : ∀ s, φ s → ψ s) : Goes P C K fn td c ψ :=
  fun H E w a items b cs st hi => let ⟨a2, w2, v, s, H2, todo, r1, r2, r3, r4⟩ := h H E w a items b cs st hi; ⟨a2, w2, v, s, H2, todo, r1, r2, hp s r3, r4⟩

theorem argL_length : ∀ l : List Sh, (argL l).length = l.length
  | [] => rfl
  | _ :: r => by simp [argL, argL_length r]
/-- A function's summary, from its run. -/
theorem fnOK_of (hC : CtxOK P C) {g : Nat} {fn : Func} {F : List Sh → Tree Sh} (hfn : C.fns.get g = some fn) (hb : fn.body.isSome = true)
    (h : ∀ (H : Mem) (w : World) (shs : List Sh) (args : List Value) (φ : Sh → Prop), RepL H shs args → (F shs).All φ → ∃ shs' : List Sh, RepL H shs' args ∧ ∃ L, Goes P C (K0 H w) fn [.code []] (start0 fn.ntmps shs' L) φ) : FnOK P C.gls g F := by
  intro H w shs args φ hon hg hr hφ
  obtain ⟨shs', hr, L, hgo⟩ := h H w shs args φ hr hφ
  obtain ⟨body, hbody⟩ := Option.isSome_iff_exists.1 hb
  have hP := hC.fn g fn hfn
  intro cs
  let b : Frame := { (default : Frame) with fn := g, kind := .normal }
  let a : Act := { tmps := args.toArray ++ Array.replicate (fn.ntmps - args.toArray.size) undef, defers := [] }
  have henter : Frame.enter P g args.toArray .normal = b.at a [.code body] := by
    simp [Frame.enter, Frame.at, hP, hbody, b, a]
  have hlen := hr.length
  have st : St C (K0 H w) H E0 w (start0 fn.ntmps shs' L) a := by
    refine ⟨?_, ⟨fun _ _ h => by simp [start0, look?] at h, fun _ _ _ _ _ h => by simp [start0, look?] at h⟩, ⟨rfl, rfl, rfl, Nat.le_refl _, fun _ _ _ => rfl, hon, fun _ _ h => h, fun _ h => .inl h⟩, fun _ _ _ => rfl, hg, rfl⟩
    have : a.tmps.toList = args ++ List.replicate (fn.ntmps - shs'.length) undef := by simp [a, hlen]
    rw [this]
    exact (argL_den hr).append (DenL.any _ _ (by simp))
  have hit : ItOK (bodyOf fn) [.code []] [.code body] := by
    have := ItOK.code (body := bodyOf fn) [] ItOK.nil
    have he : codeAt (bodyOf fn) [] = body := by simp [codeAt, bodyOf, hbody]
    rwa [he] at this
  obtain ⟨a', w', v, s, H', todo, q1, q2, q3, q4, q5⟩ := hgo H E0 w a [.code body] b cs st hit
  exact ⟨.returned v, w', _, ⟨v, s, H', rfl, q3, q4⟩, by rw [henter]; exact q1, rfl, rfl, q2, rfl, fn, hP, q5⟩
/-- A function without loops. -/
theorem fnOK_run (hC : CtxOK P C) (hF : FnsOK P C) {g n L : Nat} {fn : Func} {F : List Sh → Tree Sh} (hfn : C.fns.get g = some fn) (hb : fn.body.isSome = true)
    (h : ∀ (H : Mem) (w : World) (shs : List Sh) (args : List Value) (φ : Sh → Prop), RepL H shs args → (F shs).All φ → ∃ shs' : List Sh, RepL H shs' args ∧ (runF C n g [.code []] (start0 fn.ntmps shs' L)).All (FinOK P C (K0 H w) fn φ)) : FnOK P C.gls g F :=
  fnOK_of hC hfn hb fun H w shs args φ h1 h2 => let ⟨shs', h3, h4⟩ := h H w shs args φ h1 h2; ⟨shs', h3, L, goes_run hC hF hfn h4⟩
theorem FnOK.mono {gls : List (Nat × Sh)} {f : Nat} {F F' : List Sh → Tree Sh} (h : FnOK P gls f F') (hp : ∀ (H : Mem) (shs : List Sh) (args : List Value) (φ : Sh → Prop), RepL H shs args → (F shs).All φ → (F' shs).All φ) : FnOK P gls f F :=
  fun H w shs args φ h1 h2 h3 h4 => h H w shs args φ h1 h2 h3 (hp H shs args φ h3 h4)
end

/-! A state that says less. -/
inductive Rn where
  | id (i : Nat)
  | nil
mutual
/-- What the right one says holds where the left one does. -/
def leS (hp : List (Nat × SB)) (ρ : List (Nat × Rn)) : SV → SV → Prop
  | _, .any => True
  | x, .sym k m => match x with
    | .int k' n => k' = k ∧ n = m
    | .sym k' n => k' = k ∧ n = m
    | _ => False
  | x, .test b => match x with
    | .bool b' => b' = b
    | .test b' => b' = b
    | _ => False
  | x, .gs id' => match x with
    | .gs id => look? ρ id' = some (.id id)
    | .nils => look? ρ id' = some .nil
    | _ => False
  | x, .ptr id' off' => match x with
    | .ptr id off => look? ρ id' = some (.id id) ∧ off = off'
    | _ => False
  | x, .mp id' => match x with
    | .mp id => look? ρ id' = some (.id id)
    | _ => False
  | x, .fn f' l' => match x with
    | .fn f l => f = f' ∧ leL hp ρ l l'
    | _ => False
  | x, .agg l' => match x with
    | .agg l => leL hp ρ l l'
    | _ => False
  | x, .tup l' => match x with
    | .tup l => leL hp ρ l l'
    | _ => False
  | x, .ifc t' y => match x with
    | .ifc t z => t = t' ∧ leS hp ρ z y
    | _ => False
  | x, .sh s => toSh hp x = some s ∨ (match x, s with | .nils, .sl _ n _ => n = 0 | _, _ => False)
  | x, .shp st' n' g' i' off' => match x with
    | .shp st n g i off => st = st' ∧ n = n' ∧ g = g' ∧ i = i' ∧ off = off'
    | x => toSh hp x = some (.pt (g' i')) ∧ off' = 0 ∧ (g' i').length = st' ∧ i' < n'
  | x, .int k' n' => match x with
    | .int k n => k = k' ∧ n = n'
    | .sym k n => k = k' ∧ n = n'
    | _ => False
  | x, .bool b' => match x with
    | .bool b => b = b'
    | .test b => b = b'
    | _ => False
  | .nilp, .nilp => True
  | .nils, .nils => True
  | .nilf, .nilf => True
  | .nili, .nili => True
  | .nilm, .nilm => True
  | .glob g, .glob g' => g = g'
  | .str l, .str l' => l = l'
  | .val v, .val v' => v = v'
  | _, _ => False
def leL (hp : List (Nat × SB)) (ρ : List (Nat × Rn)) : List SV → List SV → Prop
  | [], [] => True
  | x :: l, y :: l' => leS hp ρ x y ∧ leL hp ρ l l'
  | _, _ => False
end
def leM (hp : List (Nat × SB)) (ρ : List (Nat × Rn)) : List (SV × SV) → List (SV × SV) → Prop
  | [], [] => True
  | (a, b) :: l, (a', b') :: l' => leS hp ρ a a' ∧ leS hp ρ b b' ∧ leM hp ρ l l'
  | _, _ => False
/-- The same of an entry. -/
def leB (hp : List (Nat × SB)) (ρ : List (Nat × Rn)) (id' : Nat) : SB → Prop
  | .box cells' e' => match look? ρ id' with
    | some (.id id) => match look? hp id with
      | some (.box cells e) => e = e' ∧ leL hp ρ cells cells'
      | _ => False
    | _ => False
  | .row cells' e' st' n' => match look? ρ id' with
    | some (.id id) => match look? hp id with
      | some (.row cells e st n) => e = e' ∧ st = st' ∧ n = n' ∧ leL hp ρ cells cells'
      | _ => False
    | _ => False
  | .own e' st' n' g' => match look? ρ id' with
    | some (.id id) => match ownEls hp id with
      | some (e, st, n, g) => e = e' ∧ st = st' ∧ n = n' ∧ ∀ i, i < n → g i = g' i
      | _ => False
    | some .nil => n' = 0
    | none => False
  | .map es' => match look? ρ id' with
    | some (.id id) => match look? hp id with
      | some (.map es) => leM hp ρ es es'
      | _ => False
    | _ => False
  | .fz _ _ _ => False
  | .fzb _ => False
  | .ownx _ _ _ _ _ => False
  | .fm _ _ _ _ _ => False
def leH (hp : List (Nat × SB)) (ρ : List (Nat × Rn)) : List (Nat × SB) → Prop
  | [] => True
  | (id', sb) :: l => leB hp ρ id' sb ∧ leH hp ρ l
def rnIds : List (Nat × Rn) → List Nat
  | [] => []
  | (_, .id i) :: l => i :: rnIds l
  | _ :: l => rnIds l
def rnUp (nx : Nat) : List (Nat × Rn) → Bool
  | [] => true
  | (j, _) :: l => Nat.blt j nx && rnUp nx l
def rnOK (nx : Nat) (ρ : List (Nat × Rn)) : Bool := noDup (rnIds ρ) && rnUp nx ρ
def leC (ρ : List (Nat × Rn)) (c c' : Core) : Prop := leL c.hp ρ c.tm c'.tm ∧ leH c.hp ρ c'.hp ∧ rnOK c'.nx ρ = true
end Go.Sx
namespace Go.Sx
section
variable {P : Program} {C : Ctx} {K : Kx} {H H' H'' H0 : Mem} {E E' E'' E1 : Env} {w w' w'' w0 : World} {hp : List (Nat × SB)} {ρ : List (Nat × Rn)}

def rnEnv (ρ : List (Nat × Rn)) (E : Env) : Env := fun i' => match look? ρ i' with
  | some (.id i) => E i
  | some .nil => some (.slice none 0 0)
  | none => none
theorem rnEnv_id {i i' : Nat} (h : look? ρ i' = some (.id i)) : rnEnv ρ E i' = E i := by simp [rnEnv, h]
theorem rnEnv_nil {i' : Nat} (h : look? ρ i' = some .nil) : rnEnv ρ E i' = some (.slice none 0 0) := by simp [rnEnv, h]
mutual
theorem leS_den (hh : HeapOK K H E w hp) : ∀ {x : SV} (y : SV) {u : Value}, leS hp ρ x y → Den H E x u → Den H (rnEnv ρ E) y u
  | x, .any, u, _, _ => trivial
  | x, .sym k m, u, h, hd => by
    cases x <;> simp only [leS] at h
    all_goals first | exact h.elim | (obtain ⟨rfl, rfl⟩ := h; exact hd)
  | x, .test b, u, h, hd => by
    cases x <;> simp only [leS] at h
    all_goals first | exact h.elim | (subst h; exact hd)
  | x, .gs id', u, h, hd => by
    cases x <;> simp only [leS] at h
    case gs id => exact ⟨by rw [rnEnv_id h]; exact hd.1, hd.2⟩
    case nils => obtain rfl : u = _ := hd; exact ⟨rnEnv_nil h, _, _, _, rfl⟩
  | x, .ptr id' off', u, h, hd => by
    cases x <;> simp only [leS] at h
    case ptr id off => obtain ⟨h, rfl⟩ := h; obtain ⟨b, h1, h2⟩ := hd; exact ⟨b, by rw [rnEnv_id h]; exact h1, h2⟩
  | x, .mp id', u, h, hd => by
    cases x <;> simp only [leS] at h
    case mp id => obtain ⟨b, h1, h2⟩ := hd; exact ⟨b, by rw [rnEnv_id h]; exact h1, h2⟩
  | x, .fn f' l', u, h, hd => by
    cases x <;> simp only [leS] at h
    case fn f l => obtain ⟨rfl, h⟩ := h; obtain ⟨vs, rfl, hl⟩ := hd; exact ⟨vs, rfl, leL_den hh l' h hl⟩
  | x, .agg l', u, h, hd => by
    cases x <;> simp only [leS] at h
    case agg l => obtain ⟨vs, rfl, hl⟩ := hd; exact ⟨vs, rfl, leL_den hh l' h hl⟩
  | x, .tup l', u, h, hd => by
    cases x <;> simp only [leS] at h
    case tup l => obtain ⟨vs, rfl, hl⟩ := hd; exact ⟨vs, rfl, leL_den hh l' h hl⟩
  | x, .ifc t' y, u, h, hd => by
    cases x <;> simp only [leS] at h
    case ifc t z => obtain ⟨rfl, h⟩ := h; obtain ⟨v, rfl, hl⟩ := hd; exact ⟨v, rfl, leS_den hh y h hl⟩
  | x, .sh s, u, h, hd => by
    have key : toSh hp x = some s ∨ (x = .nils ∧ ∃ st g, s = .sl st 0 g) := by
      unfold leS at h
      split at h <;> first | exact h.elim | skip
      all_goals simp_all
    rcases key with h | ⟨rfl, st, g, rfl⟩
    · exact toSh_rep hh h hd
    · obtain rfl : u = _ := hd
      exact .sl0 _ _ _ _ (Nat.zero_le _)
  | x, .int k n, u, h, hd => by
    cases x <;> simp only [leS] at h
    case int k' n' => obtain ⟨rfl, rfl⟩ := h; exact hd
    case sym k' n' => obtain ⟨rfl, rfl⟩ := h; exact hd
  | x, .bool b, u, h, hd => by
    cases x <;> simp only [leS] at h
    case bool b' => subst h; exact hd
    case test b' => subst h; exact hd
  | x, .nilp, u, h, hd => by
    cases x <;> simp only [leS] at h
    case nilp => exact hd
  | x, .nils, u, h, hd => by
    cases x <;> simp only [leS] at h
    case nils => exact hd
  | x, .nilf, u, h, hd => by
    cases x <;> simp only [leS] at h
    case nilf => exact hd
  | x, .nili, u, h, hd => by
    cases x <;> simp only [leS] at h
    case nili => exact hd
  | x, .nilm, u, h, hd => by
    cases x <;> simp only [leS] at h
    case nilm => exact hd
  | x, .glob g, u, h, hd => by
    cases x <;> simp only [leS] at h
    case glob g' => subst h; exact hd
  | x, .str l, u, h, hd => by
    cases x <;> simp only [leS] at h
    case str l' => subst h; exact hd
  | x, .val v, u, h, hd => by
    cases x <;> simp only [leS] at h
    case val v' => subst h; exact hd
  | x, .shp st n g i off, u, h, hd => by
    have key : (∃ st' n' g' i' off', x = .shp st' n' g' i' off' ∧ st' = st ∧ n' = n ∧ g' = g ∧ i' = i ∧ off' = off) ∨ (toSh hp x = some (.pt (g i)) ∧ off = 0 ∧ (g i).length = st ∧ i < n) := by
      cases x <;> simp only [leS] at h
      case shp => exact .inl ⟨_, _, _, _, _, rfl, h⟩
      all_goals exact .inr h
    rcases key with ⟨_, _, _, _, _, rfl, rfl, rfl, rfl, rfl, rfl⟩ | ⟨h9, rfl, h2, h3⟩
    · exact hd
    · have hr := toSh_rep hh h9 hd
      cases hr with
      | pt _ b off2 c a1 a2 a3 => exact ⟨b, off2, c, rfl, h3, h2, fun j hj => ⟨a1 j (by omega), a2 j (by omega)⟩, a3⟩
  | x, .gp id st i off, u, h, hd => by
    cases x <;> simp only [leS] at h
  | x, .ev id, u, h, hd => by
    cases x <;> simp only [leS] at h
  | x, .vw id n, u, h, hd => by
    cases x <;> simp only [leS] at h
theorem leL_den (hh : HeapOK K H E w hp) : ∀ {l : List SV} (l' : List SV) {vs : List Value}, leL hp ρ l l' → DenL H E l vs → DenL H (rnEnv ρ E) l' vs
  | [], [], [], _, _ => trivial
  | _ :: _, y :: l', _ :: _, ⟨h1, h2⟩, ⟨d1, d2⟩ => ⟨leS_den hh y h1 d1, leL_den hh l' h2 d2⟩
  | [], _ :: _, _, h, _ => h.elim
  | _ :: _, [], _, h, _ => h.elim
  | _ :: _, _ :: _, [], _, hd => hd.elim
  | [], [], _ :: _, _, hd => hd.elim
end
theorem leM_den (hh : HeapOK K H E w hp) : ∀ {l l' : List (SV × SV)} {ms : List MapEntry}, leM hp ρ l l' → DenM H E l ms → DenM H (rnEnv ρ E) l' ms
  | [], [], [], _, _ => trivial
  | (_, _) :: _, (a, b) :: l', _ :: _, ⟨h1, h2, h3⟩, ⟨d1, d2, d3⟩ => ⟨leS_den hh a h1 d1, leS_den hh b h2 d2, leM_den hh h3 d3⟩
  | [], _ :: _, _, h, _ => h.elim
  | (_, _) :: _, [], _, h, _ => h.elim
  | (_, _) :: _, (_, _) :: _, [], _, hd => hd.elim
  | [], [], _ :: _, _, hd => hd.elim
theorem rows_congr {st n : Nat} {g g' : Nat → List Sh} {xs : List Value} (h : RepRows H st n g xs) (hg : ∀ i, i < n → g i = g' i) : RepRows H st n g' xs :=
  ⟨h.1, fun i hi => by rw [← hg i hi]; exact h.2.1 i hi, h.2.2.1, fun i j s v hi e1 e2 => h.2.2.2 i j s v hi (by rw [hg i hi]; exact e1) e2⟩
/-- The entry holds, and whose block it is. -/
theorem leB_ok (hh : HeapOK K H E w hp) {id' : Nat} {sb : SB} (h : leB hp ρ id' sb) : Ent K H (rnEnv ρ E) w id' sb ∧ ∀ b, obk (rnEnv ρ E) id' sb = some b → ∃ id s0, look? ρ id' = some (.id id) ∧ look? hp id = some s0 ∧ obk E id s0 = some b := by
  cases sb with
  | box cells' e' =>
    simp only [leB] at h
    split at h
    · rename_i id hr
      split at h
      · rename_i cells e hl
        obtain ⟨rfl, h⟩ := h
        obtain ⟨b, cs, h1, h2, h3, h4⟩ := hh.ent _ _ hl
        refine ⟨⟨b, cs, by rw [rnEnv_id hr]; exact h1, h2, leL_den hh _ h h3, h4⟩, fun b' hb => ⟨id, _, hr, hl, ?_⟩⟩
        simp only [obk, rnEnv_id hr] at hb ⊢; exact hb
      · exact h.elim
    · exact h.elim
  | row cells' e' st' n' =>
    simp only [leB] at h
    split at h
    · rename_i id hr
      split at h
      · rename_i cells e st n hl
        obtain ⟨rfl, rfl, rfl, h⟩ := h
        obtain ⟨v, xs, h1, h2, h3, h4⟩ := hh.ent _ _ hl
        refine ⟨⟨v, xs, by rw [rnEnv_id hr]; exact h1, h2, leL_den hh _ h h3, h4⟩, fun b' hb => ⟨id, _, hr, hl, ?_⟩⟩
        simp only [obk, rnEnv_id hr] at hb ⊢; exact hb
      · exact h.elim
    · exact h.elim
  | own e' st' n' g' =>
    simp only [leB] at h
    split at h
    · rename_i id hr
      split at h
      · rename_i e st n g hl
        obtain ⟨rfl, rfl, rfl, h⟩ := h
        obtain ⟨⟨v, xs, h1, h2, h3, h4⟩, sb0, h5, h6⟩ := ownEls_ok hh hl
        refine ⟨⟨v, xs, by rw [rnEnv_id hr]; exact h1, h2, rows_congr h3 h, h4⟩, fun b' hb => ⟨id, _, hr, h5, h6 b' ?_⟩⟩
        simp only [obk, rnEnv_id hr] at hb; exact hb
      · exact h.elim
    · rename_i hr
      subst h
      refine ⟨⟨_, [], rnEnv_nil hr, owns_nil _ _ _, rows_nil _ _, fun b hb => by simp [blkV] at hb⟩, fun b hb => ?_⟩
      simp [obk, rnEnv_nil hr, blkV] at hb
    · exact h.elim
  | map es' =>
    simp only [leB] at h
    split at h
    · rename_i id hr
      split at h
      · rename_i es hl
        obtain ⟨b, ms, clk, h1, h2, h3, h4⟩ := hh.ent _ _ hl
        refine ⟨⟨b, ms, clk, by rw [rnEnv_id hr]; exact h1, h2, leM_den hh h h3, h4⟩, fun b' hb => ⟨id, _, hr, hl, ?_⟩⟩
        simp only [obk, rnEnv_id hr] at hb ⊢; exact hb
      · exact h.elim
    · exact h.elim
  | fz st n g => exact h.elim
  | fzb l => exact h.elim
  | ownx e st n g m => exact h.elim
  | fm k M fs us t => exact h.elim
theorem leH_at : ∀ {l : List (Nat × SB)} {i : Nat} {sb : SB}, leH hp ρ l → look? l i = some sb → leB hp ρ i sb
  | [], _, _, _, h => by simp [look?] at h
  | (j, x) :: l, i, sb, ⟨h1, h2⟩, h => by
    simp only [look?] at h
    cases hj : (j == i) <;> simp only [hj, cond_true, cond_false] at h
    · exact leH_at h2 h
    · cases h
      obtain rfl : j = i := by simpa using hj
      exact h1
theorem rnUp_lt {nx : Nat} : ∀ {ρ : List (Nat × Rn)} {i : Nat} {r : Rn}, rnUp nx ρ = true → look? ρ i = some r → i < nx
  | [], _, _, _, h => by simp [look?] at h
  | (j, x) :: l, i, r, hu, h => by
    simp only [rnUp, Bool.and_eq_true] at hu
    simp only [look?] at h
    cases hj : (j == i) <;> simp only [hj, cond_true, cond_false] at h
    · exact rnUp_lt hu.2 h
    · obtain rfl : j = i := by simpa using hj
      exact blt_spec hu.1
theorem rnIds_mem : ∀ {ρ : List (Nat × Rn)} {i k : Nat}, look? ρ i = some (.id k) → k ∈ rnIds ρ
  | [], _, _, h => by simp [look?] at h
  | (j, x) :: l, i, k, h => by
    simp only [look?] at h
    cases hj : (j == i) <;> simp only [hj, cond_true, cond_false] at h
    · have := rnIds_mem h
      cases x <;> simp [rnIds, this]
    · cases h
      simp [rnIds]
theorem rn_inj : ∀ {ρ : List (Nat × Rn)} {i j k : Nat}, noDup (rnIds ρ) = true → look? ρ i = some (.id k) → look? ρ j = some (.id k) → i = j
  | [], _, _, _, _, h, _ => by simp [look?] at h
  | (m, x) :: l, i, j, k, hn, h1, h2 => by
    simp only [look?] at h1 h2
    have tail : noDup (rnIds l) = true := by
      cases x with
      | id a => simp only [rnIds, noDup, Bool.and_eq_true] at hn; exact hn.2
      | nil => exact hn
    have head : ∀ a, x = .id a → a ∈ rnIds l → False := fun a hx ha => by
      subst hx
      simp only [rnIds, noDup, Bool.and_eq_true, Bool.not_eq_true'] at hn
      have : (rnIds l).contains a = true := by simpa using ha
      rw [this] at hn
      exact absurd hn.1 (by simp)
    cases hi : (m == i) <;> cases hj : (m == j) <;> simp only [hi, hj, cond_true, cond_false] at h1 h2
    · exact rn_inj tail h1 h2
    · cases h2
      exact (head k rfl (rnIds_mem h1)).elim
    · cases h1
      exact (head k rfl (rnIds_mem h2)).elim
    · have e1 : m = i := by simpa using hi
      have e2 : m = j := by simpa using hj
      rw [← e1, ← e2]
theorem St.weak {c c' : Core} {a : Act} (st : St C K H E w c a) (h : leC ρ c c') : St C K H (rnEnv ρ E) w c' a := by
  obtain ⟨h1, h2, h3⟩ := h
  simp only [rnOK, Bool.and_eq_true] at h3
  refine ⟨leL_den st.hp _ h1 st.den, ⟨fun id sb hl => (leB_ok st.hp (leH_at h2 hl)).1, fun id id' sb sb' b l1 l2 o1 o2 => ?_⟩, st.wok, fun i hi _ => ?_, st.gl, st.defers⟩
  · obtain ⟨i1, s1, a1, a2, a3⟩ := (leB_ok st.hp (leH_at h2 l1)).2 b o1
    obtain ⟨i2, s2, b1, b2, b3⟩ := (leB_ok st.hp (leH_at h2 l2)).2 b o2
    have := st.hp.dis _ _ _ _ _ a2 b2 a3 b3
    subst this
    exact rn_inj h3.1 a1 b1
  · unfold rnEnv
    cases hr : look? ρ i with
    | none => rfl
    | some r => have := rnUp_lt h3.2 hr; omega
theorem goes_weak {fn : Func} {td : List It} {c c' : Core} {φ : Sh → Prop} (ρ : List (Nat × Rn)) (hle : leC ρ c c') (h : Goes P C K fn td c' φ) : Goes P C K fn td c φ :=
  fun H E w a items b cs st hi => h H (rnEnv ρ E) w a items b cs (st.weak hle) hi
end
end Go.Sx
namespace Go.Sx
def denB : SV → Value → Bool
  | .int k n, .int k' m => k == k' && n == m
  | .bool b, .bool c => b == c
  | .str [], .string s => s.data.toList.isEmpty
  | .nilp, .pointer none => true
  | .nils, .slice none 0 0 => true
  | .nilf, .nilFunc => true
  | .nili, .nilIface => true
  | .nilm, .map none => true
  | _, _ => false
def denLB : List SV → List Value → Bool
  | [], [] => true
  | x :: l, v :: vs => denB x v && denLB l vs
  | _, _ => false
def fieldsB (P : Program) : List Field → List (Nat × Nat × Bool) → Bool
  | [], [] => true
  | f :: r, p :: q => f.offset == p.1 && (match P.info? f.type with | some inf => inf.size == p.2.1 | none => false) &&
      (match P.underlying f.type with | some (.struct _) => p.2.2 | some (.array _ _) => p.2.2 | some _ => !p.2.2 | none => false) && fieldsB P r q
  | _, _ => false
def descB (P : Program) (t : Nat) : Ty → Bool
  | .int k => match P.underlying t with | some (.int k') => k == k' | _ => false
  | .bool => match P.underlying t with | some .bool => true | _ => false
  | .str => match P.underlying t with | some .string => true | _ => false
  | .ptr e => match P.underlying t with | some (.pointer e') => e == e' | _ => false
  | .fn => match P.underlying t with | some (.func _ _ _) => true | _ => false
  | .iface => match P.underlying t with | some (.interface _) => true | _ => false
  | .map k e => match P.underlying t with | some (.map k' e') => k == k' && e == e' | _ => false
  | .slice e => match P.underlying t with | some (.slice e') => e == e' | _ => false
  | .struct fs => match P.underlying t with | some (.struct fields) => fieldsB P fields.toList fs | _ => false
  | .arr n e => match P.underlying t with | some (.array n' e') => n == n' && e == e' | _ => false
  | .other => false
def zeroB (agg : Bool) (size : Nat) : Value → Bool
  | .agg _ => agg
  | v => !agg && size == 1 && v.oneCell'
def tyB (P : Program) (t : Nat) (i : TyI) : Bool :=
  descB P t i.ty && match P.info? t with
    | some inf => inf.size == i.size && inf.bytes == i.bytes && match inf.zero with
      | some z => denLB i.zero z.cells.toList && z.cells.size == i.size && zeroB i.ty.isAgg i.size z
      | none => false
    | none => false
def tysB (P : Program) (t : BT TyI) : Bool := t.allB (tyB P)
theorem denB_ok {x : SV} {v : Value} (h : denB x v = true) {H : Mem} {E : Env} : Den H E x v := by
  unfold denB at h
  split at h
  · simp only [Bool.and_eq_true, beq_iff_eq] at h
    obtain ⟨rfl, rfl⟩ := h
    rfl
  · simp only [beq_iff_eq] at h
    subst h; rfl
  · rename_i s
    have : s.data.toList = [] := by simpa using h
    obtain ⟨⟨l⟩⟩ := s
    simp at this
    subst this
    rfl
  all_goals first | rfl | cases h
theorem denLB_ok {H : Mem} {E : Env} : ∀ {l : List SV} {vs : List Value}, denLB l vs = true → DenL H E l vs
  | [], [], _ => trivial
  | x :: l, v :: vs, h => by
    simp only [denLB, Bool.and_eq_true] at h
    exact ⟨denB_ok h.1, denLB_ok h.2⟩
  | [], _ :: _, h => by simp [denLB] at h
  | _ :: _, [], h => by simp [denLB] at h
theorem fieldsB_ok {P : Program} : ∀ {fields : List Field} {fs : List (Nat × Nat × Bool)}, fieldsB P fields fs = true → fields.length = fs.length ∧ ∀ (j : Nat) (f : Field), fields[j]? = some f → ∃ inf : TypeInfo, P.info? f.type = some inf ∧
    fs[j]? = some (f.offset, inf.size, match P.underlying f.type with | some (.struct _) | some (.array _ _) => true | _ => false) ∧ (P.underlying f.type).isSome = true
  | [], [], _ => ⟨rfl, fun _ _ h => by simp at h⟩
  | f :: r, p :: q, h => by
    simp only [fieldsB, Bool.and_eq_true, beq_iff_eq] at h
    obtain ⟨⟨⟨h1, h2⟩, h3⟩, h4⟩ := h
    obtain ⟨h5, h6⟩ := fieldsB_ok h4
    refine ⟨by simp [h5], fun j f' hj => ?_⟩
    cases j with
    | zero =>
      simp at hj
      subst hj
      split at h2
      · rename_i inf hi
        simp only [beq_iff_eq] at h2
        refine ⟨inf, hi, ?_, ?_⟩
        · obtain ⟨p1, p2, p3⟩ := p
          simp only at h1 h2 h3
          subst h1 h2
          simp only [List.getElem?_cons_zero]
          congr 3
          cases hu : P.underlying f.type with
          | none => rw [hu] at h3; cases h3
          | some d => rw [hu] at h3; cases d <;> simpa using h3
        · split at h3
          · rename_i e; rw [e]; rfl
          · rename_i e; rw [e]; rfl
          · rename_i e; rw [e]; rfl
          · cases h3
      · cases h2
    | succ j =>
      obtain ⟨inf, a1, a2, a3⟩ := h6 j f' (by simpa using hj)
      exact ⟨inf, a1, by simpa using a2, a3⟩
  | [], _ :: _, h => by simp [fieldsB] at h
  | _ :: _, [], h => by simp [fieldsB] at h
theorem descB_ok {P : Program} {t : Nat} {ty : Ty} (h : descB P t ty = true) : DescOK P t ty := by
  unfold descB at h
  cases ty
  case other => cases h
  case arr => simp only at h; split at h; · rename_i hu; simp only [Bool.and_eq_true, beq_iff_eq] at h; obtain ⟨rfl, rfl⟩ := h; exact hu
              · cases h
  case int => simp only at h; split at h; · rename_i hu; simp only [beq_iff_eq] at h; subst h; exact hu
              · cases h
  case bool => simp only at h; split at h; · rename_i hu; exact hu
               · cases h
  case str => simp only at h; split at h; · rename_i hu; exact hu
              · cases h
  case ptr => simp only at h; split at h; · rename_i hu; simp only [beq_iff_eq] at h; subst h; exact hu
              · cases h
  case fn => simp only at h; split at h; · rename_i hu; exact ⟨_, _, _, hu⟩
             · cases h
  case iface => simp only at h; split at h; · rename_i hu; exact ⟨_, hu⟩
                · cases h
  case map => simp only at h; split at h; · rename_i hu; simp only [Bool.and_eq_true, beq_iff_eq] at h; obtain ⟨rfl, rfl⟩ := h; exact hu
              · cases h
  case slice => simp only at h; split at h; · rename_i hu; simp only [beq_iff_eq] at h; subst h; exact hu
                · cases h
  case struct =>
    simp only at h
    split at h
    · rename_i fields hu
      have := fieldsB_ok h
      exact ⟨fields, hu, by simpa using this.1, fun j f hj => this.2 j f (by simpa using hj)⟩
    · cases h
theorem tyB_ok {P : Program} {t : Nat} {i : TyI} (h : tyB P t i = true) : TyOK P t i := by
  unfold tyB at h
  simp only [Bool.and_eq_true] at h
  obtain ⟨h1, h2⟩ := h
  refine ⟨descB_ok h1, ?_⟩
  split at h2
  · rename_i inf hi
    simp only [Bool.and_eq_true, beq_iff_eq] at h2
    obtain ⟨⟨a1, a2⟩, h3⟩ := h2
    split at h3
    · rename_i z hz
      simp only [Bool.and_eq_true, beq_iff_eq] at h3
      obtain ⟨⟨b1, b2⟩, b3⟩ := h3
      refine ⟨inf, z, hi, a1, a2, hz, denLB_ok b1, b2, fun ha => ?_, fun ha => ?_⟩
      · unfold zeroB at b3
        split at b3
        · exact ⟨_, rfl⟩
        · rw [ha] at b3; simp at b3
      · unfold zeroB at b3
        split at b3
        · rw [ha] at b3; cases b3
        · simp only [Bool.and_eq_true, beq_iff_eq] at b3
          exact ⟨b3.1.2, b3.2⟩
    · cases h3
  · cases h2
theorem tysB_ok {P : Program} {l : BT TyI} (h : tysB P l = true) (t : Nat) (i : TyI) (hl : l.get t = some i) : TyOK P t i := tyB_ok ((BT.allB_all h).get hl)
/-- The functions of a table are the program's. -/
def FnsAre (P : Program) (l : BT Func) : Prop := l.All fun g fn => P.funcs[g]? = some fn
theorem fnsAre_ok {P : Program} {l : BT Func} (h : FnsAre P l) (g : Nat) (fn : Func) (hl : l.get g = some fn) : P.funcs[g]? = some fn := BT.All.get h hl
def entersB (l : BT Func) : Bool := l.allB fun _ fn => fn.body.isSome && !(fn.name == "runtime.NumGoroutine")
theorem entersB_ok {P : Program} {l : BT Func} (h : FnsAre P l) (he : entersB l = true) (g : Nat) (hl : (l.get g).isSome = true) : ∃ fn, P.funcs[g]? = some fn ∧ fn.body.isSome = true ∧ fn.name ≠ "runtime.NumGoroutine" := by
  obtain ⟨fn, hf⟩ := Option.isSome_iff_exists.1 hl
  have h1 := (BT.allB_all he).get hf
  simp only [Bool.and_eq_true, Bool.not_eq_true', beq_eq_false_iff_ne] at h1
  exact ⟨fn, fnsAre_ok h g fn hf, h1.1, h1.2⟩
end Go.Sx
