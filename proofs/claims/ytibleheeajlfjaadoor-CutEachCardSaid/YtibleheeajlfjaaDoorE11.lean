/-
  Targets that stand at one place: the first that fits is taken. Own work. Chapter 5: what the laws have in common: the library as things of which nothing is known, rules, plain facts on lists of events. Own work. Frames with deferred calls and rounds of a range over a function: single steps. Own work. Runs over several frames with ranges over functions: definitions, what the world's own blocks for them are. Own work. Runs over several frames with ranges over functions. Own work. Runs over several frames with ranges over functions are sound. Own work. Runs over several frames with ranges over functions are sound, the second part; rules. Own work. Runs over several frames with ranges over functions: the theorem, and its rules. Own work. Runs over several frames with ranges over functions: told states, loops, summaries. Own work. Chapter 5: the law CutEach; evaluated. The equations are written by program (gen2.py). Own work. Chapter 5: summary: the law CutEach answers true. Own work.
-/
import Derived.Test.YtibleheeajlfjaaDoorE10
import Derived.RangeFuncIn
import Derived.RangeFuncRecord
namespace Go.Sx
def matchU (g : Nat) (td : List It) (c : Core) (stk : List Fr) : Nat → List Tgt → Tree Fe2
  | _, [] => .fail
  | k, t :: r => bif g == t.g && itsEq td t.td && sameStk stk t.stk then match app2 (qC (t.rn c stk) c t.c) (qStk c.hp (t.rn c stk) stk t.stk) with
      | some l => .leaf (.at_ k l)
      | none => matchU g td c stk (k + 1) r
    else matchU g td c stk (k + 1) r
def toFeU (ts : List Tgt) : OutS → Tree Fe2
  | .fin v c => match finish c v with
    | some s => .leaf (.ret s)
    | none => .fail
  | .stop g td c stk => matchU g td c stk 0 ts
def runU (C : Ctx) (hold : Nat → Bool) (m n g : Nat) (td : List It) (c : Core) (stk : List Fr) (ts : List Tgt) : Tree Fe2 := (runS C hold m n g td c stk).bind (toFeU ts)
section
variable {P : Program} {C : Ctx} {K : Kx} {H0 : Mem} {w0 : World}
theorem matchU_ok {R : Hp → Prop} {φ : Sh → Prop} {ts : List Tgt} {g : Nat} {td : List It} {c : Core} {stk : List Fr} : ∀ {r : List Tgt} {k : Nat}, (∀ j, r[j]? = ts[k + j]?) → (matchU g td c stk k r).All (Fe2OK P C K ts R φ) → GoesS P C K g td c stk R φ
  | [], _, _, h => h.elim
  | t :: r, k, hk, h => by
    have hr : ∀ j, r[j]? = ts[k + 1 + j]? := fun j => by have := hk (j + 1); simp only [List.getElem?_cons_succ] at this; rw [this]; congr 1; omega
    unfold matchU at h
    cases hb : (g == t.g && itsEq td t.td && sameStk stk t.stk) <;> simp only [hb, cond_true, cond_false] at h
    · exact matchU_ok hr h
    · simp only [Bool.and_eq_true, beq_iff_eq] at hb
      obtain ⟨⟨h1, h2⟩, h3⟩ := hb
      split at h
      · rename_i l hl
        obtain ⟨a, b, q1, q2, rfl⟩ := app2_some hl
        obtain ⟨hl, t', ht, hg⟩ := h
        have := hk 0
        simp only [List.getElem?_cons_zero, Nat.add_zero] at this
        rw [← this] at ht
        cases ht
        have h2 := itsEq_ok h2
        subst h1 h2
        exact goesS_weak (t.rn c stk) (qC_ok q1 (Eqn.all_app hl).1) (qStk_ok q2 (Eqn.all_app hl).2) hg
      · exact matchU_ok hr h
theorem goesS_runU (hC : CtxOK P C) (hF : FnsOK P C) {hold : Nat → Bool} {m n g : Nat} {td : List It} {c : Core} {stk : List Fr} {ts : List Tgt} {R : Hp → Prop} {φ : Sh → Prop}
    (h : (runU C hold m n g td c stk ts).All (Fe2OK P C (K0 H0 w0) ts R φ)) : GoesS P C (K0 H0 w0) g td c stk R φ := by
  refine goesS_run hC hF (hold := hold) (m := m) (n := n) ((Tree.All_bind h).mono fun o ho => ?_)
  cases o with
  | fin v c =>
    simp only [toFeU] at ho
    split at ho
    · rename_i s hs
      exact ⟨s, hs, ho⟩
    · exact ho.elim
  | stop g td c stk => exact matchU_ok (k := 0) (fun j => by simp) ho
end
/-! A run that pauses at given places. -/
def runQ (C : Ctx) (pause : Nat → List It → Bool) (hold : Nat → Bool) (m : Nat) : Nat → Nat → List It → Core → List Fr → Tree OutS
  | 0, g, td, c, stk => .leaf (.stop g td c stk)
  | n + 1, g, td, c, stk => match C.fns.get g with
    | none => .fail
    | some fn => bif pause g td || holdB hold fn td c then .leaf (.stop g td c stk) else match pushOf C fn td c with
      | some r => runQ C pause hold m n r.1 [.code []] { c with tm := r.2.2 ++ List.replicate (r.2.1.ntmps - r.2.2.length) .any } ({ g, td, tm := c.tm } :: stk)
      | none => (stepR C (callWith C (run C m false)) true g fn td c).bind fun s => match s with
        | .go td c => runQ C pause hold m n g td c stk
        | .halt td c => .leaf (.stop g td c stk)
        | .done v c => match stk with
          | [] => .leaf (.fin v c)
          | f :: stk => match popOf C f v c with
            | some r => runQ C pause hold m n f.g r.1 r.2 stk
            | none => .fail
section
variable {P : Program} {C : Ctx} {K : Kx} {H H' H'' H0 : Mem} {E E' E'' E1 : Env} {w w' w'' w0 : World}
theorem goesS_runQ (hC : CtxOK P C) (hF : FnsOK P C) {pause : Nat → List It → Bool} {hold : Nat → Bool} {m : Nat} {R : Hp → Prop} {φ : Sh → Prop} : ∀ {n g : Nat} {td : List It} {c : Core} {stk : List Fr}, (runQ C pause hold m n g td c stk).All (OutSOK P C (K0 H0 w0) R φ) → GoesS P C (K0 H0 w0) g td c stk R φ
  | 0, g, td, c, stk, h => h
  | n + 1, g, td, c, stk, h => by
    intro H E w a items ms cs fn hfn st hi hs hx
    simp only [runQ, hfn] at h
    cases hhold : (pause g td || holdB hold fn td c) <;> simp only [hhold, cond_true, cond_false] at h
    rotate_left
    · exact h H E w a items ms cs fn hfn st hi hs hx
    split at h
    · -- a call is entered
      rename_i r hr
      unfold pushOf at hr
      split at hr
      · rename_i p i rest k
        split at hr
        · rename_i rid ops dr hcode
          split at hr
          · rename_i o ho
            split at hr
            · rename_i hwant
              split at hr
              · rename_i kk hop
                split at hr
                · rename_i f hcal
                  split at hr
                  · rename_i g2 caps hev
                    split at hr
                    · cases hr
                    · rename_i hspec
                      split at hr
                      · rename_i fn2 hfn2
                        cases hb : (Nat.ble (kk.args.toList.map (evL c.tm) ++ caps).length fn2.ntmps && fn2.body.isSome) <;> simp only [hb, cond_true, cond_false] at hr
                        · cases hr
                        cases hr
                        simp only [Bool.and_eq_true] at hb
                        obtain ⟨body2, hbody2⟩ := Option.isSome_iff_exists.1 hb.2
                        have ih := goesS_runQ hC hF h
                        have hP2 := hC.fn g2 fn2 hfn2
                        cases hi with
                        | reg p l id ops2 hc hk =>
                          rw [hc] at hcode
                          cases hcode
                          rename_i k'
                          have df := den_ev (H := H) (E := E) st.den f
                          rw [hev] at df
                          obtain ⟨vs, ef, hvs⟩ := df
                          have hargs := (den_map st.den kk.args.toList).append hvs
                          have ho' : ops[i]? = some o := by simpa [opAt] using ho
                          have hw' := wantOf_spec (ops := ops) st.den o
                          rw [hwant] at hw'
                          have hent := hF.en g2 (.inr (by rw [hfn2]; rfl))
                          have hrun : (execOp a.eval o).run P w = .ok (.enter g2 (kk.args.map a.eval ++ vs)) w := by
                            simp only [execOp, hop, resolve, hcal]
                            simp [Deferred.ofValue, ef, invoke, callFunc_run hent]
                          have hg := stepG_op (P := P) (b := base g) (k := k') (cs := ms ++ cs) (w := w) (rest := rest) ho' hw'
                          have henter : step P (lone ((base g).at a (.inRegion ops (i :: rest) :: k')) (ms ++ cs) w) = .next (lone (Frame.enter P g2 (kk.args.map a.eval ++ vs) .normal) ((base g).at a (.inRegion ops (i :: rest) :: k') :: (ms ++ cs)) w) :=
                            step_lone_go (by rw [hg]; simp [stepG.apply, hrun, Frame.at])
                          rw [enter_base hP2 hbody2] at henter
                          have hl := hargs.length
                          have hlen : (kk.args.map a.eval ++ vs).size = (kk.args.toList.map (evL c.tm) ++ caps).length := by
                            rw [← hl]; simp
                          have st2 : St C (K0 H0 w0) H E w { c with tm := (kk.args.toList.map (evL c.tm) ++ caps) ++ List.replicate (fn2.ntmps - (kk.args.toList.map (evL c.tm) ++ caps).length) .any } { tmps := (kk.args.map a.eval ++ vs) ++ Array.replicate (fn2.ntmps - (kk.args.map a.eval ++ vs).size) undef, defers := [] } := by
                            refine ⟨?_, st.hp, st.wok, st.free, st.gl, rfl⟩
                            have : ((kk.args.map a.eval ++ vs) ++ Array.replicate (fn2.ntmps - (kk.args.map a.eval ++ vs).size) undef).toList = (kk.args.toList.map a.eval ++ vs.toList) ++ List.replicate (fn2.ntmps - (kk.args.toList.map (evL c.tm) ++ caps).length) undef := by
                              rw [hlen]; simp
                            simp only [this]
                            exact hargs.append (DenL.any _ _ (by simp))
                          have hit2 : ItOK (bodyOf fn2) [.code []] [.code body2] := by
                            have := ItOK.code (body := bodyOf fn2) [] ItOK.nil
                            have he : codeAt (bodyOf fn2) [] = body2 := by simp [codeAt, bodyOf, hbody2]
                            rwa [he] at this
                          have hs2 : StkOK C H E ({ g, td := .reg p (i :: rest) :: k, tm := c.tm } :: stk) ((base g).at a (.inRegion ops (i :: rest) :: k') :: ms) :=
                            ⟨⟨fn, a, _, hfn, st.den, st.defers, .reg p (i :: rest) _ ops hc hk, rfl⟩, hs⟩
                          obtain ⟨a', w', v, s, H', todo, fn0, q1, q2, q3⟩ := ih H E w _ _ (_ :: ms) cs fn2 hfn2 st2 hit2 hs2 hx
                          exact ⟨a', w', v, s, H', todo, fn0, q1, .head henter q2, q3⟩
                      · cases hr
                  · cases hr
                · cases hr
              · cases hr
            · cases hr
          · cases hr
        · cases hr
      · cases hr
    · have hK := call_hyp (K := reK H E w c.hp) hC hF (run_ok hC hF m)
      obtain ⟨sig, h1, h2⟩ := stepR_ok hC hF hK (Tree.All_bind h) st.re hi (base g) (ms ++ cs)
      cases sig with
      | go td' c' =>
        obtain ⟨a', w', H', E', items', q1, q2, q3, q4⟩ := h2
        obtain ⟨a2, w2, v, s, H2, todo, fn0, r1, r2, r3⟩ := goesS_runQ hC hF h1 H' E' w' a' items' ms cs fn hfn (st.un q2) q4 (hs.le q3.Hle q3.Ele) (hx.keep st q2 q3)
        exact ⟨a2, w2, v, s, H2, todo, fn0, r1, q1.trans r2, r3⟩
      | halt td' c' =>
        obtain ⟨a', w', H', E', items', q1, q2, q3, q4⟩ := h2
        obtain ⟨a2, w2, v, s, H2, todo, fn0, r1, r2, r3⟩ := h1 H' E' w' a' items' ms cs fn hfn (st.un q2) q4 (hs.le q3.Hle q3.Ele) (hx.keep st q2 q3)
        exact ⟨a2, w2, v, s, H2, todo, fn0, r1, q1.trans r2, r3⟩
      | done sv c' =>
        obtain ⟨a', w', H', E', v, todo, q1, q2, q3, q4, q5⟩ := h2
        cases stk with
        | nil =>
          cases ms with
          | cons _ _ => exact hs.elim
          | nil =>
            obtain ⟨s, e1, e2⟩ := h1
            obtain ⟨H2, r⟩ := finish_ok (st.un q2) e1 q4
            exact ⟨a', w', v, s, H2, todo, fn, hfn, q1, q2.defers, e2, r, q5⟩
        | cons f stk =>
          cases ms with
          | nil => exact hs.elim
          | cons mf ms =>
            simp only at h1
            split at h1
            · rename_i r hr
              unfold popOf at hr
              split at hr
              · rename_i fnf hfnf
                split at hr
                · rename_i p i rest k htd
                  split at hr
                  · rename_i rid ops dr hcode
                    cases hr
                    obtain ⟨⟨fn3, a3, items3, g1, g2, g3, g4, g5⟩, hs'⟩ := hs.le q3.Hle q3.Ele
                    rw [hfnf] at g1; cases g1
                    rw [htd] at g4
                    cases g4 with
                    | reg p l id ops2 hc hk =>
                      rw [hc] at hcode
                      cases hcode
                      rename_i k'
                      subst g5
                      have hleave : step P (lone { (base g).at a' todo with mode := .returning } ((base f.g).at a3 (.inRegion ops (i :: rest) :: k') :: (ms ++ cs)) w') = .next (lone ((base f.g).at (a3.put ((opAt ops.toList i).bind (·.dst)) v) (.inRegion ops rest :: k')) (ms ++ cs) w') := by
                        rw [step_leave_returned (v := v) ⟨rfl, q2.defers, rfl, fn, hC.fn g fn hfn, q5⟩, Frame.finish_at]
                        simp [opAt]
                      have st3 : St C (K0 H0 w0) H' E' w' { c' with tm := putS f.tm ((opAt ops.toList i).bind (·.dst)) sv } (a3.put ((opAt ops.toList i).bind (·.dst)) v) :=
                        ⟨den_put (c := { c' with tm := f.tm }) g2 _ q4, (st.un q2).hp, (st.un q2).wok, q2.free, q2.gl, by rw [put_defers]; exact g3⟩
                      obtain ⟨a2, w2, v2, s, H2, todo2, fn0, r1, r2, r3⟩ := goesS_runQ hC hF h1 H' E' w' _ _ ms cs fnf hfnf st3 (.reg p rest _ ops hc hk) hs' (hx.keep st q2 q3)
                      exact ⟨a2, w2, v2, s, H2, todo2, fn0, r1, (q1.trans (.one hleave)).trans r2, r3⟩
                  · cases hr
                · cases hr
              · cases hr
            · exact h1.elim
def runV (C : Ctx) (pause : Nat → List It → Bool) (m n g : Nat) (td : List It) (c : Core) (stk : List Fr) (ts : List Tgt) : Tree Fe2 := (runQ C pause (fun _ => false) m n g td c stk).bind (toFeU ts)
theorem goesS_runV (hC : CtxOK P C) (hF : FnsOK P C) {pause : Nat → List It → Bool} {m n g : Nat} {td : List It} {c : Core} {stk : List Fr} {ts : List Tgt} {φ : Sh → Prop} {R : Hp → Prop}
    (h : (runV C pause m n g td c stk ts).All (Fe2OK P C (K0 H0 w0) ts R φ)) : GoesS P C (K0 H0 w0) g td c stk R φ := by
  refine goesS_runQ hC hF (pause := pause) (hold := fun _ => false) (m := m) (n := n) ((Tree.All_bind h).mono fun o ho => ?_)
  cases o with
  | fin v c =>
    simp only [toFeU] at ho
    split at ho
    · rename_i s hs
      exact ⟨s, hs, ho⟩
    · exact ho.elim
  | stop g td c stk => exact matchU_ok (k := 0) (fun j => by simp) ho
end
end Go.Sx
namespace Go.Pl
open Go Go.Sx
def smallB (n m : Nat) : Bool := decide (n ≤ 100) && decide (m ≤ 600)
def sameHB (n m : Nat) (g h : Nat → List Sh) (n' m' : Nat) (g' h' : Nat → List Sh) : Bool := sameL (lst Oj n g) (lst Oj n' g') && sameL (lst Ev m h) (lst Ev m' h')
def subHB (n m : Nat) (g h : Nat → List Sh) (n' m' : Nat) (g' h' : Nat → List Sh) : Bool := sameL (lst Oj n g) (lst Oj n' g') && subB (rwAt h') m' 0 (rwAt h) m
/-- A list of values of which few are known. -/
def tmOf (n : Nat) (l : List (Nat × SV)) : List SV := l.foldl (fun t p => t.set p.1 p.2) (List.replicate n .any)
end Go.Pl
namespace Go.Proofs
open Go Go.Sx Go.Pl
def F9p : List Sh → Tree Sh
  | [.agg [.sl 2 n _, .sl 8 m _]] => .leaf (.b (smallB n m))
  | _ => .fail
def F12p : List Sh → Tree Sh
  | [.agg [.sl 2 n g, .sl 8 m h], .agg [.sl 2 n' g', .sl 8 m' h']] => .need (okB Oj n g) (.need (okB Oj n' g') (.need (okB Ev m h) (.need (okB Ev m' h') (.leaf (.b (sameHB n m g h n' m' g' h'))))))
  | _ => .fail
def F21p : List Sh → Tree Sh
  | [.agg [.sl 2 n g, .sl 8 m h], .agg [.sl 2 n' g', .sl 8 m' h']] => .need (okB Oj n g) (.need (okB Oj n' g') (.need (okB Ev m h) (.need (okB Ev m' h') (.leaf (.b (subHB n m g h n' m' g' h'))))))
  | _ => .fail
theorem O9p : FnOK Tryd.prog (gls5 W5) 9 F9p := O9
theorem O12p : FnOK Tryd.prog (gls5 W5) 12 F12p := O12
theorem O21p : FnOK Tryd.prog (gls5 W5) 21 F21p := O21
theorem O22p : FnOK Tryd.prog (gls5 W5) 22 F21p := O22
end Go.Proofs
namespace Go.Pl
open Go Go.Sx
theorem subB_congr {p p' : Nat → Ev} : ∀ (k i : Nat) (q q' : Nat → Ev) (r : Nat), (∀ j, j < k → p (i + j) = p' (i + j)) → (∀ j, j < r → q j = q' j) → subB p k i q r = subB p' k i q' r
  | 0, _, _, _, _, _, _ => rfl
  | k + 1, i, q, q', r, h1, h2 => by
    have hp : p i = p' i := h1 0 (by omega)
    have h1' : ∀ j, j < k → p (i + 1 + j) = p' (i + 1 + j) := fun j hj => by
      have := h1 (j + 1) (by omega)
      rwa [show i + (j + 1) = i + 1 + j by omega] at this
    simp only [subB]
    by_cases hr : 0 < r
    · rw [h2 0 hr, hp]
      cases (decide (0 < r) && evEq (q' 0) (p' i)) with
      | true => simp only [cond_true]; exact subB_congr k (i + 1) _ _ _ h1' fun j hj => h2 (1 + j) (by omega)
      | false => simp only [cond_false]; exact subB_congr k (i + 1) _ _ _ h1' h2
    · have e : decide (0 < r) = false := decide_eq_false hr
      rw [e]
      simp only [Bool.false_and, cond_false]
      exact subB_congr k (i + 1) _ _ _ h1' h2
theorem rwAt_fnR {α : Type} [Row α] (o : Nat → α) : rwAt (fnR o) = o := funext fun i => rowAt_put o i
theorem lst_pt {α : Type} [Row α] {n : Nat} {o p : Nat → α} (h : ∀ j, j < n → o j = p j) : lst α n (fnR o) = lst α n (fnR p) := lst_congr fun i hi => by simp only [fnR, h i hi]
theorem keptF_congr {P : Nat → Ev → Bool} {p p' : Nat → Ev} : ∀ {m : Nat}, (∀ j, j < m → p j = p' j) → keptF P p m = keptF P p' m
  | 0, _ => rfl
  | m + 1, h => by
    simp only [keptF]
    rw [keptF_congr (m := m) fun j hj => h j (by omega), h m (by omega)]
theorem keptF_ext {P Q : Nat → Ev → Bool} {p : Nat → Ev} (h : ∀ i e, P i e = Q i e) : ∀ {m : Nat}, keptF P p m = keptF Q p m
  | 0 => rfl
  | m + 1 => by
    simp only [keptF]
    rw [keptF_ext h (m := m), h]
theorem sameHB_true {n m n' m' : Nat} {g h g' h' : Nat → List Sh} (h1 : lst Oj n g = lst Oj n' g') (h2 : lst Ev m h = lst Ev m' h') : sameHB n m g h n' m' g' h' = true := by
  unfold sameHB
  rw [sameL_true h1, sameL_true h2]; rfl
def txf (p : Nat → Ev) (j : Nat) : Int := (p j).tx
theorem lst_kept (l : List Ev) : lst Ev (len l) (fnR (nth l)) = l := lst_nth l
theorem okB_kept (l : List Ev) : okB Ev (len l) (fnR (nth l)) = true := okB_put _ _
theorem room_le {n b : Nat} (h : n ≤ 100000) (hb : b ≤ 1000) : roomB n b = true := by
  show decide (n * b ≤ 140737488355328 ∧ n ≤ maxLen) = true
  rw [maxLen_eq]
  have : n * b ≤ 100000 * 1000 := Nat.mul_le_mul h hb
  exact decide_eq_true ⟨by omega, by omega⟩
theorem proom_le {n b : Nat} (h : n ≤ 100000) (hb : b ≤ 1000) : prim.room n b = true := room_le h hb
end Go.Pl
namespace Go.Proofs
open Go Go.Sx Go.Pl
theorem upN_le (x : Int) (m : Nat) : upN x m ≤ m := by unfold upN; omega
end Go.Proofs
namespace Go.Pl
open Go Go.Sx Go.Proofs
def keepN (x : Int) : Nat → Ev → Bool := fun _ e => !(e.tx == x)
/-- What the functions below answer, as things of which nothing is known while a law is run. -/
structure Lb5 where
  km : (Nat → Ev → Bool) → Nat → (Nat → Ev) → Nat
  kp : (Nat → Ev → Bool) → Nat → (Nat → Ev) → Nat → Ev
  sub : Nat → Nat → (Nat → List Sh) → (Nat → List Sh) → Nat → Nat → (Nat → List Sh) → (Nat → List Sh) → Bool
  same : Nat → Nat → (Nat → List Sh) → (Nat → List Sh) → Nat → Nat → (Nat → List Sh) → (Nat → List Sh) → Bool
  un : Int → Nat → Nat
  dl : Nat → (Nat → Ev) → Int → Int → Nat
  dp : Nat → (Nat → Ev) → Int → Int → Nat → Ev
  k : Nat → (Nat → Ev) → Int
  e : Nat → (Nat → Ev) → Nat
  bk : Nat → Nat → (Nat → List Sh) → (Nat → List Sh) → Int
  be : Nat → Nat → (Nat → List Sh) → (Nat → List Sh) → Nat
  sp : (Nat → Ev) → Nat → Nat
def L5 : Lb5 where
  km P m p := len (keptF P p m)
  kp P m p := nth (keptF P p m)
  sub := subHB
  same := sameHB
  un := upN
  dl m p x k := len (dropE m p x k)
  dp m p x k := nth (dropE m p x k)
  k := takeK
  e := takeE
  bk := badPos
  be := badNo
  sp := spN
end Go.Pl
namespace Go.Proofs
open Go Go.Sx Go.Pl
def G15 (L : Lb5) : List Sh → Tree Sh
  | [.agg [.sl 2 n g, .sl 8 m h], .i .i64 x] => .need (okB Ev m h) (.need (roomB n 16) (.need (roomB m 64) (.leaf (.agg [.os 31 2 n g, .os 34 8 (L.km (keepN x) m (rwAt h)) (fnR (L.kp (keepN x) m (rwAt h)))]))))
  | _ => .fail
def G17 (L : Lb5) : List Sh → Tree Sh
  | [.agg [.sl 2 n g, .sl 8 m h], cl] => match keepP cl with
    | some P => .need (okB Ev m h) (.need (roomB n 16) (.need (roomB m 64) (.leaf (.agg [.os 31 2 n g, .os 34 8 (L.km P m (rwAt h)) (fnR (L.kp P m (rwAt h)))]))))
    | none => .fail
  | _ => .fail
def G12 (L : Lb5) : List Sh → Tree Sh
  | [.agg [.sl 2 n g, .sl 8 m h], .agg [.sl 2 n' g', .sl 8 m' h']] => .need (okB Oj n g) (.need (okB Oj n' g') (.need (okB Ev m h) (.need (okB Ev m' h') (.leaf (.b (L.same n m g h n' m' g' h'))))))
  | _ => .fail
def G21 (L : Lb5) : List Sh → Tree Sh
  | [.agg [.sl 2 n g, .sl 8 m h], .agg [.sl 2 n' g', .sl 8 m' h']] => .need (okB Oj n g) (.need (okB Oj n' g') (.need (okB Ev m h) (.need (okB Ev m' h') (.leaf (.b (L.sub n m g h n' m' g' h'))))))
  | _ => .fail
def G13 (L : Lb5) : List Sh → Tree Sh
  | [.agg [.sl 2 n g, .sl 8 m h], .i .i64 x] => .need (roomB n 16) (.need (roomB (L.un x m) 64) (.leaf (.agg [.os 31 2 n g, .os 34 8 (L.un x m) h])))
  | _ => .fail
def G23 (L : Lb5) : List Sh → Tree Sh
  | [.agg [.sl 2 n g, .sl 8 m h], .i .i64 x, .i .i64 k] => .need (okB Oj n g) (.need (okB Ev m h) (.need (retsB m h) (.node (bigB n m) (.leaf (.tup [.agg [.sl 0 0 fun _ => [], .sl 0 0 fun _ => []], .er 2 125])) (.node (goodB n m g h)
      (.node (takeB m (rwAt h)) (.node (txB m (rwAt h) x) (.node (deedB m (rwAt h) x k) (.leaf (.tup [.agg [.os 31 2 n (fO g), .os 34 8 (L.dl m (rwAt h) x k) (fnR (L.dp m (rwAt h) x k))], .v .nilIface])) (.leaf (.tup [.agg [.sl 0 0 fun _ => [], .sl 0 0 fun _ => []], .er 1 125])))
        (.leaf (.tup [.agg [.sl 0 0 fun _ => [], .sl 0 0 fun _ => []], .er 0 125]))) (.leaf (.tup [.agg [.sl 0 0 fun _ => [], .sl 0 0 fun _ => []], .ifc 81 (.pt [.i .i64 (L.k m (rwAt h)), .er (L.e m (rwAt h)) 125])])))
      (.leaf (.tup [.agg [.sl 0 0 fun _ => [], .sl 0 0 fun _ => []], .ifc 81 (.pt [.i .i64 (L.bk n m g h), .er (L.be n m g h) 125])]))))))
  | _ => .fail
def nS : List SV := [.sh (.sl 0 0 fun _ => []), .sh (.sl 0 0 fun _ => [])]
/-- A history, as cells. -/
def hS (n m : Nat) (o : Nat → Oj) (p : Nat → Ev) : List SV := [.sh (.sl 2 n (fnR o)), .sh (.sl 8 m (fnR p))]
def natsEq : List Nat → List Nat → Bool
  | [], [] => true
  | x :: l, y :: r => Nat.beq x y && natsEq l r
  | _, _ => false
/-- A run stops where one of these pieces of code comes next. -/
def pauseAt (f : Nat) (ps : List (List Nat)) (g : Nat) (td : List It) : Bool := Nat.beq g f && match td with
  | .code r :: _ => ps.any (natsEq r)
  | _ => false
end Go.Proofs
namespace Go.Pl
open Go Go.Sx Go.Proofs
def evs (m : Nat) (p : Nat → Ev) : List Ev := (List.range m).map p
theorem lst_evs (m : Nat) (p : Nat → Ev) : lst Ev m (fnR p) = evs m p := lst_put p m
theorem evs_succ (m : Nat) (p : Nat → Ev) : evs (m + 1) p = evs m p ++ [p m] := by simp [evs, List.range_succ]
theorem evs_nth (l : List Ev) : evs (len l) (nth l) = l := range_nth l
theorem evs_len (m : Nat) (p : Nat → Ev) : (evs m p).length = m := by simp [evs]
theorem keptF_filter {K : Ev → Bool} {P : Nat → Ev → Bool} (h : ∀ i e, P i e = K e) (p : Nat → Ev) : ∀ m, keptF P p m = (evs m p).filter K
  | 0 => rfl
  | m + 1 => by
    simp only [keptF, evs_succ, List.filter_append, ← keptF_filter h p m, h]
    cases hk : K (p m) <;> simp [hk]
theorem keptF_sub (P : Nat → Ev → Bool) (p : Nat → Ev) : ∀ m, (keptF P p m).Sublist (evs m p)
  | 0 => List.Sublist.refl _
  | m + 1 => by
    simp only [keptF, evs_succ]
    cases P m (p m)
    · exact (keptF_sub P p m).trans (List.sublist_append_left _ _)
    · exact (keptF_sub P p m).append (List.Sublist.refl _)
theorem evs_pre {M m : Nat} (h : M ≤ m) (p : Nat → Ev) : evs m p = evs M p ++ (List.range (m - M)).map fun j => p (M + j) := by
  unfold evs
  rw [show m = M + (m - M) by omega, List.range_add, List.map_append, List.map_map]
  simp only [Nat.add_sub_cancel_left]
  rfl
theorem evs_sub {M m : Nat} (h : M ≤ m) (p : Nat → Ev) : (evs M p).Sublist (evs m p) := by
  rw [evs_pre h]; exact List.sublist_append_left _ _
theorem evs_cons (r : Nat) (q : Nat → Ev) : (List.range (r + 1)).map q = q 0 :: (List.range r).map (dropG 1 q) := by
  rw [List.range_succ_eq_map, List.map_cons, List.map_map]
  congr 1
  refine List.map_congr_left fun i _ => ?_
  show q (i + 1) = q (1 + i)
  rw [Nat.add_comm]
theorem subB_iff (p : Nat → Ev) : ∀ k i q r, subB p k i q r = true ↔ ((List.range r).map q).Sublist ((List.range k).map fun j => p (i + j))
  | 0, i, q, r => by
    simp only [subB]
    cases r with
    | zero => simp
    | succ r => simp [List.range_succ_eq_map]
  | k + 1, i, q, r => by
    have e : (List.range (k + 1)).map (fun j => p (i + j)) = p i :: (List.range k).map (fun j => p (i + 1 + j)) := by
      rw [List.range_succ_eq_map, List.map_cons, List.map_map]
      congr 1
      refine List.map_congr_left fun j _ => ?_
      show p (i + (j + 1)) = _
      congr 1; omega
    rw [e]
    simp only [subB]
    cases r with
    | zero => simp [subB_none]
    | succ r =>
      rw [evs_cons]
      by_cases h : q 0 = p i
      · have hb : (decide (0 < r + 1) && evEq (q 0) (p i)) = true := by simp [evEq, h]
        rw [hb]
        simp only [cond_true, Nat.add_sub_cancel]
        rw [subB_iff p k (i + 1) (dropG 1 q) r, h, List.cons_sublist_cons]
      · have hb : (decide (0 < r + 1) && evEq (q 0) (p i)) = false := by simp [evEq, h]
        rw [hb]
        simp only [cond_false]
        rw [subB_iff p k (i + 1) q (r + 1), evs_cons, List.sublist_cons_iff]
        refine ⟨fun h => .inl h, fun h' => ?_⟩
        rcases h' with h' | ⟨r', h1, h2⟩
        · exact h'
        · exact (h (List.cons.inj h1).1).elim
theorem subHB_iff {n m n' m' : Nat} {o o' : Nat → Oj} {p p' : Nat → Ev} : subHB n m (fnR o) (fnR p) n' m' (fnR o') (fnR p') = true ↔ lst Oj n (fnR o) = lst Oj n' (fnR o') ∧ (evs m p).Sublist (evs m' p') := by
  unfold subHB
  rw [Bool.and_eq_true, rwAt_fnR, rwAt_fnR, subB_iff]
  simp only [Nat.zero_add]
  exact and_congr (by simp [sameL]) Iff.rfl
theorem subHB_true {n m m' : Nat} {o : Nat → Oj} {p p' : Nat → Ev} (h : (evs m p).Sublist (evs m' p')) : subHB n m (fnR o) (fnR p) n m' (fnR o) (fnR p') = true := subHB_iff.2 ⟨rfl, h⟩
theorem sameHB_evs {n m m' : Nat} {o : Nat → Oj} {p p' : Nat → Ev} (h : evs m p = evs m' p') : sameHB n m (fnR o) (fnR p) n m' (fnR o) (fnR p') = true :=
  sameHB_true rfl (by rw [lst_evs, lst_evs, h])
/-- With it, how many events of a transaction there are. -/
def cntF (p : Nat → Ev) (a : Int) (i : Nat) : Nat := (keptF (keepB a) p i).length
end Go.Pl
namespace Go.Proofs
open Go Go.Sx Go.Pl
theorem goesS_runUM {P : Program} {C : Ctx} {H0 : Mem} {w0 : World} (hC : CtxOK P C) (hF : FnsOK P C) {hold : Nat → Bool} {m n g : Nat} {td : List It} {c : Core} {stk : List Fr} {ts : List Tgt} {R : Hp → Prop} {φ : Sh → Prop}
    (h : MeetsE (Fe2OK P C (K0 H0 w0) ts R φ) (runU C hold m n g td c stk ts)) : GoesS P C (K0 H0 w0) g td c stk R φ := by
  rw [meetsE_eq] at h
  exact goesS_runU hC hF h
theorem goesS_runVM {P : Program} {C : Ctx} {H0 : Mem} {w0 : World} (hC : CtxOK P C) (hF : FnsOK P C) {pause : Nat → List It → Bool} {m n g : Nat} {td : List It} {c : Core} {stk : List Fr} {ts : List Tgt} {R : Hp → Prop} {φ : Sh → Prop}
    (h : MeetsE (Fe2OK P C (K0 H0 w0) ts R φ) (runV C pause m n g td c stk ts)) : GoesS P C (K0 H0 w0) g td c stk R φ := by
  rw [meetsE_eq] at h
  exact goesS_runV hC hF h
theorem O15g : FnOK Tryd.prog (gls5 W5) 15 (G15 L5) := O15
theorem O17g : FnOK Tryd.prog (gls5 W5) 17 (G17 L5) := O17
theorem O12g : FnOK Tryd.prog (gls5 W5) 12 (G12 L5) := O12p
theorem O21g : FnOK Tryd.prog (gls5 W5) 21 (G21 L5) := O21p
theorem O13g : FnOK Tryd.prog (gls5 W5) 13 (G13 L5) := O13
theorem O23g : FnOK Tryd.prog (gls5 W5) 23 (G23 L5) := O23
theorem no {b : Bool} {T : Prop} (h : b = true) : b = false → T := fun h2 => by rw [h] at h2; cases h2
theorem nno {b : Bool} {T : Prop} (h : b = true) : prim.nt b = true → T := fun h2 => by rw [h] at h2; cases h2
theorem keptF_evs (P : Nat → Ev → Bool) (p : Nat → Ev) (m : Nat) : evs (L5.km P m p) (L5.kp P m p) = keptF P p m := evs_nth _
theorem km_le (P : Nat → Ev → Bool) (p : Nat → Ev) (m : Nat) : L5.km P m p ≤ m := keptF_le P p m
end Go.Proofs
namespace Go.Sx
/-- A frame, its own deferred calls and its round kept. -/
def atQ (b : Frame) (a : Act) (todo : List Item) : Frame :=
  { fn := b.fn, tmps := a.tmps, todo, defers := a.defers ++ b.defers, mode := .run, kind := b.kind, roundOf := b.roundOf }
def qAct (b : Frame) (a : Act) : Act := { a with defers := a.defers ++ b.defers }
theorem atQ_R (b : Frame) (a : Act) (todo : List Item) : atQ b a todo = b.atR (qAct b a) todo := rfl
theorem qAct_eval (b : Frame) (a : Act) : (qAct b a).eval = a.eval := funext fun x => by cases x <;> rfl
theorem qAct_put (b : Frame) (a : Act) (d : Option Nat) (v : Value) : (qAct b a).put d v = qAct b (a.put d v) := by cases d <;> rfl
def bq (g : Nat) (r : Option Nat) (ds : List Deferred) : Frame := { (default : Frame) with fn := g, kind := .normal, roundOf := r, defers := ds }
theorem atQ_base (g : Nat) (a : Act) (todo : List Item) : atQ (bq g none []) a todo = (base g).at a todo := by simp [atQ, Frame.at, bq, base]
theorem finish_atQ (b : Frame) (a : Act) (ops : Array Oper) (i : Nat) (rest : List Nat) (k : List Item) (v : Value) :
    (atQ b a (.inRegion ops (i :: rest) :: k)).finish v = atQ b (a.put ((ops[i]?).bind (·.dst)) v) (.inRegion ops rest :: k) := by
  rw [atQ_R, Frame.finish_atR, qAct_put, ← atQ_R]
section moves
variable {P : Program} {b : Frame} {a : Act} {k : List Item} {cs : List Frame} {w : World} {ops : Array Oper}
theorem sQ_skip : step P (lone (atQ b a (.code .skip :: k)) cs w) = .next (lone (atQ b a k) cs w) := by rw [atQ_R, atQ_R]; exact stepR_skip
theorem sQ_inBlock {id : Nat} : step P (lone (atQ b a (.inBlock id :: k)) cs w) = .next (lone (atQ b a k) cs w) := by rw [atQ_R, atQ_R]; exact stepR_inBlock
theorem sQ_seq {x y : Code} : step P (lone (atQ b a (.code (.seq x y) :: k)) cs w) = .next (lone (atQ b a (.code x :: .code y :: k)) cs w) := by rw [atQ_R, atQ_R]; exact stepR_seq
theorem sQ_cond {c : Operand} {x y : Code} {t : Bool} (h : a.eval c = .bool t) : step P (lone (atQ b a (.code (.cond c x y) :: k)) cs w) = .next (lone (atQ b a (.code (if t then x else y) :: k)) cs w) := by
  rw [atQ_R, atQ_R]; exact stepR_cond (by rw [qAct_eval]; exact h)
theorem sQ_block {id : Nat} {c : Code} : step P (lone (atQ b a (.code (.block id c) :: k)) cs w) = .next (lone (atQ b a (.code c :: .inBlock id :: k)) cs w) := by rw [atQ_R, atQ_R]; exact stepR_block
theorem sQ_loop {c : Code} : step P (lone (atQ b a (.code (.loop c) :: k)) cs w) = .next (lone (atQ b a (.code c :: .inLoop c :: k)) cs w) := by rw [atQ_R, atQ_R]; exact stepR_loop
theorem sQ_inLoop {c : Code} : step P (lone (atQ b a (.inLoop c :: k)) cs w) = .next (lone (atQ b a (.code c :: .inLoop c :: k)) cs w) := by rw [atQ_R, atQ_R]; exact stepR_inLoop
theorem sQ_exit {id : Nat} {k' : List Item} (h : exitTo id k = some k') : step P (lone (atQ b a (.code (.exit id) :: k)) cs w) = .next (lone (atQ b a k') cs w) := by rw [atQ_R, atQ_R]; exact stepR_exit h
theorem sQ_ret (hb : b.roundOf = none) : step P (lone (atQ b a (.code .ret :: k)) cs w) = .next (lone { atQ b a (.code .ret :: k) with mode := .returning } cs w) := by rw [atQ_R]; exact stepR_ret hb
theorem sQ_end (hb : b.roundOf = none) : step P (lone (atQ b a []) cs w) = .next (lone { atQ b a [] with mode := .returning } cs w) := by rw [atQ_R]; exact stepR_end hb
theorem sQ_region {id : Nat} : step P (lone (atQ b a (.code (.region id ops false) :: k)) cs w) = .next (lone (atQ b a (.inRegion ops (List.range ops.size) :: k)) cs w) := by rw [atQ_R, atQ_R]; exact stepR_region
theorem sQ_region_end : step P (lone (atQ b a (.inRegion ops [] :: k)) cs w) = .next (lone (atQ b a k) cs w) := by rw [atQ_R, atQ_R]; exact stepR_region_end
theorem sQ_region_draw {id : Nat} : step P (lone (atQ b a (.code (.region id ops true) :: k)) cs w) =
      .next (lone (atQ b a (.inRegion ops (Region.schedule (P.follows .mixedOrders) ops (w.tape w.drawn (.order b.fn id))) :: k)) cs { w with drawn := w.drawn + 1 }) := by rw [atQ_R, atQ_R]; exact stepR_region_draw
end moves
/-! No deferred calls in the code. -/
def noDeferOp : Op → Bool
  | .defer _ => false
  | _ => true
def noDefer : Code → Bool
  | .seq a b => noDefer a && noDefer b
  | .cond _ a b => noDefer a && noDefer b
  | .block _ b => noDefer b
  | .loop b => noDefer b
  | .rangeFunc _ _ a b => noDefer a && noDefer b
  | .region _ ops _ => ops.toList.all fun o => noDeferOp o.op
  | _ => true
theorem noDefer_child {c : Code} (h : noDefer c = true) (i : Nat) : noDefer (child c i) = true := by
  unfold child
  split <;> simp_all [noDefer]
theorem noDefer_at {c : Code} (h : noDefer c = true) : ∀ p : List Nat, noDefer (codeAt c p) = true
  | [] => h
  | i :: p => noDefer_child (noDefer_at h p) i
theorem noDefer_reg {id : Nat} {ops : Array Oper} {dr : Bool} (h : noDefer (.region id ops dr) = true) {i : Nat} {o : Oper} (ho : ops[i]? = some o) : ∀ c, o.op ≠ .defer c := by
  intro c hc
  simp only [noDefer] at h
  have hm : o ∈ ops.toList := by
    rw [← Array.getElem?_toList] at ho
    exact List.mem_of_getElem? ho
  have := List.all_eq_true.1 h o hm
  rw [hc] at this
  cases this
section
variable {P : Program} {C : Ctx} {K : Kx} {H H' H'' : Mem} {E E' E'' : Env} {w w' w'' : World}
theorem one_opQ {ops : Array Oper} {i : Nat} {rest : List Nat} {Q : Exit → Act → World → Prop} {next : Act → World → Prop} {a : Act} (hnd : ∀ o, ops[i]? = some o → ∀ c, o.op ≠ .defer c) (hQ : ∀ e a w, Q e a w → e = .normal)
    (h : wpOp P ops Q i next a w) (b : Frame) (k : List Item) (cs : List Frame) :
    ∃ a' w', next a' w' ∧ Steps P (lone (atQ b a (.inRegion ops (i :: rest) :: k)) cs w) (lone (atQ b a' (.inRegion ops rest :: k)) cs w') := by
  unfold wpOp at h
  cases ho : ops[i]? with
  | none =>
    simp only [ho] at h
    have hs := stepR_op_skip (P := P) (b := b) (a := qAct b a) (k := k) (cs := cs) (w := w) (ops := ops) (i := i) (rest := rest) (by simp [ho])
    simp only [ho, Option.bind_none, Act.put] at hs
    exact ⟨a, w, h, .one hs⟩
  | some o =>
    simp only [ho] at h
    by_cases hw : Region.wanted o (yielded ops a.tmps) = true
    · simp only [hw, if_true] at h
      rcases h with h | ⟨_, _, _, hq⟩
      case inr => cases hQ _ _ _ hq
      simp only [Oper.wp] at h
      have hg := stepGR_op (P := P) (b := b) (a := qAct b a) (k := k) (cs := cs) (w := w) (rest := rest) ho hw
      rw [Oper.semAt_eq _ _ _ (hnd o ho), qAct_eval, ← atQ_R] at hg
      have hfin : ∀ v, (atQ b a (.inRegion ops (i :: rest) :: k)).finish v = atQ b (a.put o.dst v) (.inRegion ops rest :: k) := by
        intro v; rw [finish_atQ, ho]; rfl
      generalize hr : (execOp a.eval o).run P w = r at h
      cases r with
      | ok n w' =>
        cases n <;> simp only [Oper.upon] at h
        case value v =>
          refine ⟨_, _, h, .one (step_lone_go ?_)⟩
          rw [hg, ← hfin]; simp [stepG.apply, hr]
        case skip =>
          refine ⟨_, _, h, .one (step_lone_go ?_)⟩
          rw [hg, ← hfin]; simp [stepG.apply, hr]
        case defer d =>
          refine ⟨_, _, h, .one (step_lone_go ?_)⟩
          have : ({ atQ b a (.inRegion ops (i :: rest) :: k) with defers := d :: (a.defers ++ b.defers) } : Frame).finish undef =
              atQ b ({ a with defers := d :: a.defers }.put o.dst undef) (.inRegion ops rest :: k) := by
            have := finish_atQ b { a with defers := d :: a.defers } ops i rest k undef
            rw [ho] at this; exact this
          rw [hg]; simp only [stepG.apply, Sem.runT_eq, hr, GStep.bare_after]
          exact congrArg (fun fr => GStep.go { frame := fr, callers := cs, status := .running, dying := none } w') this
        case enter f args =>
          obtain ⟨e, w'', fr, hR, hsteps, _, hleave⟩ := h (atQ b a (.inRegion ops (i :: rest) :: k) :: cs)
          have henter : step P (lone (atQ b a (.inRegion ops (i :: rest) :: k)) cs w) =
              .next (lone (Frame.enter P f args .normal) (atQ b a (.inRegion ops (i :: rest) :: k) :: cs) w') :=
            step_lone_go (by rw [hg]; simp [stepG.apply, hr, atQ])
          cases e with
          | returned v =>
            refine ⟨_, _, hR, .head henter (hsteps.trans (.one ?_))⟩
            rw [← hfin]; exact step_leave_returned hleave
          | panicked chain => cases hQ _ _ _ hR
          | outgrown => obtain ⟨_, _, hq⟩ := hR; cases hQ _ _ _ hq
        case row row args =>
          obtain ⟨v, w'', hR, hsteps⟩ := h (atQ b a (.inRegion ops (i :: rest) :: k)) cs
          have henter : step P (lone (atQ b a (.inRegion ops (i :: rest) :: k)) cs w) =
              .next (lone (Frame.ofRow P row args .normal) (atQ b a (.inRegion ops (i :: rest) :: k) :: cs) w') :=
            step_lone_go (by rw [hg]; simp [stepG.apply, hr, atQ])
          refine ⟨_, _, hR, .head henter ?_⟩
          rw [← hfin]; exact hsteps
        all_goals first | exact h.elim | cases hQ _ _ _ h
      | halt x w' =>
        cases x <;> simp only [Oper.upon] at h
        all_goals first | exact h.elim | cases hQ _ _ _ h
    · simp only [hw, if_false, Bool.false_eq_true] at h
      have hs := stepR_op_skip (P := P) (b := b) (a := qAct b a) (k := k) (cs := cs) (w := w) (ops := ops) (i := i) (rest := rest)
        (by simp [ho]; simpa [qAct] using hw)
      simp only [ho, Option.bind_some] at hs
      rw [qAct_put] at hs
      exact ⟨_, _, h, .one hs⟩
theorem ops_goQ {ops : Array Oper} {Q : Exit → Act → World → Prop} (hnd : ∀ (i : Nat) (o : Oper), ops[i]? = some o → ∀ c, o.op ≠ .defer c) (hQ : ∀ e a w, Q e a w → e = .normal) (b : Frame) (k : List Item) (cs : List Frame) : ∀ (l : List Nat) (a : Act) (w : World), wpOps P ops Q l a w →
    ∃ a' w', Q .normal a' w' ∧ Steps P (lone (atQ b a (.inRegion ops l :: k)) cs w) (lone (atQ b a' k) cs w')
  | [], a, w, h => ⟨a, w, h, .one sQ_region_end⟩
  | i :: l, a, w, h => by
    rw [wpOps_cons] at h
    obtain ⟨a1, w1, h1, h2⟩ := one_opQ (hnd i) hQ h b k cs
    obtain ⟨a2, w2, h3, h4⟩ := ops_goQ hnd hQ b k cs l a1 w1 h1
    exact ⟨a2, w2, h3, h2.trans h4⟩
theorem drawnQ {call : Nat → List SV → Core → Tree (SV × Core)} (hC : CtxOK P C) (hF : FnsOK P C) (hK : CallHyp P C K call) {c : Core} {a : Act} {φ : Core → Prop} {ops : Array Oper} {id : Nat} (hnd : ∀ (i : Nat) (o : Oper), ops[i]? = some o → ∀ c, o.op ≠ .defer c)
    (st : St C K H E w c a) {g : Nat} (h : (drawn C call g ops c).All φ) (b : Frame) (k : List Item) (cs : List Frame) :
    ∃ c' a' H' E' w', φ c' ∧ St C K H' E' w' c' a' ∧ Mv K H E w c H' E' w' c' ∧ Steps P (lone (atQ b a (.code (.region id ops true) :: k)) cs w) (lone (atQ b a' k) cs w') := by
  have h1 := drawn_any hC hF hK st h
  have hm := hC.mixed
  have hs : ∀ t, wpOps P ops _ (Region.schedule (P.follows .mixedOrders) ops t) a { w with drawn := w.drawn + 1 } := fun t => by
    simp only [Region.schedule, hm, Bool.true_or, if_true]
    exact wpAny_sound ops.size t _ a _ h1
  obtain ⟨a', w', ⟨_, c', H', E', e1, e2, e3⟩, e4⟩ := ops_goQ hnd (fun _ _ _ h => h.1) b k cs _ a _ (hs (w.tape w.drawn (.order b.fn id)))
  exact ⟨c', a', H', E', w', e1, e2, e3, .head sQ_region_draw e4⟩
/-! A step of the code, in such a frame. -/
theorem result_leaf {fn : Func} {c : Core} {φ : Out → Prop} (h : (result C fn c).All φ) : ∃ sv, result C fn c = .leaf (.done sv c) ∧ φ (.done sv c) := by
  unfold result at h ⊢
  split
  · rename_i sv hs; rw [hs] at h; exact ⟨sv, rfl, h⟩
  · rename_i l hne hs
    split at h
    · rename_i sv hs2; rw [hs] at hs2; cases hs2; exact (hne sv rfl).elim
    · rename_i l2 hne2 hs2; rw [hs] at hs2; cases hs2; exact ⟨_, rfl, h⟩
    · exact h.elim
  · rename_i hs; rw [hs] at h; exact h.elim
/-- Where a function is done: its result, in every world that is like this one. -/
def ResAt (P : Program) (C : Ctx) (fn : Func) (H : Mem) (E : Env) (sv : SV) (c : Core) (a : Act) : Prop :=
  ∀ (K : Kx) (w : World), St C K H E w c a → ∃ v, Den H E sv v ∧ (results fn a.tmps).run P w = .ok v w
theorem resAt_of (hC : CtxOK P C) {fn : Func} {c : Core} {a : Act} {sv : SV} (h : result C fn c = .leaf (.done sv c)) : ResAt P C fn H E sv c a := fun K w st => by
  obtain ⟨sv', v, h1, h2, h3⟩ := result_ok (φ := fun o => o = .done sv c) hC st (by rw [h]; exact rfl)
  cases h1
  exact ⟨v, h2, h3⟩
def SigQ (P : Program) (C : Ctx) (K : Kx) (fn : Func) (H : Mem) (E : Env) (w : World) (c : Core) (m : Machine) (b : Frame) (cs : List Frame) : Sig → Prop
  | .done sv c' => ∃ (a' : Act) (w' : World) (H' : Mem) (E' : Env) (todo : List Item), Steps P m (lone { atQ b a' todo with mode := .returning } cs w') ∧ St C K H' E' w' c' a' ∧ Mv K H E w c H' E' w' c' ∧ ResAt P C fn H' E' sv c' a'
  | .go td' c' => ∃ (a' : Act) (w' : World) (H' : Mem) (E' : Env) (items' : List Item), Steps P m (lone (atQ b a' items') cs w') ∧ St C K H' E' w' c' a' ∧ Mv K H E w c H' E' w' c' ∧ ItOK (bodyOf fn) td' items'
  | .halt td' c' => ∃ (a' : Act) (w' : World) (H' : Mem) (E' : Env) (items' : List Item), Steps P m (lone (atQ b a' items') cs w') ∧ St C K H' E' w' c' a' ∧ Mv K H E w c H' E' w' c' ∧ ItOK (bodyOf fn) td' items'
/-- Does the function end here? -/
def endsB (fn : Func) : List It → Bool
  | [] => true
  | .code p :: _ => match codeAt (bodyOf fn) p with
    | .ret => true
    | _ => false
  | _ => false
theorem stepQ_ok (hC : CtxOK P C) (hF : FnsOK P C) {call : Nat → List SV → Core → Tree (SV × Core)} (hK : CallHyp P C K call) {top : Bool} {g : Nat} {fn : Func} {td : List It} {c : Core} {a : Act} {items : List Item} {φ : Sig → Prop} (hnd : noDefer (bodyOf fn) = true)
    (h : (stepR C call top g fn td c).All φ) (st : St C K H E w c a) (hi : ItOK (bodyOf fn) td items) (b : Frame) (cs : List Frame) (hr : b.roundOf = none ∨ endsB fn td = false) :
    ∃ sig, φ sig ∧ SigQ P C K fn H E w c (lone (atQ b a items) cs w) b cs sig := by
  have mv0 : Mv K H E w c H E w c := mv_refl st rfl rfl rfl rfl
  have go : ∀ {td' : List It} {c' : Core} {H' : Mem} {E' : Env} {w' : World} {a' : Act} {items' : List Item}, φ (.go td' c') → St C K H' E' w' c' a' → Mv K H E w c H' E' w' c' → ItOK (bodyOf fn) td' items' →
      Steps P (lone (atQ b a items) cs w) (lone (atQ b a' items') cs w') → ∃ sig, φ sig ∧ SigQ P C K fn H E w c (lone (atQ b a items) cs w) b cs sig := fun h1 h2 h3 h4 h5 => ⟨_, h1, _, _, _, _, _, h5, h2, h3, h4⟩
  have fin : ∀ (todo : List Item), ((result C fn c).bind toSig).All φ → step P (lone (atQ b a items) cs w) = .next (lone { atQ b a todo with mode := .returning } cs w) → ∃ sig, φ sig ∧ SigQ P C K fn H E w c (lone (atQ b a items) cs w) b cs sig := fun todo hr hs => by
    obtain ⟨sv, h1, h2⟩ := result_leaf (Tree.All_bind hr)
    exact ⟨_, h2, a, w, H, E, todo, .one hs, st, mv0, resAt_of hC h1⟩
  unfold stepR at h
  split at h
  · cases hi
    have hb : b.roundOf = none := by
      rcases hr with hr | hr
      · exact hr
      · cases hr
    exact fin _ h (sQ_end hb)
  · cases hi with
    | inBlock id hk => exact go h st mv0 hk (.one sQ_inBlock)
  · exact h.elim
  · cases hi with
    | reg p l id ops hc hk => exact go h (st.scrub g) (mv_refl st rfl rfl rfl rfl) hk (.one sQ_region_end)
  · rename_i p i r k
    cases hi with
    | reg p l id ops hc hk =>
      have hd : noDefer (.region id ops false) = true := by rw [← hc]; exact noDefer_at hnd p
      rw [hc] at h
      simp only at h
      obtain ⟨a', w', h1, h2⟩ := one_opQ (fun o ho => noDefer_reg hd ho) (fun _ _ _ h => h.elim) (opStep_ok hC hF hK st (Tree.All_bind h) (fun a' w' => ∃ c' H' E', φ (.go (.reg p r :: k) c') ∧ St C K H' E' w' c' a' ∧ Mv K H E w c H' E' w' c') (fun _ _ _ => False)
        fun c' a' H' E' w' e1 e2 e3 _ => ⟨c', H', E', e1, e2, e3⟩) b _ cs
      obtain ⟨c', H', E', e1, e2, e3⟩ := h1
      exact go e1 e2 e3 (.reg p r id ops hc hk) h2
  · rename_i p k
    have hloop : ∀ {x : Code}, codeAt (bodyOf fn) p = x → (∀ y, x ≠ .loop y) → ∃ k', items = .code x :: k' ∧ ItOK (bodyOf fn) k k' := fun {x} hx hne => by
      cases hi with
      | code p hk => exact ⟨_, by rw [hx], hk⟩
      | loop p y hl hk => exact (hne y (hx.symm.trans hl)).elim
    split at h
    · rename_i hx
      obtain ⟨k', rfl, hk⟩ := hloop hx (by simp)
      exact go h st mv0 hk (.one sQ_skip)
    · rename_i hx
      obtain ⟨k', rfl, hk⟩ := hloop hx (by simp)
      have hb : b.roundOf = none := by
        rcases hr with hr | hr
        · exact hr
        · simp [endsB, hx] at hr
      exact fin _ h (sQ_ret hb)
    · rename_i x y hx
      obtain ⟨k', rfl, hk⟩ := hloop hx (by simp)
      have h0 : codeAt (bodyOf fn) (0 :: p) = x := by simp [codeAt, hx, child]
      have h1 : codeAt (bodyOf fn) (1 :: p) = y := by simp [codeAt, hx, child]
      have := ItOK.code (0 :: p) (ItOK.code (1 :: p) hk)
      rw [h0, h1] at this
      exact go h st mv0 this (.one sQ_seq)
    · rename_i id x hx
      obtain ⟨k', rfl, hk⟩ := hloop hx (by simp)
      have h0 : codeAt (bodyOf fn) (0 :: p) = x := by simp [codeAt, hx, child]
      have := ItOK.code (0 :: p) (ItOK.inBlock id hk)
      rw [h0] at this
      exact go h st mv0 this (.one sQ_block)
    · rename_i x hx
      have h0 : codeAt (bodyOf fn) (0 :: p) = x := by simp [codeAt, hx, child]
      cases hst : C.stopLoop g p <;> simp only [hst, cond_true, cond_false] at h
      · cases hi with
        | code p hk =>
          have := ItOK.code (0 :: p) (ItOK.loop p x hx hk)
          rw [h0] at this
          rw [hx] at go ⊢
          exact go h st mv0 this (.one sQ_loop)
        | loop p y hl hk =>
          rw [hx] at hl; cases hl
          have := ItOK.code (0 :: p) (ItOK.loop p x hx hk)
          rw [h0] at this
          exact go h st mv0 this (.one sQ_inLoop)
      · exact ⟨_, h, a, w, H, E, items, .refl _ _, st, mv0, hi⟩
    · rename_i id hx
      obtain ⟨k', rfl, hk⟩ := hloop hx (by simp)
      split at h
      · rename_i k2 he
        obtain ⟨k3, h1, h2⟩ := exit_ok hk he
        exact go h st mv0 h2 (.one (sQ_exit h1))
      · exact h.elim
    · rename_i x y z hx
      obtain ⟨k', rfl, hk⟩ := hloop hx (by simp)
      have h0 := ItOK.code (0 :: p) hk
      have h1 := ItOK.code (1 :: p) hk
      have e0 : codeAt (bodyOf fn) (0 :: p) = y := by simp [codeAt, hx, child]
      have e1 : codeAt (bodyOf fn) (1 :: p) = z := by simp [codeAt, hx, child]
      rw [e0] at h0
      rw [e1] at h1
      have dx := den_ev (H := H) (E := E) st.den x
      have cnd : ∀ t : Bool, a.eval x = .bool t → step P (lone (atQ b a (.code (.cond x y z) :: k')) cs w) = .next (lone (atQ b a (.code (if t then y else z) :: k')) cs w) := fun t ht => sQ_cond ht
      split at h
      · rename_i hv
        rw [hv] at dx
        exact go h st mv0 h0 (.one (cnd true dx))
      · rename_i hv
        rw [hv] at dx
        exact go h st mv0 h1 (.one (cnd false dx))
      · rename_i t hv
        rw [hv] at dx
        have st' : ∀ v, t = v → St C K H E w (c.put (slotOf x) (.bool v)) a := fun v hv2 => by
          subst hv2
          cases x with
          | tmp d => exact st.know hv
          | const u => exact ⟨st.den, st.hp, st.wok, st.free, st.gl, st.defers⟩
          | global u => exact ⟨st.den, st.hp, st.wok, st.free, st.gl, st.defers⟩
          | func u => exact ⟨st.den, st.hp, st.wok, st.free, st.gl, st.defers⟩
        have mv' : ∀ v : Bool, Mv K H E w c H E w (c.put (slotOf x) (.bool v)) := fun v => mv_refl st rfl rfl rfl rfl
        cases t with
        | true => exact go (h.1 rfl) (st' true rfl) (mv' true) h0 (.one (cnd true dx))
        | false => exact go (h.2 rfl) (st' false rfl) (mv' false) h1 (.one (cnd false dx))
      · exact h.elim
    · rename_i id ops dr hx
      obtain ⟨k', rfl, hk⟩ := hloop hx (by simp)
      have hd : noDefer (.region id ops dr) = true := by rw [← hx]; exact noDefer_at hnd p
      cases dr with
      | false =>
        simp only [cond_false] at h
        exact go h st mv0 (.reg p (List.range ops.size) id ops hx hk) (.one sQ_region)
      | true =>
        simp only [cond_true] at h
        have key : ∀ (f : Core → Tree Sig), ((drawn C call g ops c).bind f).All φ → ∃ c' a' H' E' w', (f c').All φ ∧ St C K H' E' w' c' a' ∧ Mv K H E w c H' E' w' c' ∧ Steps P (lone (atQ b a (.code (.region id ops true) :: k')) cs w) (lone (atQ b a' k') cs w') := fun f hf =>
          drawnQ (id := id) hC hF hK (fun i o ho => noDefer_reg hd ho) st (Tree.All_bind hf) b k' cs
        cases hl : (top && !(drawn C call g ops c).lone) <;> simp only [hl, cond_true, cond_false] at h
        · obtain ⟨c', a', H', E', w', h1, h2, h3, h4⟩ := key _ h
          exact go h1 h2 h3 hk h4
        · obtain ⟨c', a', H', E', w', h1, h2, h3, h4⟩ := key _ h
          exact ⟨_, h1, a', w', H', E', k', h4, h2, h3, hk⟩
    · exact h.elim
end
end Go.Sx
namespace Go.Sx
/-- Where a range over a function stands: between rounds; in a round; left by a round (the path of the jump). -/
inductive LSt where
  | ready | busy | done (q : List Nat)
/-- A frame that waits: in a call (lp = none), or in a range over a function (its block; the path of the statement; where it stands). r: it is a round of that block's range (d: how many frames lie below the ranging one). -/
structure Fw where
  g : Nat
  r : Option (Nat × Nat)
  td : List It
  tm : List SV
  lp : Option (Nat × List Nat × LSt)
def lstOf : LSt → LoopState
  | .ready => .ready
  | .busy => .busy
  | .done _ => .done
def jumpOf (body : Code) : LSt → Option Code
  | .done q => some (codeAt body q)
  | _ => none
def marks (rs : List Nat) : List Deferred := rs.map fun r => { target := .collected r, args := #[] }
def rOf (r : Option (Nat × Nat)) : Option Nat := r.map (·.1)
def lpB (f : Fw) : List Nat := match f.lp with
  | some (l, _, _) => [l]
  | none => []
/-- The record of a range in the heap. -/
def LpAt (fn : Func) (g : Nat) (tmps : Array Value) (p : List Nat) (s : LSt) (o : Obj) : Prop :=
  ∃ x ps ca cb df, codeAt (bodyOf fn) p = .rangeFunc x ps ca cb ∧ o = .loop { state := lstOf s, pending := jumpOf (bodyOf fn) s, fn := g, tmps, params := ps, assign := ca, body := cb, defers := df }
def FwOK (C : Ctx) (H : Mem) (E : Env) (h : Hp) (f : Fw) (mf : Frame) (rs : List Nat) : Prop :=
  ∃ fn a items, C.fns.get f.g = some fn ∧ DenL H E f.tm a.tmps.toList ∧ a.defers = [] ∧ ItOK (bodyOf fn) f.td items ∧ (∀ x ∈ rs, h x = some (.deferred (some []))) ∧
    match f.lp with
    | none => mf = atQ (bq f.g (rOf f.r) (marks rs)) a items
    | some (l, p, s) => mf = atQ (bq f.g (rOf f.r) (marks rs)) a (.inRangeFunc l :: items) ∧ ∃ o, h l = some o ∧ LpAt fn f.g a.tmps p s o
def StkW (C : Ctx) (H : Mem) (E : Env) (h : Hp) : List Fw → List Frame → List Nat → Prop
  | [], [], B => B = []
  | f :: s, mf :: ms, B => ∃ rs B', B = rs ++ lpB f ++ B' ∧ FwOK C H E h f mf rs ∧ StkW C H E h s ms B'
  | _, _, _ => False
/-- The blocks of the ranges: nothing that the executor knows. -/
def ExtAt (h : Hp) (K : Kx) (H : Mem) (E : Env) (w : World) (hp : List (Nat × SB)) : Prop :=
  ∀ b o, h b = some o → w.heap[b]? = some o ∧ H b = none ∧ (∀ id sb, look? hp id = some sb → obk E id sb ≠ some b) ∧ (K.w0.heap.size ≤ b ∨ K.own b)
def botW (g : Nat) : List Fw → Nat
  | [] => g
  | f :: s => botW f.g s
/-- The machine comes to where the function at the bottom returns something that meets φ. -/
def EndW (P : Program) (C : Ctx) (K : Kx) (bot : Nat) (φ : Sh → Prop) (m : Machine) (cs : List Frame) : Prop :=
  ∃ (a' : Act) (w' : World) (v : Value) (s : Sh) (H' : Mem) (todo : List Item) (fn0 : Func), C.fns.get bot = some fn0 ∧ Steps P m (lone { (base bot).at a' todo with mode := .returning } cs w') ∧
      a'.defers = [] ∧ φ s ∧ SpecRes K.H0 K.w0 s v H' w' ∧ (results fn0 a'.tmps).run P w' = .ok v w'
theorem EndW.of {P : Program} {C : Ctx} {K : Kx} {bot : Nat} {φ : Sh → Prop} {m m' : Machine} {cs : List Frame} (h1 : Steps P m m') (h2 : EndW P C K bot φ m' cs) : EndW P C K bot φ m cs := by
  obtain ⟨a', w', v, s, H', todo, fn0, q1, q2, q3⟩ := h2
  exact ⟨a', w', v, s, H', todo, fn0, q1, h1.trans q2, q3⟩
/-- From here on the function at the bottom returns something that meets φ. -/
def GoesW (P : Program) (C : Ctx) (K : Kx) (g : Nat) (r : Option (Nat × Nat)) (td : List It) (c : Core) (stk : List Fw) (φ : Sh → Prop) : Prop :=
  ∀ (H : Mem) (E : Env) (w : World) (a : Act) (items : List Item) (rs B : List Nat) (ms cs : List Frame) (fn : Func) (h : Hp), C.fns.get g = some fn → St C K H E w c a → ItOK (bodyOf fn) td items →
    (∀ x ∈ rs, h x = some (.deferred (some []))) → StkW C H E h stk ms B → (rs ++ B).Nodup → ExtAt h K H E w c.hp →
    EndW P C K (botW g stk) φ (lone (atQ (bq g (rOf r) (marks rs)) a items) (ms ++ cs) w) cs
section
variable {P : Program} {C : Ctx} {K : Kx} {H H' H'' H0 : Mem} {E E' E'' E1 : Env} {w w' w'' w0 : World} {h : Hp}
theorem FwOK.le (hH : H.le H') (hE : E.le E') {f : Fw} {mf : Frame} {rs : List Nat} (x : FwOK C H E h f mf rs) : FwOK C H' E' h f mf rs := by
  obtain ⟨fn, a, items, h1, h2, h3⟩ := x
  exact ⟨fn, a, items, h1, h2.le hH hE, h3⟩
theorem StkW.le (hH : H.le H') (hE : E.le E') : ∀ {s : List Fw} {ms : List Frame} {B : List Nat}, StkW C H E h s ms B → StkW C H' E' h s ms B
  | [], [], _, x => x
  | _ :: _, _ :: _, _, ⟨rs, B', h1, h2, h3⟩ => ⟨rs, B', h1, h2.le hH hE, StkW.le hH hE h3⟩
  | [], _ :: _, _, x => x.elim
  | _ :: _, [], _, x => x.elim
theorem ExtAt.keep {c c' : Core} {a a' : Act} (hx : ExtAt h K H E w c.hp) (st : St C K H E w c a) (st' : St C (reK H E w c.hp) H' E' w' c' a') : ExtAt h K H' E' w' c'.hp := by
  intro b o e
  obtain ⟨h1, h2, h3, h4⟩ := hx b o e
  have hlt := (Array.getElem?_eq_some_iff.1 h1).1
  have hno : ¬ (reK H E w c.hp).own b := fun ⟨id, sb, q1, q⟩ => h3 id sb q1 q
  refine ⟨by rw [st'.wok.kept b hlt hno]; exact h1, ?_, fun id sb hl ho => ?_, h4⟩
  · cases hx : H' b with
    | none => rfl
    | some o' =>
      rcases st'.wok.fresh b (by rw [hx]; simp) with q | q | q
      · exact (q h2).elim
      · have q : w.heap.size ≤ b := q; omega
      · exact (hno q).elim
  · obtain ⟨_, _, q⟩ := (st'.hp.ent id sb hl).lt ho
    rcases q with q | q
    · have q : w.heap.size ≤ b := q; omega
    · exact hno q
theorem ExtAt.weak {ρ : List (Nat × Rn)} {c c' : Core} {a : Act} (hx : ExtAt h K H E w c.hp) (st : St C K H E w c a) (hle : leC ρ c c') : ExtAt h K H (rnEnv ρ E) w c'.hp := by
  intro b o e
  obtain ⟨h1, h2, h3, h4⟩ := hx b o e
  refine ⟨h1, h2, fun id sb hl ho => ?_, h4⟩
  obtain ⟨id0, s0, _, q1, q2⟩ := (leB_ok st.hp (leH_at hle.2.1 hl)).2 b ho
  exact h3 id0 s0 q1 q2
/-! Blocks that are written, and new ones. -/
def hset_ (h : Hp) (b : Nat) (o : Obj) : Hp := fun x => if x = b then some o else h x
theorem hset_same {b : Nat} {o : Obj} : hset_ h b o b = some o := by simp [hset_]
theorem hset_other {b x : Nat} {o : Obj} (hne : x ≠ b) : hset_ h b o x = h x := by simp [hset_, hne]
theorem St.putObj {c : Core} {a : Act} (st : St C K H E w c a) {b : Nat} {o o' : Obj} (hx : ExtAt h K H E w c.hp) (hb : h b = some o) : St C K H E (w.putObj b o') c a := by
  obtain ⟨h1, h2, h3, h4⟩ := hx b o hb
  refine ⟨st.den, ⟨fun id sb hl => (st.hp.ent id sb hl).kept (fun _ _ e => e) (fun _ _ e => e) (fun b' hb' => ?_) fun b' hb' => ((st.hp.ent id sb hl).lt hb').2.1, st.hp.dis⟩, ?_, st.free, st.gl, st.defers⟩
  · exact World.putObj_heap_other (fun e => h3 id sb hl (e ▸ hb'))
  · refine ⟨st.wok.os, st.wok.tape, st.wok.output, by rw [World.putObj_size]; exact st.wok.size, fun b' hlt hno => ?_, fun b' o2 hb' => ?_, st.wok.le, st.wok.fresh⟩
    · rw [World.putObj_heap_other]
      · exact st.wok.kept b' hlt hno
      · intro e
        subst e
        rcases h4 with q | q
        · omega
        · exact hno q
    · rw [World.putObj_heap_other]
      · exact st.wok.on b' o2 hb'
      · intro e; rw [e, h2] at hb'; cases hb'
theorem ExtAt.put {hp : List (Nat × SB)} {b : Nat} {o o' : Obj} (hx : ExtAt h K H E w hp) (hb : h b = some o) : ExtAt (hset_ h b o') K H E (w.putObj b o') hp := by
  intro x o2 e
  by_cases hxb : x = b
  · subst hxb
    rw [hset_same] at e
    cases e
    obtain ⟨h1, h2⟩ := hx x o hb
    exact ⟨World.putObj_heap_same (Array.getElem?_eq_some_iff.1 h1).1, h2⟩
  · rw [hset_other hxb] at e
    obtain ⟨h1, h2⟩ := hx x o2 e
    exact ⟨by rw [World.putObj_heap_other hxb]; exact h1, h2⟩
theorem heap_alloc_old (w : World) (o : Obj) (x : Nat) (h : x < w.heap.size) : (w.alloc o).heap[x]? = w.heap[x]? := by
  show (w.heap.push o)[x]? = _
  simp [Array.getElem?_push, Nat.ne_of_lt h]
theorem St.allocObj {c : Core} {a : Act} (st : St C K H E w c a) (o : Obj) : St C K H E (w.alloc o) c a :=
  ⟨st.den, ⟨fun id sb hl => (st.hp.ent id sb hl).kept (fun _ _ e => e) (fun _ _ e => e) (fun b hb => heap_alloc_old w o b ((st.hp.ent id sb hl).lt hb).1) fun b hb => ((st.hp.ent id sb hl).lt hb).2.1, st.hp.dis⟩,
    st.wok.alloc o, st.free, st.gl, st.defers⟩
theorem ExtAt.alloc {c : Core} {a : Act} (hx : ExtAt h K H E w c.hp) (st : St C K H E w c a) (o : Obj) : ExtAt (hset_ h w.heap.size o) K H E (w.alloc o) c.hp := by
  intro x o2 e
  by_cases hxb : x = w.heap.size
  · subst hxb
    rw [hset_same] at e
    cases e
    refine ⟨World.alloc_heap_new w o, ?_, fun id sb hl ho => ?_, .inl st.wok.size⟩
    · cases hH : H w.heap.size with
      | none => rfl
      | some o' => have := (Array.getElem?_eq_some_iff.1 (st.wok.on _ _ hH)).1; omega
    · have := ((st.hp.ent id sb hl).lt ho).1; omega
  · rw [hset_other hxb] at e
    obtain ⟨h1, h2⟩ := hx x o2 e
    exact ⟨by rw [heap_alloc_old w o x (Array.getElem?_eq_some_iff.1 h1).1]; exact h1, h2⟩
theorem FwOK.put {f : Fw} {mf : Frame} {rs : List Nat} (x : FwOK C H E h f mf rs) {b : Nat} {o : Obj} (h1 : b ∉ rs) (h2 : b ∉ lpB f) : FwOK C H E (hset_ h b o) f mf rs := by
  obtain ⟨fn, a, items, q1, q2, q3, q4, q5, q6⟩ := x
  refine ⟨fn, a, items, q1, q2, q3, q4, fun y hy => by rw [hset_other (fun e => h1 (by rw [← e]; exact hy))]; exact q5 y hy, ?_⟩
  unfold lpB at h2
  split at q6
  · exact q6
  · rename_i l p s hl
    rw [hl] at h2
    obtain ⟨q7, o', q8, q9⟩ := q6
    exact ⟨q7, o', by rw [hset_other (fun e => h2 (by simp [e]))]; exact q8, q9⟩
theorem StkW.put {b : Nat} {o : Obj} : ∀ {s : List Fw} {ms : List Frame} {B : List Nat}, StkW C H E h s ms B → b ∉ B → StkW C H E (hset_ h b o) s ms B
  | [], [], _, x, _ => x
  | f :: _, _ :: _, B, ⟨rs, B', h1, h2, h3⟩, hb => by
    subst h1
    simp only [List.mem_append, not_or] at hb
    exact ⟨rs, B', rfl, h2.put hb.1.1 hb.1.2, StkW.put h3 hb.2⟩
  | [], _ :: _, _, x, _ => x.elim
  | _ :: _, [], _, x, _ => x.elim
theorem StkW.len : ∀ {s : List Fw} {ms : List Frame} {B : List Nat}, StkW C H E h s ms B → s.length = ms.length
  | [], [], _, _ => rfl
  | _ :: _, _ :: _, _, ⟨_, _, _, _, h3⟩ => by simp [StkW.len h3]
  | [], _ :: _, _, x => x.elim
  | _ :: _, [], _, x => x.elim
/-- All blocks of the stack are in the heap. -/
theorem StkW.has : ∀ {s : List Fw} {ms : List Frame} {B : List Nat}, StkW C H E h s ms B → ∀ x ∈ B, ∃ o, h x = some o
  | [], [], _, e, x, hx => by have e : _ = [] := e; subst e; cases hx
  | f :: _, _ :: _, B, ⟨rs, B', h1, h2, h3⟩, x, hx => by
    subst h1
    obtain ⟨fn, a, items, q1, q2, q3, q4, q5, q6⟩ := h2
    simp only [List.mem_append] at hx
    rcases hx with (hx | hx) | hx
    · exact ⟨_, q5 x hx⟩
    · unfold lpB at hx
      split at q6
      · rename_i hl; rw [hl] at hx; cases hx
      · rename_i l p s hl
        rw [hl] at hx
        obtain ⟨_, o, q8, _⟩ := q6
        have : x = l := by simpa using hx
        exact ⟨o, this ▸ q8⟩
    · exact StkW.has h3 x hx
  | [], _ :: _, _, e, _, _ => e.elim
  | _ :: _, [], _, e, _, _ => e.elim
/-- The marks are come to, one by one. -/
theorem collects {c : Core} {a : Act} : ∀ {rs : List Nat} {B : List Nat} {h : Hp} {w : World} {s : List Fw} {ms : List Frame} (g : Nat) (todo : List Item) (cs : List Frame), St C K H E w c a → ExtAt h K H E w c.hp → (∀ x ∈ rs, h x = some (.deferred (some []))) → StkW C H E h s ms B → (rs ++ B).Nodup →
    ∃ w' h', Steps P (lone { atQ (bq g none (marks rs)) a todo with mode := .returning } cs w) (lone { (base g).at a todo with mode := .returning } cs w') ∧ St C K H E w' c a ∧ ExtAt h' K H E w' c.hp ∧ StkW C H E h' s ms B
  | [], B, h, w, s, ms, g, todo, cs, st, hx, _, hs, _ => ⟨w, h, by rw [← atQ_base]; exact .refl _ _, st, hx, hs⟩
  | r :: rs, B, h, w, s, ms, g, todo, cs, st, hx, hm, hs, hnd => by
    have h0 := hm r (List.mem_cons_self ..)
    have hw := (hx r _ h0).1
    simp only [List.cons_append, List.nodup_cons, List.mem_append, not_or] at hnd
    have hstep : step P (lone { atQ (bq g none (marks (r :: rs))) a todo with mode := .returning } cs w) = .next (lone { atQ (bq g none (marks rs)) a todo with mode := .returning } cs (w.putObj r (.deferred none))) := by
      have := step_collected (P := P) (fr := { atQ (bq g none (marks (r :: rs))) a todo with mode := .returning }) (cs := cs) (w := w) (d := { target := .collected r, args := #[] }) (r := r) (ds := marks rs) (calls := []) (by simp)
        (by simp [atQ, bq, marks, st.defers]) rfl (run_takeDeferred hw)
      rw [this]
      simp [atQ, bq, marks, st.defers]
    obtain ⟨w', h', q1, q2, q3, q4⟩ := collects g todo cs (st.putObj (o' := .deferred none) hx h0) (hx.put (o' := .deferred none) h0) (fun x hxm => by
      rw [hset_other (fun e => hnd.1.1 (by rw [← e]; exact hxm))]; exact hm x (List.mem_cons_of_mem _ hxm)) (hs.put hnd.1.2) hnd.2
    exact ⟨w', h', .head hstep q1, q2, q3, q4⟩
end
end Go.Sx
namespace Go.Sx
def yv (l : Nat) : Value := .func (.yield l) #[] #[]
section moves
variable {P : Program} {b c : Frame} {a : Act} {k : List Item} {cs : List Frame} {w w' : World}
theorem sQ_beginRound {l : Nat} (hb : b.roundOf = some l) (hr : (Instr.beginRound l).run P w = .ok () w') : step P (lone (atQ b a (.beginRound :: k)) cs w) = .next (lone (atQ b a k) cs w') := by
  rw [atQ_R, atQ_R]; exact stepR_beginRound hb hr
theorem sQ_round_end {l : Nat} {v : Value} (hb : b.roundOf = some l) (hk : b.kind = .normal) (hr : (Instr.endRound l none).run P w = .ok v w') : step P (lone (atQ b a []) (c :: cs) w) = .next (lone (c.finish v) cs w') := by
  rw [atQ_R]; exact stepR_round_end hb hk hr
theorem sQ_round_ret {l : Nat} {v : Value} (hb : b.roundOf = some l) (hk : b.kind = .normal) (hr : (Instr.endRound l (some .ret)).run P w = .ok v w') : step P (lone (atQ b a (.code .ret :: k)) (c :: cs) w) = .next (lone (c.finish v) cs w') := by
  rw [atQ_R]; exact stepR_round_ret hb hk hr
theorem sQ_round_exit {l id : Nat} {v : Value} (hb : b.roundOf = some l) (hk : b.kind = .normal) (hx : exitTo id k = none) (hr : (Instr.endRound l (some (.exit id))).run P w = .ok v w') :
    step P (lone (atQ b a (.code (.exit id) :: k)) (c :: cs) w) = .next (lone (c.finish v) cs w') := by
  rw [atQ_R]; exact stepR_round_exit hb hk hx hr
theorem finish_inRange (l : Nat) (v : Value) : (atQ b a (.inRangeFunc l :: k)).finish v = atQ b a (.endRangeFunc l :: k) := by rw [atQ_R, finish_atR_inRangeFunc]; rfl
theorem sQ_endRange {l : Nat} {jump : Option Code} (h : (Instr.endLoop l).run P w = .ok jump w') : step P (lone (atQ b a (.endRangeFunc l :: k)) cs w) = .next (lone (atQ b a ((jump.map Item.code).toList ++ k)) cs w') := by
  rw [atQ_R, atQ_R]; exact stepR_endRangeFunc h
end moves
/-! The run. -/
inductive OutW where
  | fin (v : SV) (c : Core)
  | stop (g : Nat) (r : Option (Nat × Nat)) (td : List It) (c : Core) (stk : List Fw)
inductive EvW where
  | plain | bad | halt
  | next (g : Nat) (r : Option (Nat × Nat)) (td : List It) (c : Core) (stk : List Fw) (q : List Eqn)
def sameSt : LSt → LSt → Bool
  | .ready, .ready => true
  | .busy, .busy => true
  | _, _ => false
/-- The range d frames above the bottom goes on to stand elsewhere. -/
def setW (g d : Nat) (s0 s1 : LSt) : List Fw → Option (Nat × List Fw)
  | [] => none
  | f :: s => bif Nat.beq s.length d then match f.lp with
      | some (l, p, st) => bif Nat.beq f.g g && sameSt st s0 then some (l, { f with lp := some (l, p, s1) } :: s) else none
      | none => none
    else match setW g d s0 s1 s with
      | some (l, s') => some (l, f :: s')
      | none => none
/-- The range whose round is asked for. -/
def yW : List Fw → Option (Nat × Nat × Fw × List Nat)
  | [] => none
  | f :: s => match f.lp with
    | some (l, p, .ready) => some (l, s.length, f, p)
    | _ => yW s
/-- A call of yield. -/
def yieldOf (fn : Func) (td : List It) (c : Core) : Option (Nat × List SV) :=
  match td with
  | .reg p (i :: _) :: _ => match codeAt (bodyOf fn) p with
    | .region _ ops _ => match opAt ops.toList i with
      | some o => match wantOf ops.toList c.tm o with
        | .yes => match o.op with
          | .call k => match k.callee with
            | .value f => match evL c.tm f with
              | .val (.func (.yield l) x y) => bif Nat.beq x.size 0 && Nat.beq y.size 0 then some (l, k.args.toList.map (evL c.tm)) else none
              | _ => none
            | _ => none
          | _ => none
        | _ => none
      | none => none
    | _ => none
  | _ => none
def endRnd (C : Ctx) (g l d : Nat) (s1 : LSt) (b : Bool) (c : Core) (stk : List Fw) : EvW :=
  match setW g d .busy s1 stk with
  | some (l', f :: s) => match f.lp with
    | none => match popOf C ⟨f.g, f.td, f.tm⟩ (.bool b) c with
      | some x => .next f.g f.r x.1 x.2 s [.nat l l']
      | none => .bad
    | some _ => .bad
  | _ => .bad
def evW (C : Ctx) (fn : Func) (g : Nat) (r : Option (Nat × Nat)) (td : List It) (c : Core) (stk : List Fw) : EvW :=
  match td with
  | [] => match r with
    | none => .plain
    | some (l, d) => endRnd C g l d .ready true c stk
  | .beg :: k => match r with
    | none => .bad
    | some (l, d) => match setW g d .ready .busy stk with
      | some (l', s) => .next g r k c s [.nat l l']
      | none => .bad
  | .code p :: k => match codeAt (bodyOf fn) p with
    | .rangeFunc _ _ _ _ => .halt
    | .ret => match r with
      | none => .plain
      | some (l, d) => endRnd C g l d (.done p) false c stk
    | .exit id => match r with
      | none => .plain
      | some (l, d) => match exitIt id k with
        | some _ => .plain
        | none => endRnd C g l d (.done p) false c stk
    | _ => .plain
  | .reg _ (_ :: _) :: _ => match yieldOf fn td c with
    | some (l, args) => match yW stk with
      | some (l', d, f, p) => match C.fns.get f.g with
        | some fnf => match codeAt (bodyOf fnf) p with
          | .rangeFunc _ ps _ _ => bif Nat.beq ps.size args.length then
              .next f.g (some (l', d)) [.code (0 :: p), .beg, .code (1 :: p)] { c with tm := (ps.toList.zip args).foldl (fun t x => t.set x.1 x.2) f.tm } ({ g, r, td, tm := c.tm, lp := none } :: stk) [.nat l l'] else .bad
          | _ => .bad
        | none => .bad
      | none => .bad
    | none => match pushOf C fn td c with
      | some x => .next x.1 none [.code []] { c with tm := x.2.2 ++ List.replicate (x.2.1.ntmps - x.2.2.length) .any } ({ g, r, td, tm := c.tm, lp := none } :: stk) []
      | none => .plain
  | _ => .plain
def backTd (f : Fw) : LSt → List It
  | .done q => .code q :: f.td
  | _ => f.td
def isBusy : LSt → Bool
  | .busy => true
  | _ => false
def runW (C : Ctx) (pause : Nat → List It → Bool) (m : Nat) : Nat → Nat → Option (Nat × Nat) → List It → Core → List Fw → Tree OutW
  | 0, g, r, td, c, stk => .leaf (.stop g r td c stk)
  | n + 1, g, r, td, c, stk => match C.fns.get g with
    | none => .fail
    | some fn => bif pause g td then .leaf (.stop g r td c stk) else match evW C fn g r td c stk with
      | .bad => .fail
      | .halt => .leaf (.stop g r td c stk)
      | .next g' r' td' c' stk' q => mustE q (runW C pause m n g' r' td' c' stk')
      | .plain => (stepR C (callWith C (run C m false)) true g fn td c).bind fun s => match s with
        | .go td c => runW C pause m n g r td c stk
        | .halt td c => .leaf (.stop g r td c stk)
        | .done v c => match r with
          | some _ => .fail
          | none => match stk with
            | [] => .leaf (.fin v c)
            | f :: s => match f.lp with
              | none => match popOf C ⟨f.g, f.td, f.tm⟩ v c with
                | some x => runW C pause m n f.g f.r x.1 x.2 s
                | none => .fail
              | some (_, _, st) => bif isBusy st then .fail else runW C pause m n f.g f.r (backTd f st) { c with tm := f.tm } s
def OutWOK (P : Program) (C : Ctx) (K : Kx) (φ : Sh → Prop) : OutW → Prop
  | .fin v c => ∃ s, finish c v = some s ∧ φ s
  | .stop g r td c stk => GoesW P C K g r td c stk φ
section
variable {P : Program} {C : Ctx} {K : Kx} {H H' H'' H0 : Mem} {E E' E'' E1 : Env} {w w' w'' w0 : World} {h : Hp}
theorem mustE_and {α : Type} {φ : α → Prop} {l : List Eqn} {t : Tree α} (hx : (mustE l t).All φ) : Eqn.all l ∧ t.All φ := by
  unfold mustE at hx
  split at hx
  · exact ⟨trivial, hx⟩
  · exact hx
theorem LpAt.loop {fn : Func} {g : Nat} {tmps : Array Value} {p : List Nat} {s : LSt} {o : Obj} (hx : LpAt fn g tmps p s o) : ∃ lp, o = .loop lp ∧ lp.state = lstOf s ∧ lp.pending = jumpOf (bodyOf fn) s ∧ ∀ s', LpAt fn g tmps p s' (.loop { lp with state := lstOf s', pending := jumpOf (bodyOf fn) s' }) := by
  obtain ⟨x, ps, ca, cb, df, h1, rfl⟩ := hx
  exact ⟨_, rfl, rfl, rfl, fun s' => ⟨x, ps, ca, cb, df, h1, rfl⟩⟩
theorem sameSt_eq {s t : LSt} (hx : sameSt s t = true) : s = t := by
  cases s <;> cases t <;> simp [sameSt] at hx <;> rfl
theorem setW_ok {g d : Nat} {s0 s1 : LSt} {fn : Func} (hfn : C.fns.get g = some fn) : ∀ {s s' : List Fw} {ms : List Frame} {B : List Nat} {l : Nat}, setW g d s0 s1 s = some (l, s') → StkW C H E h s ms B → B.Nodup →
    ∃ lp, h l = some (.loop lp) ∧ lp.state = lstOf s0 ∧ lp.pending = jumpOf (bodyOf fn) s0 ∧ l ∈ B ∧ StkW C H E (hset_ h l (.loop { lp with state := lstOf s1, pending := jumpOf (bodyOf fn) s1 })) s' ms B
  | [], _, _, _, _, hx, _, _ => by simp [setW] at hx
  | f :: s, s', [], _, _, _, hs, _ => hs.elim
  | f :: s, s', mf :: ms, B, l, hx, ⟨rs, B', hB, h1, h2⟩, hnd => by
    subst hB
    simp only [setW] at hx
    cases hd : Nat.beq s.length d <;> simp only [hd, cond_true, cond_false] at hx
    · split at hx
      · rename_i l2 s2 hs2
        cases hx
        have hnd2 : B'.Nodup := (List.nodup_append.1 hnd).2.1
        obtain ⟨lp, q1, q2, q3, q4, q5⟩ := setW_ok hfn hs2 h2 hnd2
        have hno : l ∉ rs ++ lpB f := fun hm => (List.nodup_append.1 hnd).2.2 l hm l q4 rfl
        simp only [List.mem_append, not_or] at hno
        exact ⟨lp, q1, q2, q3, List.mem_append_right _ q4, rs, B', rfl, h1.put hno.1 hno.2, q5⟩
      · cases hx
    · split at hx
      · rename_i l2 p st hl
        cases hb : (Nat.beq f.g g && sameSt st s0) <;> simp only [hb, cond_true, cond_false] at hx
        · cases hx
        · cases hx
          simp only [Bool.and_eq_true] at hb
          have hg : f.g = g := Nat.eq_of_beq_eq_true hb.1
          have hst : st = s0 := sameSt_eq hb.2
          subst hst
          obtain ⟨fn', a, items, q1, q2, q3, q4, q5, q6⟩ := h1
          rw [hg, hfn] at q1
          cases q1
          rw [hl] at q6
          obtain ⟨q7, o, q8, q9⟩ := q6
          obtain ⟨lp, rfl, r1, r2, r3⟩ := q9.loop
          have hlB : lpB f = [l] := by simp [lpB, hl]
          rw [hlB] at hnd ⊢
          have hn1 : l ∉ rs := fun hm => (List.nodup_append.1 (List.nodup_append.1 hnd).1).2.2 l hm l (by simp) rfl
          have hn2 : l ∉ B' := fun hm => (List.nodup_append.1 hnd).2.2 l (by simp) l hm rfl
          refine ⟨lp, q8, r1, r2, by simp, rs, B', by simp [lpB], ⟨fn, a, items, by simpa [hg] using hfn, q2, q3, q4, fun x hx => by rw [hset_other (fun e => hn1 (by rw [← e]; exact hx))]; exact q5 x hx, ?_⟩, h2.put hn2⟩
          exact ⟨q7, _, hset_same, r3 s1⟩
      · cases hx
theorem yW_ok : ∀ {s : List Fw} {ms : List Frame} {B : List Nat} {l d : Nat} {f : Fw} {p : List Nat}, yW s = some (l, d, f, p) → StkW C H E h s ms B →
    ∃ (fn : Func) (a : Act) (o : Obj), C.fns.get f.g = some fn ∧ DenL H E f.tm a.tmps.toList ∧ h l = some o ∧ LpAt fn f.g a.tmps p .ready o ∧ l ∈ B
  | [], _, _, _, _, _, _, hx, _ => by simp [yW] at hx
  | f0 :: s, [], _, _, _, _, _, _, hs => hs.elim
  | f0 :: s, mf :: ms, B, l, d, f, p, hx, ⟨rs, B', hB, h1, h2⟩ => by
    subst hB
    simp only [yW] at hx
    split at hx
    · rename_i l2 p2 hl
      cases hx
      obtain ⟨fn, a, items, q1, q2, q3, q4, q5, q6⟩ := h1
      rw [hl] at q6
      obtain ⟨q7, o, q8, q9⟩ := q6
      exact ⟨fn, a, o, q1, q2, q8, q9, by simp [lpB, hl]⟩
    · obtain ⟨fn, a, o, q1, q2, q3, q4, q5⟩ := yW_ok hx h2
      exact ⟨fn, a, o, q1, q2, q3, q4, List.mem_append_right _ q5⟩
theorem foldl_den : ∀ {l : List (Nat × SV)} {vl : List (Nat × Value)} {tm : List SV} {ts : Array Value}, DenL H E tm ts.toList → (∀ (i : Nat) x y, l[i]? = some x → vl[i]? = some y → x.1 = y.1 ∧ Den H E x.2 y.2) → l.length = vl.length →
    DenL H E (l.foldl (fun t x => t.set x.1 x.2) tm) (vl.foldl (fun t x => t.setIfInBounds x.1 x.2) ts).toList
  | [], [], _, _, hd, _, _ => hd
  | x :: l, y :: vl, tm, ts, hd, hx, hlen => by
    obtain ⟨e1, e2⟩ := hx 0 x y rfl rfl
    have hd2 : DenL H E (tm.set x.1 x.2) (ts.setIfInBounds y.1 y.2).toList := by
      have := den_put (c := { tm := tm, hp := [], nx := 0, lim := 0, tc := [] }) (a := { tmps := ts, defers := [] }) hd (some x.1) e2
      rw [← e1]
      exact this
    simp only [List.foldl_cons]
    exact foldl_den (l := l) (vl := vl) hd2 (fun i a b ha hb => hx (i + 1) a b ha hb) (by simpa using hlen)
  | [], _ :: _, _, _, _, _, hl => by simp at hl
  | _ :: _, [], _, _, _, _, hl => by simp at hl
end
end Go.Sx
namespace Go.Sx
section
variable {P : Program} {C : Ctx} {K : Kx} {H H' H'' H0 : Mem} {E E' E'' E1 : Env} {w w' w'' w0 : World} {h : Hp}
theorem setW_bot {g d : Nat} {s0 s1 : LSt} : ∀ {s s' : List Fw} {l g0 : Nat}, setW g d s0 s1 s = some (l, s') → botW g0 s' = botW g0 s
  | [], _, _, _, hx => by simp [setW] at hx
  | f :: s, s', l, g0, hx => by
    simp only [setW] at hx
    cases hd : Nat.beq s.length d <;> simp only [hd, cond_true, cond_false] at hx
    · split at hx
      · rename_i hs2
        cases hx
        show botW f.g _ = botW f.g _
        exact setW_bot hs2
      · cases hx
    · split at hx
      · rename_i l2 p st hl
        cases hb : (Nat.beq f.g g && sameSt st s0) <;> simp only [hb, cond_true, cond_false] at hx
        · cases hx
        · cases hx; rfl
      · cases hx
theorem exit_none {body : Code} {id : Nat} : ∀ {td : List It} {k : List Item}, ItOK body td k → exitIt id td = none → exitTo id k = none := by
  intro td k h
  induction h with
  | nil => intro _; rfl
  | code p _ ih => intro h; simp only [exitIt] at h; simpa [exitTo] using ih h
  | beg _ ih => intro h; simp only [exitIt] at h; simpa [exitTo] using ih h
  | loop p x _ _ ih => intro h; simp only [exitIt] at h; simpa [exitTo] using ih h
  | reg p l id ops _ _ ih => intro h; simp only [exitIt] at h; simpa [exitTo] using ih h
  | inBlock j h0 ih =>
    intro h
    simp only [exitIt] at h
    cases hj : (j == id) <;> simp only [hj, cond_true, cond_false] at h
    · have : j ≠ id := by simpa using hj
      simp only [exitTo]
      rw [if_neg (by simpa using this)]
      exact ih h
    · cases h
/-- Back into a frame that waits in a call. -/
theorem pop_ok {f : Fw} {mf : Frame} {rs : List Nat} {x : List It × Core} {c : Core} {sv : SV} {v : Value} (hf : FwOK C H E h f mf rs) (hl : f.lp = none) (hp : popOf C ⟨f.g, f.td, f.tm⟩ sv c = some x) (hv : Den H E sv v) {a : Act} (st : St C K H E w c a) :
    ∃ (fn : Func) (a' : Act) (items : List Item), C.fns.get f.g = some fn ∧ St C K H E w x.2 a' ∧ ItOK (bodyOf fn) x.1 items ∧ mf.finish v = atQ (bq f.g (rOf f.r) (marks rs)) a' items ∧ x.2.hp = c.hp := by
  obtain ⟨fn, a3, items3, g1, g2, g3, g4, _, g5⟩ := hf
  rw [hl] at g5
  unfold popOf at hp
  rw [g1] at hp
  simp only at hp
  split at hp
  · rename_i p i rest k htd
    split at hp
    · rename_i rid ops dr hcode
      cases hp
      rw [htd] at g4
      cases g4 with
      | reg p l id ops2 hc hk =>
        rw [hc] at hcode
        cases hcode
        rename_i k'
        have g5 : mf = _ := g5
        subst g5
        refine ⟨fn, a3.put ((opAt ops.toList i).bind (·.dst)) v, _, g1, ⟨den_put (c := { c with tm := f.tm }) g2 _ hv, st.hp, st.wok, st.free, st.gl, by rw [put_defers]; exact g3⟩, .reg p rest _ ops hc hk, ?_, rfl⟩
        rw [finish_atQ]
        simp [opAt]
    · cases hp
  · cases hp
theorem endRnd_ok {fn : Func} {g l d : Nat} {s1 : LSt} {bb : Bool} {c c' : Core} {stk stk' : List Fw} {g' : Nat} {r' : Option (Nat × Nat)} {td' : List It} {q : List Eqn} {φ : Sh → Prop} (hfn : C.fns.get g = some fn)
    (hev : endRnd C g l d s1 bb c stk = .next g' r' td' c' stk' q) (hq : Eqn.all q) (ih : GoesW P C K g' r' td' c' stk' φ) (hj : (jumpOf (bodyOf fn) s1).isNone = bb) (hst : lstOf s1 = if bb then .ready else .done)
    {a : Act} {items : List Item} {rs B : List Nat} {ms cs : List Frame} (st : St C K H E w c a) (hs : StkW C H E h stk ms B) (hnd : (rs ++ B).Nodup) (hx : ExtAt h K H E w c.hp)
    (hstep : ∀ (c' : Frame) cs' v w', (Instr.endRound l (jumpOf (bodyOf fn) s1)).run P w = .ok v w' → step P (lone (atQ (bq g (some l) (marks rs)) a items) (c' :: cs') w) = .next (lone (c'.finish v) cs' w')) :
    EndW P C K (botW g stk) φ (lone (atQ (bq g (some l) (marks rs)) a items) (ms ++ cs) w) cs := by
  unfold endRnd at hev
  split at hev
  · rename_i l' f s hset
    split at hev
    · rename_i hlp
      split at hev
      · rename_i x hpop
        cases hev
        obtain ⟨hll, _⟩ := hq
        have hll : l = l' := hll
        subst hll
        obtain ⟨lp, q1, q2, q3, q4, q5⟩ := setW_ok hfn hset hs (List.nodup_append.1 hnd).2.1
        have hbot := setW_bot (g0 := g) hset
        have hw := (hx l _ q1).1
        have hrun := run_endRound (P := P) (jumpOf (bodyOf fn) s1) hw
        rw [hj] at hrun
        cases ms with
        | nil => exact q5.elim
        | cons mf ms =>
          obtain ⟨rs', B', hB, q6, q7⟩ := q5
          have e : ({ lp with state := if bb then LoopState.ready else LoopState.done, pending := jumpOf (bodyOf fn) s1 } : Loop) = { lp with state := lstOf s1, pending := jumpOf (bodyOf fn) s1 } := by rw [hst]
          rw [e] at hrun
          have st2 := st.putObj (o' := .loop { lp with state := lstOf s1, pending := jumpOf (bodyOf fn) s1 }) hx q1
          have hx2 := hx.put (o' := .loop { lp with state := lstOf s1, pending := jumpOf (bodyOf fn) s1 }) q1
          obtain ⟨fnf, a', items', p1, p2, p3, p4, p5⟩ := pop_ok q6 hlp hpop (v := .bool bb) rfl st2
          have hm' : ∀ y ∈ rs', hset_ h l (.loop { lp with state := lstOf s1, pending := jumpOf (bodyOf fn) s1 }) y = some (.deferred (some [])) := by
            obtain ⟨_, _, _, _, _, _, _, z, _⟩ := q6
            exact z
          subst hB
          have hB2 : lpB f = [] := by simp [lpB, hlp]
          rw [hB2, List.append_nil] at hnd
          have hnd2 : (rs' ++ B').Nodup := (List.nodup_append.1 hnd).2.1
          have hs1 := hstep mf (ms ++ cs) _ _ hrun
          rw [p4] at hs1
          have := ih H E _ a' items' rs' B' ms cs fnf _ p1 p2 p3 hm' q7 hnd2 (by rw [p5]; exact hx2)
          rw [show botW g stk = botW f.g stk' from hbot.symm]
          exact this.of (.one hs1)
      · cases hev
    · cases hev
  · cases hev
end
end Go.Sx
namespace Go.Sx
section
variable {P : Program} {C : Ctx} {K : Kx} {H H' H'' H0 : Mem} {E E' E'' E1 : Env} {w w' w'' w0 : World} {h : Hp}
theorem enter_bq {g : Nat} {fn : Func} {body : Code} (hP : P.funcs[g]? = some fn) (hb : fn.body = some body) (args : Array Value) :
    Frame.enter P g args .normal = atQ (bq g none []) { tmps := args ++ Array.replicate (fn.ntmps - args.size) undef, defers := [] } [.code body] := by
  rw [atQ_base]; exact enter_base hP hb args
theorem round_bq (l g : Nat) (tmps : Array Value) (ca cb : Code) : Frame.round l g tmps ca cb .normal = atQ (bq g (some l) []) { tmps, defers := [] } [.code ca, .beginRound, .code cb] := by
  simp [Frame.round, atQ, bq]
/-- The call that comes next: what it makes. -/
theorem call_step {b : Frame} {p : List Nat} {i : Nat} {rest : List Nat} {k : List It} {fn : Func} {items : List Item} {c : Core} {a : Act} {rid : Nat} {ops : Array Oper} {dr : Bool} {o : Oper} {kk : Call} (st : St C K H E w c a) (hi : ItOK (bodyOf fn) (.reg p (i :: rest) :: k) items)
    (hcode : codeAt (bodyOf fn) p = .region rid ops dr) (ho : opAt ops.toList i = some o) (hwant : wantOf ops.toList c.tm o = .yes) (hop : o.op = .call kk) (cs : List Frame) :
    ∃ k', items = .inRegion ops (i :: rest) :: k' ∧ ItOK (bodyOf fn) k k' ∧ dr = false ∧ stepG P true { frame := atQ b a (.inRegion ops (i :: rest) :: k'), callers := cs, status := .running, dying := none } w = stepG.apply P true (atQ b a (.inRegion ops (i :: rest) :: k')) cs none (execOp a.eval o) w := by
  cases hi with
  | reg p l id ops2 hc hk =>
    rw [hc] at hcode
    cases hcode
    rename_i k'
    have ho' : ops[i]? = some o := by simpa [opAt] using ho
    have hw' := wantOf_spec (ops := ops) st.den o
    rw [hwant] at hw'
    refine ⟨k', rfl, hk, rfl, ?_⟩
    have hg := stepGR_op (P := P) (b := b) (a := qAct b a) (k := k') (cs := cs) (w := w) (rest := rest) ho' hw'
    rw [Oper.semAt_eq _ _ _ (fun c hc => by rw [hop] at hc; cases hc), qAct_eval, ← atQ_R] at hg
    exact hg
theorem push_ok (hC : CtxOK P C) (hF : FnsOK P C) {fn : Func} {g : Nat} {r : Option (Nat × Nat)} {td : List It} {c : Core} {stk : List Fw} {x : Nat × Func × List SV} {φ : Sh → Prop} (hfn : C.fns.get g = some fn) (hr : pushOf C fn td c = some x)
    (ih : GoesW P C K x.1 none [.code []] { c with tm := x.2.2 ++ List.replicate (x.2.1.ntmps - x.2.2.length) .any } ({ g, r, td, tm := c.tm, lp := none } :: stk) φ) : GoesW P C K g r td c stk φ := by
  intro H E w a items rs B ms cs fn' h hfn' st hi hm hs hnd hx
  rw [hfn] at hfn'; cases hfn'
  unfold pushOf at hr
  split at hr
  · rename_i p i rest k
    split at hr
    · rename_i rid ops dr hcode
      split at hr
      · rename_i o ho
        split at hr
        · rename_i hwant
          split at hr
          · rename_i kk hop
            split at hr
            · rename_i f hcal
              split at hr
              · rename_i g2 caps hev
                split at hr
                · cases hr
                · rename_i hspec
                  split at hr
                  · rename_i fn2 hfn2
                    cases hb : (Nat.ble (kk.args.toList.map (evL c.tm) ++ caps).length fn2.ntmps && fn2.body.isSome) <;> simp only [hb, cond_true, cond_false] at hr
                    · cases hr
                    cases hr
                    simp only [Bool.and_eq_true] at hb
                    obtain ⟨body2, hbody2⟩ := Option.isSome_iff_exists.1 hb.2
                    have hP2 := hC.fn g2 fn2 hfn2
                    obtain ⟨k', rfl, hk, rfl, hg⟩ := call_step (P := P) (b := bq g (rOf r) (marks rs)) (w := w) st hi hcode ho hwant hop (ms ++ cs)
                    have df := den_ev (H := H) (E := E) st.den f
                    rw [hev] at df
                    obtain ⟨vs, ef, hvs⟩ := df
                    have hargs := (den_map st.den kk.args.toList).append hvs
                    have hent := hF.en g2 (.inr (by rw [hfn2]; rfl))
                    have hrun : (execOp a.eval o).run P w = .ok (.enter g2 (kk.args.map a.eval ++ vs)) w := by
                      simp only [execOp, hop, resolve, hcal]
                      simp [Deferred.ofValue, ef, invoke, callFunc_run hent]
                    have henter : step P (lone (atQ (bq g (rOf r) (marks rs)) a (.inRegion ops (i :: rest) :: k')) (ms ++ cs) w) = .next (lone (Frame.enter P g2 (kk.args.map a.eval ++ vs) .normal) (atQ (bq g (rOf r) (marks rs)) a (.inRegion ops (i :: rest) :: k') :: (ms ++ cs)) w) :=
                      step_lone_go (by rw [hg]; simp [stepG.apply, hrun, atQ])
                    rw [enter_bq hP2 hbody2] at henter
                    have hl := hargs.length
                    have hlen : (kk.args.map a.eval ++ vs).size = (kk.args.toList.map (evL c.tm) ++ caps).length := by
                      rw [← hl]; simp
                    have st2 : St C K H E w { c with tm := (kk.args.toList.map (evL c.tm) ++ caps) ++ List.replicate (fn2.ntmps - (kk.args.toList.map (evL c.tm) ++ caps).length) .any } { tmps := (kk.args.map a.eval ++ vs) ++ Array.replicate (fn2.ntmps - (kk.args.map a.eval ++ vs).size) undef, defers := [] } := by
                      refine ⟨?_, st.hp, st.wok, st.free, st.gl, rfl⟩
                      have : ((kk.args.map a.eval ++ vs) ++ Array.replicate (fn2.ntmps - (kk.args.map a.eval ++ vs).size) undef).toList = (kk.args.toList.map a.eval ++ vs.toList) ++ List.replicate (fn2.ntmps - (kk.args.toList.map (evL c.tm) ++ caps).length) undef := by
                        rw [hlen]; simp
                      simp only [this]
                      exact hargs.append (DenL.any _ _ (by simp))
                    have hit2 : ItOK (bodyOf fn2) [.code []] [.code body2] := by
                      have := ItOK.code (body := bodyOf fn2) [] ItOK.nil
                      have he : codeAt (bodyOf fn2) [] = body2 := by simp [codeAt, bodyOf, hbody2]
                      rwa [he] at this
                    have hs2 : StkW C H E h ({ g, r, td := .reg p (i :: rest) :: k, tm := c.tm, lp := none } :: stk) (atQ (bq g (rOf r) (marks rs)) a (.inRegion ops (i :: rest) :: k') :: ms) (rs ++ B) :=
                      ⟨rs, B, by simp [lpB], ⟨fn, a, _, hfn, st.den, st.defers, hi, hm, rfl⟩, hs⟩
                    exact (ih H E w _ _ [] (rs ++ B) (_ :: ms) cs fn2 h hfn2 st2 hit2 (fun _ hy => by cases hy) hs2 (by simpa using hnd) hx).of (.one henter)
                  · cases hr
              · cases hr
            · cases hr
          · cases hr
        · cases hr
      · cases hr
    · cases hr
  · cases hr
theorem yield_ok {fn : Func} {g : Nat} {r : Option (Nat × Nat)} {td : List It} {c : Core} {stk : List Fw} {l l' d : Nat} {args : List SV} {f : Fw} {p : List Nat} {fnf : Func} {x : Operand} {ps : Array Tmp} {ca cb : Code} {φ : Sh → Prop} (hfn : C.fns.get g = some fn) (hr : yieldOf fn td c = some (l, args))
    (hy : yW stk = some (l', d, f, p)) (hff : C.fns.get f.g = some fnf) (hcf : codeAt (bodyOf fnf) p = .rangeFunc x ps ca cb) (hsz : Nat.beq ps.size args.length = true) (hll : l = l')
    (ih : GoesW P C K f.g (some (l', d)) [.code (0 :: p), .beg, .code (1 :: p)] { c with tm := (ps.toList.zip args).foldl (fun t x => t.set x.1 x.2) f.tm } ({ g, r, td, tm := c.tm, lp := none } :: stk) φ) : GoesW P C K g r td c stk φ := by
  intro H E w a items rs B ms cs fn' h hfn' st hi hm hs hnd hx
  rw [hfn] at hfn'; cases hfn'
  subst hll
  unfold yieldOf at hr
  split at hr
  · rename_i q i rest k
    split at hr
    · rename_i rid ops dr hcode
      split at hr
      · rename_i o ho
        split at hr
        · rename_i hwant
          split at hr
          · rename_i kk hop
            split at hr
            · rename_i fo hcal
              split at hr
              · rename_i l2 xa ya hev
                cases hb : (Nat.beq xa.size 0 && Nat.beq ya.size 0) <;> simp only [hb, cond_true, cond_false] at hr
                · cases hr
                cases hr
                simp only [Bool.and_eq_true] at hb
                obtain rfl : xa = #[] := Array.eq_empty_of_size_eq_zero (Nat.eq_of_beq_eq_true hb.1)
                obtain rfl : ya = #[] := Array.eq_empty_of_size_eq_zero (Nat.eq_of_beq_eq_true hb.2)
                obtain ⟨k', rfl, hk, rfl, hg⟩ := call_step (P := P) (b := bq g (rOf r) (marks rs)) (w := w) st hi hcode ho hwant hop (ms ++ cs)
                have df := den_ev (H := H) (E := E) st.den fo
                rw [hev] at df
                have ef : a.eval fo = .func (.yield l) #[] #[] := by simp [Den] at df; exact df.1
                have hargs := den_map st.den kk.args.toList
                obtain ⟨fnf', af, ob, y1, y2, y3, y4, y5⟩ := yW_ok hy hs
                rw [hff] at y1; cases y1
                obtain ⟨x', ps', ca', cb', df', e1, rfl⟩ := y4
                rw [hcf] at e1
                cases e1
                have hw := (hx _ _ y3).1
                have hsz2 : (kk.args.map a.eval).size = ps.size := by
                  have := Nat.eq_of_beq_eq_true hsz
                  simp at this
                  simp [this]
                have hrun : (execOp a.eval o).run P w = .ok (.round l f.g ((ps.zip (kk.args.map a.eval)).foldl (fun tmps (t, a) => tmps.setIfInBounds t a) af.tmps) ca cb) w := by
                  have h1 : (execOp a.eval o).run P w = (Instr.yield l (kk.args.map a.eval)).run P w := by
                    simp only [execOp, hop, resolve, hcal]
                    simp [Deferred.ofValue, ef, invoke]
                  rw [h1]
                  exact run_yield hw hsz2
                have hround : step P (lone (atQ (bq g (rOf r) (marks rs)) a (.inRegion ops (i :: rest) :: k')) (ms ++ cs) w) = .next (lone (Frame.round l f.g ((ps.zip (kk.args.map a.eval)).foldl (fun tmps (t, a) => tmps.setIfInBounds t a) af.tmps) ca cb .normal) (atQ (bq g (rOf r) (marks rs)) a (.inRegion ops (i :: rest) :: k') :: (ms ++ cs)) w) :=
                  step_lone_go (by rw [hg]; simp [stepG.apply, hrun])
                rw [round_bq] at hround
                have hfold : DenL H E ((ps.toList.zip (kk.args.toList.map (evL c.tm))).foldl (fun t x => t.set x.1 x.2) f.tm) ((ps.zip (kk.args.map a.eval)).foldl (fun tmps (t, a) => tmps.setIfInBounds t a) af.tmps).toList := by
                  have e : (ps.zip (kk.args.map a.eval)).foldl (fun tmps (t, a) => tmps.setIfInBounds t a) af.tmps = (ps.toList.zip (kk.args.toList.map a.eval)).foldl (fun ts x => ts.setIfInBounds x.1 x.2) af.tmps := by
                    rw [← Array.foldl_toList]
                    simp [Array.toList_zip]
                  rw [e]
                  refine foldl_den y2 (fun j u v hu hv => ?_) (by simp)
                  rw [List.getElem?_zip_eq_some] at hu hv
                  obtain ⟨u1, u2⟩ := hu
                  obtain ⟨v1, v2⟩ := hv
                  rw [u1] at v1
                  refine ⟨Option.some.inj v1, ?_⟩
                  obtain ⟨vv, w1, w2⟩ := hargs.get u2
                  rw [w1] at v2
                  cases v2
                  exact w2
                have st2 : St C K H E w { c with tm := (ps.toList.zip (kk.args.toList.map (evL c.tm))).foldl (fun t x => t.set x.1 x.2) f.tm } { tmps := (ps.zip (kk.args.map a.eval)).foldl (fun tmps (t, a) => tmps.setIfInBounds t a) af.tmps, defers := [] } :=
                  ⟨hfold, st.hp, st.wok, st.free, st.gl, rfl⟩
                have hit2 : ItOK (bodyOf fnf) [.code (0 :: p), .beg, .code (1 :: p)] [.code ca, .beginRound, .code cb] := by
                  have h0 : codeAt (bodyOf fnf) (0 :: p) = ca := by simp [codeAt, hcf, child]
                  have h1 : codeAt (bodyOf fnf) (1 :: p) = cb := by simp [codeAt, hcf, child]
                  have := ItOK.code (body := bodyOf fnf) (0 :: p) (.beg (.code (1 :: p) .nil))
                  rw [h0, h1] at this
                  exact this
                have hs2 : StkW C H E h ({ g, r, td := .reg q (i :: rest) :: k, tm := c.tm, lp := none } :: stk) (atQ (bq g (rOf r) (marks rs)) a (.inRegion ops (i :: rest) :: k') :: ms) (rs ++ B) :=
                  ⟨rs, B, by simp [lpB], ⟨fn, a, _, hfn, st.den, st.defers, hi, hm, rfl⟩, hs⟩
                exact (ih H E w _ _ [] (rs ++ B) (_ :: ms) cs fnf h hff st2 hit2 (fun _ hy => by cases hy) hs2 (by simpa using hnd) hx).of (.one hround)
              · cases hr
            · cases hr
          · cases hr
        · cases hr
      · cases hr
    · cases hr
  · cases hr
theorem evW_ok (hC : CtxOK P C) (hF : FnsOK P C) {fn : Func} {g g' : Nat} {r r' : Option (Nat × Nat)} {td td' : List It} {c c' : Core} {stk stk' : List Fw} {q : List Eqn} {φ : Sh → Prop} (hfn : C.fns.get g = some fn)
    (hev : evW C fn g r td c stk = .next g' r' td' c' stk' q) (hq : Eqn.all q) (ih : GoesW P C K g' r' td' c' stk' φ) : GoesW P C K g r td c stk φ := by
  unfold evW at hev
  split at hev
  · split at hev
    · cases hev
    · rename_i l d
      intro H E w a items rs B ms cs fn' h hfn' st hi hm hs hnd hx
      rw [hfn] at hfn'; cases hfn'
      cases hi
      exact endRnd_ok hfn hev hq ih rfl rfl st hs hnd hx fun c' cs' v w' hrun => sQ_round_end rfl rfl hrun
  · rename_i k
    split at hev
    · cases hev
    · rename_i l d
      split at hev
      · rename_i l' s hset
        cases hev
        obtain ⟨hll, _⟩ := hq
        have hll : l = l' := hll
        subst hll
        intro H E w a items rs B ms cs fn' h hfn' st hi hm hs hnd hx
        rw [hfn] at hfn'; cases hfn'
        cases hi with
        | beg hk =>
          rename_i k'
          obtain ⟨lp, q1, q2, q3, q4, q5⟩ := setW_ok hfn hset hs (List.nodup_append.1 hnd).2.1
          have hw := (hx _ _ q1).1
          have hrun := run_beginRound (P := P) hw q2
          have e : ({ lp with state := LoopState.busy } : Loop) = { lp with state := lstOf .busy, pending := jumpOf (bodyOf fn) .busy } := by
            cases lp; simp only at q3; subst q3; rfl
          rw [e] at hrun
          have hs1 := sQ_beginRound (P := P) (b := bq g (some l) (marks rs)) (a := a) (k := k') (cs := ms ++ cs) rfl hrun
          have hno : l ∉ rs := fun hmm => (List.nodup_append.1 hnd).2.2 l hmm l q4 rfl
          have := ih H E _ a k' rs B ms cs fn _ hfn (st.putObj (o' := .loop { lp with state := lstOf .busy, pending := jumpOf (bodyOf fn) .busy }) hx q1) hk (fun y hy => by
            rw [hset_other (fun e => hno (by rw [← e]; exact hy))]; exact hm y hy) q5 hnd (hx.put q1)
          rw [setW_bot hset] at this
          exact this.of (.one hs1)
      · cases hev
  · rename_i p k
    split at hev
    · cases hev
    · rename_i hret
      split at hev
      · cases hev
      · rename_i l d
        intro H E w a items rs B ms cs fn' h hfn' st hi hm hs hnd hx
        rw [hfn] at hfn'; cases hfn'
        have hitems : ∃ k', items = .code .ret :: k' := by
          cases hi with
          | code p hk => exact ⟨_, by rw [hret]⟩
          | loop p y hl hk => rw [hret] at hl; cases hl
        obtain ⟨k', rfl⟩ := hitems
        refine endRnd_ok hfn hev hq ih rfl rfl st hs hnd hx fun c' cs' v w' hrun => ?_
        simp only [jumpOf, hret] at hrun
        exact sQ_round_ret rfl rfl hrun
    · rename_i id hexit
      split at hev
      · cases hev
      · rename_i l d
        split at hev
        · cases hev
        · rename_i hno
          intro H E w a items rs B ms cs fn' h hfn' st hi hm hs hnd hx
          rw [hfn] at hfn'; cases hfn'
          have hitems : ∃ k', items = .code (.exit id) :: k' ∧ ItOK (bodyOf fn) k k' := by
            cases hi with
            | code p hk => exact ⟨_, by rw [hexit], hk⟩
            | loop p y hl hk => rw [hexit] at hl; cases hl
          obtain ⟨k', rfl, hk⟩ := hitems
          refine endRnd_ok hfn hev hq ih rfl rfl st hs hnd hx fun c' cs' v w' hrun => ?_
          simp only [jumpOf, hexit] at hrun
          exact sQ_round_exit rfl rfl (exit_none hk hno) hrun
    · cases hev
  · rename_i p i rest k
    split at hev
    · rename_i l args hy
      split at hev
      · rename_i l' d f pf hyw
        split at hev
        · rename_i fnf hff
          split at hev
          · rename_i x ps ca cb hcf
            cases hb : Nat.beq ps.size args.length <;> simp only [hb, cond_true, cond_false] at hev
            · cases hev
            · cases hev
              exact yield_ok hfn hy hyw hff hcf hb hq.1 ih
          · cases hev
        · cases hev
      · cases hev
    · split at hev
      · rename_i x hx
        cases hev
        exact push_ok hC hF hfn hx ih
      · cases hev
  · cases hev
end
end Go.Sx
namespace Go.Sx
def plainEnds (fn : Func) (r : Option (Nat × Nat)) (td : List It) : Prop := r = none ∨ endsB fn td = false
section
variable {P : Program} {C : Ctx} {K : Kx} {H H' H'' H0 : Mem} {E E' E'' E1 : Env} {w w' w'' w0 : World} {h : Hp}
theorem plain_ends {fn : Func} {g : Nat} {r : Option (Nat × Nat)} {td : List It} {c : Core} {stk : List Fw} (hev : evW C fn g r td c stk = .plain) : r = none ∨ endsB fn td = false := by
  cases r with
  | none => exact .inl rfl
  | some x =>
    right
    obtain ⟨l, d⟩ := x
    unfold evW at hev
    split at hev
    · simp only [endRnd] at hev
      split at hev
      · split at hev
        · split at hev <;> cases hev
        · cases hev
      · cases hev
    · rfl
    · rename_i p k
      unfold endsB
      simp only
      split at hev
      · rename_i hc; rw [hc]
      · simp only [endRnd] at hev
        split at hev
        · split at hev
          · split at hev <;> cases hev
          · cases hev
        · cases hev
      · rename_i hc; rw [hc]
      · rename_i hne1 hne2 hne3
        split
        · rename_i hc; exact (hne2 hc).elim
        · rfl
    · rfl
    · rename_i hne1 hne2 hne3 hne4
      unfold endsB
      split
      · exact (hne1 rfl).elim
      · exact (hne3 _ _ rfl).elim
      · rfl
theorem goesW_run (hC : CtxOK P C) (hF : FnsOK P C) (hN : ∀ g fn, C.fns.get g = some fn → noDefer (bodyOf fn) = true) {pause : Nat → List It → Bool} {m : Nat} {φ : Sh → Prop} : ∀ {n g : Nat} {r : Option (Nat × Nat)} {td : List It} {c : Core} {stk : List Fw},
    (runW C pause m n g r td c stk).All (OutWOK P C (K0 H0 w0) φ) → GoesW P C (K0 H0 w0) g r td c stk φ
  | 0, g, r, td, c, stk, h => h
  | n + 1, g, r, td, c, stk, h => by
    intro H E w a items rs B ms cs fn hp hfn st hi hm hs hnd hx
    simp only [runW, hfn] at h
    cases hpz : pause g td <;> simp only [hpz, cond_true, cond_false] at h
    rotate_left
    · exact h H E w a items rs B ms cs fn hp hfn st hi hm hs hnd hx
    split at h
    · exact h.elim
    · exact h H E w a items rs B ms cs fn hp hfn st hi hm hs hnd hx
    · rename_i hev
      obtain ⟨hq, h⟩ := mustE_and h
      exact evW_ok hC hF hfn hev hq (goesW_run hC hF hN h) H E w a items rs B ms cs fn hp hfn st hi hm hs hnd hx
    · rename_i hev
      have hK := call_hyp (K := reK H E w c.hp) hC hF (run_ok hC hF m)
      obtain ⟨sig, h1, h2⟩ := stepQ_ok hC hF hK (hN g fn hfn) (Tree.All_bind h) st.re hi (bq g (rOf r) (marks rs)) (ms ++ cs) (by
        rcases plain_ends hev with e | e
        · left; rw [e]; rfl
        · exact .inr e)
      cases sig with
      | go td' c' =>
        obtain ⟨a', w', H', E', items', q1, q2, q3, q4⟩ := h2
        exact (goesW_run hC hF hN h1 H' E' w' a' items' rs B ms cs fn hp hfn (st.un q2) q4 hm (hs.le q3.Hle q3.Ele) hnd (hx.keep st q2)).of q1
      | halt td' c' =>
        obtain ⟨a', w', H', E', items', q1, q2, q3, q4⟩ := h2
        exact (h1 H' E' w' a' items' rs B ms cs fn hp hfn (st.un q2) q4 hm (hs.le q3.Hle q3.Ele) hnd (hx.keep st q2)).of q1
      | done sv c' =>
        obtain ⟨a', w', H', E', todo, q1, q2, q3, q5⟩ := h2
        cases r with
        | some _ => exact h1.elim
        | none =>
        have st' := st.un q2
        obtain ⟨w2, hp2, c1, st2, hx2, hs2⟩ := collects g todo (ms ++ cs) st' (hx.keep st q2) hm (hs.le q3.Hle q3.Ele) hnd
        obtain ⟨v, q4, q6⟩ := q5 _ _ st2
        have q1' : Steps P (lone (atQ (bq g (rOf none) (marks rs)) a items) (ms ++ cs) w) (lone { (base g).at a' todo with mode := .returning } (ms ++ cs) w2) := q1.trans c1
        cases stk with
        | nil =>
          cases ms with
          | cons _ _ => exact hs.elim
          | nil =>
            obtain ⟨s, e1, e2⟩ := h1
            obtain ⟨H2, r2⟩ := finish_ok st2 e1 q4
            exact ⟨a', w2, v, s, H2, todo, fn, hfn, q1', st2.defers, e2, r2, q6⟩
        | cons f stk =>
          cases ms with
          | nil => exact hs.elim
          | cons mf ms =>
            have hleave : step P (lone { (base g).at a' todo with mode := .returning } (mf :: (ms ++ cs)) w2) = .next (lone (mf.finish v) (ms ++ cs) w2) :=
              step_leave_returned ⟨rfl, st2.defers, rfl, fn, hC.fn g fn hfn, q6⟩
            obtain ⟨rs', B', hB, p1, p2⟩ := hs2
            subst hB
            have hm' : ∀ y ∈ rs', hp2 y = some (.deferred (some [])) := by
              obtain ⟨_, _, _, _, _, _, _, z, _⟩ := p1
              exact z
            have hnd2 := (List.nodup_append.1 hnd).2.1
            simp only at h1
            split at h1
            · rename_i hlp
              split at h1
              · rename_i x hpop
                obtain ⟨fnf, a2, items2, g1, g2, g3, g4, g5⟩ := pop_ok p1 hlp hpop q4 st2
                rw [g4] at hleave
                have hB2 : lpB f = [] := by simp [lpB, hlp]
                rw [hB2, List.append_nil] at hnd2
                exact (goesW_run hC hF hN h1 H' E' w2 a2 items2 rs' B' ms cs fnf hp2 g1 g2 g3 hm' p2 hnd2 (by rw [g5]; exact hx2)).of (q1'.trans (.one hleave))
              · exact h1.elim
            · rename_i l p s hlp
              cases hbz : isBusy s <;> simp only [hbz, cond_true, cond_false] at h1
              rotate_left
              · exact h1.elim
              obtain ⟨fnf, a2, items2, g1, g2, g3, g4, g5, g6⟩ := p1
              rw [hlp] at g6
              obtain ⟨g7, o, g8, g9⟩ := g6
              obtain ⟨lp, rfl, r1, r2, _⟩ := g9.loop
              have hw := (hx2 _ _ g8).1
              have hrun := run_endLoop (P := P) hw (by rw [r1]; cases s <;> simp [lstOf] at hbz ⊢; cases hbz)
              subst g7
              rw [finish_inRange] at hleave
              have hend := sQ_endRange (b := bq f.g (rOf f.r) (marks rs')) (a := a2) (k := items2) (cs := ms ++ cs) hrun
              have hB2 : lpB f = [l] := by simp [lpB, hlp]
              rw [hB2] at hnd2
              have hl1 : l ∉ rs' := fun hmm => (List.nodup_append.1 (List.nodup_append.1 hnd2).1).2.2 l hmm l (by simp) rfl
              have hl2 : l ∉ B' := fun hmm => (List.nodup_append.1 hnd2).2.2 l (by simp) l hmm rfl
              have hnd3 : (rs' ++ B').Nodup := by
                rw [List.append_assoc] at hnd2
                exact hnd2.sublist (List.Sublist.append (List.Sublist.refl _) (List.sublist_append_right _ _))
              have st3 := st2.putObj (o' := .loop { lp with state := .exhausted }) hx2 g8
              have st4 : St C (K0 H0 w0) H' E' (w2.putObj l (.loop { lp with state := .exhausted })) { c' with tm := f.tm } a2 := ⟨g2, st3.hp, st3.wok, st3.free, st3.gl, g3⟩
              have hit : ItOK (bodyOf fnf) (backTd f s) ((lp.pending.map Item.code).toList ++ items2) := by
                rw [r2]
                cases s with
                | done q => exact .code q g4
                | ready => exact g4
                | busy => exact g4
              exact (goesW_run hC hF hN h1 H' E' _ a2 _ rs' B' ms cs fnf _ g1 st4 hit (fun y hy => by rw [hset_other (fun e => hl1 (by rw [← e]; exact hy))]; exact hm' y hy) (p2.put hl2) hnd3 (hx2.put g8)).of ((q1'.trans (.one hleave)).trans (.one hend))
/-! Rules. -/
/-- Into a range over a function. -/
theorem goesW_range (hC : CtxOK P C) (hF : FnsOK P C) {fn fn2 : Func} {g g2 : Nat} {p : List Nat} {k : List It} {c : Core} {stk : List Fw} {x : Operand} {ps : Array Tmp} {ca cb : Code} {caps : List SV} {φ : Sh → Prop} (hfn : C.fns.get g = some fn)
    (hcode : codeAt (bodyOf fn) p = .rangeFunc x ps ca cb) (hx : evL c.tm x = .fn g2 caps) (hfn2 : C.fns.get g2 = some fn2) (hb : (Nat.ble (1 + caps.length) fn2.ntmps && fn2.body.isSome) = true)
    (ih : ∀ l, GoesW P C K g2 none [.code []] { c with tm := (.val (yv l) :: caps) ++ List.replicate (fn2.ntmps - (1 + caps.length)) .any } ({ g, r := none, td := k, tm := c.tm, lp := some (l, p, .ready) } :: stk) φ) : GoesW P C K g none (.code p :: k) c stk φ := by
  intro H E w a items rs B ms cs fn' h hfn' st hi hm hs hnd hxt
  rw [hfn] at hfn'; cases hfn'
  simp only [Bool.and_eq_true] at hb
  obtain ⟨body2, hbody2⟩ := Option.isSome_iff_exists.1 hb.2
  have hP2 := hC.fn g2 fn2 hfn2
  have hitems : ∃ k', items = .code (.rangeFunc x ps ca cb) :: k' ∧ ItOK (bodyOf fn) k k' := by
    cases hi with
    | code p hk => exact ⟨_, by rw [hcode], hk⟩
    | loop p y hl hk => rw [hcode] at hl; cases hl
  obtain ⟨k', rfl, hk⟩ := hitems
  have df := den_ev (H := H) (E := E) st.den x
  rw [hx] at df
  obtain ⟨vs, ef, hvs⟩ := df
  have hent := hF.en g2 (.inr (by rw [hfn2]; rfl))
  let ob : Obj := .loop { state := .ready, pending := none, fn := g, tmps := a.tmps, params := ps, assign := ca, body := cb, defers := w.heap.size }
  let w2 : World := (w.alloc (.deferred (some []))).alloc ob
  have he : (Instr.enterLoop g a.tmps ps ca cb none).run P w = .ok (w.heap.size + 1, [{ target := .collected w.heap.size, args := #[] }]) w2 := run_enterLoop_outer g a.tmps ps ca cb
  have hstep : step P (lone (atQ (bq g none (marks rs)) a (.code (.rangeFunc x ps ca cb) :: k')) (ms ++ cs) w) =
      .next (lone (Frame.enter P g2 (#[yv (w.heap.size + 1)] ++ vs) .normal) (atQ (bq g none (marks (w.heap.size :: rs))) a (.inRangeFunc (w.heap.size + 1) :: k') :: (ms ++ cs)) w2) := by
    have h0 := stepR_rangeFunc (P := P) (b := bq g none (marks rs)) (a := qAct (bq g none (marks rs)) a) (k := k') (cs := ms ++ cs) (w := w) (g := x) (ps := ps) (assign := ca) (body := cb) (l := w.heap.size + 1) (mark := [{ target := .collected w.heap.size, args := #[] }])
      (w₁ := w2) (w₁' := w2) (w₂ := w2) (d := { target := .fn (.func g2) vs, args := #[yv (w.heap.size + 1)] }) (f := g2) (args := #[yv (w.heap.size + 1)] ++ vs) he
      (by rw [qAct_eval]; simp [resolve, Deferred.ofValue, ef, yv, show ∀ v, a.eval (.const v) = v from fun _ => rfl]) (by simp [invoke, callFunc_run hent])
    rw [atQ_R, h0]
    simp [atQ, Frame.atR, qAct, bq, marks, st.defers]
  rw [enter_bq hP2 hbody2] at hstep
  have hl := hvs.length
  have st1 := (st.allocObj (.deferred (some []))).allocObj ob
  have hx1 := (hxt.alloc st (.deferred (some []))).alloc (st.allocObj _) ob
  have hsz : (w.alloc (.deferred (some []))).heap.size = w.heap.size + 1 := World.size_alloc ..
  rw [hsz] at hx1
  have hB : ∀ y ∈ rs ++ B, y < w.heap.size := fun y hy => by
    have : ∃ o, h y = some o := by
      rcases List.mem_append.1 hy with hy | hy
      · exact ⟨_, hm y hy⟩
      · exact hs.has y hy
    obtain ⟨o, ho⟩ := this
    exact (Array.getElem?_eq_some_iff.1 (hxt y o ho).1).1
  have hold : ∀ y, y < w.heap.size → hset_ (hset_ h w.heap.size (.deferred (some []))) (w.heap.size + 1) ob y = h y := fun y hy => by
    rw [hset_other (by omega), hset_other (by omega)]
  have hs1 : StkW C H E (hset_ (hset_ h w.heap.size (.deferred (some []))) (w.heap.size + 1) ob) stk ms B :=
    (hs.put (fun hm => by have := hB _ (List.mem_append_right _ hm); omega)).put (fun hm => by have := hB _ (List.mem_append_right _ hm); omega)
  have st2 : St C K H E w2 { c with tm := (.val (yv (w.heap.size + 1)) :: caps) ++ List.replicate (fn2.ntmps - (1 + caps.length)) .any } { tmps := (#[yv (w.heap.size + 1)] ++ vs) ++ Array.replicate (fn2.ntmps - (#[yv (w.heap.size + 1)] ++ vs).size) undef, defers := [] } := by
    refine ⟨?_, st1.hp, st1.wok, st1.free, st1.gl, rfl⟩
    have : ((#[yv (w.heap.size + 1)] ++ vs) ++ Array.replicate (fn2.ntmps - (#[yv (w.heap.size + 1)] ++ vs).size) undef).toList = (yv (w.heap.size + 1) :: vs.toList) ++ List.replicate (fn2.ntmps - (1 + caps.length)) undef := by
      have e : (#[yv (w.heap.size + 1)] ++ vs).size = 1 + caps.length := by simp at hl; simp [hl]
      rw [e]; simp
    simp only [this]
    exact DenL.append (l := .val (yv (w.heap.size + 1)) :: caps) (vs := yv (w.heap.size + 1) :: vs.toList) ⟨⟨rfl, rfl⟩, hvs⟩ (DenL.any _ _ (by simp))
  have hit2 : ItOK (bodyOf fn2) [.code []] [.code body2] := by
    have := ItOK.code (body := bodyOf fn2) [] ItOK.nil
    have he : codeAt (bodyOf fn2) [] = body2 := by simp [codeAt, bodyOf, hbody2]
    rwa [he] at this
  have hs2 : StkW C H E (hset_ (hset_ h w.heap.size (.deferred (some []))) (w.heap.size + 1) ob) ({ g, r := none, td := k, tm := c.tm, lp := some (w.heap.size + 1, p, .ready) } :: stk) (atQ (bq g none (marks (w.heap.size :: rs))) a (.inRangeFunc (w.heap.size + 1) :: k') :: ms) ((w.heap.size :: rs) ++ [w.heap.size + 1] ++ B) := by
    refine ⟨w.heap.size :: rs, B, by simp [lpB], ⟨fn, a, k', hfn, st.den, st.defers, hk, fun y hy => ?_, ?_⟩, hs1⟩
    · rcases List.mem_cons.1 hy with rfl | hy
      · rw [hset_other (by omega), hset_same]
      · rw [hold y (hB y (List.mem_append_left _ hy))]; exact hm y hy
    · exact ⟨rfl, ob, hset_same, x, ps, ca, cb, w.heap.size, hcode, rfl⟩
  have hnd2 : (([] : List Nat) ++ ((w.heap.size :: rs) ++ [w.heap.size + 1] ++ B)).Nodup := by
    have h1 : w.heap.size ∉ rs := fun hm => by have := hB _ (List.mem_append_left _ hm); omega
    have h2 : w.heap.size ∉ B := fun hm => by have := hB _ (List.mem_append_right _ hm); omega
    have h3 : w.heap.size + 1 ∉ rs := fun hm => by have := hB _ (List.mem_append_left _ hm); omega
    have h4 : w.heap.size + 1 ∉ B := fun hm => by have := hB _ (List.mem_append_right _ hm); omega
    obtain ⟨n1, n2, n3⟩ := List.nodup_append.1 hnd
    simp only [List.nil_append, List.cons_append, List.append_assoc, List.nodup_cons, List.mem_append, List.mem_cons, List.nodup_append, not_or]
    refine ⟨⟨h1, by omega, h2⟩, n1, ⟨h4, n2⟩, fun a ha b hb => ?_⟩
    rcases hb with rfl | hb
    · intro e; exact h3 (e ▸ ha)
    · exact n3 a ha b hb
  exact (ih (w.heap.size + 1) H E w2 _ _ [] _ (_ :: ms) cs fn2 _ hfn2 st2 hit2 (fun _ hy => by cases hy) hs2 hnd2 hx1).of (.one hstep)
end
end Go.Sx
namespace Go.Sx
structure TgtW where
  g : Nat
  r : Option (Nat × Nat)
  td : List It
  c : Core
  stk : List Fw
def qRO : Option (Nat × Nat) → Option (Nat × Nat) → Option (List Eqn)
  | none, none => some []
  | some (l, d), some (l', d') => iff2 (Nat.beq d d') (some [.nat l l'])
  | _, _ => none
def eqSt : LSt → LSt → Bool
  | .ready, .ready => true
  | .busy, .busy => true
  | .done p, .done q => p == q
  | _, _ => false
def qLpO : Option (Nat × List Nat × LSt) → Option (Nat × List Nat × LSt) → Option (List Eqn)
  | none, none => some []
  | some (l, p, s), some (l', p', s') => iff2 (p == p' && eqSt s s') (some [.nat l l'])
  | _, _ => none
def qStkW (hp : List (Nat × SB)) (ρ : List (Nat × Rn)) : List Fw → List Fw → Option (List Eqn)
  | [], [] => some []
  | f :: s, f' :: s' => iff2 (f.g == f'.g && itsEq f.td f'.td) (app2 (qRO f.r f'.r) (app2 (qLpO f.lp f'.lp) (app2 (qL hp ρ f.tm f'.tm) (qStkW hp ρ s s'))))
  | _, _ => none
def sameStkW : List Fw → List Fw → Bool
  | [], [] => true
  | f :: s, f' :: s' => f.g == f'.g && itsEq f.td f'.td && (f.r.isSome == f'.r.isSome) && (f.lp.isSome == f'.lp.isSome) && sameStkW s s'
  | _, _ => false
def collW : List Fw → List Fw → List (Nat × Rn)
  | f :: s, f' :: s' => collL f.tm f'.tm ++ collW s s'
  | _, _ => []
def TgtW.rn (t : TgtW) (c : Core) (stk : List Fw) : List (Nat × Rn) := infer t.c.hp c.hp 4000 (collL t.c.tm c.tm ++ collW t.stk stk) []
def matchW (g : Nat) (r : Option (Nat × Nat)) (td : List It) (c : Core) (stk : List Fw) : Nat → List TgtW → Tree Fe2
  | _, [] => .fail
  | k, t :: ts => bif g == t.g && itsEq td t.td && sameStkW stk t.stk then match app2 (qRO r t.r) (app2 (qC (t.rn c stk) c t.c) (qStkW c.hp (t.rn c stk) stk t.stk)) with
      | some l => .leaf (.at_ k l)
      | none => matchW g r td c stk (k + 1) ts
    else matchW g r td c stk (k + 1) ts
def toFeW (ts : List TgtW) : OutW → Tree Fe2
  | .fin v c => match finish c v with
    | some s => .leaf (.ret s)
    | none => .fail
  | .stop g r td c stk => matchW g r td c stk 0 ts
def runX (C : Ctx) (pause : Nat → List It → Bool) (m n g : Nat) (r : Option (Nat × Nat)) (td : List It) (c : Core) (stk : List Fw) (ts : List TgtW) : Tree Fe2 := (runW C pause m n g r td c stk).bind (toFeW ts)
def FeWOK (P : Program) (C : Ctx) (K : Kx) (ts : List TgtW) (φ : Sh → Prop) : Fe2 → Prop
  | .ret s => φ s
  | .at_ k l => Eqn.all l ∧ ∃ t, ts[k]? = some t ∧ GoesW P C K t.g t.r t.td t.c t.stk φ
@[irreducible] def MeetsW (ψ : Fe2 → Prop) (t : Tree Fe2) : Prop := t.All ψ
theorem meetsW_eq (ψ : Fe2 → Prop) (t : Tree Fe2) : MeetsW ψ t = t.All ψ := by unfold MeetsW; rfl
def noPause : Nat → List It → Bool := fun _ _ => false
def noDeferAll : BT Func → Bool := BT.allB fun _ fn => noDefer (bodyOf fn)
section
variable {P : Program} {C : Ctx} {K : Kx} {H H' H'' H0 : Mem} {E E' E'' E1 : Env} {w w' w'' w0 : World} {h : Hp}
theorem noDefer_of (hx : noDeferAll C.fns = true) : ∀ g fn, C.fns.get g = some fn → noDefer (bodyOf fn) = true := fun g fn hg => (BT.allB_all hx).get hg
theorem qRO_ok {r r' : Option (Nat × Nat)} {q : List Eqn} (hx : qRO r r' = some q) (ha : Eqn.all q) : r = r' := by
  unfold qRO at hx
  split at hx
  · rfl
  · obtain ⟨h1, h2⟩ := iff2_some hx
    cases h2
    have h3 : _ = _ := ha.1
    rw [h3, Nat.eq_of_beq_eq_true h1]
  · cases hx
theorem eqSt_ok {s t : LSt} (hx : eqSt s t = true) : s = t := by
  cases s <;> cases t <;> simp [eqSt] at hx <;> simp_all
theorem qLpO_ok {r r' : Option (Nat × List Nat × LSt)} {q : List Eqn} (hx : qLpO r r' = some q) (ha : Eqn.all q) : r = r' := by
  unfold qLpO at hx
  split at hx
  · rfl
  · obtain ⟨h1, h2⟩ := iff2_some hx
    cases h2
    simp only [Bool.and_eq_true, beq_iff_eq] at h1
    have h3 : _ = _ := ha.1
    rw [h3, h1.1, eqSt_ok h1.2]
  · cases hx
def leStkW (hp : List (Nat × SB)) (ρ : List (Nat × Rn)) : List Fw → List Fw → Prop
  | [], [] => True
  | f :: s, f' :: s' => f.g = f'.g ∧ f.td = f'.td ∧ f.r = f'.r ∧ f.lp = f'.lp ∧ leL hp ρ f.tm f'.tm ∧ leStkW hp ρ s s'
  | _, _ => False
theorem qStkW_ok {hp : List (Nat × SB)} {ρ : List (Nat × Rn)} : ∀ {s s' : List Fw} {q : List Eqn}, qStkW hp ρ s s' = some q → Eqn.all q → leStkW hp ρ s s'
  | [], [], _, _, _ => trivial
  | f :: s, f' :: s', q, hx, ha => by
    simp only [qStkW] at hx
    obtain ⟨h1, h2⟩ := iff2_some hx
    obtain ⟨a, b, h3, h4, rfl⟩ := app2_some h2
    obtain ⟨a2, b2, h5, h6, rfl⟩ := app2_some h4
    obtain ⟨a3, b3, h7, h8, rfl⟩ := app2_some h6
    simp only [Bool.and_eq_true, beq_iff_eq] at h1
    have e1 := Eqn.all_app ha
    have e2 := Eqn.all_app e1.2
    have e3 := Eqn.all_app e2.2
    exact ⟨h1.1, itsEq_ok h1.2, qRO_ok h3 e1.1, qLpO_ok h5 e2.1, qL_ok _ h7 e3.1, qStkW_ok h8 e3.2⟩
  | [], _ :: _, _, hx, _ => by simp [qStkW] at hx
  | _ :: _, [], _, hx, _ => by simp [qStkW] at hx
theorem StkW.weak {hp : List (Nat × SB)} {ρ : List (Nat × Rn)} (hh : HeapOK K H E w hp) : ∀ {s s' : List Fw} {ms : List Frame} {B : List Nat}, StkW C H E h s ms B → leStkW hp ρ s s' → StkW C H (rnEnv ρ E) h s' ms B
  | [], [], [], _, x, _ => x
  | ⟨g, r, td, tm, lp⟩ :: s, ⟨g', r', td', tm', lp'⟩ :: s', m :: ms, B, ⟨rs, B', hB, ⟨fn, a, items, h1, h2, h3⟩, h6⟩, ⟨e1, e2, e3, e4, e5, e6⟩ => by
    simp only at e1 e2 e3 e4 e5
    subst e1 e2 e3 e4
    exact ⟨rs, B', hB, ⟨fn, a, items, h1, leL_den hh _ e5 h2, h3⟩, StkW.weak hh h6 e6⟩
  | [], [], _ :: _, _, x, _ => x.elim
  | _ :: _, _, [], _, x, _ => x.elim
  | [], _ :: _, _, _, _, x => x.elim
  | _ :: _, [], _ :: _, _, _, x => x.elim
theorem botW_le {hp : List (Nat × SB)} {ρ : List (Nat × Rn)} : ∀ {s s' : List Fw} {g : Nat}, leStkW hp ρ s s' → botW g s' = botW g s
  | [], [], _, _ => rfl
  | f :: s, f' :: s', _, ⟨e1, _, _, _, _, e4⟩ => by simp only [botW]; rw [e1]; exact botW_le e4
  | [], _ :: _, _, h => h.elim
  | _ :: _, [], _, h => h.elim
theorem goesW_weak {g : Nat} {r : Option (Nat × Nat)} {td : List It} {c c' : Core} {stk stk' : List Fw} {φ : Sh → Prop} (ρ : List (Nat × Rn)) (hle : leC ρ c c') (hs : leStkW c.hp ρ stk stk') (hg : GoesW P C K g r td c' stk' φ) : GoesW P C K g r td c stk φ := by
  intro H E w a items rs B ms cs fn h hfn st hi hm hst hnd hx
  have := hg H (rnEnv ρ E) w a items rs B ms cs fn h hfn (st.weak hle) hi hm (hst.weak st.hp hs) hnd (hx.weak st hle)
  rw [botW_le hs] at this
  exact this
theorem matchW_ok {φ : Sh → Prop} {ts : List TgtW} {g : Nat} {r : Option (Nat × Nat)} {td : List It} {c : Core} {stk : List Fw} : ∀ {rs : List TgtW} {k : Nat}, (∀ j, rs[j]? = ts[k + j]?) → (matchW g r td c stk k rs).All (FeWOK P C K ts φ) → GoesW P C K g r td c stk φ
  | [], _, _, hx => hx.elim
  | t :: rs, k, hk, hx => by
    have hr : ∀ j, rs[j]? = ts[k + 1 + j]? := fun j => by have := hk (j + 1); simp only [List.getElem?_cons_succ] at this; rw [this]; congr 1; omega
    unfold matchW at hx
    cases hb : (g == t.g && itsEq td t.td && sameStkW stk t.stk) <;> simp only [hb, cond_true, cond_false] at hx
    · exact matchW_ok hr hx
    · simp only [Bool.and_eq_true, beq_iff_eq] at hb
      obtain ⟨⟨h1, h2⟩, h3⟩ := hb
      split at hx
      · rename_i l hl
        obtain ⟨a0, b0, q0, q00, rfl⟩ := app2_some hl
        obtain ⟨a, b, q1, q2, rfl⟩ := app2_some q00
        obtain ⟨hl, t', ht, hg⟩ := hx
        have := hk 0
        simp only [List.getElem?_cons_zero, Nat.add_zero] at this
        rw [← this] at ht
        cases ht
        have h2 := itsEq_ok h2
        subst h1 h2
        have e1 := Eqn.all_app hl
        have e2 := Eqn.all_app e1.2
        have hrr := qRO_ok q0 e1.1
        subst hrr
        exact goesW_weak (t.rn c stk) (qC_ok q1 e2.1) (qStkW_ok q2 e2.2) hg
      · exact matchW_ok hr hx
theorem goesW_runX (hC : CtxOK P C) (hF : FnsOK P C) (hN : noDeferAll C.fns = true) {pause : Nat → List It → Bool} {m n g : Nat} {r : Option (Nat × Nat)} {td : List It} {c : Core} {stk : List Fw} {ts : List TgtW} {φ : Sh → Prop}
    (hx : MeetsW (FeWOK P C (K0 H0 w0) ts φ) (runX C pause m n g r td c stk ts)) : GoesW P C (K0 H0 w0) g r td c stk φ := by
  rw [meetsW_eq] at hx
  refine goesW_run hC hF (noDefer_of hN) (pause := pause) (m := m) (n := n) ((Tree.All_bind hx).mono fun o ho => ?_)
  cases o with
  | fin v c =>
    simp only [toFeW] at ho
    split at ho
    · rename_i s hs
      exact ⟨s, hs, ho⟩
    · exact ho.elim
  | stop g r td c stk => exact matchW_ok (k := 0) (fun j => by simp) ho
theorem goesW_into {fn : Func} {g : Nat} {r : Option (Nat × Nat)} {td tb : List It} {c : Core} {stk : List Fw} {φ : Sh → Prop} (hfn : C.fns.get g = some fn) (hx : loopTd fn td = some tb) (hg : GoesW P C K g r tb c stk φ) : GoesW P C K g r td c stk φ := by
  unfold loopTd at hx
  split at hx
  · rename_i p k
    cases hb : isLoop (codeAt (bodyOf fn) p) <;> simp only [hb, cond_true, cond_false] at hx
    · cases hx
    · cases hx
      unfold isLoop at hb
      split at hb
      · rename_i x he
        intro H E w a items rs B ms cs fn' h hfn' st hi hm hst hnd hxt
        rw [hfn] at hfn'; cases hfn'
        have h0 : codeAt (bodyOf fn) (0 :: p) = x := by simp [codeAt, he, child]
        cases hi with
        | code p hk =>
          have := ItOK.code (0 :: p) (ItOK.loop p x he hk)
          rw [h0] at this
          rw [he]
          exact (hg H E w a _ rs B ms cs fn h hfn st this hm hst hnd hxt).of (.one sQ_loop)
        | loop p y hl hk =>
          rw [he] at hl; cases hl
          have := ItOK.code (0 :: p) (ItOK.loop p x he hk)
          rw [h0] at this
          exact (hg H E w a _ rs B ms cs fn h hfn st this hm hst hnd hxt).of (.one sQ_inLoop)
      · cases hb
  · cases hx
/-- A function's summary, from its run. -/
theorem fnOK_W (hC : CtxOK P C) {g : Nat} {fn : Func} {F : List Sh → Tree Sh} (hfn : C.fns.get g = some fn) (hb : fn.body.isSome = true)
    (h : ∀ (H : Mem) (w : World) (shs : List Sh) (args : List Value) (φ : Sh → Prop), RepL H shs args → (F shs).All φ → ∃ shs' : List Sh, RepL H shs' args ∧ ∃ L, GoesW P C (K0 H w) g none [.code []] (start0 fn.ntmps shs' L) [] φ) : FnOK P C.gls g F := by
  refine fnOK_S hC hfn hb fun H w shs args φ hr hφ => ?_
  obtain ⟨shs', hr', L, hgo⟩ := h H w shs args φ hr hφ
  refine ⟨shs', hr', L, fun H1 E w1 a items ms cs fn1 hfn1 st hi hs hx => ?_⟩
  cases ms with
  | cons _ _ => exact hs.elim
  | nil =>
    have := hgo H1 E w1 a items [] [] [] cs fn1 (fun _ => none) hfn1 st hi (fun _ hy => by cases hy) rfl (by simp) (fun b o e => by cases e)
    obtain ⟨a', w', v, s, H', todo, fn0, q1, q2, q3⟩ := this
    refine ⟨a', w', v, s, H', todo, fn0, q1, ?_, q3⟩
    have e : (base g).at a items = atQ (bq g (rOf none) (marks [])) a items := (atQ_base g a items).symm
    rw [e]
    exact q2
end
end Go.Sx
namespace Go.Proofs
open Go Go.Sx Go.Pl
def spec6 (L : Lb5) : Nat → Option (List Sh → Tree Sh)
  | 8 => some F8
  | 9 => some F9p
  | 12 => some (G12 L)
  | 13 => some (G13 L)
  | 14 => some F14
  | 37 => some F37
  | _ => none
def td6 : List It := [It.code [0, 1, 0, 1, 1, 1, 1, 1], It.inBlock 0, It.code [1, 1, 1, 1, 1, 1]]
def tb6 : List It := It.code [0, 0, 1, 0, 1, 1, 1, 1, 1] :: td6
/-- The clone: its lists still its own, or not to be changed any more. -/
def cl6 (n m : Nat) (o : Nat → Oj) (p : Nat → Ev) : Bool → List SV × List (Nat × SB)
  | true => ([.gs 4, .gs 5], [(4, .own 31 2 n (fnR o)), (5, .own 34 8 m (fnR p))])
  | false => (hS n m o p, [])
def hp6 (n m : Nat) (o : Nat → Oj) (p : Nat → Ev) (stop i : Int) (v : Bool) : List (Nat × SB) :=
  [(0, .box (hS n m o p) 25), (1, .box [.sym .i64 stop] 3), (2, .box [.bool false] 4), (3, .box (cl6 n m o p v).1 25)] ++ (cl6 n m o p v).2 ++ [(6, .box [.sym .i64 i] 3)]
def tm6 : List (Nat × SV) := [(2, .ptr 0 0), (3, .ptr 1 0), (4, .ptr 2 0), (6, .fn 46 [.ptr 3 0]), (7, .ptr 6 0)]
/-- A round of two. -/
def L6r (n m : Nat) (o : Nat → Oj) (p : Nat → Ev) (stop i : Int) (v : Bool) : Core := { tm := tmOf 75 tm6, hp := hp6 n m o p stop i v, nx := 7, lim := L0, tc := [] }
def pR6 : List Nat := [0, 1, 0, 1, 0, 0, 1, 0, 0, 1, 0, 1, 1, 1, 1, 1]
def k6 : List It := [It.inBlock 2, It.code [1, 1, 0, 0, 1, 0, 0, 1, 0, 1, 1, 1, 1, 1], It.inBlock 1, It.code [1, 1, 0, 0, 1, 0, 1, 1, 1, 1, 1], It.code [0, 1, 0, 1, 1, 1, 1, 1], It.inBlock 0, It.code [1, 1, 1, 1, 1, 1]]
def tmT : List SV := tmOf 75 (tm6 ++ [(8, .ptr 7 0), (28, .fn 46 [.ptr 3 0])])
/-- Ahead of the range over the prefixes. -/
def L6t (n m : Nat) (o : Nat → Oj) (p : Nat → Ev) (stop i : Int) (v : Bool) : Core := { tm := tmT, hp := hp6 n m o p stop i v ++ [(7, .box [.sym .i64 0] 3)], nx := 8, lim := L0, tc := [] }
def tdI : List It := [It.code [0, 1], It.inBlock 0]
def tbI : List It := It.code [0, 0, 1] :: tdI
def s6 (l : Nat) : List Fw := [⟨6, none, k6, tmT, some (l, pR6, .ready)⟩]
/-- In the prefixes' loop: the k-th comes next; j have been counted. -/
def L6i (n m : Nat) (o : Nat → Oj) (p : Nat → Ev) (stop i : Int) (l : Nat) (k j : Int) (v : Bool) : Core :=
  { tm := tmOf 18 [(0, .val (yv l)), (1, .ptr 3 0), (3, .sym .i64 k)], hp := hp6 n m o p stop i v ++ [(7, .box [.sym .i64 j] 3)], nx := 8, lim := L0, tc := [] }

theorem a6 (A : Prim) (W : Wd) (L : Lb5) (n m : Nat) (o : Nat → Oj) (p : Nat → Ev) (stop i : Int) : runX (C5 A W (spec6 L) stopAll) noPause 300 800 6 none [.code []] (start0 75 [.agg [.sl 2 n (fnR o), .sl 8 m (fnR p)], .i .i64 stop] L0) [] [⟨6, none, td6, L6r n m o p stop i true, []⟩] = Tree.node (A.nt (smallB n m)) (Tree.leaf (Fe2.ret (Sh.b true))) (Tree.node (A.nt true) (Tree.leaf (Fe2.ret (Sh.b true))) (Tree.need (roomB n 16) (Tree.need (roomB m 64) (Tree.leaf (Fe2.at_ 0 [Eqn.sh (Sh.sl 2 n (fnR o)) (Sh.sl 2 n (fnR o)), Eqn.sh (Sh.sl 8 m (fnR p)) (Sh.sl 8 m (fnR p)), Eqn.int stop stop, Eqn.nat n n, Eqn.get n (fnR o) (fnR o), Eqn.nat m m, Eqn.get m (fnR p) (fnR p), Eqn.int (Int.ofNat 0) i]))))) := by kernel_rfl
theorem b6t (A : Prim) (W : Wd) (L : Lb5) (n m : Nat) (o : Nat → Oj) (p : Nat → Ev) (stop i : Int) : runX (C5 A W (spec6 L) stopAll) noPause 300 800 6 none tb6 (L6r n m o p stop i true) [] [⟨6, none, .code pR6 :: k6, L6t n m o p stop i true, []⟩] = Tree.node (A.lt i (Int.ofNat 2)) (Tree.leaf (Fe2.at_ 0 [Eqn.sh (Sh.sl 2 n (fnR o)) (Sh.sl 2 n (fnR o)), Eqn.sh (Sh.sl 8 m (fnR p)) (Sh.sl 8 m (fnR p)), Eqn.int stop stop, Eqn.nat n n, Eqn.get n (fnR o) (fnR o), Eqn.nat m m, Eqn.get m (fnR p) (fnR p), Eqn.int i i, Eqn.int (Int.ofNat 0) (Int.ofNat 0)])) (Tree.leaf (Fe2.ret (Sh.b true))) := by kernel_rfl
theorem t6t (A : Prim) (W : Wd) (L : Lb5) (n m : Nat) (o : Nat → Oj) (p : Nat → Ev) (stop i : Int) (l : Nat) (k j : Int) : runX (C5 A W (spec6 L) stopAll) noPause 300 800 46 none [.code []] { L6t n m o p stop i true with tm := (.val (yv l) :: [.ptr 3 0]) ++ List.replicate (18 - (1 + 1)) .any } (s6 l) [⟨46, none, tdI, L6i n m o p stop i l k j true, s6 l⟩] = Tree.leaf (Fe2.at_ 0 [Eqn.val (Value.func (Fn.yield l) { toList := [] } { toList := [] }) (Value.func (Fn.yield l) { toList := [] } { toList := [] }), Eqn.int (Int.ofNat 0) k, Eqn.sh (Sh.sl 2 n (fnR o)) (Sh.sl 2 n (fnR o)), Eqn.sh (Sh.sl 8 m (fnR p)) (Sh.sl 8 m (fnR p)), Eqn.int stop stop, Eqn.nat n n, Eqn.get n (fnR o) (fnR o), Eqn.nat m m, Eqn.get m (fnR p) (fnR p), Eqn.int i i, Eqn.int (Int.ofNat 0) j, Eqn.nat l l]) := by kernel_rfl
theorem i6t (A : Prim) (W : Wd) (L : Lb5) (n m : Nat) (o : Nat → Oj) (p : Nat → Ev) (stop i : Int) (l l' : Nat) (k j k' j' i' : Int) : runX (C5 A W (spec6 L) stopAll) noPause 300 800 46 none tbI (L6i n m o p stop i l k j true) (s6 l) [⟨46, none, tdI, L6i n m o p stop i l k' j' false, s6 l⟩, ⟨6, none, td6, L6r n m o p stop i' false, []⟩] = Tree.node (A.le k (A.ofN m)) (Tree.need (roomB n 16) (Tree.need (roomB (L.un k m) 64) (Tree.must [Eqn.nat l l] (Tree.must [Eqn.nat l l] (Tree.node (A.lt (A.ofN m) j) (Tree.must [Eqn.nat l l] (Tree.leaf (Fe2.ret (Sh.b false)))) (Tree.node (A.nt (A.eq k j)) (Tree.must [Eqn.nat l l] (Tree.leaf (Fe2.ret (Sh.b false)))) (Tree.need (okB Oj n (fnR o)) (Tree.need (okB Ev (upN k m) (fnR p)) (Tree.need (roomB n 16) (Tree.need (roomB (upN k m) 64) (Tree.need (okB Oj n (fnR o)) (Tree.need (okB Oj n (fO (fnR o))) (Tree.need (okB Ev (L.un k m) (fnR p)) (Tree.need (okB Ev (upN k m) (fE (fnR p))) (Tree.node (A.nt (L.same n (L.un k m) (fnR o) (fnR p) n (upN k m) (fO (fnR o)) (fE (fnR p)))) (Tree.must [Eqn.nat l l] (Tree.leaf (Fe2.ret (Sh.b false)))) (Tree.node (A.eq i (Int.ofNat 0)) (Tree.node (A.eq (A.add IntKind.i64 j (Int.ofNat 1)) stop) (Tree.must [Eqn.nat l l] (Tree.node (A.nt (A.eq (A.add IntKind.i64 j (Int.ofNat 1)) (A.add IntKind.i64 (A.ofN m) (Int.ofNat 1)))) (Tree.node (A.eq i (Int.ofNat 0)) (Tree.node (A.nt (A.eq (A.add IntKind.i64 j (Int.ofNat 1)) stop)) (Tree.leaf (Fe2.ret (Sh.b false))) (Tree.leaf (Fe2.at_ 1 [Eqn.sh (Sh.sl 2 n (fnR o)) (Sh.sl 2 n (fnR o)), Eqn.sh (Sh.sl 8 m (fnR p)) (Sh.sl 8 m (fnR p)), Eqn.int stop stop, Eqn.sh (Sh.sl 2 n (fnR o)) (Sh.sl 2 n (fnR o)), Eqn.sh (Sh.sl 8 m (fnR p)) (Sh.sl 8 m (fnR p)), Eqn.int (A.add IntKind.i64 i (Int.ofNat 1)) i']))) (Tree.leaf (Fe2.ret (Sh.b false)))) (Tree.leaf (Fe2.at_ 1 [Eqn.sh (Sh.sl 2 n (fnR o)) (Sh.sl 2 n (fnR o)), Eqn.sh (Sh.sl 8 m (fnR p)) (Sh.sl 8 m (fnR p)), Eqn.int stop stop, Eqn.sh (Sh.sl 2 n (fnR o)) (Sh.sl 2 n (fnR o)), Eqn.sh (Sh.sl 8 m (fnR p)) (Sh.sl 8 m (fnR p)), Eqn.int (A.add IntKind.i64 i (Int.ofNat 1)) i'])))) (Tree.must [Eqn.nat l l] (Tree.leaf (Fe2.at_ 0 [Eqn.val (Value.func (Fn.yield l) { toList := [] } { toList := [] }) (Value.func (Fn.yield l) { toList := [] } { toList := [] }), Eqn.int (A.add IntKind.i64 k (Int.ofNat 1)) k', Eqn.sh (Sh.sl 2 n (fnR o)) (Sh.sl 2 n (fnR o)), Eqn.sh (Sh.sl 8 m (fnR p)) (Sh.sl 8 m (fnR p)), Eqn.int stop stop, Eqn.sh (Sh.sl 2 n (fnR o)) (Sh.sl 2 n (fnR o)), Eqn.sh (Sh.sl 8 m (fnR p)) (Sh.sl 8 m (fnR p)), Eqn.int i i, Eqn.int (A.add IntKind.i64 j (Int.ofNat 1)) j', Eqn.nat l l])))) (Tree.must [Eqn.nat l l] (Tree.leaf (Fe2.at_ 0 [Eqn.val (Value.func (Fn.yield l) { toList := [] } { toList := [] }) (Value.func (Fn.yield l) { toList := [] } { toList := [] }), Eqn.int (A.add IntKind.i64 k (Int.ofNat 1)) k', Eqn.sh (Sh.sl 2 n (fnR o)) (Sh.sl 2 n (fnR o)), Eqn.sh (Sh.sl 8 m (fnR p)) (Sh.sl 8 m (fnR p)), Eqn.int stop stop, Eqn.sh (Sh.sl 2 n (fnR o)) (Sh.sl 2 n (fnR o)), Eqn.sh (Sh.sl 8 m (fnR p)) (Sh.sl 8 m (fnR p)), Eqn.int i i, Eqn.int (A.add IntKind.i64 j (Int.ofNat 1)) j', Eqn.nat l l]))))))))))))))))))) (Tree.node (A.nt (A.eq j (A.add IntKind.i64 (A.ofN m) (Int.ofNat 1)))) (Tree.node (A.eq i (Int.ofNat 0)) (Tree.node (A.nt (A.eq j stop)) (Tree.leaf (Fe2.ret (Sh.b false))) Tree.fail) (Tree.leaf (Fe2.ret (Sh.b false)))) Tree.fail) := by kernel_rfl
theorem b6f (A : Prim) (W : Wd) (L : Lb5) (n m : Nat) (o : Nat → Oj) (p : Nat → Ev) (stop i : Int) : runX (C5 A W (spec6 L) stopAll) noPause 300 800 6 none tb6 (L6r n m o p stop i false) [] [⟨6, none, .code pR6 :: k6, L6t n m o p stop i false, []⟩] = Tree.node (A.lt i (Int.ofNat 2)) (Tree.leaf (Fe2.at_ 0 [Eqn.sh (Sh.sl 2 n (fnR o)) (Sh.sl 2 n (fnR o)), Eqn.sh (Sh.sl 8 m (fnR p)) (Sh.sl 8 m (fnR p)), Eqn.int stop stop, Eqn.sh (Sh.sl 2 n (fnR o)) (Sh.sl 2 n (fnR o)), Eqn.sh (Sh.sl 8 m (fnR p)) (Sh.sl 8 m (fnR p)), Eqn.int i i, Eqn.int (Int.ofNat 0) (Int.ofNat 0)])) (Tree.leaf (Fe2.ret (Sh.b true))) := by kernel_rfl
theorem t6f (A : Prim) (W : Wd) (L : Lb5) (n m : Nat) (o : Nat → Oj) (p : Nat → Ev) (stop i : Int) (l : Nat) (k j : Int) : runX (C5 A W (spec6 L) stopAll) noPause 300 800 46 none [.code []] { L6t n m o p stop i false with tm := (.val (yv l) :: [.ptr 3 0]) ++ List.replicate (18 - (1 + 1)) .any } (s6 l) [⟨46, none, tdI, L6i n m o p stop i l k j false, s6 l⟩] = Tree.leaf (Fe2.at_ 0 [Eqn.val (Value.func (Fn.yield l) { toList := [] } { toList := [] }) (Value.func (Fn.yield l) { toList := [] } { toList := [] }), Eqn.int (Int.ofNat 0) k, Eqn.sh (Sh.sl 2 n (fnR o)) (Sh.sl 2 n (fnR o)), Eqn.sh (Sh.sl 8 m (fnR p)) (Sh.sl 8 m (fnR p)), Eqn.int stop stop, Eqn.sh (Sh.sl 2 n (fnR o)) (Sh.sl 2 n (fnR o)), Eqn.sh (Sh.sl 8 m (fnR p)) (Sh.sl 8 m (fnR p)), Eqn.int i i, Eqn.int (Int.ofNat 0) j, Eqn.nat l l]) := by kernel_rfl
theorem i6f (A : Prim) (W : Wd) (L : Lb5) (n m : Nat) (o : Nat → Oj) (p : Nat → Ev) (stop i : Int) (l l' : Nat) (k j k' j' i' : Int) : runX (C5 A W (spec6 L) stopAll) noPause 300 800 46 none tbI (L6i n m o p stop i l k j false) (s6 l) [⟨46, none, tdI, L6i n m o p stop i l k' j' false, s6 l⟩, ⟨6, none, td6, L6r n m o p stop i' false, []⟩] = Tree.node (A.le k (A.ofN m)) (Tree.need (roomB n 16) (Tree.need (roomB (L.un k m) 64) (Tree.must [Eqn.nat l l] (Tree.must [Eqn.nat l l] (Tree.node (A.lt (A.ofN m) j) (Tree.must [Eqn.nat l l] (Tree.leaf (Fe2.ret (Sh.b false)))) (Tree.node (A.nt (A.eq k j)) (Tree.must [Eqn.nat l l] (Tree.leaf (Fe2.ret (Sh.b false)))) (Tree.need (okB Oj n (fnR o)) (Tree.need (okB Ev (upN k m) (fnR p)) (Tree.need (roomB n 16) (Tree.need (roomB (upN k m) 64) (Tree.need (okB Oj n (fnR o)) (Tree.need (okB Oj n (fO (fnR o))) (Tree.need (okB Ev (L.un k m) (fnR p)) (Tree.need (okB Ev (upN k m) (fE (fnR p))) (Tree.node (A.nt (L.same n (L.un k m) (fnR o) (fnR p) n (upN k m) (fO (fnR o)) (fE (fnR p)))) (Tree.must [Eqn.nat l l] (Tree.leaf (Fe2.ret (Sh.b false)))) (Tree.node (A.eq i (Int.ofNat 0)) (Tree.node (A.eq (A.add IntKind.i64 j (Int.ofNat 1)) stop) (Tree.must [Eqn.nat l l] (Tree.node (A.nt (A.eq (A.add IntKind.i64 j (Int.ofNat 1)) (A.add IntKind.i64 (A.ofN m) (Int.ofNat 1)))) (Tree.node (A.eq i (Int.ofNat 0)) (Tree.node (A.nt (A.eq (A.add IntKind.i64 j (Int.ofNat 1)) stop)) (Tree.leaf (Fe2.ret (Sh.b false))) (Tree.leaf (Fe2.at_ 1 [Eqn.sh (Sh.sl 2 n (fnR o)) (Sh.sl 2 n (fnR o)), Eqn.sh (Sh.sl 8 m (fnR p)) (Sh.sl 8 m (fnR p)), Eqn.int stop stop, Eqn.sh (Sh.sl 2 n (fnR o)) (Sh.sl 2 n (fnR o)), Eqn.sh (Sh.sl 8 m (fnR p)) (Sh.sl 8 m (fnR p)), Eqn.int (A.add IntKind.i64 i (Int.ofNat 1)) i']))) (Tree.leaf (Fe2.ret (Sh.b false)))) (Tree.leaf (Fe2.at_ 1 [Eqn.sh (Sh.sl 2 n (fnR o)) (Sh.sl 2 n (fnR o)), Eqn.sh (Sh.sl 8 m (fnR p)) (Sh.sl 8 m (fnR p)), Eqn.int stop stop, Eqn.sh (Sh.sl 2 n (fnR o)) (Sh.sl 2 n (fnR o)), Eqn.sh (Sh.sl 8 m (fnR p)) (Sh.sl 8 m (fnR p)), Eqn.int (A.add IntKind.i64 i (Int.ofNat 1)) i'])))) (Tree.must [Eqn.nat l l] (Tree.leaf (Fe2.at_ 0 [Eqn.val (Value.func (Fn.yield l) { toList := [] } { toList := [] }) (Value.func (Fn.yield l) { toList := [] } { toList := [] }), Eqn.int (A.add IntKind.i64 k (Int.ofNat 1)) k', Eqn.sh (Sh.sl 2 n (fnR o)) (Sh.sl 2 n (fnR o)), Eqn.sh (Sh.sl 8 m (fnR p)) (Sh.sl 8 m (fnR p)), Eqn.int stop stop, Eqn.sh (Sh.sl 2 n (fnR o)) (Sh.sl 2 n (fnR o)), Eqn.sh (Sh.sl 8 m (fnR p)) (Sh.sl 8 m (fnR p)), Eqn.int i i, Eqn.int (A.add IntKind.i64 j (Int.ofNat 1)) j', Eqn.nat l l])))) (Tree.must [Eqn.nat l l] (Tree.leaf (Fe2.at_ 0 [Eqn.val (Value.func (Fn.yield l) { toList := [] } { toList := [] }) (Value.func (Fn.yield l) { toList := [] } { toList := [] }), Eqn.int (A.add IntKind.i64 k (Int.ofNat 1)) k', Eqn.sh (Sh.sl 2 n (fnR o)) (Sh.sl 2 n (fnR o)), Eqn.sh (Sh.sl 8 m (fnR p)) (Sh.sl 8 m (fnR p)), Eqn.int stop stop, Eqn.sh (Sh.sl 2 n (fnR o)) (Sh.sl 2 n (fnR o)), Eqn.sh (Sh.sl 8 m (fnR p)) (Sh.sl 8 m (fnR p)), Eqn.int i i, Eqn.int (A.add IntKind.i64 j (Int.ofNat 1)) j', Eqn.nat l l]))))))))))))))))))) (Tree.node (A.nt (A.eq j (A.add IntKind.i64 (A.ofN m) (Int.ofNat 1)))) (Tree.node (A.eq i (Int.ofNat 0)) (Tree.node (A.nt (A.eq j stop)) (Tree.leaf (Fe2.ret (Sh.b false))) (Tree.leaf (Fe2.at_ 1 [Eqn.sh (Sh.sl 2 n (fnR o)) (Sh.sl 2 n (fnR o)), Eqn.sh (Sh.sl 8 m (fnR p)) (Sh.sl 8 m (fnR p)), Eqn.int stop stop, Eqn.sh (Sh.sl 2 n (fnR o)) (Sh.sl 2 n (fnR o)), Eqn.sh (Sh.sl 8 m (fnR p)) (Sh.sl 8 m (fnR p)), Eqn.int (A.add IntKind.i64 i (Int.ofNat 1)) i']))) (Tree.leaf (Fe2.ret (Sh.b false)))) (Tree.leaf (Fe2.at_ 1 [Eqn.sh (Sh.sl 2 n (fnR o)) (Sh.sl 2 n (fnR o)), Eqn.sh (Sh.sl 8 m (fnR p)) (Sh.sl 8 m (fnR p)), Eqn.int stop stop, Eqn.sh (Sh.sl 2 n (fnR o)) (Sh.sl 2 n (fnR o)), Eqn.sh (Sh.sl 8 m (fnR p)) (Sh.sl 8 m (fnR p)), Eqn.int (A.add IntKind.i64 i (Int.ofNat 1)) i']))) := by kernel_rfl
end Go.Proofs
namespace Go.Proofs
open Go Go.Sx Go.Pl
theorem O6s : ∀ g F, spec6 L5 g = some F → FnOK Tryd.prog (gls5 W5) g F := fun g F h => by
  unfold spec6 at h
  split at h
  · cases h; exact O8
  · cases h; exact O9p
  · cases h; exact O12g
  · cases h; exact O13g
  · cases h; exact O14
  · cases h; exact O37
  · cases h
theorem fok6 (stop : Nat → List Nat → Bool) : FnsOK Tryd.prog (C5 prim W5 (spec6 L5) stop) := C5.fok O6s fun g h => by
  unfold spec6 at h
  split at h
  all_goals first | (cases h; done) | kernel_rfl
theorem nd5 : noDeferAll Tryd.fns = true := by kernel_rfl
section
variable {H0 : Mem} {w0 : World} {n m : Nat} {o : Nat → Oj} {p : Nat → Ev} {stop : Int} {φ : Sh → Prop}
theorem loopI6 (hn : n ≤ 100) (hm : m ≤ 600) {i : Nat} (hi : i < 2) {l : Nat} (next : GoesW Tryd.prog (C5 prim W5 (spec6 L5) stopAll) (K0 H0 w0) 6 none td6 (L6r n m o p stop ((i + 1 : Nat) : Int) false) [] φ) : ∀ r (k : Nat) (v : Bool), k + r = m + 1 → (v = true → k = 0) →
    GoesW Tryd.prog (C5 prim W5 (spec6 L5) stopAll) (K0 H0 w0) 46 none tdI (L6i n m o p stop (i : Int) l (k : Int) (k : Int) v) (s6 l) φ
  | r, k, v, hk, hv => by
    refine goesW_into (fn := Tryd.f46) (tb := tbI) (by kernel_rfl) (by kernel_rfl) ?_
    have hw (x : Nat) (hx : x ≤ 700) : prim.add .i64 (x : Int) (Int.ofNat 1) = ((x + 1 : Nat) : Int) := by
      show IntKind.i64.wrap ((x : Int) + 1) = _
      rw [wrap_id (by omega) (by omega)]; rfl
    have q3 : roomB n 16 = true := room_le (by omega) (by omega)
    have ok (b : Nat) {α : Type} [Row α] (o : Nat → α) : okB α b (fnR o) = true := okB_put o b
    have hup := upN_le (k : Int) m
    have q1 : roomB (L5.un (k : Int) m) 64 = true := room_le (by show upN (k : Int) m ≤ _; omega) (by omega)
    have q1' : roomB (upN (k : Int) m) 64 = true := room_le (by omega) (by omega)
    have s1 : L5.same n (L5.un (k : Int) m) (fnR o) (fnR p) n (upN (k : Int) m) (fO (fnR o)) (fE (fnR p)) = true := by
      rw [fO_fnR, fE_fnR]; exact sameHB_evs rfl
    have e1 : prim.eq (k : Int) (k : Int) = true := by simp [prim_eq]
    have w1 := hw i (by omega)
    by_cases hlt : k ≤ m
    · match r, hk with
      | 0, hk => omega
      | r + 1, hk =>
      have rec_ := loopI6 hn hm hi (l := l) next r (k + 1) false (by omega) (fun h => by cases h)
      have w2 := hw k (by omega)
      have w3 := hw m (by omega)
      have g1 : prim.lt (prim.ofN m) (k : Int) = true → False := fun h => by simp [prim_lt, prim_ofN] at h; omega
      have g2 : prim.le (k : Int) (prim.ofN m) = false → False := fun h => by simp [prim_le, prim_ofN] at h; omega
      have t0 : ∃ t : TgtW, ([⟨46, none, tdI, L6i n m o p stop (i : Int) l ((k + 1 : Nat) : Int) ((k + 1 : Nat) : Int) false, s6 l⟩, ⟨6, none, td6, L6r n m o p stop ((i + 1 : Nat) : Int) false, []⟩] : List TgtW)[0]? = some t ∧ GoesW Tryd.prog (C5 prim W5 (spec6 L5) stopAll) (K0 H0 w0) t.g t.r t.td t.c t.stk φ := ⟨_, rfl, rec_⟩
      have t1 : ∃ t : TgtW, ([⟨46, none, tdI, L6i n m o p stop (i : Int) l ((k + 1 : Nat) : Int) ((k + 1 : Nat) : Int) false, s6 l⟩, ⟨6, none, td6, L6r n m o p stop ((i + 1 : Nat) : Int) false, []⟩] : List TgtW)[1]? = some t ∧ GoesW Tryd.prog (C5 prim W5 (spec6 L5) stopAll) (K0 H0 w0) t.g t.r t.td t.c t.stk φ := ⟨_, rfl, next⟩
      cases v
      all_goals
        refine goesW_runX (C5.ok _ _) (fok6 _) nd5 (pause := noPause) (m := 300) (n := 800) (ts := [⟨46, none, tdI, L6i n m o p stop (i : Int) l ((k + 1 : Nat) : Int) ((k + 1 : Nat) : Int) false, s6 l⟩, ⟨6, none, td6, L6r n m o p stop ((i + 1 : Nat) : Int) false, []⟩]) ?_
        first
          | rw [i6f prim W5 L5 n m o p stop i l l k k (k + 1 : Nat) (k + 1 : Nat) (i + 1 : Nat), meetsW_eq]
          | rw [i6t prim W5 L5 n m o p stop i l l k k (k + 1 : Nat) (k + 1 : Nat) (i + 1 : Nat), meetsW_eq]
        rw [fO_fnR, fE_fnR] at s1 ⊢
        refine ⟨fun _ => ?_, fun h => (g2 h).elim⟩
        repeat' (first
          | exact trivial
          | assumption
          | exact ok _ _
          | exact fun h => (g1 h).elim
          | exact nno e1
          | exact nno s1
          | exact nno (by assumption)
          | exact no (by assumption)
          | exact rfl
          | (intro _)
          | refine And.intro ?_ ?_)
    · have hke : k = m + 1 := by omega
      have hvf : v = false := by
        cases v with
        | false => rfl
        | true => have := hv rfl; omega
      subst hvf
      refine goesW_runX (C5.ok _ _) (fok6 _) nd5 (pause := noPause) (m := 300) (n := 800) (ts := [⟨46, none, tdI, L6i n m o p stop (i : Int) l ((k + 1 : Nat) : Int) ((k + 1 : Nat) : Int) false, s6 l⟩, ⟨6, none, td6, L6r n m o p stop ((i + 1 : Nat) : Int) false, []⟩]) ?_
      rw [i6f prim W5 L5 n m o p stop i l l k k (k + 1 : Nat) (k + 1 : Nat) (i + 1 : Nat), meetsW_eq]
      have w3 := hw m (by omega)
      have e2 : prim.eq (k : Int) (prim.add .i64 (prim.ofN m) (Int.ofNat 1)) = true := by
        show prim.eq (k : Int) (prim.add .i64 (m : Int) (Int.ofNat 1)) = true
        rw [w3, prim_eq, hke]; simp
      refine ⟨fun h => ?_, fun _ => ⟨nno e2, fun _ => ⟨?_, _, rfl, next⟩⟩⟩
      · simp [prim_le, prim_ofN] at h; omega
      · repeat' (first | exact trivial | exact rfl | exact w1 | refine And.intro ?_ ?_)
theorem round6 (hn : n ≤ 100) (hm : m ≤ 600) (hφ : φ (.b true)) : ∀ r (i : Nat) (v : Bool), i + r = 2 → GoesW Tryd.prog (C5 prim W5 (spec6 L5) stopAll) (K0 H0 w0) 6 none td6 (L6r n m o p stop (i : Int) v) [] φ
  | r, i, v, hi => by
    refine goesW_into (fn := Tryd.f6) (tb := tb6) (by kernel_rfl) (by kernel_rfl) ?_
    by_cases hlt : i < 2
    · match r, hi with
      | 0, hi => omega
      | r + 1, hi =>
      have next := round6 hn hm hφ r (i + 1) false (by omega)
      have here : GoesW Tryd.prog (C5 prim W5 (spec6 L5) stopAll) (K0 H0 w0) 6 none (.code pR6 :: k6) (L6t n m o p stop (i : Int) v) [] φ := by
        refine goesW_range (C5.ok _ _) (fok6 _) (fn := Tryd.f6) (fn2 := Tryd.f46) (g2 := 46) (caps := [.ptr 3 0]) (by kernel_rfl) (x := .tmp 28) (ps := #[29, 30]) (ca := codeAt (bodyOf Tryd.f6) (0 :: pR6)) (cb := codeAt (bodyOf Tryd.f6) (1 :: pR6)) (by kernel_rfl) (by kernel_rfl) (by kernel_rfl) (by kernel_rfl) fun l => ?_
        have hn46 : Tryd.f46.ntmps = 18 := by kernel_rfl
        rw [hn46]
        have start := loopI6 hn hm hlt (l := l) next (m + 1) 0 v (by omega) (fun _ => rfl)
        refine goesW_runX (C5.ok _ _) (fok6 _) nd5 (pause := noPause) (m := 300) (n := 800) (ts := [⟨46, none, tdI, L6i n m o p stop (i : Int) l ((0 : Nat) : Int) ((0 : Nat) : Int) v, s6 l⟩]) ?_
        cases v with
        | true =>
          refine (congrArg (MeetsW _) (t6t prim W5 L5 n m o p stop i l ((0 : Nat) : Int) ((0 : Nat) : Int))).mpr ?_
          rw [meetsW_eq]
          exact ⟨by repeat' (first | exact trivial | exact rfl | exact fun _ _ => rfl | refine And.intro ?_ ?_), _, rfl, start⟩
        | false =>
          refine (congrArg (MeetsW _) (t6f prim W5 L5 n m o p stop i l ((0 : Nat) : Int) ((0 : Nat) : Int))).mpr ?_
          rw [meetsW_eq]
          exact ⟨by repeat' (first | exact trivial | exact rfl | exact fun _ _ => rfl | refine And.intro ?_ ?_), _, rfl, start⟩
      refine goesW_runX (C5.ok _ _) (fok6 _) nd5 (pause := noPause) (m := 300) (n := 800) (ts := [⟨6, none, .code pR6 :: k6, L6t n m o p stop (i : Int) v, []⟩]) ?_
      cases v with
      | true =>
        rw [b6t prim W5 L5 n m o p stop i, meetsW_eq]
        refine ⟨fun _ => ⟨?_, _, rfl, here⟩, fun h => ?_⟩
        · repeat' (first | exact trivial | exact rfl | exact fun _ _ => rfl | refine And.intro ?_ ?_)
        · simp [prim_lt] at h; omega
      | false =>
        rw [b6f prim W5 L5 n m o p stop i, meetsW_eq]
        refine ⟨fun _ => ⟨?_, _, rfl, here⟩, fun h => ?_⟩
        · repeat' (first | exact trivial | exact rfl | exact fun _ _ => rfl | refine And.intro ?_ ?_)
        · simp [prim_lt] at h; omega
    · refine goesW_runX (C5.ok _ _) (fok6 _) nd5 (pause := noPause) (m := 300) (n := 800) (ts := [⟨6, none, .code pR6 :: k6, L6t n m o p stop (i : Int) v, []⟩]) ?_
      have no2 : prim.lt (i : Int) (Int.ofNat 2) = true → False := fun h => by simp [prim_lt] at h; omega
      cases v with
      | true =>
        rw [b6t prim W5 L5 n m o p stop i, meetsW_eq]
        exact ⟨fun h => (no2 h).elim, fun _ => hφ⟩
      | false =>
        rw [b6f prim W5 L5 n m o p stop i, meetsW_eq]
        exact ⟨fun h => (no2 h).elim, fun _ => hφ⟩
end
def F6 : List Sh → Tree Sh
  | [.agg [.sl 2 n g, .sl 8 m h], .i .i64 _] => .need (okB Oj n g) (.need (okB Ev m h) (.need (retsB m h) (.leaf (.b true))))
  | _ => .fail
theorem O6 : FnOK Tryd.prog (gls5 W5) 6 F6 := by
  refine fnOK_W (C := C5 prim W5 (spec6 L5) stopAll) (C5.ok _ _) (fn := Tryd.f6) (by kernel_rfl) (by kernel_rfl) fun H w shs args φ hrep h => ?_
  have hn : Tryd.f6.ntmps = 75 := by kernel_rfl
  unfold F6 at h
  split at h
  · rename_i n g m h' stop
    obtain ⟨q1, q2, _, hφ⟩ := h
    have hφ : φ (.b true) := hφ
    match args, hrep with
    | [v0, v1], ⟨r0, r1, _⟩ =>
      rw [hn]
      refine ⟨[.agg [.sl 2 n (fnR (rwAt (α := Oj) g)), .sl 8 m (fnR (rwAt (α := Ev) h'))], .i .i64 stop], ⟨rep_agg_rows2 r0 q1 q2, r1, trivial⟩, L0, ?_⟩
      generalize rwAt (α := Oj) g = o at *
      generalize rwAt (α := Ev) h' = p at *
      refine goesW_runX (C5.ok _ _) (fok6 _) nd5 (pause := noPause) (m := 300) (n := 800) (ts := [⟨6, none, td6, L6r n m o p stop ((0 : Nat) : Int) true, []⟩]) ?_
      rw [a6 prim W5 L5 n m o p stop ((0 : Nat) : Int), meetsW_eq]
      refine ⟨fun _ => hφ, fun h1 => ⟨fun _ => hφ, fun _ => ?_⟩⟩
      have h1 : smallB n m = true := by simpa [prim_nt] using h1
      simp [smallB] at h1
      obtain ⟨hn, hm⟩ := h1
      exact ⟨room_le (by omega) (by omega), room_le (by omega) (by omega), by repeat' (first | exact trivial | exact rfl | exact fun _ _ => rfl | refine And.intro ?_ ?_), _, rfl, round6 hn hm hφ 2 0 true (by omega)⟩
  · exact h.elim
end Go.Proofs
