/-
  Targets that stand at one place: the first that fits is taken. Own work. Chapter 5: what the laws have in common: the library as things of which nothing is known, rules, plain facts on lists of events. Own work. Chapter 5: the law CutOwn; evaluated. The equations are written by program (gen2.py). Own work. Chapter 5: summary: the law CutOwn answers true. Own work (written by program, mkf107.py). From the readings of a row to the shapes of the executor: ints, flat structs of ints, slices of them, the listed variables; and back: the row's post. Own work. The listed variables, as the executor's globals. Own work. Chapter 5: the listed variables are the executor's globals. Own work (written by program, mklb.py). From a law's summary to its row's post: it answers true, and what it was given reads as it did. Own work.
-/
import Derived.Test.YtibleheeajlfjaaDoorW10
import Derived.ProofKit
import Derived.Deep.Slices
import Derived.Stop.LaidErr
import Derived.LaidMore
import Derived.OpenShut
import Derived.MakeChecks
import Derived.Test.YtibleheeajlfjaaDoorRows
import Derived.Carry
import Derived.Stop.Joined
namespace Go.Sx
def matchU (g : Nat) (td : List It) (c : Core) (stk : List Fr) : Nat → List Tgt → Tree Fe2
  | _, [] => .fail
  | k, t :: r => bif g == t.g && itsEq td t.td && sameStk stk t.stk then match app2 (qC (t.rn c stk) c t.c) (qStk c.hp (t.rn c stk) stk t.stk) with
      | some l => .leaf (.at_ k l)
      | none => matchU g td c stk (k + 1) r
    else matchU g td c stk (k + 1) r
def toFeU (ts : List Tgt) : OutS → Tree Fe2
  | .fin v c => match finish c v with
    | some s => .leaf (.ret s)
    | none => .fail
  | .stop g td c stk => matchU g td c stk 0 ts
def runU (C : Ctx) (hold : Nat → Bool) (m n g : Nat) (td : List It) (c : Core) (stk : List Fr) (ts : List Tgt) : Tree Fe2 := (runS C hold m n g td c stk).bind (toFeU ts)
section
variable {P : Program} {C : Ctx} {K : Kx} {H0 : Mem} {w0 : World}
theorem matchU_ok {R : Hp → Prop} {φ : Sh → Prop} {ts : List Tgt} {g : Nat} {td : List It} {c : Core} {stk : List Fr} : ∀ {r : List Tgt} {k : Nat}, (∀ j, r[j]? = ts[k + j]?) → (matchU g td c stk k r).All (Fe2OK P C K ts R φ) → GoesS P C K g td c stk R φ
  | [], _, _, h => h.elim
  | t :: r, k, hk, h => by
    have hr : ∀ j, r[j]? = ts[k + 1 + j]? := fun j => by have := hk (j + 1); simp only [List.getElem?_cons_succ] at this; rw [this]; congr 1; omega
    unfold matchU at h
    cases hb : (g == t.g && itsEq td t.td && sameStk stk t.stk) <;> simp only [hb, cond_true, cond_false] at h
    · exact matchU_ok hr h
    · simp only [Bool.and_eq_true, beq_iff_eq] at hb
      obtain ⟨⟨h1, h2⟩, h3⟩ := hb
      split at h
      · rename_i l hl
        obtain ⟨a, b, q1, q2, rfl⟩ := app2_some hl
        obtain ⟨hl, t', ht, hg⟩ := h
        have := hk 0
        simp only [List.getElem?_cons_zero, Nat.add_zero] at this
        rw [← this] at ht
        cases ht
        have h2 := itsEq_ok h2
        subst h1 h2
        exact goesS_weak (t.rn c stk) (qC_ok q1 (Eqn.all_app hl).1) (qStk_ok q2 (Eqn.all_app hl).2) hg
      · exact matchU_ok hr h
theorem goesS_runU (hC : CtxOK P C) (hF : FnsOK P C) {hold : Nat → Bool} {m n g : Nat} {td : List It} {c : Core} {stk : List Fr} {ts : List Tgt} {R : Hp → Prop} {φ : Sh → Prop}
    (h : (runU C hold m n g td c stk ts).All (Fe2OK P C (K0 H0 w0) ts R φ)) : GoesS P C (K0 H0 w0) g td c stk R φ := by
  refine goesS_run hC hF (hold := hold) (m := m) (n := n) ((Tree.All_bind h).mono fun o ho => ?_)
  cases o with
  | fin v c =>
    simp only [toFeU] at ho
    split at ho
    · rename_i s hs
      exact ⟨s, hs, ho⟩
    · exact ho.elim
  | stop g td c stk => exact matchU_ok (k := 0) (fun j => by simp) ho
end
/-! A run that pauses at given places. -/
def runQ (C : Ctx) (pause : Nat → List It → Bool) (hold : Nat → Bool) (m : Nat) : Nat → Nat → List It → Core → List Fr → Tree OutS
  | 0, g, td, c, stk => .leaf (.stop g td c stk)
  | n + 1, g, td, c, stk => match C.fns.get g with
    | none => .fail
    | some fn => bif pause g td || holdB hold fn td c then .leaf (.stop g td c stk) else match pushOf C fn td c with
      | some r => runQ C pause hold m n r.1 [.code []] { c with tm := r.2.2 ++ List.replicate (r.2.1.ntmps - r.2.2.length) .any } ({ g, td, tm := c.tm } :: stk)
      | none => (stepR C (callWith C (run C m false)) true g fn td c).bind fun s => match s with
        | .go td c => runQ C pause hold m n g td c stk
        | .halt td c => .leaf (.stop g td c stk)
        | .done v c => match stk with
          | [] => .leaf (.fin v c)
          | f :: stk => match popOf C f v c with
            | some r => runQ C pause hold m n f.g r.1 r.2 stk
            | none => .fail
section
variable {P : Program} {C : Ctx} {K : Kx} {H H' H'' H0 : Mem} {E E' E'' E1 : Env} {w w' w'' w0 : World}
theorem goesS_runQ (hC : CtxOK P C) (hF : FnsOK P C) {pause : Nat → List It → Bool} {hold : Nat → Bool} {m : Nat} {R : Hp → Prop} {φ : Sh → Prop} : ∀ {n g : Nat} {td : List It} {c : Core} {stk : List Fr}, (runQ C pause hold m n g td c stk).All (OutSOK P C (K0 H0 w0) R φ) → GoesS P C (K0 H0 w0) g td c stk R φ
  | 0, g, td, c, stk, h => h
  | n + 1, g, td, c, stk, h => by
    intro H E w a items ms cs fn hfn st hi hs hx
    simp only [runQ, hfn] at h
    cases hhold : (pause g td || holdB hold fn td c) <;> simp only [hhold, cond_true, cond_false] at h
    rotate_left
    · exact h H E w a items ms cs fn hfn st hi hs hx
    split at h
    · -- a call is entered
      rename_i r hr
      unfold pushOf at hr
      split at hr
      · rename_i p i rest k
        split at hr
        · rename_i rid ops dr hcode
          split at hr
          · rename_i o ho
            split at hr
            · rename_i hwant
              split at hr
              · rename_i kk hop
                split at hr
                · rename_i f hcal
                  split at hr
                  · rename_i g2 caps hev
                    split at hr
                    · cases hr
                    · rename_i hspec
                      split at hr
                      · rename_i fn2 hfn2
                        cases hb : (Nat.ble (kk.args.toList.map (evL c.tm) ++ caps).length fn2.ntmps && fn2.body.isSome) <;> simp only [hb, cond_true, cond_false] at hr
                        · cases hr
                        cases hr
                        simp only [Bool.and_eq_true] at hb
                        obtain ⟨body2, hbody2⟩ := Option.isSome_iff_exists.1 hb.2
                        have ih := goesS_runQ hC hF h
                        have hP2 := hC.fn g2 fn2 hfn2
                        cases hi with
                        | reg p l id ops2 hc hk =>
                          rw [hc] at hcode
                          cases hcode
                          rename_i k'
                          have df := den_ev (H := H) (E := E) st.den f
                          rw [hev] at df
                          obtain ⟨vs, ef, hvs⟩ := df
                          have hargs := (den_map st.den kk.args.toList).append hvs
                          have ho' : ops[i]? = some o := by simpa [opAt] using ho
                          have hw' := wantOf_spec (ops := ops) st.den o
                          rw [hwant] at hw'
                          have hent := hF.en g2 (.inr (by rw [hfn2]; rfl))
                          have hrun : (execOp a.eval o).run P w = .ok (.enter g2 (kk.args.map a.eval ++ vs)) w := by
                            simp only [execOp, hop, resolve, hcal]
                            simp [Deferred.ofValue, ef, invoke, callFunc_run hent]
                          have hg := stepG_op (P := P) (b := base g) (k := k') (cs := ms ++ cs) (w := w) (rest := rest) ho' hw'
                          have henter : step P (lone ((base g).at a (.inRegion ops (i :: rest) :: k')) (ms ++ cs) w) = .next (lone (Frame.enter P g2 (kk.args.map a.eval ++ vs) .normal) ((base g).at a (.inRegion ops (i :: rest) :: k') :: (ms ++ cs)) w) :=
                            step_lone_go (by rw [hg]; simp [stepG.apply, hrun, Frame.at])
                          rw [enter_base hP2 hbody2] at henter
                          have hl := hargs.length
                          have hlen : (kk.args.map a.eval ++ vs).size = (kk.args.toList.map (evL c.tm) ++ caps).length := by
                            rw [← hl]; simp
                          have st2 : St C (K0 H0 w0) H E w { c with tm := (kk.args.toList.map (evL c.tm) ++ caps) ++ List.replicate (fn2.ntmps - (kk.args.toList.map (evL c.tm) ++ caps).length) .any } { tmps := (kk.args.map a.eval ++ vs) ++ Array.replicate (fn2.ntmps - (kk.args.map a.eval ++ vs).size) undef, defers := [] } := by
                            refine ⟨?_, st.hp, st.wok, st.free, st.gl, rfl⟩
                            have : ((kk.args.map a.eval ++ vs) ++ Array.replicate (fn2.ntmps - (kk.args.map a.eval ++ vs).size) undef).toList = (kk.args.toList.map a.eval ++ vs.toList) ++ List.replicate (fn2.ntmps - (kk.args.toList.map (evL c.tm) ++ caps).length) undef := by
                              rw [hlen]; simp
                            simp only [this]
                            exact hargs.append (DenL.any _ _ (by simp))
                          have hit2 : ItOK (bodyOf fn2) [.code []] [.code body2] := by
                            have := ItOK.code (body := bodyOf fn2) [] ItOK.nil
                            have he : codeAt (bodyOf fn2) [] = body2 := by simp [codeAt, bodyOf, hbody2]
                            rwa [he] at this
                          have hs2 : StkOK C H E ({ g, td := .reg p (i :: rest) :: k, tm := c.tm } :: stk) ((base g).at a (.inRegion ops (i :: rest) :: k') :: ms) :=
                            ⟨⟨fn, a, _, hfn, st.den, st.defers, .reg p (i :: rest) _ ops hc hk, rfl⟩, hs⟩
                          obtain ⟨a', w', v, s, H', todo, fn0, q1, q2, q3⟩ := ih H E w _ _ (_ :: ms) cs fn2 hfn2 st2 hit2 hs2 hx
                          exact ⟨a', w', v, s, H', todo, fn0, q1, .head henter q2, q3⟩
                      · cases hr
                  · cases hr
                · cases hr
              · cases hr
            · cases hr
          · cases hr
        · cases hr
      · cases hr
    · have hK := call_hyp (K := reK H E w c.hp) hC hF (run_ok hC hF m)
      obtain ⟨sig, h1, h2⟩ := stepR_ok hC hF hK (Tree.All_bind h) st.re hi (base g) (ms ++ cs)
      cases sig with
      | go td' c' =>
        obtain ⟨a', w', H', E', items', q1, q2, q3, q4⟩ := h2
        obtain ⟨a2, w2, v, s, H2, todo, fn0, r1, r2, r3⟩ := goesS_runQ hC hF h1 H' E' w' a' items' ms cs fn hfn (st.un q2) q4 (hs.le q3.Hle q3.Ele) (hx.keep st q2 q3)
        exact ⟨a2, w2, v, s, H2, todo, fn0, r1, q1.trans r2, r3⟩
      | halt td' c' =>
        obtain ⟨a', w', H', E', items', q1, q2, q3, q4⟩ := h2
        obtain ⟨a2, w2, v, s, H2, todo, fn0, r1, r2, r3⟩ := h1 H' E' w' a' items' ms cs fn hfn (st.un q2) q4 (hs.le q3.Hle q3.Ele) (hx.keep st q2 q3)
        exact ⟨a2, w2, v, s, H2, todo, fn0, r1, q1.trans r2, r3⟩
      | done sv c' =>
        obtain ⟨a', w', H', E', v, todo, q1, q2, q3, q4, q5⟩ := h2
        cases stk with
        | nil =>
          cases ms with
          | cons _ _ => exact hs.elim
          | nil =>
            obtain ⟨s, e1, e2⟩ := h1
            obtain ⟨H2, r⟩ := finish_ok (st.un q2) e1 q4
            exact ⟨a', w', v, s, H2, todo, fn, hfn, q1, q2.defers, e2, r, q5⟩
        | cons f stk =>
          cases ms with
          | nil => exact hs.elim
          | cons mf ms =>
            simp only at h1
            split at h1
            · rename_i r hr
              unfold popOf at hr
              split at hr
              · rename_i fnf hfnf
                split at hr
                · rename_i p i rest k htd
                  split at hr
                  · rename_i rid ops dr hcode
                    cases hr
                    obtain ⟨⟨fn3, a3, items3, g1, g2, g3, g4, g5⟩, hs'⟩ := hs.le q3.Hle q3.Ele
                    rw [hfnf] at g1; cases g1
                    rw [htd] at g4
                    cases g4 with
                    | reg p l id ops2 hc hk =>
                      rw [hc] at hcode
                      cases hcode
                      rename_i k'
                      subst g5
                      have hleave : step P (lone { (base g).at a' todo with mode := .returning } ((base f.g).at a3 (.inRegion ops (i :: rest) :: k') :: (ms ++ cs)) w') = .next (lone ((base f.g).at (a3.put ((opAt ops.toList i).bind (·.dst)) v) (.inRegion ops rest :: k')) (ms ++ cs) w') := by
                        rw [step_leave_returned (v := v) ⟨rfl, q2.defers, rfl, fn, hC.fn g fn hfn, q5⟩, Frame.finish_at]
                        simp [opAt]
                      have st3 : St C (K0 H0 w0) H' E' w' { c' with tm := putS f.tm ((opAt ops.toList i).bind (·.dst)) sv } (a3.put ((opAt ops.toList i).bind (·.dst)) v) :=
                        ⟨den_put (c := { c' with tm := f.tm }) g2 _ q4, (st.un q2).hp, (st.un q2).wok, q2.free, q2.gl, by rw [put_defers]; exact g3⟩
                      obtain ⟨a2, w2, v2, s, H2, todo2, fn0, r1, r2, r3⟩ := goesS_runQ hC hF h1 H' E' w' _ _ ms cs fnf hfnf st3 (.reg p rest _ ops hc hk) hs' (hx.keep st q2 q3)
                      exact ⟨a2, w2, v2, s, H2, todo2, fn0, r1, (q1.trans (.one hleave)).trans r2, r3⟩
                  · cases hr
                · cases hr
              · cases hr
            · exact h1.elim
def runV (C : Ctx) (pause : Nat → List It → Bool) (m n g : Nat) (td : List It) (c : Core) (stk : List Fr) (ts : List Tgt) : Tree Fe2 := (runQ C pause (fun _ => false) m n g td c stk).bind (toFeU ts)
theorem goesS_runV (hC : CtxOK P C) (hF : FnsOK P C) {pause : Nat → List It → Bool} {m n g : Nat} {td : List It} {c : Core} {stk : List Fr} {ts : List Tgt} {φ : Sh → Prop} {R : Hp → Prop}
    (h : (runV C pause m n g td c stk ts).All (Fe2OK P C (K0 H0 w0) ts R φ)) : GoesS P C (K0 H0 w0) g td c stk R φ := by
  refine goesS_runQ hC hF (pause := pause) (hold := fun _ => false) (m := m) (n := n) ((Tree.All_bind h).mono fun o ho => ?_)
  cases o with
  | fin v c =>
    simp only [toFeU] at ho
    split at ho
    · rename_i s hs
      exact ⟨s, hs, ho⟩
    · exact ho.elim
  | stop g td c stk => exact matchU_ok (k := 0) (fun j => by simp) ho
end
end Go.Sx
namespace Go.Pl
open Go Go.Sx
def smallB (n m : Nat) : Bool := decide (n ≤ 100) && decide (m ≤ 600)
def sameHB (n m : Nat) (g h : Nat → List Sh) (n' m' : Nat) (g' h' : Nat → List Sh) : Bool := sameL (lst Oj n g) (lst Oj n' g') && sameL (lst Ev m h) (lst Ev m' h')
def subHB (n m : Nat) (g h : Nat → List Sh) (n' m' : Nat) (g' h' : Nat → List Sh) : Bool := sameL (lst Oj n g) (lst Oj n' g') && subB (rwAt h') m' 0 (rwAt h) m
/-- A list of values of which few are known. -/
def tmOf (n : Nat) (l : List (Nat × SV)) : List SV := l.foldl (fun t p => t.set p.1 p.2) (List.replicate n .any)
end Go.Pl
namespace Go.Proofs
open Go Go.Sx Go.Pl
def F9p : List Sh → Tree Sh
  | [.agg [.sl 2 n _, .sl 8 m _]] => .leaf (.b (smallB n m))
  | _ => .fail
def F12p : List Sh → Tree Sh
  | [.agg [.sl 2 n g, .sl 8 m h], .agg [.sl 2 n' g', .sl 8 m' h']] => .need (okB Oj n g) (.need (okB Oj n' g') (.need (okB Ev m h) (.need (okB Ev m' h') (.leaf (.b (sameHB n m g h n' m' g' h'))))))
  | _ => .fail
def F21p : List Sh → Tree Sh
  | [.agg [.sl 2 n g, .sl 8 m h], .agg [.sl 2 n' g', .sl 8 m' h']] => .need (okB Oj n g) (.need (okB Oj n' g') (.need (okB Ev m h) (.need (okB Ev m' h') (.leaf (.b (subHB n m g h n' m' g' h'))))))
  | _ => .fail
theorem O9p : FnOK Tryd.prog (gls5 W5) 9 F9p := O9
theorem O12p : FnOK Tryd.prog (gls5 W5) 12 F12p := O12
theorem O21p : FnOK Tryd.prog (gls5 W5) 21 F21p := O21
theorem O22p : FnOK Tryd.prog (gls5 W5) 22 F21p := O22
end Go.Proofs
namespace Go.Pl
open Go Go.Sx
theorem subB_congr {p p' : Nat → Ev} : ∀ (k i : Nat) (q q' : Nat → Ev) (r : Nat), (∀ j, j < k → p (i + j) = p' (i + j)) → (∀ j, j < r → q j = q' j) → subB p k i q r = subB p' k i q' r
  | 0, _, _, _, _, _, _ => rfl
  | k + 1, i, q, q', r, h1, h2 => by
    have hp : p i = p' i := h1 0 (by omega)
    have h1' : ∀ j, j < k → p (i + 1 + j) = p' (i + 1 + j) := fun j hj => by
      have := h1 (j + 1) (by omega)
      rwa [show i + (j + 1) = i + 1 + j by omega] at this
    simp only [subB]
    by_cases hr : 0 < r
    · rw [h2 0 hr, hp]
      cases (decide (0 < r) && evEq (q' 0) (p' i)) with
      | true => simp only [cond_true]; exact subB_congr k (i + 1) _ _ _ h1' fun j hj => h2 (1 + j) (by omega)
      | false => simp only [cond_false]; exact subB_congr k (i + 1) _ _ _ h1' h2
    · have e : decide (0 < r) = false := decide_eq_false hr
      rw [e]
      simp only [Bool.false_and, cond_false]
      exact subB_congr k (i + 1) _ _ _ h1' h2
theorem rwAt_fnR {α : Type} [Row α] (o : Nat → α) : rwAt (fnR o) = o := funext fun i => rowAt_put o i
theorem lst_pt {α : Type} [Row α] {n : Nat} {o p : Nat → α} (h : ∀ j, j < n → o j = p j) : lst α n (fnR o) = lst α n (fnR p) := lst_congr fun i hi => by simp only [fnR, h i hi]
theorem keptF_congr {P : Nat → Ev → Bool} {p p' : Nat → Ev} : ∀ {m : Nat}, (∀ j, j < m → p j = p' j) → keptF P p m = keptF P p' m
  | 0, _ => rfl
  | m + 1, h => by
    simp only [keptF]
    rw [keptF_congr (m := m) fun j hj => h j (by omega), h m (by omega)]
theorem keptF_ext {P Q : Nat → Ev → Bool} {p : Nat → Ev} (h : ∀ i e, P i e = Q i e) : ∀ {m : Nat}, keptF P p m = keptF Q p m
  | 0 => rfl
  | m + 1 => by
    simp only [keptF]
    rw [keptF_ext h (m := m), h]
theorem sameHB_true {n m n' m' : Nat} {g h g' h' : Nat → List Sh} (h1 : lst Oj n g = lst Oj n' g') (h2 : lst Ev m h = lst Ev m' h') : sameHB n m g h n' m' g' h' = true := by
  unfold sameHB
  rw [sameL_true h1, sameL_true h2]; rfl
def txf (p : Nat → Ev) (j : Nat) : Int := (p j).tx
theorem lst_kept (l : List Ev) : lst Ev (len l) (fnR (nth l)) = l := lst_nth l
theorem okB_kept (l : List Ev) : okB Ev (len l) (fnR (nth l)) = true := okB_put _ _
theorem room_le {n b : Nat} (h : n ≤ 100000) (hb : b ≤ 1000) : roomB n b = true := by
  show decide (n * b ≤ 140737488355328 ∧ n ≤ maxLen) = true
  rw [maxLen_eq]
  have : n * b ≤ 100000 * 1000 := Nat.mul_le_mul h hb
  exact decide_eq_true ⟨by omega, by omega⟩
theorem proom_le {n b : Nat} (h : n ≤ 100000) (hb : b ≤ 1000) : prim.room n b = true := room_le h hb
end Go.Pl
namespace Go.Proofs
open Go Go.Sx Go.Pl
theorem upN_le (x : Int) (m : Nat) : upN x m ≤ m := by unfold upN; omega
end Go.Proofs
namespace Go.Pl
open Go Go.Sx Go.Proofs
def keepN (x : Int) : Nat → Ev → Bool := fun _ e => !(e.tx == x)
/-- What the functions below answer, as things of which nothing is known while a law is run. -/
structure Lb5 where
  km : (Nat → Ev → Bool) → Nat → (Nat → Ev) → Nat
  kp : (Nat → Ev → Bool) → Nat → (Nat → Ev) → Nat → Ev
  sub : Nat → Nat → (Nat → List Sh) → (Nat → List Sh) → Nat → Nat → (Nat → List Sh) → (Nat → List Sh) → Bool
  same : Nat → Nat → (Nat → List Sh) → (Nat → List Sh) → Nat → Nat → (Nat → List Sh) → (Nat → List Sh) → Bool
  un : Int → Nat → Nat
  dl : Nat → (Nat → Ev) → Int → Int → Nat
  dp : Nat → (Nat → Ev) → Int → Int → Nat → Ev
  k : Nat → (Nat → Ev) → Int
  e : Nat → (Nat → Ev) → Nat
  bk : Nat → Nat → (Nat → List Sh) → (Nat → List Sh) → Int
  be : Nat → Nat → (Nat → List Sh) → (Nat → List Sh) → Nat
  sp : (Nat → Ev) → Nat → Nat
def L5 : Lb5 where
  km P m p := len (keptF P p m)
  kp P m p := nth (keptF P p m)
  sub := subHB
  same := sameHB
  un := upN
  dl m p x k := len (dropE m p x k)
  dp m p x k := nth (dropE m p x k)
  k := takeK
  e := takeE
  bk := badPos
  be := badNo
  sp := spN
end Go.Pl
namespace Go.Proofs
open Go Go.Sx Go.Pl
def G15 (L : Lb5) : List Sh → Tree Sh
  | [.agg [.sl 2 n g, .sl 8 m h], .i .i64 x] => .need (okB Ev m h) (.need (roomB n 16) (.need (roomB m 64) (.leaf (.agg [.os 31 2 n g, .os 34 8 (L.km (keepN x) m (rwAt h)) (fnR (L.kp (keepN x) m (rwAt h)))]))))
  | _ => .fail
def G17 (L : Lb5) : List Sh → Tree Sh
  | [.agg [.sl 2 n g, .sl 8 m h], cl] => match keepP cl with
    | some P => .need (okB Ev m h) (.need (roomB n 16) (.need (roomB m 64) (.leaf (.agg [.os 31 2 n g, .os 34 8 (L.km P m (rwAt h)) (fnR (L.kp P m (rwAt h)))]))))
    | none => .fail
  | _ => .fail
def G12 (L : Lb5) : List Sh → Tree Sh
  | [.agg [.sl 2 n g, .sl 8 m h], .agg [.sl 2 n' g', .sl 8 m' h']] => .need (okB Oj n g) (.need (okB Oj n' g') (.need (okB Ev m h) (.need (okB Ev m' h') (.leaf (.b (L.same n m g h n' m' g' h'))))))
  | _ => .fail
def G21 (L : Lb5) : List Sh → Tree Sh
  | [.agg [.sl 2 n g, .sl 8 m h], .agg [.sl 2 n' g', .sl 8 m' h']] => .need (okB Oj n g) (.need (okB Oj n' g') (.need (okB Ev m h) (.need (okB Ev m' h') (.leaf (.b (L.sub n m g h n' m' g' h'))))))
  | _ => .fail
def G13 (L : Lb5) : List Sh → Tree Sh
  | [.agg [.sl 2 n g, .sl 8 m h], .i .i64 x] => .need (roomB n 16) (.need (roomB (L.un x m) 64) (.leaf (.agg [.os 31 2 n g, .os 34 8 (L.un x m) h])))
  | _ => .fail
def G23 (L : Lb5) : List Sh → Tree Sh
  | [.agg [.sl 2 n g, .sl 8 m h], .i .i64 x, .i .i64 k] => .need (okB Oj n g) (.need (okB Ev m h) (.need (retsB m h) (.node (bigB n m) (.leaf (.tup [.agg [.sl 0 0 fun _ => [], .sl 0 0 fun _ => []], .er 2 125])) (.node (goodB n m g h)
      (.node (takeB m (rwAt h)) (.node (txB m (rwAt h) x) (.node (deedB m (rwAt h) x k) (.leaf (.tup [.agg [.os 31 2 n (fO g), .os 34 8 (L.dl m (rwAt h) x k) (fnR (L.dp m (rwAt h) x k))], .v .nilIface])) (.leaf (.tup [.agg [.sl 0 0 fun _ => [], .sl 0 0 fun _ => []], .er 1 125])))
        (.leaf (.tup [.agg [.sl 0 0 fun _ => [], .sl 0 0 fun _ => []], .er 0 125]))) (.leaf (.tup [.agg [.sl 0 0 fun _ => [], .sl 0 0 fun _ => []], .ifc 81 (.pt [.i .i64 (L.k m (rwAt h)), .er (L.e m (rwAt h)) 125])])))
      (.leaf (.tup [.agg [.sl 0 0 fun _ => [], .sl 0 0 fun _ => []], .ifc 81 (.pt [.i .i64 (L.bk n m g h), .er (L.be n m g h) 125])]))))))
  | _ => .fail
def nS : List SV := [.sh (.sl 0 0 fun _ => []), .sh (.sl 0 0 fun _ => [])]
/-- A history, as cells. -/
def hS (n m : Nat) (o : Nat → Oj) (p : Nat → Ev) : List SV := [.sh (.sl 2 n (fnR o)), .sh (.sl 8 m (fnR p))]
def natsEq : List Nat → List Nat → Bool
  | [], [] => true
  | x :: l, y :: r => Nat.beq x y && natsEq l r
  | _, _ => false
/-- A run stops where one of these pieces of code comes next. -/
def pauseAt (f : Nat) (ps : List (List Nat)) (g : Nat) (td : List It) : Bool := Nat.beq g f && match td with
  | .code r :: _ => ps.any (natsEq r)
  | _ => false
end Go.Proofs
namespace Go.Pl
open Go Go.Sx Go.Proofs
def evs (m : Nat) (p : Nat → Ev) : List Ev := (List.range m).map p
theorem lst_evs (m : Nat) (p : Nat → Ev) : lst Ev m (fnR p) = evs m p := lst_put p m
theorem evs_succ (m : Nat) (p : Nat → Ev) : evs (m + 1) p = evs m p ++ [p m] := by simp [evs, List.range_succ]
theorem evs_nth (l : List Ev) : evs (len l) (nth l) = l := range_nth l
theorem evs_len (m : Nat) (p : Nat → Ev) : (evs m p).length = m := by simp [evs]
theorem keptF_filter {K : Ev → Bool} {P : Nat → Ev → Bool} (h : ∀ i e, P i e = K e) (p : Nat → Ev) : ∀ m, keptF P p m = (evs m p).filter K
  | 0 => rfl
  | m + 1 => by
    simp only [keptF, evs_succ, List.filter_append, ← keptF_filter h p m, h]
    cases hk : K (p m) <;> simp [hk]
theorem keptF_sub (P : Nat → Ev → Bool) (p : Nat → Ev) : ∀ m, (keptF P p m).Sublist (evs m p)
  | 0 => List.Sublist.refl _
  | m + 1 => by
    simp only [keptF, evs_succ]
    cases P m (p m)
    · exact (keptF_sub P p m).trans (List.sublist_append_left _ _)
    · exact (keptF_sub P p m).append (List.Sublist.refl _)
theorem evs_pre {M m : Nat} (h : M ≤ m) (p : Nat → Ev) : evs m p = evs M p ++ (List.range (m - M)).map fun j => p (M + j) := by
  unfold evs
  rw [show m = M + (m - M) by omega, List.range_add, List.map_append, List.map_map]
  simp only [Nat.add_sub_cancel_left]
  rfl
theorem evs_sub {M m : Nat} (h : M ≤ m) (p : Nat → Ev) : (evs M p).Sublist (evs m p) := by
  rw [evs_pre h]; exact List.sublist_append_left _ _
theorem evs_cons (r : Nat) (q : Nat → Ev) : (List.range (r + 1)).map q = q 0 :: (List.range r).map (dropG 1 q) := by
  rw [List.range_succ_eq_map, List.map_cons, List.map_map]
  congr 1
  refine List.map_congr_left fun i _ => ?_
  show q (i + 1) = q (1 + i)
  rw [Nat.add_comm]
theorem subB_iff (p : Nat → Ev) : ∀ k i q r, subB p k i q r = true ↔ ((List.range r).map q).Sublist ((List.range k).map fun j => p (i + j))
  | 0, i, q, r => by
    simp only [subB]
    cases r with
    | zero => simp
    | succ r => simp [List.range_succ_eq_map]
  | k + 1, i, q, r => by
    have e : (List.range (k + 1)).map (fun j => p (i + j)) = p i :: (List.range k).map (fun j => p (i + 1 + j)) := by
      rw [List.range_succ_eq_map, List.map_cons, List.map_map]
      congr 1
      refine List.map_congr_left fun j _ => ?_
      show p (i + (j + 1)) = _
      congr 1; omega
    rw [e]
    simp only [subB]
    cases r with
    | zero => simp [subB_none]
    | succ r =>
      rw [evs_cons]
      by_cases h : q 0 = p i
      · have hb : (decide (0 < r + 1) && evEq (q 0) (p i)) = true := by simp [evEq, h]
        rw [hb]
        simp only [cond_true, Nat.add_sub_cancel]
        rw [subB_iff p k (i + 1) (dropG 1 q) r, h, List.cons_sublist_cons]
      · have hb : (decide (0 < r + 1) && evEq (q 0) (p i)) = false := by simp [evEq, h]
        rw [hb]
        simp only [cond_false]
        rw [subB_iff p k (i + 1) q (r + 1), evs_cons, List.sublist_cons_iff]
        refine ⟨fun h => .inl h, fun h' => ?_⟩
        rcases h' with h' | ⟨r', h1, h2⟩
        · exact h'
        · exact (h (List.cons.inj h1).1).elim
theorem subHB_iff {n m n' m' : Nat} {o o' : Nat → Oj} {p p' : Nat → Ev} : subHB n m (fnR o) (fnR p) n' m' (fnR o') (fnR p') = true ↔ lst Oj n (fnR o) = lst Oj n' (fnR o') ∧ (evs m p).Sublist (evs m' p') := by
  unfold subHB
  rw [Bool.and_eq_true, rwAt_fnR, rwAt_fnR, subB_iff]
  simp only [Nat.zero_add]
  exact and_congr (by simp [sameL]) Iff.rfl
theorem subHB_true {n m m' : Nat} {o : Nat → Oj} {p p' : Nat → Ev} (h : (evs m p).Sublist (evs m' p')) : subHB n m (fnR o) (fnR p) n m' (fnR o) (fnR p') = true := subHB_iff.2 ⟨rfl, h⟩
theorem sameHB_evs {n m m' : Nat} {o : Nat → Oj} {p p' : Nat → Ev} (h : evs m p = evs m' p') : sameHB n m (fnR o) (fnR p) n m' (fnR o) (fnR p') = true :=
  sameHB_true rfl (by rw [lst_evs, lst_evs, h])
/-- With it, how many events of a transaction there are. -/
def cntF (p : Nat → Ev) (a : Int) (i : Nat) : Nat := (keptF (keepB a) p i).length
end Go.Pl
namespace Go.Proofs
open Go Go.Sx Go.Pl
theorem goesS_runUM {P : Program} {C : Ctx} {H0 : Mem} {w0 : World} (hC : CtxOK P C) (hF : FnsOK P C) {hold : Nat → Bool} {m n g : Nat} {td : List It} {c : Core} {stk : List Fr} {ts : List Tgt} {R : Hp → Prop} {φ : Sh → Prop}
    (h : MeetsE (Fe2OK P C (K0 H0 w0) ts R φ) (runU C hold m n g td c stk ts)) : GoesS P C (K0 H0 w0) g td c stk R φ := by
  rw [meetsE_eq] at h
  exact goesS_runU hC hF h
theorem goesS_runVM {P : Program} {C : Ctx} {H0 : Mem} {w0 : World} (hC : CtxOK P C) (hF : FnsOK P C) {pause : Nat → List It → Bool} {m n g : Nat} {td : List It} {c : Core} {stk : List Fr} {ts : List Tgt} {R : Hp → Prop} {φ : Sh → Prop}
    (h : MeetsE (Fe2OK P C (K0 H0 w0) ts R φ) (runV C pause m n g td c stk ts)) : GoesS P C (K0 H0 w0) g td c stk R φ := by
  rw [meetsE_eq] at h
  exact goesS_runV hC hF h
theorem O15g : FnOK Tryd.prog (gls5 W5) 15 (G15 L5) := O15
theorem O17g : FnOK Tryd.prog (gls5 W5) 17 (G17 L5) := O17
theorem O12g : FnOK Tryd.prog (gls5 W5) 12 (G12 L5) := O12p
theorem O21g : FnOK Tryd.prog (gls5 W5) 21 (G21 L5) := O21p
theorem O13g : FnOK Tryd.prog (gls5 W5) 13 (G13 L5) := O13
theorem O23g : FnOK Tryd.prog (gls5 W5) 23 (G23 L5) := O23
theorem no {b : Bool} {T : Prop} (h : b = true) : b = false → T := fun h2 => by rw [h] at h2; cases h2
theorem nno {b : Bool} {T : Prop} (h : b = true) : prim.nt b = true → T := fun h2 => by rw [h] at h2; cases h2
theorem keptF_evs (P : Nat → Ev → Bool) (p : Nat → Ev) (m : Nat) : evs (L5.km P m p) (L5.kp P m p) = keptF P p m := evs_nth _
theorem km_le (P : Nat → Ev → Bool) (p : Nat → Ev) (m : Nat) : L5.km P m p ≤ m := keptF_le P p m
end Go.Proofs
namespace Go.Proofs
open Go Go.Sx Go.Pl
def G29 (L : Lb5) : List Sh → Tree Sh
  | [.agg [.sl 2 n g, .sl 8 m h]] => .need (okB Oj n g) (.need (okB Ev m h) (.need (retsB m h) (.node (bigB n m) (.leaf (.tup [.agg [.sl 0 0 fun _ => [], .sl 0 0 fun _ => []], .er 2 125])) (.node (goodB n m g h)
      (.node (takeB m (rwAt h)) (.leaf (.tup [.agg [.os 31 2 (L.sp (rwAt h) m) (fO g), .os 34 8 m (fE h)], .v .nilIface])) (.leaf (.tup [.agg [.sl 0 0 fun _ => [], .sl 0 0 fun _ => []], .ifc 81 (.pt [.i .i64 (L.k m (rwAt h)), .er (L.e m (rwAt h)) 125])])))
      (.leaf (.tup [.agg [.sl 0 0 fun _ => [], .sl 0 0 fun _ => []], .ifc 81 (.pt [.i .i64 (L.bk n m g h), .er (L.be n m g h) 125])]))))))
  | _ => .fail
def spec5 (L : Lb5) : Nat → Option (List Sh → Tree Sh)
  | 8 => some F8
  | 9 => some F9p
  | 12 => some (G12 L)
  | 13 => some (G13 L)
  | 14 => some F14
  | 15 => some (G15 L)
  | 17 => some (G17 L)
  | 27 => some F27
  | 29 => some (G29 L)
  | _ => none
def td5 : List It := [It.code [0, 1, 0, 1, 1, 1, 1], It.inBlock 0, It.code [1, 1, 1, 1, 1]]
def tb5 : List It := It.code [0, 0, 1, 0, 1, 1, 1, 1] :: td5
/-- At a round's beginning. -/
def L5r (n m : Nat) (o : Nat → Oj) (p : Nat → Ev) (k a i : Int) : Core :=
  { tm := tmOf 87 [(1, .sym .i64 k), (2, .sym .i64 a), (3, .ptr 0 0), (8, .ptr 1 0), (9, .sym .i64 i)], hp := [(0, .box (hS n m o p) 25), (1, .box [.gs 2, .gs 3] 25), (2, .own 31 2 n (fnR o)), (3, .own 34 8 m (fnR p))], nx := 4, lim := L0, tc := [] }
/-- While a history is written over: x, y: its lists; r: the fourth history's box and lists. -/
def H5 (n m M0 M1 : Nat) (o : Nat → Oj) (p : Nat → Ev) (us : Nat → Nat → List Sh) (e r : List (Nat × SB)) (cs : List SV) : List (Nat × SB) :=
  [(0, .box (hS n m o p) 25), (1, .box [.gs 2, .gs 3] 25), (2, .own 31 2 n (fnR o)), (3, .own 34 8 m (fnR p)), (4, .own 31 2 n (us 0)), (5, .own 34 8 M0 (us 1)), (6, .box [.gs 4, .gs 5] 25), (7, .own 31 2 n (us 2)), (8, .own 34 8 M1 (us 3)), (9, .box [.gs 7, .gs 8] 25)] ++ e ++ r ++ [(16, .box cs 25)]
def e5 (n M2 : Nat) (us : Nat → Nat → List Sh) : List (Nat × SB) := [(10, .own 31 2 n (us 4)), (11, .own 34 8 M2 (us 5))]
def e5b (n M2 : Nat) (us : Nat → Nat → List Sh) : List (Nat × SB) := [(10, .own 31 2 n (us 4)), (11, .own 34 8 M2 (us 5)), (12, .box [.gs 10, .gs 11] 25)]
def r5ok (m N3 : Nat) (us : Nat → Nat → List Sh) : List (Nat × SB) := [(13, .own 31 2 N3 (us 6)), (14, .own 34 8 m (us 7)), (15, .box [.gs 13, .gs 14] 25)]
def r5k (m N3 : Nat) (us : Nat → Nat → List Sh) : List (Nat × SB) := [(13, .own 31 2 N3 (us 6)), (14, .own 34 8 m (us 7))]
def r5er : List (Nat × SB) := [(15, .box nS 25)]
def S5 (n m M0 M1 : Nat) (o : Nat → Oj) (p : Nat → Ev) (us : Nat → Nat → List Sh) (e r : List (Nat × SB)) (cs : List SV) (t : Nat) (j : Int) : Core :=
  { tm := tmOf 28 [(1, .ptr 16 0), (t, .sym .i64 j)], hp := H5 n m M0 M1 o p us e r cs, nx := 17, lim := L0, tc := [] }
def tdS1 : List It := [It.code [0, 1, 0, 1], It.inBlock 0, It.code [1, 1]]
def tbS1 : List It := It.code [0, 0, 1, 0, 1] :: tdS1
def tdS2 : List It := [It.code [0, 1, 1, 1], It.inBlock 2]
def tbS2 : List It := It.code [0, 0, 1, 1, 1] :: tdS2
def fr5 (p q : List Nat) (l : List (Nat × SV)) (k a i : Int) : List Fr :=
  [⟨5, [It.reg p [1], It.code q, It.inBlock 1, It.code [1, 1, 0, 0, 1, 0, 1, 1, 1, 1], It.code [0, 1, 0, 1, 1, 1, 1], It.inBlock 0, It.code [1, 1, 1, 1, 1]], tmOf 87 ([(1, .sym .i64 k), (2, .sym .i64 a), (3, .ptr 0 0), (8, .ptr 1 0), (9, .sym .i64 i)] ++ l)⟩]
def f50 (k a i : Int) : List Fr := fr5 [0, 1, 1, 1, 1, 0, 0, 1, 0, 0, 1, 0, 1, 1, 1, 1] [1, 1, 1, 1, 1, 0, 0, 1, 0, 0, 1, 0, 1, 1, 1, 1] [(10, .ptr 6 0), (11, .ptr 9 0), (12, .ptr 12 0), (13, .ptr 15 0)] k a i
def f51 (k a i : Int) : List Fr := fr5 [0, 1, 1, 1, 1, 1, 0, 0, 1, 0, 0, 1, 0, 1, 1, 1, 1] [1, 1, 1, 1, 1, 1, 0, 0, 1, 0, 0, 1, 0, 1, 1, 1, 1] [(10, .ptr 6 0), (11, .ptr 9 0), (12, .ptr 12 0), (13, .ptr 15 0)] k a i
def f52 (k a i : Int) : List Fr := fr5 [0, 1, 1, 1, 1, 1, 1, 0, 0, 1, 0, 0, 1, 0, 1, 1, 1, 1] [1, 1, 1, 1, 1, 1, 1, 0, 0, 1, 0, 0, 1, 0, 1, 1, 1, 1] [(10, .ptr 6 0), (11, .ptr 9 0), (13, .ptr 15 0)] k a i
def f53 (k a i : Int) : List Fr := fr5 [0, 1, 1, 1, 1, 1, 1, 1, 0, 0, 1, 0, 0, 1, 0, 1, 1, 1, 1] [1, 1, 1, 1, 1, 1, 1, 1, 0, 0, 1, 0, 0, 1, 0, 1, 1, 1, 1] [(10, .ptr 6 0), (11, .ptr 9 0)] k a i

theorem a5 (A : Prim) (W : Wd) (L : Lb5) (n m M0 M1 M2 N3 : Nat) (o : Nat → Oj) (p : Nat → Ev) (k a i : Int) (us : Nat → Nat → List Sh) : runU (C5 A W (spec5 L) stopAll) noHold 300 800 5 [.code []] (start0 87 [.agg [.sl 2 n (fnR o), .sl 8 m (fnR p)], .i .i64 k, .i .i64 a] L0) [] [⟨5, td5, L5r n m o p k a i, []⟩] = Tree.node (A.nt (smallB n m)) (Tree.leaf (Fe2.ret (Sh.b true))) (Tree.node (A.nt true) (Tree.leaf (Fe2.ret (Sh.b true))) (Tree.need (okB Oj n (fnR o)) (Tree.need (okB Ev m (fnR p)) (Tree.need (roomB n 16) (Tree.need (roomB m 64) (Tree.leaf (Fe2.at_ 0 [Eqn.int k k, Eqn.int a a, Eqn.int (Int.ofNat 0) i, Eqn.sh (Sh.sl 2 n (fnR o)) (Sh.sl 2 n (fnR o)), Eqn.sh (Sh.sl 8 m (fnR p)) (Sh.sl 8 m (fnR p)), Eqn.nat n n, Eqn.get n (fO (fnR o)) (fnR o), Eqn.nat m m, Eqn.get m (fE (fnR p)) (fnR p)]))))))) := by kernel_rfl
theorem b5 (A : Prim) (W : Wd) (L : Lb5) (n m M0 M1 M2 N3 : Nat) (o : Nat → Oj) (p : Nat → Ev) (k a i : Int) (us us1 : Nat → Nat → List Sh) : runU (C5 A W (spec5 L) stopAll) noHold 300 800 5 tb5 (L5r n m o p k a i) [] [⟨30, tdS1, (S5 n m M0 M1 o p us (e5b n M2 us) (r5ok m N3 us) [.gs 4, .gs 5] 2 0), f50 k a i⟩, ⟨30, tdS1, (S5 n m M0 M1 o p us (e5b n M2 us) r5er [.gs 4, .gs 5] 2 0), f50 k a i⟩] = Tree.node (A.lt i (Int.ofNat 2)) (Tree.need (roomB n 16) (Tree.need (roomB (L.un k m) 64) (Tree.need (okB Ev m (fnR p)) (Tree.need (roomB n 16) (Tree.need (roomB m 64) (Tree.need (okB Ev m (fnR p)) (Tree.need (roomB n 16) (Tree.need (roomB m 64) (Tree.need (okB Oj n (fnR o)) (Tree.need (okB Ev m (fnR p)) (Tree.need (retsB m (fnR p)) (Tree.node (bigB n m) (Tree.leaf (Fe2.at_ 1 [Eqn.int (Int.ofNat 0) (Int.ofNat 0), Eqn.sh (Sh.sl 2 n (fnR o)) (Sh.sl 2 n (fnR o)), Eqn.sh (Sh.sl 8 m (fnR p)) (Sh.sl 8 m (fnR p)), Eqn.nat n n, Eqn.get n (fnR o) (fnR o), Eqn.nat m m, Eqn.get m (fnR p) (fnR p), Eqn.nat n n, Eqn.get n (fnR o) (us 0), Eqn.nat (L.un k m) M0, Eqn.get (L.un k m) (fnR p) (us 1), Eqn.nat n n, Eqn.get n (fnR o) (us 2), Eqn.nat (L.km (keepN a) m (rwAt (fnR p))) M1, Eqn.get (L.km (keepN a) m (rwAt (fnR p))) (fnR (L.kp (keepN a) m (rwAt (fnR p)))) (us 3), Eqn.nat n n, Eqn.get n (fnR o) (us 4), Eqn.nat (L.km keepC m (rwAt (fnR p))) M2, Eqn.get (L.km keepC m (rwAt (fnR p))) (fnR (L.kp keepC m (rwAt (fnR p)))) (us 5), Eqn.sh (Sh.sl 0 0 fun (x : Nat) => []) (Sh.sl 0 0 fun (x : Nat) => []), Eqn.sh (Sh.sl 0 0 fun (x : Nat) => []) (Sh.sl 0 0 fun (x : Nat) => []), Eqn.int k k, Eqn.int a a, Eqn.int i i])) (Tree.node (goodB n m (fnR o) (fnR p)) (Tree.node (takeB m (rwAt (fnR p))) (Tree.leaf (Fe2.at_ 0 [Eqn.int (Int.ofNat 0) (Int.ofNat 0), Eqn.sh (Sh.sl 2 n (fnR o)) (Sh.sl 2 n (fnR o)), Eqn.sh (Sh.sl 8 m (fnR p)) (Sh.sl 8 m (fnR p)), Eqn.nat n n, Eqn.get n (fnR o) (fnR o), Eqn.nat m m, Eqn.get m (fnR p) (fnR p), Eqn.nat n n, Eqn.get n (fnR o) (us 0), Eqn.nat (L.un k m) M0, Eqn.get (L.un k m) (fnR p) (us 1), Eqn.nat n n, Eqn.get n (fnR o) (us 2), Eqn.nat (L.km (keepN a) m (rwAt (fnR p))) M1, Eqn.get (L.km (keepN a) m (rwAt (fnR p))) (fnR (L.kp (keepN a) m (rwAt (fnR p)))) (us 3), Eqn.nat n n, Eqn.get n (fnR o) (us 4), Eqn.nat (L.km keepC m (rwAt (fnR p))) M2, Eqn.get (L.km keepC m (rwAt (fnR p))) (fnR (L.kp keepC m (rwAt (fnR p)))) (us 5), Eqn.nat (L.sp (rwAt (fnR p)) m) N3, Eqn.get (L.sp (rwAt (fnR p)) m) (fO (fnR o)) (us 6), Eqn.nat m m, Eqn.get m (fE (fnR p)) (us 7), Eqn.int k k, Eqn.int a a, Eqn.int i i])) (Tree.leaf (Fe2.at_ 1 [Eqn.int (Int.ofNat 0) (Int.ofNat 0), Eqn.sh (Sh.sl 2 n (fnR o)) (Sh.sl 2 n (fnR o)), Eqn.sh (Sh.sl 8 m (fnR p)) (Sh.sl 8 m (fnR p)), Eqn.nat n n, Eqn.get n (fnR o) (fnR o), Eqn.nat m m, Eqn.get m (fnR p) (fnR p), Eqn.nat n n, Eqn.get n (fnR o) (us 0), Eqn.nat (L.un k m) M0, Eqn.get (L.un k m) (fnR p) (us 1), Eqn.nat n n, Eqn.get n (fnR o) (us 2), Eqn.nat (L.km (keepN a) m (rwAt (fnR p))) M1, Eqn.get (L.km (keepN a) m (rwAt (fnR p))) (fnR (L.kp (keepN a) m (rwAt (fnR p)))) (us 3), Eqn.nat n n, Eqn.get n (fnR o) (us 4), Eqn.nat (L.km keepC m (rwAt (fnR p))) M2, Eqn.get (L.km keepC m (rwAt (fnR p))) (fnR (L.kp keepC m (rwAt (fnR p)))) (us 5), Eqn.sh (Sh.sl 0 0 fun (x : Nat) => []) (Sh.sl 0 0 fun (x : Nat) => []), Eqn.sh (Sh.sl 0 0 fun (x : Nat) => []) (Sh.sl 0 0 fun (x : Nat) => []), Eqn.int k k, Eqn.int a a, Eqn.int i i]))) (Tree.leaf (Fe2.at_ 1 [Eqn.int (Int.ofNat 0) (Int.ofNat 0), Eqn.sh (Sh.sl 2 n (fnR o)) (Sh.sl 2 n (fnR o)), Eqn.sh (Sh.sl 8 m (fnR p)) (Sh.sl 8 m (fnR p)), Eqn.nat n n, Eqn.get n (fnR o) (fnR o), Eqn.nat m m, Eqn.get m (fnR p) (fnR p), Eqn.nat n n, Eqn.get n (fnR o) (us 0), Eqn.nat (L.un k m) M0, Eqn.get (L.un k m) (fnR p) (us 1), Eqn.nat n n, Eqn.get n (fnR o) (us 2), Eqn.nat (L.km (keepN a) m (rwAt (fnR p))) M1, Eqn.get (L.km (keepN a) m (rwAt (fnR p))) (fnR (L.kp (keepN a) m (rwAt (fnR p)))) (us 3), Eqn.nat n n, Eqn.get n (fnR o) (us 4), Eqn.nat (L.km keepC m (rwAt (fnR p))) M2, Eqn.get (L.km keepC m (rwAt (fnR p))) (fnR (L.kp keepC m (rwAt (fnR p)))) (us 5), Eqn.sh (Sh.sl 0 0 fun (x : Nat) => []) (Sh.sl 0 0 fun (x : Nat) => []), Eqn.sh (Sh.sl 0 0 fun (x : Nat) => []) (Sh.sl 0 0 fun (x : Nat) => []), Eqn.int k k, Eqn.int a a, Eqn.int i i]))))))))))))))) (Tree.need (roomB n 16) (Tree.need (roomB (L.un k m) 64) (Tree.need (okB Oj n (fnR o)) (Tree.need (okB Ev (upN k m) (fnR p)) (Tree.need (roomB n 16) (Tree.need (roomB (upN k m) 64) (Tree.need (okB Oj n (fnR o)) (Tree.need (okB Oj n (fO (fnR o))) (Tree.need (okB Ev (L.un k m) (fnR p)) (Tree.need (okB Ev (upN k m) (fE (fnR p))) (Tree.node (L.same n (L.un k m) (fnR o) (fnR p) n (upN k m) (fO (fnR o)) (fE (fnR p))) (Tree.need (okB Oj n (fnR o)) (Tree.need (okB Oj n (fnR o)) (Tree.need (okB Ev m (fnR p)) (Tree.need (okB Ev m (fnR p)) (Tree.leaf (Fe2.ret (Sh.b (L.same n m (fnR o) (fnR p) n m (fnR o) (fnR p))))))))) (Tree.leaf (Fe2.ret (Sh.b false)))))))))))))) := by kernel_rfl
theorem c0o1 (A : Prim) (W : Wd) (L : Lb5) (n m M0 M1 M2 N3 : Nat) (o : Nat → Oj) (p : Nat → Ev) (k a i : Int) (us us1 : Nat → Nat → List Sh) (j j1 : Int) : runU (C5 A W (spec5 L) stopAll) noHold 300 800 30 tbS1 (S5 n m M0 M1 o p us (e5b n M2 us) (r5ok m N3 us) [.gs 4, .gs 5] 2 j) (f50 k a i) [⟨30, tdS1, (S5 n m M0 M1 o p us1 (e5b n M2 us1) (r5ok m N3 us1) [.gs 4, .gs 5] 2 j1), f50 k a i⟩, ⟨30, tdS2, (S5 n m M0 M1 o p us1 (e5b n M2 us1) (r5ok m N3 us1) [.gs 4, .gs 5] 3 0), f50 k a i⟩] = Tree.node (A.lt j (A.ofN n)) (Tree.need (A.inB j n) (Tree.leaf (Fe2.at_ 0 [Eqn.int (A.add IntKind.i64 j (Int.ofNat 1)) j1, Eqn.sh (Sh.sl 2 n (fnR o)) (Sh.sl 2 n (fnR o)), Eqn.sh (Sh.sl 8 m (fnR p)) (Sh.sl 8 m (fnR p)), Eqn.nat n n, Eqn.get n (fnR o) (fnR o), Eqn.nat m m, Eqn.get m (fnR p) (fnR p), Eqn.nat n n, Eqn.get n (A.upd (us 0) (A.toN j) 0 [Sh.i IntKind.i64 (Int.negSucc 8), Sh.i IntKind.i64 (Int.ofNat 0)]) (us1 0), Eqn.nat M0 M0, Eqn.get M0 (us 1) (us1 1), Eqn.nat n n, Eqn.get n (us 2) (us1 2), Eqn.nat M1 M1, Eqn.get M1 (us 3) (us1 3), Eqn.nat n n, Eqn.get n (us 4) (us1 4), Eqn.nat M2 M2, Eqn.get M2 (us 5) (us1 5), Eqn.nat N3 N3, Eqn.get N3 (us 6) (us1 6), Eqn.nat m m, Eqn.get m (us 7) (us1 7), Eqn.int k k, Eqn.int a a, Eqn.int i i]))) (Tree.leaf (Fe2.at_ 1 [Eqn.int (Int.ofNat 0) (Int.ofNat 0), Eqn.sh (Sh.sl 2 n (fnR o)) (Sh.sl 2 n (fnR o)), Eqn.sh (Sh.sl 8 m (fnR p)) (Sh.sl 8 m (fnR p)), Eqn.nat n n, Eqn.get n (fnR o) (fnR o), Eqn.nat m m, Eqn.get m (fnR p) (fnR p), Eqn.nat n n, Eqn.get n (us 0) (us1 0), Eqn.nat M0 M0, Eqn.get M0 (us 1) (us1 1), Eqn.nat n n, Eqn.get n (us 2) (us1 2), Eqn.nat M1 M1, Eqn.get M1 (us 3) (us1 3), Eqn.nat n n, Eqn.get n (us 4) (us1 4), Eqn.nat M2 M2, Eqn.get M2 (us 5) (us1 5), Eqn.nat N3 N3, Eqn.get N3 (us 6) (us1 6), Eqn.nat m m, Eqn.get m (us 7) (us1 7), Eqn.int k k, Eqn.int a a, Eqn.int i i])) := by kernel_rfl
theorem c0o2 (A : Prim) (W : Wd) (L : Lb5) (n m M0 M1 M2 N3 : Nat) (o : Nat → Oj) (p : Nat → Ev) (k a i : Int) (us us1 : Nat → Nat → List Sh) (j j1 : Int) : runU (C5 A W (spec5 L) stopAll) noHold 300 800 30 tbS2 (S5 n m M0 M1 o p us (e5b n M2 us) (r5ok m N3 us) [.gs 4, .gs 5] 3 j) (f50 k a i) [⟨30, tdS2, (S5 n m M0 M1 o p us1 (e5b n M2 us1) (r5ok m N3 us1) [.gs 4, .gs 5] 3 j1), f50 k a i⟩, ⟨30, tdS1, (S5 n m M0 M1 o p us1 (e5b n M2 us1) (r5ok m N3 us1) [.gs 7, .gs 8] 2 0), f51 k a i⟩] = Tree.node (A.lt j (A.ofN M0)) (Tree.need (A.inB j M0) (Tree.leaf (Fe2.at_ 0 [Eqn.int (A.add IntKind.i64 j (Int.ofNat 1)) j1, Eqn.sh (Sh.sl 2 n (fnR o)) (Sh.sl 2 n (fnR o)), Eqn.sh (Sh.sl 8 m (fnR p)) (Sh.sl 8 m (fnR p)), Eqn.nat n n, Eqn.get n (fnR o) (fnR o), Eqn.nat m m, Eqn.get m (fnR p) (fnR p), Eqn.nat n n, Eqn.get n (us 0) (us1 0), Eqn.nat M0 M0, Eqn.get M0 (A.upd (us 1) (A.toN j) 0 [Sh.i IntKind.i64 (Int.negSucc 8), Sh.i IntKind.i64 (Int.ofNat 0), Sh.i IntKind.i64 (Int.ofNat 0), Sh.i IntKind.i64 (Int.ofNat 0), Sh.i IntKind.i64 (Int.ofNat 0), Sh.i IntKind.i64 (Int.ofNat 0), Sh.i IntKind.i64 (Int.ofNat 0), Sh.i IntKind.i64 (Int.ofNat 0)]) (us1 1), Eqn.nat n n, Eqn.get n (us 2) (us1 2), Eqn.nat M1 M1, Eqn.get M1 (us 3) (us1 3), Eqn.nat n n, Eqn.get n (us 4) (us1 4), Eqn.nat M2 M2, Eqn.get M2 (us 5) (us1 5), Eqn.nat N3 N3, Eqn.get N3 (us 6) (us1 6), Eqn.nat m m, Eqn.get m (us 7) (us1 7), Eqn.int k k, Eqn.int a a, Eqn.int i i]))) (Tree.leaf (Fe2.at_ 1 [Eqn.int (Int.ofNat 0) (Int.ofNat 0), Eqn.sh (Sh.sl 2 n (fnR o)) (Sh.sl 2 n (fnR o)), Eqn.sh (Sh.sl 8 m (fnR p)) (Sh.sl 8 m (fnR p)), Eqn.nat n n, Eqn.get n (fnR o) (fnR o), Eqn.nat m m, Eqn.get m (fnR p) (fnR p), Eqn.nat n n, Eqn.get n (us 0) (us1 0), Eqn.nat M0 M0, Eqn.get M0 (us 1) (us1 1), Eqn.nat n n, Eqn.get n (us 2) (us1 2), Eqn.nat M1 M1, Eqn.get M1 (us 3) (us1 3), Eqn.nat n n, Eqn.get n (us 4) (us1 4), Eqn.nat M2 M2, Eqn.get M2 (us 5) (us1 5), Eqn.nat N3 N3, Eqn.get N3 (us 6) (us1 6), Eqn.nat m m, Eqn.get m (us 7) (us1 7), Eqn.int k k, Eqn.int a a, Eqn.int i i])) := by kernel_rfl
theorem c0e1 (A : Prim) (W : Wd) (L : Lb5) (n m M0 M1 M2 N3 : Nat) (o : Nat → Oj) (p : Nat → Ev) (k a i : Int) (us us1 : Nat → Nat → List Sh) (j j1 : Int) : runU (C5 A W (spec5 L) stopAll) noHold 300 800 30 tbS1 (S5 n m M0 M1 o p us (e5b n M2 us) r5er [.gs 4, .gs 5] 2 j) (f50 k a i) [⟨30, tdS1, (S5 n m M0 M1 o p us1 (e5b n M2 us1) r5er [.gs 4, .gs 5] 2 j1), f50 k a i⟩, ⟨30, tdS2, (S5 n m M0 M1 o p us1 (e5b n M2 us1) r5er [.gs 4, .gs 5] 3 0), f50 k a i⟩] = Tree.node (A.lt j (A.ofN n)) (Tree.need (A.inB j n) (Tree.leaf (Fe2.at_ 0 [Eqn.int (A.add IntKind.i64 j (Int.ofNat 1)) j1, Eqn.sh (Sh.sl 2 n (fnR o)) (Sh.sl 2 n (fnR o)), Eqn.sh (Sh.sl 8 m (fnR p)) (Sh.sl 8 m (fnR p)), Eqn.nat n n, Eqn.get n (fnR o) (fnR o), Eqn.nat m m, Eqn.get m (fnR p) (fnR p), Eqn.nat n n, Eqn.get n (A.upd (us 0) (A.toN j) 0 [Sh.i IntKind.i64 (Int.negSucc 8), Sh.i IntKind.i64 (Int.ofNat 0)]) (us1 0), Eqn.nat M0 M0, Eqn.get M0 (us 1) (us1 1), Eqn.nat n n, Eqn.get n (us 2) (us1 2), Eqn.nat M1 M1, Eqn.get M1 (us 3) (us1 3), Eqn.nat n n, Eqn.get n (us 4) (us1 4), Eqn.nat M2 M2, Eqn.get M2 (us 5) (us1 5), Eqn.sh (Sh.sl 0 0 fun (x : Nat) => []) (Sh.sl 0 0 fun (x : Nat) => []), Eqn.sh (Sh.sl 0 0 fun (x : Nat) => []) (Sh.sl 0 0 fun (x : Nat) => []), Eqn.int k k, Eqn.int a a, Eqn.int i i]))) (Tree.leaf (Fe2.at_ 1 [Eqn.int (Int.ofNat 0) (Int.ofNat 0), Eqn.sh (Sh.sl 2 n (fnR o)) (Sh.sl 2 n (fnR o)), Eqn.sh (Sh.sl 8 m (fnR p)) (Sh.sl 8 m (fnR p)), Eqn.nat n n, Eqn.get n (fnR o) (fnR o), Eqn.nat m m, Eqn.get m (fnR p) (fnR p), Eqn.nat n n, Eqn.get n (us 0) (us1 0), Eqn.nat M0 M0, Eqn.get M0 (us 1) (us1 1), Eqn.nat n n, Eqn.get n (us 2) (us1 2), Eqn.nat M1 M1, Eqn.get M1 (us 3) (us1 3), Eqn.nat n n, Eqn.get n (us 4) (us1 4), Eqn.nat M2 M2, Eqn.get M2 (us 5) (us1 5), Eqn.sh (Sh.sl 0 0 fun (x : Nat) => []) (Sh.sl 0 0 fun (x : Nat) => []), Eqn.sh (Sh.sl 0 0 fun (x : Nat) => []) (Sh.sl 0 0 fun (x : Nat) => []), Eqn.int k k, Eqn.int a a, Eqn.int i i])) := by kernel_rfl
theorem c0e2 (A : Prim) (W : Wd) (L : Lb5) (n m M0 M1 M2 N3 : Nat) (o : Nat → Oj) (p : Nat → Ev) (k a i : Int) (us us1 : Nat → Nat → List Sh) (j j1 : Int) : runU (C5 A W (spec5 L) stopAll) noHold 300 800 30 tbS2 (S5 n m M0 M1 o p us (e5b n M2 us) r5er [.gs 4, .gs 5] 3 j) (f50 k a i) [⟨30, tdS2, (S5 n m M0 M1 o p us1 (e5b n M2 us1) r5er [.gs 4, .gs 5] 3 j1), f50 k a i⟩, ⟨30, tdS1, (S5 n m M0 M1 o p us1 (e5b n M2 us1) r5er [.gs 7, .gs 8] 2 0), f51 k a i⟩] = Tree.node (A.lt j (A.ofN M0)) (Tree.need (A.inB j M0) (Tree.leaf (Fe2.at_ 0 [Eqn.int (A.add IntKind.i64 j (Int.ofNat 1)) j1, Eqn.sh (Sh.sl 2 n (fnR o)) (Sh.sl 2 n (fnR o)), Eqn.sh (Sh.sl 8 m (fnR p)) (Sh.sl 8 m (fnR p)), Eqn.nat n n, Eqn.get n (fnR o) (fnR o), Eqn.nat m m, Eqn.get m (fnR p) (fnR p), Eqn.nat n n, Eqn.get n (us 0) (us1 0), Eqn.nat M0 M0, Eqn.get M0 (A.upd (us 1) (A.toN j) 0 [Sh.i IntKind.i64 (Int.negSucc 8), Sh.i IntKind.i64 (Int.ofNat 0), Sh.i IntKind.i64 (Int.ofNat 0), Sh.i IntKind.i64 (Int.ofNat 0), Sh.i IntKind.i64 (Int.ofNat 0), Sh.i IntKind.i64 (Int.ofNat 0), Sh.i IntKind.i64 (Int.ofNat 0), Sh.i IntKind.i64 (Int.ofNat 0)]) (us1 1), Eqn.nat n n, Eqn.get n (us 2) (us1 2), Eqn.nat M1 M1, Eqn.get M1 (us 3) (us1 3), Eqn.nat n n, Eqn.get n (us 4) (us1 4), Eqn.nat M2 M2, Eqn.get M2 (us 5) (us1 5), Eqn.sh (Sh.sl 0 0 fun (x : Nat) => []) (Sh.sl 0 0 fun (x : Nat) => []), Eqn.sh (Sh.sl 0 0 fun (x : Nat) => []) (Sh.sl 0 0 fun (x : Nat) => []), Eqn.int k k, Eqn.int a a, Eqn.int i i]))) (Tree.leaf (Fe2.at_ 1 [Eqn.int (Int.ofNat 0) (Int.ofNat 0), Eqn.sh (Sh.sl 2 n (fnR o)) (Sh.sl 2 n (fnR o)), Eqn.sh (Sh.sl 8 m (fnR p)) (Sh.sl 8 m (fnR p)), Eqn.nat n n, Eqn.get n (fnR o) (fnR o), Eqn.nat m m, Eqn.get m (fnR p) (fnR p), Eqn.nat n n, Eqn.get n (us 0) (us1 0), Eqn.nat M0 M0, Eqn.get M0 (us 1) (us1 1), Eqn.nat n n, Eqn.get n (us 2) (us1 2), Eqn.nat M1 M1, Eqn.get M1 (us 3) (us1 3), Eqn.nat n n, Eqn.get n (us 4) (us1 4), Eqn.nat M2 M2, Eqn.get M2 (us 5) (us1 5), Eqn.sh (Sh.sl 0 0 fun (x : Nat) => []) (Sh.sl 0 0 fun (x : Nat) => []), Eqn.sh (Sh.sl 0 0 fun (x : Nat) => []) (Sh.sl 0 0 fun (x : Nat) => []), Eqn.int k k, Eqn.int a a, Eqn.int i i])) := by kernel_rfl
theorem c1o1 (A : Prim) (W : Wd) (L : Lb5) (n m M0 M1 M2 N3 : Nat) (o : Nat → Oj) (p : Nat → Ev) (k a i : Int) (us us1 : Nat → Nat → List Sh) (j j1 : Int) : runU (C5 A W (spec5 L) stopAll) noHold 300 800 30 tbS1 (S5 n m M0 M1 o p us (e5b n M2 us) (r5ok m N3 us) [.gs 7, .gs 8] 2 j) (f51 k a i) [⟨30, tdS1, (S5 n m M0 M1 o p us1 (e5b n M2 us1) (r5ok m N3 us1) [.gs 7, .gs 8] 2 j1), f51 k a i⟩, ⟨30, tdS2, (S5 n m M0 M1 o p us1 (e5b n M2 us1) (r5ok m N3 us1) [.gs 7, .gs 8] 3 0), f51 k a i⟩] = Tree.node (A.lt j (A.ofN n)) (Tree.need (A.inB j n) (Tree.leaf (Fe2.at_ 0 [Eqn.int (A.add IntKind.i64 j (Int.ofNat 1)) j1, Eqn.sh (Sh.sl 2 n (fnR o)) (Sh.sl 2 n (fnR o)), Eqn.sh (Sh.sl 8 m (fnR p)) (Sh.sl 8 m (fnR p)), Eqn.nat n n, Eqn.get n (fnR o) (fnR o), Eqn.nat m m, Eqn.get m (fnR p) (fnR p), Eqn.nat n n, Eqn.get n (us 0) (us1 0), Eqn.nat M0 M0, Eqn.get M0 (us 1) (us1 1), Eqn.nat n n, Eqn.get n (A.upd (us 2) (A.toN j) 0 [Sh.i IntKind.i64 (Int.negSucc 8), Sh.i IntKind.i64 (Int.ofNat 0)]) (us1 2), Eqn.nat M1 M1, Eqn.get M1 (us 3) (us1 3), Eqn.nat n n, Eqn.get n (us 4) (us1 4), Eqn.nat M2 M2, Eqn.get M2 (us 5) (us1 5), Eqn.nat N3 N3, Eqn.get N3 (us 6) (us1 6), Eqn.nat m m, Eqn.get m (us 7) (us1 7), Eqn.int k k, Eqn.int a a, Eqn.int i i]))) (Tree.leaf (Fe2.at_ 1 [Eqn.int (Int.ofNat 0) (Int.ofNat 0), Eqn.sh (Sh.sl 2 n (fnR o)) (Sh.sl 2 n (fnR o)), Eqn.sh (Sh.sl 8 m (fnR p)) (Sh.sl 8 m (fnR p)), Eqn.nat n n, Eqn.get n (fnR o) (fnR o), Eqn.nat m m, Eqn.get m (fnR p) (fnR p), Eqn.nat n n, Eqn.get n (us 0) (us1 0), Eqn.nat M0 M0, Eqn.get M0 (us 1) (us1 1), Eqn.nat n n, Eqn.get n (us 2) (us1 2), Eqn.nat M1 M1, Eqn.get M1 (us 3) (us1 3), Eqn.nat n n, Eqn.get n (us 4) (us1 4), Eqn.nat M2 M2, Eqn.get M2 (us 5) (us1 5), Eqn.nat N3 N3, Eqn.get N3 (us 6) (us1 6), Eqn.nat m m, Eqn.get m (us 7) (us1 7), Eqn.int k k, Eqn.int a a, Eqn.int i i])) := by kernel_rfl
theorem c1o2 (A : Prim) (W : Wd) (L : Lb5) (n m M0 M1 M2 N3 : Nat) (o : Nat → Oj) (p : Nat → Ev) (k a i : Int) (us us1 : Nat → Nat → List Sh) (j j1 : Int) : runU (C5 A W (spec5 L) stopAll) noHold 300 800 30 tbS2 (S5 n m M0 M1 o p us (e5b n M2 us) (r5ok m N3 us) [.gs 7, .gs 8] 3 j) (f51 k a i) [⟨30, tdS2, (S5 n m M0 M1 o p us1 (e5b n M2 us1) (r5ok m N3 us1) [.gs 7, .gs 8] 3 j1), f51 k a i⟩, ⟨30, tdS1, (S5 n m M0 M1 o p us1 (e5 n M2 us1) (r5ok m N3 us1) [.gs 10, .gs 11] 2 0), f52 k a i⟩] = Tree.node (A.lt j (A.ofN M1)) (Tree.need (A.inB j M1) (Tree.leaf (Fe2.at_ 0 [Eqn.int (A.add IntKind.i64 j (Int.ofNat 1)) j1, Eqn.sh (Sh.sl 2 n (fnR o)) (Sh.sl 2 n (fnR o)), Eqn.sh (Sh.sl 8 m (fnR p)) (Sh.sl 8 m (fnR p)), Eqn.nat n n, Eqn.get n (fnR o) (fnR o), Eqn.nat m m, Eqn.get m (fnR p) (fnR p), Eqn.nat n n, Eqn.get n (us 0) (us1 0), Eqn.nat M0 M0, Eqn.get M0 (us 1) (us1 1), Eqn.nat n n, Eqn.get n (us 2) (us1 2), Eqn.nat M1 M1, Eqn.get M1 (A.upd (us 3) (A.toN j) 0 [Sh.i IntKind.i64 (Int.negSucc 8), Sh.i IntKind.i64 (Int.ofNat 0), Sh.i IntKind.i64 (Int.ofNat 0), Sh.i IntKind.i64 (Int.ofNat 0), Sh.i IntKind.i64 (Int.ofNat 0), Sh.i IntKind.i64 (Int.ofNat 0), Sh.i IntKind.i64 (Int.ofNat 0), Sh.i IntKind.i64 (Int.ofNat 0)]) (us1 3), Eqn.nat n n, Eqn.get n (us 4) (us1 4), Eqn.nat M2 M2, Eqn.get M2 (us 5) (us1 5), Eqn.nat N3 N3, Eqn.get N3 (us 6) (us1 6), Eqn.nat m m, Eqn.get m (us 7) (us1 7), Eqn.int k k, Eqn.int a a, Eqn.int i i]))) (Tree.leaf (Fe2.at_ 1 [Eqn.int (Int.ofNat 0) (Int.ofNat 0), Eqn.sh (Sh.sl 2 n (fnR o)) (Sh.sl 2 n (fnR o)), Eqn.sh (Sh.sl 8 m (fnR p)) (Sh.sl 8 m (fnR p)), Eqn.nat n n, Eqn.get n (fnR o) (fnR o), Eqn.nat m m, Eqn.get m (fnR p) (fnR p), Eqn.nat n n, Eqn.get n (us 0) (us1 0), Eqn.nat M0 M0, Eqn.get M0 (us 1) (us1 1), Eqn.nat n n, Eqn.get n (us 2) (us1 2), Eqn.nat M1 M1, Eqn.get M1 (us 3) (us1 3), Eqn.nat n n, Eqn.get n (us 4) (us1 4), Eqn.nat M2 M2, Eqn.get M2 (us 5) (us1 5), Eqn.nat N3 N3, Eqn.get N3 (us 6) (us1 6), Eqn.nat m m, Eqn.get m (us 7) (us1 7), Eqn.int k k, Eqn.int a a, Eqn.int i i])) := by kernel_rfl
theorem c1e1 (A : Prim) (W : Wd) (L : Lb5) (n m M0 M1 M2 N3 : Nat) (o : Nat → Oj) (p : Nat → Ev) (k a i : Int) (us us1 : Nat → Nat → List Sh) (j j1 : Int) : runU (C5 A W (spec5 L) stopAll) noHold 300 800 30 tbS1 (S5 n m M0 M1 o p us (e5b n M2 us) r5er [.gs 7, .gs 8] 2 j) (f51 k a i) [⟨30, tdS1, (S5 n m M0 M1 o p us1 (e5b n M2 us1) r5er [.gs 7, .gs 8] 2 j1), f51 k a i⟩, ⟨30, tdS2, (S5 n m M0 M1 o p us1 (e5b n M2 us1) r5er [.gs 7, .gs 8] 3 0), f51 k a i⟩] = Tree.node (A.lt j (A.ofN n)) (Tree.need (A.inB j n) (Tree.leaf (Fe2.at_ 0 [Eqn.int (A.add IntKind.i64 j (Int.ofNat 1)) j1, Eqn.sh (Sh.sl 2 n (fnR o)) (Sh.sl 2 n (fnR o)), Eqn.sh (Sh.sl 8 m (fnR p)) (Sh.sl 8 m (fnR p)), Eqn.nat n n, Eqn.get n (fnR o) (fnR o), Eqn.nat m m, Eqn.get m (fnR p) (fnR p), Eqn.nat n n, Eqn.get n (us 0) (us1 0), Eqn.nat M0 M0, Eqn.get M0 (us 1) (us1 1), Eqn.nat n n, Eqn.get n (A.upd (us 2) (A.toN j) 0 [Sh.i IntKind.i64 (Int.negSucc 8), Sh.i IntKind.i64 (Int.ofNat 0)]) (us1 2), Eqn.nat M1 M1, Eqn.get M1 (us 3) (us1 3), Eqn.nat n n, Eqn.get n (us 4) (us1 4), Eqn.nat M2 M2, Eqn.get M2 (us 5) (us1 5), Eqn.sh (Sh.sl 0 0 fun (x : Nat) => []) (Sh.sl 0 0 fun (x : Nat) => []), Eqn.sh (Sh.sl 0 0 fun (x : Nat) => []) (Sh.sl 0 0 fun (x : Nat) => []), Eqn.int k k, Eqn.int a a, Eqn.int i i]))) (Tree.leaf (Fe2.at_ 1 [Eqn.int (Int.ofNat 0) (Int.ofNat 0), Eqn.sh (Sh.sl 2 n (fnR o)) (Sh.sl 2 n (fnR o)), Eqn.sh (Sh.sl 8 m (fnR p)) (Sh.sl 8 m (fnR p)), Eqn.nat n n, Eqn.get n (fnR o) (fnR o), Eqn.nat m m, Eqn.get m (fnR p) (fnR p), Eqn.nat n n, Eqn.get n (us 0) (us1 0), Eqn.nat M0 M0, Eqn.get M0 (us 1) (us1 1), Eqn.nat n n, Eqn.get n (us 2) (us1 2), Eqn.nat M1 M1, Eqn.get M1 (us 3) (us1 3), Eqn.nat n n, Eqn.get n (us 4) (us1 4), Eqn.nat M2 M2, Eqn.get M2 (us 5) (us1 5), Eqn.sh (Sh.sl 0 0 fun (x : Nat) => []) (Sh.sl 0 0 fun (x : Nat) => []), Eqn.sh (Sh.sl 0 0 fun (x : Nat) => []) (Sh.sl 0 0 fun (x : Nat) => []), Eqn.int k k, Eqn.int a a, Eqn.int i i])) := by kernel_rfl
theorem c1e2 (A : Prim) (W : Wd) (L : Lb5) (n m M0 M1 M2 N3 : Nat) (o : Nat → Oj) (p : Nat → Ev) (k a i : Int) (us us1 : Nat → Nat → List Sh) (j j1 : Int) : runU (C5 A W (spec5 L) stopAll) noHold 300 800 30 tbS2 (S5 n m M0 M1 o p us (e5b n M2 us) r5er [.gs 7, .gs 8] 3 j) (f51 k a i) [⟨30, tdS2, (S5 n m M0 M1 o p us1 (e5b n M2 us1) r5er [.gs 7, .gs 8] 3 j1), f51 k a i⟩, ⟨30, tdS1, (S5 n m M0 M1 o p us1 (e5 n M2 us1) r5er [.gs 10, .gs 11] 2 0), f52 k a i⟩] = Tree.node (A.lt j (A.ofN M1)) (Tree.need (A.inB j M1) (Tree.leaf (Fe2.at_ 0 [Eqn.int (A.add IntKind.i64 j (Int.ofNat 1)) j1, Eqn.sh (Sh.sl 2 n (fnR o)) (Sh.sl 2 n (fnR o)), Eqn.sh (Sh.sl 8 m (fnR p)) (Sh.sl 8 m (fnR p)), Eqn.nat n n, Eqn.get n (fnR o) (fnR o), Eqn.nat m m, Eqn.get m (fnR p) (fnR p), Eqn.nat n n, Eqn.get n (us 0) (us1 0), Eqn.nat M0 M0, Eqn.get M0 (us 1) (us1 1), Eqn.nat n n, Eqn.get n (us 2) (us1 2), Eqn.nat M1 M1, Eqn.get M1 (A.upd (us 3) (A.toN j) 0 [Sh.i IntKind.i64 (Int.negSucc 8), Sh.i IntKind.i64 (Int.ofNat 0), Sh.i IntKind.i64 (Int.ofNat 0), Sh.i IntKind.i64 (Int.ofNat 0), Sh.i IntKind.i64 (Int.ofNat 0), Sh.i IntKind.i64 (Int.ofNat 0), Sh.i IntKind.i64 (Int.ofNat 0), Sh.i IntKind.i64 (Int.ofNat 0)]) (us1 3), Eqn.nat n n, Eqn.get n (us 4) (us1 4), Eqn.nat M2 M2, Eqn.get M2 (us 5) (us1 5), Eqn.sh (Sh.sl 0 0 fun (x : Nat) => []) (Sh.sl 0 0 fun (x : Nat) => []), Eqn.sh (Sh.sl 0 0 fun (x : Nat) => []) (Sh.sl 0 0 fun (x : Nat) => []), Eqn.int k k, Eqn.int a a, Eqn.int i i]))) (Tree.leaf (Fe2.at_ 1 [Eqn.int (Int.ofNat 0) (Int.ofNat 0), Eqn.sh (Sh.sl 2 n (fnR o)) (Sh.sl 2 n (fnR o)), Eqn.sh (Sh.sl 8 m (fnR p)) (Sh.sl 8 m (fnR p)), Eqn.nat n n, Eqn.get n (fnR o) (fnR o), Eqn.nat m m, Eqn.get m (fnR p) (fnR p), Eqn.nat n n, Eqn.get n (us 0) (us1 0), Eqn.nat M0 M0, Eqn.get M0 (us 1) (us1 1), Eqn.nat n n, Eqn.get n (us 2) (us1 2), Eqn.nat M1 M1, Eqn.get M1 (us 3) (us1 3), Eqn.nat n n, Eqn.get n (us 4) (us1 4), Eqn.nat M2 M2, Eqn.get M2 (us 5) (us1 5), Eqn.sh (Sh.sl 0 0 fun (x : Nat) => []) (Sh.sl 0 0 fun (x : Nat) => []), Eqn.sh (Sh.sl 0 0 fun (x : Nat) => []) (Sh.sl 0 0 fun (x : Nat) => []), Eqn.int k k, Eqn.int a a, Eqn.int i i])) := by kernel_rfl
theorem c2o1 (A : Prim) (W : Wd) (L : Lb5) (n m M0 M1 M2 N3 : Nat) (o : Nat → Oj) (p : Nat → Ev) (k a i : Int) (us us1 : Nat → Nat → List Sh) (j j1 : Int) : runU (C5 A W (spec5 L) stopAll) noHold 300 800 30 tbS1 (S5 n m M0 M1 o p us (e5 n M2 us) (r5ok m N3 us) [.gs 10, .gs 11] 2 j) (f52 k a i) [⟨30, tdS1, (S5 n m M0 M1 o p us1 (e5 n M2 us1) (r5ok m N3 us1) [.gs 10, .gs 11] 2 j1), f52 k a i⟩, ⟨30, tdS2, (S5 n m M0 M1 o p us1 (e5 n M2 us1) (r5ok m N3 us1) [.gs 10, .gs 11] 3 0), f52 k a i⟩] = Tree.node (A.lt j (A.ofN n)) (Tree.need (A.inB j n) (Tree.leaf (Fe2.at_ 0 [Eqn.int (A.add IntKind.i64 j (Int.ofNat 1)) j1, Eqn.sh (Sh.sl 2 n (fnR o)) (Sh.sl 2 n (fnR o)), Eqn.sh (Sh.sl 8 m (fnR p)) (Sh.sl 8 m (fnR p)), Eqn.nat n n, Eqn.get n (fnR o) (fnR o), Eqn.nat m m, Eqn.get m (fnR p) (fnR p), Eqn.nat n n, Eqn.get n (us 0) (us1 0), Eqn.nat M0 M0, Eqn.get M0 (us 1) (us1 1), Eqn.nat n n, Eqn.get n (us 2) (us1 2), Eqn.nat M1 M1, Eqn.get M1 (us 3) (us1 3), Eqn.nat n n, Eqn.get n (A.upd (us 4) (A.toN j) 0 [Sh.i IntKind.i64 (Int.negSucc 8), Sh.i IntKind.i64 (Int.ofNat 0)]) (us1 4), Eqn.nat M2 M2, Eqn.get M2 (us 5) (us1 5), Eqn.nat N3 N3, Eqn.get N3 (us 6) (us1 6), Eqn.nat m m, Eqn.get m (us 7) (us1 7), Eqn.int k k, Eqn.int a a, Eqn.int i i]))) (Tree.leaf (Fe2.at_ 1 [Eqn.int (Int.ofNat 0) (Int.ofNat 0), Eqn.sh (Sh.sl 2 n (fnR o)) (Sh.sl 2 n (fnR o)), Eqn.sh (Sh.sl 8 m (fnR p)) (Sh.sl 8 m (fnR p)), Eqn.nat n n, Eqn.get n (fnR o) (fnR o), Eqn.nat m m, Eqn.get m (fnR p) (fnR p), Eqn.nat n n, Eqn.get n (us 0) (us1 0), Eqn.nat M0 M0, Eqn.get M0 (us 1) (us1 1), Eqn.nat n n, Eqn.get n (us 2) (us1 2), Eqn.nat M1 M1, Eqn.get M1 (us 3) (us1 3), Eqn.nat n n, Eqn.get n (us 4) (us1 4), Eqn.nat M2 M2, Eqn.get M2 (us 5) (us1 5), Eqn.nat N3 N3, Eqn.get N3 (us 6) (us1 6), Eqn.nat m m, Eqn.get m (us 7) (us1 7), Eqn.int k k, Eqn.int a a, Eqn.int i i])) := by kernel_rfl
theorem c2o2 (A : Prim) (W : Wd) (L : Lb5) (n m M0 M1 M2 N3 : Nat) (o : Nat → Oj) (p : Nat → Ev) (k a i : Int) (us us1 : Nat → Nat → List Sh) (j j1 : Int) : runU (C5 A W (spec5 L) stopAll) noHold 300 800 30 tbS2 (S5 n m M0 M1 o p us (e5 n M2 us) (r5ok m N3 us) [.gs 10, .gs 11] 3 j) (f52 k a i) [⟨30, tdS2, (S5 n m M0 M1 o p us1 (e5 n M2 us1) (r5ok m N3 us1) [.gs 10, .gs 11] 3 j1), f52 k a i⟩, ⟨30, tdS1, (S5 n m M0 M1 o p us1 [] (r5k m N3 us1) [.gs 13, .gs 14] 2 0), f53 k a i⟩] = Tree.node (A.lt j (A.ofN M2)) (Tree.need (A.inB j M2) (Tree.leaf (Fe2.at_ 0 [Eqn.int (A.add IntKind.i64 j (Int.ofNat 1)) j1, Eqn.sh (Sh.sl 2 n (fnR o)) (Sh.sl 2 n (fnR o)), Eqn.sh (Sh.sl 8 m (fnR p)) (Sh.sl 8 m (fnR p)), Eqn.nat n n, Eqn.get n (fnR o) (fnR o), Eqn.nat m m, Eqn.get m (fnR p) (fnR p), Eqn.nat n n, Eqn.get n (us 0) (us1 0), Eqn.nat M0 M0, Eqn.get M0 (us 1) (us1 1), Eqn.nat n n, Eqn.get n (us 2) (us1 2), Eqn.nat M1 M1, Eqn.get M1 (us 3) (us1 3), Eqn.nat n n, Eqn.get n (us 4) (us1 4), Eqn.nat M2 M2, Eqn.get M2 (A.upd (us 5) (A.toN j) 0 [Sh.i IntKind.i64 (Int.negSucc 8), Sh.i IntKind.i64 (Int.ofNat 0), Sh.i IntKind.i64 (Int.ofNat 0), Sh.i IntKind.i64 (Int.ofNat 0), Sh.i IntKind.i64 (Int.ofNat 0), Sh.i IntKind.i64 (Int.ofNat 0), Sh.i IntKind.i64 (Int.ofNat 0), Sh.i IntKind.i64 (Int.ofNat 0)]) (us1 5), Eqn.nat N3 N3, Eqn.get N3 (us 6) (us1 6), Eqn.nat m m, Eqn.get m (us 7) (us1 7), Eqn.int k k, Eqn.int a a, Eqn.int i i]))) (Tree.leaf (Fe2.at_ 1 [Eqn.int (Int.ofNat 0) (Int.ofNat 0), Eqn.sh (Sh.sl 2 n (fnR o)) (Sh.sl 2 n (fnR o)), Eqn.sh (Sh.sl 8 m (fnR p)) (Sh.sl 8 m (fnR p)), Eqn.nat n n, Eqn.get n (fnR o) (fnR o), Eqn.nat m m, Eqn.get m (fnR p) (fnR p), Eqn.nat n n, Eqn.get n (us 0) (us1 0), Eqn.nat M0 M0, Eqn.get M0 (us 1) (us1 1), Eqn.nat n n, Eqn.get n (us 2) (us1 2), Eqn.nat M1 M1, Eqn.get M1 (us 3) (us1 3), Eqn.nat N3 N3, Eqn.get N3 (us 6) (us1 6), Eqn.nat m m, Eqn.get m (us 7) (us1 7), Eqn.int k k, Eqn.int a a, Eqn.int i i])) := by kernel_rfl
theorem c2e1 (A : Prim) (W : Wd) (L : Lb5) (n m M0 M1 M2 N3 : Nat) (o : Nat → Oj) (p : Nat → Ev) (k a i : Int) (us us1 : Nat → Nat → List Sh) (j j1 : Int) : runU (C5 A W (spec5 L) stopAll) noHold 300 800 30 tbS1 (S5 n m M0 M1 o p us (e5 n M2 us) r5er [.gs 10, .gs 11] 2 j) (f52 k a i) [⟨30, tdS1, (S5 n m M0 M1 o p us1 (e5 n M2 us1) r5er [.gs 10, .gs 11] 2 j1), f52 k a i⟩, ⟨30, tdS2, (S5 n m M0 M1 o p us1 (e5 n M2 us1) r5er [.gs 10, .gs 11] 3 0), f52 k a i⟩] = Tree.node (A.lt j (A.ofN n)) (Tree.need (A.inB j n) (Tree.leaf (Fe2.at_ 0 [Eqn.int (A.add IntKind.i64 j (Int.ofNat 1)) j1, Eqn.sh (Sh.sl 2 n (fnR o)) (Sh.sl 2 n (fnR o)), Eqn.sh (Sh.sl 8 m (fnR p)) (Sh.sl 8 m (fnR p)), Eqn.nat n n, Eqn.get n (fnR o) (fnR o), Eqn.nat m m, Eqn.get m (fnR p) (fnR p), Eqn.nat n n, Eqn.get n (us 0) (us1 0), Eqn.nat M0 M0, Eqn.get M0 (us 1) (us1 1), Eqn.nat n n, Eqn.get n (us 2) (us1 2), Eqn.nat M1 M1, Eqn.get M1 (us 3) (us1 3), Eqn.nat n n, Eqn.get n (A.upd (us 4) (A.toN j) 0 [Sh.i IntKind.i64 (Int.negSucc 8), Sh.i IntKind.i64 (Int.ofNat 0)]) (us1 4), Eqn.nat M2 M2, Eqn.get M2 (us 5) (us1 5), Eqn.sh (Sh.sl 0 0 fun (x : Nat) => []) (Sh.sl 0 0 fun (x : Nat) => []), Eqn.sh (Sh.sl 0 0 fun (x : Nat) => []) (Sh.sl 0 0 fun (x : Nat) => []), Eqn.int k k, Eqn.int a a, Eqn.int i i]))) (Tree.leaf (Fe2.at_ 1 [Eqn.int (Int.ofNat 0) (Int.ofNat 0), Eqn.sh (Sh.sl 2 n (fnR o)) (Sh.sl 2 n (fnR o)), Eqn.sh (Sh.sl 8 m (fnR p)) (Sh.sl 8 m (fnR p)), Eqn.nat n n, Eqn.get n (fnR o) (fnR o), Eqn.nat m m, Eqn.get m (fnR p) (fnR p), Eqn.nat n n, Eqn.get n (us 0) (us1 0), Eqn.nat M0 M0, Eqn.get M0 (us 1) (us1 1), Eqn.nat n n, Eqn.get n (us 2) (us1 2), Eqn.nat M1 M1, Eqn.get M1 (us 3) (us1 3), Eqn.nat n n, Eqn.get n (us 4) (us1 4), Eqn.nat M2 M2, Eqn.get M2 (us 5) (us1 5), Eqn.sh (Sh.sl 0 0 fun (x : Nat) => []) (Sh.sl 0 0 fun (x : Nat) => []), Eqn.sh (Sh.sl 0 0 fun (x : Nat) => []) (Sh.sl 0 0 fun (x : Nat) => []), Eqn.int k k, Eqn.int a a, Eqn.int i i])) := by kernel_rfl
theorem c2e2 (A : Prim) (W : Wd) (L : Lb5) (n m M0 M1 M2 N3 : Nat) (o : Nat → Oj) (p : Nat → Ev) (k a i : Int) (us us1 : Nat → Nat → List Sh) (j j1 : Int) : runU (C5 A W (spec5 L) stopAll) noHold 300 800 30 tbS2 (S5 n m M0 M1 o p us (e5 n M2 us) r5er [.gs 10, .gs 11] 3 j) (f52 k a i) [⟨30, tdS2, (S5 n m M0 M1 o p us1 (e5 n M2 us1) r5er [.gs 10, .gs 11] 3 j1), f52 k a i⟩, ⟨30, tdS1, (S5 n m M0 M1 o p us1 [] [] nS 2 0), f53 k a i⟩] = Tree.node (A.lt j (A.ofN M2)) (Tree.need (A.inB j M2) (Tree.leaf (Fe2.at_ 0 [Eqn.int (A.add IntKind.i64 j (Int.ofNat 1)) j1, Eqn.sh (Sh.sl 2 n (fnR o)) (Sh.sl 2 n (fnR o)), Eqn.sh (Sh.sl 8 m (fnR p)) (Sh.sl 8 m (fnR p)), Eqn.nat n n, Eqn.get n (fnR o) (fnR o), Eqn.nat m m, Eqn.get m (fnR p) (fnR p), Eqn.nat n n, Eqn.get n (us 0) (us1 0), Eqn.nat M0 M0, Eqn.get M0 (us 1) (us1 1), Eqn.nat n n, Eqn.get n (us 2) (us1 2), Eqn.nat M1 M1, Eqn.get M1 (us 3) (us1 3), Eqn.nat n n, Eqn.get n (us 4) (us1 4), Eqn.nat M2 M2, Eqn.get M2 (A.upd (us 5) (A.toN j) 0 [Sh.i IntKind.i64 (Int.negSucc 8), Sh.i IntKind.i64 (Int.ofNat 0), Sh.i IntKind.i64 (Int.ofNat 0), Sh.i IntKind.i64 (Int.ofNat 0), Sh.i IntKind.i64 (Int.ofNat 0), Sh.i IntKind.i64 (Int.ofNat 0), Sh.i IntKind.i64 (Int.ofNat 0), Sh.i IntKind.i64 (Int.ofNat 0)]) (us1 5), Eqn.sh (Sh.sl 0 0 fun (x : Nat) => []) (Sh.sl 0 0 fun (x : Nat) => []), Eqn.sh (Sh.sl 0 0 fun (x : Nat) => []) (Sh.sl 0 0 fun (x : Nat) => []), Eqn.int k k, Eqn.int a a, Eqn.int i i]))) (Tree.leaf (Fe2.at_ 1 [Eqn.int (Int.ofNat 0) (Int.ofNat 0), Eqn.sh (Sh.sl 2 n (fnR o)) (Sh.sl 2 n (fnR o)), Eqn.sh (Sh.sl 8 m (fnR p)) (Sh.sl 8 m (fnR p)), Eqn.nat n n, Eqn.get n (fnR o) (fnR o), Eqn.nat m m, Eqn.get m (fnR p) (fnR p), Eqn.nat n n, Eqn.get n (us 0) (us1 0), Eqn.nat M0 M0, Eqn.get M0 (us 1) (us1 1), Eqn.nat n n, Eqn.get n (us 2) (us1 2), Eqn.nat M1 M1, Eqn.get M1 (us 3) (us1 3), Eqn.sh (Sh.sl 0 0 fun (x : Nat) => []) (Sh.sl 0 0 fun (x : Nat) => []), Eqn.sh (Sh.sl 0 0 fun (x : Nat) => []) (Sh.sl 0 0 fun (x : Nat) => []), Eqn.int k k, Eqn.int a a, Eqn.int i i])) := by kernel_rfl
theorem c3o1 (A : Prim) (W : Wd) (L : Lb5) (n m M0 M1 M2 N3 : Nat) (o : Nat → Oj) (p : Nat → Ev) (k a i : Int) (us us1 : Nat → Nat → List Sh) (j j1 : Int) : runU (C5 A W (spec5 L) stopAll) noHold 300 800 30 tbS1 (S5 n m M0 M1 o p us [] (r5k m N3 us) [.gs 13, .gs 14] 2 j) (f53 k a i) [⟨30, tdS1, (S5 n m M0 M1 o p us1 [] (r5k m N3 us1) [.gs 13, .gs 14] 2 j1), f53 k a i⟩, ⟨30, tdS2, (S5 n m M0 M1 o p us1 [] (r5k m N3 us1) [.gs 13, .gs 14] 3 0), f53 k a i⟩] = Tree.node (A.lt j (A.ofN N3)) (Tree.need (A.inB j N3) (Tree.leaf (Fe2.at_ 0 [Eqn.int (A.add IntKind.i64 j (Int.ofNat 1)) j1, Eqn.sh (Sh.sl 2 n (fnR o)) (Sh.sl 2 n (fnR o)), Eqn.sh (Sh.sl 8 m (fnR p)) (Sh.sl 8 m (fnR p)), Eqn.nat n n, Eqn.get n (fnR o) (fnR o), Eqn.nat m m, Eqn.get m (fnR p) (fnR p), Eqn.nat n n, Eqn.get n (us 0) (us1 0), Eqn.nat M0 M0, Eqn.get M0 (us 1) (us1 1), Eqn.nat n n, Eqn.get n (us 2) (us1 2), Eqn.nat M1 M1, Eqn.get M1 (us 3) (us1 3), Eqn.nat N3 N3, Eqn.get N3 (A.upd (us 6) (A.toN j) 0 [Sh.i IntKind.i64 (Int.negSucc 8), Sh.i IntKind.i64 (Int.ofNat 0)]) (us1 6), Eqn.nat m m, Eqn.get m (us 7) (us1 7), Eqn.int k k, Eqn.int a a, Eqn.int i i]))) (Tree.leaf (Fe2.at_ 1 [Eqn.int (Int.ofNat 0) (Int.ofNat 0), Eqn.sh (Sh.sl 2 n (fnR o)) (Sh.sl 2 n (fnR o)), Eqn.sh (Sh.sl 8 m (fnR p)) (Sh.sl 8 m (fnR p)), Eqn.nat n n, Eqn.get n (fnR o) (fnR o), Eqn.nat m m, Eqn.get m (fnR p) (fnR p), Eqn.nat n n, Eqn.get n (us 0) (us1 0), Eqn.nat M0 M0, Eqn.get M0 (us 1) (us1 1), Eqn.nat n n, Eqn.get n (us 2) (us1 2), Eqn.nat M1 M1, Eqn.get M1 (us 3) (us1 3), Eqn.nat N3 N3, Eqn.get N3 (us 6) (us1 6), Eqn.nat m m, Eqn.get m (us 7) (us1 7), Eqn.int k k, Eqn.int a a, Eqn.int i i])) := by kernel_rfl
theorem c3o2 (A : Prim) (W : Wd) (L : Lb5) (n m M0 M1 M2 N3 : Nat) (o : Nat → Oj) (p : Nat → Ev) (k a i : Int) (us us1 : Nat → Nat → List Sh) (j j1 : Int) : runU (C5 A W (spec5 L) stopAll) noHold 300 800 30 tbS2 (S5 n m M0 M1 o p us [] (r5k m N3 us) [.gs 13, .gs 14] 3 j) (f53 k a i) [⟨30, tdS2, (S5 n m M0 M1 o p us1 [] (r5k m N3 us1) [.gs 13, .gs 14] 3 j1), f53 k a i⟩, ⟨5, td5, L5r n m o p k a j1, []⟩] = Tree.node (A.lt j (A.ofN m)) (Tree.need (A.inB j m) (Tree.leaf (Fe2.at_ 0 [Eqn.int (A.add IntKind.i64 j (Int.ofNat 1)) j1, Eqn.sh (Sh.sl 2 n (fnR o)) (Sh.sl 2 n (fnR o)), Eqn.sh (Sh.sl 8 m (fnR p)) (Sh.sl 8 m (fnR p)), Eqn.nat n n, Eqn.get n (fnR o) (fnR o), Eqn.nat m m, Eqn.get m (fnR p) (fnR p), Eqn.nat n n, Eqn.get n (us 0) (us1 0), Eqn.nat M0 M0, Eqn.get M0 (us 1) (us1 1), Eqn.nat n n, Eqn.get n (us 2) (us1 2), Eqn.nat M1 M1, Eqn.get M1 (us 3) (us1 3), Eqn.nat N3 N3, Eqn.get N3 (us 6) (us1 6), Eqn.nat m m, Eqn.get m (A.upd (us 7) (A.toN j) 0 [Sh.i IntKind.i64 (Int.negSucc 8), Sh.i IntKind.i64 (Int.ofNat 0), Sh.i IntKind.i64 (Int.ofNat 0), Sh.i IntKind.i64 (Int.ofNat 0), Sh.i IntKind.i64 (Int.ofNat 0), Sh.i IntKind.i64 (Int.ofNat 0), Sh.i IntKind.i64 (Int.ofNat 0), Sh.i IntKind.i64 (Int.ofNat 0)]) (us1 7), Eqn.int k k, Eqn.int a a, Eqn.int i i]))) (Tree.need (A.room (A.addN M0 1) 64) (Tree.need (A.room (A.addN n 1) 16) (Tree.node (A.eq (A.ofN (A.addN M0 1)) (Int.ofNat 0)) (Tree.leaf (Fe2.ret (Sh.b false))) (Tree.node (A.eq (A.ofN (A.addN n 1)) (Int.ofNat 0)) (Tree.leaf (Fe2.ret (Sh.b false))) (Tree.leaf (Fe2.at_ 1 [Eqn.int k k, Eqn.int a a, Eqn.int (A.add IntKind.i64 i (Int.ofNat 1)) j1, Eqn.sh (Sh.sl 2 n (fnR o)) (Sh.sl 2 n (fnR o)), Eqn.sh (Sh.sl 8 m (fnR p)) (Sh.sl 8 m (fnR p)), Eqn.nat n n, Eqn.get n (fnR o) (fnR o), Eqn.nat m m, Eqn.get m (fnR p) (fnR p)])))))) := by kernel_rfl
theorem c3e1 (A : Prim) (W : Wd) (L : Lb5) (n m M0 M1 M2 N3 : Nat) (o : Nat → Oj) (p : Nat → Ev) (k a i : Int) (us us1 : Nat → Nat → List Sh) (j j1 : Int) : runU (C5 A W (spec5 L) stopAll) noHold 300 800 30 tbS1 (S5 n m M0 M1 o p us [] [] nS 2 j) (f53 k a i) [⟨30, tdS1, (S5 n m M0 M1 o p us1 [] [] nS 2 j1), f53 k a i⟩, ⟨30, tdS2, (S5 n m M0 M1 o p us1 [] [] nS 3 0), f53 k a i⟩] = Tree.node (A.lt j (A.ofN 0)) Tree.fail (Tree.leaf (Fe2.at_ 1 [Eqn.int (Int.ofNat 0) (Int.ofNat 0), Eqn.sh (Sh.sl 2 n (fnR o)) (Sh.sl 2 n (fnR o)), Eqn.sh (Sh.sl 8 m (fnR p)) (Sh.sl 8 m (fnR p)), Eqn.nat n n, Eqn.get n (fnR o) (fnR o), Eqn.nat m m, Eqn.get m (fnR p) (fnR p), Eqn.nat n n, Eqn.get n (us 0) (us1 0), Eqn.nat M0 M0, Eqn.get M0 (us 1) (us1 1), Eqn.nat n n, Eqn.get n (us 2) (us1 2), Eqn.nat M1 M1, Eqn.get M1 (us 3) (us1 3), Eqn.sh (Sh.sl 0 0 fun (x : Nat) => []) (Sh.sl 0 0 fun (x : Nat) => []), Eqn.sh (Sh.sl 0 0 fun (x : Nat) => []) (Sh.sl 0 0 fun (x : Nat) => []), Eqn.int k k, Eqn.int a a, Eqn.int i i])) := by kernel_rfl
theorem c3e2 (A : Prim) (W : Wd) (L : Lb5) (n m M0 M1 M2 N3 : Nat) (o : Nat → Oj) (p : Nat → Ev) (k a i : Int) (us us1 : Nat → Nat → List Sh) (j j1 : Int) : runU (C5 A W (spec5 L) stopAll) noHold 300 800 30 tbS2 (S5 n m M0 M1 o p us [] [] nS 3 j) (f53 k a i) [⟨30, tdS2, (S5 n m M0 M1 o p us1 [] [] nS 3 j1), f53 k a i⟩, ⟨5, td5, L5r n m o p k a j1, []⟩] = Tree.node (A.lt j (A.ofN 0)) Tree.fail (Tree.need (A.room (A.addN M0 1) 64) (Tree.need (A.room (A.addN n 1) 16) (Tree.node (A.eq (A.ofN (A.addN M0 1)) (Int.ofNat 0)) (Tree.leaf (Fe2.ret (Sh.b false))) (Tree.node (A.eq (A.ofN (A.addN n 1)) (Int.ofNat 0)) (Tree.leaf (Fe2.ret (Sh.b false))) (Tree.leaf (Fe2.at_ 1 [Eqn.int k k, Eqn.int a a, Eqn.int (A.add IntKind.i64 i (Int.ofNat 1)) j1, Eqn.sh (Sh.sl 2 n (fnR o)) (Sh.sl 2 n (fnR o)), Eqn.sh (Sh.sl 8 m (fnR p)) (Sh.sl 8 m (fnR p)), Eqn.nat n n, Eqn.get n (fnR o) (fnR o), Eqn.nat m m, Eqn.get m (fnR p) (fnR p)])))))) := by kernel_rfl
end Go.Proofs
namespace Go.Proofs
open Go Go.Sx Go.Pl
theorem O29g : FnOK Tryd.prog (gls5 W5) 29 (G29 L5) := O29
theorem O5s : ∀ g F, spec5 L5 g = some F → FnOK Tryd.prog (gls5 W5) g F := fun g F h => by
  unfold spec5 at h
  split at h
  · cases h; exact O8
  · cases h; exact O9p
  · cases h; exact O12g
  · cases h; exact O13g
  · cases h; exact O14
  · cases h; exact O15g
  · cases h; exact O17g
  · cases h; exact O27
  · cases h; exact O29g
  · cases h
theorem fok5 (stop : Nat → List Nat → Bool) : FnsOK Tryd.prog (C5 prim W5 (spec5 L5) stop) := C5.fok O5s fun g h => by
  unfold spec5 at h
  split at h
  all_goals first | (cases h; done) | kernel_rfl
def upU (us : Nat → Nat → List Sh) (x : Nat) (g : Nat → List Sh) : Nat → Nat → List Sh := fun t => bif Nat.beq t x then g else us t
section
variable {H0 : Mem} {w0 : World} {n m M0 M1 M2 N3 : Nat} {o : Nat → Oj} {p : Nat → Ev} {k a i : Int} {φ : Sh → Prop}
theorem sp0o1 (hb : n ≤ 100000) (hnext : ∀ us, GoesS Tryd.prog (C5 prim W5 (spec5 L5) stopAll) (K0 H0 w0) 30 tdS2 (S5 n m M0 M1 o p us (e5b n M2 us) (r5ok m N3 us) [.gs 4, .gs 5] 3 0) (f50 k a i) emp φ) : ∀ r (j : Nat) us, j + r = n → GoesS Tryd.prog (C5 prim W5 (spec5 L5) stopAll) (K0 H0 w0) 30 tdS1 (S5 n m M0 M1 o p us (e5b n M2 us) (r5ok m N3 us) [.gs 4, .gs 5] 2 (j : Int)) (f50 k a i) emp φ
  | r, j, us, hj => by
    refine goesS_into (fn := Tryd.f30) (tb := tbS1) (by kernel_rfl) (by kernel_rfl) ?_
    by_cases hlt : j < n
    · match r, hj with
      | 0, hj => omega
      | r + 1, hj =>
      have hw : IntKind.i64.wrap ((j : Int) + 1) = ((j + 1 : Nat) : Int) := by rw [wrap_id (by omega) (by omega)]; rfl
      have rec_ := sp0o1 hb hnext r (j + 1) (upU us 0 (prim.upd (us 0) (prim.toN (j : Int)) 0 [.i .i64 (Int.negSucc 8), .i .i64 (Int.ofNat 0)])) (by omega)
      refine goesS_runUM (C5.ok _ _) (fok5 _) (hold := noHold) (m := 300) (n := 800) (ts := [⟨30, tdS1, (S5 n m M0 M1 o p (upU us 0 (prim.upd (us 0) (prim.toN (j : Int)) 0 [.i .i64 (Int.negSucc 8), .i .i64 (Int.ofNat 0)])) (e5b n M2 (upU us 0 (prim.upd (us 0) (prim.toN (j : Int)) 0 [.i .i64 (Int.negSucc 8), .i .i64 (Int.ofNat 0)]))) (r5ok m N3 (upU us 0 (prim.upd (us 0) (prim.toN (j : Int)) 0 [.i .i64 (Int.negSucc 8), .i .i64 (Int.ofNat 0)]))) [.gs 4, .gs 5] 2 ((j + 1 : Nat) : Int)), f50 k a i⟩, ⟨30, tdS2, (S5 n m M0 M1 o p (upU us 0 (prim.upd (us 0) (prim.toN (j : Int)) 0 [.i .i64 (Int.negSucc 8), .i .i64 (Int.ofNat 0)])) (e5b n M2 (upU us 0 (prim.upd (us 0) (prim.toN (j : Int)) 0 [.i .i64 (Int.negSucc 8), .i .i64 (Int.ofNat 0)]))) (r5ok m N3 (upU us 0 (prim.upd (us 0) (prim.toN (j : Int)) 0 [.i .i64 (Int.negSucc 8), .i .i64 (Int.ofNat 0)]))) [.gs 4, .gs 5] 3 0), f50 k a i⟩]) ?_
      rw [c0o1 prim W5 L5 n m M0 M1 M2 N3 o p k a i us (upU us 0 (prim.upd (us 0) (prim.toN (j : Int)) 0 [.i .i64 (Int.negSucc 8), .i .i64 (Int.ofNat 0)])) (j : Int) ((j + 1 : Nat) : Int), meetsE_eq]
      refine ⟨fun _ => ⟨by simp [prim_inB]; omega, by repeat' (first | exact trivial | exact rfl | exact hw | exact fun _ _ => rfl | refine And.intro ?_ ?_), _, rfl, rec_⟩, fun h => ?_⟩
      simp [prim_lt, prim_ofN] at h; omega
    · refine goesS_runUM (C5.ok _ _) (fok5 _) (hold := noHold) (m := 300) (n := 800) (ts := [⟨30, tdS1, (S5 n m M0 M1 o p us (e5b n M2 us) (r5ok m N3 us) [.gs 4, .gs 5] 2 0), f50 k a i⟩, ⟨30, tdS2, (S5 n m M0 M1 o p us (e5b n M2 us) (r5ok m N3 us) [.gs 4, .gs 5] 3 0), f50 k a i⟩]) ?_
      rw [c0o1 prim W5 L5 n m M0 M1 M2 N3 o p k a i us us (j : Int) 0, meetsE_eq]
      refine ⟨fun h => ?_, fun _ => ?_⟩
      · simp [prim_lt, prim_ofN] at h; omega
      · exact ⟨by repeat' (first | exact trivial | exact rfl | exact fun _ _ => rfl | refine And.intro ?_ ?_), _, rfl, (hnext us)⟩
theorem sp0o2 (hb : M0 ≤ 100000) (hnext : ∀ us, GoesS Tryd.prog (C5 prim W5 (spec5 L5) stopAll) (K0 H0 w0) 30 tdS1 (S5 n m M0 M1 o p us (e5b n M2 us) (r5ok m N3 us) [.gs 7, .gs 8] 2 0) (f51 k a i) emp φ) : ∀ r (j : Nat) us, j + r = M0 → GoesS Tryd.prog (C5 prim W5 (spec5 L5) stopAll) (K0 H0 w0) 30 tdS2 (S5 n m M0 M1 o p us (e5b n M2 us) (r5ok m N3 us) [.gs 4, .gs 5] 3 (j : Int)) (f50 k a i) emp φ
  | r, j, us, hj => by
    refine goesS_into (fn := Tryd.f30) (tb := tbS2) (by kernel_rfl) (by kernel_rfl) ?_
    by_cases hlt : j < M0
    · match r, hj with
      | 0, hj => omega
      | r + 1, hj =>
      have hw : IntKind.i64.wrap ((j : Int) + 1) = ((j + 1 : Nat) : Int) := by rw [wrap_id (by omega) (by omega)]; rfl
      have rec_ := sp0o2 hb hnext r (j + 1) (upU us 1 (prim.upd (us 1) (prim.toN (j : Int)) 0 [.i .i64 (Int.negSucc 8), .i .i64 (Int.ofNat 0), .i .i64 (Int.ofNat 0), .i .i64 (Int.ofNat 0), .i .i64 (Int.ofNat 0), .i .i64 (Int.ofNat 0), .i .i64 (Int.ofNat 0), .i .i64 (Int.ofNat 0)])) (by omega)
      refine goesS_runUM (C5.ok _ _) (fok5 _) (hold := noHold) (m := 300) (n := 800) (ts := [⟨30, tdS2, (S5 n m M0 M1 o p (upU us 1 (prim.upd (us 1) (prim.toN (j : Int)) 0 [.i .i64 (Int.negSucc 8), .i .i64 (Int.ofNat 0), .i .i64 (Int.ofNat 0), .i .i64 (Int.ofNat 0), .i .i64 (Int.ofNat 0), .i .i64 (Int.ofNat 0), .i .i64 (Int.ofNat 0), .i .i64 (Int.ofNat 0)])) (e5b n M2 (upU us 1 (prim.upd (us 1) (prim.toN (j : Int)) 0 [.i .i64 (Int.negSucc 8), .i .i64 (Int.ofNat 0), .i .i64 (Int.ofNat 0), .i .i64 (Int.ofNat 0), .i .i64 (Int.ofNat 0), .i .i64 (Int.ofNat 0), .i .i64 (Int.ofNat 0), .i .i64 (Int.ofNat 0)]))) (r5ok m N3 (upU us 1 (prim.upd (us 1) (prim.toN (j : Int)) 0 [.i .i64 (Int.negSucc 8), .i .i64 (Int.ofNat 0), .i .i64 (Int.ofNat 0), .i .i64 (Int.ofNat 0), .i .i64 (Int.ofNat 0), .i .i64 (Int.ofNat 0), .i .i64 (Int.ofNat 0), .i .i64 (Int.ofNat 0)]))) [.gs 4, .gs 5] 3 ((j + 1 : Nat) : Int)), f50 k a i⟩, ⟨30, tdS1, (S5 n m M0 M1 o p (upU us 1 (prim.upd (us 1) (prim.toN (j : Int)) 0 [.i .i64 (Int.negSucc 8), .i .i64 (Int.ofNat 0), .i .i64 (Int.ofNat 0), .i .i64 (Int.ofNat 0), .i .i64 (Int.ofNat 0), .i .i64 (Int.ofNat 0), .i .i64 (Int.ofNat 0), .i .i64 (Int.ofNat 0)])) (e5b n M2 (upU us 1 (prim.upd (us 1) (prim.toN (j : Int)) 0 [.i .i64 (Int.negSucc 8), .i .i64 (Int.ofNat 0), .i .i64 (Int.ofNat 0), .i .i64 (Int.ofNat 0), .i .i64 (Int.ofNat 0), .i .i64 (Int.ofNat 0), .i .i64 (Int.ofNat 0), .i .i64 (Int.ofNat 0)]))) (r5ok m N3 (upU us 1 (prim.upd (us 1) (prim.toN (j : Int)) 0 [.i .i64 (Int.negSucc 8), .i .i64 (Int.ofNat 0), .i .i64 (Int.ofNat 0), .i .i64 (Int.ofNat 0), .i .i64 (Int.ofNat 0), .i .i64 (Int.ofNat 0), .i .i64 (Int.ofNat 0), .i .i64 (Int.ofNat 0)]))) [.gs 7, .gs 8] 2 0), f51 k a i⟩]) ?_
      rw [c0o2 prim W5 L5 n m M0 M1 M2 N3 o p k a i us (upU us 1 (prim.upd (us 1) (prim.toN (j : Int)) 0 [.i .i64 (Int.negSucc 8), .i .i64 (Int.ofNat 0), .i .i64 (Int.ofNat 0), .i .i64 (Int.ofNat 0), .i .i64 (Int.ofNat 0), .i .i64 (Int.ofNat 0), .i .i64 (Int.ofNat 0), .i .i64 (Int.ofNat 0)])) (j : Int) ((j + 1 : Nat) : Int), meetsE_eq]
      refine ⟨fun _ => ⟨by simp [prim_inB]; omega, by repeat' (first | exact trivial | exact rfl | exact hw | exact fun _ _ => rfl | refine And.intro ?_ ?_), _, rfl, rec_⟩, fun h => ?_⟩
      simp [prim_lt, prim_ofN] at h; omega
    · refine goesS_runUM (C5.ok _ _) (fok5 _) (hold := noHold) (m := 300) (n := 800) (ts := [⟨30, tdS2, (S5 n m M0 M1 o p us (e5b n M2 us) (r5ok m N3 us) [.gs 4, .gs 5] 3 0), f50 k a i⟩, ⟨30, tdS1, (S5 n m M0 M1 o p us (e5b n M2 us) (r5ok m N3 us) [.gs 7, .gs 8] 2 0), f51 k a i⟩]) ?_
      rw [c0o2 prim W5 L5 n m M0 M1 M2 N3 o p k a i us us (j : Int) 0, meetsE_eq]
      refine ⟨fun h => ?_, fun _ => ?_⟩
      · simp [prim_lt, prim_ofN] at h; omega
      · exact ⟨by repeat' (first | exact trivial | exact rfl | exact fun _ _ => rfl | refine And.intro ?_ ?_), _, rfl, (hnext us)⟩
theorem sp0e1 (hb : n ≤ 100000) (hnext : ∀ us, GoesS Tryd.prog (C5 prim W5 (spec5 L5) stopAll) (K0 H0 w0) 30 tdS2 (S5 n m M0 M1 o p us (e5b n M2 us) r5er [.gs 4, .gs 5] 3 0) (f50 k a i) emp φ) : ∀ r (j : Nat) us, j + r = n → GoesS Tryd.prog (C5 prim W5 (spec5 L5) stopAll) (K0 H0 w0) 30 tdS1 (S5 n m M0 M1 o p us (e5b n M2 us) r5er [.gs 4, .gs 5] 2 (j : Int)) (f50 k a i) emp φ
  | r, j, us, hj => by
    refine goesS_into (fn := Tryd.f30) (tb := tbS1) (by kernel_rfl) (by kernel_rfl) ?_
    by_cases hlt : j < n
    · match r, hj with
      | 0, hj => omega
      | r + 1, hj =>
      have hw : IntKind.i64.wrap ((j : Int) + 1) = ((j + 1 : Nat) : Int) := by rw [wrap_id (by omega) (by omega)]; rfl
      have rec_ := sp0e1 hb hnext r (j + 1) (upU us 0 (prim.upd (us 0) (prim.toN (j : Int)) 0 [.i .i64 (Int.negSucc 8), .i .i64 (Int.ofNat 0)])) (by omega)
      refine goesS_runUM (C5.ok _ _) (fok5 _) (hold := noHold) (m := 300) (n := 800) (ts := [⟨30, tdS1, (S5 n m M0 M1 o p (upU us 0 (prim.upd (us 0) (prim.toN (j : Int)) 0 [.i .i64 (Int.negSucc 8), .i .i64 (Int.ofNat 0)])) (e5b n M2 (upU us 0 (prim.upd (us 0) (prim.toN (j : Int)) 0 [.i .i64 (Int.negSucc 8), .i .i64 (Int.ofNat 0)]))) r5er [.gs 4, .gs 5] 2 ((j + 1 : Nat) : Int)), f50 k a i⟩, ⟨30, tdS2, (S5 n m M0 M1 o p (upU us 0 (prim.upd (us 0) (prim.toN (j : Int)) 0 [.i .i64 (Int.negSucc 8), .i .i64 (Int.ofNat 0)])) (e5b n M2 (upU us 0 (prim.upd (us 0) (prim.toN (j : Int)) 0 [.i .i64 (Int.negSucc 8), .i .i64 (Int.ofNat 0)]))) r5er [.gs 4, .gs 5] 3 0), f50 k a i⟩]) ?_
      rw [c0e1 prim W5 L5 n m M0 M1 M2 0 o p k a i us (upU us 0 (prim.upd (us 0) (prim.toN (j : Int)) 0 [.i .i64 (Int.negSucc 8), .i .i64 (Int.ofNat 0)])) (j : Int) ((j + 1 : Nat) : Int), meetsE_eq]
      refine ⟨fun _ => ⟨by simp [prim_inB]; omega, by repeat' (first | exact trivial | exact rfl | exact hw | exact fun _ _ => rfl | refine And.intro ?_ ?_), _, rfl, rec_⟩, fun h => ?_⟩
      simp [prim_lt, prim_ofN] at h; omega
    · refine goesS_runUM (C5.ok _ _) (fok5 _) (hold := noHold) (m := 300) (n := 800) (ts := [⟨30, tdS1, (S5 n m M0 M1 o p us (e5b n M2 us) r5er [.gs 4, .gs 5] 2 0), f50 k a i⟩, ⟨30, tdS2, (S5 n m M0 M1 o p us (e5b n M2 us) r5er [.gs 4, .gs 5] 3 0), f50 k a i⟩]) ?_
      rw [c0e1 prim W5 L5 n m M0 M1 M2 0 o p k a i us us (j : Int) 0, meetsE_eq]
      refine ⟨fun h => ?_, fun _ => ?_⟩
      · simp [prim_lt, prim_ofN] at h; omega
      · exact ⟨by repeat' (first | exact trivial | exact rfl | exact fun _ _ => rfl | refine And.intro ?_ ?_), _, rfl, (hnext us)⟩
theorem sp0e2 (hb : M0 ≤ 100000) (hnext : ∀ us, GoesS Tryd.prog (C5 prim W5 (spec5 L5) stopAll) (K0 H0 w0) 30 tdS1 (S5 n m M0 M1 o p us (e5b n M2 us) r5er [.gs 7, .gs 8] 2 0) (f51 k a i) emp φ) : ∀ r (j : Nat) us, j + r = M0 → GoesS Tryd.prog (C5 prim W5 (spec5 L5) stopAll) (K0 H0 w0) 30 tdS2 (S5 n m M0 M1 o p us (e5b n M2 us) r5er [.gs 4, .gs 5] 3 (j : Int)) (f50 k a i) emp φ
  | r, j, us, hj => by
    refine goesS_into (fn := Tryd.f30) (tb := tbS2) (by kernel_rfl) (by kernel_rfl) ?_
    by_cases hlt : j < M0
    · match r, hj with
      | 0, hj => omega
      | r + 1, hj =>
      have hw : IntKind.i64.wrap ((j : Int) + 1) = ((j + 1 : Nat) : Int) := by rw [wrap_id (by omega) (by omega)]; rfl
      have rec_ := sp0e2 hb hnext r (j + 1) (upU us 1 (prim.upd (us 1) (prim.toN (j : Int)) 0 [.i .i64 (Int.negSucc 8), .i .i64 (Int.ofNat 0), .i .i64 (Int.ofNat 0), .i .i64 (Int.ofNat 0), .i .i64 (Int.ofNat 0), .i .i64 (Int.ofNat 0), .i .i64 (Int.ofNat 0), .i .i64 (Int.ofNat 0)])) (by omega)
      refine goesS_runUM (C5.ok _ _) (fok5 _) (hold := noHold) (m := 300) (n := 800) (ts := [⟨30, tdS2, (S5 n m M0 M1 o p (upU us 1 (prim.upd (us 1) (prim.toN (j : Int)) 0 [.i .i64 (Int.negSucc 8), .i .i64 (Int.ofNat 0), .i .i64 (Int.ofNat 0), .i .i64 (Int.ofNat 0), .i .i64 (Int.ofNat 0), .i .i64 (Int.ofNat 0), .i .i64 (Int.ofNat 0), .i .i64 (Int.ofNat 0)])) (e5b n M2 (upU us 1 (prim.upd (us 1) (prim.toN (j : Int)) 0 [.i .i64 (Int.negSucc 8), .i .i64 (Int.ofNat 0), .i .i64 (Int.ofNat 0), .i .i64 (Int.ofNat 0), .i .i64 (Int.ofNat 0), .i .i64 (Int.ofNat 0), .i .i64 (Int.ofNat 0), .i .i64 (Int.ofNat 0)]))) r5er [.gs 4, .gs 5] 3 ((j + 1 : Nat) : Int)), f50 k a i⟩, ⟨30, tdS1, (S5 n m M0 M1 o p (upU us 1 (prim.upd (us 1) (prim.toN (j : Int)) 0 [.i .i64 (Int.negSucc 8), .i .i64 (Int.ofNat 0), .i .i64 (Int.ofNat 0), .i .i64 (Int.ofNat 0), .i .i64 (Int.ofNat 0), .i .i64 (Int.ofNat 0), .i .i64 (Int.ofNat 0), .i .i64 (Int.ofNat 0)])) (e5b n M2 (upU us 1 (prim.upd (us 1) (prim.toN (j : Int)) 0 [.i .i64 (Int.negSucc 8), .i .i64 (Int.ofNat 0), .i .i64 (Int.ofNat 0), .i .i64 (Int.ofNat 0), .i .i64 (Int.ofNat 0), .i .i64 (Int.ofNat 0), .i .i64 (Int.ofNat 0), .i .i64 (Int.ofNat 0)]))) r5er [.gs 7, .gs 8] 2 0), f51 k a i⟩]) ?_
      rw [c0e2 prim W5 L5 n m M0 M1 M2 0 o p k a i us (upU us 1 (prim.upd (us 1) (prim.toN (j : Int)) 0 [.i .i64 (Int.negSucc 8), .i .i64 (Int.ofNat 0), .i .i64 (Int.ofNat 0), .i .i64 (Int.ofNat 0), .i .i64 (Int.ofNat 0), .i .i64 (Int.ofNat 0), .i .i64 (Int.ofNat 0), .i .i64 (Int.ofNat 0)])) (j : Int) ((j + 1 : Nat) : Int), meetsE_eq]
      refine ⟨fun _ => ⟨by simp [prim_inB]; omega, by repeat' (first | exact trivial | exact rfl | exact hw | exact fun _ _ => rfl | refine And.intro ?_ ?_), _, rfl, rec_⟩, fun h => ?_⟩
      simp [prim_lt, prim_ofN] at h; omega
    · refine goesS_runUM (C5.ok _ _) (fok5 _) (hold := noHold) (m := 300) (n := 800) (ts := [⟨30, tdS2, (S5 n m M0 M1 o p us (e5b n M2 us) r5er [.gs 4, .gs 5] 3 0), f50 k a i⟩, ⟨30, tdS1, (S5 n m M0 M1 o p us (e5b n M2 us) r5er [.gs 7, .gs 8] 2 0), f51 k a i⟩]) ?_
      rw [c0e2 prim W5 L5 n m M0 M1 M2 0 o p k a i us us (j : Int) 0, meetsE_eq]
      refine ⟨fun h => ?_, fun _ => ?_⟩
      · simp [prim_lt, prim_ofN] at h; omega
      · exact ⟨by repeat' (first | exact trivial | exact rfl | exact fun _ _ => rfl | refine And.intro ?_ ?_), _, rfl, (hnext us)⟩
theorem sp1o1 (hb : n ≤ 100000) (hnext : ∀ us, GoesS Tryd.prog (C5 prim W5 (spec5 L5) stopAll) (K0 H0 w0) 30 tdS2 (S5 n m M0 M1 o p us (e5b n M2 us) (r5ok m N3 us) [.gs 7, .gs 8] 3 0) (f51 k a i) emp φ) : ∀ r (j : Nat) us, j + r = n → GoesS Tryd.prog (C5 prim W5 (spec5 L5) stopAll) (K0 H0 w0) 30 tdS1 (S5 n m M0 M1 o p us (e5b n M2 us) (r5ok m N3 us) [.gs 7, .gs 8] 2 (j : Int)) (f51 k a i) emp φ
  | r, j, us, hj => by
    refine goesS_into (fn := Tryd.f30) (tb := tbS1) (by kernel_rfl) (by kernel_rfl) ?_
    by_cases hlt : j < n
    · match r, hj with
      | 0, hj => omega
      | r + 1, hj =>
      have hw : IntKind.i64.wrap ((j : Int) + 1) = ((j + 1 : Nat) : Int) := by rw [wrap_id (by omega) (by omega)]; rfl
      have rec_ := sp1o1 hb hnext r (j + 1) (upU us 2 (prim.upd (us 2) (prim.toN (j : Int)) 0 [.i .i64 (Int.negSucc 8), .i .i64 (Int.ofNat 0)])) (by omega)
      refine goesS_runUM (C5.ok _ _) (fok5 _) (hold := noHold) (m := 300) (n := 800) (ts := [⟨30, tdS1, (S5 n m M0 M1 o p (upU us 2 (prim.upd (us 2) (prim.toN (j : Int)) 0 [.i .i64 (Int.negSucc 8), .i .i64 (Int.ofNat 0)])) (e5b n M2 (upU us 2 (prim.upd (us 2) (prim.toN (j : Int)) 0 [.i .i64 (Int.negSucc 8), .i .i64 (Int.ofNat 0)]))) (r5ok m N3 (upU us 2 (prim.upd (us 2) (prim.toN (j : Int)) 0 [.i .i64 (Int.negSucc 8), .i .i64 (Int.ofNat 0)]))) [.gs 7, .gs 8] 2 ((j + 1 : Nat) : Int)), f51 k a i⟩, ⟨30, tdS2, (S5 n m M0 M1 o p (upU us 2 (prim.upd (us 2) (prim.toN (j : Int)) 0 [.i .i64 (Int.negSucc 8), .i .i64 (Int.ofNat 0)])) (e5b n M2 (upU us 2 (prim.upd (us 2) (prim.toN (j : Int)) 0 [.i .i64 (Int.negSucc 8), .i .i64 (Int.ofNat 0)]))) (r5ok m N3 (upU us 2 (prim.upd (us 2) (prim.toN (j : Int)) 0 [.i .i64 (Int.negSucc 8), .i .i64 (Int.ofNat 0)]))) [.gs 7, .gs 8] 3 0), f51 k a i⟩]) ?_
      rw [c1o1 prim W5 L5 n m M0 M1 M2 N3 o p k a i us (upU us 2 (prim.upd (us 2) (prim.toN (j : Int)) 0 [.i .i64 (Int.negSucc 8), .i .i64 (Int.ofNat 0)])) (j : Int) ((j + 1 : Nat) : Int), meetsE_eq]
      refine ⟨fun _ => ⟨by simp [prim_inB]; omega, by repeat' (first | exact trivial | exact rfl | exact hw | exact fun _ _ => rfl | refine And.intro ?_ ?_), _, rfl, rec_⟩, fun h => ?_⟩
      simp [prim_lt, prim_ofN] at h; omega
    · refine goesS_runUM (C5.ok _ _) (fok5 _) (hold := noHold) (m := 300) (n := 800) (ts := [⟨30, tdS1, (S5 n m M0 M1 o p us (e5b n M2 us) (r5ok m N3 us) [.gs 7, .gs 8] 2 0), f51 k a i⟩, ⟨30, tdS2, (S5 n m M0 M1 o p us (e5b n M2 us) (r5ok m N3 us) [.gs 7, .gs 8] 3 0), f51 k a i⟩]) ?_
      rw [c1o1 prim W5 L5 n m M0 M1 M2 N3 o p k a i us us (j : Int) 0, meetsE_eq]
      refine ⟨fun h => ?_, fun _ => ?_⟩
      · simp [prim_lt, prim_ofN] at h; omega
      · exact ⟨by repeat' (first | exact trivial | exact rfl | exact fun _ _ => rfl | refine And.intro ?_ ?_), _, rfl, (hnext us)⟩
theorem sp1o2 (hb : M1 ≤ 100000) (hnext : ∀ us, GoesS Tryd.prog (C5 prim W5 (spec5 L5) stopAll) (K0 H0 w0) 30 tdS1 (S5 n m M0 M1 o p us (e5 n M2 us) (r5ok m N3 us) [.gs 10, .gs 11] 2 0) (f52 k a i) emp φ) : ∀ r (j : Nat) us, j + r = M1 → GoesS Tryd.prog (C5 prim W5 (spec5 L5) stopAll) (K0 H0 w0) 30 tdS2 (S5 n m M0 M1 o p us (e5b n M2 us) (r5ok m N3 us) [.gs 7, .gs 8] 3 (j : Int)) (f51 k a i) emp φ
  | r, j, us, hj => by
    refine goesS_into (fn := Tryd.f30) (tb := tbS2) (by kernel_rfl) (by kernel_rfl) ?_
    by_cases hlt : j < M1
    · match r, hj with
      | 0, hj => omega
      | r + 1, hj =>
      have hw : IntKind.i64.wrap ((j : Int) + 1) = ((j + 1 : Nat) : Int) := by rw [wrap_id (by omega) (by omega)]; rfl
      have rec_ := sp1o2 hb hnext r (j + 1) (upU us 3 (prim.upd (us 3) (prim.toN (j : Int)) 0 [.i .i64 (Int.negSucc 8), .i .i64 (Int.ofNat 0), .i .i64 (Int.ofNat 0), .i .i64 (Int.ofNat 0), .i .i64 (Int.ofNat 0), .i .i64 (Int.ofNat 0), .i .i64 (Int.ofNat 0), .i .i64 (Int.ofNat 0)])) (by omega)
      refine goesS_runUM (C5.ok _ _) (fok5 _) (hold := noHold) (m := 300) (n := 800) (ts := [⟨30, tdS2, (S5 n m M0 M1 o p (upU us 3 (prim.upd (us 3) (prim.toN (j : Int)) 0 [.i .i64 (Int.negSucc 8), .i .i64 (Int.ofNat 0), .i .i64 (Int.ofNat 0), .i .i64 (Int.ofNat 0), .i .i64 (Int.ofNat 0), .i .i64 (Int.ofNat 0), .i .i64 (Int.ofNat 0), .i .i64 (Int.ofNat 0)])) (e5b n M2 (upU us 3 (prim.upd (us 3) (prim.toN (j : Int)) 0 [.i .i64 (Int.negSucc 8), .i .i64 (Int.ofNat 0), .i .i64 (Int.ofNat 0), .i .i64 (Int.ofNat 0), .i .i64 (Int.ofNat 0), .i .i64 (Int.ofNat 0), .i .i64 (Int.ofNat 0), .i .i64 (Int.ofNat 0)]))) (r5ok m N3 (upU us 3 (prim.upd (us 3) (prim.toN (j : Int)) 0 [.i .i64 (Int.negSucc 8), .i .i64 (Int.ofNat 0), .i .i64 (Int.ofNat 0), .i .i64 (Int.ofNat 0), .i .i64 (Int.ofNat 0), .i .i64 (Int.ofNat 0), .i .i64 (Int.ofNat 0), .i .i64 (Int.ofNat 0)]))) [.gs 7, .gs 8] 3 ((j + 1 : Nat) : Int)), f51 k a i⟩, ⟨30, tdS1, (S5 n m M0 M1 o p (upU us 3 (prim.upd (us 3) (prim.toN (j : Int)) 0 [.i .i64 (Int.negSucc 8), .i .i64 (Int.ofNat 0), .i .i64 (Int.ofNat 0), .i .i64 (Int.ofNat 0), .i .i64 (Int.ofNat 0), .i .i64 (Int.ofNat 0), .i .i64 (Int.ofNat 0), .i .i64 (Int.ofNat 0)])) (e5 n M2 (upU us 3 (prim.upd (us 3) (prim.toN (j : Int)) 0 [.i .i64 (Int.negSucc 8), .i .i64 (Int.ofNat 0), .i .i64 (Int.ofNat 0), .i .i64 (Int.ofNat 0), .i .i64 (Int.ofNat 0), .i .i64 (Int.ofNat 0), .i .i64 (Int.ofNat 0), .i .i64 (Int.ofNat 0)]))) (r5ok m N3 (upU us 3 (prim.upd (us 3) (prim.toN (j : Int)) 0 [.i .i64 (Int.negSucc 8), .i .i64 (Int.ofNat 0), .i .i64 (Int.ofNat 0), .i .i64 (Int.ofNat 0), .i .i64 (Int.ofNat 0), .i .i64 (Int.ofNat 0), .i .i64 (Int.ofNat 0), .i .i64 (Int.ofNat 0)]))) [.gs 10, .gs 11] 2 0), f52 k a i⟩]) ?_
      rw [c1o2 prim W5 L5 n m M0 M1 M2 N3 o p k a i us (upU us 3 (prim.upd (us 3) (prim.toN (j : Int)) 0 [.i .i64 (Int.negSucc 8), .i .i64 (Int.ofNat 0), .i .i64 (Int.ofNat 0), .i .i64 (Int.ofNat 0), .i .i64 (Int.ofNat 0), .i .i64 (Int.ofNat 0), .i .i64 (Int.ofNat 0), .i .i64 (Int.ofNat 0)])) (j : Int) ((j + 1 : Nat) : Int), meetsE_eq]
      refine ⟨fun _ => ⟨by simp [prim_inB]; omega, by repeat' (first | exact trivial | exact rfl | exact hw | exact fun _ _ => rfl | refine And.intro ?_ ?_), _, rfl, rec_⟩, fun h => ?_⟩
      simp [prim_lt, prim_ofN] at h; omega
    · refine goesS_runUM (C5.ok _ _) (fok5 _) (hold := noHold) (m := 300) (n := 800) (ts := [⟨30, tdS2, (S5 n m M0 M1 o p us (e5b n M2 us) (r5ok m N3 us) [.gs 7, .gs 8] 3 0), f51 k a i⟩, ⟨30, tdS1, (S5 n m M0 M1 o p us (e5 n M2 us) (r5ok m N3 us) [.gs 10, .gs 11] 2 0), f52 k a i⟩]) ?_
      rw [c1o2 prim W5 L5 n m M0 M1 M2 N3 o p k a i us us (j : Int) 0, meetsE_eq]
      refine ⟨fun h => ?_, fun _ => ?_⟩
      · simp [prim_lt, prim_ofN] at h; omega
      · exact ⟨by repeat' (first | exact trivial | exact rfl | exact fun _ _ => rfl | refine And.intro ?_ ?_), _, rfl, (hnext us)⟩
theorem sp1e1 (hb : n ≤ 100000) (hnext : ∀ us, GoesS Tryd.prog (C5 prim W5 (spec5 L5) stopAll) (K0 H0 w0) 30 tdS2 (S5 n m M0 M1 o p us (e5b n M2 us) r5er [.gs 7, .gs 8] 3 0) (f51 k a i) emp φ) : ∀ r (j : Nat) us, j + r = n → GoesS Tryd.prog (C5 prim W5 (spec5 L5) stopAll) (K0 H0 w0) 30 tdS1 (S5 n m M0 M1 o p us (e5b n M2 us) r5er [.gs 7, .gs 8] 2 (j : Int)) (f51 k a i) emp φ
  | r, j, us, hj => by
    refine goesS_into (fn := Tryd.f30) (tb := tbS1) (by kernel_rfl) (by kernel_rfl) ?_
    by_cases hlt : j < n
    · match r, hj with
      | 0, hj => omega
      | r + 1, hj =>
      have hw : IntKind.i64.wrap ((j : Int) + 1) = ((j + 1 : Nat) : Int) := by rw [wrap_id (by omega) (by omega)]; rfl
      have rec_ := sp1e1 hb hnext r (j + 1) (upU us 2 (prim.upd (us 2) (prim.toN (j : Int)) 0 [.i .i64 (Int.negSucc 8), .i .i64 (Int.ofNat 0)])) (by omega)
      refine goesS_runUM (C5.ok _ _) (fok5 _) (hold := noHold) (m := 300) (n := 800) (ts := [⟨30, tdS1, (S5 n m M0 M1 o p (upU us 2 (prim.upd (us 2) (prim.toN (j : Int)) 0 [.i .i64 (Int.negSucc 8), .i .i64 (Int.ofNat 0)])) (e5b n M2 (upU us 2 (prim.upd (us 2) (prim.toN (j : Int)) 0 [.i .i64 (Int.negSucc 8), .i .i64 (Int.ofNat 0)]))) r5er [.gs 7, .gs 8] 2 ((j + 1 : Nat) : Int)), f51 k a i⟩, ⟨30, tdS2, (S5 n m M0 M1 o p (upU us 2 (prim.upd (us 2) (prim.toN (j : Int)) 0 [.i .i64 (Int.negSucc 8), .i .i64 (Int.ofNat 0)])) (e5b n M2 (upU us 2 (prim.upd (us 2) (prim.toN (j : Int)) 0 [.i .i64 (Int.negSucc 8), .i .i64 (Int.ofNat 0)]))) r5er [.gs 7, .gs 8] 3 0), f51 k a i⟩]) ?_
      rw [c1e1 prim W5 L5 n m M0 M1 M2 0 o p k a i us (upU us 2 (prim.upd (us 2) (prim.toN (j : Int)) 0 [.i .i64 (Int.negSucc 8), .i .i64 (Int.ofNat 0)])) (j : Int) ((j + 1 : Nat) : Int), meetsE_eq]
      refine ⟨fun _ => ⟨by simp [prim_inB]; omega, by repeat' (first | exact trivial | exact rfl | exact hw | exact fun _ _ => rfl | refine And.intro ?_ ?_), _, rfl, rec_⟩, fun h => ?_⟩
      simp [prim_lt, prim_ofN] at h; omega
    · refine goesS_runUM (C5.ok _ _) (fok5 _) (hold := noHold) (m := 300) (n := 800) (ts := [⟨30, tdS1, (S5 n m M0 M1 o p us (e5b n M2 us) r5er [.gs 7, .gs 8] 2 0), f51 k a i⟩, ⟨30, tdS2, (S5 n m M0 M1 o p us (e5b n M2 us) r5er [.gs 7, .gs 8] 3 0), f51 k a i⟩]) ?_
      rw [c1e1 prim W5 L5 n m M0 M1 M2 0 o p k a i us us (j : Int) 0, meetsE_eq]
      refine ⟨fun h => ?_, fun _ => ?_⟩
      · simp [prim_lt, prim_ofN] at h; omega
      · exact ⟨by repeat' (first | exact trivial | exact rfl | exact fun _ _ => rfl | refine And.intro ?_ ?_), _, rfl, (hnext us)⟩
theorem sp1e2 (hb : M1 ≤ 100000) (hnext : ∀ us, GoesS Tryd.prog (C5 prim W5 (spec5 L5) stopAll) (K0 H0 w0) 30 tdS1 (S5 n m M0 M1 o p us (e5 n M2 us) r5er [.gs 10, .gs 11] 2 0) (f52 k a i) emp φ) : ∀ r (j : Nat) us, j + r = M1 → GoesS Tryd.prog (C5 prim W5 (spec5 L5) stopAll) (K0 H0 w0) 30 tdS2 (S5 n m M0 M1 o p us (e5b n M2 us) r5er [.gs 7, .gs 8] 3 (j : Int)) (f51 k a i) emp φ
  | r, j, us, hj => by
    refine goesS_into (fn := Tryd.f30) (tb := tbS2) (by kernel_rfl) (by kernel_rfl) ?_
    by_cases hlt : j < M1
    · match r, hj with
      | 0, hj => omega
      | r + 1, hj =>
      have hw : IntKind.i64.wrap ((j : Int) + 1) = ((j + 1 : Nat) : Int) := by rw [wrap_id (by omega) (by omega)]; rfl
      have rec_ := sp1e2 hb hnext r (j + 1) (upU us 3 (prim.upd (us 3) (prim.toN (j : Int)) 0 [.i .i64 (Int.negSucc 8), .i .i64 (Int.ofNat 0), .i .i64 (Int.ofNat 0), .i .i64 (Int.ofNat 0), .i .i64 (Int.ofNat 0), .i .i64 (Int.ofNat 0), .i .i64 (Int.ofNat 0), .i .i64 (Int.ofNat 0)])) (by omega)
      refine goesS_runUM (C5.ok _ _) (fok5 _) (hold := noHold) (m := 300) (n := 800) (ts := [⟨30, tdS2, (S5 n m M0 M1 o p (upU us 3 (prim.upd (us 3) (prim.toN (j : Int)) 0 [.i .i64 (Int.negSucc 8), .i .i64 (Int.ofNat 0), .i .i64 (Int.ofNat 0), .i .i64 (Int.ofNat 0), .i .i64 (Int.ofNat 0), .i .i64 (Int.ofNat 0), .i .i64 (Int.ofNat 0), .i .i64 (Int.ofNat 0)])) (e5b n M2 (upU us 3 (prim.upd (us 3) (prim.toN (j : Int)) 0 [.i .i64 (Int.negSucc 8), .i .i64 (Int.ofNat 0), .i .i64 (Int.ofNat 0), .i .i64 (Int.ofNat 0), .i .i64 (Int.ofNat 0), .i .i64 (Int.ofNat 0), .i .i64 (Int.ofNat 0), .i .i64 (Int.ofNat 0)]))) r5er [.gs 7, .gs 8] 3 ((j + 1 : Nat) : Int)), f51 k a i⟩, ⟨30, tdS1, (S5 n m M0 M1 o p (upU us 3 (prim.upd (us 3) (prim.toN (j : Int)) 0 [.i .i64 (Int.negSucc 8), .i .i64 (Int.ofNat 0), .i .i64 (Int.ofNat 0), .i .i64 (Int.ofNat 0), .i .i64 (Int.ofNat 0), .i .i64 (Int.ofNat 0), .i .i64 (Int.ofNat 0), .i .i64 (Int.ofNat 0)])) (e5 n M2 (upU us 3 (prim.upd (us 3) (prim.toN (j : Int)) 0 [.i .i64 (Int.negSucc 8), .i .i64 (Int.ofNat 0), .i .i64 (Int.ofNat 0), .i .i64 (Int.ofNat 0), .i .i64 (Int.ofNat 0), .i .i64 (Int.ofNat 0), .i .i64 (Int.ofNat 0), .i .i64 (Int.ofNat 0)]))) r5er [.gs 10, .gs 11] 2 0), f52 k a i⟩]) ?_
      rw [c1e2 prim W5 L5 n m M0 M1 M2 0 o p k a i us (upU us 3 (prim.upd (us 3) (prim.toN (j : Int)) 0 [.i .i64 (Int.negSucc 8), .i .i64 (Int.ofNat 0), .i .i64 (Int.ofNat 0), .i .i64 (Int.ofNat 0), .i .i64 (Int.ofNat 0), .i .i64 (Int.ofNat 0), .i .i64 (Int.ofNat 0), .i .i64 (Int.ofNat 0)])) (j : Int) ((j + 1 : Nat) : Int), meetsE_eq]
      refine ⟨fun _ => ⟨by simp [prim_inB]; omega, by repeat' (first | exact trivial | exact rfl | exact hw | exact fun _ _ => rfl | refine And.intro ?_ ?_), _, rfl, rec_⟩, fun h => ?_⟩
      simp [prim_lt, prim_ofN] at h; omega
    · refine goesS_runUM (C5.ok _ _) (fok5 _) (hold := noHold) (m := 300) (n := 800) (ts := [⟨30, tdS2, (S5 n m M0 M1 o p us (e5b n M2 us) r5er [.gs 7, .gs 8] 3 0), f51 k a i⟩, ⟨30, tdS1, (S5 n m M0 M1 o p us (e5 n M2 us) r5er [.gs 10, .gs 11] 2 0), f52 k a i⟩]) ?_
      rw [c1e2 prim W5 L5 n m M0 M1 M2 0 o p k a i us us (j : Int) 0, meetsE_eq]
      refine ⟨fun h => ?_, fun _ => ?_⟩
      · simp [prim_lt, prim_ofN] at h; omega
      · exact ⟨by repeat' (first | exact trivial | exact rfl | exact fun _ _ => rfl | refine And.intro ?_ ?_), _, rfl, (hnext us)⟩
theorem sp2o1 (hb : n ≤ 100000) (hnext : ∀ us, GoesS Tryd.prog (C5 prim W5 (spec5 L5) stopAll) (K0 H0 w0) 30 tdS2 (S5 n m M0 M1 o p us (e5 n M2 us) (r5ok m N3 us) [.gs 10, .gs 11] 3 0) (f52 k a i) emp φ) : ∀ r (j : Nat) us, j + r = n → GoesS Tryd.prog (C5 prim W5 (spec5 L5) stopAll) (K0 H0 w0) 30 tdS1 (S5 n m M0 M1 o p us (e5 n M2 us) (r5ok m N3 us) [.gs 10, .gs 11] 2 (j : Int)) (f52 k a i) emp φ
  | r, j, us, hj => by
    refine goesS_into (fn := Tryd.f30) (tb := tbS1) (by kernel_rfl) (by kernel_rfl) ?_
    by_cases hlt : j < n
    · match r, hj with
      | 0, hj => omega
      | r + 1, hj =>
      have hw : IntKind.i64.wrap ((j : Int) + 1) = ((j + 1 : Nat) : Int) := by rw [wrap_id (by omega) (by omega)]; rfl
      have rec_ := sp2o1 hb hnext r (j + 1) (upU us 4 (prim.upd (us 4) (prim.toN (j : Int)) 0 [.i .i64 (Int.negSucc 8), .i .i64 (Int.ofNat 0)])) (by omega)
      refine goesS_runUM (C5.ok _ _) (fok5 _) (hold := noHold) (m := 300) (n := 800) (ts := [⟨30, tdS1, (S5 n m M0 M1 o p (upU us 4 (prim.upd (us 4) (prim.toN (j : Int)) 0 [.i .i64 (Int.negSucc 8), .i .i64 (Int.ofNat 0)])) (e5 n M2 (upU us 4 (prim.upd (us 4) (prim.toN (j : Int)) 0 [.i .i64 (Int.negSucc 8), .i .i64 (Int.ofNat 0)]))) (r5ok m N3 (upU us 4 (prim.upd (us 4) (prim.toN (j : Int)) 0 [.i .i64 (Int.negSucc 8), .i .i64 (Int.ofNat 0)]))) [.gs 10, .gs 11] 2 ((j + 1 : Nat) : Int)), f52 k a i⟩, ⟨30, tdS2, (S5 n m M0 M1 o p (upU us 4 (prim.upd (us 4) (prim.toN (j : Int)) 0 [.i .i64 (Int.negSucc 8), .i .i64 (Int.ofNat 0)])) (e5 n M2 (upU us 4 (prim.upd (us 4) (prim.toN (j : Int)) 0 [.i .i64 (Int.negSucc 8), .i .i64 (Int.ofNat 0)]))) (r5ok m N3 (upU us 4 (prim.upd (us 4) (prim.toN (j : Int)) 0 [.i .i64 (Int.negSucc 8), .i .i64 (Int.ofNat 0)]))) [.gs 10, .gs 11] 3 0), f52 k a i⟩]) ?_
      rw [c2o1 prim W5 L5 n m M0 M1 M2 N3 o p k a i us (upU us 4 (prim.upd (us 4) (prim.toN (j : Int)) 0 [.i .i64 (Int.negSucc 8), .i .i64 (Int.ofNat 0)])) (j : Int) ((j + 1 : Nat) : Int), meetsE_eq]
      refine ⟨fun _ => ⟨by simp [prim_inB]; omega, by repeat' (first | exact trivial | exact rfl | exact hw | exact fun _ _ => rfl | refine And.intro ?_ ?_), _, rfl, rec_⟩, fun h => ?_⟩
      simp [prim_lt, prim_ofN] at h; omega
    · refine goesS_runUM (C5.ok _ _) (fok5 _) (hold := noHold) (m := 300) (n := 800) (ts := [⟨30, tdS1, (S5 n m M0 M1 o p us (e5 n M2 us) (r5ok m N3 us) [.gs 10, .gs 11] 2 0), f52 k a i⟩, ⟨30, tdS2, (S5 n m M0 M1 o p us (e5 n M2 us) (r5ok m N3 us) [.gs 10, .gs 11] 3 0), f52 k a i⟩]) ?_
      rw [c2o1 prim W5 L5 n m M0 M1 M2 N3 o p k a i us us (j : Int) 0, meetsE_eq]
      refine ⟨fun h => ?_, fun _ => ?_⟩
      · simp [prim_lt, prim_ofN] at h; omega
      · exact ⟨by repeat' (first | exact trivial | exact rfl | exact fun _ _ => rfl | refine And.intro ?_ ?_), _, rfl, (hnext us)⟩
theorem sp2o2 (hb : M2 ≤ 100000) (hnext : ∀ us, GoesS Tryd.prog (C5 prim W5 (spec5 L5) stopAll) (K0 H0 w0) 30 tdS1 (S5 n m M0 M1 o p us [] (r5k m N3 us) [.gs 13, .gs 14] 2 0) (f53 k a i) emp φ) : ∀ r (j : Nat) us, j + r = M2 → GoesS Tryd.prog (C5 prim W5 (spec5 L5) stopAll) (K0 H0 w0) 30 tdS2 (S5 n m M0 M1 o p us (e5 n M2 us) (r5ok m N3 us) [.gs 10, .gs 11] 3 (j : Int)) (f52 k a i) emp φ
  | r, j, us, hj => by
    refine goesS_into (fn := Tryd.f30) (tb := tbS2) (by kernel_rfl) (by kernel_rfl) ?_
    by_cases hlt : j < M2
    · match r, hj with
      | 0, hj => omega
      | r + 1, hj =>
      have hw : IntKind.i64.wrap ((j : Int) + 1) = ((j + 1 : Nat) : Int) := by rw [wrap_id (by omega) (by omega)]; rfl
      have rec_ := sp2o2 hb hnext r (j + 1) (upU us 5 (prim.upd (us 5) (prim.toN (j : Int)) 0 [.i .i64 (Int.negSucc 8), .i .i64 (Int.ofNat 0), .i .i64 (Int.ofNat 0), .i .i64 (Int.ofNat 0), .i .i64 (Int.ofNat 0), .i .i64 (Int.ofNat 0), .i .i64 (Int.ofNat 0), .i .i64 (Int.ofNat 0)])) (by omega)
      refine goesS_runUM (C5.ok _ _) (fok5 _) (hold := noHold) (m := 300) (n := 800) (ts := [⟨30, tdS2, (S5 n m M0 M1 o p (upU us 5 (prim.upd (us 5) (prim.toN (j : Int)) 0 [.i .i64 (Int.negSucc 8), .i .i64 (Int.ofNat 0), .i .i64 (Int.ofNat 0), .i .i64 (Int.ofNat 0), .i .i64 (Int.ofNat 0), .i .i64 (Int.ofNat 0), .i .i64 (Int.ofNat 0), .i .i64 (Int.ofNat 0)])) (e5 n M2 (upU us 5 (prim.upd (us 5) (prim.toN (j : Int)) 0 [.i .i64 (Int.negSucc 8), .i .i64 (Int.ofNat 0), .i .i64 (Int.ofNat 0), .i .i64 (Int.ofNat 0), .i .i64 (Int.ofNat 0), .i .i64 (Int.ofNat 0), .i .i64 (Int.ofNat 0), .i .i64 (Int.ofNat 0)]))) (r5ok m N3 (upU us 5 (prim.upd (us 5) (prim.toN (j : Int)) 0 [.i .i64 (Int.negSucc 8), .i .i64 (Int.ofNat 0), .i .i64 (Int.ofNat 0), .i .i64 (Int.ofNat 0), .i .i64 (Int.ofNat 0), .i .i64 (Int.ofNat 0), .i .i64 (Int.ofNat 0), .i .i64 (Int.ofNat 0)]))) [.gs 10, .gs 11] 3 ((j + 1 : Nat) : Int)), f52 k a i⟩, ⟨30, tdS1, (S5 n m M0 M1 o p (upU us 5 (prim.upd (us 5) (prim.toN (j : Int)) 0 [.i .i64 (Int.negSucc 8), .i .i64 (Int.ofNat 0), .i .i64 (Int.ofNat 0), .i .i64 (Int.ofNat 0), .i .i64 (Int.ofNat 0), .i .i64 (Int.ofNat 0), .i .i64 (Int.ofNat 0), .i .i64 (Int.ofNat 0)])) [] (r5k m N3 (upU us 5 (prim.upd (us 5) (prim.toN (j : Int)) 0 [.i .i64 (Int.negSucc 8), .i .i64 (Int.ofNat 0), .i .i64 (Int.ofNat 0), .i .i64 (Int.ofNat 0), .i .i64 (Int.ofNat 0), .i .i64 (Int.ofNat 0), .i .i64 (Int.ofNat 0), .i .i64 (Int.ofNat 0)]))) [.gs 13, .gs 14] 2 0), f53 k a i⟩]) ?_
      rw [c2o2 prim W5 L5 n m M0 M1 M2 N3 o p k a i us (upU us 5 (prim.upd (us 5) (prim.toN (j : Int)) 0 [.i .i64 (Int.negSucc 8), .i .i64 (Int.ofNat 0), .i .i64 (Int.ofNat 0), .i .i64 (Int.ofNat 0), .i .i64 (Int.ofNat 0), .i .i64 (Int.ofNat 0), .i .i64 (Int.ofNat 0), .i .i64 (Int.ofNat 0)])) (j : Int) ((j + 1 : Nat) : Int), meetsE_eq]
      refine ⟨fun _ => ⟨by simp [prim_inB]; omega, by repeat' (first | exact trivial | exact rfl | exact hw | exact fun _ _ => rfl | refine And.intro ?_ ?_), _, rfl, rec_⟩, fun h => ?_⟩
      simp [prim_lt, prim_ofN] at h; omega
    · refine goesS_runUM (C5.ok _ _) (fok5 _) (hold := noHold) (m := 300) (n := 800) (ts := [⟨30, tdS2, (S5 n m M0 M1 o p us (e5 n M2 us) (r5ok m N3 us) [.gs 10, .gs 11] 3 0), f52 k a i⟩, ⟨30, tdS1, (S5 n m M0 M1 o p us [] (r5k m N3 us) [.gs 13, .gs 14] 2 0), f53 k a i⟩]) ?_
      rw [c2o2 prim W5 L5 n m M0 M1 M2 N3 o p k a i us us (j : Int) 0, meetsE_eq]
      refine ⟨fun h => ?_, fun _ => ?_⟩
      · simp [prim_lt, prim_ofN] at h; omega
      · exact ⟨by repeat' (first | exact trivial | exact rfl | exact fun _ _ => rfl | refine And.intro ?_ ?_), _, rfl, (hnext us)⟩
theorem sp2e1 (hb : n ≤ 100000) (hnext : ∀ us, GoesS Tryd.prog (C5 prim W5 (spec5 L5) stopAll) (K0 H0 w0) 30 tdS2 (S5 n m M0 M1 o p us (e5 n M2 us) r5er [.gs 10, .gs 11] 3 0) (f52 k a i) emp φ) : ∀ r (j : Nat) us, j + r = n → GoesS Tryd.prog (C5 prim W5 (spec5 L5) stopAll) (K0 H0 w0) 30 tdS1 (S5 n m M0 M1 o p us (e5 n M2 us) r5er [.gs 10, .gs 11] 2 (j : Int)) (f52 k a i) emp φ
  | r, j, us, hj => by
    refine goesS_into (fn := Tryd.f30) (tb := tbS1) (by kernel_rfl) (by kernel_rfl) ?_
    by_cases hlt : j < n
    · match r, hj with
      | 0, hj => omega
      | r + 1, hj =>
      have hw : IntKind.i64.wrap ((j : Int) + 1) = ((j + 1 : Nat) : Int) := by rw [wrap_id (by omega) (by omega)]; rfl
      have rec_ := sp2e1 hb hnext r (j + 1) (upU us 4 (prim.upd (us 4) (prim.toN (j : Int)) 0 [.i .i64 (Int.negSucc 8), .i .i64 (Int.ofNat 0)])) (by omega)
      refine goesS_runUM (C5.ok _ _) (fok5 _) (hold := noHold) (m := 300) (n := 800) (ts := [⟨30, tdS1, (S5 n m M0 M1 o p (upU us 4 (prim.upd (us 4) (prim.toN (j : Int)) 0 [.i .i64 (Int.negSucc 8), .i .i64 (Int.ofNat 0)])) (e5 n M2 (upU us 4 (prim.upd (us 4) (prim.toN (j : Int)) 0 [.i .i64 (Int.negSucc 8), .i .i64 (Int.ofNat 0)]))) r5er [.gs 10, .gs 11] 2 ((j + 1 : Nat) : Int)), f52 k a i⟩, ⟨30, tdS2, (S5 n m M0 M1 o p (upU us 4 (prim.upd (us 4) (prim.toN (j : Int)) 0 [.i .i64 (Int.negSucc 8), .i .i64 (Int.ofNat 0)])) (e5 n M2 (upU us 4 (prim.upd (us 4) (prim.toN (j : Int)) 0 [.i .i64 (Int.negSucc 8), .i .i64 (Int.ofNat 0)]))) r5er [.gs 10, .gs 11] 3 0), f52 k a i⟩]) ?_
      rw [c2e1 prim W5 L5 n m M0 M1 M2 0 o p k a i us (upU us 4 (prim.upd (us 4) (prim.toN (j : Int)) 0 [.i .i64 (Int.negSucc 8), .i .i64 (Int.ofNat 0)])) (j : Int) ((j + 1 : Nat) : Int), meetsE_eq]
      refine ⟨fun _ => ⟨by simp [prim_inB]; omega, by repeat' (first | exact trivial | exact rfl | exact hw | exact fun _ _ => rfl | refine And.intro ?_ ?_), _, rfl, rec_⟩, fun h => ?_⟩
      simp [prim_lt, prim_ofN] at h; omega
    · refine goesS_runUM (C5.ok _ _) (fok5 _) (hold := noHold) (m := 300) (n := 800) (ts := [⟨30, tdS1, (S5 n m M0 M1 o p us (e5 n M2 us) r5er [.gs 10, .gs 11] 2 0), f52 k a i⟩, ⟨30, tdS2, (S5 n m M0 M1 o p us (e5 n M2 us) r5er [.gs 10, .gs 11] 3 0), f52 k a i⟩]) ?_
      rw [c2e1 prim W5 L5 n m M0 M1 M2 0 o p k a i us us (j : Int) 0, meetsE_eq]
      refine ⟨fun h => ?_, fun _ => ?_⟩
      · simp [prim_lt, prim_ofN] at h; omega
      · exact ⟨by repeat' (first | exact trivial | exact rfl | exact fun _ _ => rfl | refine And.intro ?_ ?_), _, rfl, (hnext us)⟩
theorem sp2e2 (hb : M2 ≤ 100000) (hnext : ∀ us, GoesS Tryd.prog (C5 prim W5 (spec5 L5) stopAll) (K0 H0 w0) 30 tdS1 (S5 n m M0 M1 o p us [] [] nS 2 0) (f53 k a i) emp φ) : ∀ r (j : Nat) us, j + r = M2 → GoesS Tryd.prog (C5 prim W5 (spec5 L5) stopAll) (K0 H0 w0) 30 tdS2 (S5 n m M0 M1 o p us (e5 n M2 us) r5er [.gs 10, .gs 11] 3 (j : Int)) (f52 k a i) emp φ
  | r, j, us, hj => by
    refine goesS_into (fn := Tryd.f30) (tb := tbS2) (by kernel_rfl) (by kernel_rfl) ?_
    by_cases hlt : j < M2
    · match r, hj with
      | 0, hj => omega
      | r + 1, hj =>
      have hw : IntKind.i64.wrap ((j : Int) + 1) = ((j + 1 : Nat) : Int) := by rw [wrap_id (by omega) (by omega)]; rfl
      have rec_ := sp2e2 hb hnext r (j + 1) (upU us 5 (prim.upd (us 5) (prim.toN (j : Int)) 0 [.i .i64 (Int.negSucc 8), .i .i64 (Int.ofNat 0), .i .i64 (Int.ofNat 0), .i .i64 (Int.ofNat 0), .i .i64 (Int.ofNat 0), .i .i64 (Int.ofNat 0), .i .i64 (Int.ofNat 0), .i .i64 (Int.ofNat 0)])) (by omega)
      refine goesS_runUM (C5.ok _ _) (fok5 _) (hold := noHold) (m := 300) (n := 800) (ts := [⟨30, tdS2, (S5 n m M0 M1 o p (upU us 5 (prim.upd (us 5) (prim.toN (j : Int)) 0 [.i .i64 (Int.negSucc 8), .i .i64 (Int.ofNat 0), .i .i64 (Int.ofNat 0), .i .i64 (Int.ofNat 0), .i .i64 (Int.ofNat 0), .i .i64 (Int.ofNat 0), .i .i64 (Int.ofNat 0), .i .i64 (Int.ofNat 0)])) (e5 n M2 (upU us 5 (prim.upd (us 5) (prim.toN (j : Int)) 0 [.i .i64 (Int.negSucc 8), .i .i64 (Int.ofNat 0), .i .i64 (Int.ofNat 0), .i .i64 (Int.ofNat 0), .i .i64 (Int.ofNat 0), .i .i64 (Int.ofNat 0), .i .i64 (Int.ofNat 0), .i .i64 (Int.ofNat 0)]))) r5er [.gs 10, .gs 11] 3 ((j + 1 : Nat) : Int)), f52 k a i⟩, ⟨30, tdS1, (S5 n m M0 M1 o p (upU us 5 (prim.upd (us 5) (prim.toN (j : Int)) 0 [.i .i64 (Int.negSucc 8), .i .i64 (Int.ofNat 0), .i .i64 (Int.ofNat 0), .i .i64 (Int.ofNat 0), .i .i64 (Int.ofNat 0), .i .i64 (Int.ofNat 0), .i .i64 (Int.ofNat 0), .i .i64 (Int.ofNat 0)])) [] [] nS 2 0), f53 k a i⟩]) ?_
      rw [c2e2 prim W5 L5 n m M0 M1 M2 0 o p k a i us (upU us 5 (prim.upd (us 5) (prim.toN (j : Int)) 0 [.i .i64 (Int.negSucc 8), .i .i64 (Int.ofNat 0), .i .i64 (Int.ofNat 0), .i .i64 (Int.ofNat 0), .i .i64 (Int.ofNat 0), .i .i64 (Int.ofNat 0), .i .i64 (Int.ofNat 0), .i .i64 (Int.ofNat 0)])) (j : Int) ((j + 1 : Nat) : Int), meetsE_eq]
      refine ⟨fun _ => ⟨by simp [prim_inB]; omega, by repeat' (first | exact trivial | exact rfl | exact hw | exact fun _ _ => rfl | refine And.intro ?_ ?_), _, rfl, rec_⟩, fun h => ?_⟩
      simp [prim_lt, prim_ofN] at h; omega
    · refine goesS_runUM (C5.ok _ _) (fok5 _) (hold := noHold) (m := 300) (n := 800) (ts := [⟨30, tdS2, (S5 n m M0 M1 o p us (e5 n M2 us) r5er [.gs 10, .gs 11] 3 0), f52 k a i⟩, ⟨30, tdS1, (S5 n m M0 M1 o p us [] [] nS 2 0), f53 k a i⟩]) ?_
      rw [c2e2 prim W5 L5 n m M0 M1 M2 0 o p k a i us us (j : Int) 0, meetsE_eq]
      refine ⟨fun h => ?_, fun _ => ?_⟩
      · simp [prim_lt, prim_ofN] at h; omega
      · exact ⟨by repeat' (first | exact trivial | exact rfl | exact fun _ _ => rfl | refine And.intro ?_ ?_), _, rfl, (hnext us)⟩
theorem sp3o1 (hb : N3 ≤ 100000) (hnext : ∀ us, GoesS Tryd.prog (C5 prim W5 (spec5 L5) stopAll) (K0 H0 w0) 30 tdS2 (S5 n m M0 M1 o p us [] (r5k m N3 us) [.gs 13, .gs 14] 3 0) (f53 k a i) emp φ) : ∀ r (j : Nat) us, j + r = N3 → GoesS Tryd.prog (C5 prim W5 (spec5 L5) stopAll) (K0 H0 w0) 30 tdS1 (S5 n m M0 M1 o p us [] (r5k m N3 us) [.gs 13, .gs 14] 2 (j : Int)) (f53 k a i) emp φ
  | r, j, us, hj => by
    refine goesS_into (fn := Tryd.f30) (tb := tbS1) (by kernel_rfl) (by kernel_rfl) ?_
    by_cases hlt : j < N3
    · match r, hj with
      | 0, hj => omega
      | r + 1, hj =>
      have hw : IntKind.i64.wrap ((j : Int) + 1) = ((j + 1 : Nat) : Int) := by rw [wrap_id (by omega) (by omega)]; rfl
      have rec_ := sp3o1 hb hnext r (j + 1) (upU us 6 (prim.upd (us 6) (prim.toN (j : Int)) 0 [.i .i64 (Int.negSucc 8), .i .i64 (Int.ofNat 0)])) (by omega)
      refine goesS_runUM (C5.ok _ _) (fok5 _) (hold := noHold) (m := 300) (n := 800) (ts := [⟨30, tdS1, (S5 n m M0 M1 o p (upU us 6 (prim.upd (us 6) (prim.toN (j : Int)) 0 [.i .i64 (Int.negSucc 8), .i .i64 (Int.ofNat 0)])) [] (r5k m N3 (upU us 6 (prim.upd (us 6) (prim.toN (j : Int)) 0 [.i .i64 (Int.negSucc 8), .i .i64 (Int.ofNat 0)]))) [.gs 13, .gs 14] 2 ((j + 1 : Nat) : Int)), f53 k a i⟩, ⟨30, tdS2, (S5 n m M0 M1 o p (upU us 6 (prim.upd (us 6) (prim.toN (j : Int)) 0 [.i .i64 (Int.negSucc 8), .i .i64 (Int.ofNat 0)])) [] (r5k m N3 (upU us 6 (prim.upd (us 6) (prim.toN (j : Int)) 0 [.i .i64 (Int.negSucc 8), .i .i64 (Int.ofNat 0)]))) [.gs 13, .gs 14] 3 0), f53 k a i⟩]) ?_
      rw [c3o1 prim W5 L5 n m M0 M1 0 N3 o p k a i us (upU us 6 (prim.upd (us 6) (prim.toN (j : Int)) 0 [.i .i64 (Int.negSucc 8), .i .i64 (Int.ofNat 0)])) (j : Int) ((j + 1 : Nat) : Int), meetsE_eq]
      refine ⟨fun _ => ⟨by simp [prim_inB]; omega, by repeat' (first | exact trivial | exact rfl | exact hw | exact fun _ _ => rfl | refine And.intro ?_ ?_), _, rfl, rec_⟩, fun h => ?_⟩
      simp [prim_lt, prim_ofN] at h; omega
    · refine goesS_runUM (C5.ok _ _) (fok5 _) (hold := noHold) (m := 300) (n := 800) (ts := [⟨30, tdS1, (S5 n m M0 M1 o p us [] (r5k m N3 us) [.gs 13, .gs 14] 2 0), f53 k a i⟩, ⟨30, tdS2, (S5 n m M0 M1 o p us [] (r5k m N3 us) [.gs 13, .gs 14] 3 0), f53 k a i⟩]) ?_
      rw [c3o1 prim W5 L5 n m M0 M1 0 N3 o p k a i us us (j : Int) 0, meetsE_eq]
      refine ⟨fun h => ?_, fun _ => ?_⟩
      · simp [prim_lt, prim_ofN] at h; omega
      · exact ⟨by repeat' (first | exact trivial | exact rfl | exact fun _ _ => rfl | refine And.intro ?_ ?_), _, rfl, (hnext us)⟩
theorem sp3o2 (hb : m ≤ 100000) (hn : n ≤ 100) (hM0 : M0 ≤ 600) (hnext : GoesS Tryd.prog (C5 prim W5 (spec5 L5) stopAll) (K0 H0 w0) 5 td5 (L5r n m o p k a (prim.add .i64 i (Int.ofNat 1))) [] emp φ) : ∀ r (j : Nat) us, j + r = m → GoesS Tryd.prog (C5 prim W5 (spec5 L5) stopAll) (K0 H0 w0) 30 tdS2 (S5 n m M0 M1 o p us [] (r5k m N3 us) [.gs 13, .gs 14] 3 (j : Int)) (f53 k a i) emp φ
  | r, j, us, hj => by
    refine goesS_into (fn := Tryd.f30) (tb := tbS2) (by kernel_rfl) (by kernel_rfl) ?_
    by_cases hlt : j < m
    · match r, hj with
      | 0, hj => omega
      | r + 1, hj =>
      have hw : IntKind.i64.wrap ((j : Int) + 1) = ((j + 1 : Nat) : Int) := by rw [wrap_id (by omega) (by omega)]; rfl
      have rec_ := sp3o2 hb hn hM0 hnext r (j + 1) (upU us 7 (prim.upd (us 7) (prim.toN (j : Int)) 0 [.i .i64 (Int.negSucc 8), .i .i64 (Int.ofNat 0), .i .i64 (Int.ofNat 0), .i .i64 (Int.ofNat 0), .i .i64 (Int.ofNat 0), .i .i64 (Int.ofNat 0), .i .i64 (Int.ofNat 0), .i .i64 (Int.ofNat 0)])) (by omega)
      refine goesS_runUM (C5.ok _ _) (fok5 _) (hold := noHold) (m := 300) (n := 800) (ts := [⟨30, tdS2, (S5 n m M0 M1 o p (upU us 7 (prim.upd (us 7) (prim.toN (j : Int)) 0 [.i .i64 (Int.negSucc 8), .i .i64 (Int.ofNat 0), .i .i64 (Int.ofNat 0), .i .i64 (Int.ofNat 0), .i .i64 (Int.ofNat 0), .i .i64 (Int.ofNat 0), .i .i64 (Int.ofNat 0), .i .i64 (Int.ofNat 0)])) [] (r5k m N3 (upU us 7 (prim.upd (us 7) (prim.toN (j : Int)) 0 [.i .i64 (Int.negSucc 8), .i .i64 (Int.ofNat 0), .i .i64 (Int.ofNat 0), .i .i64 (Int.ofNat 0), .i .i64 (Int.ofNat 0), .i .i64 (Int.ofNat 0), .i .i64 (Int.ofNat 0), .i .i64 (Int.ofNat 0)]))) [.gs 13, .gs 14] 3 ((j + 1 : Nat) : Int)), f53 k a i⟩, ⟨5, td5, L5r n m o p k a ((j + 1 : Nat) : Int), []⟩]) ?_
      rw [c3o2 prim W5 L5 n m M0 M1 0 N3 o p k a i us (upU us 7 (prim.upd (us 7) (prim.toN (j : Int)) 0 [.i .i64 (Int.negSucc 8), .i .i64 (Int.ofNat 0), .i .i64 (Int.ofNat 0), .i .i64 (Int.ofNat 0), .i .i64 (Int.ofNat 0), .i .i64 (Int.ofNat 0), .i .i64 (Int.ofNat 0), .i .i64 (Int.ofNat 0)])) (j : Int) ((j + 1 : Nat) : Int), meetsE_eq]
      refine ⟨fun _ => ⟨by simp [prim_inB]; omega, by repeat' (first | exact trivial | exact rfl | exact hw | exact fun _ _ => rfl | refine And.intro ?_ ?_), _, rfl, rec_⟩, fun h => ?_⟩
      simp [prim_lt, prim_ofN] at h; omega
    · refine goesS_runUM (C5.ok _ _) (fok5 _) (hold := noHold) (m := 300) (n := 800) (ts := [⟨30, tdS2, (S5 n m M0 M1 o p us [] (r5k m N3 us) [.gs 13, .gs 14] 3 (prim.add .i64 i (Int.ofNat 1))), f53 k a i⟩, ⟨5, td5, L5r n m o p k a (prim.add .i64 i (Int.ofNat 1)), []⟩]) ?_
      rw [c3o2 prim W5 L5 n m M0 M1 0 N3 o p k a i us us (j : Int) (prim.add .i64 i (Int.ofNat 1)), meetsE_eq]
      refine ⟨fun h => ?_, fun _ => ?_⟩
      · simp [prim_lt, prim_ofN] at h; omega
      · exact ⟨proom_le (n := M0 + 1) (by omega) (by omega), proom_le (n := n + 1) (by omega) (by omega), fun h => absurd h (by simp [prim_eq, prim_ofN, prim_addN]; omega), fun _ => ⟨fun h => absurd h (by simp [prim_eq, prim_ofN, prim_addN]; omega), fun _ => ⟨by repeat' (first | exact trivial | exact rfl | exact fun _ _ => rfl | refine And.intro ?_ ?_), _, rfl, hnext⟩⟩⟩
theorem sp3e1 (hnext : ∀ us, GoesS Tryd.prog (C5 prim W5 (spec5 L5) stopAll) (K0 H0 w0) 30 tdS2 (S5 n m M0 M1 o p us [] [] nS 3 0) (f53 k a i) emp φ) : ∀ r (j : Nat) us, j + r = 0 → GoesS Tryd.prog (C5 prim W5 (spec5 L5) stopAll) (K0 H0 w0) 30 tdS1 (S5 n m M0 M1 o p us [] [] nS 2 (j : Int)) (f53 k a i) emp φ
  | r, j, us, hj => by
    refine goesS_into (fn := Tryd.f30) (tb := tbS1) (by kernel_rfl) (by kernel_rfl) ?_
    · have hj0 : j = 0 := by omega
      subst hj0
      refine goesS_runUM (C5.ok _ _) (fok5 _) (hold := noHold) (m := 300) (n := 800) (ts := [⟨30, tdS1, (S5 n m M0 M1 o p us [] [] nS 2 0), f53 k a i⟩, ⟨30, tdS2, (S5 n m M0 M1 o p us [] [] nS 3 0), f53 k a i⟩]) ?_
      rw [c3e1 prim W5 L5 n m M0 M1 0 0 o p k a i us us ((0 : Nat) : Int) 0, meetsE_eq]
      refine ⟨fun h => ?_, fun _ => ?_⟩
      · simp [prim_lt, prim_ofN] at h; try omega
      · exact ⟨by repeat' (first | exact trivial | exact rfl | exact fun _ _ => rfl | refine And.intro ?_ ?_), _, rfl, (hnext us)⟩
theorem sp3e2 (hn : n ≤ 100) (hM0 : M0 ≤ 600) (hnext : GoesS Tryd.prog (C5 prim W5 (spec5 L5) stopAll) (K0 H0 w0) 5 td5 (L5r n m o p k a (prim.add .i64 i (Int.ofNat 1))) [] emp φ) : ∀ r (j : Nat) us, j + r = 0 → GoesS Tryd.prog (C5 prim W5 (spec5 L5) stopAll) (K0 H0 w0) 30 tdS2 (S5 n m M0 M1 o p us [] [] nS 3 (j : Int)) (f53 k a i) emp φ
  | r, j, us, hj => by
    refine goesS_into (fn := Tryd.f30) (tb := tbS2) (by kernel_rfl) (by kernel_rfl) ?_
    · have hj0 : j = 0 := by omega
      subst hj0
      refine goesS_runUM (C5.ok _ _) (fok5 _) (hold := noHold) (m := 300) (n := 800) (ts := [⟨30, tdS2, (S5 n m M0 M1 o p us [] [] nS 3 (prim.add .i64 i (Int.ofNat 1))), f53 k a i⟩, ⟨5, td5, L5r n m o p k a (prim.add .i64 i (Int.ofNat 1)), []⟩]) ?_
      rw [c3e2 prim W5 L5 n m M0 M1 0 0 o p k a i us us ((0 : Nat) : Int) (prim.add .i64 i (Int.ofNat 1)), meetsE_eq]
      refine ⟨fun h => ?_, fun _ => ?_⟩
      · simp [prim_lt, prim_ofN] at h; try omega
      · exact ⟨proom_le (n := M0 + 1) (by omega) (by omega), proom_le (n := n + 1) (by omega) (by omega), fun h => absurd h (by simp [prim_eq, prim_ofN, prim_addN]; omega), fun _ => ⟨fun h => absurd h (by simp [prim_eq, prim_ofN, prim_addN]; omega), fun _ => ⟨by repeat' (first | exact trivial | exact rfl | exact fun _ _ => rfl | refine And.intro ?_ ?_), _, rfl, hnext⟩⟩⟩
def us5 (n m : Nat) (o : Nat → Oj) (p : Nat → Ev) (a : Int) : Nat → Nat → List Sh := fun t => match t with
  | 1 => fnR p
  | 3 => fnR (L5.kp (keepN a) m p)
  | 5 => fnR (L5.kp keepC m p)
  | 6 => fO (fnR o)
  | 7 => fE (fnR p)
  | _ => fnR o
theorem round5 (hn : n ≤ 100) (hm : m ≤ 600) (hret : ∀ k, k < m → in64 (p k).ret = true) (hφ : φ (.b true)) : ∀ r (i : Nat), i + r = 2 → GoesS Tryd.prog (C5 prim W5 (spec5 L5) stopAll) (K0 H0 w0) 5 td5 (L5r n m o p k a (i : Int)) [] emp φ
  | r, i, hi => by
    have hM := upN_le k m
    have k1 := km_le (keepN a) p m
    have k2 := km_le keepC p m
    have q1 : roomB (L5.un k m) 64 = true := room_le (by show upN k m ≤ _; omega) (by omega)
    have q1' : roomB (upN k m) 64 = true := room_le (by omega) (by omega)
    have q3 : roomB n 16 = true := room_le (by omega) (by omega)
    have q4 : roomB m 64 = true := room_le (by omega) (by omega)
    have hret' : retsB m (fnR p) = true := List.all_eq_true.2 fun i hi => by
      rw [rwAt_fnR]; exact hret i (List.mem_range.1 hi)
    refine goesS_into (fn := Tryd.f5) (tb := tb5) (by kernel_rfl) (by kernel_rfl) ?_
    refine goesS_runUM (C5.ok _ _) (fok5 _) (hold := noHold) (m := 300) (n := 800) (ts := [⟨30, tdS1, (S5 n m (L5.un k m) (L5.km (keepN a) m p) o p (us5 n m o p a) (e5b n (L5.km keepC m p) (us5 n m o p a)) (r5ok m (L5.sp p m) (us5 n m o p a)) [.gs 4, .gs 5] 2 0), f50 k a (i : Int)⟩, ⟨30, tdS1, (S5 n m (L5.un k m) (L5.km (keepN a) m p) o p (us5 n m o p a) (e5b n (L5.km keepC m p) (us5 n m o p a)) r5er [.gs 4, .gs 5] 2 0), f50 k a (i : Int)⟩]) ?_
    rw [b5 prim W5 L5 n m (L5.un k m) (L5.km (keepN a) m p) (L5.km keepC m p) (L5.sp p m) o p k a (i : Int) (us5 n m o p a) (us5 n m o p a), meetsE_eq]
    simp only [rwAt_fnR]
    refine ⟨fun h => ?_, fun h => ?_⟩
    · have hlt : i < 2 := by simp [prim_lt] at h; omega
      match r, hi with
      | 0, hi => omega
      | r + 1, hi =>
      have hw : prim.add .i64 (i : Int) (Int.ofNat 1) = ((i + 1 : Nat) : Int) := by
        show IntKind.i64.wrap ((i : Int) + 1) = _
        rw [wrap_id (by omega) (by omega)]; rfl
      have rnd := round5 hn hm hret hφ r (i + 1) (by omega)
      rw [← hw] at rnd
      have ee32 := fun us => sp3e2 (H0 := H0) (w0 := w0) (M0 := L5.un k m) (M1 := L5.km (keepN a) m p) (n := n) (m := m) (o := o) (p := p) (k := k) (a := a) (i := (i : Int)) (φ := φ) hn (by show upN k m ≤ _; omega) rnd 0 0 us (by omega)
      have ee31 := fun us => sp3e1 ee32 0 0 us (by omega)
      have ee22 := fun us => sp2e2 (M2 := L5.km keepC m p) (by omega) ee31 (L5.km keepC m p) 0 us (by omega)
      have ee21 := fun us => sp2e1 (M2 := L5.km keepC m p) (by omega) ee22 n 0 us (by omega)
      have ee12 := fun us => sp1e2 (M2 := L5.km keepC m p) (by omega) ee21 (L5.km (keepN a) m p) 0 us (by omega)
      have ee11 := fun us => sp1e1 (M2 := L5.km keepC m p) (by omega) ee12 n 0 us (by omega)
      have ee02 := fun us => sp0e2 (M2 := L5.km keepC m p) (by show upN k m ≤ _; omega) ee11 (L5.un k m) 0 us (by omega)
      have ee01 := fun us => sp0e1 (M2 := L5.km keepC m p) (by omega) ee02 n 0 us (by omega)
      have ok (hN : L5.sp p m ≤ 100000) : GoesS Tryd.prog (C5 prim W5 (spec5 L5) stopAll) (K0 H0 w0) 30 tdS1 (S5 n m (L5.un k m) (L5.km (keepN a) m p) o p (us5 n m o p a) (e5b n (L5.km keepC m p) (us5 n m o p a)) (r5ok m (L5.sp p m) (us5 n m o p a)) [.gs 4, .gs 5] 2 ((0 : Nat) : Int)) (f50 k a (i : Int)) emp φ := by
        have eo32 := fun us => sp3o2 (H0 := H0) (w0 := w0) (M0 := L5.un k m) (M1 := L5.km (keepN a) m p) (n := n) (m := m) (o := o) (p := p) (k := k) (a := a) (i := (i : Int)) (φ := φ) (N3 := L5.sp p m) (by omega) hn (by show upN k m ≤ _; omega) rnd m 0 us (by omega)
        have eo31 := fun us => sp3o1 hN eo32 (L5.sp p m) 0 us (by omega)
        have eo22 := fun us => sp2o2 (M2 := L5.km keepC m p) (by omega) eo31 (L5.km keepC m p) 0 us (by omega)
        have eo21 := fun us => sp2o1 (M2 := L5.km keepC m p) (by omega) eo22 n 0 us (by omega)
        have eo12 := fun us => sp1o2 (M2 := L5.km keepC m p) (by omega) eo21 (L5.km (keepN a) m p) 0 us (by omega)
        have eo11 := fun us => sp1o1 (M2 := L5.km keepC m p) (by omega) eo12 n 0 us (by omega)
        have eo02 := fun us => sp0o2 (M2 := L5.km keepC m p) (by show upN k m ≤ _; omega) eo11 (L5.un k m) 0 us (by omega)
        have eo01 := fun us => sp0o1 (M2 := L5.km keepC m p) (by omega) eo02 n 0 us (by omega)
        exact eo01 _
      have tacE : True := trivial
      refine ⟨q3, q1, okB_put _ _, q3, q4, okB_put _ _, q3, q4, okB_put _ _, okB_put _ _, hret', fun h1 => ?_, fun h1 => ⟨fun h2 => ⟨fun h3 => ?_, fun h3 => ?_⟩, fun h2 => ?_⟩⟩
      · exact ⟨by repeat' (first | exact trivial | exact rfl | exact fun _ _ => rfl | refine And.intro ?_ ?_), _, rfl, ee01 _⟩
      · have G := good_of h1 (by unfold goodB at h2; rw [rwAt_fnR, rwAt_fnR] at h2; exact h2) hret
        have := spN_le G m (Nat.le_refl _)
        exact ⟨by repeat' (first | exact trivial | exact rfl | exact fun _ _ => rfl | refine And.intro ?_ ?_), _, rfl, ok (by show spN p m ≤ _; omega)⟩
      · exact ⟨by repeat' (first | exact trivial | exact rfl | exact fun _ _ => rfl | refine And.intro ?_ ?_), _, rfl, ee01 _⟩
      · exact ⟨by repeat' (first | exact trivial | exact rfl | exact fun _ _ => rfl | refine And.intro ?_ ?_), _, rfl, ee01 _⟩
    · have s1 : L5.same n (L5.un k m) (fnR o) (fnR p) n (upN k m) (fO (fnR o)) (fE (fnR p)) = true := by
        rw [fO_fnR, fE_fnR]; exact sameHB_evs rfl
      have s2 : L5.same n m (fnR o) (fnR p) n m (fnR o) (fnR p) = true := sameHB_evs rfl
      rw [fO_fnR, fE_fnR] at s1 ⊢
      exact ⟨q3, q1, okB_put _ _, okB_put _ _, q3, q1', okB_put _ _, okB_put _ _, okB_put _ _, okB_put _ _, fun _ => ⟨okB_put _ _, okB_put _ _, okB_put _ _, okB_put _ _, by show φ (.b _); rw [s2]; exact hφ⟩, no s1⟩
end
def F5 : List Sh → Tree Sh
  | [.agg [.sl 2 n g, .sl 8 m h], .i .i64 _, .i .i64 _] => .need (okB Oj n g) (.need (okB Ev m h) (.need (retsB m h) (.leaf (.b true))))
  | _ => .fail
theorem O5 : FnOK Tryd.prog (gls5 W5) 5 F5 := by
  refine fnOK_S (C := C5 prim W5 (spec5 L5) stopAll) (C5.ok _ _) (fn := Tryd.f5) (by kernel_rfl) (by kernel_rfl) fun H w shs args φ hrep h => ?_
  have hn : Tryd.f5.ntmps = 87 := by kernel_rfl
  unfold F5 at h
  split at h
  · rename_i n g m h' k a
    obtain ⟨q1, q2, q3, hφ⟩ := h
    have hφ : φ (.b true) := hφ
    match args, hrep with
    | [v0, v1, v2], ⟨r0, r1, r2, _⟩ =>
      rw [hn]
      have hret : ∀ k, k < m → in64 (rwAt (α := Ev) h' k).ret = true := fun k hk => List.all_eq_true.1 q3 k (List.mem_range.2 hk)
      refine ⟨[.agg [.sl 2 n (fnR (rwAt (α := Oj) g)), .sl 8 m (fnR (rwAt (α := Ev) h'))], .i .i64 k, .i .i64 a], ⟨rep_agg_rows2 r0 q1 q2, r1, r2, trivial⟩, L0, ?_⟩
      generalize rwAt (α := Oj) g = o at *
      generalize rwAt (α := Ev) h' = p at *
      refine goesS_runUM (C5.ok _ _) (fok5 _) (hold := noHold) (m := 300) (n := 800) (ts := [⟨5, td5, L5r n m o p k a ((0 : Nat) : Int), []⟩]) ?_
      rw [a5 prim W5 L5 n m 0 0 0 0 o p k a ((0 : Nat) : Int) (fun _ => fnR o), meetsE_eq]
      refine ⟨fun _ => hφ, fun h1 => ⟨fun _ => hφ, fun _ => ?_⟩⟩
      have h1 : smallB n m = true := by simpa [prim_nt] using h1
      simp [smallB] at h1
      obtain ⟨hn, hm⟩ := h1
      rw [fO_fnR, fE_fnR]
      exact ⟨okB_put _ _, okB_put _ _, room_le (by omega) (by omega), room_le (by omega) (by omega), by repeat' (first | exact trivial | exact rfl | exact fun _ _ => rfl | refine And.intro ?_ ?_), _, rfl, round5 hn hm hret hφ 2 0 (by omega)⟩
  · exact h.elim
end Go.Proofs
namespace Go.Sx
open Go.RowKit Go.ChangeShapes Go.WideShapes Go.Deep
/-- All of memory, as it stands. -/
def memOf (w : World) : Mem := fun b => w.heap[b]?
theorem memOf_on (w : World) : (memOf w).on w := fun _ _ h => h
theorem hcell_memOf {w : World} {a : Addr} {v : Value} (h : w.cell? a = some v) : hcell (memOf w) a.block a.off = some v ∧ a.spot = none := by
  unfold World.cell? at h
  unfold hcell memOf
  split at h
  · rename_i c t f hb
    rw [hb]
    cases hs : a.spot with
    | none => simp only [hs, Option.isSome_none, Bool.false_eq_true, if_false] at h; exact ⟨h, rfl⟩
    | some x => simp [hs] at h
  · cases h
section
variable {H : Type} {enc : TypeId × Value → H} {P : Program} {w : World} {base : Nat} {spare : Nat → Bool} {held : Bool}
/-- Are all the fields ints, one behind the other? -/
def flatB (P : Program) (fs : Array Field) (k : Nat) : Bool :=
  fs.size == k && (List.range k).all fun i => match fs[i]? with
    | some f => f.offset == i && (match P.underlying f.type with | some (.int .i64) => true | _ => false) && P.cellsOf f.type == 1
    | none => false
/-- The type of a row of so many ints. -/
def rowB (P : Program) (e k : Nat) : Bool :=
  match P.underlying e with
  | some (.int .i64) => k == 1 && P.cellsOf e == 1
  | some (.struct fs) => flatB P fs k && P.cellsOf e == k
  | _ => false
def int64 (n : Int) : Prop := (Lit.int .i64 n).wf = true
theorem flat_cells {e k fuel : Nat} {cs : List Value} {x : DataW H × List MemPlace} (hr : rowB P e k = true) (h : DataW.trod enc P w base spare held fuel e cs = some x) :
    ∃ ns : List Int, ns.length = k ∧ cs = ns.map (Value.int .i64) ∧ ∀ n ∈ ns, int64 n := by
  unfold rowB at hr
  split at hr
  · rename_i hu
    simp only [Bool.and_eq_true, beq_iff_eq] at hr
    obtain ⟨n, rfl, _, hw⟩ := DataW.trod_int hu h
    exact ⟨[n], hr.1.symm, rfl, fun m hm => by simp at hm; subst hm; exact hw⟩
  · rename_i fs hu
    simp only [Bool.and_eq_true, beq_iff_eq] at hr
    obtain ⟨hf, hc⟩ := hr
    unfold flatB at hf
    simp only [Bool.and_eq_true, beq_iff_eq] at hf
    obtain ⟨hk, hf⟩ := hf
    obtain ⟨xs, m, _, _, hlen, hxs, hel⟩ := DataW.trod_struct hu h
    rw [hc] at hlen
    have cell : ∀ i, i < k → ∃ n, cs[i]? = some (.int .i64 n) ∧ int64 n := fun i hi => by
      have q := List.all_eq_true.1 hf i (List.mem_range.2 hi)
      split at q
      · rename_i f hfi
        simp only [Bool.and_eq_true, beq_iff_eq] at q
        obtain ⟨⟨ho, ht⟩, h1⟩ := q
        have ht : P.underlying f.type = some (.int .i64) := by
          split at ht
          · assumption
          · cases ht
        have q2 := hel i f hfi
        rw [ho, h1] at q2
        have hxi : i < xs.length := by rw [hxs, hk]; exact hi
        rw [List.getElem?_eq_getElem hxi] at q2
        obtain ⟨n, e1, _, e3⟩ := DataW.trod_int ht q2
        refine ⟨n, ?_, e3⟩
        have : (List.take 1 (List.drop i cs))[0]? = some (.int .i64 n) := by rw [e1]; rfl
        simpa using this
      · cases q
    clear hel h hf
    have : ∀ (j : Nat) (l : List Value), l.length = j → (∀ i, i < j → ∃ n, l[i]? = some (.int .i64 n) ∧ int64 n) → ∃ ns : List Int, ns.length = j ∧ l = ns.map (Value.int .i64) ∧ ∀ n ∈ ns, int64 n := by
      intro j
      induction j with
      | zero => intro l hl _; exact ⟨[], rfl, by simpa using hl, fun _ h => by simp at h⟩
      | succ j ih =>
        intro l hl hc
        match l, hl with
        | v :: l, hl =>
          obtain ⟨ns, h1, h2, h3⟩ := ih l (by simpa using hl) fun i hi => by simpa using hc (i + 1) (by omega)
          obtain ⟨n, q1, q2⟩ := hc 0 (by omega)
          simp at q1
          subst q1
          exact ⟨n :: ns, by simp [h1], by simp [h2], fun m hm => by
            rcases List.mem_cons.1 hm with rfl | hm
            · exact q2
            · exact h3 m hm⟩
    exact this k cs hlen cell
  · cases hr
def shInts (ns : List Int) : List Sh := ns.map (Sh.i .i64)
theorem rep_ints {M : Mem} {ns : List Int} : Rep M (.agg (shInts ns)) (.agg (ns.map (Value.int .i64)).toArray) := by
  refine .agg _ _ (by simp [shInts]) fun j s v h1 h2 => ?_
  simp only [shInts, List.getElem?_map, Option.map_eq_some_iff] at h1
  obtain ⟨n, h3, rfl⟩ := h1
  simp [h3] at h2
  subst h2
  exact .i _ _
theorem cells?_at {w : World} {base : Nat} {a : Addr} {n : Nat} {cs : List Value} (h : w.cells? base a n = some cs) : cs.length = n ∧ ∀ j, j < n → w.cell? (a.add j) = cs[j]? := by
  unfold World.cells? at h
  split at h
  · have : ∀ (l : List Nat) (cs : List Value), l.mapM (fun i => w.cell? (a.add i)) = some cs → cs.length = l.length ∧ ∀ (j : Nat) (i : Nat), l[j]? = some i → w.cell? (a.add i) = cs[j]? := by
      intro l
      induction l with
      | nil => intro cs h; simp at h; subst h; exact ⟨rfl, fun j i e => by simp at e⟩
      | cons x l ih =>
        intro cs h
        rw [List.mapM_cons] at h
        simp only [Option.bind_eq_bind, Option.bind_eq_some_iff, Option.pure_def] at h
        obtain ⟨v, h1, vs, h2, h3⟩ := h
        cases h3
        obtain ⟨e1, e2⟩ := ih vs h2
        refine ⟨by simp [e1], fun j i e => ?_⟩
        match j, e with
        | 0, e => simp at e; subst e; simpa using h1
        | j + 1, e => simpa using e2 j i (by simpa using e)
    obtain ⟨e1, e2⟩ := this _ _ h
    rw [List.length_range] at e1
    exact ⟨e1, fun j hj => e2 j j (by simp [hj])⟩
  · cases h
theorem add_off (a : Addr) (n : Nat) : (a.add n).off = a.off + n ∧ (a.add n).block = a.block := by
  unfold Addr.add
  split
  · subst_vars; exact ⟨rfl, rfl⟩
  · exact ⟨rfl, rfl⟩
theorem add_add' (a : Addr) (i j : Nat) : (a.add i).add j = a.add (i + j) := by
  unfold Addr.add
  by_cases hi : i = 0 <;> by_cases hj : j = 0 <;> simp [hi, hj, Nat.add_assoc]
/-- A slice of rows of ints. -/
theorem rep_rowsl {t e k fuel : Nat} {cs : List Value} {x : DataW H × List MemPlace} (ht : P.underlying t = some (.slice e)) (hr : rowB P e k = true) (hk : P.cellsOf e = k) (h0 : 0 < k)
    (h : DataW.trod enc P w base spare held fuel t cs = some x) :
    ∃ v n g, cs = [v] ∧ Rep (memOf w) (.sl k n g) v ∧ ∀ i, i < n → ∃ ns : List Int, ns.length = k ∧ g i = shInts ns ∧ ∀ n ∈ ns, int64 n := by
  rcases open_slice ht h with ⟨rfl, _⟩ | ⟨a, len, cap, m, n, D, Pl, rfl, hb, hl, hcap, hm, _, hel⟩
  · exact ⟨_, 0, fun _ => [], rfl, .sl0 _ _ _ _ (Nat.zero_le _), fun i hi => by omega⟩
  have hlm : len ≤ m := by rw [hm]; split <;> omega
  rw [hk] at hel
  have row : ∀ i, i < len → ∃ ns : List Int, ns.length = k ∧ w.cells? base (a.add (i * k)) k = some (ns.map (Value.int .i64)) ∧ ∀ n ∈ ns, int64 n := fun i hi => by
    obtain ⟨cs', h1, h2⟩ := hel i (by omega)
    obtain ⟨ns, e1, rfl, e3⟩ := flat_cells hr h2
    exact ⟨ns, e1, h1, e3⟩
  by_cases hz : len = 0
  · subst hz
    exact ⟨_, 0, fun _ => [], rfl, .sl0 _ _ _ _ hcap, fun i hi => by omega⟩
  let N : Nat → List Int := fun i => if h : i < len then (row i h).choose else []
  have hN : ∀ i, i < len → (N i).length = k ∧ w.cells? base (a.add (i * k)) k = some ((N i).map (Value.int .i64)) ∧ ∀ n ∈ N i, int64 n := fun i hi => by
    simp only [N, dif_pos hi]
    exact (row i hi).choose_spec
  have cell : ∀ i j, i < len → j < k → w.cell? (a.add (i * k + j)) = ((N i).map (Value.int .i64))[j]? := fun i j hi hj => by
    have := (cells?_at (hN i hi).2.1).2 j hj
    rwa [add_add'] at this
  have hspot : a.spot = none := by
    have h1 := cell 0 0 (by omega) h0
    have : ∃ v, w.cell? a = some v := by
      have hl0 := (hN 0 (by omega)).1
      match hq : N 0 with
      | [] => rw [hq] at hl0; simp at hl0; omega
      | x :: r =>
        rw [hq] at h1
        simp [Addr.add] at h1
        exact ⟨_, h1⟩
    obtain ⟨v, hv⟩ := this
    exact (hcell_memOf hv).2
  obtain ⟨blk, off, spot⟩ := a
  simp only at hspot
  subst hspot
  refine ⟨_, len, fun i => shInts (N i), rfl, .sl _ _ _ blk off cap (fun i j => ((N i).map (Value.int .i64)).getD j .nilFunc) hl hcap (fun i hi => by simp [shInts, (hN i hi).1]) (fun i j hi hj => ?_) (fun i j hi hj => ?_) (fun i j s hi e => ?_), fun i hi => ⟨N i, (hN i hi).1, rfl, (hN i hi).2.2⟩⟩
  · have h1 := cell i j hi hj
    have hlt : j < ((N i).map (Value.int .i64)).length := by simpa [(hN i hi).1] using hj
    rw [List.getElem?_eq_getElem hlt] at h1
    have h2 := (hcell_memOf h1).1
    rw [(add_off _ _).1, (add_off _ _).2] at h2
    simp only [Nat.add_assoc] at h2 ⊢
    rw [h2, List.getD_eq_getElem?_getD, List.getElem?_eq_getElem hlt]; rfl
  · have hlt : j < (N i).length := by rw [(hN i hi).1]; exact hj
    simp [List.getD_eq_getElem?_getD, hlt]; rfl
  · simp only [shInts, List.getElem?_map, Option.map_eq_some_iff] at e
    obtain ⟨n, h3, rfl⟩ := e
    simp [List.getD_eq_getElem?_getD, h3]
    exact .i _ _
/-- A struct of two slices of rows of ints. -/
def pairB (P : Program) (t : Nat) (k0 k1 : Nat) : Bool :=
  match P.underlying t with
  | some (.struct fs) => fs.size == 2 && P.cellsOf t == 2 && (match fs[0]?, fs[1]? with
    | some f0, some f1 => f0.offset == 0 && f1.offset == 1 && P.cellsOf f0.type == 1 && P.cellsOf f1.type == 1 && (match P.underlying f0.type, P.underlying f1.type with
      | some (.slice e0), some (.slice e1) => rowB P e0 k0 && P.cellsOf e0 == k0 && rowB P e1 k1 && P.cellsOf e1 == k1
      | _, _ => false)
    | _, _ => false)
  | _ => false
theorem rep_pair {t k0 k1 : Nat} {v : Value} {d : DataW H} {ps : List MemPlace} (hp : pairB P t k0 k1 = true) (h00 : 0 < k0) (h01 : 0 < k1) {b0 : Nat} (hval : Value.okWide P w .any b0 t v) (hd : DataW.Trod enc P w base spare held t v d ps) :
    ∃ n0 g0 n1 g1, Rep (memOf w) (.agg [.sl k0 n0 g0, .sl k1 n1 g1]) v ∧ (∀ i, i < n0 → ∃ ns : List Int, ns.length = k0 ∧ g0 i = shInts ns ∧ ∀ n ∈ ns, int64 n) ∧ ∀ i, i < n1 → ∃ ns : List Int, ns.length = k1 ∧ g1 i = shInts ns ∧ ∀ n ∈ ns, int64 n := by
  unfold pairB at hp
  split at hp
  · rename_i fs hu
    unfold Value.okWide at hval
    rw [hu] at hval
    obtain ⟨cs, rfl, hsz, _⟩ := hval
    simp only [Bool.and_eq_true, beq_iff_eq] at hp
    obtain ⟨⟨h2, hc⟩, hp⟩ := hp
    split at hp
    · rename_i f0 f1 hf0 hf1
      simp only [Bool.and_eq_true, beq_iff_eq] at hp
      obtain ⟨⟨⟨⟨o0, o1⟩, c0⟩, c1⟩, hp⟩ := hp
      split at hp
      · rename_i e0 e1 hs0 hs1
        simp only [Bool.and_eq_true, beq_iff_eq] at hp
        obtain ⟨⟨⟨r0, q0⟩, r1⟩, q1⟩ := hp
        obtain ⟨fuel, hd⟩ := hd
        obtain ⟨xs, m, _, _, hlen, hxs, hel⟩ := DataW.trod_struct hu hd
        have a0 := hel 0 f0 hf0
        have a1 := hel 1 f1 hf1
        rw [o0, c0, List.getElem?_eq_getElem (by rw [hxs, h2]; decide)] at a0
        rw [o1, c1, List.getElem?_eq_getElem (by rw [hxs, h2]; decide)] at a1
        obtain ⟨v0, n0, g0, x0, y0, z0⟩ := rep_rowsl hs0 r0 q0 h00 a0
        obtain ⟨v1, n1, g1, x1, y1, z1⟩ := rep_rowsl hs1 r1 q1 h01 a1
        rw [hc] at hsz
        obtain ⟨l⟩ := cs
        match l, hsz with
        | [u0, u1], _ =>
          simp [Value.cells] at x0 x1
          subst x0 x1
          refine ⟨n0, g0, n1, g1, .agg _ _ rfl fun j s v e1 e2 => ?_, z0, z1⟩
          match j, e1, e2 with
          | 0, e1, e2 => simp at e1 e2; subst e1 e2; exact y0
          | 1, e1, e2 => simp at e1 e2; subst e1 e2; exact y1
          | j + 2, e1, _ => simp at e1
      · cases hp
    · cases hp
  · cases hp
/-- A slice of rows of ints, as an argument. -/
theorem rep_slice_arg {t e k : Nat} {v : Value} {d : DataW H} {ps : List MemPlace} (ht : P.underlying t = some (.slice e)) (hr : rowB P e k = true) (hk : P.cellsOf e = k) (h0 : 0 < k) {b0 : Nat} (hval : Value.okWide P w .any b0 t v) (hd : DataW.Trod enc P w base spare held t v d ps) :
    ∃ n g, Rep (memOf w) (.sl k n g) v ∧ ∀ i, i < n → ∃ ns : List Int, ns.length = k ∧ g i = shInts ns ∧ ∀ n ∈ ns, int64 n := by
  obtain ⟨fuel, hd⟩ := hd
  obtain ⟨u, n, g, h1, h2, h3⟩ := rep_rowsl ht hr hk h0 hd
  have : v = u := by
    unfold Value.okWide at hval
    rw [ht] at hval
    cases v <;> simp [Value.cells] at h1 <;> first | exact h1 | skip
    all_goals (unfold Cell.okWide at hval; simp [ht] at hval; try (simp [Cell.ok, ht] at hval))
  subst this
  exact ⟨n, g, h2, h3⟩
end
end Go.Sx
namespace Go.Sx
open Go.RowKit Go.ChangeShapes Go.WideShapes Go.Deep
theorem var_heap {P : Program} {W : World} {n : String} {g : Nat} {cs : Array Value} (hg : P.globalNamed n = some g) (h : W.var? P n = some cs) : ∃ e f, W.heap[g]? = some (.cells cs e f) := by
  unfold World.var? at h
  rw [hg] at h
  simp only [Option.bind_some] at h
  split at h
  · rename_i c e f hb
    cases h
    exact ⟨_, _, hb⟩
  · cases h
theorem laid_er {P : Program} {n nm : String} {text : List UInt8} {r : List (String × DataW Unit)} {W : World} {g : Nat} {ti tp te ts : TypeId} {ms : Array (String × TypeId)} {f : Field}
    (h : laidMet P ((n, .iface nm (.ptr (.agg [.lit (.string text)]))) :: r) W)
    (hg : P.globalNamed n = some g) (ht : (P.globals[g]?).map (·.type) = some ti) (hi : P.underlying ti = some (.interface ms)) (hrow : ∀ u, P.typeName? 3 u = some nm → u = tp)
    (hp : P.underlying tp = some (.pointer te)) (he : P.underlying te = some (.struct #[f])) (hft : f.type = ts) (hfo : f.offset = 0) (hs : P.underlying ts = some .string) (hc : P.cellsOf te = 1) (hcs : P.cellsOf ts = 1) :
    GlobAt (memOf W) g (.er g tp) := by
  obtain ⟨ps, ⟨g0, t0, cs0, f0, p0, q0, hg0, ht0, hv0, hd0, _, e0⟩, _, hrows⟩ := h
  obtain rfl := Option.some.inj (hg.symm.trans hg0)
  obtain rfl := Option.some.inj (ht.symm.trans ht0)
  subst e0
  obtain ⟨l0⟩ := cs0
  have ok0 : ∀ u v, l0 = [.iface u v] → Value.okWide P W .any 0 u v := fun u v e => by
    subst e
    exact (hrows g 0 (by simp [MemPlace.row])).2 u v (by simpa using World.var?_cell hg0 hv0 0)
  obtain ⟨a0, s0, rfl, hc0, hs0, hz0, rfl⟩ := errorString_of_trod hi hrow hp he hft hfo hs hc hcs hd0 ok0
  obtain ⟨c0, t0, hb0⟩ := (hrows a0.block a0.off (by simp [MemPlace.row])).1
  obtain ⟨e, f, hh⟩ := var_heap hg hv0
  have h1 : hcell (memOf W) g 0 = some (.iface tp (.pointer (some a0))) := by
    unfold hcell memOf
    rw [hh]; rfl
  exact ⟨_, h1, .er g tp a0 c0 t0 h1 hb0, rfl⟩
/-- An array of strings. -/
theorem laid_strs {P : Program} {n : String} {texts : List (List UInt8)} {r : List (String × DataW Unit)} {W : World} {g : Nat} {t e : TypeId} {k : Nat}
    (h : laidMet P ((n, .agg (texts.map fun s => .lit (.string s))) :: r) W)
    (hg : P.globalNamed n = some g) (ht : (P.globals[g]?).map (·.type) = some t) (hu : P.underlying t = some (.array k e)) (he : P.underlying e = some .string) (hce : P.cellsOf e = 1) :
    GlobAt (memOf W) g (.tup (texts.map Sh.str)) := by
  obtain ⟨ps, ⟨g0, t0, cs0, f0, p0, q0, hg0, ht0, hv0, hd0, _, e0⟩, _, hrows⟩ := h
  obtain rfl := Option.some.inj (hg.symm.trans hg0)
  obtain rfl := Option.some.inj (ht.symm.trans ht0)
  obtain ⟨e1, f1, hh⟩ := var_heap hg hv0
  obtain ⟨xs, m, _, hx, hlen, hxs, hel⟩ := DataW.trod_array hu hd0
  have hxs' : xs.map (·.1) = texts.map fun s => .lit (.string s) := by
    have := congrArg Prod.fst hx
    simp at this
    exact this.symm
  have hkt : k = texts.length := by
    have := congrArg List.length hxs'
    simp at this
    omega
  subst hkt
  have cell : ∀ j (hj : j < texts.length), cs0[j]? = some (.string ⟨texts[j].toArray⟩) := fun j hj => by
    have q := hel j hj
    rw [hce, Nat.mul_one] at q
    have hxj : j < xs.length := by omega
    rw [List.getElem?_eq_getElem hxj] at q
    obtain ⟨s, q1, q2, _⟩ := DataW.trod_string he q
    have q3 : (xs.map (·.1))[j]? = some (.lit (.string texts[j])) := by rw [hxs']; simp [hj]
    have q4 : (xs[j]).1 = .lit (.string texts[j]) := by
      rw [List.getElem?_map, List.getElem?_eq_getElem hxj] at q3
      simpa using q3
    rw [q2] at q4
    simp at q4
    have q5 : (List.take 1 (List.drop j cs0.toList))[0]? = some (.string s) := by rw [q1]; rfl
    have q6 : cs0[j]? = some (.string s) := by simpa using q5
    rw [q6]
    obtain ⟨⟨l⟩⟩ := s
    have : l = texts[j] := q4
    subst this; rfl
  refine ⟨fun j => .string ⟨(texts.getD j []).toArray⟩, fun j hj => ?_, fun j s hs => ?_⟩
  · have hj' : j < texts.length := by simpa using hj
    refine ⟨?_, rfl⟩
    unfold hcell memOf
    rw [hh]
    simp only [cell j hj', List.getD_eq_getElem?_getD, List.getElem?_eq_getElem hj', Option.getD_some]
  · rw [List.getElem?_map, Option.map_eq_some_iff] at hs
    obtain ⟨l, h1, rfl⟩ := hs
    show Rep (memOf W) (.str l) (.string ⟨(texts.getD j []).toArray⟩)
    rw [List.getD_eq_getElem?_getD, h1]
    exact .str l
end Go.Sx
namespace Go.Proofs
open Go Go.Sx Go.RowKit Go.ChangeShapes
theorem star5 : "*" ++ "errors.errorString" = "*errors.errorString" := by decide
theorem row5 (u : TypeId) (h : Tryd.prog.typeName? 3 u = some "*errors.errorString") : u = 125 :=
  typeName_ptr_named (nm := "errors.errorString") (by rw [star5]; kernel_rfl) (by kernel_rfl) (by decide) u (by rw [star5]; exact h)
open YtibleheeajlfjaaDoor.Rows in
/-- What the rows list. -/
abbrev laid5 : List (String × DataW Unit) := cutMakesRow.laid
theorem gls_laid {W : World} (h : laidMetH Tryd.prog laid5 W) : GlobOK (gls5 W5) (memOf W) := by
  rw [MakeChecks.laidMetH_plain _ _ _ (by kernel_rfl)] at h
  have e2 : GlobAt (memOf W) 2 (.er 2 125) := laid_er h (by kernel_rfl) (by kernel_rfl) Tryd.underlying43 row5 Tryd.underlying125 Tryd.underlying142 rfl rfl Tryd.underlying9 (by kernel_rfl) (by kernel_rfl)
  have e8 : GlobAt (memOf W) 8 (.er 8 125) := laid_er h.tail (by kernel_rfl) (by kernel_rfl) Tryd.underlying43 row5 Tryd.underlying125 Tryd.underlying142 rfl rfl Tryd.underlying9 (by kernel_rfl) (by kernel_rfl)
  have e3 : GlobAt (memOf W) 3 (.er 3 125) := laid_er h.tail.tail (by kernel_rfl) (by kernel_rfl) Tryd.underlying43 row5 Tryd.underlying125 Tryd.underlying142 rfl rfl Tryd.underlying9 (by kernel_rfl) (by kernel_rfl)
  have e9 : GlobAt (memOf W) 9 (.er 9 125) := laid_er h.tail.tail.tail (by kernel_rfl) (by kernel_rfl) Tryd.underlying43 row5 Tryd.underlying125 Tryd.underlying142 rfl rfl Tryd.underlying9 (by kernel_rfl) (by kernel_rfl)
  have e4 : GlobAt (memOf W) 4 (.er 4 125) := laid_er h.tail.tail.tail.tail (by kernel_rfl) (by kernel_rfl) Tryd.underlying43 row5 Tryd.underlying125 Tryd.underlying142 rfl rfl Tryd.underlying9 (by kernel_rfl) (by kernel_rfl)
  have e10 : GlobAt (memOf W) 10 (.er 10 125) := laid_er h.tail.tail.tail.tail.tail (by kernel_rfl) (by kernel_rfl) Tryd.underlying43 row5 Tryd.underlying125 Tryd.underlying142 rfl rfl Tryd.underlying9 (by kernel_rfl) (by kernel_rfl)
  have e0 : GlobAt (memOf W) 0 (.er 0 125) := laid_er h.tail.tail.tail.tail.tail.tail (by kernel_rfl) (by kernel_rfl) Tryd.underlying43 row5 Tryd.underlying125 Tryd.underlying142 rfl rfl Tryd.underlying9 (by kernel_rfl) (by kernel_rfl)
  have e5 : GlobAt (memOf W) 5 (.er 5 125) := laid_er h.tail.tail.tail.tail.tail.tail.tail (by kernel_rfl) (by kernel_rfl) Tryd.underlying43 row5 Tryd.underlying125 Tryd.underlying142 rfl rfl Tryd.underlying9 (by kernel_rfl) (by kernel_rfl)
  have e6 : GlobAt (memOf W) 6 (.er 6 125) := laid_er h.tail.tail.tail.tail.tail.tail.tail.tail (by kernel_rfl) (by kernel_rfl) Tryd.underlying43 row5 Tryd.underlying125 Tryd.underlying142 rfl rfl Tryd.underlying9 (by kernel_rfl) (by kernel_rfl)
  have e7 : GlobAt (memOf W) 7 (.er 7 125) := laid_er h.tail.tail.tail.tail.tail.tail.tail.tail.tail (by kernel_rfl) (by kernel_rfl) Tryd.underlying43 row5 Tryd.underlying125 Tryd.underlying142 rfl rfl Tryd.underlying9 (by kernel_rfl) (by kernel_rfl)
  have e1 : GlobAt (memOf W) 1 (.er 1 125) := laid_er h.tail.tail.tail.tail.tail.tail.tail.tail.tail.tail (by kernel_rfl) (by kernel_rfl) Tryd.underlying43 row5 Tryd.underlying125 Tryd.underlying142 rfl rfl Tryd.underlying9 (by kernel_rfl) (by kernel_rfl)
  have e11 : GlobAt (memOf W) 11 (.tup (wds W5 11 4)) := laid_strs (texts := [W5 11 0, W5 11 1, W5 11 2, W5 11 3]) h.tail.tail.tail.tail.tail.tail.tail.tail.tail.tail.tail (by kernel_rfl) (by kernel_rfl) Tryd.underlying120 Tryd.underlying9 (by kernel_rfl)
  have e12 : GlobAt (memOf W) 12 (.tup (wds W5 12 7)) := laid_strs (texts := [W5 12 0, W5 12 1, W5 12 2, W5 12 3, W5 12 4, W5 12 5, W5 12 6]) h.tail.tail.tail.tail.tail.tail.tail.tail.tail.tail.tail.tail (by kernel_rfl) (by kernel_rfl) Tryd.underlying122 Tryd.underlying9 (by kernel_rfl)
  have e13 : GlobAt (memOf W) 13 (.tup (wds W5 13 9)) := laid_strs (texts := [W5 13 0, W5 13 1, W5 13 2, W5 13 3, W5 13 4, W5 13 5, W5 13 6, W5 13 7, W5 13 8]) h.tail.tail.tail.tail.tail.tail.tail.tail.tail.tail.tail.tail.tail (by kernel_rfl) (by kernel_rfl) Tryd.underlying123 Tryd.underlying9 (by kernel_rfl)
  have e14 : GlobAt (memOf W) 14 (.tup (wds W5 14 3)) := laid_strs (texts := [W5 14 0, W5 14 1, W5 14 2]) h.tail.tail.tail.tail.tail.tail.tail.tail.tail.tail.tail.tail.tail.tail (by kernel_rfl) (by kernel_rfl) Tryd.underlying124 Tryd.underlying9 (by kernel_rfl)
  have e15 : GlobAt (memOf W) 15 (.tup (wds W5 15 4)) := laid_strs (texts := [W5 15 0, W5 15 1, W5 15 2, W5 15 3]) h.tail.tail.tail.tail.tail.tail.tail.tail.tail.tail.tail.tail.tail.tail.tail (by kernel_rfl) (by kernel_rfl) Tryd.underlying120 Tryd.underlying9 (by kernel_rfl)
  have e16 : GlobAt (memOf W) 16 (.tup (wds W5 16 4)) := laid_strs (texts := [W5 16 0, W5 16 1, W5 16 2, W5 16 3]) h.tail.tail.tail.tail.tail.tail.tail.tail.tail.tail.tail.tail.tail.tail.tail.tail (by kernel_rfl) (by kernel_rfl) Tryd.underlying120 Tryd.underlying9 (by kernel_rfl)
  intro g s hg
  match g, hg with
  | 0, hg => cases hg; exact e0
  | 1, hg => cases hg; exact e1
  | 2, hg => cases hg; exact e2
  | 3, hg => cases hg; exact e3
  | 4, hg => cases hg; exact e4
  | 5, hg => cases hg; exact e5
  | 6, hg => cases hg; exact e6
  | 7, hg => cases hg; exact e7
  | 8, hg => cases hg; exact e8
  | 9, hg => cases hg; exact e9
  | 10, hg => cases hg; exact e10
  | 11, hg => cases hg; exact e11
  | 12, hg => cases hg; exact e12
  | 13, hg => cases hg; exact e13
  | 14, hg => cases hg; exact e14
  | 15, hg => cases hg; exact e15
  | 16, hg => cases hg; exact e16
  | n + 17, hg => simp [gls5, look?] at hg
end Go.Proofs
namespace Go.Sx
open Go.RowKit Go.ChangeShapes Go.WideShapes Go.Deep Go.Pl
theorem SpecRes.below {H : Mem} {w w' : World} {s : Sh} {v : Value} {H' : Mem} (h : SpecRes H w s v H' w') : Below w.heap.size w w' := ⟨h.os, h.tape, h.output, h.size, h.old⟩
theorem SpecRes.bool {H : Mem} {w w' : World} {b : Bool} {v : Value} {H' : Mem} (h : SpecRes H w (.b b) v H' w') : v = .bool b := by
  obtain ⟨E1, _, _, h1, _⟩ := h.res 0
  exact h1
/-- Each parameter's type can be read. -/
def rowedB (P : Program) (ts : List TypeId) : Bool := ts.all fun t => P.readableRec t && decide (t < P.types.size)
section
variable {H : Type} {enc : TypeId × Value → H} {P : Program}
theorem below_all (hl : laidOutB P = true) {W W' : World} (hb : Below W.heap.size W W') :
    ∀ {ts : List TypeId} {vs : List Value} {ds : List (DataW H)} {p : List MemPlace}, rowedB P ts = true → DataW.TrodAll enc P W 0 (fun _ => true) true ts vs ds p → (∀ x ∈ p, x.block < W.heap.size) →
      DataW.TrodAll enc P W' 0 (fun b => decide (b < W.heap.size)) true ts vs ds p
  | [], _, _, _, _, h, _ => by
    obtain ⟨rfl, rfl, rfl⟩ := trodAll_nil h
    exact rfl
  | t :: ts, _, _, _, hr, h, hlt => by
    obtain ⟨v, vs1, d, ds1, a, b, rfl, rfl, rfl, h1, h2⟩ := trodAll_cons h
    simp only [rowedB, List.all_cons, Bool.and_eq_true, decide_eq_true_eq] at hr
    exact ⟨a, b, Below.trod hl hr.1.1 hr.1.2 h1 hb fun x hx => hlt x (List.mem_append_left _ hx), below_all hl hb (by simp only [rowedB]; exact hr.2) h2 fun x hx => hlt x (List.mem_append_right _ hx), rfl⟩
/-- The row's post of a law that has answered true. -/
theorem post_law (hl : laidOutB P = true) {f : Func} {s : ChangeSpec} {W W' : World} {args : Array Value} {t : TypeId} {ds gs : List (DataW H)} {before : List MemPlace} (hs : s.vars = []) (hr : rowedB P f.params.toList = true) (ht : f.resultTypes = #[t]) (hu : P.underlying t = some .bool)
    (hW : DataW.Whole enc P f.params.toList s.vars false W args.toList ds gs before) (hb : Below W.heap.size W W')
    (h1 : (s.fn H (ds ++ gs)).results = [.lit (.bool true)]) (h2 : (s.fn H (ds ++ gs)).args = ds) (h3 : (s.fn H (ds ++ gs)).vars = []) :
    s.post enc P f false true false false W args (.bool true) W' := by
  have hlt := hW.lt
  have hW0 := hW
  obtain ⟨p, q, hA, hV, e, hfz, hnd⟩ := hW
  rw [hs] at hV
  obtain ⟨rfl, rfl⟩ := trodVars_none hV
  subst e
  refine ⟨ds, [], p ++ [], [], p, [], hW0, ?_, ?_, ?_, Below.frame hb _, fun e => by cases e⟩
  · rw [h1, ht]
    exact trodAll_mk1 (shut_bool hu true)
  · rw [h2]
    exact below_all hl hb hr hA fun x hx => hlt x (by simpa using hx)
  · rw [h3, hs]
    exact rfl
end
theorem okB_rows {α : Type} [Row α] {k n : Nat} {g : Nat → List Sh} (hk : ∀ ns : List Int, ns.length = k → (Row.get (α := α) (shInts ns)).isSome = true) (h : ∀ i, i < n → ∃ ns : List Int, ns.length = k ∧ g i = shInts ns ∧ ∀ n ∈ ns, int64 n) : okB α n g = true := by
  induction n with
  | zero => rfl
  | succ n ih =>
    obtain ⟨ns, h1, h2, _⟩ := h n (by omega)
    simp only [okB, ih fun i hi => h i (by omega), Bool.true_and]
    rw [h2]
    exact hk ns h1
theorem okB_oj {n : Nat} {g : Nat → List Sh} (h : ∀ i, i < n → ∃ ns : List Int, ns.length = 2 ∧ g i = shInts ns ∧ ∀ n ∈ ns, int64 n) : okB Oj n g = true := okB_rows (fun ns hn => by
  match ns, hn with
  | [a, b], _ => rfl) h
theorem okB_ev {n : Nat} {g : Nat → List Sh} (h : ∀ i, i < n → ∃ ns : List Int, ns.length = 8 ∧ g i = shInts ns ∧ ∀ n ∈ ns, int64 n) : okB Ev n g = true := okB_rows (fun ns hn => by
  match ns, hn with
  | [a, b, c, d, e, f, g, h], _ => rfl) h
theorem okB_in {n : Nat} {g : Nat → List Sh} (h : ∀ i, i < n → ∃ ns : List Int, ns.length = 1 ∧ g i = shInts ns ∧ ∀ n ∈ ns, int64 n) : okB Int n g = true := okB_rows (fun ns hn => by
  match ns, hn with
  | [a], _ => rfl) h
end Go.Sx
