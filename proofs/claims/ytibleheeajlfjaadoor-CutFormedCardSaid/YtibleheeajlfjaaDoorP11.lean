/-
  Targets that stand at one place: the first that fits is taken. Own work. Chapter 5: what the laws have in common: the library as things of which nothing is known, rules, plain facts on lists of events. Own work. Chapter 5: the law CutFormed; evaluated. The equations are written by program (gen2.py). Own work. Chapter 5, plain law: of a well-formed history the events of some transactions alone are well-formed. Own work. Chapter 5, plain law: a well-formed history without a deed is well-formed. Own work. Chapter 5, plain law: a well-formed history without a deed is well-formed, the second part. Own work. Chapter 5: summary: the law CutFormed answers true. Own work. From the readings of a row to the shapes of the executor: ints, flat structs of ints, slices of them, the listed variables; and back: the row's post. Own work. The listed variables, as the executor's globals. Own work.
-/
import Derived.Test.YtibleheeajlfjaaDoorP10
import Derived.ProofKit
import Derived.Deep.Slices
import Derived.Stop.LaidErr
import Derived.LaidMore
import Derived.OpenShut
import Derived.MakeChecks
namespace Go.Sx
def matchU (g : Nat) (td : List It) (c : Core) (stk : List Fr) : Nat → List Tgt → Tree Fe2
  | _, [] => .fail
  | k, t :: r => bif g == t.g && itsEq td t.td && sameStk stk t.stk then match app2 (qC (t.rn c stk) c t.c) (qStk c.hp (t.rn c stk) stk t.stk) with
      | some l => .leaf (.at_ k l)
      | none => matchU g td c stk (k + 1) r
    else matchU g td c stk (k + 1) r
def toFeU (ts : List Tgt) : OutS → Tree Fe2
  | .fin v c => match finish c v with
    | some s => .leaf (.ret s)
    | none => .fail
  | .stop g td c stk => matchU g td c stk 0 ts
def runU (C : Ctx) (hold : Nat → Bool) (m n g : Nat) (td : List It) (c : Core) (stk : List Fr) (ts : List Tgt) : Tree Fe2 := (runS C hold m n g td c stk).bind (toFeU ts)
section
variable {P : Program} {C : Ctx} {K : Kx} {H0 : Mem} {w0 : World}
theorem matchU_ok {R : Hp → Prop} {φ : Sh → Prop} {ts : List Tgt} {g : Nat} {td : List It} {c : Core} {stk : List Fr} : ∀ {r : List Tgt} {k : Nat}, (∀ j, r[j]? = ts[k + j]?) → (matchU g td c stk k r).All (Fe2OK P C K ts R φ) → GoesS P C K g td c stk R φ
  | [], _, _, h => h.elim
  | t :: r, k, hk, h => by
    have hr : ∀ j, r[j]? = ts[k + 1 + j]? := fun j => by have := hk (j + 1); simp only [List.getElem?_cons_succ] at this; rw [this]; congr 1; omega
    unfold matchU at h
    cases hb : (g == t.g && itsEq td t.td && sameStk stk t.stk) <;> simp only [hb, cond_true, cond_false] at h
    · exact matchU_ok hr h
    · simp only [Bool.and_eq_true, beq_iff_eq] at hb
      obtain ⟨⟨h1, h2⟩, h3⟩ := hb
      split at h
      · rename_i l hl
        obtain ⟨a, b, q1, q2, rfl⟩ := app2_some hl
        obtain ⟨hl, t', ht, hg⟩ := h
        have := hk 0
        simp only [List.getElem?_cons_zero, Nat.add_zero] at this
        rw [← this] at ht
        cases ht
        have h2 := itsEq_ok h2
        subst h1 h2
        exact goesS_weak (t.rn c stk) (qC_ok q1 (Eqn.all_app hl).1) (qStk_ok q2 (Eqn.all_app hl).2) hg
      · exact matchU_ok hr h
theorem goesS_runU (hC : CtxOK P C) (hF : FnsOK P C) {hold : Nat → Bool} {m n g : Nat} {td : List It} {c : Core} {stk : List Fr} {ts : List Tgt} {R : Hp → Prop} {φ : Sh → Prop}
    (h : (runU C hold m n g td c stk ts).All (Fe2OK P C (K0 H0 w0) ts R φ)) : GoesS P C (K0 H0 w0) g td c stk R φ := by
  refine goesS_run hC hF (hold := hold) (m := m) (n := n) ((Tree.All_bind h).mono fun o ho => ?_)
  cases o with
  | fin v c =>
    simp only [toFeU] at ho
    split at ho
    · rename_i s hs
      exact ⟨s, hs, ho⟩
    · exact ho.elim
  | stop g td c stk => exact matchU_ok (k := 0) (fun j => by simp) ho
end
/-! A run that pauses at given places. -/
def runQ (C : Ctx) (pause : Nat → List It → Bool) (hold : Nat → Bool) (m : Nat) : Nat → Nat → List It → Core → List Fr → Tree OutS
  | 0, g, td, c, stk => .leaf (.stop g td c stk)
  | n + 1, g, td, c, stk => match C.fns.get g with
    | none => .fail
    | some fn => bif pause g td || holdB hold fn td c then .leaf (.stop g td c stk) else match pushOf C fn td c with
      | some r => runQ C pause hold m n r.1 [.code []] { c with tm := r.2.2 ++ List.replicate (r.2.1.ntmps - r.2.2.length) .any } ({ g, td, tm := c.tm } :: stk)
      | none => (stepR C (callWith C (run C m false)) true g fn td c).bind fun s => match s with
        | .go td c => runQ C pause hold m n g td c stk
        | .halt td c => .leaf (.stop g td c stk)
        | .done v c => match stk with
          | [] => .leaf (.fin v c)
          | f :: stk => match popOf C f v c with
            | some r => runQ C pause hold m n f.g r.1 r.2 stk
            | none => .fail
section
variable {P : Program} {C : Ctx} {K : Kx} {H H' H'' H0 : Mem} {E E' E'' E1 : Env} {w w' w'' w0 : World}
theorem goesS_runQ (hC : CtxOK P C) (hF : FnsOK P C) {pause : Nat → List It → Bool} {hold : Nat → Bool} {m : Nat} {R : Hp → Prop} {φ : Sh → Prop} : ∀ {n g : Nat} {td : List It} {c : Core} {stk : List Fr}, (runQ C pause hold m n g td c stk).All (OutSOK P C (K0 H0 w0) R φ) → GoesS P C (K0 H0 w0) g td c stk R φ
  | 0, g, td, c, stk, h => h
  | n + 1, g, td, c, stk, h => by
    intro H E w a items ms cs fn hfn st hi hs hx
    simp only [runQ, hfn] at h
    cases hhold : (pause g td || holdB hold fn td c) <;> simp only [hhold, cond_true, cond_false] at h
    rotate_left
    · exact h H E w a items ms cs fn hfn st hi hs hx
    split at h
    · -- a call is entered
      rename_i r hr
      unfold pushOf at hr
      split at hr
      · rename_i p i rest k
        split at hr
        · rename_i rid ops dr hcode
          split at hr
          · rename_i o ho
            split at hr
            · rename_i hwant
              split at hr
              · rename_i kk hop
                split at hr
                · rename_i f hcal
                  split at hr
                  · rename_i g2 caps hev
                    split at hr
                    · cases hr
                    · rename_i hspec
                      split at hr
                      · rename_i fn2 hfn2
                        cases hb : (Nat.ble (kk.args.toList.map (evL c.tm) ++ caps).length fn2.ntmps && fn2.body.isSome) <;> simp only [hb, cond_true, cond_false] at hr
                        · cases hr
                        cases hr
                        simp only [Bool.and_eq_true] at hb
                        obtain ⟨body2, hbody2⟩ := Option.isSome_iff_exists.1 hb.2
                        have ih := goesS_runQ hC hF h
                        have hP2 := hC.fn g2 fn2 hfn2
                        cases hi with
                        | reg p l id ops2 hc hk =>
                          rw [hc] at hcode
                          cases hcode
                          rename_i k'
                          have df := den_ev (H := H) (E := E) st.den f
                          rw [hev] at df
                          obtain ⟨vs, ef, hvs⟩ := df
                          have hargs := (den_map st.den kk.args.toList).append hvs
                          have ho' : ops[i]? = some o := by simpa [opAt] using ho
                          have hw' := wantOf_spec (ops := ops) st.den o
                          rw [hwant] at hw'
                          have hent := hF.en g2 (.inr (by rw [hfn2]; rfl))
                          have hrun : (execOp a.eval o).run P w = .ok (.enter g2 (kk.args.map a.eval ++ vs)) w := by
                            simp only [execOp, hop, resolve, hcal]
                            simp [Deferred.ofValue, ef, invoke, callFunc_run hent]
                          have hg := stepG_op (P := P) (b := base g) (k := k') (cs := ms ++ cs) (w := w) (rest := rest) ho' hw'
                          have henter : step P (lone ((base g).at a (.inRegion ops (i :: rest) :: k')) (ms ++ cs) w) = .next (lone (Frame.enter P g2 (kk.args.map a.eval ++ vs) .normal) ((base g).at a (.inRegion ops (i :: rest) :: k') :: (ms ++ cs)) w) :=
                            step_lone_go (by rw [hg]; simp [stepG.apply, hrun, Frame.at])
                          rw [enter_base hP2 hbody2] at henter
                          have hl := hargs.length
                          have hlen : (kk.args.map a.eval ++ vs).size = (kk.args.toList.map (evL c.tm) ++ caps).length := by
                            rw [← hl]; simp
                          have st2 : St C (K0 H0 w0) H E w { c with tm := (kk.args.toList.map (evL c.tm) ++ caps) ++ List.replicate (fn2.ntmps - (kk.args.toList.map (evL c.tm) ++ caps).length) .any } { tmps := (kk.args.map a.eval ++ vs) ++ Array.replicate (fn2.ntmps - (kk.args.map a.eval ++ vs).size) undef, defers := [] } := by
                            refine ⟨?_, st.hp, st.wok, st.free, st.gl, rfl⟩
                            have : ((kk.args.map a.eval ++ vs) ++ Array.replicate (fn2.ntmps - (kk.args.map a.eval ++ vs).size) undef).toList = (kk.args.toList.map a.eval ++ vs.toList) ++ List.replicate (fn2.ntmps - (kk.args.toList.map (evL c.tm) ++ caps).length) undef := by
                              rw [hlen]; simp
                            simp only [this]
                            exact hargs.append (DenL.any _ _ (by simp))
                          have hit2 : ItOK (bodyOf fn2) [.code []] [.code body2] := by
                            have := ItOK.code (body := bodyOf fn2) [] ItOK.nil
                            have he : codeAt (bodyOf fn2) [] = body2 := by simp [codeAt, bodyOf, hbody2]
                            rwa [he] at this
                          have hs2 : StkOK C H E ({ g, td := .reg p (i :: rest) :: k, tm := c.tm } :: stk) ((base g).at a (.inRegion ops (i :: rest) :: k') :: ms) :=
                            ⟨⟨fn, a, _, hfn, st.den, st.defers, .reg p (i :: rest) _ ops hc hk, rfl⟩, hs⟩
                          obtain ⟨a', w', v, s, H', todo, fn0, q1, q2, q3⟩ := ih H E w _ _ (_ :: ms) cs fn2 hfn2 st2 hit2 hs2 hx
                          exact ⟨a', w', v, s, H', todo, fn0, q1, .head henter q2, q3⟩
                      · cases hr
                  · cases hr
                · cases hr
              · cases hr
            · cases hr
          · cases hr
        · cases hr
      · cases hr
    · have hK := call_hyp (K := reK H E w c.hp) hC hF (run_ok hC hF m)
      obtain ⟨sig, h1, h2⟩ := stepR_ok hC hF hK (Tree.All_bind h) st.re hi (base g) (ms ++ cs)
      cases sig with
      | go td' c' =>
        obtain ⟨a', w', H', E', items', q1, q2, q3, q4⟩ := h2
        obtain ⟨a2, w2, v, s, H2, todo, fn0, r1, r2, r3⟩ := goesS_runQ hC hF h1 H' E' w' a' items' ms cs fn hfn (st.un q2) q4 (hs.le q3.Hle q3.Ele) (hx.keep st q2 q3)
        exact ⟨a2, w2, v, s, H2, todo, fn0, r1, q1.trans r2, r3⟩
      | halt td' c' =>
        obtain ⟨a', w', H', E', items', q1, q2, q3, q4⟩ := h2
        obtain ⟨a2, w2, v, s, H2, todo, fn0, r1, r2, r3⟩ := h1 H' E' w' a' items' ms cs fn hfn (st.un q2) q4 (hs.le q3.Hle q3.Ele) (hx.keep st q2 q3)
        exact ⟨a2, w2, v, s, H2, todo, fn0, r1, q1.trans r2, r3⟩
      | done sv c' =>
        obtain ⟨a', w', H', E', v, todo, q1, q2, q3, q4, q5⟩ := h2
        cases stk with
        | nil =>
          cases ms with
          | cons _ _ => exact hs.elim
          | nil =>
            obtain ⟨s, e1, e2⟩ := h1
            obtain ⟨H2, r⟩ := finish_ok (st.un q2) e1 q4
            exact ⟨a', w', v, s, H2, todo, fn, hfn, q1, q2.defers, e2, r, q5⟩
        | cons f stk =>
          cases ms with
          | nil => exact hs.elim
          | cons mf ms =>
            simp only at h1
            split at h1
            · rename_i r hr
              unfold popOf at hr
              split at hr
              · rename_i fnf hfnf
                split at hr
                · rename_i p i rest k htd
                  split at hr
                  · rename_i rid ops dr hcode
                    cases hr
                    obtain ⟨⟨fn3, a3, items3, g1, g2, g3, g4, g5⟩, hs'⟩ := hs.le q3.Hle q3.Ele
                    rw [hfnf] at g1; cases g1
                    rw [htd] at g4
                    cases g4 with
                    | reg p l id ops2 hc hk =>
                      rw [hc] at hcode
                      cases hcode
                      rename_i k'
                      subst g5
                      have hleave : step P (lone { (base g).at a' todo with mode := .returning } ((base f.g).at a3 (.inRegion ops (i :: rest) :: k') :: (ms ++ cs)) w') = .next (lone ((base f.g).at (a3.put ((opAt ops.toList i).bind (·.dst)) v) (.inRegion ops rest :: k')) (ms ++ cs) w') := by
                        rw [step_leave_returned (v := v) ⟨rfl, q2.defers, rfl, fn, hC.fn g fn hfn, q5⟩, Frame.finish_at]
                        simp [opAt]
                      have st3 : St C (K0 H0 w0) H' E' w' { c' with tm := putS f.tm ((opAt ops.toList i).bind (·.dst)) sv } (a3.put ((opAt ops.toList i).bind (·.dst)) v) :=
                        ⟨den_put (c := { c' with tm := f.tm }) g2 _ q4, (st.un q2).hp, (st.un q2).wok, q2.free, q2.gl, by rw [put_defers]; exact g3⟩
                      obtain ⟨a2, w2, v2, s, H2, todo2, fn0, r1, r2, r3⟩ := goesS_runQ hC hF h1 H' E' w' _ _ ms cs fnf hfnf st3 (.reg p rest _ ops hc hk) hs' (hx.keep st q2 q3)
                      exact ⟨a2, w2, v2, s, H2, todo2, fn0, r1, (q1.trans (.one hleave)).trans r2, r3⟩
                  · cases hr
                · cases hr
              · cases hr
            · exact h1.elim
def runV (C : Ctx) (pause : Nat → List It → Bool) (m n g : Nat) (td : List It) (c : Core) (stk : List Fr) (ts : List Tgt) : Tree Fe2 := (runQ C pause (fun _ => false) m n g td c stk).bind (toFeU ts)
theorem goesS_runV (hC : CtxOK P C) (hF : FnsOK P C) {pause : Nat → List It → Bool} {m n g : Nat} {td : List It} {c : Core} {stk : List Fr} {ts : List Tgt} {φ : Sh → Prop} {R : Hp → Prop}
    (h : (runV C pause m n g td c stk ts).All (Fe2OK P C (K0 H0 w0) ts R φ)) : GoesS P C (K0 H0 w0) g td c stk R φ := by
  refine goesS_runQ hC hF (pause := pause) (hold := fun _ => false) (m := m) (n := n) ((Tree.All_bind h).mono fun o ho => ?_)
  cases o with
  | fin v c =>
    simp only [toFeU] at ho
    split at ho
    · rename_i s hs
      exact ⟨s, hs, ho⟩
    · exact ho.elim
  | stop g td c stk => exact matchU_ok (k := 0) (fun j => by simp) ho
end
end Go.Sx
namespace Go.Pl
open Go Go.Sx
def smallB (n m : Nat) : Bool := decide (n ≤ 100) && decide (m ≤ 600)
def sameHB (n m : Nat) (g h : Nat → List Sh) (n' m' : Nat) (g' h' : Nat → List Sh) : Bool := sameL (lst Oj n g) (lst Oj n' g') && sameL (lst Ev m h) (lst Ev m' h')
def subHB (n m : Nat) (g h : Nat → List Sh) (n' m' : Nat) (g' h' : Nat → List Sh) : Bool := sameL (lst Oj n g) (lst Oj n' g') && subB (rwAt h') m' 0 (rwAt h) m
/-- A list of values of which few are known. -/
def tmOf (n : Nat) (l : List (Nat × SV)) : List SV := l.foldl (fun t p => t.set p.1 p.2) (List.replicate n .any)
end Go.Pl
namespace Go.Proofs
open Go Go.Sx Go.Pl
def F9p : List Sh → Tree Sh
  | [.agg [.sl 2 n _, .sl 8 m _]] => .leaf (.b (smallB n m))
  | _ => .fail
def F12p : List Sh → Tree Sh
  | [.agg [.sl 2 n g, .sl 8 m h], .agg [.sl 2 n' g', .sl 8 m' h']] => .need (okB Oj n g) (.need (okB Oj n' g') (.need (okB Ev m h) (.need (okB Ev m' h') (.leaf (.b (sameHB n m g h n' m' g' h'))))))
  | _ => .fail
def F21p : List Sh → Tree Sh
  | [.agg [.sl 2 n g, .sl 8 m h], .agg [.sl 2 n' g', .sl 8 m' h']] => .need (okB Oj n g) (.need (okB Oj n' g') (.need (okB Ev m h) (.need (okB Ev m' h') (.leaf (.b (subHB n m g h n' m' g' h'))))))
  | _ => .fail
theorem O9p : FnOK Tryd.prog (gls5 W5) 9 F9p := O9
theorem O12p : FnOK Tryd.prog (gls5 W5) 12 F12p := O12
theorem O21p : FnOK Tryd.prog (gls5 W5) 21 F21p := O21
theorem O22p : FnOK Tryd.prog (gls5 W5) 22 F21p := O22
end Go.Proofs
namespace Go.Pl
open Go Go.Sx
theorem subB_congr {p p' : Nat → Ev} : ∀ (k i : Nat) (q q' : Nat → Ev) (r : Nat), (∀ j, j < k → p (i + j) = p' (i + j)) → (∀ j, j < r → q j = q' j) → subB p k i q r = subB p' k i q' r
  | 0, _, _, _, _, _, _ => rfl
  | k + 1, i, q, q', r, h1, h2 => by
    have hp : p i = p' i := h1 0 (by omega)
    have h1' : ∀ j, j < k → p (i + 1 + j) = p' (i + 1 + j) := fun j hj => by
      have := h1 (j + 1) (by omega)
      rwa [show i + (j + 1) = i + 1 + j by omega] at this
    simp only [subB]
    by_cases hr : 0 < r
    · rw [h2 0 hr, hp]
      cases (decide (0 < r) && evEq (q' 0) (p' i)) with
      | true => simp only [cond_true]; exact subB_congr k (i + 1) _ _ _ h1' fun j hj => h2 (1 + j) (by omega)
      | false => simp only [cond_false]; exact subB_congr k (i + 1) _ _ _ h1' h2
    · have e : decide (0 < r) = false := decide_eq_false hr
      rw [e]
      simp only [Bool.false_and, cond_false]
      exact subB_congr k (i + 1) _ _ _ h1' h2
theorem rwAt_fnR {α : Type} [Row α] (o : Nat → α) : rwAt (fnR o) = o := funext fun i => rowAt_put o i
theorem lst_pt {α : Type} [Row α] {n : Nat} {o p : Nat → α} (h : ∀ j, j < n → o j = p j) : lst α n (fnR o) = lst α n (fnR p) := lst_congr fun i hi => by simp only [fnR, h i hi]
theorem keptF_congr {P : Nat → Ev → Bool} {p p' : Nat → Ev} : ∀ {m : Nat}, (∀ j, j < m → p j = p' j) → keptF P p m = keptF P p' m
  | 0, _ => rfl
  | m + 1, h => by
    simp only [keptF]
    rw [keptF_congr (m := m) fun j hj => h j (by omega), h m (by omega)]
theorem keptF_ext {P Q : Nat → Ev → Bool} {p : Nat → Ev} (h : ∀ i e, P i e = Q i e) : ∀ {m : Nat}, keptF P p m = keptF Q p m
  | 0 => rfl
  | m + 1 => by
    simp only [keptF]
    rw [keptF_ext h (m := m), h]
theorem sameHB_true {n m n' m' : Nat} {g h g' h' : Nat → List Sh} (h1 : lst Oj n g = lst Oj n' g') (h2 : lst Ev m h = lst Ev m' h') : sameHB n m g h n' m' g' h' = true := by
  unfold sameHB
  rw [sameL_true h1, sameL_true h2]; rfl
def txf (p : Nat → Ev) (j : Nat) : Int := (p j).tx
theorem lst_kept (l : List Ev) : lst Ev (len l) (fnR (nth l)) = l := lst_nth l
theorem okB_kept (l : List Ev) : okB Ev (len l) (fnR (nth l)) = true := okB_put _ _
theorem room_le {n b : Nat} (h : n ≤ 100000) (hb : b ≤ 1000) : roomB n b = true := by
  show decide (n * b ≤ 140737488355328 ∧ n ≤ maxLen) = true
  rw [maxLen_eq]
  have : n * b ≤ 100000 * 1000 := Nat.mul_le_mul h hb
  exact decide_eq_true ⟨by omega, by omega⟩
theorem proom_le {n b : Nat} (h : n ≤ 100000) (hb : b ≤ 1000) : prim.room n b = true := room_le h hb
end Go.Pl
namespace Go.Proofs
open Go Go.Sx Go.Pl
theorem upN_le (x : Int) (m : Nat) : upN x m ≤ m := by unfold upN; omega
end Go.Proofs
namespace Go.Pl
open Go Go.Sx Go.Proofs
def keepN (x : Int) : Nat → Ev → Bool := fun _ e => !(e.tx == x)
/-- What the functions below answer, as things of which nothing is known while a law is run. -/
structure Lb5 where
  km : (Nat → Ev → Bool) → Nat → (Nat → Ev) → Nat
  kp : (Nat → Ev → Bool) → Nat → (Nat → Ev) → Nat → Ev
  sub : Nat → Nat → (Nat → List Sh) → (Nat → List Sh) → Nat → Nat → (Nat → List Sh) → (Nat → List Sh) → Bool
  same : Nat → Nat → (Nat → List Sh) → (Nat → List Sh) → Nat → Nat → (Nat → List Sh) → (Nat → List Sh) → Bool
  un : Int → Nat → Nat
  dl : Nat → (Nat → Ev) → Int → Int → Nat
  dp : Nat → (Nat → Ev) → Int → Int → Nat → Ev
  k : Nat → (Nat → Ev) → Int
  e : Nat → (Nat → Ev) → Nat
  bk : Nat → Nat → (Nat → List Sh) → (Nat → List Sh) → Int
  be : Nat → Nat → (Nat → List Sh) → (Nat → List Sh) → Nat
  sp : (Nat → Ev) → Nat → Nat
def L5 : Lb5 where
  km P m p := len (keptF P p m)
  kp P m p := nth (keptF P p m)
  sub := subHB
  same := sameHB
  un := upN
  dl m p x k := len (dropE m p x k)
  dp m p x k := nth (dropE m p x k)
  k := takeK
  e := takeE
  bk := badPos
  be := badNo
  sp := spN
end Go.Pl
namespace Go.Proofs
open Go Go.Sx Go.Pl
def G15 (L : Lb5) : List Sh → Tree Sh
  | [.agg [.sl 2 n g, .sl 8 m h], .i .i64 x] => .need (okB Ev m h) (.need (roomB n 16) (.need (roomB m 64) (.leaf (.agg [.os 31 2 n g, .os 34 8 (L.km (keepN x) m (rwAt h)) (fnR (L.kp (keepN x) m (rwAt h)))]))))
  | _ => .fail
def G17 (L : Lb5) : List Sh → Tree Sh
  | [.agg [.sl 2 n g, .sl 8 m h], cl] => match keepP cl with
    | some P => .need (okB Ev m h) (.need (roomB n 16) (.need (roomB m 64) (.leaf (.agg [.os 31 2 n g, .os 34 8 (L.km P m (rwAt h)) (fnR (L.kp P m (rwAt h)))]))))
    | none => .fail
  | _ => .fail
def G12 (L : Lb5) : List Sh → Tree Sh
  | [.agg [.sl 2 n g, .sl 8 m h], .agg [.sl 2 n' g', .sl 8 m' h']] => .need (okB Oj n g) (.need (okB Oj n' g') (.need (okB Ev m h) (.need (okB Ev m' h') (.leaf (.b (L.same n m g h n' m' g' h'))))))
  | _ => .fail
def G21 (L : Lb5) : List Sh → Tree Sh
  | [.agg [.sl 2 n g, .sl 8 m h], .agg [.sl 2 n' g', .sl 8 m' h']] => .need (okB Oj n g) (.need (okB Oj n' g') (.need (okB Ev m h) (.need (okB Ev m' h') (.leaf (.b (L.sub n m g h n' m' g' h'))))))
  | _ => .fail
def G13 (L : Lb5) : List Sh → Tree Sh
  | [.agg [.sl 2 n g, .sl 8 m h], .i .i64 x] => .need (roomB n 16) (.need (roomB (L.un x m) 64) (.leaf (.agg [.os 31 2 n g, .os 34 8 (L.un x m) h])))
  | _ => .fail
def G23 (L : Lb5) : List Sh → Tree Sh
  | [.agg [.sl 2 n g, .sl 8 m h], .i .i64 x, .i .i64 k] => .need (okB Oj n g) (.need (okB Ev m h) (.need (retsB m h) (.node (bigB n m) (.leaf (.tup [.agg [.sl 0 0 fun _ => [], .sl 0 0 fun _ => []], .er 2 125])) (.node (goodB n m g h)
      (.node (takeB m (rwAt h)) (.node (txB m (rwAt h) x) (.node (deedB m (rwAt h) x k) (.leaf (.tup [.agg [.os 31 2 n (fO g), .os 34 8 (L.dl m (rwAt h) x k) (fnR (L.dp m (rwAt h) x k))], .v .nilIface])) (.leaf (.tup [.agg [.sl 0 0 fun _ => [], .sl 0 0 fun _ => []], .er 1 125])))
        (.leaf (.tup [.agg [.sl 0 0 fun _ => [], .sl 0 0 fun _ => []], .er 0 125]))) (.leaf (.tup [.agg [.sl 0 0 fun _ => [], .sl 0 0 fun _ => []], .ifc 81 (.pt [.i .i64 (L.k m (rwAt h)), .er (L.e m (rwAt h)) 125])])))
      (.leaf (.tup [.agg [.sl 0 0 fun _ => [], .sl 0 0 fun _ => []], .ifc 81 (.pt [.i .i64 (L.bk n m g h), .er (L.be n m g h) 125])]))))))
  | _ => .fail
def nS : List SV := [.sh (.sl 0 0 fun _ => []), .sh (.sl 0 0 fun _ => [])]
/-- A history, as cells. -/
def hS (n m : Nat) (o : Nat → Oj) (p : Nat → Ev) : List SV := [.sh (.sl 2 n (fnR o)), .sh (.sl 8 m (fnR p))]
def natsEq : List Nat → List Nat → Bool
  | [], [] => true
  | x :: l, y :: r => Nat.beq x y && natsEq l r
  | _, _ => false
/-- A run stops where one of these pieces of code comes next. -/
def pauseAt (f : Nat) (ps : List (List Nat)) (g : Nat) (td : List It) : Bool := Nat.beq g f && match td with
  | .code r :: _ => ps.any (natsEq r)
  | _ => false
end Go.Proofs
namespace Go.Pl
open Go Go.Sx Go.Proofs
def evs (m : Nat) (p : Nat → Ev) : List Ev := (List.range m).map p
theorem lst_evs (m : Nat) (p : Nat → Ev) : lst Ev m (fnR p) = evs m p := lst_put p m
theorem evs_succ (m : Nat) (p : Nat → Ev) : evs (m + 1) p = evs m p ++ [p m] := by simp [evs, List.range_succ]
theorem evs_nth (l : List Ev) : evs (len l) (nth l) = l := range_nth l
theorem evs_len (m : Nat) (p : Nat → Ev) : (evs m p).length = m := by simp [evs]
theorem keptF_filter {K : Ev → Bool} {P : Nat → Ev → Bool} (h : ∀ i e, P i e = K e) (p : Nat → Ev) : ∀ m, keptF P p m = (evs m p).filter K
  | 0 => rfl
  | m + 1 => by
    simp only [keptF, evs_succ, List.filter_append, ← keptF_filter h p m, h]
    cases hk : K (p m) <;> simp [hk]
theorem keptF_sub (P : Nat → Ev → Bool) (p : Nat → Ev) : ∀ m, (keptF P p m).Sublist (evs m p)
  | 0 => List.Sublist.refl _
  | m + 1 => by
    simp only [keptF, evs_succ]
    cases P m (p m)
    · exact (keptF_sub P p m).trans (List.sublist_append_left _ _)
    · exact (keptF_sub P p m).append (List.Sublist.refl _)
theorem evs_pre {M m : Nat} (h : M ≤ m) (p : Nat → Ev) : evs m p = evs M p ++ (List.range (m - M)).map fun j => p (M + j) := by
  unfold evs
  rw [show m = M + (m - M) by omega, List.range_add, List.map_append, List.map_map]
  simp only [Nat.add_sub_cancel_left]
  rfl
theorem evs_sub {M m : Nat} (h : M ≤ m) (p : Nat → Ev) : (evs M p).Sublist (evs m p) := by
  rw [evs_pre h]; exact List.sublist_append_left _ _
theorem evs_cons (r : Nat) (q : Nat → Ev) : (List.range (r + 1)).map q = q 0 :: (List.range r).map (dropG 1 q) := by
  rw [List.range_succ_eq_map, List.map_cons, List.map_map]
  congr 1
  refine List.map_congr_left fun i _ => ?_
  show q (i + 1) = q (1 + i)
  rw [Nat.add_comm]
theorem subB_iff (p : Nat → Ev) : ∀ k i q r, subB p k i q r = true ↔ ((List.range r).map q).Sublist ((List.range k).map fun j => p (i + j))
  | 0, i, q, r => by
    simp only [subB]
    cases r with
    | zero => simp
    | succ r => simp [List.range_succ_eq_map]
  | k + 1, i, q, r => by
    have e : (List.range (k + 1)).map (fun j => p (i + j)) = p i :: (List.range k).map (fun j => p (i + 1 + j)) := by
      rw [List.range_succ_eq_map, List.map_cons, List.map_map]
      congr 1
      refine List.map_congr_left fun j _ => ?_
      show p (i + (j + 1)) = _
      congr 1; omega
    rw [e]
    simp only [subB]
    cases r with
    | zero => simp [subB_none]
    | succ r =>
      rw [evs_cons]
      by_cases h : q 0 = p i
      · have hb : (decide (0 < r + 1) && evEq (q 0) (p i)) = true := by simp [evEq, h]
        rw [hb]
        simp only [cond_true, Nat.add_sub_cancel]
        rw [subB_iff p k (i + 1) (dropG 1 q) r, h, List.cons_sublist_cons]
      · have hb : (decide (0 < r + 1) && evEq (q 0) (p i)) = false := by simp [evEq, h]
        rw [hb]
        simp only [cond_false]
        rw [subB_iff p k (i + 1) q (r + 1), evs_cons, List.sublist_cons_iff]
        refine ⟨fun h => .inl h, fun h' => ?_⟩
        rcases h' with h' | ⟨r', h1, h2⟩
        · exact h'
        · exact (h (List.cons.inj h1).1).elim
theorem subHB_iff {n m n' m' : Nat} {o o' : Nat → Oj} {p p' : Nat → Ev} : subHB n m (fnR o) (fnR p) n' m' (fnR o') (fnR p') = true ↔ lst Oj n (fnR o) = lst Oj n' (fnR o') ∧ (evs m p).Sublist (evs m' p') := by
  unfold subHB
  rw [Bool.and_eq_true, rwAt_fnR, rwAt_fnR, subB_iff]
  simp only [Nat.zero_add]
  exact and_congr (by simp [sameL]) Iff.rfl
theorem subHB_true {n m m' : Nat} {o : Nat → Oj} {p p' : Nat → Ev} (h : (evs m p).Sublist (evs m' p')) : subHB n m (fnR o) (fnR p) n m' (fnR o) (fnR p') = true := subHB_iff.2 ⟨rfl, h⟩
theorem sameHB_evs {n m m' : Nat} {o : Nat → Oj} {p p' : Nat → Ev} (h : evs m p = evs m' p') : sameHB n m (fnR o) (fnR p) n m' (fnR o) (fnR p') = true :=
  sameHB_true rfl (by rw [lst_evs, lst_evs, h])
/-- With it, how many events of a transaction there are. -/
def cntF (p : Nat → Ev) (a : Int) (i : Nat) : Nat := (keptF (keepB a) p i).length
end Go.Pl
namespace Go.Proofs
open Go Go.Sx Go.Pl
theorem goesS_runUM {P : Program} {C : Ctx} {H0 : Mem} {w0 : World} (hC : CtxOK P C) (hF : FnsOK P C) {hold : Nat → Bool} {m n g : Nat} {td : List It} {c : Core} {stk : List Fr} {ts : List Tgt} {R : Hp → Prop} {φ : Sh → Prop}
    (h : MeetsE (Fe2OK P C (K0 H0 w0) ts R φ) (runU C hold m n g td c stk ts)) : GoesS P C (K0 H0 w0) g td c stk R φ := by
  rw [meetsE_eq] at h
  exact goesS_runU hC hF h
theorem goesS_runVM {P : Program} {C : Ctx} {H0 : Mem} {w0 : World} (hC : CtxOK P C) (hF : FnsOK P C) {pause : Nat → List It → Bool} {m n g : Nat} {td : List It} {c : Core} {stk : List Fr} {ts : List Tgt} {R : Hp → Prop} {φ : Sh → Prop}
    (h : MeetsE (Fe2OK P C (K0 H0 w0) ts R φ) (runV C pause m n g td c stk ts)) : GoesS P C (K0 H0 w0) g td c stk R φ := by
  rw [meetsE_eq] at h
  exact goesS_runV hC hF h
theorem O15g : FnOK Tryd.prog (gls5 W5) 15 (G15 L5) := O15
theorem O17g : FnOK Tryd.prog (gls5 W5) 17 (G17 L5) := O17
theorem O12g : FnOK Tryd.prog (gls5 W5) 12 (G12 L5) := O12p
theorem O21g : FnOK Tryd.prog (gls5 W5) 21 (G21 L5) := O21p
theorem O13g : FnOK Tryd.prog (gls5 W5) 13 (G13 L5) := O13
theorem O23g : FnOK Tryd.prog (gls5 W5) 23 (G23 L5) := O23
theorem no {b : Bool} {T : Prop} (h : b = true) : b = false → T := fun h2 => by rw [h] at h2; cases h2
theorem nno {b : Bool} {T : Prop} (h : b = true) : prim.nt b = true → T := fun h2 => by rw [h] at h2; cases h2
theorem keptF_evs (P : Nat → Ev → Bool) (p : Nat → Ev) (m : Nat) : evs (L5.km P m p) (L5.kp P m p) = keptF P p m := evs_nth _
theorem km_le (P : Nat → Ev → Bool) (p : Nat → Ev) (m : Nat) : L5.km P m p ≤ m := keptF_le P p m
end Go.Proofs
namespace Go.Pl
open Go Go.Sx Go.Proofs
/-- What the functions below answer of histories. -/
structure Lf5 where
  tk : Nat → (Nat → Ev) → Nat
  tr : Nat → (Nat → Ev) → Nat → Rc
  tn : Nat → (Nat → Ev) → Nat → Nat
  td : Nat → (Nat → Ev) → Nat → Nat → De
  km : (Nat → Ev → Bool) → Nat → (Nat → Ev) → Nat
  kp : (Nat → Ev → Bool) → Nat → (Nat → Ev) → Nat → Ev
  cm : Nat → (Nat → Ev) → Nat
  cp : Nat → (Nat → Ev) → Nat → Ev
  un : Int → Nat → Nat
  dl : Nat → (Nat → Ev) → Int → Int → Nat
  dp : Nat → (Nat → Ev) → Int → Int → Nat → Ev
  sp : (Nat → Ev) → Nat → Nat
  wf : Nat → Nat → (Nat → List Sh) → (Nat → List Sh) → Bool
  k : Nat → (Nat → Ev) → Int
  e : Nat → (Nat → Ev) → Nat
  bk : Nat → Nat → (Nat → List Sh) → (Nat → List Sh) → Int
  be : Nat → Nat → (Nat → List Sh) → (Nat → List Sh) → Nat
/-- Is a history well-formed? -/
def wfB (n m : Nat) (g h : Nat → List Sh) : Bool := !bigB n m && goodB n m g h && takeB m (rwAt h)
/-- The committed ones' events. -/
def comE (m : Nat) (p : Nat → Ev) : List Ev := keptF (keepM (takeS m p).rs.length (gT (rsAt (takeS m p)) (fun j => dlen (rsAt (takeS m p) j)) (fun j => fnR (nth (rsAt (takeS m p) j).deeds)))) p m
def LF : Lf5 where
  tk m p := (takeS m p).rs.length
  tr m p := rsAt (takeS m p)
  tn m p j := dlen (rsAt (takeS m p) j)
  td m p j := nth (rsAt (takeS m p) j).deeds
  km P m p := len (keptF P p m)
  kp P m p := nth (keptF P p m)
  cm m p := len (comE m p)
  cp m p := nth (comE m p)
  un := upN
  dl m p x k := len (dropE m p x k)
  dp m p x k := nth (dropE m p x k)
  sp := spN
  wf := wfB
  k := takeK
  e := takeE
  bk := badPos
  be := badNo
end Go.Pl
namespace Go.Proofs
open Go Go.Sx Go.Pl
def W13 (L : Lf5) : List Sh → Tree Sh
  | [.agg [.sl 2 n g, .sl 8 m h], .i .i64 x] => .need (roomB n 16) (.need (roomB (L.un x m) 64) (.leaf (.agg [.os 31 2 n g, .os 34 8 (L.un x m) h])))
  | _ => .fail
def W15 (L : Lf5) : List Sh → Tree Sh
  | [.agg [.sl 2 n g, .sl 8 m h], .i .i64 x] => .need (okB Ev m h) (.need (roomB n 16) (.need (roomB m 64) (.leaf (.agg [.os 31 2 n g, .os 34 8 (L.km (keepN x) m (rwAt h)) (fnR (L.kp (keepN x) m (rwAt h)))]))))
  | _ => .fail
def W32 (L : Lf5) : List Sh → Tree Sh
  | [.agg [.sl 2 n g, .sl 8 m h]] => .need (okB Oj n g) (.need (okB Ev m h) (.need (retsB m h) (.node (bigB n m) (.leaf (.tup [.sl 0 0 fun _ => [], .er 2 125])) (.node (goodB n m g h)
      (.node (takeB m (rwAt h)) (.leaf (.tup [.os 61 7 (L.tk m (rwAt h)) (gT (L.tr m (rwAt h)) (L.tn m (rwAt h)) (fun j => fnR (L.td m (rwAt h) j))), .v .nilIface])) (.leaf (.tup [.sl 0 0 fun _ => [], .ifc 81 (.pt [.i .i64 (L.k m (rwAt h)), .er (L.e m (rwAt h)) 125])])))
      (.leaf (.tup [.sl 0 0 fun _ => [], .ifc 81 (.pt [.i .i64 (L.bk n m g h), .er (L.be n m g h) 125])]))))))
  | _ => .fail
def W34 (L : Lf5) : List Sh → Tree Sh
  | [.agg [.sl 2 n g, .sl 8 m h]] => .need (okB Oj n g) (.need (okB Ev m h) (.need (retsB m h) (.need (L.wf n m g h) (.leaf (.v .nilIface)))))
  | _ => .fail
def W29 (L : Lf5) : List Sh → Tree Sh
  | [.agg [.sl 2 n g, .sl 8 m h]] => .need (okB Oj n g) (.need (okB Ev m h) (.need (retsB m h) (.need (L.wf n m g h) (.leaf (.tup [.agg [.os 31 2 (L.sp (rwAt h) m) (fO g), .os 34 8 m (fE h)], .v .nilIface])))))
  | _ => .fail
def W33 (L : Lf5) : List Sh → Tree Sh
  | [.agg [.sl 2 n g, .sl 8 m h]] => .need (okB Oj n g) (.need (okB Ev m h) (.need (retsB m h) (.need (L.wf n m g h) (.leaf (.tup [.agg [.os 31 2 n (fO g), .os 34 8 (L.cm m (rwAt h)) (fnR (L.cp m (rwAt h)))], .v .nilIface])))))
  | _ => .fail
def W23 (L : Lf5) : List Sh → Tree Sh
  | [.agg [.sl 2 n g, .sl 8 m h], .i .i64 x, .i .i64 k] => .need (okB Oj n g) (.need (okB Ev m h) (.need (retsB m h) (.need (L.wf n m g h) (.node (txB m (rwAt h) x) (.node (deedB m (rwAt h) x k) (.leaf (.tup [.agg [.os 31 2 n (fO g), .os 34 8 (L.dl m (rwAt h) x k) (fnR (L.dp m (rwAt h) x k))], .v .nilIface]))
      (.leaf (.tup [.agg [.sl 0 0 fun _ => [], .sl 0 0 fun _ => []], .er 1 125]))) (.leaf (.tup [.agg [.sl 0 0 fun _ => [], .sl 0 0 fun _ => []], .er 0 125]))))))
  | _ => .fail
def W17 (L : Lf5) : List Sh → Tree Sh
  | [.agg [.sl 2 n g, .sl 8 m h], .fn 49 [.pt [.sl 7 k g']]] => .need (okT k g') (.need (okB Ev m h) (.need (roomB n 16) (.need (roomB m 64) (.leaf (.agg [.os 31 2 n g, .os 34 8 (L.km (keepM k g') m (rwAt h)) (fnR (L.kp (keepM k g') m (rwAt h)))])))))
  | _ => .fail
def spec33 (L : Lf5) : Nat → Option (List Sh → Tree Sh)
  | 32 => some (W32 L)
  | 17 => some (W17 L)
  | _ => none
def spec7 (L : Lf5) : Nat → Option (List Sh → Tree Sh)
  | 8 => some F8
  | 9 => some F9p
  | 13 => some (W13 L)
  | 15 => some (W15 L)
  | 23 => some (W23 L)
  | 29 => some (W29 L)
  | 32 => some (W32 L)
  | 33 => some (W33 L)
  | 34 => some (W34 L)
  | _ => none
def td7 : List It := [It.code [0, 1, 0, 1, 1, 1, 1, 1, 1, 1, 1, 1, 1, 1, 1], It.inBlock 0, It.code [1, 1, 1, 1, 1, 1, 1, 1, 1, 1, 1, 1, 1]]
def tb7 : List It := It.code [0, 0, 1, 0, 1, 1, 1, 1, 1, 1, 1, 1, 1, 1, 1, 1] :: td7
def L7 (K M : Nat) (r s : Nat → Rc) (N O : Nat → Nat) (D F : Nat → Nat → De) (x u j : Int) : Core :=
  { tm := tmOf 178 [(2, .sym .i64 x), (10, .gs 0), (19, .gs 1), (21, .sym .i64 u), (22, .sym .i64 j)], hp := [(0, .own 61 7 K (gT r N (fun j => fnR (D j)))), (1, .own 61 7 M (gT s O (fun j => fnR (F j))))], nx := 2, lim := L0, tc := [] }

theorem a33 (A : Prim) (W : Wd) (L : Lf5) (n m : Nat) (o : Nat → Oj) (p : Nat → Ev) : runR (C5 A W (spec33 L) stopAll) noHold 300 400 33 [.code []] (start0 18 [.agg [.sl 2 n (fnR o), .sl 8 m (fnR p)]] L0) [] = Tree.need (okB Oj n (fnR o)) (Tree.need (okB Ev m (fnR p)) (Tree.need (retsB m (fnR p)) (Tree.node (bigB n m) (Tree.leaf (Fe3.ret (Sh.tup [Sh.agg [Sh.sl 0 0 fun (x : Nat) => [], Sh.sl 0 0 fun (x : Nat) => []], Sh.er 2 125]))) (Tree.node (goodB n m (fnR o) (fnR p)) (Tree.node (takeB m (rwAt (fnR p))) (Tree.need (okT (L.tk m (rwAt (fnR p))) (gT (L.tr m (rwAt (fnR p))) (L.tn m (rwAt (fnR p))) fun (j : Nat) => fnR (L.td m (rwAt (fnR p)) j))) (Tree.need (okB Ev m (fnR p)) (Tree.need (roomB n 16) (Tree.need (roomB m 64) (Tree.leaf (Fe3.ret (Sh.tup [Sh.agg [Sh.os 31 2 n (fnR o), Sh.os 34 8 (L.km (keepM (L.tk m (rwAt (fnR p))) (gT (L.tr m (rwAt (fnR p))) (L.tn m (rwAt (fnR p))) fun (j : Nat) => fnR (L.td m (rwAt (fnR p)) j))) m (rwAt (fnR p))) (fnR (L.kp (keepM (L.tk m (rwAt (fnR p))) (gT (L.tr m (rwAt (fnR p))) (L.tn m (rwAt (fnR p))) fun (j : Nat) => fnR (L.td m (rwAt (fnR p)) j))) m (rwAt (fnR p))))], Sh.v Value.nilIface]))))))) (Tree.leaf (Fe3.ret (Sh.tup [Sh.agg [Sh.sl 0 0 fun (x : Nat) => [], Sh.sl 0 0 fun (x : Nat) => []], Sh.ifc 81 (Sh.pt [Sh.i IntKind.i64 (L.k m (rwAt (fnR p))), Sh.er (L.e m (rwAt (fnR p))) 125])])))) (Tree.leaf (Fe3.ret (Sh.tup [Sh.agg [Sh.sl 0 0 fun (x : Nat) => [], Sh.sl 0 0 fun (x : Nat) => []], Sh.ifc 81 (Sh.pt [Sh.i IntKind.i64 (L.bk n m (fnR o) (fnR p)), Sh.er (L.be n m (fnR o) (fnR p)) 125])]))))))) := by kernel_rfl
theorem b7 (A : Prim) (W : Wd) (L : Lf5) (K M : Nat) (r s : Nat → Rc) (N O : Nat → Nat) (D F : Nat → Nat → De) (x u j u1 u2 j' : Int) : runU (C5 A W (spec7 L) stopAll) noHold 300 800 7 tb7 (L7 K M r s N O D F x u j) [] [⟨7, td7, L7 K M r s N O D F x u1 j', []⟩] = Tree.node (A.lt j (A.ofN K)) (Tree.need (A.inB j K) (Tree.node (A.eq (r (A.toN j)).id x) (Tree.leaf (Fe2.at_ 0 [Eqn.int x x, Eqn.int u u1, Eqn.int (A.add IntKind.i64 j (Int.ofNat 1)) j', Eqn.nat K K, Eqn.get K (gT r N fun (j : Nat) => fnR (D j)) (gT r N fun (j : Nat) => fnR (D j)), Eqn.nat M M, Eqn.get M (gT s O fun (j : Nat) => fnR (F j)) (gT s O fun (j : Nat) => fnR (F j))])) (Tree.node (A.le (A.ofN M) u) (Tree.leaf (Fe2.ret (Sh.b false))) (Tree.need (A.inB u M) (Tree.need (A.inB j K) (Tree.node (A.nt (A.eq (s (A.toN u)).id (r (A.toN j)).id)) (Tree.leaf (Fe2.ret (Sh.b false))) (Tree.need (A.inB u M) (Tree.need (A.inB j K) (Tree.node (A.nt (A.eq (s (A.toN u)).st (r (A.toN j)).st)) (Tree.leaf (Fe2.ret (Sh.b false))) (Tree.need (A.inB u M) (Tree.need (A.inB j K) (Tree.node (A.nt (A.eq (A.ofN (O (A.toN u))) (A.ofN (N (A.toN j))))) (Tree.leaf (Fe2.ret (Sh.b false))) (Tree.need (A.inB u M) (Tree.need (A.inB j K) (Tree.node (A.nt (A.eq (s (A.toN u)).th (r (A.toN j)).th)) (Tree.leaf (Fe2.ret (Sh.b false))) (Tree.leaf (Fe2.at_ 0 [Eqn.int x x, Eqn.int (A.add IntKind.i64 u (Int.ofNat 1)) u1, Eqn.int (A.add IntKind.i64 j (Int.ofNat 1)) j', Eqn.nat K K, Eqn.get K (gT r N fun (j : Nat) => fnR (D j)) (gT r N fun (j : Nat) => fnR (D j)), Eqn.nat M M, Eqn.get M (gT s O fun (j : Nat) => fnR (F j)) (gT s O fun (j : Nat) => fnR (F j))]))))))))))))))))) (Tree.leaf (Fe2.ret (Sh.b (A.eq u (A.ofN M))))) := by kernel_rfl
theorem a7 (A : Prim) (W : Wd) (L : Lf5) (n m : Nat) (o : Nat → Oj) (p : Nat → Ev) (n1 x k : Int) (K M : Nat) (r s : Nat → Rc) (N O : Nat → Nat) (D F : Nat → Nat → De) (u j : Int) : runU (C5 A W (spec7 L) stopAll) noHold 300 800 7 [.code []] (start0 178 [.agg [.sl 2 n (fnR o), .sl 8 m (fnR p)], .i .i64 n1, .i .i64 x, .i .i64 k] L0) [] [⟨7, td7, L7 K M r s N O D F x u j, []⟩] = Tree.node (A.nt (smallB n m)) (Tree.leaf (Fe2.ret (Sh.b true))) (Tree.node (A.nt true) (Tree.leaf (Fe2.ret (Sh.b true))) (Tree.need (okB Oj n (fnR o)) (Tree.need (okB Ev m (fnR p)) (Tree.need (retsB m (fnR p)) (Tree.node (bigB n m) (Tree.leaf (Fe2.ret (Sh.b true))) (Tree.node (goodB n m (fnR o) (fnR p)) (Tree.node (takeB m (rwAt (fnR p))) (Tree.need (okB Ev m (fnR p)) (Tree.need (roomB n 16) (Tree.need (roomB m 64) (Tree.need (okB Oj n (fnR o)) (Tree.need (okB Ev m (fnR p)) (Tree.need (retsB m (fnR p)) (Tree.need (L.wf n m (fnR o) (fnR p)) (Tree.node (txB m (rwAt (fnR p)) x) (Tree.node (deedB m (rwAt (fnR p)) x k) (Tree.need (okB Oj n (fnR o)) (Tree.need (okB Ev m (fnR p)) (Tree.need (retsB m (fnR p)) (Tree.need (L.wf n m (fnR o) (fnR p)) (Tree.need (okB Oj n (fnR o)) (Tree.need (okB Ev m (fnR p)) (Tree.need (retsB m (fnR p)) (Tree.need (L.wf n m (fnR o) (fnR p)) (Tree.need (roomB n 16) (Tree.need (roomB (L.un n1 m) 64) (Tree.need (okB Oj n (fnR o)) (Tree.need (okB Ev (L.un n1 m) (fnR p)) (Tree.need (retsB (L.un n1 m) (fnR p)) (Tree.need (L.wf n (L.un n1 m) (fnR o) (fnR p)) (Tree.need (okB Oj n (fnR o)) (Tree.need (okB Ev (L.km (keepN x) m (rwAt (fnR p))) (fnR (L.kp (keepN x) m (rwAt (fnR p))))) (Tree.need (retsB (L.km (keepN x) m (rwAt (fnR p))) (fnR (L.kp (keepN x) m (rwAt (fnR p))))) (Tree.need (L.wf n (L.km (keepN x) m (rwAt (fnR p))) (fnR o) (fnR (L.kp (keepN x) m (rwAt (fnR p))))) (Tree.need (okB Oj n (fO (fnR o))) (Tree.need (okB Ev (L.dl m (rwAt (fnR p)) x k) (fnR (L.dp m (rwAt (fnR p)) x k))) (Tree.need (retsB (L.dl m (rwAt (fnR p)) x k) (fnR (L.dp m (rwAt (fnR p)) x k))) (Tree.need (L.wf n (L.dl m (rwAt (fnR p)) x k) (fO (fnR o)) (fnR (L.dp m (rwAt (fnR p)) x k))) (Tree.need (okB Oj n (fO (fnR o))) (Tree.need (okB Ev (L.cm m (rwAt (fnR p))) (fnR (L.cp m (rwAt (fnR p))))) (Tree.need (retsB (L.cm m (rwAt (fnR p))) (fnR (L.cp m (rwAt (fnR p))))) (Tree.need (L.wf n (L.cm m (rwAt (fnR p))) (fO (fnR o)) (fnR (L.cp m (rwAt (fnR p))))) (Tree.need (okB Oj (L.sp (rwAt (fnR p)) m) (fO (fnR o))) (Tree.need (okB Ev m (fE (fnR p))) (Tree.need (retsB m (fE (fnR p))) (Tree.need (L.wf (L.sp (rwAt (fnR p)) m) m (fO (fnR o)) (fE (fnR p))) (Tree.need (okB Oj n (fnR o)) (Tree.need (okB Ev (L.km (keepN x) m (rwAt (fnR p))) (fnR (L.kp (keepN x) m (rwAt (fnR p))))) (Tree.need (retsB (L.km (keepN x) m (rwAt (fnR p))) (fnR (L.kp (keepN x) m (rwAt (fnR p))))) (Tree.node (bigB n (L.km (keepN x) m (rwAt (fnR p)))) Tree.fail (Tree.node (goodB n (L.km (keepN x) m (rwAt (fnR p))) (fnR o) (fnR (L.kp (keepN x) m (rwAt (fnR p))))) (Tree.node (takeB (L.km (keepN x) m (rwAt (fnR p))) (rwAt (fnR (L.kp (keepN x) m (rwAt (fnR p)))))) (Tree.leaf (Fe2.at_ 0 [Eqn.int x x, Eqn.int (Int.ofNat 0) u, Eqn.int (Int.ofNat 0) j, Eqn.nat (L.tk m (rwAt (fnR p))) K, Eqn.get (L.tk m (rwAt (fnR p))) (gT (L.tr m (rwAt (fnR p))) (L.tn m (rwAt (fnR p))) fun (j : Nat) => fnR (L.td m (rwAt (fnR p)) j)) (gT r N fun (j : Nat) => fnR (D j)), Eqn.nat (L.tk (L.km (keepN x) m (rwAt (fnR p))) (rwAt (fnR (L.kp (keepN x) m (rwAt (fnR p)))))) M, Eqn.get (L.tk (L.km (keepN x) m (rwAt (fnR p))) (rwAt (fnR (L.kp (keepN x) m (rwAt (fnR p)))))) (gT (L.tr (L.km (keepN x) m (rwAt (fnR p))) (rwAt (fnR (L.kp (keepN x) m (rwAt (fnR p)))))) (L.tn (L.km (keepN x) m (rwAt (fnR p))) (rwAt (fnR (L.kp (keepN x) m (rwAt (fnR p)))))) fun (j : Nat) => fnR (L.td (L.km (keepN x) m (rwAt (fnR p))) (rwAt (fnR (L.kp (keepN x) m (rwAt (fnR p))))) j)) (gT s O fun (j : Nat) => fnR (F j))])) Tree.fail) Tree.fail))))))))))))))))))))))))))))))))))) (Tree.need (okB Oj n (fnR o)) (Tree.need (okB Ev m (fnR p)) (Tree.need (retsB m (fnR p)) (Tree.need (L.wf n m (fnR o) (fnR p)) (Tree.need (okB Oj n (fnR o)) (Tree.need (okB Ev m (fnR p)) (Tree.need (retsB m (fnR p)) (Tree.need (L.wf n m (fnR o) (fnR p)) (Tree.need (roomB n 16) (Tree.need (roomB (L.un n1 m) 64) (Tree.need (okB Oj n (fnR o)) (Tree.need (okB Ev (L.un n1 m) (fnR p)) (Tree.need (retsB (L.un n1 m) (fnR p)) (Tree.need (L.wf n (L.un n1 m) (fnR o) (fnR p)) (Tree.need (okB Oj n (fnR o)) (Tree.need (okB Ev (L.km (keepN x) m (rwAt (fnR p))) (fnR (L.kp (keepN x) m (rwAt (fnR p))))) (Tree.need (retsB (L.km (keepN x) m (rwAt (fnR p))) (fnR (L.kp (keepN x) m (rwAt (fnR p))))) (Tree.need (L.wf n (L.km (keepN x) m (rwAt (fnR p))) (fnR o) (fnR (L.kp (keepN x) m (rwAt (fnR p))))) (Tree.need (okB Oj n (fO (fnR o))) (Tree.need (okB Ev (L.cm m (rwAt (fnR p))) (fnR (L.cp m (rwAt (fnR p))))) (Tree.need (retsB (L.cm m (rwAt (fnR p))) (fnR (L.cp m (rwAt (fnR p))))) (Tree.need (L.wf n (L.cm m (rwAt (fnR p))) (fO (fnR o)) (fnR (L.cp m (rwAt (fnR p))))) (Tree.need (okB Oj (L.sp (rwAt (fnR p)) m) (fO (fnR o))) (Tree.need (okB Ev m (fE (fnR p))) (Tree.need (retsB m (fE (fnR p))) (Tree.need (L.wf (L.sp (rwAt (fnR p)) m) m (fO (fnR o)) (fE (fnR p))) (Tree.need (okB Oj n (fnR o)) (Tree.need (okB Ev (L.km (keepN x) m (rwAt (fnR p))) (fnR (L.kp (keepN x) m (rwAt (fnR p))))) (Tree.need (retsB (L.km (keepN x) m (rwAt (fnR p))) (fnR (L.kp (keepN x) m (rwAt (fnR p))))) (Tree.node (bigB n (L.km (keepN x) m (rwAt (fnR p)))) Tree.fail (Tree.node (goodB n (L.km (keepN x) m (rwAt (fnR p))) (fnR o) (fnR (L.kp (keepN x) m (rwAt (fnR p))))) (Tree.node (takeB (L.km (keepN x) m (rwAt (fnR p))) (rwAt (fnR (L.kp (keepN x) m (rwAt (fnR p)))))) (Tree.leaf (Fe2.at_ 0 [Eqn.int x x, Eqn.int (Int.ofNat 0) u, Eqn.int (Int.ofNat 0) j, Eqn.nat (L.tk m (rwAt (fnR p))) K, Eqn.get (L.tk m (rwAt (fnR p))) (gT (L.tr m (rwAt (fnR p))) (L.tn m (rwAt (fnR p))) fun (j : Nat) => fnR (L.td m (rwAt (fnR p)) j)) (gT r N fun (j : Nat) => fnR (D j)), Eqn.nat (L.tk (L.km (keepN x) m (rwAt (fnR p))) (rwAt (fnR (L.kp (keepN x) m (rwAt (fnR p)))))) M, Eqn.get (L.tk (L.km (keepN x) m (rwAt (fnR p))) (rwAt (fnR (L.kp (keepN x) m (rwAt (fnR p)))))) (gT (L.tr (L.km (keepN x) m (rwAt (fnR p))) (rwAt (fnR (L.kp (keepN x) m (rwAt (fnR p)))))) (L.tn (L.km (keepN x) m (rwAt (fnR p))) (rwAt (fnR (L.kp (keepN x) m (rwAt (fnR p)))))) fun (j : Nat) => fnR (L.td (L.km (keepN x) m (rwAt (fnR p))) (rwAt (fnR (L.kp (keepN x) m (rwAt (fnR p))))) j)) (gT s O fun (j : Nat) => fnR (F j))])) Tree.fail) Tree.fail)))))))))))))))))))))))))))))))) (Tree.need (okB Oj n (fnR o)) (Tree.need (okB Ev m (fnR p)) (Tree.need (retsB m (fnR p)) (Tree.need (L.wf n m (fnR o) (fnR p)) (Tree.need (okB Oj n (fnR o)) (Tree.need (okB Ev m (fnR p)) (Tree.need (retsB m (fnR p)) (Tree.need (L.wf n m (fnR o) (fnR p)) (Tree.need (roomB n 16) (Tree.need (roomB (L.un n1 m) 64) (Tree.need (okB Oj n (fnR o)) (Tree.need (okB Ev (L.un n1 m) (fnR p)) (Tree.need (retsB (L.un n1 m) (fnR p)) (Tree.need (L.wf n (L.un n1 m) (fnR o) (fnR p)) (Tree.need (okB Oj n (fnR o)) (Tree.need (okB Ev (L.km (keepN x) m (rwAt (fnR p))) (fnR (L.kp (keepN x) m (rwAt (fnR p))))) (Tree.need (retsB (L.km (keepN x) m (rwAt (fnR p))) (fnR (L.kp (keepN x) m (rwAt (fnR p))))) (Tree.need (L.wf n (L.km (keepN x) m (rwAt (fnR p))) (fnR o) (fnR (L.kp (keepN x) m (rwAt (fnR p))))) (Tree.need (okB Oj n (fO (fnR o))) (Tree.need (okB Ev (L.cm m (rwAt (fnR p))) (fnR (L.cp m (rwAt (fnR p))))) (Tree.need (retsB (L.cm m (rwAt (fnR p))) (fnR (L.cp m (rwAt (fnR p))))) (Tree.need (L.wf n (L.cm m (rwAt (fnR p))) (fO (fnR o)) (fnR (L.cp m (rwAt (fnR p))))) (Tree.need (okB Oj (L.sp (rwAt (fnR p)) m) (fO (fnR o))) (Tree.need (okB Ev m (fE (fnR p))) (Tree.need (retsB m (fE (fnR p))) (Tree.need (L.wf (L.sp (rwAt (fnR p)) m) m (fO (fnR o)) (fE (fnR p))) (Tree.need (okB Oj n (fnR o)) (Tree.need (okB Ev (L.km (keepN x) m (rwAt (fnR p))) (fnR (L.kp (keepN x) m (rwAt (fnR p))))) (Tree.need (retsB (L.km (keepN x) m (rwAt (fnR p))) (fnR (L.kp (keepN x) m (rwAt (fnR p))))) (Tree.node (bigB n (L.km (keepN x) m (rwAt (fnR p)))) Tree.fail (Tree.node (goodB n (L.km (keepN x) m (rwAt (fnR p))) (fnR o) (fnR (L.kp (keepN x) m (rwAt (fnR p))))) (Tree.node (takeB (L.km (keepN x) m (rwAt (fnR p))) (rwAt (fnR (L.kp (keepN x) m (rwAt (fnR p)))))) (Tree.leaf (Fe2.at_ 0 [Eqn.int x x, Eqn.int (Int.ofNat 0) u, Eqn.int (Int.ofNat 0) j, Eqn.nat (L.tk m (rwAt (fnR p))) K, Eqn.get (L.tk m (rwAt (fnR p))) (gT (L.tr m (rwAt (fnR p))) (L.tn m (rwAt (fnR p))) fun (j : Nat) => fnR (L.td m (rwAt (fnR p)) j)) (gT r N fun (j : Nat) => fnR (D j)), Eqn.nat (L.tk (L.km (keepN x) m (rwAt (fnR p))) (rwAt (fnR (L.kp (keepN x) m (rwAt (fnR p)))))) M, Eqn.get (L.tk (L.km (keepN x) m (rwAt (fnR p))) (rwAt (fnR (L.kp (keepN x) m (rwAt (fnR p)))))) (gT (L.tr (L.km (keepN x) m (rwAt (fnR p))) (rwAt (fnR (L.kp (keepN x) m (rwAt (fnR p)))))) (L.tn (L.km (keepN x) m (rwAt (fnR p))) (rwAt (fnR (L.kp (keepN x) m (rwAt (fnR p)))))) fun (j : Nat) => fnR (L.td (L.km (keepN x) m (rwAt (fnR p))) (rwAt (fnR (L.kp (keepN x) m (rwAt (fnR p))))) j)) (gT s O fun (j : Nat) => fnR (F j))])) Tree.fail) Tree.fail))))))))))))))))))))))))))))))))))))))) (Tree.leaf (Fe2.ret (Sh.b true)))) (Tree.leaf (Fe2.ret (Sh.b true))))))))) := by kernel_rfl
end Go.Proofs
namespace Go.Pl
open Go Go.Sx Go.Proofs
/-! One event, on a list of transactions. -/
def appT (x : Int) (f : Rc → Nat ⊕ Rc) : List Rc → Option (Nat ⊕ List Rc)
  | [] => none
  | r :: l => bif r.id == x then some (match f r with | .inl k => .inl k | .inr r' => .inr (r' :: l)) else match appT x f l with
    | none => none
    | some (.inl k) => some (.inl k)
    | some (.inr l') => some (.inr (r :: l'))
def newT (e : Ev) (many : Nat) : Rc := ⟨e.tx, e.thread, 1, many, -1, -1, [], 1⟩
def feedL (many : Nat) (rs : List Rc) (e : Ev) : Option (List Rc) :=
  match appT e.tx (Rc.step many e) rs with
  | some res => bif e.kind == 1 then none else match res with
    | .inl _ => none
    | .inr l => some l
  | none => bif e.kind == 1 then bif rs.any (fun r => r.th == e.thread && r.live) then none else some (rs ++ [newT e many]) else none
def feedsL : Nat → List Rc → List Ev → Option (List Rc)
  | _, rs, [] => some rs
  | k, rs, e :: l => match feedL k rs e with
    | some rs' => feedsL (k + 1) rs' l
    | none => none
theorem appT_idx (x : Int) (f : Rc → Nat ⊕ Rc) : ∀ rs : List Rc, appT x f rs = match rs.findIdx? (fun r => r.id == x) with
    | none => none
    | some i => some (match f (rs.getD i ⟨0, 0, 0, 0, 0, 0, [], 0⟩) with | .inl k => .inl k | .inr r => .inr (rs.set i r))
  | [] => rfl
  | r :: l => by
    simp only [appT, List.findIdx?_cons]
    cases h : r.id == x <;> simp only [cond_true, cond_false]
    · rw [appT_idx x f l]
      cases l.findIdx? (fun r => r.id == x) with
      | none => simp
      | some i =>
        simp only [Bool.false_eq_true, if_false, Option.map_some, List.getD_cons_succ, List.set_cons_succ]
        cases f (l.getD i ⟨0, 0, 0, 0, 0, 0, [], 0⟩) <;> rfl
    · simp only [if_true, List.getD_cons_zero, List.set_cons_zero]
theorem any_idx {rs : List Rc} {p : Rc → Bool} : rs.any p = (rs.findIdx? p).isSome := by
  rw [Bool.eq_iff_iff, List.findIdx?_isSome]
theorem feed_L (σ : Au) (e : Ev) : match feedL σ.many σ.rs e with
    | some l => σ.feed e = (none, ⟨σ.many + 1, l⟩)
    | none => (σ.feed e).1 ≠ none := by
  unfold feedL Au.feed
  rw [appT_idx]
  have hb : σ.byIx e.tx = σ.rs.findIdx? (fun r => r.id == e.tx) := rfl
  rw [← hb]
  cases h : σ.byIx e.tx with
  | some i =>
    simp only
    cases hk : e.kind == 1 <;> simp only [cond_true, cond_false]
    · cases hs : Rc.step σ.many e (σ.rs.getD i ⟨0, 0, 0, 0, 0, 0, [], 0⟩) with
      | inl k => simp
      | inr r => simp
    · simp
  | none =>
    simp only
    cases hk : e.kind == 1 <;> simp only [cond_true, cond_false]
    · simp
    · rw [any_idx]
      have hb2 : σ.buIx e.thread = σ.rs.findIdx? (fun r => r.th == e.thread && r.live) := rfl
      rw [← hb2]
      cases h2 : σ.buIx e.thread with
      | some i => simp
      | none => simp [newT]
theorem take_L (p : Nat → Ev) : ∀ (r k : Nat) (σ : Au), σ.many = k → match feedsL k σ.rs ((List.range r).map fun j => p (k + j)) with
    | some l => takeN p σ k r = .inl ⟨k + r, l⟩
    | none => ∃ x, takeN p σ k r = .inr x
  | 0, k, σ, h => by
    simp only [List.range_zero, List.map_nil, feedsL, takeN, Nat.add_zero]
    subst h; rfl
  | r + 1, k, σ, h => by
    have e : (List.range (r + 1)).map (fun j => p (k + j)) = p k :: (List.range r).map fun j => p (k + 1 + j) := by
      rw [List.range_succ_eq_map, List.map_cons, List.map_map]
      congr 1
      refine List.map_congr_left fun j _ => ?_
      show p (k + (j + 1)) = _
      congr 1; omega
    rw [e]
    have hf := feed_L σ (p k)
    rw [h] at hf
    simp only [feedsL, takeN]
    cases hl : feedL k σ.rs (p k) with
    | some l =>
      rw [hl] at hf
      simp only at hf ⊢
      rw [hf]
      have := take_L p r (k + 1) ⟨k + 1, l⟩ rfl
      simp only at this ⊢
      rw [show k + (r + 1) = k + 1 + r by omega]
      exact this
    | none =>
      rw [hl] at hf
      simp only at hf ⊢
      cases hx : (σ.feed (p k)).1 with
      | none => exact (hf hx).elim
      | some x => exact ⟨_, rfl⟩
/-- The transactions behind the first events, if they are well-formed. -/
def TxsOf (l : List Ev) : Option (List Rc) := feedsL 0 [] l
theorem take_txs (m : Nat) (p : Nat → Ev) : match TxsOf (evs m p) with
    | some l => takeB m p = true ∧ takeS m p = ⟨m, l⟩
    | none => takeB m p = false := by
  have h := take_L p m 0 Au.nil rfl
  have e : ((List.range m).map fun j => p (0 + j)) = evs m p := by unfold evs; simp only [Nat.zero_add]
  rw [e] at h
  have hn : Au.nil.rs = [] := rfl
  rw [hn] at h
  unfold TxsOf
  cases hx : feedsL 0 [] (evs m p) with
  | some l =>
    rw [hx] at h
    simp only [Nat.zero_add] at h ⊢
    unfold takeB takeS takeM
    rw [h]
    exact ⟨rfl, rfl⟩
  | none =>
    rw [hx] at h
    obtain ⟨x, hx2⟩ := h
    simp only
    unfold takeB takeM
    rw [hx2]
theorem takeB_iff {m : Nat} {p : Nat → Ev} : takeB m p = true ↔ ∃ l, TxsOf (evs m p) = some l := by
  have h := take_txs m p
  cases hx : TxsOf (evs m p) with
  | some l => rw [hx] at h; exact ⟨fun _ => ⟨l, rfl⟩, fun _ => h.1⟩
  | none =>
    rw [hx] at h
    simp only at h
    rw [h]
    exact ⟨fun q => (by cases q), fun ⟨l, q⟩ => (by cases q)⟩
theorem takeS_rs {m : Nat} {p : Nat → Ev} {l : List Rc} (h : TxsOf (evs m p) = some l) : (takeS m p).rs = l := by
  have := take_txs m p
  rw [h] at this
  rw [this.2]
theorem feedsL_app : ∀ (l l' : List Ev) (k : Nat) (rs : List Rc), feedsL k rs (l ++ l') = match feedsL k rs l with
    | some r => feedsL (k + l.length) r l'
    | none => none
  | [], l', k, rs => by simp [feedsL]
  | e :: l, l', k, rs => by
    simp only [List.cons_append, feedsL]
    cases feedL k rs e with
    | none => rfl
    | some r => simp only; rw [feedsL_app l l' (k + 1) r, show k + 1 + l.length = k + (e :: l).length by simp; omega]
/-! What of a transaction does not tell places. -/
def coreD (d : De) : De := { d with here := 0, back := 0 }
def coreT (r : Rc) : Rc := { r with bg := 0, en := 0, tr := 0, deeds := r.deeds.map coreD }
structure SameT (r r' : Rc) : Prop where
  id : r.id = r'.id
  th : r.th = r'.th
  st : r.st = r'.st
  stand : r.stand = r'.stand
  deeds : r.deeds.map coreD = r'.deeds.map coreD
theorem SameT.rfl' {r : Rc} : SameT r r := ⟨rfl, rfl, rfl, rfl, rfl⟩
theorem SameT.len {r r' : Rc} (h : SameT r r') : r.deeds.length = r'.deeds.length := by
  have := congrArg List.length h.deeds
  simpa using this
theorem SameT.live {r r' : Rc} (h : SameT r r') : r.live = r'.live := by simp [Rc.live, h.stand]
theorem last_op {l l' : List De} (h : l.map coreD = l'.map coreD) : (l.getLast?.getD Row.dft).op = (l'.getLast?.getD Row.dft).op := by
  have := congrArg List.getLast? h
  rw [List.getLast?_map, List.getLast?_map] at this
  cases h1 : l.getLast? <;> cases h2 : l'.getLast? <;> rw [h1, h2] at this <;> simp at this
  · simp only [Option.getD_some]
    have := congrArg De.op this
    exact this
theorem upLast_core (f g : De → De) (h : ∀ d, coreD (f d) = g (coreD d)) : ∀ l : List De, (upLast f l).map coreD = upLast g (l.map coreD)
  | [] => rfl
  | [x] => by simp [upLast, h]
  | x :: y :: l => by
    simp only [upLast, List.map_cons]
    rw [upLast_core f g h (y :: l)]
    rfl
theorem step_same {r r' : Rc} (h : SameT r r') (e : Ev) (k k' : Nat) : match Rc.step k e r with
    | .inl x => Rc.step k' e r' = .inl x
    | .inr s => ∃ s', Rc.step k' e r' = .inr s' ∧ SameT s s' := by
  unfold Rc.step
  rw [← h.stand, ← last_op h.deeds]
  cases h2 : e.kind == 2 <;> simp only [cond_true, cond_false]
  · cases h3 : e.kind == 3 <;> simp only [cond_true, cond_false]
    · cases h4 : e.kind == 4 <;> simp only [cond_true, cond_false]
      · cases h7 : e.kind == 7 <;> simp only [cond_true, cond_false]
        · cases h5 : e.kind == 5 <;> simp only [cond_true, cond_false]
          · cases hs : (r.stand == 1 || r.stand == 2 || r.stand == 3 || r.stand == 4) <;> simp only [cond_true, cond_false]
            exact ⟨_, rfl, h.id, h.th, rfl, rfl, h.deeds⟩
          · cases hs : r.stand == 3 <;> simp only [cond_true, cond_false]
            exact ⟨_, rfl, h.id, h.th, rfl, rfl, h.deeds⟩
        · cases hs : r.stand == 1 <;> simp only [cond_true, cond_false]
          exact ⟨_, rfl, h.id, h.th, h.st, rfl, h.deeds⟩
      · cases hs : r.stand == 1 <;> simp only [cond_true, cond_false]
        exact ⟨_, rfl, h.id, h.th, rfl, rfl, h.deeds⟩
    · cases hs : r.stand == 2 <;> simp only [cond_true, cond_false]
      cases hf : fitsB (r.deeds.getLast?.getD Row.dft).op e.ret <;> simp only [cond_true, cond_false]
      refine ⟨_, rfl, h.id, h.th, h.st, rfl, ?_⟩
      rw [upLast_core _ (fun d => { d with ret := e.ret, got := e.val }) (fun d => rfl), upLast_core _ (fun d => { d with ret := e.ret, got := e.val }) (fun d => rfl), h.deeds]
  · cases hs : r.stand == 1 <;> simp only [cond_true, cond_false]
    refine ⟨_, rfl, h.id, h.th, h.st, rfl, ?_⟩
    simp only [List.map_append, h.deeds]
    rfl
theorem step_id {k : Nat} {e : Ev} {r s : Rc} (h : Rc.step k e r = .inr s) : s.id = r.id ∧ s.th = r.th := by
  unfold Rc.step at h
  cases h2 : e.kind == 2 <;> cases h3 : e.kind == 3 <;> cases h4 : e.kind == 4 <;> cases h7 : e.kind == 7 <;> cases h5 : e.kind == 5 <;> simp only [h2, h3, h4, h7, h5, cond_true, cond_false] at h
  all_goals
    first
      | (cases hs : r.stand == 1 <;> simp only [hs, cond_true, cond_false] at h <;> cases h <;> exact ⟨rfl, rfl⟩)
      | (cases hs : r.stand == 3 <;> simp only [hs, cond_true, cond_false] at h <;> cases h <;> exact ⟨rfl, rfl⟩)
      | (cases hs : r.stand == 2 <;> simp only [hs, cond_true, cond_false] at h
         · cases h
         · cases hf : fitsB (r.deeds.getLast?.getD Row.dft).op e.ret <;> simp only [hf, cond_true, cond_false] at h <;> cases h <;> exact ⟨rfl, rfl⟩)
      | (cases hs : (r.stand == 1 || r.stand == 2 || r.stand == 3 || r.stand == 4) <;> simp only [hs, cond_true, cond_false] at h <;> cases h <;> exact ⟨rfl, rfl⟩)
/-! Some transactions alone. -/
inductive RelL : List Rc → List Rc → Prop
  | nil : RelL [] []
  | cons {r r' : Rc} {l l' : List Rc} : SameT r r' → RelL l l' → RelL (r :: l) (r' :: l')
theorem RelL.snoc {l l' : List Rc} {r r' : Rc} (h : RelL l l') (hr : SameT r r') : RelL (l ++ [r]) (l' ++ [r']) := by
  induction h with
  | nil => exact .cons hr .nil
  | cons h1 _ ih => exact .cons h1 ih
theorem RelL.any {l l' : List Rc} (h : RelL l l') (p : Rc → Bool) (hp : ∀ r r', SameT r r' → p r = p r') : l.any p = l'.any p := by
  induction h with
  | nil => rfl
  | cons h1 _ ih => simp only [List.any_cons, hp _ _ h1, ih]
theorem app_in {K : Int → Bool} {e : Ev} (hK : K e.tx = true) (k k' : Nat) : ∀ {l l' : List Rc}, RelL (l.filter fun r => K r.id) l' → match appT e.tx (Rc.step k e) l with
    | none => appT e.tx (Rc.step k' e) l' = none
    | some (.inl _) => True
    | some (.inr s) => ∃ s', appT e.tx (Rc.step k' e) l' = some (.inr s') ∧ RelL (s.filter fun r => K r.id) s'
  | [], l', h => by cases h; rfl
  | r :: l, l', h => by
    simp only [List.filter_cons] at h
    simp only [appT]
    cases hi : r.id == e.tx with
    | true =>
      have hid : r.id = e.tx := by simpa using hi
      rw [hid, hK] at h
      simp only [if_true] at h
      cases h with
      | cons h1 h2 =>
        rename_i r' l''
        simp only [cond_true]
        have hs := step_same h1 e k k'
        cases hst : Rc.step k e r with
        | inl x => trivial
        | inr s =>
          rw [hst] at hs
          obtain ⟨s', e1, e2⟩ := hs
          simp only
          refine ⟨s' :: l'', ?_, ?_⟩
          · simp only [appT, ← h1.id, hi, cond_true, e1]
          · simp only [List.filter_cons, (step_id hst).1, hid, hK, if_true]
            exact .cons e2 h2
    | false =>
      simp only [cond_false]
      cases hKr : K r.id with
      | true =>
        rw [hKr] at h
        simp only [if_true] at h
        cases h with
        | cons h1 h2 =>
          rename_i r' l''
          have ih := app_in hK k k' h2
          have hi' : (r'.id == e.tx) = false := by rw [← h1.id]; exact hi
          cases ha : appT e.tx (Rc.step k e) l with
          | none =>
            rw [ha] at ih
            simp only at ih ⊢
            simp only [appT, hi', cond_false, ih]
          | some x =>
            cases x with
            | inl x => trivial
            | inr s =>
              rw [ha] at ih
              obtain ⟨s', e1, e2⟩ := ih
              simp only
              refine ⟨r' :: s', ?_, ?_⟩
              · simp only [appT, hi', cond_false, e1]
              · simp only [List.filter_cons, hKr, if_true]
                exact .cons h1 e2
      | false =>
        rw [hKr] at h
        simp only [Bool.false_eq_true, if_false] at h
        have ih := app_in hK k k' h
        cases ha : appT e.tx (Rc.step k e) l with
        | none => rw [ha] at ih; exact ih
        | some x =>
          cases x with
          | inl x => trivial
          | inr s =>
            rw [ha] at ih
            obtain ⟨s', e1, e2⟩ := ih
            simp only
            refine ⟨s', e1, ?_⟩
            simp only [List.filter_cons, hKr, Bool.false_eq_true, if_false]
            exact e2
theorem app_out {K : Int → Bool} {e : Ev} (hK : K e.tx = false) (k : Nat) : ∀ {l s : List Rc}, appT e.tx (Rc.step k e) l = some (.inr s) → s.filter (fun r => K r.id) = l.filter fun r => K r.id
  | [], s, h => by cases h
  | r :: l, s, h => by
    simp only [appT] at h
    cases hi : r.id == e.tx <;> simp only [hi, cond_true, cond_false] at h
    · cases ha : appT e.tx (Rc.step k e) l with
      | none => rw [ha] at h; cases h
      | some x =>
        cases x with
        | inl x => rw [ha] at h; cases h
        | inr s' =>
          rw [ha] at h
          cases h
          simp only [List.filter_cons, app_out hK k ha]
    · have hid : r.id = e.tx := by simpa using hi
      cases hst : Rc.step k e r with
      | inl x => rw [hst] at h; cases h
      | inr r' =>
        rw [hst] at h
        cases h
        simp only [List.filter_cons, (step_id hst).1]
        rw [hid, hK]
        rfl
theorem feed_in {K : Int → Bool} {e : Ev} (hK : K e.tx = true) (k k' : Nat) {l l' s : List Rc} (h : RelL (l.filter fun r => K r.id) l') (hf : feedL k l e = some s) : ∃ s', feedL k' l' e = some s' ∧ RelL (s.filter fun r => K r.id) s' := by
  have ha := app_in hK k k' h
  unfold feedL at hf ⊢
  cases hx : appT e.tx (Rc.step k e) l with
  | some x =>
    rw [hx] at hf
    simp only at hf
    cases hk : e.kind == 1 <;> simp only [hk, cond_true, cond_false] at hf
    · cases x with
      | inl x => cases hf
      | inr s2 =>
        cases hf
        rw [hx] at ha
        obtain ⟨s', e1, e2⟩ := ha
        exact ⟨s', by rw [e1]; rfl, e2⟩
    · cases hf
  | none =>
    rw [hx] at hf ha
    simp only at hf ha
    rw [ha]
    simp only
    cases hk : e.kind == 1 <;> simp only [hk, cond_true, cond_false] at hf ⊢
    · cases hf
    · cases hb : l.any (fun r => r.th == e.thread && r.live) <;> simp only [hb, cond_true, cond_false] at hf
      · cases hf
        have hb' : l'.any (fun r => r.th == e.thread && r.live) = false := by
          rw [← h.any _ fun r r' hs => by rw [hs.th, hs.live]]
          rw [List.any_eq_false] at hb ⊢
          intro x hx
          exact hb x (List.mem_filter.1 hx).1
        rw [hb']
        refine ⟨_, rfl, ?_⟩
        rw [List.filter_append]
        have e : ([newT e k] : List Rc).filter (fun r => K r.id) = [newT e k] := by simp [newT, hK]
        rw [e]
        exact h.snoc ⟨rfl, rfl, rfl, rfl, rfl⟩
      · cases hf
theorem feed_out {K : Int → Bool} {e : Ev} (hK : K e.tx = false) (k : Nat) {l s : List Rc} (hf : feedL k l e = some s) : s.filter (fun r => K r.id) = l.filter fun r => K r.id := by
  unfold feedL at hf
  cases hx : appT e.tx (Rc.step k e) l with
  | some x =>
    rw [hx] at hf
    simp only at hf
    cases hk : e.kind == 1 <;> simp only [hk, cond_true, cond_false] at hf
    · cases x with
      | inl x => cases hf
      | inr s2 => cases hf; exact app_out hK k hx
    · cases hf
  | none =>
    rw [hx] at hf
    simp only at hf
    cases hk : e.kind == 1 <;> simp only [hk, cond_true, cond_false] at hf
    · cases hf
    · cases hb : l.any (fun r => r.th == e.thread && r.live) <;> simp only [hb, cond_true, cond_false] at hf
      · cases hf
        rw [List.filter_append]
        simp [newT, hK]
      · cases hf
theorem feeds_filter (K : Int → Bool) : ∀ (es : List Ev) (k k' : Nat) {l l' s : List Rc}, RelL (l.filter fun r => K r.id) l' → feedsL k l es = some s → ∃ s', feedsL k' l' (es.filter fun e => K e.tx) = some s' ∧ RelL (s.filter fun r => K r.id) s'
  | [], k, k', l, l', s, h, hf => by cases hf; exact ⟨l', rfl, h⟩
  | e :: es, k, k', l, l', s, h, hf => by
    simp only [feedsL] at hf
    cases hx : feedL k l e with
    | none => rw [hx] at hf; cases hf
    | some l2 =>
      rw [hx] at hf
      simp only [List.filter_cons]
      cases hK : K e.tx with
      | true =>
        obtain ⟨l3, e1, e2⟩ := feed_in hK k k' h hx
        obtain ⟨s', e3, e4⟩ := feeds_filter K es (k + 1) (k' + 1) e2 hf
        simp only [if_true, feedsL, e1]
        exact ⟨s', e3, e4⟩
      | false =>
        simp only [Bool.false_eq_true, if_false]
        exact feeds_filter K es (k + 1) k' (by rw [feed_out hK k hx]; exact h) hf
end Go.Pl
namespace Go.Pl
open Go Go.Sx Go.Proofs
def dAft (k : Nat) (e : Ev) (l : List De) : List De :=
  bif e.kind == 2 then l ++ [⟨e.obj, e.op, e.key, e.val, 0, 0, k, -1⟩] else bif e.kind == 3 then upLast (fun d => { d with ret := e.ret, got := e.val, back := k }) l else l
def dAftC (e : Ev) (l : List De) : List De :=
  bif e.kind == 2 then l ++ [⟨e.obj, e.op, e.key, e.val, 0, 0, 0, 0⟩] else bif e.kind == 3 then upLast (fun d => { d with ret := e.ret, got := e.val }) l else l
theorem dAft_core (k : Nat) (e : Ev) (l : List De) : (dAft k e l).map coreD = dAftC e (l.map coreD) := by
  unfold dAft dAftC
  cases e.kind == 2 <;> simp only [cond_true, cond_false]
  · cases e.kind == 3 <;> simp only [cond_true, cond_false]
    exact upLast_core (fun d => { d with ret := e.ret, got := e.val, back := k }) (fun d => { d with ret := e.ret, got := e.val }) (fun d => rfl) l
  · simp only [List.map_append]; rfl
/-- What a step is. -/
theorem step_is {k : Nat} {e : Ev} {r s : Rc} (h : Rc.step k e r = .inr s) : s.deeds = dAft k e r.deeds ∧ ((e.kind = 2 ∧ r.stand = 1 ∧ s.stand = 2) ∨ (e.kind = 3 ∧ r.stand = 2 ∧ s.stand = 1) ∨ (e.kind ≠ 2 ∧ e.kind ≠ 3 ∧ r.stand ≠ 5 ∧ s.stand ≠ 2 ∧ (r.stand = 2 → s.stand = 5))) := by
  unfold Rc.step at h
  unfold dAft
  cases h2 : e.kind == 2 <;> simp only [h2, cond_true, cond_false] at h ⊢
  · have n2 : e.kind ≠ 2 := by simpa using h2
    cases h3 : e.kind == 3 <;> simp only [h3, cond_true, cond_false] at h ⊢
    · have n3 : e.kind ≠ 3 := by simpa using h3
      cases h4 : e.kind == 4 <;> simp only [h4, cond_true, cond_false] at h
      · cases h7 : e.kind == 7 <;> simp only [h7, cond_true, cond_false] at h
        · cases h5 : e.kind == 5 <;> simp only [h5, cond_true, cond_false] at h
          · cases hs : (r.stand == 1 || r.stand == 2 || r.stand == 3 || r.stand == 4) <;> simp only [hs, cond_true, cond_false] at h
            · cases h
            · cases h
              simp only [Bool.or_eq_true, beq_iff_eq] at hs
              refine ⟨rfl, .inr (.inr ⟨n2, n3, by omega, ?_, fun _ => rfl⟩)⟩
              show (5 : Int) ≠ 2
              omega
          · cases hs : r.stand == 3 <;> simp only [hs, cond_true, cond_false] at h
            · cases h
            · cases h
              have hs : r.stand = 3 := by simpa using hs
              refine ⟨rfl, .inr (.inr ⟨n2, n3, by omega, ?_, fun h => by omega⟩)⟩
              show (5 : Int) ≠ 2
              omega
        · cases hs : r.stand == 1 <;> simp only [hs, cond_true, cond_false] at h
          · cases h
          · cases h
            have hs : r.stand = 1 := by simpa using hs
            refine ⟨rfl, .inr (.inr ⟨n2, n3, by omega, ?_, fun h => by omega⟩)⟩
            show (4 : Int) ≠ 2
            omega
      · cases hs : r.stand == 1 <;> simp only [hs, cond_true, cond_false] at h
        · cases h
        · cases h
          have hs : r.stand = 1 := by simpa using hs
          refine ⟨rfl, .inr (.inr ⟨n2, n3, by omega, ?_, fun h => by omega⟩)⟩
          show (3 : Int) ≠ 2
          omega
    · cases hs : r.stand == 2 <;> simp only [hs, cond_true, cond_false] at h
      · cases h
      · cases hf : fitsB (r.deeds.getLast?.getD Row.dft).op e.ret <;> simp only [hf, cond_true, cond_false] at h
        · cases h
        · cases h
          exact ⟨rfl, .inr (.inl ⟨by simpa using h3, by simpa using hs, rfl⟩)⟩
  · cases hs : r.stand == 1 <;> simp only [hs, cond_true, cond_false] at h
    · cases h
    · cases h
      exact ⟨rfl, .inl ⟨by simpa using h2, by simpa using hs, rfl⟩⟩
theorem step_gen {r r' : Rc} (hs : r.stand = r'.stand) (hst : r.st = r'.st) (hop : r.stand = 2 → (r.deeds.getLast?.getD Row.dft).op = (r'.deeds.getLast?.getD Row.dft).op) {e : Ev} {k k' : Nat} {s : Rc} (h : Rc.step k e r = .inr s) : ∃ s', Rc.step k' e r' = .inr s' ∧ s.stand = s'.stand ∧ s.st = s'.st := by
  unfold Rc.step at h ⊢
  rw [← hs]
  cases h2 : e.kind == 2 <;> simp only [h2, cond_true, cond_false] at h ⊢
  · cases h3 : e.kind == 3 <;> simp only [h3, cond_true, cond_false] at h ⊢
    · cases h4 : e.kind == 4 <;> simp only [h4, cond_true, cond_false] at h ⊢
      · cases h7 : e.kind == 7 <;> simp only [h7, cond_true, cond_false] at h ⊢
        · cases h5 : e.kind == 5 <;> simp only [h5, cond_true, cond_false] at h ⊢
          · cases hq : (r.stand == 1 || r.stand == 2 || r.stand == 3 || r.stand == 4) <;> simp only [hq, cond_true, cond_false] at h ⊢
            · cases h
            · cases h; exact ⟨_, rfl, rfl, rfl⟩
          · cases hq : r.stand == 3 <;> simp only [hq, cond_true, cond_false] at h ⊢
            · cases h
            · cases h; exact ⟨_, rfl, rfl, rfl⟩
        · cases hq : r.stand == 1 <;> simp only [hq, cond_true, cond_false] at h ⊢
          · cases h
          · cases h; exact ⟨_, rfl, rfl, hst⟩
      · cases hq : r.stand == 1 <;> simp only [hq, cond_true, cond_false] at h ⊢
        · cases h
        · cases h; exact ⟨_, rfl, rfl, rfl⟩
    · cases hq : r.stand == 2 <;> simp only [hq, cond_true, cond_false] at h ⊢
      · cases h
      · rw [← hop (by simpa using hq)]
        cases hf : fitsB (r.deeds.getLast?.getD Row.dft).op e.ret <;> simp only [hf, cond_true, cond_false] at h ⊢
        · cases h
        · cases h; exact ⟨_, rfl, rfl, hst⟩
  · cases hq : r.stand == 1 <;> simp only [hq, cond_true, cond_false] at h ⊢
    · cases h
    · cases h; exact ⟨_, rfl, rfl, hst⟩
theorem feedL_ix {k : Nat} {l s : List Rc} {e : Ev} (h : feedL k l e = some s) :
    (e.kind ≠ 1 ∧ ∃ i r r', l.findIdx? (fun r => r.id == e.tx) = some i ∧ l[i]? = some r ∧ Rc.step k e r = .inr r' ∧ s = l.set i r') ∨
    (e.kind = 1 ∧ l.findIdx? (fun r => r.id == e.tx) = none ∧ l.any (fun r => r.th == e.thread && r.live) = false ∧ s = l ++ [newT e k]) := by
  unfold feedL at h
  rw [appT_idx] at h
  cases hi : l.findIdx? (fun r => r.id == e.tx) with
  | some i =>
    rw [hi] at h
    simp only at h
    cases hk : e.kind == 1 <;> simp only [hk, cond_true, cond_false] at h
    · have hlt : i < l.length := (List.findIdx?_eq_some_iff_getElem.1 hi).1
      have hg : l.getD i ⟨0, 0, 0, 0, 0, 0, [], 0⟩ = l[i] := by simp [List.getD_eq_getElem?_getD, hlt]
      rw [hg] at h
      cases hs : Rc.step k e l[i] with
      | inl x => rw [hs] at h; cases h
      | inr r' =>
        rw [hs] at h
        cases h
        exact .inl ⟨by simpa using hk, i, l[i], r', rfl, by simp [hlt], hs, rfl⟩
    · cases h
  | none =>
    rw [hi] at h
    simp only at h
    cases hk : e.kind == 1 <;> simp only [hk, cond_true, cond_false] at h
    · cases h
    · cases hb : l.any (fun r => r.th == e.thread && r.live) <;> simp only [hb, cond_true, cond_false] at h
      · cases h; exact .inr ⟨by simpa using hk, rfl, rfl, rfl⟩
      · cases h
theorem feedL_mk1 {k : Nat} {l : List Rc} {e : Ev} {i : Nat} {r r' : Rc} (hk : e.kind ≠ 1) (hi : l.findIdx? (fun r => r.id == e.tx) = some i) (hr : l[i]? = some r) (hs : Rc.step k e r = .inr r') : feedL k l e = some (l.set i r') := by
  unfold feedL
  rw [appT_idx, hi]
  have hk' : (e.kind == 1) = false := by simpa using hk
  have hg : l.getD i ⟨0, 0, 0, 0, 0, 0, [], 0⟩ = r := by simp [List.getD_eq_getElem?_getD, hr]
  simp only [hk', cond_false, hg, hs]
theorem feedL_mk2 {k : Nat} {l : List Rc} {e : Ev} (hk : e.kind = 1) (hi : l.findIdx? (fun r => r.id == e.tx) = none) (hb : l.any (fun r => r.th == e.thread && r.live) = false) : feedL k l e = some (l ++ [newT e k]) := by
  unfold feedL
  rw [appT_idx, hi]
  have hk' : (e.kind == 1) = true := by simpa using hk
  simp only [hk', cond_true, hb, cond_false]
/-! Deeds and their places. -/
theorem upLast_len {α : Type} (f : α → α) : ∀ l : List α, (upLast f l).length = l.length
  | [] => rfl
  | [_] => rfl
  | x :: y :: l => by simp [upLast, upLast_len f (y :: l)]
theorem upLast_at {α : Type} (f : α → α) : ∀ (l : List α) (j : Nat), (upLast f l)[j]? = if j + 1 = l.length then l[j]?.map f else l[j]?
  | [], j => by simp [upLast]
  | [x], j => by
    cases j with
    | zero => simp [upLast]
    | succ j => simp [upLast]
  | x :: y :: l, 0 => by simp [upLast]
  | x :: y :: l, j + 1 => by
    simp only [upLast, List.getElem?_cons_succ]
    rw [upLast_at f (y :: l) j]
    simp
theorem upLast_erase {α : Type} (f : α → α) : ∀ (l : List α) (c : Nat), c + 1 < l.length → (upLast f l).eraseIdx c = upLast f (l.eraseIdx c)
  | [], c, h => by simp at h
  | [x], c, h => by simp at h
  | x :: y :: l, 0, h => by simp [upLast]
  | x :: y :: l, c + 1, h => by
    simp only [upLast, List.eraseIdx_cons_succ]
    rw [upLast_erase f (y :: l) c (by simpa using h)]
    cases hl : (y :: l).eraseIdx c with
    | nil =>
      have := congrArg List.length hl
      rw [List.length_eraseIdx] at this
      simp at this h
      split at this <;> omega
    | cons z t => rfl
theorem upLast_eraseLast {α : Type} (f : α → α) (l : List α) (c : Nat) (h : l.length = c + 1) : (upLast f l).eraseIdx c = l.eraseIdx c := by
  apply List.ext_getElem?
  intro j
  rw [List.getElem?_eraseIdx, List.getElem?_eraseIdx, upLast_at, upLast_at]
  by_cases hj : j < c
  · simp only [hj, if_true]
    rw [if_neg (by omega)]
  · simp only [hj, if_false]
    rw [if_neg (by omega)]
structure InvT (t : Nat) (r : Rc) : Prop where
  here : ∀ (j : Nat) (d : De), r.deeds[j]? = some d → 0 ≤ d.here ∧ d.here < t
  back : ∀ (j : Nat) (d : De), r.deeds[j]? = some d → d.back = -1 ∨ (0 ≤ d.back ∧ d.back < t)
  wait : r.stand = 2 → ∀ d : De, r.deeds.getLast? = some d → d.back = -1
  has : r.stand = 2 → r.deeds ≠ []
theorem InvT.up {t : Nat} {r : Rc} (h : InvT t r) : InvT (t + 1) r :=
  ⟨fun j d hd => by have := h.here j d hd; omega, fun j d hd => by have := h.back j d hd; omega, h.wait, h.has⟩
theorem inv_step {t : Nat} {e : Ev} {r s : Rc} (h : InvT t r) (hs : Rc.step t e r = .inr s) : InvT (t + 1) s := by
  obtain ⟨hd, hc⟩ := step_is hs
  rcases hc with ⟨k2, a1, a2⟩ | ⟨k3, a1, a2⟩ | ⟨n2, n3, a1, a2, _⟩
  · have hd : s.deeds = r.deeds ++ [⟨e.obj, e.op, e.key, e.val, 0, 0, t, -1⟩] := by rw [hd]; simp [dAft, k2]
    refine ⟨fun j d hj => ?_, fun j d hj => ?_, fun _ d hj => ?_, fun _ => by rw [hd]; simp⟩
    · rw [hd, List.getElem?_append] at hj
      split at hj
      · have := h.here j d hj; omega
      · rw [List.getElem?_singleton] at hj
        split at hj
        · cases hj; show (0 : Int) ≤ (t : Int) ∧ (t : Int) < ((t + 1 : Nat) : Int); omega
        · cases hj
    · rw [hd, List.getElem?_append] at hj
      split at hj
      · have := h.back j d hj; omega
      · rw [List.getElem?_singleton] at hj
        split at hj
        · cases hj; exact .inl rfl
        · cases hj
    · rw [hd] at hj
      simp at hj
      subst hj; rfl
  · have hd : s.deeds = upLast (fun d => { d with ret := e.ret, got := e.val, back := t }) r.deeds := by rw [hd]; simp [dAft, k3]
    refine ⟨fun j d hj => ?_, fun j d hj => ?_, fun h2 => by omega, fun h2 => by omega⟩
    · rw [hd, upLast_at] at hj
      split at hj
      · obtain ⟨d0, q1, rfl⟩ := Option.map_eq_some_iff.1 hj
        have := h.here j d0 q1
        show 0 ≤ d0.here ∧ d0.here < ((t + 1 : Nat) : Int)
        omega
      · have := h.here j d hj; omega
    · rw [hd, upLast_at] at hj
      split at hj
      · obtain ⟨d0, q1, rfl⟩ := Option.map_eq_some_iff.1 hj
        right
        show (0 : Int) ≤ (t : Int) ∧ (t : Int) < ((t + 1 : Nat) : Int)
        omega
      · have := h.back j d hj; omega
  · have e2 : (e.kind == 2) = false := by simpa using n2
    have e3 : (e.kind == 3) = false := by simpa using n3
    have hd : s.deeds = r.deeds := by rw [hd]; unfold dAft; rw [e2, e3]; rfl
    refine ⟨fun j d hj => ?_, fun j d hj => ?_, fun h2 => (a2 h2).elim, fun h2 => (a2 h2).elim⟩
    · rw [hd] at hj; have := h.here j d hj; omega
    · rw [hd] at hj; have := h.back j d hj; omega
theorem inv_feed {t : Nat} {e : Ev} {l s : List Rc} (h : ∀ (i : Nat) (r : Rc), l[i]? = some r → InvT t r) (hf : feedL t l e = some s) : ∀ (i : Nat) (r : Rc), s[i]? = some r → InvT (t + 1) r := by
  intro i r hr
  rcases feedL_ix hf with ⟨_, i0, r0, r1, h1, h2, h3, rfl⟩ | ⟨_, _, _, rfl⟩
  · rw [List.getElem?_set] at hr
    split at hr
    · split at hr
      · cases hr; exact inv_step (h i0 r0 h2) h3
      · cases hr
    · exact (h i r hr).up
  · rw [List.getElem?_append] at hr
    split at hr
    · exact (h i r hr).up
    · rw [List.getElem?_singleton] at hr
      split at hr
      · cases hr
        exact ⟨fun j d hj => by simp [newT] at hj, fun j d hj => by simp [newT] at hj, fun h2 => by simp [newT] at h2, fun h2 => by simp [newT] at h2⟩
      · cases hr
/-- What is known of the deed at a time. -/
structure Fx (i c : Nat) (u v : Int) (t : Nat) (rs : List Rc) : Prop where
  pre : (t : Int) ≤ u → ∀ r, rs[i]? = some r → r.deeds.length ≤ c
  post : u < t → ∃ r d, rs[i]? = some r ∧ r.deeds[c]? = some d ∧ d.here = u ∧ d.back = if v < t then v else -1
theorem dAft_here {k : Nat} {e : Ev} {l : List De} {j : Nat} {d : De} (h : l[j]? = some d) : ∃ d', (dAft k e l)[j]? = some d' ∧ d'.here = d.here ∧ (d'.back = d.back ∨ (e.kind = 3 ∧ j + 1 = l.length ∧ d'.back = k)) := by
  have hlt : j < l.length := (List.getElem?_eq_some_iff.1 h).1
  unfold dAft
  cases h2 : e.kind == 2 <;> simp only [cond_true, cond_false]
  · cases h3 : e.kind == 3 <;> simp only [cond_true, cond_false]
    · exact ⟨d, h, rfl, .inl rfl⟩
    · rw [upLast_at]
      split
      · rename_i hj
        exact ⟨{ d with ret := e.ret, got := e.val, back := k }, by rw [h]; rfl, rfl, .inr ⟨by simpa using h3, hj, rfl⟩⟩
      · exact ⟨d, h, rfl, .inl rfl⟩
  · exact ⟨d, by rw [List.getElem?_append_left hlt]; exact h, rfl, .inl rfl⟩
theorem dAft_len (k : Nat) (e : Ev) (l : List De) : l.length ≤ (dAft k e l).length := by
  unfold dAft
  cases e.kind == 2 <;> simp only [cond_true, cond_false]
  · cases e.kind == 3 <;> simp only [cond_true, cond_false]
    · exact Nat.le_refl _
    · rw [upLast_len]; exact Nat.le_refl _
  · simp
theorem dAft_new {k : Nat} {e : Ev} {l : List De} {j : Nat} {d : De} (h : (dAft k e l)[j]? = some d) (hn : l.length ≤ j) : e.kind = 2 ∧ j = l.length ∧ d.here = k ∧ d.back = -1 := by
  unfold dAft at h
  cases h2 : e.kind == 2 <;> simp only [h2, cond_true, cond_false] at h
  · cases h3 : e.kind == 3 <;> simp only [h3, cond_true, cond_false] at h
    · have := (List.getElem?_eq_some_iff.1 h).1; omega
    · have := (List.getElem?_eq_some_iff.1 h).1
      rw [upLast_len] at this; omega
  · rw [List.getElem?_append_right hn, List.getElem?_singleton] at h
    split at h
    · cases h; exact ⟨by simpa using h2, by omega, rfl, rfl⟩
    · cases h
/-- How the transaction at a place goes on. -/
theorem feed_at {t : Nat} {e : Ev} {l s : List Rc} (hf : feedL t l e = some s) (i : Nat) : (s[i]? = l[i]?) ∨ (∃ r r', l[i]? = some r ∧ s[i]? = some r' ∧ Rc.step t e r = .inr r') ∨ (l[i]? = none ∧ s[i]? = some (newT e t)) := by
  rcases feedL_ix hf with ⟨_, i0, r0, r1, h1, h2, h3, rfl⟩ | ⟨_, _, _, rfl⟩
  · rw [List.getElem?_set]
    by_cases hi : i0 = i
    · subst hi
      have hlt : i0 < l.length := (List.getElem?_eq_some_iff.1 h2).1
      simp only [if_true, hlt]
      exact .inr (.inl ⟨r0, r1, h2, rfl, h3⟩)
    · simp only [hi, if_false]; exact .inl trivial
  · by_cases hlt : i < l.length
    · rw [List.getElem?_append_left hlt]; exact .inl rfl
    · rw [List.getElem?_append_right (by omega)]
      by_cases h0 : i - l.length = 0
      · right; right
        rw [h0]
        exact ⟨by simp; omega, rfl⟩
      · left
        rw [List.getElem?_singleton, if_neg h0]
        simp; omega
theorem Fx.prev {i c : Nat} {u v : Int} {t : Nat} {l s : List Rc} {e : Ev} (hx : Fx i c u v (t + 1) s) (hv : v = -1 ∨ 0 ≤ v) (hinv : ∀ (i : Nat) (r : Rc), l[i]? = some r → InvT t r) (hf : feedL t l e = some s) : Fx i c u v t l := by
  have hat := feed_at hf i
  refine ⟨fun htu r hr => ?_, fun hut => ?_⟩
  · by_cases hu : (t : Int) = u
    · obtain ⟨r1, d, a1, a2, a3, _⟩ := hx.post (by omega)
      by_cases hlen : c < r.deeds.length
      · exfalso
        have hd0 : r.deeds[c]? = some r.deeds[c] := List.getElem?_eq_getElem hlen
        have hh := ((hinv i r hr).here c _ hd0).2
        rcases hat with h | ⟨r2, r3, h1, h2, h3⟩ | ⟨h1, _⟩
        · rw [h, hr] at a1
          cases a1
          rw [hd0] at a2
          cases a2
          omega
        · rw [hr] at h1; cases h1
          rw [h2] at a1; cases a1
          rw [(step_is h3).1] at a2
          obtain ⟨d', b1, b2, _⟩ := dAft_here (k := t) (e := e) hd0
          rw [b1] at a2
          cases a2
          omega
        · rw [hr] at h1; cases h1
      · omega
    · have hp := hx.pre (by omega)
      rcases hat with h | ⟨r2, r3, h1, h2, h3⟩ | ⟨h1, _⟩
      · exact hp r (by rw [h]; exact hr)
      · rw [hr] at h1; cases h1
        have := hp r3 h2
        rw [(step_is h3).1] at this
        have := dAft_len t e r.deeds
        omega
      · rw [hr] at h1; cases h1
  · obtain ⟨r1, d, a1, a2, a3, a4⟩ := hx.post (by omega)
    have same : ∀ r, l[i]? = some r → r.deeds[c]? = some d → ∃ r d, l[i]? = some r ∧ r.deeds[c]? = some d ∧ d.here = u ∧ d.back = if v < t then v else -1 := fun r hr hd => by
      refine ⟨r, d, hr, hd, a3, ?_⟩
      have hb := (hinv i r hr).back c d hd
      rw [a4]
      by_cases h1 : v < (t : Int)
      · rw [if_pos h1, if_pos (by omega)]
      · rw [if_neg h1]
        by_cases h2 : v < ((t + 1 : Nat) : Int)
        · rw [if_pos h2] at a4 ⊢
          rcases hb with hb | hb <;> omega
        · rw [if_neg h2]
    rcases hat with h | ⟨r2, r3, h1, h2, h3⟩ | ⟨h1, h2⟩
    · rw [h] at a1
      exact same r1 a1 a2
    · rw [h2] at a1; cases a1
      obtain ⟨hd, hc⟩ := step_is h3
      rw [hd] at a2
      by_cases hlen : c < r2.deeds.length
      · have hd0 : r2.deeds[c]? = some r2.deeds[c] := List.getElem?_eq_getElem hlen
        obtain ⟨d', b1, b2, b3⟩ := dAft_here (k := t) (e := e) hd0
        rw [b1] at a2
        cases a2
        rcases b3 with b3 | ⟨k3, hlast, b3⟩
        · refine ⟨r2, r2.deeds[c], h1, hd0, by omega, ?_⟩
          have hb := (hinv i r2 h1).back c _ hd0
          rw [← b3, a4]
          by_cases h1 : v < (t : Int)
          · rw [if_pos h1, if_pos (by omega)]
          · rw [if_neg h1]
            by_cases h2 : v < ((t + 1 : Nat) : Int)
            · rw [if_pos h2] at a4 ⊢
              rw [← b3, a4] at hb
              rcases hb with hb | hb <;> omega
            · rw [if_neg h2]
        · have hst : r2.stand = 2 := by
            rcases hc with ⟨k2, _⟩ | ⟨_, q, _⟩ | ⟨_, n3, _⟩
            · omega
            · exact q
            · exact (n3 k3).elim
          have hw := (hinv i r2 h1).wait hst r2.deeds[c] (by rw [List.getLast?_eq_getElem?, ← hlast, Nat.add_sub_cancel]; exact hd0)
          refine ⟨r2, r2.deeds[c], h1, hd0, by omega, ?_⟩
          rw [hw]
          rw [b3] at a4
          by_cases h2 : v < ((t + 1 : Nat) : Int)
          · rw [if_pos h2] at a4
            rw [if_neg (by omega)]
          · rw [if_neg h2] at a4; omega
      · obtain ⟨_, _, q, _⟩ := dAft_new a2 (by omega)
        omega
    · rw [h2] at a1
      cases a1
      simp [newT] at a2
end Go.Pl
namespace Go.Pl
open Go Go.Sx Go.Proofs
theorem step_st {k : Nat} {e : Ev} {r s : Rc} (h : Rc.step k e r = .inr s) (hk : e.kind = 2 ∨ e.kind = 3) : s.st = r.st := by
  unfold Rc.step at h
  rcases hk with hk | hk
  · have h2 : (e.kind == 2) = true := by simpa using hk
    simp only [h2, cond_true] at h
    cases hs : r.stand == 1 <;> simp only [hs, cond_true, cond_false] at h <;> cases h
    rfl
  · have h2 : (e.kind == 2) = false := by rw [hk]; rfl
    have h3 : (e.kind == 3) = true := by simpa using hk
    simp only [h2, h3, cond_true, cond_false] at h
    cases hs : r.stand == 2 <;> simp only [hs, cond_true, cond_false] at h
    · cases h
    · cases hf : fitsB (r.deeds.getLast?.getD Row.dft).op e.ret <;> simp only [hf, cond_true, cond_false] at h <;> cases h
      rfl
theorem step_abort {k : Nat} {e : Ev} {r s : Rc} (h : Rc.step k e r = .inr s) (h2 : r.stand = 2) (n3 : e.kind ≠ 3) {r' : Rc} (h1 : r'.stand = 1) (k' : Nat) : ∃ s', Rc.step k' e r' = .inr s' ∧ s'.stand = 5 ∧ s.stand = 5 ∧ s.st = 4 ∧ s'.st = 4 ∧ s'.deeds = r'.deeds ∧ s.deeds = r.deeds := by
  unfold Rc.step at h ⊢
  have e3 : (e.kind == 3) = false := by simpa using n3
  rw [h2] at h
  cases c2 : e.kind == 2 <;> simp only [c2, e3, cond_true, cond_false] at h ⊢
  · cases c4 : e.kind == 4 <;> simp only [c4, cond_true, cond_false] at h ⊢
    · cases c7 : e.kind == 7 <;> simp only [c7, cond_true, cond_false] at h ⊢
      · cases c5 : e.kind == 5 <;> simp only [c5, cond_true, cond_false] at h ⊢
        · have q : ((2 : Int) == 1 || (2 : Int) == 2 || (2 : Int) == 3 || (2 : Int) == 4) = true := rfl
          rw [q] at h
          cases h
          rw [h1]
          exact ⟨_, rfl, rfl, rfl, rfl, rfl, rfl, rfl⟩
        · exact absurd h (by simp)
      · exact absurd h (by simp)
    · exact absurd h (by simp)
  · exact absurd h (by simp)
def AtI (c : Nat) (u v : Int) (t : Nat) (r r' : Rc) : Prop :=
  ((t : Int) ≤ u → SameT r r') ∧ (u < t → r.id = r'.id ∧ r.th = r'.th ∧ r.st = r'.st ∧ r'.deeds.map coreD = (r.deeds.map coreD).eraseIdx c ∧
    ((v = -1 ∨ (t : Int) ≤ v) → (r.stand = 2 ∧ r'.stand = 1 ∧ r.deeds.length = c + 1) ∨ (r.stand = 5 ∧ r'.stand = 5)) ∧ (¬ (v = -1 ∨ (t : Int) ≤ v) → r.stand = r'.stand ∧ (r.stand = 2 → c + 1 < r.deeds.length)))
theorem AtI.key {c : Nat} {u v : Int} {t : Nat} {r r' : Rc} (h : AtI c u v t r r') : r.id = r'.id ∧ r.th = r'.th ∧ r.live = r'.live := by
  by_cases hu : (t : Int) ≤ u
  · have := h.1 hu
    exact ⟨this.id, this.th, this.live⟩
  · obtain ⟨a1, a2, _, _, a5, a6⟩ := h.2 (by omega)
    refine ⟨a1, a2, ?_⟩
    by_cases hv : v = -1 ∨ (t : Int) ≤ v
    · rcases a5 hv with ⟨b1, b2, _⟩ | ⟨b1, b2⟩ <;> simp [Rc.live, b1, b2]
    · simp [Rc.live, (a6 hv).1]
theorem AtI.shift {c : Nat} {u v : Int} {t : Nat} {r r' : Rc} (h : AtI c u v t r r') (hu : (t : Int) ≠ u) (hv : (t : Int) ≠ v) : AtI c u v (t + 1) r r' := by
  refine ⟨fun h1 => h.1 (by omega), fun h1 => ?_⟩
  obtain ⟨a1, a2, a3, a4, a5, a6⟩ := h.2 (by omega)
  exact ⟨a1, a2, a3, a4, fun h2 => a5 (by omega), fun h2 => a6 (by omega)⟩
structure Sm (i c : Nat) (u v : Int) (t : Nat) (l l' : List Rc) : Prop where
  len : l'.length = l.length
  oth : ∀ (j : Nat) (r r' : Rc), j ≠ i → l[j]? = some r → l'[j]? = some r' → SameT r r'
  at_ : ∀ (r r' : Rc), l[i]? = some r → l'[i]? = some r' → AtI c u v t r r'
theorem Sm.key {i c : Nat} {u v : Int} {t : Nat} {l l' : List Rc} (h : Sm i c u v t l l') (j : Nat) (r r' : Rc) (h1 : l[j]? = some r) (h2 : l'[j]? = some r') : r.id = r'.id ∧ r.th = r'.th ∧ r.live = r'.live := by
  by_cases hj : j = i
  · subst hj; exact (h.at_ r r' h1 h2).key
  · have := h.oth j r r' hj h1 h2
    exact ⟨this.id, this.th, this.live⟩
theorem map_key {α : Type} {l l' : List Rc} (f : Rc → α) (hl : l'.length = l.length) (h : ∀ (j : Nat) (r r' : Rc), l[j]? = some r → l'[j]? = some r' → f r = f r') : l.map f = l'.map f := by
  apply List.ext_getElem
  · simp [hl]
  · intro j h1 h2
    simp only [List.length_map] at h1 h2
    simp only [List.getElem_map]
    exact h j _ _ (List.getElem?_eq_getElem h1) (List.getElem?_eq_getElem h2)
theorem Sm.find {i c : Nat} {u v : Int} {t : Nat} {l l' : List Rc} (h : Sm i c u v t l l') (x : Int) : l.findIdx? (fun r => r.id == x) = l'.findIdx? (fun r => r.id == x) := by
  have e := map_key (fun r => r.id) h.len fun j r r' h1 h2 => (h.key j r r' h1 h2).1
  have e1 : ∀ l : List Rc, l.findIdx? (fun r => r.id == x) = (l.map fun r => r.id).findIdx? (fun y => y == x) := fun l => by rw [List.findIdx?_map]; rfl
  rw [e1, e1, e]
theorem Sm.any {i c : Nat} {u v : Int} {t : Nat} {l l' : List Rc} (h : Sm i c u v t l l') (x : Int) : l.any (fun r => r.th == x && r.live) = l'.any (fun r => r.th == x && r.live) := by
  have e := map_key (fun r => (r.th, r.live)) h.len fun j r r' h1 h2 => by rw [(h.key j r r' h1 h2).2.1, (h.key j r r' h1 h2).2.2]
  have e1 : ∀ l : List Rc, l.any (fun r => r.th == x && r.live) = (l.map fun r => (r.th, r.live)).any (fun y => y.1 == x && y.2) := fun l => by rw [List.any_map]; rfl
  rw [e1, e1, e]
theorem last_erase {α : Type} {l : List α} {c : Nat} (h : c + 1 < l.length) : (l.eraseIdx c).getLast? = l.getLast? := by
  have e : (l.eraseIdx c).length = l.length - 1 := by rw [List.length_eraseIdx, if_pos (by omega)]
  rw [List.getLast?_eq_getElem?, List.getLast?_eq_getElem?, e, List.getElem?_eraseIdx, if_neg (by omega)]
  congr 1; omega
theorem dAftC_erase {e : Ev} {l : List De} {c : Nat} (h1 : c < l.length) (h2 : e.kind = 3 → c + 1 < l.length) : (dAftC e l).eraseIdx c = dAftC e (l.eraseIdx c) := by
  unfold dAftC
  cases k2 : e.kind == 2 <;> simp only [cond_true, cond_false]
  · cases k3 : e.kind == 3 <;> simp only [cond_true, cond_false]
    exact upLast_erase _ _ _ (h2 (by simpa using k3))
  · rw [List.eraseIdx_append_of_lt_length h1]
theorem sm_keep {i c : Nat} {u v : Int} {t t' : Nat} {l l' s : List Rc} {e : Ev} (hsm : Sm i c u v t l l') (hf : feedL t l e = some s) (hx : Fx i c u v t l) (hx1 : Fx i c u v (t + 1) s) (hu : (t : Int) ≠ u) (hv : (t : Int) ≠ v) :
    ∃ s', feedL t' l' e = some s' ∧ Sm i c u v (t + 1) s s' := by
  rcases feedL_ix hf with ⟨hk, i0, r0, r1, h1, h2, h3, rfl⟩ | ⟨hk, h1, h2, rfl⟩
  · have hlt : i0 < l.length := (List.getElem?_eq_some_iff.1 h2).1
    have hlt' : i0 < l'.length := by rw [hsm.len]; exact hlt
    have h2' : l'[i0]? = some l'[i0] := List.getElem?_eq_getElem hlt'
    have hfind : l'.findIdx? (fun r => r.id == e.tx) = some i0 := by rw [← hsm.find]; exact h1
    have fin : ∀ r1', Rc.step t' e l'[i0] = .inr r1' → (i0 ≠ i → SameT r1 r1') → (i0 = i → AtI c u v (t + 1) r1 r1') → ∃ s', feedL t' l' e = some s' ∧ Sm i c u v (t + 1) (l.set i0 r1) s' := fun r1' q1 q2 q3 => by
      refine ⟨_, feedL_mk1 hk hfind h2' q1, ?_, fun j r r' hj a1 a2 => ?_, fun r r' a1 a2 => ?_⟩
      · simp [hsm.len]
      · rw [List.getElem?_set] at a1 a2
        by_cases hji : i0 = j
        · subst hji
          simp only [if_true, hlt, hlt'] at a1 a2
          cases a1; cases a2
          exact q2 hj
        · simp only [hji, if_false] at a1 a2
          exact hsm.oth j r r' hj a1 a2
      · rw [List.getElem?_set] at a1 a2
        by_cases hji : i0 = i
        · subst hji
          simp only [if_true, hlt, hlt'] at a1 a2
          cases a1; cases a2
          exact q3 rfl
        · simp only [hji, if_false] at a1 a2
          exact (hsm.at_ r r' a1 a2).shift hu hv
    by_cases hi : i0 = i
    · subst hi
      have ha := hsm.at_ r0 _ h2 h2'
      by_cases htu : (t : Int) ≤ u
      · have hs := step_same (ha.1 htu) e t t'
        rw [h3] at hs
        obtain ⟨r1', q1, q2⟩ := hs
        exact fin r1' q1 (fun _ => q2) (fun _ => ⟨fun _ => q2, fun h => by omega⟩)
      · obtain ⟨a1, a2, a3, a4, a5, a6⟩ := ha.2 (by omega)
        obtain ⟨hd, hc⟩ := step_is h3
        obtain ⟨r9, d9, b1, b2, b3, b4⟩ := hx.post (by omega)
        rw [h2] at b1
        cases b1
        have hclt : c < r0.deeds.length := (List.getElem?_eq_some_iff.1 b2).1
        by_cases hph : v = -1 ∨ (t : Int) ≤ v
        · rcases a5 hph with ⟨c1, c2, c3⟩ | ⟨c1, c2⟩
          · by_cases k3 : e.kind = 3
            · exfalso
              obtain ⟨r8, d8, e1, e2, e3, e4⟩ := hx1.post (by omega)
              rw [List.getElem?_set] at e1
              simp only [if_true, hlt] at e1
              cases e1
              rw [hd] at e2
              have hd2 : dAft t e r0.deeds = upLast (fun d => { d with ret := e.ret, got := e.val, back := t }) r0.deeds := by
                unfold dAft
                have q2 : (e.kind == 2) = false := by rw [k3]; rfl
                have q3 : (e.kind == 3) = true := by simpa using k3
                rw [q2, q3]; rfl
              rw [hd2, upLast_at, if_pos (by omega), b2] at e2
              cases e2
              have e4 : (t : Int) = if v < ((t + 1 : Nat) : Int) then v else -1 := e4
              split at e4 <;> omega
            · obtain ⟨r1', q1, q2, q3, q4, q5, q6, q7⟩ := step_abort h3 c1 k3 c2 t'
              have i1 := step_id h3
              have i2 := step_id q1
              refine fin r1' q1 (fun h => (h rfl).elim) (fun _ => ⟨fun h => by omega, fun _ => ⟨by rw [i1.1, i2.1]; exact a1, by rw [i1.2, i2.2]; exact a2, by rw [q4, q5], by rw [q6, q7]; exact a4, fun _ => .inr ⟨q3, q2⟩, fun h => ?_⟩⟩)
              exact ⟨by rw [q3, q2], fun h => by omega⟩
          · exfalso
            rcases hc with ⟨_, q, _⟩ | ⟨_, q, _⟩ | ⟨_, _, q, _⟩ <;> omega
        · obtain ⟨c1, c2⟩ := a6 hph
          have hop : r0.stand = 2 → (r0.deeds.getLast?.getD Row.dft).op = (l'[i0].deeds.getLast?.getD Row.dft).op := fun h2 => by
            have hlen := c2 h2
            have e1 : (r0.deeds.map coreD).getLast? = (l'[i0].deeds.map coreD).getLast? := by
              rw [a4, last_erase (by simpa using hlen)]
            rw [List.getLast?_map, List.getLast?_map] at e1
            cases q1 : r0.deeds.getLast? <;> cases q2 : l'[i0].deeds.getLast? <;> rw [q1, q2] at e1 <;> simp at e1
            · simp only [Option.getD_some]
              have q3 : (coreD _).op = (coreD _).op := congrArg De.op e1
              exact q3
          obtain ⟨r1', q1, q2, q3⟩ := step_gen c1 a3 hop (k' := t') h3
          have i1 := step_id h3
          have i2 := step_id q1
          have d1 := (step_is q1).1
          refine fin r1' q1 (fun h => (h rfl).elim) (fun _ => ⟨fun h => by omega, fun _ => ⟨by rw [i1.1, i2.1]; exact a1, by rw [i1.2, i2.2]; exact a2, q3, ?_, fun h => by omega, fun _ => ⟨q2, fun h2 => ?_⟩⟩⟩)
          · rw [hd, d1, dAft_core, dAft_core, a4]
            refine (dAftC_erase (by simpa using hclt) fun k3 => ?_).symm
            rcases hc with ⟨k2, _⟩ | ⟨_, q, _⟩ | ⟨_, n3, _⟩
            · omega
            · simpa using c2 q
            · exact (n3 k3).elim
          · rcases hc with ⟨k2, _⟩ | ⟨_, _, q⟩ | ⟨_, _, _, q, _⟩
            · have e2 : (e.kind == 2) = true := by simpa using k2
              rw [hd]
              unfold dAft
              rw [e2]
              simp
              omega
            · omega
            · exact (q h2).elim
    · have hs := step_same (hsm.oth i0 r0 _ hi h2 h2') e t t'
      rw [h3] at hs
      obtain ⟨r1', q1, q2⟩ := hs
      exact fin r1' q1 (fun _ => q2) (fun h => (hi h).elim)
  · refine ⟨_, feedL_mk2 hk (by rw [← hsm.find]; exact h1) (by rw [← hsm.any]; exact h2), by simp [hsm.len], fun j r r' hj a1 a2 => ?_, fun r r' a1 a2 => ?_⟩
    · rw [List.getElem?_append] at a1 a2
      rw [hsm.len] at a2
      by_cases hjl : j < l.length
      · simp only [hjl, if_true] at a1 a2
        exact hsm.oth j r r' hj a1 a2
      · simp only [hjl, if_false] at a1 a2
        rw [List.getElem?_singleton] at a1 a2
        split at a1
        · rename_i h0
          rw [if_pos h0] at a2
          cases a1; cases a2
          exact ⟨rfl, rfl, rfl, rfl, rfl⟩
        · cases a1
    · rw [List.getElem?_append] at a1 a2
      rw [hsm.len] at a2
      by_cases hjl : i < l.length
      · simp only [hjl, if_true] at a1 a2
        exact (hsm.at_ r r' a1 a2).shift hu hv
      · have a1' := a1
        simp only [hjl, if_false] at a1 a2
        rw [List.getElem?_singleton] at a1 a2
        split at a1
        · rename_i h0
          rw [if_pos h0] at a2
          cases a1; cases a2
          refine ⟨fun _ => ⟨rfl, rfl, rfl, rfl, rfl⟩, fun hlt => ?_⟩
          exfalso
          obtain ⟨r8, d8, e1, e2, _⟩ := hx1.post hlt
          rw [List.getElem?_append, if_neg hjl, List.getElem?_singleton, if_pos h0] at e1
          cases e1
          simp [newT] at e2
        · cases a1
/-- Where the deed begins. -/
theorem at_u {i c : Nat} {u v : Int} {t : Nat} {l s : List Rc} {e : Ev} (hf : feedL t l e = some s) (hx : Fx i c u v t l) (hx1 : Fx i c u v (t + 1) s) (hu : (t : Int) = u) :
    ∃ r0 r1, l[i]? = some r0 ∧ Rc.step t e r0 = .inr r1 ∧ s = l.set i r1 ∧ e.kind = 2 ∧ r0.deeds.length = c ∧ (v = -1 ∨ u < v) := by
  obtain ⟨r1, d, a1, a2, a3, a4⟩ := hx1.post (by omega)
  have hp := hx.pre (by omega)
  rcases feedL_ix hf with ⟨hk, i0, r0, r2, h1, h2, h3, rfl⟩ | ⟨hk, h1, h2, rfl⟩
  · rw [List.getElem?_set] at a1
    by_cases hi : i0 = i
    · subst hi
      have hlt : i0 < l.length := (List.getElem?_eq_some_iff.1 h2).1
      simp only [if_true, hlt] at a1
      cases a1
      have hlen := hp r0 h2
      rw [(step_is h3).1] at a2
      obtain ⟨q1, q2, q3, q4⟩ := dAft_new a2 hlen
      refine ⟨r0, r1, h2, h3, rfl, q1, q2.symm, ?_⟩
      rw [q4] at a4
      split at a4
      · exact .inl a4.symm
      · exact .inr (by omega)
    · simp only [hi, if_false] at a1
      have := hp r1 a1
      have := (List.getElem?_eq_some_iff.1 a2).1
      omega
  · rw [List.getElem?_append] at a1
    split at a1
    · have := hp r1 a1
      have := (List.getElem?_eq_some_iff.1 a2).1
      omega
    · rw [List.getElem?_singleton] at a1
      split at a1
      · cases a1; simp [newT] at a2
      · cases a1
theorem sm_u {i c : Nat} {u v : Int} {t : Nat} {l l' s : List Rc} {e : Ev} (hsm : Sm i c u v t l l') (hf : feedL t l e = some s) (hx : Fx i c u v t l) (hx1 : Fx i c u v (t + 1) s) (hu : (t : Int) = u) : Sm i c u v (t + 1) s l' := by
  obtain ⟨r0, r1, h2, h3, rfl, k2, hlen, huv⟩ := at_u hf hx hx1 hu
  have hlt : i < l.length := (List.getElem?_eq_some_iff.1 h2).1
  refine ⟨by simp [hsm.len], fun j r r' hj a1 a2 => ?_, fun r r' a1 a2 => ?_⟩
  · rw [List.getElem?_set, if_neg (fun h => hj h.symm)] at a1
    exact hsm.oth j r r' hj a1 a2
  · rw [List.getElem?_set] at a1
    simp only [if_true, hlt] at a1
    cases a1
    have hs := (hsm.at_ r0 r' h2 a2).1 (by omega)
    obtain ⟨hd, hc⟩ := step_is h3
    have i1 := step_id h3
    have e2 : (e.kind == 2) = true := by simpa using k2
    refine ⟨fun h => by omega, fun _ => ⟨by rw [i1.1]; exact hs.id, by rw [i1.2]; exact hs.th, by rw [step_st h3 (.inl k2)]; exact hs.st, ?_, fun _ => .inl ?_, fun h => by omega⟩⟩
    · rw [hd, dAft_core]
      unfold dAftC
      rw [e2]
      simp only [cond_true]
      rw [List.eraseIdx_append_of_length_le (by simp; omega)]
      have e0 : c - (r0.deeds.map coreD).length = 0 := by simp; omega
      rw [e0]
      simp [hs.deeds]
    · rcases hc with ⟨_, q1, q2⟩ | ⟨k3, _⟩ | ⟨n2, _⟩
      · refine ⟨q2, by rw [← hs.stand]; exact q1, ?_⟩
        rw [hd]
        unfold dAft
        rw [e2]
        simp [hlen]
      · omega
      · exact (n2 k2).elim
theorem sm_v {i c : Nat} {u v : Int} {t : Nat} {l l' s : List Rc} {e : Ev} (hsm : Sm i c u v t l l') (hf : feedL t l e = some s) (hx : Fx i c u v t l) (hx1 : Fx i c u v (t + 1) s) (hv : (t : Int) = v) (huv : u < v) : Sm i c u v (t + 1) s l' := by
  obtain ⟨r0, d0, b1, b2, b3, b4⟩ := hx.post (by omega)
  obtain ⟨r1, d1, a1, a2, a3, a4⟩ := hx1.post (by omega)
  rw [if_neg (by omega)] at b4
  rw [if_pos (by omega)] at a4
  have key : ∃ r1, Rc.step t e r0 = .inr r1 ∧ s = l.set i r1 ∧ e.kind = 3 ∧ c + 1 = r0.deeds.length := by
    rcases feedL_ix hf with ⟨hk, i0, r2, r3, h1, h2, h3, rfl⟩ | ⟨hk, h1, h2, rfl⟩
    · rw [List.getElem?_set] at a1
      by_cases hi : i0 = i
      · subst hi
        have hlt : i0 < l.length := (List.getElem?_eq_some_iff.1 h2).1
        simp only [if_true, hlt] at a1
        cases a1
        rw [h2] at b1; cases b1
        rw [(step_is h3).1] at a2
        obtain ⟨d', c1, c2, c3⟩ := dAft_here (k := t) (e := e) b2
        rw [c1] at a2
        cases a2
        rcases c3 with c3 | ⟨c3, c4, _⟩
        · omega
        · exact ⟨r1, h3, rfl, c3, c4⟩
      · simp only [hi, if_false] at a1
        rw [b1] at a1; cases a1
        rw [b2] at a2; cases a2
        omega
    · rw [List.getElem?_append, if_pos (List.getElem?_eq_some_iff.1 b1).1, b1] at a1
      cases a1
      rw [b2] at a2; cases a2
      omega
  obtain ⟨r1, h3, rfl, k3, hlen⟩ := key
  have hlt : i < l.length := (List.getElem?_eq_some_iff.1 b1).1
  refine ⟨by simp [hsm.len], fun j r r' hj a1 a2 => ?_, fun r r' a1 a2 => ?_⟩
  · rw [List.getElem?_set, if_neg (fun h => hj h.symm)] at a1
    exact hsm.oth j r r' hj a1 a2
  · rw [List.getElem?_set] at a1
    simp only [if_true, hlt] at a1
    cases a1
    obtain ⟨s1, s2, s3, s4, s5, _⟩ := (hsm.at_ r0 r' b1 a2).2 (by omega)
    obtain ⟨hd, hc⟩ := step_is h3
    have i1 := step_id h3
    have e2 : (e.kind == 2) = false := by rw [k3]; rfl
    have e3 : (e.kind == 3) = true := by simpa using k3
    have hst : r0.stand = 2 ∧ r1.stand = 1 := by
      rcases hc with ⟨k2, _⟩ | ⟨_, q1, q2⟩ | ⟨_, n3, _⟩
      · omega
      · exact ⟨q1, q2⟩
      · exact (n3 k3).elim
    refine ⟨fun h => by omega, fun _ => ⟨by rw [i1.1]; exact s1, by rw [i1.2]; exact s2, by rw [step_st h3 (.inr k3)]; exact s3, ?_, fun h => by omega, fun _ => ⟨?_, fun h => by omega⟩⟩⟩
    · rw [hd, dAft_core]
      unfold dAftC
      rw [e2, e3]
      simp only [cond_true, cond_false]
      rw [upLast_eraseLast _ _ _ (by simpa using hlen.symm)]
      exact s4
    · rcases s5 (.inr (by omega)) with ⟨_, q, _⟩ | ⟨q, _⟩
      · rw [hst.2, q]
      · omega
theorem txsOf_snoc {l : List Ev} {e : Ev} : TxsOf (l ++ [e]) = match TxsOf l with
    | some r => feedL l.length r e
    | none => none := by
  unfold TxsOf
  rw [feedsL_app]
  cases feedsL 0 [] l with
  | none => rfl
  | some r =>
    simp only [feedsL, Nat.zero_add]
    cases feedL l.length r e <;> rfl
/-- The states on the way. -/
theorem txs_on {m : Nat} {p : Nat → Ev} {rs : List Rc} (h : TxsOf (evs m p) = some rs) : ∃ S : Nat → List Rc, S m = rs ∧ S 0 = [] ∧ (∀ t, t ≤ m → TxsOf (evs t p) = some (S t)) ∧ ∀ t, t < m → feedL t (S t) (p t) = some (S (t + 1)) := by
  have all : ∀ t, t ≤ m → ∃ r, TxsOf (evs t p) = some r := fun t ht => by
    rw [evs_pre ht] at h
    unfold TxsOf at h ⊢
    rw [feedsL_app] at h
    cases hx : feedsL 0 [] (evs t p) with
    | none => rw [hx] at h; cases h
    | some r => exact ⟨r, rfl⟩
  refine ⟨fun t => (TxsOf (evs t p)).getD [], by simp [h], rfl, fun t ht => ?_, fun t ht => ?_⟩
  · obtain ⟨r, hr⟩ := all t ht
    simp [hr]
  · obtain ⟨r, hr⟩ := all t (by omega)
    obtain ⟨r2, hr2⟩ := all (t + 1) (by omega)
    rw [evs_succ, txsOf_snoc, hr, evs_len] at hr2
    simp only at hr2
    have : TxsOf (evs (t + 1) p) = some r2 := by rw [evs_succ, txsOf_snoc, hr, evs_len]; exact hr2
    simp only [hr, this, Option.getD_some]
    exact hr2
theorem drop_ok {m : Nat} {p : Nat → Ev} {rs : List Rc} (h : TxsOf (evs m p) = some rs) {i c : Nat} {r : Rc} {d : De} (hr : rs[i]? = some r) (hd : r.deeds[c]? = some d) : ∃ rs', TxsOf (keptF (keep2 d.here d.back) p m) = some rs' := by
  obtain ⟨S, s1, s0, s2, s3⟩ := txs_on h
  have inv : ∀ t, t ≤ m → ∀ (i : Nat) (r : Rc), (S t)[i]? = some r → InvT t r := by
    intro t
    induction t with
    | zero => intro _ i r hr; rw [s0] at hr; simp at hr
    | succ t ih => intro ht; exact inv_feed (ih (by omega)) (s3 t (by omega))
  rw [← s1] at hr
  have hinv := inv m (Nat.le_refl _) i r hr
  have hh := hinv.here c d hd
  have hb := hinv.back c d hd
  have fx : ∀ q, q ≤ m → Fx i c d.here d.back (m - q) (S (m - q)) := by
    intro q
    induction q with
    | zero =>
      intro _
      exact ⟨fun h => by omega, fun _ => ⟨r, d, hr, hd, rfl, by rw [if_pos (by rcases hb with hb | hb <;> omega)]⟩⟩
    | succ q ih =>
      intro hq
      have := ih (by omega)
      have e : m - q = m - (q + 1) + 1 := by omega
      rw [e] at this
      exact this.prev (by rcases hb with hb | hb <;> omega) (inv _ (by omega)) (s3 _ (by omega))
  have fx' : ∀ t, t ≤ m → Fx i c d.here d.back t (S t) := fun t ht => by
    have := fx (m - t) (by omega)
    rwa [show m - (m - t) = t by omega] at this
  have huv : d.back = -1 ∨ d.here < d.back := by
    have hlt : d.here.toNat < m := by omega
    have e : ((d.here.toNat : Nat) : Int) = d.here := by omega
    obtain ⟨_, _, _, _, _, _, _, q⟩ := at_u (s3 _ hlt) (fx' _ (by omega)) (fx' _ hlt) e
    exact q
  have main : ∀ t, t ≤ m → ∃ rs', TxsOf (keptF (keep2 d.here d.back) p t) = some rs' ∧ Sm i c d.here d.back t (S t) rs' := by
    intro t
    induction t with
    | zero => intro _; exact ⟨[], rfl, by rw [s0]; exact ⟨rfl, fun j r r' _ h => by simp at h, fun r r' h => by simp at h⟩⟩
    | succ t ih =>
      intro ht
      obtain ⟨rs', q1, q2⟩ := ih (by omega)
      have hf := s3 t (by omega)
      have f1 := fx' t (by omega)
      have f2 := fx' (t + 1) ht
      simp only [keptF]
      by_cases hu : (t : Int) = d.here
      · have e : keep2 d.here d.back t (p t) = false := by simp [keep2, hu]
        rw [e]
        exact ⟨rs', q1, sm_u q2 hf f1 f2 hu⟩
      · by_cases hv : (t : Int) = d.back
        · have e : keep2 d.here d.back t (p t) = false := by simp [keep2, hv]
          rw [e]
          exact ⟨rs', q1, sm_v q2 hf f1 f2 hv (by rcases huv with q | q <;> omega)⟩
        · have e : keep2 d.here d.back t (p t) = true := by simp [keep2, hu, hv]
          rw [e]
          obtain ⟨s', z1, z2⟩ := sm_keep (t' := (keptF (keep2 d.here d.back) p t).length) q2 hf f1 f2 hu hv
          refine ⟨s', ?_, z2⟩
          simp only [cond_true]
          rw [txsOf_snoc, q1]
          exact z1
  obtain ⟨rs', q, _⟩ := main m (Nat.le_refl _)
  exact ⟨rs', q⟩
end Go.Pl
namespace Go.Pl
open Go Go.Sx Go.Proofs
theorem scan_all {f : Nat → Option Nat} : ∀ {r k : Nat}, (∀ j, k ≤ j → j < k + r → f j = none) → scanE f k r = none
  | 0, _, _ => rfl
  | r + 1, k, h => by
    simp only [scanE]
    rw [h k (Nat.le_refl _) (by omega)]
    exact scan_all fun j h1 h2 => h j (by omega) (by omega)
theorem good_iff {n m : Nat} {o : Nat → Oj} {p : Nat → Ev} : goodB n m (fnR o) (fnR p) = true ↔ (∀ k, k < n → obErr (o k) = none) ∧ ∀ e ∈ evs m p, evErr n o e = none := by
  unfold goodB badE
  rw [rwAt_fnR, rwAt_fnR]
  refine ⟨fun h => ?_, fun ⟨h1, h2⟩ => ?_⟩
  · cases hs : scanE (fun k => obErr (o k)) 0 n with
    | some x => rw [hs] at h; cases h
    | none =>
      rw [hs] at h
      refine ⟨fun k hk => scan_none hs k (by omega) (by omega), fun e he => ?_⟩
      obtain ⟨k, hk, rfl⟩ := List.mem_map.1 he
      exact scan_none (Option.isNone_iff_eq_none.1 h) k (by omega) (by have := List.mem_range.1 hk; omega)
  · rw [scan_all fun j _ hj => h1 j (by omega)]
    show (scanE (fun k => evErr n o (p k)) 0 m).isNone = true
    rw [scan_all fun j _ hj => h2 _ (List.mem_map.2 ⟨j, List.mem_range.2 (by omega), rfl⟩)]
    rfl
/-- A well-formed history, in plain terms. -/
structure WfP (n m : Nat) (o : Nat → Oj) (p : Nat → Ev) : Prop where
  hn : n ≤ 8
  hm : m ≤ 400
  ob : ∀ k, k < n → obErr (o k) = none
  ev : ∀ e ∈ evs m p, evErr n o e = none
  tx : ∃ rs, TxsOf (evs m p) = some rs
  rt : ∀ e ∈ evs m p, in64 e.ret = true
theorem WfP.wf {n m : Nat} {o : Nat → Oj} {p : Nat → Ev} (h : WfP n m o p) : wfB n m (fnR o) (fnR p) = true := by
  unfold wfB
  rw [rwAt_fnR, good_iff.2 ⟨h.ob, h.ev⟩, takeB_iff.2 h.tx]
  have : bigB n m = false := by
    unfold bigB
    have := h.hn; have := h.hm
    exact decide_eq_false (by omega)
  rw [this]; rfl
theorem WfP.rets {n m : Nat} {o : Nat → Oj} {p : Nat → Ev} (h : WfP n m o p) : retsB m (fnR p) = true := List.all_eq_true.2 fun i hi => by
  rw [rwAt_fnR]; exact h.rt _ (List.mem_map.2 ⟨i, hi, rfl⟩)
theorem WfP.big {n m : Nat} {o : Nat → Oj} {p : Nat → Ev} (h : WfP n m o p) : bigB n m = false := by
  unfold bigB
  have := h.hn; have := h.hm
  exact decide_eq_false (by omega)
theorem WfP.good {n m : Nat} {o : Nat → Oj} {p : Nat → Ev} (h : WfP n m o p) : goodB n m (fnR o) (fnR p) = true := good_iff.2 ⟨h.ob, h.ev⟩
theorem WfP.take {n m : Nat} {o : Nat → Oj} {p : Nat → Ev} (h : WfP n m o p) : takeB m p = true := takeB_iff.2 h.tx
/-- Some of its events, with which the automaton gets on. -/
theorem WfP.sub {n m m' : Nat} {o : Nat → Oj} {p p' : Nat → Ev} (h : WfP n m o p) (hs : (evs m' p').Sublist (evs m p)) (ht : ∃ rs, TxsOf (evs m' p') = some rs) : WfP n m' o p' :=
  ⟨h.hn, by have := hs.length_le; rw [evs_len, evs_len] at this; have := h.hm; omega, h.ob, fun e he => h.ev e (hs.subset he), ht, fun e he => h.rt e (hs.subset he)⟩
theorem wfP_of {n m : Nat} {o : Nat → Oj} {p : Nat → Ev} (h1 : bigB n m = false) (h2 : goodB n m (fnR o) (fnR p) = true) (h3 : takeB m p = true) (h4 : retsB m (fnR p) = true) : WfP n m o p := by
  unfold bigB at h1
  have h1 : ¬ (8 < n ∨ 400 < m) := by simpa using h1
  obtain ⟨a, b⟩ := good_iff.1 h2
  refine ⟨by omega, by omega, a, b, takeB_iff.1 h3, fun e he => ?_⟩
  obtain ⟨k, hk, rfl⟩ := List.mem_map.1 he
  have := List.all_eq_true.1 h4 k hk
  rwa [rwAt_fnR] at this
theorem lf_evs (P : Nat → Ev → Bool) (p : Nat → Ev) (m : Nat) : evs (LF.km P m p) (LF.kp P m p) = keptF P p m := evs_nth _
theorem wf_filter {n m : Nat} {o : Nat → Oj} {p : Nat → Ev} (h : WfP n m o p) {P : Nat → Ev → Bool} (K : Int → Bool) (hP : ∀ i e, P i e = K e.tx) : WfP n (LF.km P m p) o (LF.kp P m p) := by
  refine h.sub (by rw [lf_evs]; exact keptF_sub _ _ _) ?_
  rw [lf_evs, keptF_filter (K := fun e => K e.tx) hP]
  obtain ⟨rs, hrs⟩ := h.tx
  obtain ⟨s', e1, _⟩ := feeds_filter K (evs m p) 0 0 (l := []) (l' := []) .nil hrs
  exact ⟨s', e1⟩
theorem wf_pre {n m M : Nat} {o : Nat → Oj} {p : Nat → Ev} (h : WfP n m o p) (hM : M ≤ m) : WfP n M o p := by
  refine h.sub (evs_sub hM p) ?_
  obtain ⟨rs, hrs⟩ := h.tx
  obtain ⟨S, _, _, s2, _⟩ := txs_on hrs
  exact ⟨_, s2 M hM⟩
theorem spN_ge {p : Nat → Ev} : ∀ {m k : Nat}, k < m → (p k).kind = 2 → (p k).obj.toNat + 1 ≤ spN p m
  | 0, k, h, _ => by omega
  | m + 1, k, h, hk => by
    simp only [spN]
    by_cases e : k = m
    · subst e
      rw [if_pos hk]; omega
    · have := spN_ge (p := p) (m := m) (k := k) (by omega) hk
      split <;> omega
theorem wf_spare {n m : Nat} {o : Nat → Oj} {p : Nat → Ev} (h : WfP n m o p) : WfP (spN p m) m o p := by
  have hret : ∀ k, k < m → in64 (p k).ret = true := fun k hk => h.rt _ (List.mem_map.2 ⟨k, List.mem_range.2 hk, rfl⟩)
  have hg := h.good
  unfold goodB at hg
  rw [rwAt_fnR, rwAt_fnR] at hg
  have G := good_of h.big hg hret
  have hle := spN_le G m (Nat.le_refl _)
  refine ⟨by have := h.hn; omega, h.hm, fun k hk => h.ob k (by omega), fun e he => ?_, h.tx, h.rt⟩
  obtain ⟨k, hk, rfl⟩ := List.mem_map.1 he
  have hk := List.mem_range.1 hk
  have := h.ev _ he
  unfold evErr at this ⊢
  cases c1 : codeB (p k) <;> simp only [c1, cond_true, cond_false] at this ⊢
  · cases this
  cases c2 : fieldsB (p k) <;> simp only [c2, cond_true, cond_false] at this ⊢
  · cases this
  cases c3 : (p k).kind == 2 <;> simp only [c3, cond_true, cond_false] at this ⊢
  have k2 : (p k).kind = 2 := by simpa using c3
  have h1 := (G.obj k hk k2)
  have h2 := spN_ge hk k2
  have h3 : decide (((spN p m : Nat) : Int) ≤ (p k).obj) = false := decide_eq_false (by omega)
  rw [h3]
  have h4 : decide ((n : Int) ≤ (p k).obj) = false := decide_eq_false (by omega)
  rw [h4] at this
  exact this
theorem wf_drop {n m : Nat} {o : Nat → Oj} {p : Nat → Ev} (h : WfP n m o p) {x k : Int} (ht : txB m p x = true) (hd : deedB m p x k = true) : WfP n (LF.dl m p x k) o (LF.dp m p x k) := by
  have e : evs (LF.dl m p x k) (LF.dp m p x k) = dropE m p x k := evs_nth _
  refine h.sub (by rw [e]; exact keptF_sub _ _ _) ?_
  rw [e]
  obtain ⟨rs, hrs⟩ := h.tx
  have hS := takeS_rs hrs
  have hd : 0 ≤ k ∧ k < (rsAt (takeS m p) (txI m p x)).deeds.length := of_decide_eq_true hd
  obtain ⟨j, hj, hf, _⟩ := findB_in ht
  have hI : txI m p x = j := by unfold txI; rw [hf]; rfl
  rw [hI] at hd
  rw [hS] at hj
  have hr : rs[j]? = some (rsAt (takeS m p) j) := by rw [← hS]; exact rsAt_some (by rw [hS]; exact hj)
  have hlt : k.toNat < (rsAt (takeS m p) j).deeds.length := by omega
  have hdd : (rsAt (takeS m p) j).deeds[k.toNat]? = some (deedD m p x k) := by
    unfold deedD
    rw [hI]
    simp [nth, List.getD_eq_getElem?_getD, List.getElem?_eq_getElem hlt]
  exact drop_ok hrs hr hdd
theorem feedL_len {k : Nat} {l s : List Rc} {e : Ev} (h : feedL k l e = some s) : s.length ≤ l.length + 1 := by
  rcases feedL_ix h with ⟨_, i, r, r', _, _, _, rfl⟩ | ⟨_, _, _, rfl⟩ <;> simp
theorem feedsL_len : ∀ {es : List Ev} {k : Nat} {l s : List Rc}, feedsL k l es = some s → s.length ≤ l.length + es.length
  | [], _, _, _, h => by cases h; simp
  | e :: es, k, l, s, h => by
    simp only [feedsL] at h
    cases hx : feedL k l e with
    | none => rw [hx] at h; cases h
    | some l2 =>
      rw [hx] at h
      have h1 := feedsL_len h
      have h2 := feedL_len hx
      simp only [List.length_cons]
      omega
theorem txs_len {m : Nat} {p : Nat → Ev} {rs : List Rc} (h : TxsOf (evs m p) = some rs) : rs.length ≤ m := by
  have := feedsL_len h
  rw [evs_len] at this
  simpa using this
theorem relL_at {l l' : List Rc} (h : RelL l l') : ∀ (i : Nat) (a : Rc), l[i]? = some a → ∃ b, l'[i]? = some b ∧ SameT a b := by
  induction h with
  | nil => intro i a h; simp at h
  | cons h1 _ ih =>
    intro i a hi
    cases i with
    | zero => simp at hi; subst hi; exact ⟨_, rfl, h1⟩
    | succ i => simpa using ih i a (by simpa using hi)
theorem relL_len {l l' : List Rc} (h : RelL l l') : l.length = l'.length := by
  induction h with
  | nil => rfl
  | cons _ _ ih => simp [ih]
/-- How many of the first are others. -/
def othN (R : List Rc) (x : Int) (j : Nat) : Nat := ((R.take j).filter fun r => !(r.id == x)).length
theorem othN_le (R : List Rc) (x : Int) (j : Nat) : othN R x j ≤ j := by
  unfold othN
  have h1 := List.length_filter_le (fun r : Rc => !(r.id == x)) (R.take j)
  rw [List.length_take] at h1
  omega
theorem othN_succ {R : List Rc} {x : Int} {j : Nat} {r : Rc} (h : R[j]? = some r) : othN R x (j + 1) = othN R x j + (if r.id = x then 0 else 1) := by
  unfold othN
  have hlt := (List.getElem?_eq_some_iff.1 h).1
  have e : R.take (j + 1) = R.take j ++ [r] := by
    rw [List.take_add_one, h]; rfl
  rw [e, List.filter_append, List.length_append]
  by_cases hx : r.id = x <;> simp [hx]
theorem oth_at {R S : List Rc} {x : Int} (hrel : RelL (R.filter fun r => !(r.id == x)) S) {j : Nat} {r : Rc} (h : R[j]? = some r) (hx : r.id ≠ x) : ∃ s, S[othN R x j]? = some s ∧ SameT r s := by
  refine relL_at hrel _ _ ?_
  have hlt := (List.getElem?_eq_some_iff.1 h).1
  have e : R = R.take j ++ r :: R.drop (j + 1) := by
    have h2 : R[j] = r := (List.getElem?_eq_some_iff.1 h).2
    rw [← h2, List.getElem_cons_drop, List.take_append_drop]
  have e2 : R.filter (fun r => !(r.id == x)) = (R.take j).filter (fun r => !(r.id == x)) ++ (r :: R.drop (j + 1)).filter fun r => !(r.id == x) := by
    rw [← List.filter_append, ← e]
  rw [e2]
  unfold othN
  rw [List.getElem?_append_right (Nat.le_refl _), Nat.sub_self]
  simp [hx]
end Go.Pl
namespace Go.Proofs
open Go Go.Sx Go.Pl
theorem O13w : FnOK Tryd.prog (gls5 W5) 13 (W13 LF) := O13
theorem O15w : FnOK Tryd.prog (gls5 W5) 15 (W15 LF) := O15
theorem O32w : FnOK Tryd.prog (gls5 W5) 32 (W32 LF) := O32
theorem O17w : FnOK Tryd.prog (gls5 W5) 17 (W17 LF) := O17m
theorem wf_parts {n m : Nat} {g h : Nat → List Sh} (hw : wfB n m g h = true) : bigB n m = false ∧ goodB n m g h = true ∧ takeB m (rwAt h) = true := by
  unfold wfB at hw
  simp only [Bool.and_eq_true, Bool.not_eq_true'] at hw
  exact ⟨hw.1.1, hw.1.2, hw.2⟩
theorem O34w : FnOK Tryd.prog (gls5 W5) 34 (W34 LF) := fun H w shs args φ h1 h2 h3 h4 => by
  unfold W34 at h4
  split at h4
  · rename_i n g m h
    obtain ⟨a1, a2, a3, a4, a5⟩ := h4
    obtain ⟨b1, b2, b3⟩ := wf_parts a4
    exact O34 H w _ args φ h1 h2 h3 ⟨a1, a2, a3, fun q => (by rw [b1] at q; cases q), fun _ => ⟨fun _ => ⟨fun _ => a5, fun q => no b3 q⟩, fun q => no b2 q⟩⟩
  · exact h4.elim
theorem O29w : FnOK Tryd.prog (gls5 W5) 29 (W29 LF) := fun H w shs args φ h1 h2 h3 h4 => by
  unfold W29 at h4
  split at h4
  · rename_i n g m h
    obtain ⟨a1, a2, a3, a4, a5⟩ := h4
    obtain ⟨b1, b2, b3⟩ := wf_parts a4
    exact O29 H w _ args φ h1 h2 h3 ⟨a1, a2, a3, fun q => (by rw [b1] at q; cases q), fun _ => ⟨fun _ => ⟨fun _ => a5, fun q => no b3 q⟩, fun q => no b2 q⟩⟩
  · exact h4.elim
theorem O23w : FnOK Tryd.prog (gls5 W5) 23 (W23 LF) := fun H w shs args φ h1 h2 h3 h4 => by
  unfold W23 at h4
  split at h4
  · rename_i n g m h x k
    obtain ⟨a1, a2, a3, a4, a5⟩ := h4
    obtain ⟨b1, b2, b3⟩ := wf_parts a4
    exact O23 H w _ args φ h1 h2 h3 ⟨a1, a2, a3, fun q => (by rw [b1] at q; cases q), fun _ => ⟨fun _ => ⟨fun _ => a5, fun q => no b3 q⟩, fun q => no b2 q⟩⟩
  · exact h4.elim
theorem C33f : FnsOK Tryd.prog (C5 prim W5 (spec33 LF) stopAll) := C5.fok (fun g F h => by
  unfold spec33 at h
  split at h
  · cases h; exact O32w
  · cases h; exact O17w
  · cases h) fun g h => by
  unfold spec33 at h
  split at h
  all_goals first | (cases h; done) | kernel_rfl
theorem O33w : FnOK Tryd.prog (gls5 W5) 33 (W33 LF) := by
  refine fnOK_S (C := C5 prim W5 (spec33 LF) stopAll) (C5.ok _ _) (fn := Tryd.f33) (by kernel_rfl) (by kernel_rfl) fun H w shs args φ hrep h => ?_
  have hn : Tryd.f33.ntmps = 18 := by kernel_rfl
  unfold W33 at h
  split at h
  · rename_i n g m h'
    obtain ⟨h1, h2, h3, h4, h5⟩ := h
    match args, hrep with
    | [v], ⟨hv, _⟩ =>
      rw [hn]
      have h4 : wfB n m g h' = true := h4
      obtain ⟨b1, b2, b3⟩ := wf_parts h4
      refine ⟨[.agg [.sl 2 n (fnR (rwAt (α := Oj) g)), .sl 8 m (fnR (rwAt (α := Ev) h'))]], ⟨rep_agg_rows2 hv h1 h2, trivial⟩, L0, ?_⟩
      refine goesS_runR (C5.ok _ _) C33f (hold := noHold) (m := 300) (n := 400) ?_
      rw [a33 prim W5 LF n m (rwAt g) (rwAt h'), meetsR_eq]
      have hgd : goodB n m (fnR (rwAt (α := Oj) g)) (fnR (rwAt (α := Ev) h')) = true := by
        unfold goodB; rw [rw_put, rw_put]; exact b2
      have hret : retsB m (fnR (rwAt (α := Ev) h')) = true := List.all_eq_true.2 fun i hi => by
        rw [rw_put]; exact List.all_eq_true.1 h3 i hi
      have hsm : n ≤ 8 ∧ m ≤ 400 := by
        unfold bigB at b1
        have q : ¬ (8 < n ∨ 400 < m) := by simpa using b1
        omega
      have hb3 : takeB m (rwAt (fnR (rwAt (α := Ev) h'))) = true := by rw [rw_put]; exact b3
      refine ⟨okB_put _ _, okB_put _ _, hret, fun q => (by rw [b1] at q; cases q), fun _ => ⟨fun _ => ⟨fun _ => ⟨List.all_eq_true.2 fun i _ => rfl, okB_put _ _, room_ok (by omega) (by omega), room_ok (by omega) (by omega), ?_⟩, fun q => no hb3 q⟩, fun q => no hgd q⟩⟩
      rw [rw_put]
      exact h5
  · exact h.elim
theorem O7s : ∀ g F, spec7 LF g = some F → FnOK Tryd.prog (gls5 W5) g F := fun g F h => by
  unfold spec7 at h
  split at h
  · cases h; exact O8
  · cases h; exact O9p
  · cases h; exact O13w
  · cases h; exact O15w
  · cases h; exact O23w
  · cases h; exact O29w
  · cases h; exact O32w
  · cases h; exact O33w
  · cases h; exact O34w
  · cases h
theorem fok7 (stop : Nat → List Nat → Bool) : FnsOK Tryd.prog (C5 prim W5 (spec7 LF) stop) := C5.fok O7s fun g h => by
  unfold spec7 at h
  split at h
  all_goals first | (cases h; done) | kernel_rfl
section
variable {H0 : Mem} {w0 : World} {φ : Sh → Prop}
theorem loop7 {R S : List Rc} {x : Int} (hrel : RelL (R.filter fun r => !(r.id == x)) S) (hR : R.length ≤ 1000) (hφ : φ (.b true)) : ∀ rm (j : Nat), j + rm = R.length →
    GoesS Tryd.prog (C5 prim W5 (spec7 LF) stopAll) (K0 H0 w0) 7 td7 (L7 R.length S.length (fun j => R.getD j rc0) (fun j => S.getD j rc0) (fun j => dlen (R.getD j rc0)) (fun j => dlen (S.getD j rc0)) (fun j => nth (R.getD j rc0).deeds) (fun j => nth (S.getD j rc0).deeds) x (othN R x j : Nat) (j : Nat)) [] emp φ
  | rm, j, hj => by
    refine goesS_into (fn := Tryd.f7) (tb := tb7) (by kernel_rfl) (by kernel_rfl) ?_
    refine goesS_runUM (C5.ok _ _) (fok7 _) (hold := noHold) (m := 300) (n := 800) (ts := [⟨7, td7, L7 R.length S.length (fun j => R.getD j rc0) (fun j => S.getD j rc0) (fun j => dlen (R.getD j rc0)) (fun j => dlen (S.getD j rc0)) (fun j => nth (R.getD j rc0).deeds) (fun j => nth (S.getD j rc0).deeds) x (othN R x (j + 1) : Nat) (j + 1 : Nat), []⟩]) ?_
    rw [b7 prim W5 LF R.length S.length (fun j => R.getD j rc0) (fun j => S.getD j rc0) (fun j => dlen (R.getD j rc0)) (fun j => dlen (S.getD j rc0)) (fun j => nth (R.getD j rc0).deeds) (fun j => nth (S.getD j rc0).deeds) x (othN R x j : Nat) (j : Nat) (othN R x (j + 1) : Nat) 0 (j + 1 : Nat), meetsE_eq]
    have hle := othN_le R x j
    have hlenS := relL_len hrel
    have hw (y : Nat) (hy : y ≤ 2000) : prim.add .i64 (y : Int) (Int.ofNat 1) = ((y + 1 : Nat) : Int) := by
      show IntKind.i64.wrap ((y : Int) + 1) = _
      rw [wrap_id (by omega) (by omega)]; rfl
    by_cases hlt : j < R.length
    · match rm, hj with
      | 0, hj => omega
      | rm + 1, hj =>
      have rec_ := loop7 hrel hR hφ rm (j + 1) (by omega)
      have hr : R[j]? = some R[j] := List.getElem?_eq_getElem hlt
      have hd : R.getD j rc0 = R[j] := by simp [List.getD_eq_getElem?_getD, hlt]
      have hs := othN_succ (x := x) hr
      have w1 := hw j (by omega)
      have inR : prim.inB (j : Int) R.length = true := by simp [prim_inB]; omega
      refine ⟨fun _ => ⟨inR, fun h => ?_, fun h => ?_⟩, fun h => ?_⟩
      · have hx : R[j].id = x := by
          have : ((R.getD j rc0).id == x) = true := h
          rw [hd] at this; simpa using this
        rw [if_pos hx] at hs
        refine ⟨⟨rfl, by show (othN R x j : Int) = _; rw [hs]; rfl, w1, rfl, fun _ _ => rfl, rfl, fun _ _ => rfl, trivial⟩, _, rfl, rec_⟩
      · have hx : R[j].id ≠ x := by
          have : ((R.getD j rc0).id == x) = false := h
          rw [hd] at this; simpa using this
        rw [if_neg hx] at hs
        obtain ⟨s, e1, e2⟩ := oth_at hrel hr hx
        have hlt2 : othN R x j < S.length := (List.getElem?_eq_some_iff.1 e1).1
        have hd2 : S.getD (othN R x j) rc0 = s := by simp [List.getD_eq_getElem?_getD, e1]
        have inS : prim.inB (othN R x j : Int) S.length = true := by simp [prim_inB]; omega
        have w2 := hw (othN R x j) (by omega)
        have c1 : prim.eq (S.getD (prim.toN (othN R x j : Int)) rc0).id (R.getD (prim.toN (j : Int)) rc0).id = true := by
          show ((S.getD (othN R x j) rc0).id == (R.getD j rc0).id) = true
          rw [hd, hd2, e2.id]; simp
        have c2 : prim.eq (S.getD (prim.toN (othN R x j : Int)) rc0).st (R.getD (prim.toN (j : Int)) rc0).st = true := by
          show ((S.getD (othN R x j) rc0).st == (R.getD j rc0).st) = true
          rw [hd, hd2, e2.st]; simp
        have c3 : prim.eq (prim.ofN (dlen (S.getD (prim.toN (othN R x j : Int)) rc0))) (prim.ofN (dlen (R.getD (prim.toN (j : Int)) rc0))) = true := by
          show (((dlen (S.getD (othN R x j) rc0) : Nat) : Int) == ((dlen (R.getD j rc0) : Nat) : Int)) = true
          rw [hd, hd2]
          unfold dlen
          rw [e2.len]; simp
        have c4 : prim.eq (S.getD (prim.toN (othN R x j : Int)) rc0).th (R.getD (prim.toN (j : Int)) rc0).th = true := by
          show ((S.getD (othN R x j) rc0).th == (R.getD j rc0).th) = true
          rw [hd, hd2, e2.th]; simp
        refine ⟨fun h => ?_, fun _ => ⟨inS, inR, nno c1, fun _ => ⟨inS, inR, nno c2, fun _ => ⟨inS, inR, nno c3, fun _ => ⟨inS, inR, nno c4, fun _ => ⟨⟨rfl, ?_, w1, rfl, fun _ _ => rfl, rfl, fun _ _ => rfl, trivial⟩, _, rfl, rec_⟩⟩⟩⟩⟩⟩
        · simp [prim_le, prim_ofN] at h; omega
        · show prim.add .i64 (othN R x j : Int) (Int.ofNat 1) = _
          rw [w2, hs]
      · simp [prim_lt, prim_ofN] at h; omega
    · have hje : j = R.length := by omega
      refine ⟨fun h => ?_, fun _ => ?_⟩
      · simp [prim_lt, prim_ofN] at h; omega
      · have : prim.eq (othN R x j : Int) (prim.ofN S.length) = true := by
          rw [prim_eq, prim_ofN, ← hlenS, hje]
          unfold othN
          rw [List.take_length]; simp
        show φ (.b _)
        rw [this]; exact hφ
end
def F7 : List Sh → Tree Sh
  | [.agg [.sl 2 n g, .sl 8 m h], .i .i64 _, .i .i64 _, .i .i64 _] => .need (okB Oj n g) (.need (okB Ev m h) (.need (retsB m h) (.leaf (.b true))))
  | _ => .fail
theorem O7 : FnOK Tryd.prog (gls5 W5) 7 F7 := by
  refine fnOK_S (C := C5 prim W5 (spec7 LF) stopAll) (C5.ok _ _) (fn := Tryd.f7) (by kernel_rfl) (by kernel_rfl) fun H w shs args φ hrep h => ?_
  have hn : Tryd.f7.ntmps = 178 := by kernel_rfl
  unfold F7 at h
  split at h
  · rename_i n g m h' n1 x k
    obtain ⟨q1, q2, q3, hφ⟩ := h
    have hφ : φ (.b true) := hφ
    match args, hrep with
    | [v0, v1, v2, v3], ⟨r0, r1, r2, r3, _⟩ =>
      rw [hn]
      have hret : retsB m (fnR (rwAt (α := Ev) h')) = true := List.all_eq_true.2 fun i hi => by
        rw [rwAt_fnR]; exact List.all_eq_true.1 q3 i hi
      refine ⟨[.agg [.sl 2 n (fnR (rwAt (α := Oj) g)), .sl 8 m (fnR (rwAt (α := Ev) h'))], .i .i64 n1, .i .i64 x, .i .i64 k], ⟨rep_agg_rows2 r0 q1 q2, r1, r2, r3, trivial⟩, L0, ?_⟩
      generalize rwAt (α := Oj) g = o at *
      generalize rwAt (α := Ev) h' = p at *
      let R := (takeS m p).rs
      let S := (takeS (LF.km (keepN x) m p) (LF.kp (keepN x) m p)).rs
      refine goesS_runUM (C5.ok _ _) (fok7 _) (hold := noHold) (m := 300) (n := 800) (ts := [⟨7, td7, L7 R.length S.length (fun j => R.getD j rc0) (fun j => S.getD j rc0) (fun j => dlen (R.getD j rc0)) (fun j => dlen (S.getD j rc0)) (fun j => nth (R.getD j rc0).deeds) (fun j => nth (S.getD j rc0).deeds) x (othN R x 0 : Nat) (0 : Nat), []⟩]) ?_
      rw [a7 prim W5 LF n m o p n1 x k R.length S.length (fun j => R.getD j rc0) (fun j => S.getD j rc0) (fun j => dlen (R.getD j rc0)) (fun j => dlen (S.getD j rc0)) (fun j => nth (R.getD j rc0).deeds) (fun j => nth (S.getD j rc0).deeds) (othN R x 0 : Nat) (0 : Nat), meetsE_eq]
      simp only [rwAt_fnR, fO_fnR, fE_fnR]
      refine ⟨fun _ => hφ, fun _ => ⟨fun _ => hφ, fun _ => ⟨okB_put _ _, okB_put _ _, hret, fun _ => hφ, fun b1 => ⟨fun b2 => ⟨fun b3 => ?_, fun _ => hφ⟩, fun _ => hφ⟩⟩⟩⟩
      have W := wfP_of b1 b2 b3 hret
      have W1 := wf_pre W (upN_le n1 m)
      have W2 : WfP n (LF.km (keepN x) m p) o (LF.kp (keepN x) m p) := wf_filter W (fun y => !(y == x)) (fun _ _ => rfl)
      have W3 : WfP n (LF.cm m p) o (LF.cp m p) := wf_filter W (fun y => cmB (takeS m p).rs.length (gT (rsAt (takeS m p)) (fun j => dlen (rsAt (takeS m p) j)) (fun j => fnR (nth (rsAt (takeS m p) j).deeds))) y) (fun _ _ => rfl)
      have W4 := wf_spare W
      have hsm := W.hn
      have hsm2 := W.hm
      have hup := upN_le n1 m
      have z1 : roomB n 16 = true := room_le (by omega) (by omega)
      have z2 : roomB m 64 = true := room_le (by omega) (by omega)
      have z3 : roomB (LF.un n1 m) 64 = true := room_le (by show upN n1 m ≤ _; omega) (by omega)
      have y0 : LF.wf n m (fnR o) (fnR p) = true := W.wf
      have y1 : LF.wf n (LF.un n1 m) (fnR o) (fnR p) = true := W1.wf
      have y2 : LF.wf n (LF.km (keepN x) m p) (fnR o) (fnR (LF.kp (keepN x) m p)) = true := W2.wf
      have y3 : LF.wf n (LF.cm m p) (fnR o) (fnR (LF.cp m p)) = true := W3.wf
      have y4 : LF.wf (LF.sp p m) m (fnR o) (fnR p) = true := W4.wf
      have t1 : retsB (LF.un n1 m) (fnR p) = true := W1.rets
      have t2 := W2.rets
      have t3 : retsB (LF.cm m p) (fnR (LF.cp m p)) = true := W3.rets
      obtain ⟨rs, hrs⟩ := W.tx
      have hRe : R = rs := takeS_rs hrs
      have hrel : RelL (R.filter fun r => !(r.id == x)) S := by
        obtain ⟨s', e1, e2⟩ := feeds_filter (fun y => !(y == x)) (evs m p) 0 0 (l := []) (l' := []) .nil hrs
        have e3 : TxsOf (evs (LF.km (keepN x) m p) (LF.kp (keepN x) m p)) = some s' := by
          rw [lf_evs, keptF_filter (P := keepN x) (K := fun e => !(e.tx == x)) (fun _ _ => rfl)]
          exact e1
        have hSe : S = s' := takeS_rs e3
        rw [hRe, hSe]; exact e2
      have hR : R.length ≤ 1000 := by
        have : R.length ≤ m := by
          have hg := W.good
          have h1 := (take_txs m p)
          rw [hrs] at h1
          rw [hRe]
          exact txs_len hrs
        omega
      have last := loop7 (H0 := H) (w0 := w) hrel hR hφ R.length 0 (by omega)
      have fin : ∃ t : Tgt, ([⟨7, td7, L7 R.length S.length (fun j => R.getD j rc0) (fun j => S.getD j rc0) (fun j => dlen (R.getD j rc0)) (fun j => dlen (S.getD j rc0)) (fun j => nth (R.getD j rc0).deeds) (fun j => nth (S.getD j rc0).deeds) x (othN R x 0 : Nat) (0 : Nat), []⟩] : List Tgt)[0]? = some t ∧ GoesS Tryd.prog (C5 prim W5 (spec7 LF) stopAll) (K0 H w) t.g t.td t.c t.stk emp φ := ⟨_, rfl, last⟩
      have ok (b : Nat) {α : Type} [Row α] (o : Nat → α) : okB α b (fnR o) = true := okB_put o b
      refine ⟨ok _ _, z1, z2, ok _ _, ok _ _, hret, y0, fun c1 => ⟨fun c2 => ?_, fun c2 => ?_⟩, fun c1 => ?_⟩
      · have W5' := wf_drop W c1 c2
        have y5 : LF.wf n (LF.dl m p x k) (fnR o) (fnR (LF.dp m p x k)) = true := W5'.wf
        have t5 : retsB (LF.dl m p x k) (fnR (LF.dp m p x k)) = true := W5'.rets
        repeat' (first
          | exact trivial
          | exact ok _ _
          | assumption
          | exact fun h => absurd (W2.big.symm.trans h) (by decide)
          | exact no W2.good
          | exact no W2.take
          | exact rfl
          | exact fun _ _ => rfl
          | (intro _)
          | refine And.intro ?_ ?_)
      · repeat' (first
          | exact trivial
          | exact ok _ _
          | assumption
          | exact fun h => absurd (W2.big.symm.trans h) (by decide)
          | exact no W2.good
          | exact no W2.take
          | exact rfl
          | exact fun _ _ => rfl
          | (intro _)
          | refine And.intro ?_ ?_)
      · repeat' (first
          | exact trivial
          | exact ok _ _
          | assumption
          | exact fun h => absurd (W2.big.symm.trans h) (by decide)
          | exact no W2.good
          | exact no W2.take
          | exact rfl
          | exact fun _ _ => rfl
          | (intro _)
          | refine And.intro ?_ ?_)
  · exact h.elim
end Go.Proofs
namespace Go.Sx
open Go.RowKit Go.ChangeShapes Go.WideShapes Go.Deep
/-- All of memory, as it stands. -/
def memOf (w : World) : Mem := fun b => w.heap[b]?
theorem memOf_on (w : World) : (memOf w).on w := fun _ _ h => h
theorem hcell_memOf {w : World} {a : Addr} {v : Value} (h : w.cell? a = some v) : hcell (memOf w) a.block a.off = some v ∧ a.spot = none := by
  unfold World.cell? at h
  unfold hcell memOf
  split at h
  · rename_i c t f hb
    rw [hb]
    cases hs : a.spot with
    | none => simp only [hs, Option.isSome_none, Bool.false_eq_true, if_false] at h; exact ⟨h, rfl⟩
    | some x => simp [hs] at h
  · cases h
section
variable {H : Type} {enc : TypeId × Value → H} {P : Program} {w : World} {base : Nat} {spare : Nat → Bool} {held : Bool}
/-- Are all the fields ints, one behind the other? -/
def flatB (P : Program) (fs : Array Field) (k : Nat) : Bool :=
  fs.size == k && (List.range k).all fun i => match fs[i]? with
    | some f => f.offset == i && (match P.underlying f.type with | some (.int .i64) => true | _ => false) && P.cellsOf f.type == 1
    | none => false
/-- The type of a row of so many ints. -/
def rowB (P : Program) (e k : Nat) : Bool :=
  match P.underlying e with
  | some (.int .i64) => k == 1 && P.cellsOf e == 1
  | some (.struct fs) => flatB P fs k && P.cellsOf e == k
  | _ => false
def int64 (n : Int) : Prop := (Lit.int .i64 n).wf = true
theorem flat_cells {e k fuel : Nat} {cs : List Value} {x : DataW H × List MemPlace} (hr : rowB P e k = true) (h : DataW.trod enc P w base spare held fuel e cs = some x) :
    ∃ ns : List Int, ns.length = k ∧ cs = ns.map (Value.int .i64) ∧ ∀ n ∈ ns, int64 n := by
  unfold rowB at hr
  split at hr
  · rename_i hu
    simp only [Bool.and_eq_true, beq_iff_eq] at hr
    obtain ⟨n, rfl, _, hw⟩ := DataW.trod_int hu h
    exact ⟨[n], hr.1.symm, rfl, fun m hm => by simp at hm; subst hm; exact hw⟩
  · rename_i fs hu
    simp only [Bool.and_eq_true, beq_iff_eq] at hr
    obtain ⟨hf, hc⟩ := hr
    unfold flatB at hf
    simp only [Bool.and_eq_true, beq_iff_eq] at hf
    obtain ⟨hk, hf⟩ := hf
    obtain ⟨xs, m, _, _, hlen, hxs, hel⟩ := DataW.trod_struct hu h
    rw [hc] at hlen
    have cell : ∀ i, i < k → ∃ n, cs[i]? = some (.int .i64 n) ∧ int64 n := fun i hi => by
      have q := List.all_eq_true.1 hf i (List.mem_range.2 hi)
      split at q
      · rename_i f hfi
        simp only [Bool.and_eq_true, beq_iff_eq] at q
        obtain ⟨⟨ho, ht⟩, h1⟩ := q
        have ht : P.underlying f.type = some (.int .i64) := by
          split at ht
          · assumption
          · cases ht
        have q2 := hel i f hfi
        rw [ho, h1] at q2
        have hxi : i < xs.length := by rw [hxs, hk]; exact hi
        rw [List.getElem?_eq_getElem hxi] at q2
        obtain ⟨n, e1, _, e3⟩ := DataW.trod_int ht q2
        refine ⟨n, ?_, e3⟩
        have : (List.take 1 (List.drop i cs))[0]? = some (.int .i64 n) := by rw [e1]; rfl
        simpa using this
      · cases q
    clear hel h hf
    have : ∀ (j : Nat) (l : List Value), l.length = j → (∀ i, i < j → ∃ n, l[i]? = some (.int .i64 n) ∧ int64 n) → ∃ ns : List Int, ns.length = j ∧ l = ns.map (Value.int .i64) ∧ ∀ n ∈ ns, int64 n := by
      intro j
      induction j with
      | zero => intro l hl _; exact ⟨[], rfl, by simpa using hl, fun _ h => by simp at h⟩
      | succ j ih =>
        intro l hl hc
        match l, hl with
        | v :: l, hl =>
          obtain ⟨ns, h1, h2, h3⟩ := ih l (by simpa using hl) fun i hi => by simpa using hc (i + 1) (by omega)
          obtain ⟨n, q1, q2⟩ := hc 0 (by omega)
          simp at q1
          subst q1
          exact ⟨n :: ns, by simp [h1], by simp [h2], fun m hm => by
            rcases List.mem_cons.1 hm with rfl | hm
            · exact q2
            · exact h3 m hm⟩
    exact this k cs hlen cell
  · cases hr
def shInts (ns : List Int) : List Sh := ns.map (Sh.i .i64)
theorem rep_ints {M : Mem} {ns : List Int} : Rep M (.agg (shInts ns)) (.agg (ns.map (Value.int .i64)).toArray) := by
  refine .agg _ _ (by simp [shInts]) fun j s v h1 h2 => ?_
  simp only [shInts, List.getElem?_map, Option.map_eq_some_iff] at h1
  obtain ⟨n, h3, rfl⟩ := h1
  simp [h3] at h2
  subst h2
  exact .i _ _
theorem cells?_at {w : World} {base : Nat} {a : Addr} {n : Nat} {cs : List Value} (h : w.cells? base a n = some cs) : cs.length = n ∧ ∀ j, j < n → w.cell? (a.add j) = cs[j]? := by
  unfold World.cells? at h
  split at h
  · have : ∀ (l : List Nat) (cs : List Value), l.mapM (fun i => w.cell? (a.add i)) = some cs → cs.length = l.length ∧ ∀ (j : Nat) (i : Nat), l[j]? = some i → w.cell? (a.add i) = cs[j]? := by
      intro l
      induction l with
      | nil => intro cs h; simp at h; subst h; exact ⟨rfl, fun j i e => by simp at e⟩
      | cons x l ih =>
        intro cs h
        rw [List.mapM_cons] at h
        simp only [Option.bind_eq_bind, Option.bind_eq_some_iff, Option.pure_def] at h
        obtain ⟨v, h1, vs, h2, h3⟩ := h
        cases h3
        obtain ⟨e1, e2⟩ := ih vs h2
        refine ⟨by simp [e1], fun j i e => ?_⟩
        match j, e with
        | 0, e => simp at e; subst e; simpa using h1
        | j + 1, e => simpa using e2 j i (by simpa using e)
    obtain ⟨e1, e2⟩ := this _ _ h
    rw [List.length_range] at e1
    exact ⟨e1, fun j hj => e2 j j (by simp [hj])⟩
  · cases h
theorem add_off (a : Addr) (n : Nat) : (a.add n).off = a.off + n ∧ (a.add n).block = a.block := by
  unfold Addr.add
  split
  · subst_vars; exact ⟨rfl, rfl⟩
  · exact ⟨rfl, rfl⟩
theorem add_add' (a : Addr) (i j : Nat) : (a.add i).add j = a.add (i + j) := by
  unfold Addr.add
  by_cases hi : i = 0 <;> by_cases hj : j = 0 <;> simp [hi, hj, Nat.add_assoc]
/-- A slice of rows of ints. -/
theorem rep_rowsl {t e k fuel : Nat} {cs : List Value} {x : DataW H × List MemPlace} (ht : P.underlying t = some (.slice e)) (hr : rowB P e k = true) (hk : P.cellsOf e = k) (h0 : 0 < k)
    (h : DataW.trod enc P w base spare held fuel t cs = some x) :
    ∃ v n g, cs = [v] ∧ Rep (memOf w) (.sl k n g) v ∧ ∀ i, i < n → ∃ ns : List Int, ns.length = k ∧ g i = shInts ns ∧ ∀ n ∈ ns, int64 n := by
  rcases open_slice ht h with ⟨rfl, _⟩ | ⟨a, len, cap, m, n, D, Pl, rfl, hb, hl, hcap, hm, _, hel⟩
  · exact ⟨_, 0, fun _ => [], rfl, .sl0 _ _ _ _ (Nat.zero_le _), fun i hi => by omega⟩
  have hlm : len ≤ m := by rw [hm]; split <;> omega
  rw [hk] at hel
  have row : ∀ i, i < len → ∃ ns : List Int, ns.length = k ∧ w.cells? base (a.add (i * k)) k = some (ns.map (Value.int .i64)) ∧ ∀ n ∈ ns, int64 n := fun i hi => by
    obtain ⟨cs', h1, h2⟩ := hel i (by omega)
    obtain ⟨ns, e1, rfl, e3⟩ := flat_cells hr h2
    exact ⟨ns, e1, h1, e3⟩
  by_cases hz : len = 0
  · subst hz
    exact ⟨_, 0, fun _ => [], rfl, .sl0 _ _ _ _ hcap, fun i hi => by omega⟩
  let N : Nat → List Int := fun i => if h : i < len then (row i h).choose else []
  have hN : ∀ i, i < len → (N i).length = k ∧ w.cells? base (a.add (i * k)) k = some ((N i).map (Value.int .i64)) ∧ ∀ n ∈ N i, int64 n := fun i hi => by
    simp only [N, dif_pos hi]
    exact (row i hi).choose_spec
  have cell : ∀ i j, i < len → j < k → w.cell? (a.add (i * k + j)) = ((N i).map (Value.int .i64))[j]? := fun i j hi hj => by
    have := (cells?_at (hN i hi).2.1).2 j hj
    rwa [add_add'] at this
  have hspot : a.spot = none := by
    have h1 := cell 0 0 (by omega) h0
    have : ∃ v, w.cell? a = some v := by
      have hl0 := (hN 0 (by omega)).1
      match hq : N 0 with
      | [] => rw [hq] at hl0; simp at hl0; omega
      | x :: r =>
        rw [hq] at h1
        simp [Addr.add] at h1
        exact ⟨_, h1⟩
    obtain ⟨v, hv⟩ := this
    exact (hcell_memOf hv).2
  obtain ⟨blk, off, spot⟩ := a
  simp only at hspot
  subst hspot
  refine ⟨_, len, fun i => shInts (N i), rfl, .sl _ _ _ blk off cap (fun i j => ((N i).map (Value.int .i64)).getD j .nilFunc) hl hcap (fun i hi => by simp [shInts, (hN i hi).1]) (fun i j hi hj => ?_) (fun i j hi hj => ?_) (fun i j s hi e => ?_), fun i hi => ⟨N i, (hN i hi).1, rfl, (hN i hi).2.2⟩⟩
  · have h1 := cell i j hi hj
    have hlt : j < ((N i).map (Value.int .i64)).length := by simpa [(hN i hi).1] using hj
    rw [List.getElem?_eq_getElem hlt] at h1
    have h2 := (hcell_memOf h1).1
    rw [(add_off _ _).1, (add_off _ _).2] at h2
    simp only [Nat.add_assoc] at h2 ⊢
    rw [h2, List.getD_eq_getElem?_getD, List.getElem?_eq_getElem hlt]; rfl
  · have hlt : j < (N i).length := by rw [(hN i hi).1]; exact hj
    simp [List.getD_eq_getElem?_getD, hlt]; rfl
  · simp only [shInts, List.getElem?_map, Option.map_eq_some_iff] at e
    obtain ⟨n, h3, rfl⟩ := e
    simp [List.getD_eq_getElem?_getD, h3]
    exact .i _ _
/-- A struct of two slices of rows of ints. -/
def pairB (P : Program) (t : Nat) (k0 k1 : Nat) : Bool :=
  match P.underlying t with
  | some (.struct fs) => fs.size == 2 && P.cellsOf t == 2 && (match fs[0]?, fs[1]? with
    | some f0, some f1 => f0.offset == 0 && f1.offset == 1 && P.cellsOf f0.type == 1 && P.cellsOf f1.type == 1 && (match P.underlying f0.type, P.underlying f1.type with
      | some (.slice e0), some (.slice e1) => rowB P e0 k0 && P.cellsOf e0 == k0 && rowB P e1 k1 && P.cellsOf e1 == k1
      | _, _ => false)
    | _, _ => false)
  | _ => false
theorem rep_pair {t k0 k1 : Nat} {v : Value} {d : DataW H} {ps : List MemPlace} (hp : pairB P t k0 k1 = true) (h00 : 0 < k0) (h01 : 0 < k1) {b0 : Nat} (hval : Value.okWide P w .any b0 t v) (hd : DataW.Trod enc P w base spare held t v d ps) :
    ∃ n0 g0 n1 g1, Rep (memOf w) (.agg [.sl k0 n0 g0, .sl k1 n1 g1]) v ∧ (∀ i, i < n0 → ∃ ns : List Int, ns.length = k0 ∧ g0 i = shInts ns ∧ ∀ n ∈ ns, int64 n) ∧ ∀ i, i < n1 → ∃ ns : List Int, ns.length = k1 ∧ g1 i = shInts ns ∧ ∀ n ∈ ns, int64 n := by
  unfold pairB at hp
  split at hp
  · rename_i fs hu
    unfold Value.okWide at hval
    rw [hu] at hval
    obtain ⟨cs, rfl, hsz, _⟩ := hval
    simp only [Bool.and_eq_true, beq_iff_eq] at hp
    obtain ⟨⟨h2, hc⟩, hp⟩ := hp
    split at hp
    · rename_i f0 f1 hf0 hf1
      simp only [Bool.and_eq_true, beq_iff_eq] at hp
      obtain ⟨⟨⟨⟨o0, o1⟩, c0⟩, c1⟩, hp⟩ := hp
      split at hp
      · rename_i e0 e1 hs0 hs1
        simp only [Bool.and_eq_true, beq_iff_eq] at hp
        obtain ⟨⟨⟨r0, q0⟩, r1⟩, q1⟩ := hp
        obtain ⟨fuel, hd⟩ := hd
        obtain ⟨xs, m, _, _, hlen, hxs, hel⟩ := DataW.trod_struct hu hd
        have a0 := hel 0 f0 hf0
        have a1 := hel 1 f1 hf1
        rw [o0, c0, List.getElem?_eq_getElem (by rw [hxs, h2]; decide)] at a0
        rw [o1, c1, List.getElem?_eq_getElem (by rw [hxs, h2]; decide)] at a1
        obtain ⟨v0, n0, g0, x0, y0, z0⟩ := rep_rowsl hs0 r0 q0 h00 a0
        obtain ⟨v1, n1, g1, x1, y1, z1⟩ := rep_rowsl hs1 r1 q1 h01 a1
        rw [hc] at hsz
        obtain ⟨l⟩ := cs
        match l, hsz with
        | [u0, u1], _ =>
          simp [Value.cells] at x0 x1
          subst x0 x1
          refine ⟨n0, g0, n1, g1, .agg _ _ rfl fun j s v e1 e2 => ?_, z0, z1⟩
          match j, e1, e2 with
          | 0, e1, e2 => simp at e1 e2; subst e1 e2; exact y0
          | 1, e1, e2 => simp at e1 e2; subst e1 e2; exact y1
          | j + 2, e1, _ => simp at e1
      · cases hp
    · cases hp
  · cases hp
/-- A slice of rows of ints, as an argument. -/
theorem rep_slice_arg {t e k : Nat} {v : Value} {d : DataW H} {ps : List MemPlace} (ht : P.underlying t = some (.slice e)) (hr : rowB P e k = true) (hk : P.cellsOf e = k) (h0 : 0 < k) {b0 : Nat} (hval : Value.okWide P w .any b0 t v) (hd : DataW.Trod enc P w base spare held t v d ps) :
    ∃ n g, Rep (memOf w) (.sl k n g) v ∧ ∀ i, i < n → ∃ ns : List Int, ns.length = k ∧ g i = shInts ns ∧ ∀ n ∈ ns, int64 n := by
  obtain ⟨fuel, hd⟩ := hd
  obtain ⟨u, n, g, h1, h2, h3⟩ := rep_rowsl ht hr hk h0 hd
  have : v = u := by
    unfold Value.okWide at hval
    rw [ht] at hval
    cases v <;> simp [Value.cells] at h1 <;> first | exact h1 | skip
    all_goals (unfold Cell.okWide at hval; simp [ht] at hval; try (simp [Cell.ok, ht] at hval))
  subst this
  exact ⟨n, g, h2, h3⟩
end
end Go.Sx
namespace Go.Sx
open Go.RowKit Go.ChangeShapes Go.WideShapes Go.Deep
theorem var_heap {P : Program} {W : World} {n : String} {g : Nat} {cs : Array Value} (hg : P.globalNamed n = some g) (h : W.var? P n = some cs) : ∃ e f, W.heap[g]? = some (.cells cs e f) := by
  unfold World.var? at h
  rw [hg] at h
  simp only [Option.bind_some] at h
  split at h
  · rename_i c e f hb
    cases h
    exact ⟨_, _, hb⟩
  · cases h
theorem laid_er {P : Program} {n nm : String} {text : List UInt8} {r : List (String × DataW Unit)} {W : World} {g : Nat} {ti tp te ts : TypeId} {ms : Array (String × TypeId)} {f : Field}
    (h : laidMet P ((n, .iface nm (.ptr (.agg [.lit (.string text)]))) :: r) W)
    (hg : P.globalNamed n = some g) (ht : (P.globals[g]?).map (·.type) = some ti) (hi : P.underlying ti = some (.interface ms)) (hrow : ∀ u, P.typeName? 3 u = some nm → u = tp)
    (hp : P.underlying tp = some (.pointer te)) (he : P.underlying te = some (.struct #[f])) (hft : f.type = ts) (hfo : f.offset = 0) (hs : P.underlying ts = some .string) (hc : P.cellsOf te = 1) (hcs : P.cellsOf ts = 1) :
    GlobAt (memOf W) g (.er g tp) := by
  obtain ⟨ps, ⟨g0, t0, cs0, f0, p0, q0, hg0, ht0, hv0, hd0, _, e0⟩, _, hrows⟩ := h
  obtain rfl := Option.some.inj (hg.symm.trans hg0)
  obtain rfl := Option.some.inj (ht.symm.trans ht0)
  subst e0
  obtain ⟨l0⟩ := cs0
  have ok0 : ∀ u v, l0 = [.iface u v] → Value.okWide P W .any 0 u v := fun u v e => by
    subst e
    exact (hrows g 0 (by simp [MemPlace.row])).2 u v (by simpa using World.var?_cell hg0 hv0 0)
  obtain ⟨a0, s0, rfl, hc0, hs0, hz0, rfl⟩ := errorString_of_trod hi hrow hp he hft hfo hs hc hcs hd0 ok0
  obtain ⟨c0, t0, hb0⟩ := (hrows a0.block a0.off (by simp [MemPlace.row])).1
  obtain ⟨e, f, hh⟩ := var_heap hg hv0
  have h1 : hcell (memOf W) g 0 = some (.iface tp (.pointer (some a0))) := by
    unfold hcell memOf
    rw [hh]; rfl
  exact ⟨_, h1, .er g tp a0 c0 t0 h1 hb0, rfl⟩
/-- An array of strings. -/
theorem laid_strs {P : Program} {n : String} {texts : List (List UInt8)} {r : List (String × DataW Unit)} {W : World} {g : Nat} {t e : TypeId} {k : Nat}
    (h : laidMet P ((n, .agg (texts.map fun s => .lit (.string s))) :: r) W)
    (hg : P.globalNamed n = some g) (ht : (P.globals[g]?).map (·.type) = some t) (hu : P.underlying t = some (.array k e)) (he : P.underlying e = some .string) (hce : P.cellsOf e = 1) :
    GlobAt (memOf W) g (.tup (texts.map Sh.str)) := by
  obtain ⟨ps, ⟨g0, t0, cs0, f0, p0, q0, hg0, ht0, hv0, hd0, _, e0⟩, _, hrows⟩ := h
  obtain rfl := Option.some.inj (hg.symm.trans hg0)
  obtain rfl := Option.some.inj (ht.symm.trans ht0)
  obtain ⟨e1, f1, hh⟩ := var_heap hg hv0
  obtain ⟨xs, m, _, hx, hlen, hxs, hel⟩ := DataW.trod_array hu hd0
  have hxs' : xs.map (·.1) = texts.map fun s => .lit (.string s) := by
    have := congrArg Prod.fst hx
    simp at this
    exact this.symm
  have hkt : k = texts.length := by
    have := congrArg List.length hxs'
    simp at this
    omega
  subst hkt
  have cell : ∀ j (hj : j < texts.length), cs0[j]? = some (.string ⟨texts[j].toArray⟩) := fun j hj => by
    have q := hel j hj
    rw [hce, Nat.mul_one] at q
    have hxj : j < xs.length := by omega
    rw [List.getElem?_eq_getElem hxj] at q
    obtain ⟨s, q1, q2, _⟩ := DataW.trod_string he q
    have q3 : (xs.map (·.1))[j]? = some (.lit (.string texts[j])) := by rw [hxs']; simp [hj]
    have q4 : (xs[j]).1 = .lit (.string texts[j]) := by
      rw [List.getElem?_map, List.getElem?_eq_getElem hxj] at q3
      simpa using q3
    rw [q2] at q4
    simp at q4
    have q5 : (List.take 1 (List.drop j cs0.toList))[0]? = some (.string s) := by rw [q1]; rfl
    have q6 : cs0[j]? = some (.string s) := by simpa using q5
    rw [q6]
    obtain ⟨⟨l⟩⟩ := s
    have : l = texts[j] := q4
    subst this; rfl
  refine ⟨fun j => .string ⟨(texts.getD j []).toArray⟩, fun j hj => ?_, fun j s hs => ?_⟩
  · have hj' : j < texts.length := by simpa using hj
    refine ⟨?_, rfl⟩
    unfold hcell memOf
    rw [hh]
    simp only [cell j hj', List.getD_eq_getElem?_getD, List.getElem?_eq_getElem hj', Option.getD_some]
  · rw [List.getElem?_map, Option.map_eq_some_iff] at hs
    obtain ⟨l, h1, rfl⟩ := hs
    show Rep (memOf W) (.str l) (.string ⟨(texts.getD j []).toArray⟩)
    rw [List.getD_eq_getElem?_getD, h1]
    exact .str l
end Go.Sx
