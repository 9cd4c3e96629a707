/-
  Runs over several frames with ranges over functions. Runs over several frames with ranges over functions are sound. Runs over several frames with ranges over functions are sound, the second part; rules. Runs over several frames with ranges over functions: the theorem, and its rules. Runs over several frames with ranges over functions: told states, loops, summaries.
-/
import Derived.Test.YtikaakiadiaeoaaGreatDoorQ05
namespace Go.Sx
def yv (l : Nat) : Value := .func (.yield l) #[] #[]
section moves
variable {P : Program} {b c : Frame} {a : Act} {k : List Item} {cs : List Frame} {w w' : World}
theorem sQ_beginRound {l : Nat} (hb : b.roundOf = some l) (hr : (Instr.beginRound l).run P w = .ok () w') : step P (lone (atQ b a (.beginRound :: k)) cs w) = .next (lone (atQ b a k) cs w') := by
 rw [atQ_R, atQ_R]; exact stepR_beginRound hb hr
theorem sQ_round_end {l : Nat} {v : Value} (hb : b.roundOf = some l) (hk : b.kind = .normal) (hr : (Instr.endRound l none).run P w = .ok v w') : step P (lone (atQ b a []) (c :: cs) w) = .next (lone (c.finish v) cs w') := by
 rw [atQ_R]; exact stepR_round_end hb hk hr
theorem sQ_round_ret {l : Nat} {v : Value} (hb : b.roundOf = some l) (hk : b.kind = .normal) (hr : (Instr.endRound l (some .ret)).run P w = .ok v w') : step P (lone (atQ b a (.code .ret :: k)) (c :: cs) w) = .next (lone (c.finish v) cs w') := by
 rw [atQ_R]; exact stepR_round_ret hb hk hr
theorem sQ_round_exit {l id : Nat} {v : Value} (hb : b.roundOf = some l) (hk : b.kind = .normal) (hx : exitTo id k = none) (hr : (Instr.endRound l (some (.exit id))).run P w = .ok v w') :
  step P (lone (atQ b a (.code (.exit id) :: k)) (c :: cs) w) = .next (lone (c.finish v) cs w') := by
 rw [atQ_R]; exact stepR_round_exit hb hk hx hr
theorem finish_inRange (l : Nat) (v : Value) : (atQ b a (.inRangeFunc l :: k)).finish v = atQ b a (.endRangeFunc l :: k) := by rw [atQ_R, finish_atR_inRangeFunc]; rfl
theorem sQ_endRange {l : Nat} {jump : Option Code} (h : (Instr.endLoop l).run P w = .ok jump w') : step P (lone (atQ b a (.endRangeFunc l :: k)) cs w) = .next (lone (atQ b a ((jump.map Item.code).toList ++ k)) cs w') := by
 rw [atQ_R, atQ_R]; exact stepR_endRangeFunc h
end moves
/-! The run. -/
inductive OutW where
 | fin (v : SV) (c : Core)
 | stop (g : Nat) (r : Option (Nat × Nat)) (td : List It) (c : Core) (stk : List Fw)
inductive EvW where
 | plain | bad | halt
 | next (g : Nat) (r : Option (Nat × Nat)) (td : List It) (c : Core) (stk : List Fw) (q : List Eqn)
def sameSt : LSt → LSt → Bool
 | .ready, .ready => true
 | .busy, .busy => true
 | _, _ => false
def setW (g d : Nat) (s0 s1 : LSt) : List Fw → Option (Nat × List Fw)
 | [] => none
 | f :: s => bif Nat.beq s.length d then match f.lp with
   | some (l, p, st) => bif Nat.beq f.g g && sameSt st s0 then some (l, { f with lp := some (l, p, s1) } :: s) else none
   | none => none
  else match setW g d s0 s1 s with
   | some (l, s') => some (l, f :: s')
   | none => none
def yW : List Fw → Option (Nat × Nat × Fw × List Nat)
 | [] => none
 | f :: s => match f.lp with
  | some (l, p, .ready) => some (l, s.length, f, p)
  | _ => yW s
def yieldOf (fn : Func) (td : List It) (c : Core) : Option (Nat × List SV) :=
 match td with
 | .reg p (i :: _) :: _ => match codeAt (bodyOf fn) p with
  | .region _ ops _ => match opAt ops.toList i with
   | some o => match wantOf ops.toList c.tm o with
    | .yes => match o.op with
     | .call k => match k.callee with
      | .value f => match evL c.tm f with
       | .val (.func (.yield l) x y) => bif Nat.beq x.size 0 && Nat.beq y.size 0 then some (l, k.args.toList.map (evL c.tm)) else none
       | _ => none
      | _ => none
     | _ => none
    | _ => none
   | none => none
  | _ => none
 | _ => none
def endRnd (C : Ctx) (g l d : Nat) (s1 : LSt) (b : Bool) (c : Core) (stk : List Fw) : EvW :=
 match setW g d .busy s1 stk with
 | some (l', f :: s) => match f.lp with
  | none => match popOf C ⟨f.g, f.td, f.tm⟩ (.bool b) c with
   | some x => .next f.g f.r x.1 x.2 s [.nat l l']
   | none => .bad
  | some _ => .bad
 | _ => .bad
def evW (C : Ctx) (fn : Func) (g : Nat) (r : Option (Nat × Nat)) (td : List It) (c : Core) (stk : List Fw) : EvW :=
 match td with
 | [] => match r with
  | none => .plain
  | some (l, d) => endRnd C g l d .ready true c stk
 | .beg :: k => match r with
  | none => .bad
  | some (l, d) => match setW g d .ready .busy stk with
   | some (l', s) => .next g r k c s [.nat l l']
   | none => .bad
 | .code p :: k => match codeAt (bodyOf fn) p with
  | .rangeFunc _ _ _ _ => .halt
  | .ret => match r with
   | none => .plain
   | some (l, d) => endRnd C g l d (.done p) false c stk
  | .exit id => match r with
   | none => .plain
   | some (l, d) => match exitIt id k with
    | some _ => .plain
    | none => endRnd C g l d (.done p) false c stk
  | _ => .plain
 | .reg _ (_ :: _) :: _ => match yieldOf fn td c with
  | some (l, args) => match yW stk with
   | some (l', d, f, p) => match C.fns.get f.g with
    | some fnf => match codeAt (bodyOf fnf) p with
     | .rangeFunc _ ps _ _ => bif Nat.beq ps.size args.length then
       .next f.g (some (l', d)) [.code (0 :: p), .beg, .code (1 :: p)] { c with tm := (ps.toList.zip args).foldl (fun t x => t.set x.1 x.2) f.tm } ({ g, r, td, tm := c.tm, lp := none } :: stk) [.nat l l'] else .bad
     | _ => .bad
    | none => .bad
   | none => .bad
  | none => match pushOf C fn td c with
   | some x => .next x.1 none [.code []] { c with tm := x.2.2 ++ List.replicate (x.2.1.ntmps - x.2.2.length) .any } ({ g, r, td, tm := c.tm, lp := none } :: stk) []
   | none => .plain
 | _ => .plain
def backTd (f : Fw) : LSt → List It
 | .done q => .code q :: f.td
 | _ => f.td
def isBusy : LSt → Bool
 | .busy => true
 | _ => false
def runW (C : Ctx) (pause : Nat → List It → Bool) (m : Nat) : Nat → Nat → Option (Nat × Nat) → List It → Core → List Fw → Tree OutW
 | 0, g, r, td, c, stk => .leaf (.stop g r td c stk)
 | n + 1, g, r, td, c, stk => match C.fns.get g with
  | none => .fail
  | some fn => bif pause g td then .leaf (.stop g r td c stk) else match evW C fn g r td c stk with
   | .bad => .fail
   | .halt => .leaf (.stop g r td c stk)
   | .next g' r' td' c' stk' q => mustE q (runW C pause m n g' r' td' c' stk')
   | .plain => (stepR C (callWith C (run C m false)) true g fn td c).bind fun s => match s with
    | .go td c => runW C pause m n g r td c stk
    | .halt td c => .leaf (.stop g r td c stk)
    | .done v c => match r with
     | some _ => .fail
     | none => match stk with
      | [] => .leaf (.fin v c)
      | f :: s => match f.lp with
       | none => match popOf C ⟨f.g, f.td, f.tm⟩ v c with
        | some x => runW C pause m n f.g f.r x.1 x.2 s
        | none => .fail
       | some (_, _, st) => bif isBusy st then .fail else runW C pause m n f.g f.r (backTd f st) { c with tm := f.tm } s
def OutWOK (P : Program) (C : Ctx) (K : Kx) (φ : Sh → Prop) : OutW → Prop
 | .fin v c => ∃ s, finish c v = some s ∧ φ s
 | .stop g r td c stk => GoesW P C K g r td c stk φ
section
variable {P : Program} {C : Ctx} {K : Kx} {H H' H'' H0 : Mem} {E E' E'' E1 : Env} {w w' w'' w0 : World} {h : Hp}
theorem mustE_and {α : Type} {φ : α → Prop} {l : List Eqn} {t : Tree α} (hx : (mustE l t).All φ) : Eqn.all l ∧ t.All φ := by
 unfold mustE at hx
 split at hx
 ·exact ⟨trivial, hx⟩
 ·exact hx
theorem LpAt.loop {fn : Func} {g : Nat} {tmps : Array Value} {p : List Nat} {s : LSt} {o : Obj} (hx : LpAt fn g tmps p s o) : ∃ lp, o = .loop lp ∧ lp.state = lstOf s ∧ lp.pending = jumpOf (bodyOf fn) s ∧ ∀ s', LpAt fn g tmps p s' (.loop { lp with state := lstOf s', pending := jumpOf (bodyOf fn) s' }) := by
 obtain ⟨x, ps, ca, cb, df, h1, rfl⟩ := hx
 exact ⟨_, rfl, rfl, rfl, fun s' => ⟨x, ps, ca, cb, df, h1, rfl⟩⟩
theorem sameSt_eq {s t : LSt} (hx : sameSt s t = true) : s = t := by
 cases s <;> cases t <;> simp [sameSt] at hx <;> rfl
theorem setW_ok {g d : Nat} {s0 s1 : LSt} {fn : Func} (hfn : C.fns.get g = some fn) : ∀ {s s' : List Fw} {ms : List Frame} {B : List Nat} {l : Nat}, setW g d s0 s1 s = some (l, s') → StkW C H E h s ms B → B.Nodup →
  ∃ lp, h l = some (.loop lp) ∧ lp.state = lstOf s0 ∧ lp.pending = jumpOf (bodyOf fn) s0 ∧ l ∈ B ∧ StkW C H E (hset_ h l (.loop { lp with state := lstOf s1, pending := jumpOf (bodyOf fn) s1 })) s' ms B
 | [], _, _, _, _, hx, _, _ => by simp [setW] at hx
 | f :: s, s', [], _, _, _, hs, _ => hs.elim
 | f :: s, s', mf :: ms, B, l, hx, ⟨rs, B', hB, h1, h2⟩, hnd => by
  subst hB
  simp only [setW] at hx
  cases hd : Nat.beq s.length d <;> simp only [hd, cond_true, cond_false] at hx
  ·split at hx
   ·rename_i l2 s2 hs2
    cases hx
    have hnd2 : B'.Nodup := (List.nodup_append.1 hnd).2.1
    obtain ⟨lp, q1, q2, q3, q4, q5⟩ := setW_ok hfn hs2 h2 hnd2
    have hno : l ∉ rs ++ lpB f := fun hm => (List.nodup_append.1 hnd).2.2 l hm l q4 rfl
    simp only [List.mem_append, not_or] at hno
    exact ⟨lp, q1, q2, q3, List.mem_append_right _ q4, rs, B', rfl, h1.put hno.1 hno.2, q5⟩
   ·cases hx
  ·split at hx
   ·rename_i l2 p st hl
    cases hb : (Nat.beq f.g g && sameSt st s0) <;> simp only [hb, cond_true, cond_false] at hx
    ·cases hx
    ·cases hx
     simp only [Bool.and_eq_true] at hb
     have hg : f.g = g := Nat.eq_of_beq_eq_true hb.1
     have hst : st = s0 := sameSt_eq hb.2
     subst hst
     obtain ⟨fn', a, items, q1, q2, q3, q4, q5, q6⟩ := h1
     rw [hg, hfn] at q1
     cases q1
     rw [hl] at q6
     obtain ⟨q7, o, q8, q9⟩ := q6
     obtain ⟨lp, rfl, r1, r2, r3⟩ := q9.loop
     have hlB : lpB f = [l] := by simp [lpB, hl]
     rw [hlB] at hnd ⊢
     have hn1 : l ∉ rs := fun hm => (List.nodup_append.1 (List.nodup_append.1 hnd).1).2.2 l hm l (by simp) rfl
     have hn2 : l ∉ B' := fun hm => (List.nodup_append.1 hnd).2.2 l (by simp) l hm rfl
     refine ⟨lp, q8, r1, r2, by simp, rs, B', by simp [lpB], ⟨fn, a, items, by simpa [hg] using hfn, q2, q3, q4, fun x hx => by rw [hset_other (fun e => hn1 (by rw [← e]; exact hx))]; exact q5 x hx, ?_⟩, h2.put hn2⟩
     exact ⟨q7, _, hset_same, r3 s1⟩
   ·cases hx
theorem yW_ok : ∀ {s : List Fw} {ms : List Frame} {B : List Nat} {l d : Nat} {f : Fw} {p : List Nat}, yW s = some (l, d, f, p) → StkW C H E h s ms B →
  ∃ (fn : Func) (a : Act) (o : Obj), C.fns.get f.g = some fn ∧ DenL H E f.tm a.tmps.toList ∧ h l = some o ∧ LpAt fn f.g a.tmps p .ready o ∧ l ∈ B
 | [], _, _, _, _, _, _, hx, _ => by simp [yW] at hx
 | f0 :: s, [], _, _, _, _, _, _, hs => hs.elim
 | f0 :: s, mf :: ms, B, l, d, f, p, hx, ⟨rs, B', hB, h1, h2⟩ => by
  subst hB
  simp only [yW] at hx
  split at hx
  ·rename_i l2 p2 hl
   cases hx
   obtain ⟨fn, a, items, q1, q2, q3, q4, q5, q6⟩ := h1
   rw [hl] at q6
   obtain ⟨q7, o, q8, q9⟩ := q6
   exact ⟨fn, a, o, q1, q2, q8, q9, by simp [lpB, hl]⟩
  ·obtain ⟨fn, a, o, q1, q2, q3, q4, q5⟩ := yW_ok hx h2
   exact ⟨fn, a, o, q1, q2, q3, q4, List.mem_append_right _ q5⟩
theorem foldl_den : ∀ {l : List (Nat × SV)} {vl : List (Nat × Value)} {tm : List SV} {ts : Array Value}, DenL H E tm ts.toList → (∀ (i : Nat) x y, l[i]? = some x → vl[i]? = some y → x.1 = y.1 ∧ Den H E x.2 y.2) → l.length = vl.length →
  DenL H E (l.foldl (fun t x => t.set x.1 x.2) tm) (vl.foldl (fun t x => t.setIfInBounds x.1 x.2) ts).toList
 | [], [], _, _, hd, _, _ => hd
 | x :: l, y :: vl, tm, ts, hd, hx, hlen => by
  obtain ⟨e1, e2⟩ := hx 0 x y rfl rfl
  have hd2 : DenL H E (tm.set x.1 x.2) (ts.setIfInBounds y.1 y.2).toList := by
   have := den_put (c := { tm := tm, hp := [], nx := 0, lim := 0, tc := [] }) (a := { tmps := ts, defers := [] }) hd (some x.1) e2
   rw [← e1]
   exact this
  simp only [List.foldl_cons]
  exact foldl_den (l := l) (vl := vl) hd2 (fun i a b ha hb => hx (i + 1) a b ha hb) (by simpa using hlen)
 | [], _ :: _, _, _, _, _, hl => by simp at hl
 | _ :: _, [], _, _, _, _, hl => by simp at hl
end
end Go.Sx
namespace Go.Sx
section
variable {P : Program} {C : Ctx} {K : Kx} {H H' H'' H0 : Mem} {E E' E'' E1 : Env} {w w' w'' w0 : World} {h : Hp}
theorem setW_bot {g d : Nat} {s0 s1 : LSt} : ∀ {s s' : List Fw} {l g0 : Nat}, setW g d s0 s1 s = some (l, s') → botW g0 s' = botW g0 s
 | [], _, _, _, hx => by simp [setW] at hx
 | f :: s, s', l, g0, hx => by
  simp only [setW] at hx
  cases hd : Nat.beq s.length d <;> simp only [hd, cond_true, cond_false] at hx
  ·split at hx
   ·rename_i hs2
    cases hx
    show botW f.g _ = botW f.g _
    exact setW_bot hs2
   ·cases hx
  ·split at hx
   ·rename_i l2 p st hl
    cases hb : (Nat.beq f.g g && sameSt st s0) <;> simp only [hb, cond_true, cond_false] at hx
    ·cases hx
    ·cases hx; rfl
   ·cases hx
theorem exit_none {body : Code} {id : Nat} : ∀ {td : List It} {k : List Item}, ItOK body td k → exitIt id td = none → exitTo id k = none := by
 intro td k h
 induction h with
 | nil => intro _; rfl
 | code p _ ih => intro h; simp only [exitIt] at h; simpa [exitTo] using ih h
 | beg _ ih => intro h; simp only [exitIt] at h; simpa [exitTo] using ih h
 | loop p x _ _ ih => intro h; simp only [exitIt] at h; simpa [exitTo] using ih h
 | reg p l id ops _ _ ih => intro h; simp only [exitIt] at h; simpa [exitTo] using ih h
 | inBlock j h0 ih =>
  intro h
  simp only [exitIt] at h
  cases hj : (j == id) <;> simp only [hj, cond_true, cond_false] at h
  ·have : j ≠ id := by simpa using hj
   simp only [exitTo]
   rw [if_neg (by simpa using this)]
   exact ih h
  ·cases h
theorem pop_ok {f : Fw} {mf : Frame} {rs : List Nat} {x : List It × Core} {c : Core} {sv : SV} {v : Value} (hf : FwOK C H E h f mf rs) (hl : f.lp = none) (hp : popOf C ⟨f.g, f.td, f.tm⟩ sv c = some x) (hv : Den H E sv v) {a : Act} (st : St C K H E w c a) :
  ∃ (fn : Func) (a' : Act) (items : List Item), C.fns.get f.g = some fn ∧ St C K H E w x.2 a' ∧ ItOK (bodyOf fn) x.1 items ∧ mf.finish v = atQ (bq f.g (rOf f.r) (marks rs)) a' items ∧ x.2.hp = c.hp := by
 obtain ⟨fn, a3, items3, g1, g2, g3, g4, _, g5⟩ := hf
 rw [hl] at g5
 unfold popOf at hp
 rw [g1] at hp
 simp only at hp
 split at hp
 ·rename_i p i rest k htd
  split at hp
  ·rename_i rid ops dr hcode
   cases hp
   rw [htd] at g4
   cases g4 with
   | reg p l id ops2 hc hk =>
    rw [hc] at hcode
    cases hcode
    rename_i k'
    have g5 : mf = _ := g5
    subst g5
    refine ⟨fn, a3.put ((opAt ops.toList i).bind (·.dst)) v, _, g1, ⟨den_put (c := { c with tm := f.tm }) g2 _ hv, st.hp, st.wok, st.free, st.gl, by rw [put_defers]; exact g3⟩, .reg p rest _ ops hc hk, ?_, rfl⟩
    rw [finish_atQ]
    simp [opAt]
  ·cases hp
 ·cases hp
theorem endRnd_ok {fn : Func} {g l d : Nat} {s1 : LSt} {bb : Bool} {c c' : Core} {stk stk' : List Fw} {g' : Nat} {r' : Option (Nat × Nat)} {td' : List It} {q : List Eqn} {φ : Sh → Prop} (hfn : C.fns.get g = some fn)
  (hev : endRnd C g l d s1 bb c stk = .next g' r' td' c' stk' q) (hq : Eqn.all q) (ih : GoesW P C K g' r' td' c' stk' φ) (hj : (jumpOf (bodyOf fn) s1).isNone = bb) (hst : lstOf s1 = if bb then .ready else .done)
  {a : Act} {items : List Item} {rs B : List Nat} {ms cs : List Frame} (st : St C K H E w c a) (hs : StkW C H E h stk ms B) (hnd : (rs ++ B).Nodup) (hx : ExtAt h K H E w c.hp)
  (hstep : ∀ (c' : Frame) cs' v w', (Instr.endRound l (jumpOf (bodyOf fn) s1)).run P w = .ok v w' → step P (lone (atQ (bq g (some l) (marks rs)) a items) (c' :: cs') w) = .next (lone (c'.finish v) cs' w')) :
  EndW P C K (botW g stk) φ (lone (atQ (bq g (some l) (marks rs)) a items) (ms ++ cs) w) cs := by
 unfold endRnd at hev
 split at hev
 ·rename_i l' f s hset
  split at hev
  ·rename_i hlp
   split at hev
   ·rename_i x hpop
    cases hev
    obtain ⟨hll, _⟩ := hq
    have hll : l = l' := hll
    subst hll
    obtain ⟨lp, q1, q2, q3, q4, q5⟩ := setW_ok hfn hset hs (List.nodup_append.1 hnd).2.1
    have hbot := setW_bot (g0 := g) hset
    have hw := (hx l _ q1).1
    have hrun := run_endRound (P := P) (jumpOf (bodyOf fn) s1) hw
    rw [hj] at hrun
    cases ms with
    | nil => exact q5.elim
    | cons mf ms =>
     obtain ⟨rs', B', hB, q6, q7⟩ := q5
     have e : ({ lp with state := if bb then LoopState.ready else LoopState.done, pending := jumpOf (bodyOf fn) s1 } : Loop) = { lp with state := lstOf s1, pending := jumpOf (bodyOf fn) s1 } := by rw [hst]
     rw [e] at hrun
     have st2 := st.putObj (o' := .loop { lp with state := lstOf s1, pending := jumpOf (bodyOf fn) s1 }) hx q1
     have hx2 := hx.put (o' := .loop { lp with state := lstOf s1, pending := jumpOf (bodyOf fn) s1 }) q1
     obtain ⟨fnf, a', items', p1, p2, p3, p4, p5⟩ := pop_ok q6 hlp hpop (v := .bool bb) rfl st2
     have hm' : ∀ y ∈ rs', hset_ h l (.loop { lp with state := lstOf s1, pending := jumpOf (bodyOf fn) s1 }) y = some (.deferred (some [])) := by
      obtain ⟨_, _, _, _, _, _, _, z, _⟩ := q6
      exact z
     subst hB
     have hB2 : lpB f = [] := by simp [lpB, hlp]
     rw [hB2, List.append_nil] at hnd
     have hnd2 : (rs' ++ B').Nodup := (List.nodup_append.1 hnd).2.1
     have hs1 := hstep mf (ms ++ cs) _ _ hrun
     rw [p4] at hs1
     have := ih H E _ a' items' rs' B' ms cs fnf _ p1 p2 p3 hm' q7 hnd2 (by rw [p5]; exact hx2)
     rw [show botW g stk = botW f.g stk' from hbot.symm]
     exact this.of (.one hs1)
   ·cases hev
  ·cases hev
 ·cases hev
end
end Go.Sx
namespace Go.Sx
section
variable {P : Program} {C : Ctx} {K : Kx} {H H' H'' H0 : Mem} {E E' E'' E1 : Env} {w w' w'' w0 : World} {h : Hp}
theorem enter_bq {g : Nat} {fn : Func} {body : Code} (hP : P.funcs[g]? = some fn) (hb : fn.body = some body) (args : Array Value) :
  Frame.enter P g args .normal = atQ (bq g none []) { tmps := args ++ Array.replicate (fn.ntmps - args.size) undef, defers := [] } [.code body] := by
 rw [atQ_base]; exact enter_base hP hb args
theorem round_bq (l g : Nat) (tmps : Array Value) (ca cb : Code) : Frame.round l g tmps ca cb .normal = atQ (bq g (some l) []) { tmps, defers := [] } [.code ca, .beginRound, .code cb] := by
 simp [Frame.round, atQ, bq]
theorem call_step {b : Frame} {p : List Nat} {i : Nat} {rest : List Nat} {k : List It} {fn : Func} {items : List Item} {c : Core} {a : Act} {rid : Nat} {ops : Array Oper} {dr : Bool} {o : Oper} {kk : Call} (st : St C K H E w c a) (hi : ItOK (bodyOf fn) (.reg p (i :: rest) :: k) items)
  (hcode : codeAt (bodyOf fn) p = .region rid ops dr) (ho : opAt ops.toList i = some o) (hwant : wantOf ops.toList c.tm o = .yes) (hop : o.op = .call kk) (cs : List Frame) :
  ∃ k', items = .inRegion ops (i :: rest) :: k' ∧ ItOK (bodyOf fn) k k' ∧ dr = false ∧ stepG P true { frame := atQ b a (.inRegion ops (i :: rest) :: k'), callers := cs, status := .running, dying := none } w = stepG.apply P true (atQ b a (.inRegion ops (i :: rest) :: k')) cs none (execOp a.eval o) w := by
 cases hi with
 | reg p l id ops2 hc hk =>
  rw [hc] at hcode
  cases hcode
  rename_i k'
  have ho' : ops[i]? = some o := by simpa [opAt] using ho
  have hw' := wantOf_spec (ops := ops) st.den o
  rw [hwant] at hw'
  refine ⟨k', rfl, hk, rfl, ?_⟩
  have hg := stepGR_op (P := P) (b := b) (a := qAct b a) (k := k') (cs := cs) (w := w) (rest := rest) ho' hw'
  rw [Oper.semAt_eq _ _ _ (fun c hc => by rw [hop] at hc; cases hc), qAct_eval, ← atQ_R] at hg
  exact hg
theorem push_ok (hC : CtxOK P C) (hF : FnsOK P C) {fn : Func} {g : Nat} {r : Option (Nat × Nat)} {td : List It} {c : Core} {stk : List Fw} {x : Nat × Func × List SV} {φ : Sh → Prop} (hfn : C.fns.get g = some fn) (hr : pushOf C fn td c = some x)
  (ih : GoesW P C K x.1 none [.code []] { c with tm := x.2.2 ++ List.replicate (x.2.1.ntmps - x.2.2.length) .any } ({ g, r, td, tm := c.tm, lp := none } :: stk) φ) : GoesW P C K g r td c stk φ := by
 intro H E w a items rs B ms cs fn' h hfn' st hi hm hs hnd hx
 rw [hfn] at hfn'; cases hfn'
 unfold pushOf at hr
 split at hr
 ·rename_i p i rest k
  split at hr
  ·rename_i rid ops dr hcode
   split at hr
   ·rename_i o ho
    split at hr
    ·rename_i hwant
     split at hr
     ·rename_i kk hop
      split at hr
      ·rename_i f hcal
       split at hr
       ·rename_i g2 caps hev
        split at hr
        ·cases hr
        ·rename_i hspec
         split at hr
         ·rename_i fn2 hfn2
          cases hb : (Nat.ble (kk.args.toList.map (evL c.tm) ++ caps).length fn2.ntmps && fn2.body.isSome) <;> simp only [hb, cond_true, cond_false] at hr
          ·cases hr
          cases hr
          simp only [Bool.and_eq_true] at hb
          obtain ⟨body2, hbody2⟩ := Option.isSome_iff_exists.1 hb.2
          have hP2 := hC.fn g2 fn2 hfn2
          obtain ⟨k', rfl, hk, rfl, hg⟩ := call_step (P := P) (b := bq g (rOf r) (marks rs)) (w := w) st hi hcode ho hwant hop (ms ++ cs)
          have df := den_ev (H := H) (E := E) st.den f
          rw [hev] at df
          obtain ⟨vs, ef, hvs⟩ := df
          have hargs := (den_map st.den kk.args.toList).append hvs
          have hent := hF.en g2 (.inr (by rw [hfn2]; rfl))
          have hrun : (execOp a.eval o).run P w = .ok (.enter g2 (kk.args.map a.eval ++ vs)) w := by
           simp only [execOp, hop, resolve, hcal]
           simp [Deferred.ofValue, ef, invoke, callFunc_run hent]
          have henter : step P (lone (atQ (bq g (rOf r) (marks rs)) a (.inRegion ops (i :: rest) :: k')) (ms ++ cs) w) = .next (lone (Frame.enter P g2 (kk.args.map a.eval ++ vs) .normal) (atQ (bq g (rOf r) (marks rs)) a (.inRegion ops (i :: rest) :: k') :: (ms ++ cs)) w) :=
           step_lone_go (by rw [hg]; simp [stepG.apply, hrun, atQ])
          rw [enter_bq hP2 hbody2] at henter
          have hl := hargs.length
          have hlen : (kk.args.map a.eval ++ vs).size = (kk.args.toList.map (evL c.tm) ++ caps).length := by
           rw [← hl]; simp
          have st2 : St C K H E w { c with tm := (kk.args.toList.map (evL c.tm) ++ caps) ++ List.replicate (fn2.ntmps - (kk.args.toList.map (evL c.tm) ++ caps).length) .any } { tmps := (kk.args.map a.eval ++ vs) ++ Array.replicate (fn2.ntmps - (kk.args.map a.eval ++ vs).size) undef, defers := [] } := by
           refine ⟨?_, st.hp, st.wok, st.free, st.gl, rfl⟩
           have : ((kk.args.map a.eval ++ vs) ++ Array.replicate (fn2.ntmps - (kk.args.map a.eval ++ vs).size) undef).toList = (kk.args.toList.map a.eval ++ vs.toList) ++ List.replicate (fn2.ntmps - (kk.args.toList.map (evL c.tm) ++ caps).length) undef := by
            rw [hlen]; simp
           simp only [this]
           exact hargs.append (DenL.any _ _ (by simp))
          have hit2 : ItOK (bodyOf fn2) [.code []] [.code body2] := by
           have := ItOK.code (body := bodyOf fn2) [] ItOK.nil
           have he : codeAt (bodyOf fn2) [] = body2 := by simp [codeAt, bodyOf, hbody2]
           rwa [he] at this
          have hs2 : StkW C H E h ({ g, r, td := .reg p (i :: rest) :: k, tm := c.tm, lp := none } :: stk) (atQ (bq g (rOf r) (marks rs)) a (.inRegion ops (i :: rest) :: k') :: ms) (rs ++ B) :=
           ⟨rs, B, by simp [lpB], ⟨fn, a, _, hfn, st.den, st.defers, hi, hm, rfl⟩, hs⟩
          exact (ih H E w _ _ [] (rs ++ B) (_ :: ms) cs fn2 h hfn2 st2 hit2 (fun _ hy => by cases hy) hs2 (by simpa using hnd) hx).of (.one henter)
         ·cases hr
       ·cases hr
      ·cases hr
     ·cases hr
    ·cases hr
   ·cases hr
  ·cases hr
 ·cases hr
theorem yield_ok {fn : Func} {g : Nat} {r : Option (Nat × Nat)} {td : List It} {c : Core} {stk : List Fw} {l l' d : Nat} {args : List SV} {f : Fw} {p : List Nat} {fnf : Func} {x : Operand} {ps : Array Tmp} {ca cb : Code} {φ : Sh → Prop} (hfn : C.fns.get g = some fn) (hr : yieldOf fn td c = some (l, args))
  (hy : yW stk = some (l', d, f, p)) (hff : C.fns.get f.g = some fnf) (hcf : codeAt (bodyOf fnf) p = .rangeFunc x ps ca cb) (hsz : Nat.beq ps.size args.length = true) (hll : l = l')
  (ih : GoesW P C K f.g (some (l', d)) [.code (0 :: p), .beg, .code (1 :: p)] { c with tm := (ps.toList.zip args).foldl (fun t x => t.set x.1 x.2) f.tm } ({ g, r, td, tm := c.tm, lp := none } :: stk) φ) : GoesW P C K g r td c stk φ := by
 intro H E w a items rs B ms cs fn' h hfn' st hi hm hs hnd hx
 rw [hfn] at hfn'; cases hfn'
 subst hll
 unfold yieldOf at hr
 split at hr
 ·rename_i q i rest k
  split at hr
  ·rename_i rid ops dr hcode
   split at hr
   ·rename_i o ho
    split at hr
    ·rename_i hwant
     split at hr
     ·rename_i kk hop
      split at hr
      ·rename_i fo hcal
       split at hr
       ·rename_i l2 xa ya hev
        cases hb : (Nat.beq xa.size 0 && Nat.beq ya.size 0) <;> simp only [hb, cond_true, cond_false] at hr
        ·cases hr
        cases hr
        simp only [Bool.and_eq_true] at hb
        obtain rfl : xa = #[] := Array.eq_empty_of_size_eq_zero (Nat.eq_of_beq_eq_true hb.1)
        obtain rfl : ya = #[] := Array.eq_empty_of_size_eq_zero (Nat.eq_of_beq_eq_true hb.2)
        obtain ⟨k', rfl, hk, rfl, hg⟩ := call_step (P := P) (b := bq g (rOf r) (marks rs)) (w := w) st hi hcode ho hwant hop (ms ++ cs)
        have df := den_ev (H := H) (E := E) st.den fo
        rw [hev] at df
        have ef : a.eval fo = .func (.yield l) #[] #[] := by simp [Den] at df; exact df.1
        have hargs := den_map st.den kk.args.toList
        obtain ⟨fnf', af, ob, y1, y2, y3, y4, y5⟩ := yW_ok hy hs
        rw [hff] at y1; cases y1
        obtain ⟨x', ps', ca', cb', df', e1, rfl⟩ := y4
        rw [hcf] at e1
        cases e1
        have hw := (hx _ _ y3).1
        have hsz2 : (kk.args.map a.eval).size = ps.size := by
         have := Nat.eq_of_beq_eq_true hsz
         simp at this
         simp [this]
        have hrun : (execOp a.eval o).run P w = .ok (.round l f.g ((ps.zip (kk.args.map a.eval)).foldl (fun tmps (t, a) => tmps.setIfInBounds t a) af.tmps) ca cb) w := by
         have h1 : (execOp a.eval o).run P w = (Instr.yield l (kk.args.map a.eval)).run P w := by
          simp only [execOp, hop, resolve, hcal]
          simp [Deferred.ofValue, ef, invoke]
         rw [h1]
         exact run_yield hw hsz2
        have hround : step P (lone (atQ (bq g (rOf r) (marks rs)) a (.inRegion ops (i :: rest) :: k')) (ms ++ cs) w) = .next (lone (Frame.round l f.g ((ps.zip (kk.args.map a.eval)).foldl (fun tmps (t, a) => tmps.setIfInBounds t a) af.tmps) ca cb .normal) (atQ (bq g (rOf r) (marks rs)) a (.inRegion ops (i :: rest) :: k') :: (ms ++ cs)) w) :=
         step_lone_go (by rw [hg]; simp [stepG.apply, hrun])
        rw [round_bq] at hround
        have hfold : DenL H E ((ps.toList.zip (kk.args.toList.map (evL c.tm))).foldl (fun t x => t.set x.1 x.2) f.tm) ((ps.zip (kk.args.map a.eval)).foldl (fun tmps (t, a) => tmps.setIfInBounds t a) af.tmps).toList := by
         have e : (ps.zip (kk.args.map a.eval)).foldl (fun tmps (t, a) => tmps.setIfInBounds t a) af.tmps = (ps.toList.zip (kk.args.toList.map a.eval)).foldl (fun ts x => ts.setIfInBounds x.1 x.2) af.tmps := by
          rw [← Array.foldl_toList]
          simp [Array.toList_zip]
         rw [e]
         refine foldl_den y2 (fun j u v hu hv => ?_) (by simp)
         rw [List.getElem?_zip_eq_some] at hu hv
         obtain ⟨u1, u2⟩ := hu
         obtain ⟨v1, v2⟩ := hv
         rw [u1] at v1
         refine ⟨Option.some.inj v1, ?_⟩
         obtain ⟨vv, w1, w2⟩ := hargs.get u2
         rw [w1] at v2
         cases v2
         exact w2
        have st2 : St C K H E w { c with tm := (ps.toList.zip (kk.args.toList.map (evL c.tm))).foldl (fun t x => t.set x.1 x.2) f.tm } { tmps := (ps.zip (kk.args.map a.eval)).foldl (fun tmps (t, a) => tmps.setIfInBounds t a) af.tmps, defers := [] } :=
         ⟨hfold, st.hp, st.wok, st.free, st.gl, rfl⟩
        have hit2 : ItOK (bodyOf fnf) [.code (0 :: p), .beg, .code (1 :: p)] [.code ca, .beginRound, .code cb] := by
         have h0 : codeAt (bodyOf fnf) (0 :: p) = ca := by simp [codeAt, hcf, child]
         have h1 : codeAt (bodyOf fnf) (1 :: p) = cb := by simp [codeAt, hcf, child]
         have := ItOK.code (body := bodyOf fnf) (0 :: p) (.beg (.code (1 :: p) .nil))
         rw [h0, h1] at this
         exact this
        have hs2 : StkW C H E h ({ g, r, td := .reg q (i :: rest) :: k, tm := c.tm, lp := none } :: stk) (atQ (bq g (rOf r) (marks rs)) a (.inRegion ops (i :: rest) :: k') :: ms) (rs ++ B) :=
         ⟨rs, B, by simp [lpB], ⟨fn, a, _, hfn, st.den, st.defers, hi, hm, rfl⟩, hs⟩
        exact (ih H E w _ _ [] (rs ++ B) (_ :: ms) cs fnf h hff st2 hit2 (fun _ hy => by cases hy) hs2 (by simpa using hnd) hx).of (.one hround)
       ·cases hr
      ·cases hr
     ·cases hr
    ·cases hr
   ·cases hr
  ·cases hr
 ·cases hr
theorem evW_ok (hC : CtxOK P C) (hF : FnsOK P C) {fn : Func} {g g' : Nat} {r r' : Option (Nat × Nat)} {td td' : List It} {c c' : Core} {stk stk' : List Fw} {q : List Eqn} {φ : Sh → Prop} (hfn : C.fns.get g = some fn)
  (hev : evW C fn g r td c stk = .next g' r' td' c' stk' q) (hq : Eqn.all q) (ih : GoesW P C K g' r' td' c' stk' φ) : GoesW P C K g r td c stk φ := by
 unfold evW at hev
 split at hev
 ·split at hev
  ·cases hev
  ·rename_i l d
   intro H E w a items rs B ms cs fn' h hfn' st hi hm hs hnd hx
   rw [hfn] at hfn'; cases hfn'
   cases hi
   exact endRnd_ok hfn hev hq ih rfl rfl st hs hnd hx fun c' cs' v w' hrun => sQ_round_end rfl rfl hrun
 ·rename_i k
  split at hev
  ·cases hev
  ·rename_i l d
   split at hev
   ·rename_i l' s hset
    cases hev
    obtain ⟨hll, _⟩ := hq
    have hll : l = l' := hll
    subst hll
    intro H E w a items rs B ms cs fn' h hfn' st hi hm hs hnd hx
    rw [hfn] at hfn'; cases hfn'
    cases hi with
    | beg hk =>
     rename_i k'
     obtain ⟨lp, q1, q2, q3, q4, q5⟩ := setW_ok hfn hset hs (List.nodup_append.1 hnd).2.1
     have hw := (hx _ _ q1).1
     have hrun := run_beginRound (P := P) hw q2
     have e : ({ lp with state := LoopState.busy } : Loop) = { lp with state := lstOf .busy, pending := jumpOf (bodyOf fn) .busy } := by
      cases lp; simp only at q3; subst q3; rfl
     rw [e] at hrun
     have hs1 := sQ_beginRound (P := P) (b := bq g (some l) (marks rs)) (a := a) (k := k') (cs := ms ++ cs) rfl hrun
     have hno : l ∉ rs := fun hmm => (List.nodup_append.1 hnd).2.2 l hmm l q4 rfl
     have := ih H E _ a k' rs B ms cs fn _ hfn (st.putObj (o' := .loop { lp with state := lstOf .busy, pending := jumpOf (bodyOf fn) .busy }) hx q1) hk (fun y hy => by
      rw [hset_other (fun e => hno (by rw [← e]; exact hy))]; exact hm y hy) q5 hnd (hx.put q1)
     rw [setW_bot hset] at this
     exact this.of (.one hs1)
   ·cases hev
 ·rename_i p k
  split at hev
  ·cases hev
  ·rename_i hret
   split at hev
   ·cases hev
   ·rename_i l d
    intro H E w a items rs B ms cs fn' h hfn' st hi hm hs hnd hx
    rw [hfn] at hfn'; cases hfn'
    have hitems : ∃ k', items = .code .ret :: k' := by
     cases hi with
     | code p hk => exact ⟨_, by rw [hret]⟩
     | loop p y hl hk => rw [hret] at hl; cases hl
    obtain ⟨k', rfl⟩ := hitems
    refine endRnd_ok hfn hev hq ih rfl rfl st hs hnd hx fun c' cs' v w' hrun => ?_
    simp only [jumpOf, hret] at hrun
    exact sQ_round_ret rfl rfl hrun
  ·rename_i id hexit
   split at hev
   ·cases hev
   ·rename_i l d
    split at hev
    ·cases hev
    ·rename_i hno
     intro H E w a items rs B ms cs fn' h hfn' st hi hm hs hnd hx
     rw [hfn] at hfn'; cases hfn'
     have hitems : ∃ k', items = .code (.exit id) :: k' ∧ ItOK (bodyOf fn) k k' := by
      cases hi with
      | code p hk => exact ⟨_, by rw [hexit], hk⟩
      | loop p y hl hk => rw [hexit] at hl; cases hl
     obtain ⟨k', rfl, hk⟩ := hitems
     refine endRnd_ok hfn hev hq ih rfl rfl st hs hnd hx fun c' cs' v w' hrun => ?_
     simp only [jumpOf, hexit] at hrun
     exact sQ_round_exit rfl rfl (exit_none hk hno) hrun
  ·cases hev
 ·rename_i p i rest k
  split at hev
  ·rename_i l args hy
   split at hev
   ·rename_i l' d f pf hyw
    split at hev
    ·rename_i fnf hff
     split at hev
     ·rename_i x ps ca cb hcf
      cases hb : Nat.beq ps.size args.length <;> simp only [hb, cond_true, cond_false] at hev
      ·cases hev
      ·cases hev
       exact yield_ok hfn hy hyw hff hcf hb hq.1 ih
     ·cases hev
    ·cases hev
   ·cases hev
  ·split at hev
   ·rename_i x hx
    cases hev
    exact push_ok hC hF hfn hx ih
   ·cases hev
 ·cases hev
end
end Go.Sx
namespace Go.Sx
section
variable {P : Program} {C : Ctx} {K : Kx} {H H' H'' H0 : Mem} {E E' E'' E1 : Env} {w w' w'' w0 : World} {h : Hp}
theorem plain_ends {fn : Func} {g : Nat} {r : Option (Nat × Nat)} {td : List It} {c : Core} {stk : List Fw} (hev : evW C fn g r td c stk = .plain) : r = none ∨ endsB fn td = false := by
 cases r with
 | none => exact .inl rfl
 | some x =>
  right
  obtain ⟨l, d⟩ := x
  unfold evW at hev
  split at hev
  ·simp only [endRnd] at hev
   split at hev
   ·split at hev
    ·split at hev <;> cases hev
    ·cases hev
   ·cases hev
  ·rfl
  ·rename_i p k
   unfold endsB
   simp only
   split at hev
   ·rename_i hc; rw [hc]
   ·simp only [endRnd] at hev
    split at hev
    ·split at hev
     ·split at hev <;> cases hev
     ·cases hev
    ·cases hev
   ·rename_i hc; rw [hc]
   ·rename_i hne1 hne2 hne3
    split
    ·rename_i hc; exact (hne2 hc).elim
    ·rfl
  ·rfl
  ·rename_i hne1 hne2 hne3 hne4
   unfold endsB
   split
   ·exact (hne1 rfl).elim
   ·exact (hne3 _ _ rfl).elim
   ·rfl
theorem goesW_run (hC : CtxOK P C) (hF : FnsOK P C) (hN : ∀ g fn, C.fns.get g = some fn → noDefer (bodyOf fn) = true) {pause : Nat → List It → Bool} {m : Nat} {φ : Sh → Prop} : ∀ {n g : Nat} {r : Option (Nat × Nat)} {td : List It} {c : Core} {stk : List Fw},
  (runW C pause m n g r td c stk).All (OutWOK P C (K0 H0 w0) φ) → GoesW P C (K0 H0 w0) g r td c stk φ
 | 0, g, r, td, c, stk, h => h
 | n + 1, g, r, td, c, stk, h => by
  intro H E w a items rs B ms cs fn hp hfn st hi hm hs hnd hx
  simp only [runW, hfn] at h
  cases hpz : pause g td <;> simp only [hpz, cond_true, cond_false] at h
  rotate_left
  ·exact h H E w a items rs B ms cs fn hp hfn st hi hm hs hnd hx
  split at h
  ·exact h.elim
  ·exact h H E w a items rs B ms cs fn hp hfn st hi hm hs hnd hx
  ·rename_i hev
   obtain ⟨hq, h⟩ := mustE_and h
   exact evW_ok hC hF hfn hev hq (goesW_run hC hF hN h) H E w a items rs B ms cs fn hp hfn st hi hm hs hnd hx
  ·rename_i hev
   have hK := call_hyp (K := reK H E w c.hp) hC hF (run_ok hC hF m)
   obtain ⟨sig, h1, h2⟩ := stepQ_ok hC hF hK (hN g fn hfn) (Tree.All_bind h) st.re hi (bq g (rOf r) (marks rs)) (ms ++ cs) (by
    rcases plain_ends hev with e | e
    ·left; rw [e]; rfl
    ·exact .inr e)
   cases sig with
   | go td' c' =>
    obtain ⟨a', w', H', E', items', q1, q2, q3, q4⟩ := h2
    exact (goesW_run hC hF hN h1 H' E' w' a' items' rs B ms cs fn hp hfn (st.un q2) q4 hm (hs.le q3.Hle q3.Ele) hnd (hx.keep st q2)).of q1
   | halt td' c' =>
    obtain ⟨a', w', H', E', items', q1, q2, q3, q4⟩ := h2
    exact (h1 H' E' w' a' items' rs B ms cs fn hp hfn (st.un q2) q4 hm (hs.le q3.Hle q3.Ele) hnd (hx.keep st q2)).of q1
   | done sv c' =>
    obtain ⟨a', w', H', E', todo, q1, q2, q3, q5⟩ := h2
    cases r with
    | some _ => exact h1.elim
    | none =>
    have st' := st.un q2
    obtain ⟨w2, hp2, c1, st2, hx2, hs2⟩ := collects g todo (ms ++ cs) st' (hx.keep st q2) hm (hs.le q3.Hle q3.Ele) hnd
    obtain ⟨v, q4, q6⟩ := q5 _ _ st2
    have q1' : Steps P (lone (atQ (bq g (rOf none) (marks rs)) a items) (ms ++ cs) w) (lone { (base g).at a' todo with mode := .returning } (ms ++ cs) w2) := q1.trans c1
    cases stk with
    | nil =>
     cases ms with
     | cons _ _ => exact hs.elim
     | nil =>
      obtain ⟨s, e1, e2⟩ := h1
      obtain ⟨H2, r2⟩ := finish_ok st2 e1 q4
      exact ⟨a', w2, v, s, H2, todo, fn, hfn, q1', st2.defers, e2, r2, q6⟩
    | cons f stk =>
     cases ms with
     | nil => exact hs.elim
     | cons mf ms =>
      have hleave : step P (lone { (base g).at a' todo with mode := .returning } (mf :: (ms ++ cs)) w2) = .next (lone (mf.finish v) (ms ++ cs) w2) :=
       step_leave_returned ⟨rfl, st2.defers, rfl, fn, hC.fn g fn hfn, q6⟩
      obtain ⟨rs', B', hB, p1, p2⟩ := hs2
      subst hB
      have hm' : ∀ y ∈ rs', hp2 y = some (.deferred (some [])) := by
       obtain ⟨_, _, _, _, _, _, _, z, _⟩ := p1
       exact z
      have hnd2 := (List.nodup_append.1 hnd).2.1
      simp only at h1
      split at h1
      ·rename_i hlp
       split at h1
       ·rename_i x hpop
        obtain ⟨fnf, a2, items2, g1, g2, g3, g4, g5⟩ := pop_ok p1 hlp hpop q4 st2
        rw [g4] at hleave
        have hB2 : lpB f = [] := by simp [lpB, hlp]
        rw [hB2, List.append_nil] at hnd2
        exact (goesW_run hC hF hN h1 H' E' w2 a2 items2 rs' B' ms cs fnf hp2 g1 g2 g3 hm' p2 hnd2 (by rw [g5]; exact hx2)).of (q1'.trans (.one hleave))
       ·exact h1.elim
      ·rename_i l p s hlp
       cases hbz : isBusy s <;> simp only [hbz, cond_true, cond_false] at h1
       rotate_left
       ·exact h1.elim
       obtain ⟨fnf, a2, items2, g1, g2, g3, g4, g5, g6⟩ := p1
       rw [hlp] at g6
       obtain ⟨g7, o, g8, g9⟩ := g6
       obtain ⟨lp, rfl, r1, r2, _⟩ := g9.loop
       have hw := (hx2 _ _ g8).1
       have hrun := run_endLoop (P := P) hw (by rw [r1]; cases s <;> simp [lstOf] at hbz ⊢; cases hbz)
       subst g7
       rw [finish_inRange] at hleave
       have hend := sQ_endRange (b := bq f.g (rOf f.r) (marks rs')) (a := a2) (k := items2) (cs := ms ++ cs) hrun
       have hB2 : lpB f = [l] := by simp [lpB, hlp]
       rw [hB2] at hnd2
       have hl1 : l ∉ rs' := fun hmm => (List.nodup_append.1 (List.nodup_append.1 hnd2).1).2.2 l hmm l (by simp) rfl
       have hl2 : l ∉ B' := fun hmm => (List.nodup_append.1 hnd2).2.2 l (by simp) l hmm rfl
       have hnd3 : (rs' ++ B').Nodup := by
        rw [List.append_assoc] at hnd2
        exact hnd2.sublist (List.Sublist.append (List.Sublist.refl _) (List.sublist_append_right _ _))
       have st3 := st2.putObj (o' := .loop { lp with state := .exhausted }) hx2 g8
       have st4 : St C (K0 H0 w0) H' E' (w2.putObj l (.loop { lp with state := .exhausted })) { c' with tm := f.tm } a2 := ⟨g2, st3.hp, st3.wok, st3.free, st3.gl, g3⟩
       have hit : ItOK (bodyOf fnf) (backTd f s) ((lp.pending.map Item.code).toList ++ items2) := by
        rw [r2]
        cases s with
        | done q => exact .code q g4
        | ready => exact g4
        | busy => exact g4
       exact (goesW_run hC hF hN h1 H' E' _ a2 _ rs' B' ms cs fnf _ g1 st4 hit (fun y hy => by rw [hset_other (fun e => hl1 (by rw [← e]; exact hy))]; exact hm' y hy) (p2.put hl2) hnd3 (hx2.put g8)).of ((q1'.trans (.one hleave)).trans (.one hend))
/-! Rules. -/
theorem goesW_range (hC : CtxOK P C) (hF : FnsOK P C) {fn fn2 : Func} {g g2 : Nat} {p : List Nat} {k : List It} {c : Core} {stk : List Fw} {x : Operand} {ps : Array Tmp} {ca cb : Code} {caps : List SV} {φ : Sh → Prop} (hfn : C.fns.get g = some fn)
  (hcode : codeAt (bodyOf fn) p = .rangeFunc x ps ca cb) (hx : evL c.tm x = .fn g2 caps) (hfn2 : C.fns.get g2 = some fn2) (hb : (Nat.ble (1 + caps.length) fn2.ntmps && fn2.body.isSome) = true)
  (ih : ∀ l, GoesW P C K g2 none [.code []] { c with tm := (.val (yv l) :: caps) ++ List.replicate (fn2.ntmps - (1 + caps.length)) .any } ({ g, r := none, td := k, tm := c.tm, lp := some (l, p, .ready) } :: stk) φ) : GoesW P C K g none (.code p :: k) c stk φ := by
 intro H E w a items rs B ms cs fn' h hfn' st hi hm hs hnd hxt
 rw [hfn] at hfn'; cases hfn'
 simp only [Bool.and_eq_true] at hb
 obtain ⟨body2, hbody2⟩ := Option.isSome_iff_exists.1 hb.2
 have hP2 := hC.fn g2 fn2 hfn2
 have hitems : ∃ k', items = .code (.rangeFunc x ps ca cb) :: k' ∧ ItOK (bodyOf fn) k k' := by
  cases hi with
  | code p hk => exact ⟨_, by rw [hcode], hk⟩
  | loop p y hl hk => rw [hcode] at hl; cases hl
 obtain ⟨k', rfl, hk⟩ := hitems
 have df := den_ev (H := H) (E := E) st.den x
 rw [hx] at df
 obtain ⟨vs, ef, hvs⟩ := df
 have hent := hF.en g2 (.inr (by rw [hfn2]; rfl))
 let ob : Obj := .loop { state := .ready, pending := none, fn := g, tmps := a.tmps, params := ps, assign := ca, body := cb, defers := w.heap.size }
 let w2 : World := (w.alloc (.deferred (some []))).alloc ob
 have he : (Instr.enterLoop g a.tmps ps ca cb none).run P w = .ok (w.heap.size + 1, [{ target := .collected w.heap.size, args := #[] }]) w2 := run_enterLoop_outer g a.tmps ps ca cb
 have hstep : step P (lone (atQ (bq g none (marks rs)) a (.code (.rangeFunc x ps ca cb) :: k')) (ms ++ cs) w) =
   .next (lone (Frame.enter P g2 (#[yv (w.heap.size + 1)] ++ vs) .normal) (atQ (bq g none (marks (w.heap.size :: rs))) a (.inRangeFunc (w.heap.size + 1) :: k') :: (ms ++ cs)) w2) := by
  have h0 := stepR_rangeFunc (P := P) (b := bq g none (marks rs)) (a := qAct (bq g none (marks rs)) a) (k := k') (cs := ms ++ cs) (w := w) (g := x) (ps := ps) (assign := ca) (body := cb) (l := w.heap.size + 1) (mark := [{ target := .collected w.heap.size, args := #[] }])
   (w₁ := w2) (w₁' := w2) (w₂ := w2) (d := { target := .fn (.func g2) vs, args := #[yv (w.heap.size + 1)] }) (f := g2) (args := #[yv (w.heap.size + 1)] ++ vs) he
   (by rw [qAct_eval]; simp [resolve, Deferred.ofValue, ef, yv, show ∀ v, a.eval (.const v) = v from fun _ => rfl]) (by simp [invoke, callFunc_run hent])
  rw [atQ_R, h0]
  simp [atQ, Frame.atR, qAct, bq, marks, st.defers]
 rw [enter_bq hP2 hbody2] at hstep
 have hl := hvs.length
 have st1 := (st.allocObj (.deferred (some []))).allocObj ob
 have hx1 := (hxt.alloc st (.deferred (some []))).alloc (st.allocObj _) ob
 have hsz : (w.alloc (.deferred (some []))).heap.size = w.heap.size + 1 := World.size_alloc ..
 rw [hsz] at hx1
 have hB : ∀ y ∈ rs ++ B, y < w.heap.size := fun y hy => by
  have : ∃ o, h y = some o := by
   rcases List.mem_append.1 hy with hy | hy
   ·exact ⟨_, hm y hy⟩
   ·exact hs.has y hy
  obtain ⟨o, ho⟩ := this
  exact (Array.getElem?_eq_some_iff.1 (hxt y o ho).1).1
 have hold : ∀ y, y < w.heap.size → hset_ (hset_ h w.heap.size (.deferred (some []))) (w.heap.size + 1) ob y = h y := fun y hy => by
  rw [hset_other (by omega), hset_other (by omega)]
 have hs1 : StkW C H E (hset_ (hset_ h w.heap.size (.deferred (some []))) (w.heap.size + 1) ob) stk ms B :=
  (hs.put (fun hm => by have := hB _ (List.mem_append_right _ hm); omega)).put (fun hm => by have := hB _ (List.mem_append_right _ hm); omega)
 have st2 : St C K H E w2 { c with tm := (.val (yv (w.heap.size + 1)) :: caps) ++ List.replicate (fn2.ntmps - (1 + caps.length)) .any } { tmps := (#[yv (w.heap.size + 1)] ++ vs) ++ Array.replicate (fn2.ntmps - (#[yv (w.heap.size + 1)] ++ vs).size) undef, defers := [] } := by
  refine ⟨?_, st1.hp, st1.wok, st1.free, st1.gl, rfl⟩
  have : ((#[yv (w.heap.size + 1)] ++ vs) ++ Array.replicate (fn2.ntmps - (#[yv (w.heap.size + 1)] ++ vs).size) undef).toList = (yv (w.heap.size + 1) :: vs.toList) ++ List.replicate (fn2.ntmps - (1 + caps.length)) undef := by
   have e : (#[yv (w.heap.size + 1)] ++ vs).size = 1 + caps.length := by simp at hl; simp [hl]
   rw [e]; simp
  simp only [this]
  exact DenL.append (l := .val (yv (w.heap.size + 1)) :: caps) (vs := yv (w.heap.size + 1) :: vs.toList) ⟨⟨rfl, rfl⟩, hvs⟩ (DenL.any _ _ (by simp))
 have hit2 : ItOK (bodyOf fn2) [.code []] [.code body2] := by
  have := ItOK.code (body := bodyOf fn2) [] ItOK.nil
  have he : codeAt (bodyOf fn2) [] = body2 := by simp [codeAt, bodyOf, hbody2]
  rwa [he] at this
 have hs2 : StkW C H E (hset_ (hset_ h w.heap.size (.deferred (some []))) (w.heap.size + 1) ob) ({ g, r := none, td := k, tm := c.tm, lp := some (w.heap.size + 1, p, .ready) } :: stk) (atQ (bq g none (marks (w.heap.size :: rs))) a (.inRangeFunc (w.heap.size + 1) :: k') :: ms) ((w.heap.size :: rs) ++ [w.heap.size + 1] ++ B) := by
  refine ⟨w.heap.size :: rs, B, by simp [lpB], ⟨fn, a, k', hfn, st.den, st.defers, hk, fun y hy => ?_, ?_⟩, hs1⟩
  ·rcases List.mem_cons.1 hy with rfl | hy
   ·rw [hset_other (by omega), hset_same]
   ·rw [hold y (hB y (List.mem_append_left _ hy))]; exact hm y hy
  ·exact ⟨rfl, ob, hset_same, x, ps, ca, cb, w.heap.size, hcode, rfl⟩
 have hnd2 : (([] : List Nat) ++ ((w.heap.size :: rs) ++ [w.heap.size + 1] ++ B)).Nodup := by
  have h1 : w.heap.size ∉ rs := fun hm => by have := hB _ (List.mem_append_left _ hm); omega
  have h2 : w.heap.size ∉ B := fun hm => by have := hB _ (List.mem_append_right _ hm); omega
  have h3 : w.heap.size + 1 ∉ rs := fun hm => by have := hB _ (List.mem_append_left _ hm); omega
  have h4 : w.heap.size + 1 ∉ B := fun hm => by have := hB _ (List.mem_append_right _ hm); omega
  obtain ⟨n1, n2, n3⟩ := List.nodup_append.1 hnd
  simp only [List.nil_append, List.cons_append, List.append_assoc, List.nodup_cons, List.mem_append, List.mem_cons, List.nodup_append, not_or]
  refine ⟨⟨h1, by omega, h2⟩, n1, ⟨h4, n2⟩, fun a ha b hb => ?_⟩
  rcases hb with rfl | hb
  ·intro e; exact h3 (e ▸ ha)
  ·exact n3 a ha b hb
 exact (ih (w.heap.size + 1) H E w2 _ _ [] _ (_ :: ms) cs fn2 _ hfn2 st2 hit2 (fun _ hy => by cases hy) hs2 hnd2 hx1).of (.one hstep)
end
end Go.Sx
namespace Go.Sx
structure TgtW where
 g : Nat
 r : Option (Nat × Nat)
 td : List It
 c : Core
 stk : List Fw
def qRO : Option (Nat × Nat) → Option (Nat × Nat) → Option (List Eqn)
 | none, none => some []
 | some (l, d), some (l', d') => iff2 (Nat.beq d d') (some [.nat l l'])
 | _, _ => none
def eqSt : LSt → LSt → Bool
 | .ready, .ready => true
 | .busy, .busy => true
 | .done p, .done q => p == q
 | _, _ => false
def qLpO : Option (Nat × List Nat × LSt) → Option (Nat × List Nat × LSt) → Option (List Eqn)
 | none, none => some []
 | some (l, p, s), some (l', p', s') => iff2 (p == p' && eqSt s s') (some [.nat l l'])
 | _, _ => none
def qStkW (hp : List (Nat × SB)) (ρ : List (Nat × Rn)) : List Fw → List Fw → Option (List Eqn)
 | [], [] => some []
 | f :: s, f' :: s' => iff2 (f.g == f'.g && itsEq f.td f'.td) (app2 (qRO f.r f'.r) (app2 (qLpO f.lp f'.lp) (app2 (qL hp ρ f.tm f'.tm) (qStkW hp ρ s s'))))
 | _, _ => none
def sameStkW : List Fw → List Fw → Bool
 | [], [] => true
 | f :: s, f' :: s' => f.g == f'.g && itsEq f.td f'.td && (f.r.isSome == f'.r.isSome) && (f.lp.isSome == f'.lp.isSome) && sameStkW s s'
 | _, _ => false
def collW : List Fw → List Fw → List (Nat × Rn)
 | f :: s, f' :: s' => collL f.tm f'.tm ++ collW s s'
 | _, _ => []
def TgtW.rn (t : TgtW) (c : Core) (stk : List Fw) : List (Nat × Rn) := infer t.c.hp c.hp 4000 (collL t.c.tm c.tm ++ collW t.stk stk) []
def matchW (g : Nat) (r : Option (Nat × Nat)) (td : List It) (c : Core) (stk : List Fw) : Nat → List TgtW → Tree Fe2
 | _, [] => .fail
 | k, t :: ts => bif g == t.g && itsEq td t.td && sameStkW stk t.stk then match app2 (qRO r t.r) (app2 (qC (t.rn c stk) c t.c) (qStkW c.hp (t.rn c stk) stk t.stk)) with
   | some l => .leaf (.at_ k l)
   | none => matchW g r td c stk (k + 1) ts
  else matchW g r td c stk (k + 1) ts
def toFeW (ts : List TgtW) : OutW → Tree Fe2
 | .fin v c => match finish c v with
  | some s => .leaf (.ret s)
  | none => .fail
 | .stop g r td c stk => matchW g r td c stk 0 ts
def runX (C : Ctx) (pause : Nat → List It → Bool) (m n g : Nat) (r : Option (Nat × Nat)) (td : List It) (c : Core) (stk : List Fw) (ts : List TgtW) : Tree Fe2 := (runW C pause m n g r td c stk).bind (toFeW ts)
def FeWOK (P : Program) (C : Ctx) (K : Kx) (ts : List TgtW) (φ : Sh → Prop) : Fe2 → Prop
 | .ret s => φ s
 | .at_ k l => Eqn.all l ∧ ∃ t, ts[k]? = some t ∧ GoesW P C K t.g t.r t.td t.c t.stk φ
@[irreducible] def MeetsW (ψ : Fe2 → Prop) (t : Tree Fe2) : Prop := t.All ψ
theorem meetsW_eq (ψ : Fe2 → Prop) (t : Tree Fe2) : MeetsW ψ t = t.All ψ := by unfold MeetsW; rfl
def noPause : Nat → List It → Bool := fun _ _ => false
def noDeferAll : BT Func → Bool := BT.allB fun _ fn => noDefer (bodyOf fn)
section
variable {P : Program} {C : Ctx} {K : Kx} {H H' H'' H0 : Mem} {E E' E'' E1 : Env} {w w' w'' w0 : World} {h : Hp}
theorem noDefer_of (hx : noDeferAll C.fns = true) : ∀ g fn, C.fns.get g = some fn → noDefer (bodyOf fn) = true := fun g fn hg => (BT.allB_all hx).get hg
theorem qRO_ok {r r' : Option (Nat × Nat)} {q : List Eqn} (hx : qRO r r' = some q) (ha : Eqn.all q) : r = r' := by
 unfold qRO at hx
 split at hx
 ·rfl
 ·obtain ⟨h1, h2⟩ := iff2_some hx
  cases h2
  have h3 : _ = _ := ha.1
  rw [h3, Nat.eq_of_beq_eq_true h1]
 ·cases hx
theorem eqSt_ok {s t : LSt} (hx : eqSt s t = true) : s = t := by
 cases s <;> cases t <;> simp [eqSt] at hx <;> simp_all
theorem qLpO_ok {r r' : Option (Nat × List Nat × LSt)} {q : List Eqn} (hx : qLpO r r' = some q) (ha : Eqn.all q) : r = r' := by
 unfold qLpO at hx
 split at hx
 ·rfl
 ·obtain ⟨h1, h2⟩ := iff2_some hx
  cases h2
  simp only [Bool.and_eq_true, beq_iff_eq] at h1
  have h3 : _ = _ := ha.1
  rw [h3, h1.1, eqSt_ok h1.2]
 ·cases hx
def leStkW (hp : List (Nat × SB)) (ρ : List (Nat × Rn)) : List Fw → List Fw → Prop
 | [], [] => True
 | f :: s, f' :: s' => f.g = f'.g ∧ f.td = f'.td ∧ f.r = f'.r ∧ f.lp = f'.lp ∧ leL hp ρ f.tm f'.tm ∧ leStkW hp ρ s s'
 | _, _ => False
theorem qStkW_ok {hp : List (Nat × SB)} {ρ : List (Nat × Rn)} : ∀ {s s' : List Fw} {q : List Eqn}, qStkW hp ρ s s' = some q → Eqn.all q → leStkW hp ρ s s'
 | [], [], _, _, _ => trivial
 | f :: s, f' :: s', q, hx, ha => by
  simp only [qStkW] at hx
  obtain ⟨h1, h2⟩ := iff2_some hx
  obtain ⟨a, b, h3, h4, rfl⟩ := app2_some h2
  obtain ⟨a2, b2, h5, h6, rfl⟩ := app2_some h4
  obtain ⟨a3, b3, h7, h8, rfl⟩ := app2_some h6
  simp only [Bool.and_eq_true, beq_iff_eq] at h1
  have e1 := Eqn.all_app ha
  have e2 := Eqn.all_app e1.2
  have e3 := Eqn.all_app e2.2
  exact ⟨h1.1, itsEq_ok h1.2, qRO_ok h3 e1.1, qLpO_ok h5 e2.1, qL_ok _ h7 e3.1, qStkW_ok h8 e3.2⟩
 | [], _ :: _, _, hx, _ => by simp [qStkW] at hx
 | _ :: _, [], _, hx, _ => by simp [qStkW] at hx
theorem StkW.weak {hp : List (Nat × SB)} {ρ : List (Nat × Rn)} (hh : HeapOK K H E w hp) : ∀ {s s' : List Fw} {ms : List Frame} {B : List Nat}, StkW C H E h s ms B → leStkW hp ρ s s' → StkW C H (rnEnv ρ E) h s' ms B
 | [], [], [], _, x, _ => x
 | ⟨g, r, td, tm, lp⟩ :: s, ⟨g', r', td', tm', lp'⟩ :: s', m :: ms, B, ⟨rs, B', hB, ⟨fn, a, items, h1, h2, h3⟩, h6⟩, ⟨e1, e2, e3, e4, e5, e6⟩ => by
  simp only at e1 e2 e3 e4 e5
  subst e1 e2 e3 e4
  exact ⟨rs, B', hB, ⟨fn, a, items, h1, leL_den hh _ e5 h2, h3⟩, StkW.weak hh h6 e6⟩
 | [], [], _ :: _, _, x, _ => x.elim
 | _ :: _, _, [], _, x, _ => x.elim
 | [], _ :: _, _, _, _, x => x.elim
 | _ :: _, [], _ :: _, _, _, x => x.elim
theorem botW_le {hp : List (Nat × SB)} {ρ : List (Nat × Rn)} : ∀ {s s' : List Fw} {g : Nat}, leStkW hp ρ s s' → botW g s' = botW g s
 | [], [], _, _ => rfl
 | f :: s, f' :: s', _, ⟨e1, _, _, _, _, e4⟩ => by simp only [botW]; rw [e1]; exact botW_le e4
 | [], _ :: _, _, h => h.elim
 | _ :: _, [], _, h => h.elim
theorem goesW_weak {g : Nat} {r : Option (Nat × Nat)} {td : List It} {c c' : Core} {stk stk' : List Fw} {φ : Sh → Prop} (ρ : List (Nat × Rn)) (hle : leC ρ c c') (hs : leStkW c.hp ρ stk stk') (hg : GoesW P C K g r td c' stk' φ) : GoesW P C K g r td c stk φ := by
 intro H E w a items rs B ms cs fn h hfn st hi hm hst hnd hx
 have := hg H (rnEnv ρ E) w a items rs B ms cs fn h hfn (st.weak hle) hi hm (hst.weak st.hp hs) hnd (hx.weak st hle)
 rw [botW_le hs] at this
 exact this
theorem matchW_ok {φ : Sh → Prop} {ts : List TgtW} {g : Nat} {r : Option (Nat × Nat)} {td : List It} {c : Core} {stk : List Fw} : ∀ {rs : List TgtW} {k : Nat}, (∀ j, rs[j]? = ts[k + j]?) → (matchW g r td c stk k rs).All (FeWOK P C K ts φ) → GoesW P C K g r td c stk φ
 | [], _, _, hx => hx.elim
 | t :: rs, k, hk, hx => by
  have hr : ∀ j, rs[j]? = ts[k + 1 + j]? := fun j => by have := hk (j + 1); simp only [List.getElem?_cons_succ] at this; rw [this]; congr 1; omega
  unfold matchW at hx
  cases hb : (g == t.g && itsEq td t.td && sameStkW stk t.stk) <;> simp only [hb, cond_true, cond_false] at hx
  ·exact matchW_ok hr hx
  ·simp only [Bool.and_eq_true, beq_iff_eq] at hb
   obtain ⟨⟨h1, h2⟩, h3⟩ := hb
   split at hx
   ·rename_i l hl
    obtain ⟨a0, b0, q0, q00, rfl⟩ := app2_some hl
    obtain ⟨a, b, q1, q2, rfl⟩ := app2_some q00
    obtain ⟨hl, t', ht, hg⟩ := hx
    have := hk 0
    simp only [List.getElem?_cons_zero, Nat.add_zero] at this
    rw [← this] at ht
    cases ht
    have h2 := itsEq_ok h2
    subst h1 h2
    have e1 := Eqn.all_app hl
    have e2 := Eqn.all_app e1.2
    have hrr := qRO_ok q0 e1.1
    subst hrr
    exact goesW_weak (t.rn c stk) (qC_ok q1 e2.1) (qStkW_ok q2 e2.2) hg
   ·exact matchW_ok hr hx
theorem goesW_runX (hC : CtxOK P C) (hF : FnsOK P C) (hN : noDeferAll C.fns = true) {pause : Nat → List It → Bool} {m n g : Nat} {r : Option (Nat × Nat)} {td : List It} {c : Core} {stk : List Fw} {ts : List TgtW} {φ : Sh → Prop}
  (hx : MeetsW (FeWOK P C (K0 H0 w0) ts φ) (runX C pause m n g r td c stk ts)) : GoesW P C (K0 H0 w0) g r td c stk φ := by
 rw [meetsW_eq] at hx
 refine goesW_run hC hF (noDefer_of hN) (pause := pause) (m := m) (n := n) ((Tree.All_bind hx).mono fun o ho => ?_)
 cases o with
 | fin v c =>
  simp only [toFeW] at ho
  split at ho
  ·rename_i s hs
   exact ⟨s, hs, ho⟩
  ·exact ho.elim
 | stop g r td c stk => exact matchW_ok (k := 0) (fun j => by simp) ho
theorem goesW_into {fn : Func} {g : Nat} {r : Option (Nat × Nat)} {td tb : List It} {c : Core} {stk : List Fw} {φ : Sh → Prop} (hfn : C.fns.get g = some fn) (hx : loopTd fn td = some tb) (hg : GoesW P C K g r tb c stk φ) : GoesW P C K g r td c stk φ := by
 unfold loopTd at hx
 split at hx
 ·rename_i p k
  cases hb : isLoop (codeAt (bodyOf fn) p) <;> simp only [hb, cond_true, cond_false] at hx
  ·cases hx
  ·cases hx
   unfold isLoop at hb
   split at hb
   ·rename_i x he
    intro H E w a items rs B ms cs fn' h hfn' st hi hm hst hnd hxt
    rw [hfn] at hfn'; cases hfn'
    have h0 : codeAt (bodyOf fn) (0 :: p) = x := by simp [codeAt, he, child]
    cases hi with
    | code p hk =>
     have := ItOK.code (0 :: p) (ItOK.loop p x he hk)
     rw [h0] at this
     rw [he]
     exact (hg H E w a _ rs B ms cs fn h hfn st this hm hst hnd hxt).of (.one sQ_loop)
    | loop p y hl hk =>
     rw [he] at hl; cases hl
     have := ItOK.code (0 :: p) (ItOK.loop p x he hk)
     rw [h0] at this
     exact (hg H E w a _ rs B ms cs fn h hfn st this hm hst hnd hxt).of (.one sQ_inLoop)
   ·cases hb
 ·cases hx
theorem fnOK_W (hC : CtxOK P C) {g : Nat} {fn : Func} {F : List Sh → Tree Sh} (hfn : C.fns.get g = some fn) (hb : fn.body.isSome = true)
  (h : ∀ (H : Mem) (w : World) (shs : List Sh) (args : List Value) (φ : Sh → Prop), RepL H shs args → (F shs).All φ → ∃ shs' : List Sh, RepL H shs' args ∧ ∃ L, GoesW P C (K0 H w) g none [.code []] (start0 fn.ntmps shs' L) [] φ) : FnOK P C.gls g F := by
 refine fnOK_S hC hfn hb fun H w shs args φ hr hφ => ?_
 obtain ⟨shs', hr', L, hgo⟩ := h H w shs args φ hr hφ
 refine ⟨shs', hr', L, fun H1 E w1 a items ms cs fn1 hfn1 st hi hs hx => ?_⟩
 cases ms with
 | cons _ _ => exact hs.elim
 | nil =>
  have := hgo H1 E w1 a items [] [] [] cs fn1 (fun _ => none) hfn1 st hi (fun _ hy => by cases hy) rfl (by simp) (fun b o e => by cases e)
  obtain ⟨a', w', v, s, H', todo, fn0, q1, q2, q3⟩ := this
  refine ⟨a', w', v, s, H', todo, fn0, q1, ?_, q3⟩
  have e : (base g).at a items = atQ (bq g (rOf none) (marks [])) a items := (atQ_base g a items).symm
  rw [e]
  exact q2
end
end Go.Sx
