/-
  A call under memory that no id names: what it leaves; ids that are hidden; hidden memory that will not change any more. Own work. Chapter 5: what holds of an automaton, event by event; Feed under hidden memory. Own work. Chapter 5: an automaton that is new lies in memory that no id names. Own work. A slice that has grown by elements that hold slices of one's own: these are frozen, and it is a slice that grows again. Own work. Chapter 5: what a history's events make, up to each event; evaluated. The equations are written by program (gen2.py). Own work. Chapter 5: an automaton in memory that will not change any more. Own work. A state of which single values say less: slices that agree as far as they reach. Own work. Chapter 5: summary: a history's transactions. Own work. Chapter 5: summary: whether a history is well-formed. Own work. Chapter 5: transactions found, deeds dropped, objects spared; evaluated. The equations are written by program (gen2.py). Own work. Chapter 5: summary: a transaction is found. Own work. Chapter 5: a deed dropped, objects spared; evaluated. The equations are written by program (gen2.py). Own work. Chapter 5: summary: a history without a deed. Own work. Chapter 5: summary: a history without its last objects that no call names. Own work. Chapter 5: events of some transactions; evaluated. The equations are written by program (gen2.py). Own work. Chapter 5: summary: the events of some transactions. Own work. Chapter 5: the committed transactions' events; evaluated. The equations are written by program (gen2.py). Own work.
-/
import Derived.Test.YtibleheeajlfjaaDoorP08
namespace Go.Sx
/-- The call that stands next: whom, with what, whereto, what is behind it. -/
def pendOf (fn : Func) (td : List It) (c : Core) : Option (Nat × List SV × Option Nat × List It) :=
  match td with
  | .reg p (i :: r) :: k => match codeAt (bodyOf fn) p with
    | .region _ ops _ => match opAt ops.toList i with
      | some o => match wantOf ops.toList c.tm o with
        | .yes => match o.op with
          | .call kk => match kk.callee with
            | .value f => match evL c.tm f with
              | .fn g cs => some (g, kk.args.toList.map (evL c.tm) ++ cs, o.dst, .reg p r :: k)
              | _ => none
            | _ => none
          | _ => none
        | _ => none
      | none => none
    | _ => none
  | _ => none
/-- The known part of memory holds there. -/
def Hp.at (h : Hp) (H : Mem) (w : World) : Prop := ∀ b o, h b = some o → w.heap[b]? = some o ∧ H b = none
mutual
/-- It names no id. -/
def noId : SV → Bool
  | .ptr _ _ => false
  | .gs _ => false
  | .gp _ _ _ _ => false
  | .mp _ => false
  | .ev _ => false
  | .fn _ l => noIdL l
  | .agg l => noIdL l
  | .tup l => noIdL l
  | .ifc _ x => noId x
  | _ => true
def noIdL : List SV → Bool
  | [] => true
  | x :: l => noId x && noIdL l
end
def noIdS : List Fr → Bool
  | [] => true
  | f :: s => noIdL f.tm && noIdS s
/-- No id stands for anything. -/
def Env0 : Env := fun _ => none
mutual
theorem noId_den {H : Mem} {E E' : Env} : ∀ {x : SV} {v : Value}, noId x = true → Den H E x v → Den H E' x v
  | .any, _, _, _ => trivial
  | .val _, _, _, h => h
  | .int _ _, _, _, h => h
  | .sym _ _, _, _, h => h
  | .bool _, _, _, h => h
  | .test _, _, _, h => h
  | .str _, _, _, h => h
  | .ptr _ _, _, h, _ => by simp [noId] at h
  | .gs _, _, h, _ => by simp [noId] at h
  | .gp _ _ _ _, _, h, _ => by simp [noId] at h
  | .nilp, _, _, h => h
  | .nils, _, _, h => h
  | .nilf, _, _, h => h
  | .nili, _, _, h => h
  | .nilm, _, _, h => h
  | .fn _ l, _, hn, ⟨vs, h1, h2⟩ => ⟨vs, h1, noIdL_den (by simpa [noId] using hn) h2⟩
  | .agg l, _, hn, ⟨vs, h1, h2⟩ => ⟨vs, h1, noIdL_den (by simpa [noId] using hn) h2⟩
  | .tup l, _, hn, ⟨vs, h1, h2⟩ => ⟨vs, h1, noIdL_den (by simpa [noId] using hn) h2⟩
  | .ifc _ x, _, hn, ⟨v, h1, h2⟩ => ⟨v, h1, noId_den (by simpa [noId] using hn) h2⟩
  | .mp _, _, h, _ => by simp [noId] at h
  | .sh _, _, _, h => h
  | .shp _ _ _ _ _, _, _, h => h
  | .glob _, _, _, h => h
  | .ev _, _, h, _ => by simp [noId] at h
theorem noIdL_den {H : Mem} {E E' : Env} : ∀ {l : List SV} {vs : List Value}, noIdL l = true → DenL H E l vs → DenL H E' l vs
  | [], [], _, _ => trivial
  | _ :: _, _ :: _, hn, ⟨h1, h2⟩ => by
    simp only [noIdL, Bool.and_eq_true] at hn
    exact ⟨noId_den hn.1 h1, noIdL_den hn.2 h2⟩
  | [], _ :: _, _, h => h.elim
  | _ :: _, [], _, h => h.elim
end
theorem noIdS_ok {C : Ctx} {H : Mem} {E E' : Env} : ∀ {s : List Fr} {ms : List Frame}, noIdS s = true → StkOK C H E s ms → StkOK C H E' s ms
  | [], [], _, _ => trivial
  | f :: s, m :: ms, hn, ⟨⟨fn, a, items, h1, h2, h3⟩, h4⟩ => by
    simp only [noIdS, Bool.and_eq_true] at hn
    exact ⟨⟨fn, a, items, h1, noIdL_den hn.1 h2, h3⟩, noIdS_ok hn.2 h4⟩
  | [], _ :: _, _, h => h.elim
  | _ :: _, [], _, h => h.elim
theorem heap_nil {K : Kx} {H : Mem} {E : Env} {w : World} : HeapOK K H E w [] := ⟨fun _ _ hl => by simp [look?] at hl, fun _ _ _ _ _ hl => by simp [look?] at hl⟩
section
variable {P : Program} {C : Ctx} {H H' H0 : Mem} {E E' : Env} {w w' w0 : World}
/-- What a call under hidden memory is to do. -/
def CallsR (P : Program) (gls : List (Nat × Sh)) (g : Nat) (args : List SV) (R : Hp → Prop) (sv : SV) (R' : Hp → Prop) : Prop :=
  ∀ (H : Mem) (E : Env) (w : World) (vs : List Value) (h : Hp), DenL H E args vs → H.on w → GlobOK gls H → R h → h.at H w →
    Calls P g vs.toArray w fun en w' => ∃ v H' h', en = .returned v ∧ Den H' E sv v ∧ R' h' ∧ h'.at H' w' ∧ H.le H' ∧ WOK ⟨w, fun b => h b ≠ none, H⟩ H' w' ∧ ∀ b, h' b ≠ none → w.heap.size ≤ b ∨ h b ≠ none
theorem goesS_call {K : Kx} {g g2 : Nat} {fn : Func} {td td' : List It} {c : Core} {stk : List Fr} {R R' : Hp → Prop} {φ : Sh → Prop} {args : List SV} {sv : SV} {dst : Option Nat} (hfn : C.fns.get g = some fn)
    (hp : pendOf fn td c = some (g2, args, dst, td')) (hen : Enters P g2) (hn : c.hp = [] ∧ noIdL c.tm = true ∧ noIdS stk = true) (hcall : CallsR P C.gls g2 args R sv R') (hgo : GoesS P C K g td' { c with tm := putS c.tm dst sv } stk R' φ) : GoesS P C K g td c stk R φ := by
  intro H E1 w a items ms cs fn' hfn' st hi hs hx
  rw [hfn] at hfn'; cases hfn'
  let E : Env := Env0
  have st : St C K H E w c a := ⟨noIdL_den hn.2.1 st.den, by rw [hn.1]; exact heap_nil, st.wok, fun _ _ _ => rfl, st.gl, st.defers⟩
  have hs : StkOK C H E stk ms := noIdS_ok hn.2.2 hs
  have hx : ExtOK R K H E w := let ⟨h, h1, h2⟩ := hx; ⟨h, h1, fun b o e => ⟨(h2 b o e).1, (h2 b o e).2.1, fun i hi => by simp [E, Env0, bk] at hi, (h2 b o e).2.2.2⟩⟩
  unfold pendOf at hp
  split at hp
  rotate_left
  · cases hp
  rename_i p i rest k
  split at hp
  rotate_left
  · cases hp
  rename_i rid ops dr hcode
  split at hp
  rotate_left
  · cases hp
  rename_i o ho
  split at hp
  rotate_left
  · cases hp
  rename_i hwant
  split at hp
  rotate_left
  · cases hp
  rename_i kk hop
  split at hp
  rotate_left
  · cases hp
  rename_i f hcal
  split at hp
  rotate_left
  · cases hp
  rename_i g3 caps hev
  cases hp
  cases hi with
  | reg p l id ops2 hc hk =>
    rw [hc] at hcode
    cases hcode
    rename_i k'
    have df := den_ev (H := H) (E := E) st.den f
    rw [hev] at df
    obtain ⟨vs, ef, hvs⟩ := df
    have hargs := (den_map st.den kk.args.toList).append hvs
    have ho' : ops[i]? = some o := by simpa [opAt] using ho
    have hw' := wantOf_spec (ops := ops) st.den o
    rw [hwant] at hw'
    have hrun : (execOp a.eval o).run P w = .ok (.enter g2 (kk.args.map a.eval ++ vs)) w := by
      simp only [execOp, hop, resolve, hcal]
      simp [Deferred.ofValue, ef, invoke, callFunc_run hen]
    have hg := stepG_op (P := P) (b := base g) (k := k') (cs := ms ++ cs) (w := w) (rest := rest) ho' hw'
    have henter : step P (lone ((base g).at a (.inRegion ops (i :: rest) :: k')) (ms ++ cs) w) = .next (lone (Frame.enter P g2 (kk.args.map a.eval ++ vs) .normal) ((base g).at a (.inRegion ops (i :: rest) :: k') :: (ms ++ cs)) w) :=
      step_lone_go (by rw [hg]; simp [stepG.apply, hrun, Frame.at])
    obtain ⟨h, hR, hb⟩ := hx
    have hcl := hcall H E w _ h hargs st.wok.on st.gl hR fun b o e => ⟨(hb b o e).1, (hb b o e).2.1⟩
    have earr : (kk.args.toList.map a.eval ++ vs.toList).toArray = kk.args.map a.eval ++ vs := by
      apply Array.toList_inj.1; simp
    rw [earr] at hcl
    obtain ⟨en, w', F, ⟨v, H', h', rfl, dv, hR', hat', hH, hwok, hfoot⟩, q1, q2, q3⟩ := hcl ((base g).at a (.inRegion ops (i :: rest) :: k') :: (ms ++ cs))
    have hleave : step P (lone F ((base g).at a (.inRegion ops (i :: rest) :: k') :: (ms ++ cs)) w') = .next (lone ((base g).at (a.put o.dst v) (.inRegion ops rest :: k')) (ms ++ cs) w') := by
      rw [step_leave_returned q3, Frame.finish_at]
      simp [ho']
    have hno : ∀ {i : Nat} {b : Nat}, bk E i = some b → h b = none := fun {i b} hi => by
      cases hx : h b with
      | none => rfl
      | some o => exact ((hb b o hx).2.2.1 i hi).elim
    have hun : ∀ {b : Nat}, H b = none → b < w.heap.size → h b = none → H' b = none := fun {b} h1 h2 h3 => by
      cases hx : H' b with
      | none => rfl
      | some o =>
        rcases hwok.fresh b (by rw [hx]; simp) with q | q | q
        · exact (q h1).elim
        · have q : w.heap.size ≤ b := q; omega
        · exact (q h3).elim
    have hmine : ∀ {b : Nat}, h b ≠ none → K.w0.heap.size ≤ b ∨ K.own b := fun {b} hb' => by
      cases hx : h b with
      | none => exact (hb' hx).elim
      | some o => exact (hb b o hx).2.2.2
    have hhp : HeapOK K H' E w' c.hp := ⟨fun id sb hl => by
      have hent := st.hp.ent id sb hl
      exact hent.kept hH (fun _ _ e => e) (fun b ho => hwok.kept b (hent.lt ho).1 (by have := hno (obk_bk ho); simp [this])) fun b ho => hun (hent.lt ho).2.1 (hent.lt ho).1 (hno (obk_bk ho)), st.hp.dis⟩
    have hW : WOK K H' w' := ⟨hwok.os.trans st.wok.os, hwok.tape.trans st.wok.tape, hwok.output.trans st.wok.output, Nat.le_trans st.wok.size hwok.size, fun b hb1 hn => by
      rw [hwok.kept b (Nat.lt_of_lt_of_le hb1 st.wok.size) fun hq => by rcases hmine hq with q | q; · omega
                                                                        · exact hn q]
      exact st.wok.kept b hb1 hn, hwok.on, fun b o e => hH b o (st.wok.le b o e), fun b hb1 => by
        rcases hwok.fresh b hb1 with q | q | q
        · exact st.wok.fresh b q
        · exact .inr (.inl (Nat.le_trans st.wok.size q))
        · exact .inr (hmine q)⟩
    have st3 : St C K H' E w' { c with tm := putS c.tm o.dst sv } (a.put o.dst v) :=
      ⟨den_put (c := c) (st.den.le hH fun _ _ e => e) _ dv, hhp, hW, st.free, st.gl.le hH, by rw [put_defers]; exact st.defers⟩
    have hx3 : ExtOK R' K H' E w' := by
      refine ⟨h', hR', fun b o e => ⟨(hat' b o e).1, (hat' b o e).2, fun i hi => ?_, ?_⟩⟩
      · simp [E, Env0, bk] at hi
      · rcases hfoot b (by rw [e]; simp) with q | q
        · exact .inl (Nat.le_trans st.wok.size q)
        · exact hmine q
    obtain ⟨a2, w2, v2, s, H2, todo2, fn0, r1, r2, r3⟩ := hgo H' E w' _ _ ms cs fn hfn st3 (.reg p rest _ ops hc hk) (hs.le hH fun _ _ e => e) hx3
    exact ⟨a2, w2, v2, s, H2, todo2, fn0, r1, (Steps.head henter (q1.trans (.one hleave))).trans r2, r3⟩
/-- A pointer to a block is told by its value; whatever else names an id is forgotten. -/
def valAt (i : Nat) (u : Value) (x : SV) : SV := match x with
  | .ptr j 0 => bif j == i then .val u else .any
  | _ => bif noId x then x else .any
theorem valAt_den {E' : Env} {i : Nat} {b : Nat} (he : E i = some (.pointer (some ⟨b, 0, none⟩))) {x : SV} {v : Value} (h : Den H E x v) : Den H E' (valAt i (.pointer (some ⟨b, 0, none⟩)) x) v := by
  unfold valAt
  split
  · rename_i j
    cases hj : (j == i) <;> simp only [cond_true, cond_false]
    · trivial
    · obtain ⟨b', h1, h2⟩ := h
      obtain rfl : j = i := by simpa using hj
      rw [he] at h1
      simp [blkV] at h1
      subst h1
      exact ⟨h2, rfl⟩
  · cases hn : noId x <;> simp only [cond_true, cond_false]
    · trivial
    · exact noId_den hn h
theorem valAt_denL {E' : Env} {i : Nat} {b : Nat} (he : E i = some (.pointer (some ⟨b, 0, none⟩))) : ∀ {l : List SV} {vs : List Value}, DenL H E l vs → DenL H E' (l.map (valAt i (.pointer (some ⟨b, 0, none⟩)))) vs
  | [], [], _ => trivial
  | _ :: _, _ :: _, ⟨h1, h2⟩ => ⟨valAt_den he h1, valAt_denL he h2⟩
  | [], _ :: _, h => h.elim
  | _ :: _, [], h => h.elim
def valAtS (i : Nat) (u : Value) : List Fr → List Fr
  | [] => []
  | f :: s => { f with tm := f.tm.map (valAt i u) } :: valAtS i u s
theorem valAtS_ok {E' : Env} {i : Nat} {b : Nat} (he : E i = some (.pointer (some ⟨b, 0, none⟩))) : ∀ {s : List Fr} {ms : List Frame}, StkOK C H E s ms → StkOK C H E' (valAtS i (.pointer (some ⟨b, 0, none⟩)) s) ms
  | [], [], _ => trivial
  | f :: s, m :: ms, ⟨⟨fn, a, items, h1, h2, h3⟩, h4⟩ => ⟨⟨fn, a, items, h1, valAt_denL he h2, h3⟩, valAtS_ok he h4⟩
  | [], _ :: _, h => h.elim
  | _ :: _, [], h => h.elim
theorem botG_valAt {i : Nat} {u : Value} : ∀ {s : List Fr} {g : Nat}, botG g (valAtS i u s) = botG g s
  | [], _ => rfl
  | f :: s, _ => by simp only [valAtS, botG]; exact botG_valAt
/-- The memory that ids own. -/
def hideHp (E : Env) (w : World) (hp : List (Nat × SB)) : Hp → Prop := fun h => (∀ b o, h b = some o → w.heap[b]? = some o) ∧ ∀ b, (∃ id sb, look? hp id = some sb ∧ obk E id sb = some b) ↔ h b ≠ none
theorem hide_some {K : Kx} {hp : List (Nat × SB)} (hh : HeapOK K H E w hp) : ∃ h, hideHp E w hp h := by
  classical
  refine ⟨fun b => if ∃ id sb, look? hp id = some sb ∧ obk E id sb = some b then w.heap[b]? else none, fun b o e => ?_, fun b => ⟨fun hq => ?_, fun hq => ?_⟩⟩
  · dsimp only at e
    split at e
    · exact e
    · cases e
  · have := hq
    obtain ⟨id, sb, h1, h2⟩ := hq
    have hlt := ((hh.ent _ _ h1).lt h2).1
    simp only [if_pos this]
    rw [Array.getElem?_eq_getElem hlt]
    simp
  · dsimp only at hq
    split at hq
    · assumption
    · simp at hq
/-- All that ids own is hidden; one pointer into it is told by its value. -/
theorem goesS_hide {K : Kx} {g i0 : Nat} {td : List It} {c : Core} {stk : List Fr} {R : Hp → Prop} {R' : Nat → Hp → Prop} {φ : Sh → Prop} (q : Nat → Bool)
    (hR : ∀ H E w h, H.on w → HeapOK K H E w (dropKey q c.hp) → hideHp E w (dropKey q c.hp) h → ∃ b, E i0 = some (.pointer (some ⟨b, 0, none⟩)) ∧ R' b h)
    (hgo : ∀ b, GoesS P C K g td { tm := c.tm.map (valAt i0 (.pointer (some ⟨b, 0, none⟩))), hp := [], nx := 0, lim := c.lim, tc := [] } (valAtS i0 (.pointer (some ⟨b, 0, none⟩)) stk) (R' b) φ) : GoesS P C K g td c stk R φ := by
  intro H E w a items ms cs fn' hfn' st hi hs hx
  have hd := heapOK_drop q st.hp
  obtain ⟨h, hh⟩ := hide_some hd
  obtain ⟨b, he, hR'⟩ := hR H E w h st.wok.on hd hh
  have := hgo b H Env0 w a items ms cs fn' hfn' ⟨valAt_denL he st.den, heap_nil, st.wok, fun _ _ _ => rfl, st.gl, st.defers⟩ hi (valAtS_ok he hs) ⟨h, hR', fun b' o e => by
    obtain ⟨id, sb, h1, h2⟩ := (hh.2 b').2 (by rw [e]; simp)
    have := ((hd.ent _ _ h1).lt h2).2
    exact ⟨hh.1 b' o e, this.1, fun i hi => by simp [Env0, bk] at hi, this.2⟩⟩
  rw [botG_valAt] at this
  exact this
theorem den_set {x y : SV} : ∀ {l : List SV} {vs : List Value} {i : Nat}, l[i]? = some x → (∀ v, Den H E x v → Den H E y v) → DenL H E l vs → DenL H E (l.set i y) vs
  | [], _, _, h, _, _ => by simp at h
  | _ :: _, [], _, _, _, h => h.elim
  | _ :: _, _ :: _, 0, h, hf, ⟨h1, h2⟩ => by
    simp at h
    subst h
    exact ⟨hf _ h1, h2⟩
  | _ :: _, _ :: _, i + 1, h, hf, ⟨h1, h2⟩ => ⟨h1, den_set (by simpa using h) hf h2⟩
/-- Memory with a part more. -/
def Mem.with (H : Mem) (h : Hp) : Mem := fun b => match h b with | some o => some o | none => H b
/-- Hidden memory will not change any more. -/
theorem goesS_show {K : Kx} {g : Nat} {td : List It} {c : Core} {stk : List Fr} {R : Hp → Prop} {φ : Sh → Prop} {u : Value} {X : Type} {y : X → SV} (hR : ∀ H E h w, R h → H.on w → h.at H w → ∃ x, Den (H.with h) E (y x) u)
    {i : Nat} (hi : c.tm[i]? = some (.val u)) (hgo : ∀ x, GoesS P C K g td { c with tm := c.tm.set i (y x) } stk emp φ) : GoesS P C K g td c stk R φ := by
  intro H E w a items ms cs fn' hfn' st hit hs ⟨h, hR', hb⟩
  have hat : h.at H w := fun b o e => ⟨(hb b o e).1, (hb b o e).2.1⟩
  have hle : H.le (H.with h) := fun b o e => by
    unfold Mem.with
    cases hx : h b with
    | none => exact e
    | some o' => rw [(hat b o' hx).2] at e; cases e
  have hw : WOK K (H.with h) w := ⟨st.wok.os, st.wok.tape, st.wok.output, st.wok.size, st.wok.kept, fun b o e => by
    unfold Mem.with at e
    cases hx : h b with
    | none => rw [hx] at e; exact st.wok.on b o e
    | some o' => rw [hx] at e; cases e; exact (hat b _ hx).1, fun b o e => hle b o (st.wok.le b o e), fun b hb1 => by
    unfold Mem.with at hb1
    cases hx : h b with
    | none => rw [hx] at hb1; exact st.wok.fresh b hb1
    | some o' => exact .inr (hb b o' hx).2.2.2⟩
  have hhp : HeapOK K (H.with h) E w c.hp := ⟨fun id sb hl => (st.hp.ent id sb hl).kept hle (fun _ _ e => e) (fun _ _ => rfl) fun b ho => by
    unfold Mem.with
    cases hx : h b with
    | none => exact ((st.hp.ent id sb hl).lt ho).2.1
    | some o => exact ((hb b o hx).2.2.1 id (obk_bk ho)).elim, st.hp.dis⟩
  obtain ⟨x, hx⟩ := hR H E h w hR' st.wok.on hat
  exact hgo x _ E w a items ms cs fn' hfn' ⟨den_set hi (fun v hv => by obtain ⟨rfl, _⟩ := hv; exact hx) (st.den.le hle fun _ _ e => e), hhp, hw, st.free, st.gl.le hle, st.defers⟩ hit (hs.le hle fun _ _ e => e) ext_emp
/-- Where a run over several frames ends: the states are told as they are. -/
inductive Fe3 where
  | ret (s : Sh)
  | raw (g : Nat) (td : List It) (c : Core) (stk : List Fr)
def toFe3 : OutS → Tree Fe3
  | .fin v c => match finish c v with
    | some s => .leaf (.ret s)
    | none => .fail
  | .stop g td c stk => .leaf (.raw g td c stk)
def runR (C : Ctx) (hold : Nat → Bool) (m n g : Nat) (td : List It) (c : Core) (stk : List Fr) : Tree Fe3 := (runS C hold m n g td c stk).bind toFe3
def Fe3OK (P : Program) (C : Ctx) (K : Kx) (R : Hp → Prop) (φ : Sh → Prop) : Fe3 → Prop
  | .ret s => φ s
  | .raw g td c stk => GoesS P C K g td c stk R φ
@[irreducible] def MeetsR (ψ : Fe3 → Prop) (t : Tree Fe3) : Prop := t.All ψ
theorem meetsR_eq (ψ : Fe3 → Prop) (t : Tree Fe3) : MeetsR ψ t = t.All ψ := by unfold MeetsR; rfl
theorem goesS_runR (hC : CtxOK P C) (hF : FnsOK P C) {hold : Nat → Bool} {m n g : Nat} {td : List It} {c : Core} {stk : List Fr} {R : Hp → Prop} {φ : Sh → Prop}
    (h : MeetsR (Fe3OK P C (K0 H0 w0) R φ) (runR C hold m n g td c stk)) : GoesS P C (K0 H0 w0) g td c stk R φ := by
  rw [meetsR_eq] at h
  refine goesS_run hC hF (hold := hold) (m := m) (n := n) ((Tree.All_bind h).mono fun o ho => ?_)
  cases o with
  | fin v c =>
    simp only [toFe3] at ho
    split at ho
    · rename_i s hs
      exact ⟨s, hs, ho⟩
    · exact ho.elim
  | stop g td c stk => exact ho
end
end Go.Sx
namespace Go.Pl
open Go Go.Sx
theorem step_deeds {many : Nat} {e : Ev} {r r' : Rc} (h : Rc.step many e r = .inr r') (_hd : r.stand = 2 → r.deeds ≠ []) : (r'.stand = 2 → r'.deeds ≠ []) ∧ r'.deeds.length ≤ r.deeds.length + 1 := by
  unfold Rc.step at h
  have hup : ∀ (f : De → De) (l : List De), (upLast f l).length = l.length := fun f l => by
    induction l with
    | nil => rfl
    | cons x l ih => cases l with
      | nil => rfl
      | cons y l => simpa [upLast] using ih
  by_cases k2 : e.kind = 2
  · simp only [k2, beq_self_eq_true, cond_true] at h
    cases hs : r.stand == 1 <;> simp only [hs, cond_true, cond_false] at h
    · cases h
    · cases h
      exact ⟨fun _ => by simp, by simp⟩
  have b2 : (e.kind == 2) = false := by simpa using k2
  rw [b2] at h
  simp only [cond_false] at h
  by_cases k3 : e.kind = 3
  · simp only [k3, beq_self_eq_true, cond_true] at h
    cases hs : r.stand == 2 <;> simp only [hs, cond_true, cond_false] at h
    · cases h
    · cases hf : fitsB (r.deeds.getLast?.getD Row.dft).op e.ret <;> simp only [hf, cond_true, cond_false] at h
      · cases h
      · cases h
        exact ⟨fun q => by simp at q, by simp [hup]⟩
  have b3 : (e.kind == 3) = false := by simpa using k3
  rw [b3] at h
  simp only [cond_false] at h
  by_cases k4 : e.kind = 4
  · simp only [k4, beq_self_eq_true, cond_true] at h
    cases hs : r.stand == 1 <;> simp only [hs, cond_true, cond_false] at h
    · cases h
    · cases h
      exact ⟨fun q => by simp at q, by simp⟩
  have b4 : (e.kind == 4) = false := by simpa using k4
  rw [b4] at h
  simp only [cond_false] at h
  by_cases k7 : e.kind = 7
  · simp only [k7, beq_self_eq_true, cond_true] at h
    cases hs : r.stand == 1 <;> simp only [hs, cond_true, cond_false] at h
    · cases h
    · cases h
      exact ⟨fun q => by simp at q, by simp⟩
  have b7 : (e.kind == 7) = false := by simpa using k7
  rw [b7] at h
  simp only [cond_false] at h
  by_cases k5 : e.kind = 5
  · simp only [k5, beq_self_eq_true, cond_true] at h
    cases hs : r.stand == 3 <;> simp only [hs, cond_true, cond_false] at h
    · cases h
    · cases h
      exact ⟨fun q => by simp at q, by simp⟩
  have b5 : (e.kind == 5) = false := by simpa using k5
  rw [b5] at h
  simp only [cond_false] at h
  cases hs : (r.stand == 1 || r.stand == 2 || r.stand == 3 || r.stand == 4) <;> simp only [hs, cond_true, cond_false] at h
  · cases h
  · cases h
    exact ⟨fun q => by simp at q, by simp⟩
/-- What holds of an automaton holds behind an event. -/
theorem Au.OK.feed {σ : Au} (hI : σ.OK) {e : Ev} (hv : validB e = true) : (σ.feed e).2.OK := by
  have hkd := valid_kind hv
  unfold Au.feed
  cases hby : σ.byIx e.tx with
  | some i =>
    obtain ⟨r, hi, hp⟩ := findIdx_at hby
    have hr : σ.rs.getD i ⟨0, 0, 0, 0, 0, 0, [], 0⟩ = r := by rw [List.getD_eq_getElem?_getD, hi]; rfl
    have hlt := (List.getElem?_eq_some_iff.1 hi).1
    by_cases k1 : e.kind = 1
    · simp only [k1, beq_self_eq_true, cond_true]
      exact hI
    have b1 : (e.kind == 1) = false := by simpa using k1
    simp only [b1, cond_false, hr]
    cases h : Rc.step σ.many e r with
    | inl k => exact hI
    | inr r' =>
      show Au.OK ⟨σ.many + 1, σ.rs.set i r'⟩
      obtain ⟨l1, l2, l3⟩ := step_live h (by omega) (hI.stands i r hi)
      obtain ⟨d1, d2⟩ := step_deeds h (hI.deed i r hi)
      have hk := (step_keep h).2
      have at_ : ∀ {j : Nat} {s : Rc}, (σ.rs.set i r')[j]? = some s → (j = i ∧ s = r') ∨ (j ≠ i ∧ σ.rs[j]? = some s) := fun {j s} hj => by
        rw [List.getElem?_set] at hj
        by_cases q : i = j
        · subst q
          rw [if_pos rfl, if_pos hlt] at hj
          cases hj
          exact .inl ⟨rfl, rfl⟩
        · rw [if_neg q] at hj
          exact .inr ⟨fun q' => q q'.symm, hj⟩
      refine ⟨fun a b x y ha hb ht hx hy => ?_, fun a x ha => ?_, fun a x ha => ?_, by simp; have := hI.len; omega, fun a x ha => ?_⟩
      · rcases at_ ha with ⟨rfl, rfl⟩ | ⟨n1, ha'⟩
        · rcases at_ hb with ⟨rfl, rfl⟩ | ⟨n2, hb'⟩
          · rfl
          · exact hI.one _ _ r y hi hb' (by rw [← hk]; exact ht) l1 hy
        · rcases at_ hb with ⟨rfl, rfl⟩ | ⟨n2, hb'⟩
          · exact hI.one _ _ x r ha' hi (by rw [← hk]; exact ht) hx l1
          · exact hI.one _ _ x y ha' hb' ht hx hy
      · rcases at_ ha with ⟨rfl, rfl⟩ | ⟨n1, ha'⟩
        · exact d1
        · exact hI.deed _ _ ha'
      · rcases at_ ha with ⟨rfl, rfl⟩ | ⟨n1, ha'⟩
        · exact l2
        · exact hI.stands _ _ ha'
      · rcases at_ ha with ⟨rfl, rfl⟩ | ⟨n1, ha'⟩
        · have := hI.dl _ _ hi
          show _ ≤ σ.many + 1
          omega
        · have := hI.dl _ _ ha'
          show _ ≤ σ.many + 1
          omega
  | none =>
    by_cases k1 : e.kind = 1
    · simp only [k1, beq_self_eq_true, cond_true]
      cases hbu : σ.buIx e.thread with
      | some j => exact hI
      | none =>
        show Au.OK ⟨σ.many + 1, σ.rs ++ [⟨e.tx, e.thread, 1, σ.many, -1, -1, [], 1⟩]⟩
        have hno : ∀ (j : Nat) (s : Rc), σ.rs[j]? = some s → s.th = e.thread → s.live = true → False := fun j s hj ht hl => by
          have := List.findIdx?_eq_none_iff.1 hbu s (List.mem_of_getElem? hj)
          simp [ht, hl] at this
        have at_ : ∀ {j : Nat} {s x : Rc}, (σ.rs ++ [x])[j]? = some s → (j = σ.rs.length ∧ s = x) ∨ (j < σ.rs.length ∧ σ.rs[j]? = some s) := fun {j s x} hj => by
          by_cases q : j < σ.rs.length
          · rw [List.getElem?_append_left q] at hj
            exact .inr ⟨q, hj⟩
          · rw [List.getElem?_append_right (by omega)] at hj
            have : j = σ.rs.length := by
              cases hz : j - σ.rs.length with
              | zero => omega
              | succ z => rw [hz] at hj; simp at hj
            subst this
            simp at hj
            exact .inl ⟨rfl, hj.symm⟩
        refine ⟨fun a b x y ha hb ht hx hy => ?_, fun a x ha => ?_, fun a x ha => ?_, by simp; have := hI.len; omega, fun a x ha => ?_⟩
        · rcases at_ ha with ⟨rfl, rfl⟩ | ⟨n1, ha'⟩
          · rcases at_ hb with ⟨rfl, rfl⟩ | ⟨n2, hb'⟩
            · rfl
            · exact (hno _ _ hb' ht.symm hy).elim
          · rcases at_ hb with ⟨rfl, rfl⟩ | ⟨n2, hb'⟩
            · exact (hno _ _ ha' ht hx).elim
            · exact hI.one _ _ x y ha' hb' ht hx hy
        · rcases at_ ha with ⟨rfl, rfl⟩ | ⟨n1, ha'⟩
          · intro q; simp at q
          · exact hI.deed _ _ ha'
        · rcases at_ ha with ⟨rfl, rfl⟩ | ⟨n1, ha'⟩
          · show 1 ≤ (1 : Int) ∧ (1 : Int) ≤ 5
            omega
          · exact hI.stands _ _ ha'
        · rcases at_ ha with ⟨rfl, rfl⟩ | ⟨n1, ha'⟩
          · simp
          · have := hI.dl _ _ ha'
            show _ ≤ σ.many + 1
            omega
    · have b1 : (e.kind == 1) = false := by simpa using k1
      simp only [b1, cond_false]
      exact hI
/-- An automaton that has taken nothing. -/
def Au.nil : Au := ⟨0, []⟩
theorem Au.OK.nil : Au.nil.OK := ⟨fun i j r s h => by simp [Au.nil] at h, fun i r h => by simp [Au.nil] at h, fun i r h => by simp [Au.nil] at h, Nat.le_refl _, fun i r h => by simp [Au.nil] at h⟩
/-- The count goes by one. -/
theorem feed_many {σ : Au} {e : Ev} (h : (σ.feed e).1 = none) : (σ.feed e).2.many = σ.many + 1 := by
  unfold Au.feed at h ⊢
  cases h1 : σ.byIx e.tx with
  | some i =>
    simp only [h1] at h ⊢
    cases hb : e.kind == 1 <;> simp only [hb, cond_true, cond_false] at h ⊢
    · cases h2 : Rc.step σ.many e (σ.rs.getD i ⟨0, 0, 0, 0, 0, 0, [], 0⟩) with
      | inl k => rw [h2] at h; cases h
      | inr r => rfl
    · cases h
  | none =>
    simp only [h1] at h ⊢
    cases hb : e.kind == 1 <;> simp only [hb, cond_true, cond_false] at h ⊢
    · cases h
    · cases h2 : σ.buIx e.thread with
      | some j => simp only [h2] at h; cases h
      | none => rfl
end Go.Pl
namespace Go.Proofs
open Go Go.Sx Go.Pl
theorem rows_ob {H H' : Mem} {n : Nat} {o : Nat → Oj} {xs : List Value} (h : RepRows H 2 n (fnR o) xs) : RepRows H' 2 n (fnR o) xs :=
  ⟨h.1, h.2.1, h.2.2.1, fun i j s v hi h1 h2 => by
    have := h.2.2.2 i j s v hi h1 h2
    have hs : ∃ k, s = .i .i64 k := by
      match j, h1 with
      | 0, h1 => exact ⟨_, (Option.some.inj h1).symm⟩
      | 1, h1 => exact ⟨_, (Option.some.inj h1).symm⟩
      | j + 2, h1 => simp [fnR, Row.put, obR] at h1
    obtain ⟨k, rfl⟩ := hs
    cases this
    exact .i _ _⟩
/-- An automaton in memory that no id names. -/
def AutoR (n : Nat) (o : Nat → Oj) (σ : Au) (p : Nat) : Hp → Prop := fun h =>
  ∃ L : Lay, L.p = p ∧ (∀ b, h b ≠ none ↔ ownA L σ.rs.length b) ∧ ∀ (H : Mem) (w : World), h.at H w → AutoAt H w n (fnR o) σ L
theorem AutoAt.hide {H : Mem} {w : World} {n : Nat} {o : Nat → Oj} {σ : Au} {L : Lay} (hA : AutoAt H w n (fnR o) σ L) : ∃ h : Hp, AutoR n o σ L.p h ∧ h.at H w ∧ ∀ b, h b ≠ none ↔ ownA L σ.rs.length b := by
  classical
  have hlt : ∀ {b}, ownA L σ.rs.length b → ∃ o, w.heap[b]? = some o := fun {b} ⟨t, ht⟩ => ⟨_, Array.getElem?_eq_getElem (hA.lt ht)⟩
  have hne : ∀ b, (if ownA L σ.rs.length b then w.heap[b]? else none) ≠ none ↔ ownA L σ.rs.length b := fun b => by
    by_cases q : ownA L σ.rs.length b
    · obtain ⟨o, ho⟩ := hlt q
      simp [q, ho]
    · simp [q]
  refine ⟨fun b => if ownA L σ.rs.length b then w.heap[b]? else none, ⟨L, rfl, hne, fun H' w' hat => ?_⟩, fun b o e => ?_, hne⟩
  · have at_ : ∀ t b, L.blk σ.rs.length t = some b → w'.heap[b]? = w.heap[b]? ∧ H' b = none := fun t b hb => by
      obtain ⟨o, ho⟩ := hlt ⟨t, hb⟩
      have := hat b o ((if_pos (⟨t, hb⟩ : ownA L σ.rs.length b)).trans ho)
      exact ⟨this.1.trans ho.symm, this.2⟩
    have h0 : AutoAt (fun _ => none) w n (fnR o) σ L := ⟨hA.au, let ⟨xs, h1, h2⟩ := hA.ob; ⟨xs, h1, rows_ob h2⟩, hA.tx, hA.by_, hA.bu, hA.rc, hA.de, hA.dis, fun _ _ _ => rfl⟩
    exact h0.keep (fun _ _ e => by cases e) (fun t b hb => (at_ t b hb).1) fun t b hb => (at_ t b hb).2
  · by_cases q : ownA L σ.rs.length b
    · simp only [if_pos q] at e
      exact ⟨e, let ⟨t, ht⟩ := q; hA.un t b ht⟩
    · simp only [if_neg q] at e; cases e
/-- Feed under hidden memory. -/
theorem feedR {n : Nat} {o : Nat → Oj} {σ : Au} {p : Nat} {e : Ev} {es : SV} (hes : ∀ H E v, Den H E es v → v = evV e) (hI : σ.OK) (hm : σ.many < 400) (hv : validB e = true) (hob : e.kind = 2 → 0 ≤ e.obj ∧ e.obj < n ∧ opOf e.op = (o e.obj.toNat).kind) :
    CallsR Tryd.prog (gls5 W5) 53 [.val (ptrV p), es] (AutoR n o σ p) (svE (σ.feed e).1) (AutoR n o (σ.feed e).2 p) := by
  intro H E w vs h hd hon hg ⟨L, hp, hblk, hA⟩ hat
  match vs, hd with
  | [v1, v2], ⟨d1, d2, _⟩ =>
    obtain ⟨rfl, _⟩ := d1
    obtain rfl := hes _ _ _ d2
    subst hp
    refine Calls.mono (feed_ok (hA H w hat) hI hon hg hm hv hob) fun en w' ⟨v, H', L', h1, h2, h3, h4, h5, h6, h7⟩ => ?_
    obtain ⟨h', r1, r2, r3⟩ := AutoAt.hide h3
    refine ⟨v, H', h', h1, ?_, by rw [← h4]; exact r1, r2, h6, wok_mono h7 fun b hb => (hblk b).2 hb, fun b hb => ?_⟩
    · cases hx : (σ.feed e).1 with
      | none => rw [hx] at h2; exact h2
      | some k => rw [hx] at h2; exact h2
    · obtain ⟨t, ht⟩ := (r3 b).1 hb
      rcases h5 t b ht with q | q
      · exact .inl q
      · exact .inr ((hblk b).2 q)
end Go.Proofs
namespace Go.Proofs
open Go Go.Sx Go.Pl
section
variable {H : Mem} {E : Env} {w : World} {K : Kx} {n : Nat} {o : Nat → Oj} {h : Hp}
theorem auto_new {b b1 b2 : Nat} {v0 : Value} (au : w.heap[b]? = some (.cells #[v0, .int .i64 0, .slice none 0 0, .map (some b1), .map (some b2)] 87 (0, 0)))
    (ob : ∃ xs, w.ownsRow 0 31 2 v0 n xs ∧ RepRows H 2 n (fnR o) xs) (m1 : ∃ ms clk, w.heap[b1]? = some (.map ms clk) ∧ MapOK .i64 ms.toList clk fun _ => none) (m2 : ∃ ms clk, w.heap[b2]? = some (.map ms clk) ∧ MapOK .i64 ms.toList clk fun _ => none)
    (dis : b ≠ b1 ∧ b ≠ b2 ∧ b1 ≠ b2 ∧ ∀ x, blkV v0 = some x → x ≠ b ∧ x ≠ b1 ∧ x ≠ b2) (un : H b = none ∧ H b1 = none ∧ H b2 = none ∧ ∀ x, blkV v0 = some x → H x = none) :
    AutoAt H w n (fnR o) Au.nil ⟨b, v0, .slice none 0 0, b1, b2, fun _ => 0, fun _ => .slice none 0 0⟩ := by
  obtain ⟨d1, d2, d3, d4⟩ := dis
  refine ⟨au, ob, ⟨rfl, .inl ⟨rfl, rfl⟩⟩, m1, m2, fun i r hi => by simp [Au.nil] at hi, fun i r hi => by simp [Au.nil] at hi, fun s t x hs ht => ?_, fun t x ht => ?_⟩
  · cases s <;> cases t <;> simp [Lay.blk, Au.nil, blkV] at hs ht <;> first | rfl | (exfalso; subst_vars; first | exact d1 rfl | exact d2 rfl | exact d3 rfl | exact d1 ht.symm | exact (d4 _ hs).1 rfl | exact (d4 _ hs).2.1 rfl | exact (d4 _ hs).2.2 rfl | exact (d4 _ ht).1 rfl | exact (d4 _ ht).2.1 rfl | exact (d4 _ ht).2.2 rfl | skip) | skip
    all_goals (first | exact d1 (hs.trans ht.symm) | exact d1 (hs ▸ ht ▸ rfl) | omega)
  · cases t <;> simp [Lay.blk, Au.nil, blkV] at ht <;> first | (subst ht; first | exact un.1 | exact un.2.1 | exact un.2.2.1) | exact un.2.2.2 _ ht
theorem hide_auto {hp : List (Nat × SB)} {σ : Au} {L : Lay} (hh : hideHp E w hp h) (hA : AutoAt H w n (fnR o) σ L) (hb : ∀ x, (∃ id sb, look? hp id = some sb ∧ obk E id sb = some x) ↔ ownA L σ.rs.length x) : AutoR n o σ L.p h := by
  obtain ⟨h0, r1, r2, r3⟩ := AutoAt.hide hA
  have : h0 = h := by
    funext x
    have e1 := r3 x
    have e2 := (hh.2 x).symm.trans (hb x)
    cases q : h x with
    | none =>
      cases q' : h0 x with
      | none => rfl
      | some o' => exact ((e2.2 (e1.1 (by simp [q']))) q).elim
    | some o' =>
      cases q' : h0 x with
      | none => exact ((e1.2 (e2.1 (by simp [q]))) q').elim
      | some o'' =>
        have a1 := hh.1 x _ q
        have a2 := (r2 x _ q').1
        rw [a1] at a2
        exact a2.symm
  rw [← this]
  exact r1
theorem fm_nil {id : Nat} (hh : Ent K H E w id (.fm .i64 (fun _ => none) [] [] none)) : ∃ b ms clk, E id = some (.map (some b)) ∧ w.heap[b]? = some (.map ms clk) ∧ MapOK .i64 ms.toList clk fun _ => none := by
  obtain ⟨b, ms, clk, fv, uv, s1, s2, s3, s4, s5, s6, _, s7⟩ := hh
  obtain rfl := denF_nil s4
  exact ⟨b, ms, clk, s1, s2, s6⟩
theorem new_own {o' : Nat → List Sh} (ho : ∀ i, i < n → o' i = fnR o i) {n' : Nat} (hn : n' = n) {hp : List (Nat × SB)} (hpe : hp = [(3, .own 31 2 n' o'), (4, .fm .i64 (fun _ => none) [] [] none), (5, .fm .i64 (fun _ => none) [] [] none), (6, .box [.gs 3, .int .i64 0, .nils, .mp 4, .mp 5] 87)])
    (hh : HeapOK K H E w hp) (hd : hideHp E w hp h) : ∃ b, E 6 = some (.pointer (some ⟨b, 0, none⟩)) ∧ AutoR n o Au.nil b h := by
  subst hn hpe
  obtain ⟨v, xs, x1, x2, x3, x4⟩ := hh.ent 3 _ rfl
  obtain ⟨b1, ms1, clk1, y1, y2, y3⟩ := fm_nil (hh.ent 4 _ rfl)
  obtain ⟨b2, ms2, clk2, z1, z2, z3⟩ := fm_nil (hh.ent 5 _ rfl)
  obtain ⟨b, ⟨cs⟩, p1, p2, p3, p4⟩ := hh.ent 6 _ rfl
  match cs, p3 with
  | [u0, u1, u2, u3, u4], ⟨d0, d1, d2, d3, d4, _⟩ =>
    have d1 : u1 = .int .i64 0 := d1
    have d2 : u2 = .slice none 0 0 := d2
    obtain ⟨d0, _⟩ : E 3 = some u0 ∧ _ := d0
    obtain ⟨c1, d3, d3'⟩ := d3
    obtain ⟨c2, d4, d4'⟩ := d4
    rw [x1] at d0; cases d0
    rw [y1] at d3; cases d3
    rw [z1] at d4; cases d4
    subst d1 d2 d3' d4'
    have k3 : obk E 3 (.own 31 2 n' o') = blkV v := by simp [obk, x1]
    have k4 : obk E 4 (.fm .i64 (fun _ => none) [] [] none) = some b1 := by simp [obk, y1, blkV]
    have k5 : obk E 5 (.fm .i64 (fun _ => none) [] [] none) = some b2 := by simp [obk, z1, blkV]
    have k6 : obk E 6 (.box [.gs 3, .int .i64 0, .nils, .mp 4, .mp 5] 87) = some b := by simp [obk, p1, blkV]
    have dd : ∀ {i j : Nat} {s t : SB} {x : Nat}, look? [(3, SB.own 31 2 n' o'), (4, .fm .i64 (fun _ => none) [] [] none), (5, .fm .i64 (fun _ => none) [] [] none), (6, .box [.gs 3, .int .i64 0, .nils, .mp 4, .mp 5] 87)] i = some s → look? [(3, SB.own 31 2 n' o'), (4, .fm .i64 (fun _ => none) [] [] none), (5, .fm .i64 (fun _ => none) [] [] none), (6, .box [.gs 3, .int .i64 0, .nils, .mp 4, .mp 5] 87)] j = some t → obk E i s = some x → obk E j t = some x → i = j := fun h1 h2 h3 h4 => hh.dis _ _ _ _ _ h1 h2 h3 h4
    have mi : ∀ {i : Nat} {s : SB} {x : Nat}, look? [(3, SB.own 31 2 n' o'), (4, .fm .i64 (fun _ => none) [] [] none), (5, .fm .i64 (fun _ => none) [] [] none), (6, .box [.gs 3, .int .i64 0, .nils, .mp 4, .mp 5] 87)] i = some s → obk E i s = some x → H x = none := fun h1 h2 => ((hh.ent _ _ h1).lt h2).2.1
    have hA := auto_new (H := H) (n := n') (o := o) p2 ⟨xs, x2, rows_congr x3 ho⟩ ⟨ms1, clk1, y2, y3⟩ ⟨ms2, clk2, z2, z3⟩
      ⟨fun q => (by subst q; cases dd (i := 6) (j := 4) rfl rfl k6 k4), fun q => (by subst q; cases dd (i := 6) (j := 5) rfl rfl k6 k5), fun q => (by subst q; cases dd (i := 4) (j := 5) rfl rfl k4 k5),
        fun x hx => ⟨fun q => (by subst q; cases dd (i := 3) (j := 6) rfl rfl (k3.trans hx) k6), fun q => (by subst q; cases dd (i := 3) (j := 4) rfl rfl (k3.trans hx) k4), fun q => (by subst q; cases dd (i := 3) (j := 5) rfl rfl (k3.trans hx) k5)⟩⟩
      ⟨mi (i := 6) rfl k6, mi (i := 4) rfl k4, mi (i := 5) rfl k5, fun x hx => mi (i := 3) rfl (k3.trans hx)⟩
    refine ⟨b, p1, hide_auto hd hA fun x => ⟨fun ⟨id, sb, h1, h2⟩ => ?_, fun ⟨t, ht⟩ => ?_⟩⟩
    · simp only [look?] at h1
      cases q3 : (3 : Nat) == id <;> simp only [q3, cond_true, cond_false] at h1
      · cases q4 : (4 : Nat) == id <;> simp only [q4, cond_true, cond_false] at h1
        · cases q5 : (5 : Nat) == id <;> simp only [q5, cond_true, cond_false] at h1
          · cases q6 : (6 : Nat) == id <;> simp only [q6, cond_true, cond_false] at h1
            · cases h1
            · cases h1; obtain rfl : 6 = id := by simpa using q6
              rw [k6] at h2; exact ⟨.au, h2⟩
          · cases h1; obtain rfl : 5 = id := by simpa using q5
            rw [k5] at h2; exact ⟨.bu, h2⟩
        · cases h1; obtain rfl : 4 = id := by simpa using q4
          rw [k4] at h2; exact ⟨.by_, h2⟩
      · cases h1; obtain rfl : 3 = id := by simpa using q3
        rw [k3] at h2; exact ⟨.ob, h2⟩
    · cases t with
      | au => exact ⟨6, _, rfl, k6.trans ht⟩
      | tx => cases ht
      | by_ => exact ⟨4, _, rfl, k4.trans ht⟩
      | bu => exact ⟨5, _, rfl, k5.trans ht⟩
      | ob => exact ⟨3, _, rfl, k3.trans ht⟩
      | rc i => simp [Lay.blk, Au.nil] at ht
      | de i => simp [Lay.blk, Au.nil] at ht
theorem new_nil (hn : n = 0) {hp : List (Nat × SB)} (hpe : hp = [(2, .fm .i64 (fun _ => none) [] [] none), (3, .fm .i64 (fun _ => none) [] [] none), (4, .box [.nils, .int .i64 0, .nils, .mp 2, .mp 3] 87)])
    (hh : HeapOK K H E w hp) (hd : hideHp E w hp h) : ∃ b, E 4 = some (.pointer (some ⟨b, 0, none⟩)) ∧ AutoR n o Au.nil b h := by
  subst hn hpe
  obtain ⟨b1, ms1, clk1, y1, y2, y3⟩ := fm_nil (hh.ent 2 _ rfl)
  obtain ⟨b2, ms2, clk2, z1, z2, z3⟩ := fm_nil (hh.ent 3 _ rfl)
  obtain ⟨b, ⟨cs⟩, p1, p2, p3, p4⟩ := hh.ent 4 _ rfl
  match cs, p3 with
  | [u0, u1, u2, u3, u4], ⟨d0, d1, d2, d3, d4, _⟩ =>
    have d1 : u1 = .int .i64 0 := d1
    have d2 : u2 = .slice none 0 0 := d2
    have d0 : u0 = .slice none 0 0 := d0
    obtain ⟨c1, d3, d3'⟩ := d3
    obtain ⟨c2, d4, d4'⟩ := d4
    rw [y1] at d3; cases d3
    rw [z1] at d4; cases d4
    subst d0 d1 d2 d3' d4'
    have k4 : obk E 2 (.fm .i64 (fun _ => none) [] [] none) = some b1 := by simp [obk, y1, blkV]
    have k5 : obk E 3 (.fm .i64 (fun _ => none) [] [] none) = some b2 := by simp [obk, z1, blkV]
    have k6 : obk E 4 (.box [.nils, .int .i64 0, .nils, .mp 2, .mp 3] 87) = some b := by simp [obk, p1, blkV]
    have dd : ∀ {i j : Nat} {s t : SB} {x : Nat}, look? [(2, SB.fm .i64 (fun _ => none) [] [] none), (3, .fm .i64 (fun _ => none) [] [] none), (4, .box [.nils, .int .i64 0, .nils, .mp 2, .mp 3] 87)] i = some s → look? [(2, SB.fm .i64 (fun _ => none) [] [] none), (3, .fm .i64 (fun _ => none) [] [] none), (4, .box [.nils, .int .i64 0, .nils, .mp 2, .mp 3] 87)] j = some t → obk E i s = some x → obk E j t = some x → i = j := fun h1 h2 h3 h4 => hh.dis _ _ _ _ _ h1 h2 h3 h4
    have mi : ∀ {i : Nat} {s : SB} {x : Nat}, look? [(2, SB.fm .i64 (fun _ => none) [] [] none), (3, .fm .i64 (fun _ => none) [] [] none), (4, .box [.nils, .int .i64 0, .nils, .mp 2, .mp 3] 87)] i = some s → obk E i s = some x → H x = none := fun h1 h2 => ((hh.ent _ _ h1).lt h2).2.1
    have hA := auto_new (H := H) (n := 0) (o := o) p2 ⟨[], ⟨rfl, .inl ⟨rfl, rfl⟩⟩, rows_nil 2 _⟩ ⟨ms1, clk1, y2, y3⟩ ⟨ms2, clk2, z2, z3⟩
      ⟨fun q => (by subst q; cases dd (i := 4) (j := 2) rfl rfl k6 k4), fun q => (by subst q; cases dd (i := 4) (j := 3) rfl rfl k6 k5), fun q => (by subst q; cases dd (i := 2) (j := 3) rfl rfl k4 k5), fun x hx => by cases hx⟩
      ⟨mi (i := 4) rfl k6, mi (i := 2) rfl k4, mi (i := 3) rfl k5, fun x hx => by cases hx⟩
    refine ⟨b, p1, hide_auto hd hA fun x => ⟨fun ⟨id, sb, h1, h2⟩ => ?_, fun ⟨t, ht⟩ => ?_⟩⟩
    · simp only [look?] at h1
      cases q4 : (2 : Nat) == id <;> simp only [q4, cond_true, cond_false] at h1
      · cases q5 : (3 : Nat) == id <;> simp only [q5, cond_true, cond_false] at h1
        · cases q6 : (4 : Nat) == id <;> simp only [q6, cond_true, cond_false] at h1
          · cases h1
          · cases h1; obtain rfl : 4 = id := by simpa using q6
            rw [k6] at h2; exact ⟨.au, h2⟩
        · cases h1; obtain rfl : 3 = id := by simpa using q5
          rw [k5] at h2; exact ⟨.bu, h2⟩
      · cases h1; obtain rfl : 2 = id := by simpa using q4
        rw [k4] at h2; exact ⟨.by_, h2⟩
    · cases t with
      | au => exact ⟨4, _, rfl, k6.trans ht⟩
      | tx => cases ht
      | by_ => exact ⟨2, _, rfl, k4.trans ht⟩
      | bu => exact ⟨3, _, rfl, k5.trans ht⟩
      | ob => cases ht
      | rc i => simp [Lay.blk, Au.nil] at ht
      | de i => simp [Lay.blk, Au.nil] at ht
end
end Go.Proofs
namespace Go.Sx
def xIds : List (Nat × SB) → List Nat
  | [] => []
  | (_, .ownx _ _ _ _ more) :: l => idsOfL more ++ xIds l
  | _ :: l => xIds l
def settleB (A : Prim) (hp : List (Nat × SB)) : SB → SB
  | .ownx e st n g more => match toShL hp more with
    | some l => .own e st (A.addN n (more.length / st)) (A.snoc g n (nthL (chunks st (more.length / st) l)))
    | none => .ownx e st n g more
  | sb => sb
def settleL (A : Prim) (hp : List (Nat × SB)) : List (Nat × SB) → List (Nat × SB)
  | [] => []
  | (i, sb) :: l => (i, settleB A hp sb) :: settleL A hp l
def settle (A : Prim) (hp : List (Nat × SB)) : Option (List (Nat × SB)) := (freeze hp (xIds hp)).map fun hp => settleL A hp hp
section
variable {P : Program} {C : Ctx} {K : Kx} {H H' H0 : Mem} {E E' : Env} {w w' w0 : World}
theorem look_settle {A : Prim} {hp : List (Nat × SB)} {i : Nat} : ∀ {l : List (Nat × SB)}, look? (settleL A hp l) i = (look? l i).map (settleB A hp)
  | [] => rfl
  | (j, sb) :: l => by
    simp only [settleL, look?]
    cases h : j == i <;> simp only [cond_true, cond_false, Option.map_some]
    exact look_settle
theorem settleB_ok {hp : List (Nat × SB)} (hh : HeapOK K H E w hp) {i : Nat} {sb : SB} (h : Ent K H E w i sb) : Ent K H E w i (settleB prim hp sb) ∧ obk E i (settleB prim hp sb) = obk E i sb := by
  unfold settleB
  split
  · rename_i e st n g more
    split
    · rename_i l hl
      obtain ⟨v, xs, ys, he, h1, h2, h3, h4, h5, h6⟩ := h
      refine ⟨⟨v, xs ++ ys, he, h1, ?_, h6⟩, by simp [obk]⟩
      have hlen := h3.length
      have hm := Nat.div_add_mod more.length st
      rw [h4, Nat.add_zero, Nat.mul_comm] at hm
      exact rows_snoc h2 (rows_chunks (show ys.length = more.length / st * st by rw [hm]; exact hlen) (toShL_rep hh hl h3) (one_cells h5 h3))
    · exact ⟨h, rfl⟩
  · exact ⟨h, rfl⟩
theorem settle_ok {hp hp' : List (Nat × SB)} (h : settle prim hp = some hp') (hh : HeapOK K H E w hp) (hw : WOK K H w) : ∃ H', H.le H' ∧ HeapOK K H' E w hp' ∧ WOK K H' w := by
  unfold settle at h
  cases hf : freeze hp (xIds hp) with
  | none => rw [hf] at h; cases h
  | some hp1 =>
    rw [hf] at h
    cases h
    obtain ⟨H', h1, h2, h3, _⟩ := freeze_ok hf hh hw
    refine ⟨H', h1, ⟨fun id sb hl => ?_, fun id id' sb sb' b l1 l2 o1 o2 => ?_⟩, h3⟩
    · rw [look_settle] at hl
      cases hx : look? hp1 id with
      | none => rw [hx] at hl; cases hl
      | some s0 =>
        rw [hx] at hl
        cases hl
        exact (settleB_ok h2 (h2.ent _ _ hx)).1
    · rw [look_settle] at l1 l2
      cases hx : look? hp1 id with
      | none => rw [hx] at l1; cases l1
      | some s0 =>
        cases hy : look? hp1 id' with
        | none => rw [hy] at l2; cases l2
        | some s1 =>
          rw [hx] at l1
          rw [hy] at l2
          cases l1
          cases l2
          rw [(settleB_ok h2 (h2.ent _ _ hx)).2] at o1
          rw [(settleB_ok h2 (h2.ent _ _ hy)).2] at o2
          exact h2.dis _ _ _ _ _ hx hy o1 o2
theorem goesS_settle {g : Nat} {td : List It} {c : Core} {stk : List Fr} {φ : Sh → Prop} {hp' : List (Nat × SB)} (h : settle prim c.hp = some hp') (hgo : GoesS P C K g td { c with hp := hp' } stk emp φ) : GoesS P C K g td c stk emp φ := by
  intro H E w a items ms cs fn hfn st hi hs hx
  obtain ⟨H', h1, h2, h3⟩ := settle_ok h st.hp st.wok
  exact hgo H' E w a items ms cs fn hfn ⟨st.den.le h1 fun _ _ e => e, h2, h3, st.free, st.gl.le h1, st.defers⟩ hi (hs.le h1 fun _ _ e => e) ext_emp
def toFeZ (A : Prim) (ts : List Tgt) : OutS → Tree Fe2
  | .fin v c => match finish c v with
    | some s => .leaf (.ret s)
    | none => .fail
  | .stop g td c stk => match settle A c.hp with
    | some hp => matchT g td { c with hp := hp } stk 0 ts
    | none => .fail
def runZ (C : Ctx) (hold : Nat → Bool) (m n g : Nat) (td : List It) (c : Core) (stk : List Fr) (ts : List Tgt) : Tree Fe2 := (runS C hold m n g td c stk).bind (toFeZ C.A ts)
theorem goesS_runZ (hC : CtxOK P C) (hF : FnsOK P C) {hold : Nat → Bool} {m n g : Nat} {td : List It} {c : Core} {stk : List Fr} {ts : List Tgt} {φ : Sh → Prop}
    (h : (runZ C hold m n g td c stk ts).All (Fe2OK P C (K0 H0 w0) ts emp φ)) : GoesS P C (K0 H0 w0) g td c stk emp φ := by
  refine goesS_run hC hF (hold := hold) (m := m) (n := n) ((Tree.All_bind h).mono fun o ho => ?_)
  cases o with
  | fin v c =>
    simp only [toFeZ] at ho
    split at ho
    · rename_i s hs
      exact ⟨s, hs, ho⟩
    · exact ho.elim
  | stop g td c stk =>
    simp only [toFeZ, hC.A] at ho
    split at ho
    · rename_i hp hs
      exact goesS_settle hs (matchT_ok (k := 0) (fun j => by simp) ho)
    · exact ho.elim
end
end Go.Sx
namespace Go.Proofs
open Go Go.Sx Go.Pl
def specT : Nat → Option (List Sh → Tree Sh)
  | 51 => some F51n
  | _ => none
noncomputable def CT (A : Prim) (W : Wd) : Ctx := { C5 A W specT stopAll with fmaps := fun t => bif Nat.beq t 85 then some (.i64, []) else none }
def hold53 (g : Nat) : Bool := Nat.beq g 53
def td47 : List It := [It.code [0, 1, 0, 1, 1, 1, 1], It.inBlock 0, It.code [1, 1, 1, 1, 1]]
def tb47 : List It := It.code [0, 0, 1, 0, 1, 1, 1, 1] :: td47
def hold2 (g : Nat) : Bool := Nat.beq g 53 || Nat.beq g 48
/-- The automaton has taken the first i events. -/
def LT (m : Nat) (p : Nat → Ev) (b : Nat) (c i : Int) : Core :=
  { tm := [.any, .any, .nilp, .nili, .any, .val (.pointer (some ⟨b, 0, none⟩))] ++ rep [.any] 19 ++ [.sh (.sl 8 m (fnR p)), .sym .i64 c, .sym .i64 i] ++ rep [.any] 16, hp := [], nx := 0, lim := L0, tc := [] }
def fr32 : List Fr := [{ g := 32, td := [It.reg [0, 1] [1, 2, 3, 4, 5, 6], It.code [1, 1]], tm := [.any, .any, .nils, .nili] ++ rep [.any] 12 }]
def fr34 : List Fr := [{ g := 34, td := [It.reg [0, 1] [1, 2, 3, 4, 5, 6], It.code [1, 1]], tm := [.any, .any, .nili] ++ rep [.any] 8 }]
def tdP : List It := [It.reg [0, 1, 0, 0, 1, 1, 0, 0, 1, 0, 1, 1, 1, 1] [2, 3], It.code [1, 1, 0, 0, 1, 1, 0, 0, 1, 0, 1, 1, 1, 1], It.inBlock 1, It.code [1, 1, 1, 0, 0, 1, 0, 1, 1, 1, 1]] ++ td47
def tdQ : List It := [It.reg [0, 1, 0, 0, 1, 1, 0, 0, 1, 0, 1, 1, 1, 1] [3], It.code [1, 1, 0, 0, 1, 1, 0, 0, 1, 0, 1, 1, 1, 1], It.inBlock 1, It.code [1, 1, 1, 0, 0, 1, 0, 1, 1, 1, 1]] ++ td47
/-- An event is about to be fed; x is what came of it. -/
def LP (m : Nat) (p : Nat → Ev) (b : Nat) (c i : Int) (e : Ev) (x : SV) : Core :=
  { tm := [.any, .any, .nilp, .nili, .any, .val (.pointer (some ⟨b, 0, none⟩)), .any, .sym .i64 i] ++ rep [.any] 17 ++ [.sh (.sl 8 m (fnR p)), .sym .i64 c, .sym .i64 i] ++ rep [.any] 4 ++
      [.val (.pointer (some ⟨b, 0, none⟩)), .agg [.sym .i64 e.kind, .sym .i64 e.tx, .sym .i64 e.thread, .sym .i64 e.obj, .sym .i64 e.op, .sym .i64 e.key, .sym .i64 e.val, .sym .i64 e.ret], x] ++ rep [.any] 9, hp := [], nx := 0, lim := L0, tc := [] }
def td48 : List It := [It.reg [0, 1, 1, 1] [1, 2, 3], It.code [1, 1, 1, 1]]
/-- The automaton x is about to be asked for its transactions. -/
def LX (x : SV) : Core := { tm := [.any, .any, .nils, .nili] ++ rep [.any] 10 ++ [x, .any], hp := [], nx := 0, lim := L0, tc := [] }
def rcR (N : Rc → Nat) (D : Rc → Nat → List Sh) (r : Rc) : List Sh := [.i .i64 r.id, .i .i64 r.th, .i .i64 r.st, .i .i64 r.bg, .i .i64 r.en, .i .i64 r.tr, .sl 8 (N r) (D r), .i .i64 r.stand]
def gRc (N : Rc → Nat) (D : Rc → Nat → List Sh) (rs : Nat → Rc) : Nat → List Sh := fun j => [.pt (rcR N D (rs j))]
/-- An automaton, as a shape. -/
def auX (N : Rc → Nat) (D : Rc → Nat → List Sh) (v0 : Value) (many : Int) (k : Nat) (rs : Nat → Rc) (b1 b2 : Nat) : SV := .shp 5 1 (fun _ => [.v v0, .i .i64 many, .sl 1 k (gRc N D rs), .v (.map (some b1)), .v (.map (some b2))]) 0 0
def txR (N : Rc → Nat) (D : Rc → Nat → List Sh) (r : Rc) : List Sh := [.i .i64 r.id, .i .i64 r.th, .i .i64 r.st, .i .i64 r.bg, .i .i64 r.en, .i .i64 r.tr, .sl 8 (N r) (D r)]
def gTx (N : Rc → Nat) (D : Rc → Nat → List Sh) (rs : Nat → Rc) : Nat → List Sh := fun j => txR N D (rs j)
def tdT : List It := [It.code [0, 1, 0, 1, 1], It.inBlock 0, It.code [1, 1, 1]]
def tbT : List It := It.code [0, 0, 1, 0, 1, 1] :: tdT
def LO48 (N : Rc → Nat) (D : Rc → Nat → List Sh) (k : Nat) (rs : Nat → Rc) (c i : Int) (j : Nat) (gg : Nat → List Sh) : Core :=
  { tm := [.any, .any, .any, .gs 0] ++ rep [.any] 12 ++ [.sh (.sl 1 k (gRc N D rs)), .sym .i64 c, .sym .i64 i] ++ rep [.any] 21, hp := [(0, .own 61 7 j gg)], nx := 1, lim := L0, tc := [] }
def frX : List Fr := [{ g := 32, td := td48, tm := [.any, .any, .nils, .nili] ++ rep [.any] 12 }]

theorem a32 (A : Prim) (W : Wd) (n m : Nat) (o : Nat → Oj) (p : Nat → Ev) : runR (CT A W) hold53 300 400 32 [.code []] (start0 16 [.agg [.sl 2 n (fnR o), .sl 8 m (fnR p)]] L0) [] = Tree.need (okB Oj n (fnR o)) (Tree.need (okB Ev m (fnR p)) (Tree.need (retsB m (fnR p)) (Tree.node (bigB n m) (Tree.leaf (Fe3.ret (Sh.tup [Sh.sl 0 0 fun (x : Nat) => [], Sh.er 2 125]))) (Tree.node (goodB n m (fnR o) (fnR p)) (Tree.need (okB Oj n (fnR o)) (Tree.need (okB Ev 0 fun (x : Nat) => []) (Tree.need (retsB 0 fun (x : Nat) => []) (Tree.node (bigB n 0) (Tree.leaf (Fe3.ret (Sh.tup [Sh.sl 0 0 fun (x : Nat) => [], Sh.er 2 125]))) (Tree.node (goodB n 0 (fnR o) fun (x : Nat) => []) (Tree.node (A.leN n 0) ((Tree.leaf (Fe3.raw 47 [It.code [0, 1, 0, 1, 1, 1, 1], It.inBlock 0, It.code [1, 1, 1, 1, 1]] { tm := [SV.agg [SV.sh (Sh.sl 2 n (fnR o)), SV.sh (Sh.sl 8 m (fnR p))], SV.ptr 1 0, SV.nilp, SV.nili, SV.nili, SV.ptr 4 0, SV.nili, SV.any, SV.any, SV.any, SV.any, SV.any, SV.any, SV.bool false, SV.any, SV.any, SV.any, SV.any, SV.any, SV.any, SV.any, SV.any, SV.bool false, SV.any, SV.any, SV.sh (Sh.sl 8 m (fnR p)), SV.sym IntKind.i64 (A.ofN m), SV.int IntKind.i64 (Int.ofNat 0), SV.any, SV.any, SV.any, SV.any, SV.any, SV.any, SV.any, SV.any, SV.any, SV.any, SV.any, SV.any, SV.any, SV.any, SV.any, SV.any], hp := [(0, SB.box [SV.sh (Sh.sl 2 n (fnR o)), SV.sh (Sh.sl 8 m (fnR p))] 25), (1, SB.box [SV.sh (Sh.sl 2 n (fnR o)), SV.sh (Sh.sl 8 m (fnR p))] 25), (2, SB.fm IntKind.i64 (fun (x : Int) => none) [] [] none), (3, SB.fm IntKind.i64 (fun (x : Int) => none) [] [] none), (4, SB.box [SV.nils, SV.int IntKind.i64 (Int.ofNat 0), SV.nils, SV.mp 2, SV.mp 3] 87)], nx := 5, lim := 1000000000000000000000000000000, tc := [] } [{ g := 32, td := [It.reg [0, 1] [1, 2, 3, 4, 5, 6], It.code [1, 1]], tm := [SV.agg [SV.sh (Sh.sl 2 n (fnR o)), SV.sh (Sh.sl 8 m (fnR p))], SV.ptr 0 0, SV.nils, SV.nili, SV.any, SV.any, SV.any, SV.agg [SV.sh (Sh.sl 2 n (fnR o)), SV.sh (Sh.sl 8 m (fnR p))], SV.any, SV.any, SV.any, SV.any, SV.any, SV.any, SV.any, SV.any] }])).both (Tree.need (A.room (A.addN 0 n) 16) (Tree.leaf (Fe3.raw 47 [It.code [0, 1, 0, 1, 1, 1, 1], It.inBlock 0, It.code [1, 1, 1, 1, 1]] { tm := [SV.agg [SV.sh (Sh.sl 2 n (fnR o)), SV.sh (Sh.sl 8 m (fnR p))], SV.ptr 1 0, SV.nilp, SV.nili, SV.nili, SV.ptr 6 0, SV.nili, SV.any, SV.any, SV.any, SV.any, SV.any, SV.any, SV.bool false, SV.any, SV.any, SV.any, SV.any, SV.any, SV.any, SV.any, SV.any, SV.bool false, SV.any, SV.any, SV.sh (Sh.sl 8 m (fnR p)), SV.sym IntKind.i64 (A.ofN m), SV.int IntKind.i64 (Int.ofNat 0), SV.any, SV.any, SV.any, SV.any, SV.any, SV.any, SV.any, SV.any, SV.any, SV.any, SV.any, SV.any, SV.any, SV.any, SV.any, SV.any], hp := [(0, SB.box [SV.sh (Sh.sl 2 n (fnR o)), SV.sh (Sh.sl 8 m (fnR p))] 25), (1, SB.box [SV.sh (Sh.sl 2 n (fnR o)), SV.sh (Sh.sl 8 m (fnR p))] 25), (3, SB.own 31 2 (A.addN 0 n) (A.snoc (nthL []) 0 (fnR o))), (4, SB.fm IntKind.i64 (fun (x : Int) => none) [] [] none), (5, SB.fm IntKind.i64 (fun (x : Int) => none) [] [] none), (6, SB.box [SV.gs 3, SV.int IntKind.i64 (Int.ofNat 0), SV.nils, SV.mp 4, SV.mp 5] 87)], nx := 7, lim := 1000000000000000000000000000000, tc := [2] } [{ g := 32, td := [It.reg [0, 1] [1, 2, 3, 4, 5, 6], It.code [1, 1]], tm := [SV.agg [SV.sh (Sh.sl 2 n (fnR o)), SV.sh (Sh.sl 8 m (fnR p))], SV.ptr 0 0, SV.nils, SV.nili, SV.any, SV.any, SV.any, SV.agg [SV.sh (Sh.sl 2 n (fnR o)), SV.sh (Sh.sl 8 m (fnR p))], SV.any, SV.any, SV.any, SV.any, SV.any, SV.any, SV.any, SV.any] }])))) (Tree.need (A.room (A.addN 0 n) 16) (Tree.leaf (Fe3.raw 47 [It.code [0, 1, 0, 1, 1, 1, 1], It.inBlock 0, It.code [1, 1, 1, 1, 1]] { tm := [SV.agg [SV.sh (Sh.sl 2 n (fnR o)), SV.sh (Sh.sl 8 m (fnR p))], SV.ptr 1 0, SV.nilp, SV.nili, SV.nili, SV.ptr 6 0, SV.nili, SV.any, SV.any, SV.any, SV.any, SV.any, SV.any, SV.bool false, SV.any, SV.any, SV.any, SV.any, SV.any, SV.any, SV.any, SV.any, SV.bool false, SV.any, SV.any, SV.sh (Sh.sl 8 m (fnR p)), SV.sym IntKind.i64 (A.ofN m), SV.int IntKind.i64 (Int.ofNat 0), SV.any, SV.any, SV.any, SV.any, SV.any, SV.any, SV.any, SV.any, SV.any, SV.any, SV.any, SV.any, SV.any, SV.any, SV.any, SV.any], hp := [(0, SB.box [SV.sh (Sh.sl 2 n (fnR o)), SV.sh (Sh.sl 8 m (fnR p))] 25), (1, SB.box [SV.sh (Sh.sl 2 n (fnR o)), SV.sh (Sh.sl 8 m (fnR p))] 25), (3, SB.own 31 2 (A.addN 0 n) (A.snoc (nthL []) 0 (fnR o))), (4, SB.fm IntKind.i64 (fun (x : Int) => none) [] [] none), (5, SB.fm IntKind.i64 (fun (x : Int) => none) [] [] none), (6, SB.box [SV.gs 3, SV.int IntKind.i64 (Int.ofNat 0), SV.nils, SV.mp 4, SV.mp 5] 87)], nx := 7, lim := 1000000000000000000000000000000, tc := [2] } [{ g := 32, td := [It.reg [0, 1] [1, 2, 3, 4, 5, 6], It.code [1, 1]], tm := [SV.agg [SV.sh (Sh.sl 2 n (fnR o)), SV.sh (Sh.sl 8 m (fnR p))], SV.ptr 0 0, SV.nils, SV.nili, SV.any, SV.any, SV.any, SV.agg [SV.sh (Sh.sl 2 n (fnR o)), SV.sh (Sh.sl 8 m (fnR p))], SV.any, SV.any, SV.any, SV.any, SV.any, SV.any, SV.any, SV.any] }])))) (Tree.leaf (Fe3.ret (Sh.tup [Sh.sl 0 0 fun (x : Nat) => [], Sh.ifc 81 (Sh.pt [Sh.i IntKind.i64 (badPos n 0 (fnR o) fun (x : Nat) => []), Sh.er (badNo n 0 (fnR o) fun (x : Nat) => []) 125])])))))))) (Tree.leaf (Fe3.ret (Sh.tup [Sh.sl 0 0 fun (x : Nat) => [], Sh.ifc 81 (Sh.pt [Sh.i IntKind.i64 (badPos n m (fnR o) (fnR p)), Sh.er (badNo n m (fnR o) (fnR p)) 125])]))))))) := by kernel_rfl
theorem a34 (A : Prim) (W : Wd) (n m : Nat) (o : Nat → Oj) (p : Nat → Ev) : runR (CT A W) hold53 300 400 34 [.code []] (start0 11 [.agg [.sl 2 n (fnR o), .sl 8 m (fnR p)]] L0) [] = Tree.need (okB Oj n (fnR o)) (Tree.need (okB Ev m (fnR p)) (Tree.need (retsB m (fnR p)) (Tree.node (bigB n m) (Tree.leaf (Fe3.ret (Sh.er 2 125))) (Tree.node (goodB n m (fnR o) (fnR p)) (Tree.need (okB Oj n (fnR o)) (Tree.need (okB Ev 0 fun (x : Nat) => []) (Tree.need (retsB 0 fun (x : Nat) => []) (Tree.node (bigB n 0) (Tree.leaf (Fe3.ret (Sh.er 2 125))) (Tree.node (goodB n 0 (fnR o) fun (x : Nat) => []) (Tree.node (A.leN n 0) ((Tree.leaf (Fe3.raw 47 [It.code [0, 1, 0, 1, 1, 1, 1], It.inBlock 0, It.code [1, 1, 1, 1, 1]] { tm := [SV.agg [SV.sh (Sh.sl 2 n (fnR o)), SV.sh (Sh.sl 8 m (fnR p))], SV.ptr 1 0, SV.nilp, SV.nili, SV.nili, SV.ptr 4 0, SV.nili, SV.any, SV.any, SV.any, SV.any, SV.any, SV.any, SV.bool false, SV.any, SV.any, SV.any, SV.any, SV.any, SV.any, SV.any, SV.any, SV.bool false, SV.any, SV.any, SV.sh (Sh.sl 8 m (fnR p)), SV.sym IntKind.i64 (A.ofN m), SV.int IntKind.i64 (Int.ofNat 0), SV.any, SV.any, SV.any, SV.any, SV.any, SV.any, SV.any, SV.any, SV.any, SV.any, SV.any, SV.any, SV.any, SV.any, SV.any, SV.any], hp := [(0, SB.box [SV.sh (Sh.sl 2 n (fnR o)), SV.sh (Sh.sl 8 m (fnR p))] 25), (1, SB.box [SV.sh (Sh.sl 2 n (fnR o)), SV.sh (Sh.sl 8 m (fnR p))] 25), (2, SB.fm IntKind.i64 (fun (x : Int) => none) [] [] none), (3, SB.fm IntKind.i64 (fun (x : Int) => none) [] [] none), (4, SB.box [SV.nils, SV.int IntKind.i64 (Int.ofNat 0), SV.nils, SV.mp 2, SV.mp 3] 87)], nx := 5, lim := 1000000000000000000000000000000, tc := [] } [{ g := 34, td := [It.reg [0, 1] [1, 2, 3, 4, 5, 6], It.code [1, 1]], tm := [SV.agg [SV.sh (Sh.sl 2 n (fnR o)), SV.sh (Sh.sl 8 m (fnR p))], SV.ptr 0 0, SV.nili, SV.any, SV.any, SV.any, SV.agg [SV.sh (Sh.sl 2 n (fnR o)), SV.sh (Sh.sl 8 m (fnR p))], SV.any, SV.any, SV.any, SV.any] }])).both (Tree.need (A.room (A.addN 0 n) 16) (Tree.leaf (Fe3.raw 47 [It.code [0, 1, 0, 1, 1, 1, 1], It.inBlock 0, It.code [1, 1, 1, 1, 1]] { tm := [SV.agg [SV.sh (Sh.sl 2 n (fnR o)), SV.sh (Sh.sl 8 m (fnR p))], SV.ptr 1 0, SV.nilp, SV.nili, SV.nili, SV.ptr 6 0, SV.nili, SV.any, SV.any, SV.any, SV.any, SV.any, SV.any, SV.bool false, SV.any, SV.any, SV.any, SV.any, SV.any, SV.any, SV.any, SV.any, SV.bool false, SV.any, SV.any, SV.sh (Sh.sl 8 m (fnR p)), SV.sym IntKind.i64 (A.ofN m), SV.int IntKind.i64 (Int.ofNat 0), SV.any, SV.any, SV.any, SV.any, SV.any, SV.any, SV.any, SV.any, SV.any, SV.any, SV.any, SV.any, SV.any, SV.any, SV.any, SV.any], hp := [(0, SB.box [SV.sh (Sh.sl 2 n (fnR o)), SV.sh (Sh.sl 8 m (fnR p))] 25), (1, SB.box [SV.sh (Sh.sl 2 n (fnR o)), SV.sh (Sh.sl 8 m (fnR p))] 25), (3, SB.own 31 2 (A.addN 0 n) (A.snoc (nthL []) 0 (fnR o))), (4, SB.fm IntKind.i64 (fun (x : Int) => none) [] [] none), (5, SB.fm IntKind.i64 (fun (x : Int) => none) [] [] none), (6, SB.box [SV.gs 3, SV.int IntKind.i64 (Int.ofNat 0), SV.nils, SV.mp 4, SV.mp 5] 87)], nx := 7, lim := 1000000000000000000000000000000, tc := [2] } [{ g := 34, td := [It.reg [0, 1] [1, 2, 3, 4, 5, 6], It.code [1, 1]], tm := [SV.agg [SV.sh (Sh.sl 2 n (fnR o)), SV.sh (Sh.sl 8 m (fnR p))], SV.ptr 0 0, SV.nili, SV.any, SV.any, SV.any, SV.agg [SV.sh (Sh.sl 2 n (fnR o)), SV.sh (Sh.sl 8 m (fnR p))], SV.any, SV.any, SV.any, SV.any] }])))) (Tree.need (A.room (A.addN 0 n) 16) (Tree.leaf (Fe3.raw 47 [It.code [0, 1, 0, 1, 1, 1, 1], It.inBlock 0, It.code [1, 1, 1, 1, 1]] { tm := [SV.agg [SV.sh (Sh.sl 2 n (fnR o)), SV.sh (Sh.sl 8 m (fnR p))], SV.ptr 1 0, SV.nilp, SV.nili, SV.nili, SV.ptr 6 0, SV.nili, SV.any, SV.any, SV.any, SV.any, SV.any, SV.any, SV.bool false, SV.any, SV.any, SV.any, SV.any, SV.any, SV.any, SV.any, SV.any, SV.bool false, SV.any, SV.any, SV.sh (Sh.sl 8 m (fnR p)), SV.sym IntKind.i64 (A.ofN m), SV.int IntKind.i64 (Int.ofNat 0), SV.any, SV.any, SV.any, SV.any, SV.any, SV.any, SV.any, SV.any, SV.any, SV.any, SV.any, SV.any, SV.any, SV.any, SV.any, SV.any], hp := [(0, SB.box [SV.sh (Sh.sl 2 n (fnR o)), SV.sh (Sh.sl 8 m (fnR p))] 25), (1, SB.box [SV.sh (Sh.sl 2 n (fnR o)), SV.sh (Sh.sl 8 m (fnR p))] 25), (3, SB.own 31 2 (A.addN 0 n) (A.snoc (nthL []) 0 (fnR o))), (4, SB.fm IntKind.i64 (fun (x : Int) => none) [] [] none), (5, SB.fm IntKind.i64 (fun (x : Int) => none) [] [] none), (6, SB.box [SV.gs 3, SV.int IntKind.i64 (Int.ofNat 0), SV.nils, SV.mp 4, SV.mp 5] 87)], nx := 7, lim := 1000000000000000000000000000000, tc := [2] } [{ g := 34, td := [It.reg [0, 1] [1, 2, 3, 4, 5, 6], It.code [1, 1]], tm := [SV.agg [SV.sh (Sh.sl 2 n (fnR o)), SV.sh (Sh.sl 8 m (fnR p))], SV.ptr 0 0, SV.nili, SV.any, SV.any, SV.any, SV.agg [SV.sh (Sh.sl 2 n (fnR o)), SV.sh (Sh.sl 8 m (fnR p))], SV.any, SV.any, SV.any, SV.any] }])))) (Tree.leaf (Fe3.ret (Sh.ifc 81 (Sh.pt [Sh.i IntKind.i64 (badPos n 0 (fnR o) fun (x : Nat) => []), Sh.er (badNo n 0 (fnR o) fun (x : Nat) => []) 125]))))))))) (Tree.leaf (Fe3.ret (Sh.ifc 81 (Sh.pt [Sh.i IntKind.i64 (badPos n m (fnR o) (fnR p)), Sh.er (badNo n m (fnR o) (fnR p)) 125])))))))) := by kernel_rfl
theorem b32 (A : Prim) (W : Wd) (m : Nat) (p : Nat → Ev) (b : Nat) (c i : Int) (k : Nat) : runTo (CT A W) hold2 300 400 47 tb47 (LT m p b c i) fr32 [⟨47, tdP, LP m p b c i (p k) .any, fr32⟩, ⟨32, td48, LX (.val (.pointer (some ⟨b, 0, none⟩))), []⟩] = Tree.node (A.lt i c) (Tree.need (A.inB i m) (Tree.leaf (Fe2.at_ 0 [Eqn.val (Value.pointer (some { block := b, off := 0 })) (Value.pointer (some { block := b, off := 0 })), Eqn.int i i, Eqn.sh (Sh.sl 8 m (fnR p)) (Sh.sl 8 m (fnR p)), Eqn.int c c, Eqn.int i i, Eqn.val (Value.pointer (some { block := b, off := 0 })) (Value.pointer (some { block := b, off := 0 })), Eqn.int (p (A.toN i)).kind (p k).kind, Eqn.int (p (A.toN i)).tx (p k).tx, Eqn.int (p (A.toN i)).thread (p k).thread, Eqn.int (p (A.toN i)).obj (p k).obj, Eqn.int (p (A.toN i)).op (p k).op, Eqn.int (p (A.toN i)).key (p k).key, Eqn.int (p (A.toN i)).val (p k).val, Eqn.int (p (A.toN i)).ret (p k).ret]))) (Tree.leaf (Fe2.at_ 1 [Eqn.val (Value.pointer (some { block := b, off := 0 })) (Value.pointer (some { block := b, off := 0 }))])) := by kernel_rfl
theorem b34 (A : Prim) (W : Wd) (m : Nat) (p : Nat → Ev) (b : Nat) (c i : Int) (k : Nat) : runTo (CT A W) hold2 300 400 47 tb47 (LT m p b c i) fr34 [⟨47, tdP, LP m p b c i (p k) .any, fr34⟩] = Tree.node (A.lt i c) (Tree.need (A.inB i m) (Tree.leaf (Fe2.at_ 0 [Eqn.val (Value.pointer (some { block := b, off := 0 })) (Value.pointer (some { block := b, off := 0 })), Eqn.int i i, Eqn.sh (Sh.sl 8 m (fnR p)) (Sh.sl 8 m (fnR p)), Eqn.int c c, Eqn.int i i, Eqn.val (Value.pointer (some { block := b, off := 0 })) (Value.pointer (some { block := b, off := 0 })), Eqn.int (p (A.toN i)).kind (p k).kind, Eqn.int (p (A.toN i)).tx (p k).tx, Eqn.int (p (A.toN i)).thread (p k).thread, Eqn.int (p (A.toN i)).obj (p k).obj, Eqn.int (p (A.toN i)).op (p k).op, Eqn.int (p (A.toN i)).key (p k).key, Eqn.int (p (A.toN i)).val (p k).val, Eqn.int (p (A.toN i)).ret (p k).ret]))) (Tree.leaf (Fe2.ret (Sh.v Value.nilIface))) := by kernel_rfl
theorem c32 (A : Prim) (W : Wd) (m : Nat) (p : Nat → Ev) (b : Nat) (c i i1 : Int) (e : Ev) : runTo (CT A W) hold2 300 400 47 tdQ (LP m p b c i e .nili) fr32 [⟨47, td47, LT m p b c i1, fr32⟩] = Tree.leaf (Fe2.at_ 0 [Eqn.val (Value.pointer (some { block := b, off := 0 })) (Value.pointer (some { block := b, off := 0 })), Eqn.sh (Sh.sl 8 m (fnR p)) (Sh.sl 8 m (fnR p)), Eqn.int c c, Eqn.int (A.add IntKind.i64 i (Int.ofNat 1)) i1]) := by kernel_rfl
theorem c34 (A : Prim) (W : Wd) (m : Nat) (p : Nat → Ev) (b : Nat) (c i i1 : Int) (e : Ev) : runTo (CT A W) hold2 300 400 47 tdQ (LP m p b c i e .nili) fr34 [⟨47, td47, LT m p b c i1, fr34⟩] = Tree.leaf (Fe2.at_ 0 [Eqn.val (Value.pointer (some { block := b, off := 0 })) (Value.pointer (some { block := b, off := 0 })), Eqn.sh (Sh.sl 8 m (fnR p)) (Sh.sl 8 m (fnR p)), Eqn.int c c, Eqn.int (A.add IntKind.i64 i (Int.ofNat 1)) i1]) := by kernel_rfl
theorem d32 (A : Prim) (W : Wd) (m : Nat) (p : Nat → Ev) (b : Nat) (c i : Int) (e : Ev) (k : Nat) : runTo (CT A W) hold2 300 400 47 tdQ (LP m p b c i e (.sh (.er k 125))) fr32 [] = Tree.leaf (Fe2.ret (Sh.tup [Sh.sl 0 0 fun (x : Nat) => [], Sh.ifc 81 (Sh.pt [Sh.i IntKind.i64 i, Sh.er k 125])])) := by kernel_rfl
theorem d34 (A : Prim) (W : Wd) (m : Nat) (p : Nat → Ev) (b : Nat) (c i : Int) (e : Ev) (k : Nat) : runTo (CT A W) hold2 300 400 47 tdQ (LP m p b c i e (.sh (.er k 125))) fr34 [] = Tree.leaf (Fe2.ret (Sh.ifc 81 (Sh.pt [Sh.i IntKind.i64 i, Sh.er k 125]))) := by kernel_rfl
theorem e32 (A : Prim) (W : Wd) (N : Rc → Nat) (D : Rc → Nat → List Sh) (v0 : Value) (many : Int) (k : Nat) (rs : Nat → Rc) (b1 b2 : Nat) (c i : Int) (j : Nat) (gg : Nat → List Sh) : runTo (CT A W) noHold 300 400 32 td48 (LX (auX N D v0 many k rs b1 b2)) [] [⟨48, tdT, LO48 N D k rs c i j gg, frX⟩] = Tree.need (A.le (Int.ofNat 0) (A.ofN k)) (Tree.need (A.room (A.toN (A.ofN k)) 72) (Tree.leaf (Fe2.at_ 0 [Eqn.sh (Sh.sl 1 k (gRc N D rs)) (Sh.sl 1 k (gRc N D rs)), Eqn.int (A.ofN k) c, Eqn.int (Int.ofNat 0) i, Eqn.nat 0 j, Eqn.get 0 (fun (x : Nat) => []) gg]))) := by kernel_rfl
theorem f32 (A : Prim) (W : Wd) (N : Rc → Nat) (D : Rc → Nat → List Sh) (k : Nat) (rs : Nat → Rc) (c i i1 : Int) (j j1 : Nat) (gg g1 : Nat → List Sh) : runZ (CT A W) noHold 300 400 48 tbT (LO48 N D k rs c i j gg) frX [⟨48, tdT, LO48 N D k rs c i1 j1 g1, frX⟩] = Tree.node (A.lt i c) (Tree.need (A.inB i k) (Tree.need (A.le (Int.ofNat 0) (A.ofN (N (rs (A.toN i))))) (Tree.need (A.room (A.toN (A.ofN (N (rs (A.toN i))))) 64) (Tree.need (A.room (A.addN 0 (N (rs (A.toN i)))) 64) (Tree.need (A.le (Int.ofNat 0) (A.ofN (N (rs (A.toN i))))) (Tree.need (A.room (A.toN (A.ofN (N (rs (A.toN i))))) 64) (Tree.need (A.room (A.addN 0 (N (rs (A.toN i)))) 64) (Tree.must [Eqn.nat 1 1, Eqn.fun_ (fun (x : Nat) => rcR N D (rs (A.toN i))) fun (x : Nat) => rcR N D (rs (A.toN i)), Eqn.nat 0 0, Eqn.sh (Sh.sl 1 k (gRc N D rs)) (Sh.sl 1 k (gRc N D rs)), Eqn.int c c, Eqn.int i i, Eqn.nat j j, Eqn.fun_ gg gg, Eqn.int (rs (A.toN i)).id (rs (A.toN i)).id, Eqn.int (rs (A.toN i)).th (rs (A.toN i)).th, Eqn.int (rs (A.toN i)).st (rs (A.toN i)).st, Eqn.int (rs (A.toN i)).bg (rs (A.toN i)).bg, Eqn.int (rs (A.toN i)).en (rs (A.toN i)).en, Eqn.int (rs (A.toN i)).tr (rs (A.toN i)).tr, Eqn.nat (A.addN 0 (N (rs (A.toN i)))) (A.addN 0 (N (rs (A.toN i)))), Eqn.fun_ (A.snoc (fun (x : Nat) => []) 0 (D (rs (A.toN i)))) (A.snoc (fun (x : Nat) => []) 0 (D (rs (A.toN i))))] (Tree.need (A.le (Int.ofNat 0) (A.ofN (N (rs (A.toN i))))) (Tree.need (A.room (A.toN (A.ofN (N (rs (A.toN i))))) 64) (Tree.need (A.room (A.addN 0 (N (rs (A.toN i)))) 64) (Tree.must [Eqn.nat 1 1, Eqn.fun_ (fun (x : Nat) => rcR N D (rs (A.toN i))) fun (x : Nat) => rcR N D (rs (A.toN i)), Eqn.nat 0 0, Eqn.sh (Sh.sl 1 k (gRc N D rs)) (Sh.sl 1 k (gRc N D rs)), Eqn.int c c, Eqn.int i i, Eqn.nat j j, Eqn.fun_ gg gg, Eqn.int (rs (A.toN i)).id (rs (A.toN i)).id, Eqn.int (rs (A.toN i)).th (rs (A.toN i)).th, Eqn.int (rs (A.toN i)).st (rs (A.toN i)).st, Eqn.int (rs (A.toN i)).bg (rs (A.toN i)).bg, Eqn.int (rs (A.toN i)).en (rs (A.toN i)).en, Eqn.int (rs (A.toN i)).tr (rs (A.toN i)).tr, Eqn.nat (A.addN 0 (N (rs (A.toN i)))) (A.addN 0 (N (rs (A.toN i)))), Eqn.fun_ (A.snoc (fun (x : Nat) => []) 0 (D (rs (A.toN i)))) (A.snoc (fun (x : Nat) => []) 0 (D (rs (A.toN i))))] (Tree.need (A.room (A.addN j 1) 72) (Tree.leaf (Fe2.at_ 0 [Eqn.sh (Sh.sl 1 k (gRc N D rs)) (Sh.sl 1 k (gRc N D rs)), Eqn.int c c, Eqn.int (A.add IntKind.i64 i (Int.ofNat 1)) i1, Eqn.nat (A.addN j 1) j1, Eqn.get (A.addN j 1) (A.snoc gg j (nthL [[Sh.i IntKind.i64 (rs (A.toN i)).id, Sh.i IntKind.i64 (rs (A.toN i)).th, Sh.i IntKind.i64 (rs (A.toN i)).st, Sh.i IntKind.i64 (rs (A.toN i)).bg, Sh.i IntKind.i64 (rs (A.toN i)).en, Sh.i IntKind.i64 (rs (A.toN i)).tr, Sh.sl 8 (A.addN 0 (N (rs (A.toN i)))) (A.snoc (fun (x : Nat) => []) 0 (D (rs (A.toN i))))]])) g1]))))))))))))))) (Tree.leaf (Fe2.ret (Sh.tup [Sh.os 61 7 j gg, Sh.v Value.nilIface]))) := by kernel_rfl
end Go.Proofs
namespace Go.Pl
open Go Go.Sx
def rc0 : Rc := ⟨0, 0, 0, 0, 0, 0, [], 0⟩
def dlen (r : Rc) : Nat := r.deeds.length
def dfn (r : Rc) : Nat → List Sh := fnR (nth r.deeds)
def rsAt (σ : Au) (j : Nat) : Rc := σ.rs.getD j rc0
theorem rsAt_some {σ : Au} {j : Nat} (h : j < σ.rs.length) : σ.rs[j]? = some (rsAt σ j) := by
  simp [rsAt, List.getD_eq_getElem?_getD, List.getElem?_eq_getElem h]
end Go.Pl
namespace Go.Proofs
open Go Go.Sx Go.Pl
theorem one_slice (A : Option Addr) (n c : Nat) : (Value.slice A n c).oneCell' = true := rfl
section
variable {H : Mem} {E : Env} {w : World} {n : Nat} {o : Nat → Oj} {h : Hp} {σ : Au} {b : Nat}
theorem auto_den (hR : AutoR n o σ b h) (hat : h.at H w) : ∃ L : Lay, Den (H.with h) E (auX dlen dfn L.v0 σ.many σ.rs.length (rsAt σ) L.b1 L.b2) (.pointer (some ⟨b, 0, none⟩)) := by
  obtain ⟨L, rfl, hdom, hA⟩ := hR
  have A := hA H w hat
  have at_ : ∀ t x, L.blk σ.rs.length t = some x → (H.with h) x = w.heap[x]? := fun t x hx => by
    cases q : h x with
    | none => exact ((hdom x).2 ⟨t, hx⟩ q).elim
    | some ob => simp only [Mem.with, q]; exact (hat x ob q).1.symm
  have one0 : L.v0.oneCell' = true := by
    obtain ⟨xs, h1, _⟩ := A.ob
    rcases h1.2 with ⟨q, _⟩ | ⟨g, cap, cur, q, _⟩ <;> rw [q] <;> rfl
  have one2 : L.v2.oneCell' = true := by
    rcases A.tx.2 with ⟨q, _⟩ | ⟨g, cap, cur, q, _⟩ <;> rw [q] <;> rfl
  have rec_ : ∀ i, i < σ.rs.length → Rep (H.with h) (.pt (rcR dlen dfn (rsAt σ i))) (ptrV (L.R i)) := fun i hi => by
    have hs := rsAt_some (σ := σ) hi
    have hc := A.rc i _ hs
    have hd := A.de i _ hs
    have hb := at_ (.rc i) (L.R i) (by simp [Lay.blk, hi])
    rw [hc] at hb
    have oneD : (L.D i).oneCell' = true := by
      rcases hd.2 with ⟨q, _⟩ | ⟨g, cap, cur, q, _⟩ <;> rw [q] <;> rfl
    have repD : Rep (H.with h) (.sl 8 (dlen (rsAt σ i)) (dfn (rsAt σ i))) (L.D i) := rep_of_rows hd (rows_deeds _) fun x hx => at_ (.de i) x (by simp [Lay.blk, hi, hx])
    refine .pt _ (L.R i) 0 (fun j => (rcCells (rsAt σ i) (L.D i)).getD j undef) (fun j hj => ?_) (fun j hj => ?_) fun j s hs' => ?_
    · simp only [hcell, hb, Nat.zero_add]
      have : j < (rcCells (rsAt σ i) (L.D i)).size := hj
      simp [Array.getD_eq_getD_getElem?, Array.getElem?_eq_getElem this]
    · have : j < 8 := hj
      match j, this with
      | 0, _ => rfl
      | 1, _ => rfl
      | 2, _ => rfl
      | 3, _ => rfl
      | 4, _ => rfl
      | 5, _ => rfl
      | 6, _ => exact oneD
      | 7, _ => rfl
      | j + 8, hj => omega
    · match j, hs' with
      | 0, hs' => cases hs'; exact .i _ _
      | 1, hs' => cases hs'; exact .i _ _
      | 2, hs' => cases hs'; exact .i _ _
      | 3, hs' => cases hs'; exact .i _ _
      | 4, hs' => cases hs'; exact .i _ _
      | 5, hs' => cases hs'; exact .i _ _
      | 6, hs' => cases hs'; exact repD
      | 7, hs' => cases hs'; exact .i _ _
      | j + 8, hs' => simp [rcR] at hs'
  have repT : Rep (H.with h) (.sl 1 σ.rs.length (gRc dlen dfn (rsAt σ))) L.v2 := by
    refine rep_of_rows A.tx ?_ fun x hx => at_ .tx x hx
    refine ⟨by simp, fun i _ => rfl, fun u hu => ?_, fun i j s v hi h1 h2 => ?_⟩
    · obtain ⟨i, _, rfl⟩ := List.mem_map.1 hu
      rfl
    · match j, h1 with
      | 0, h1 =>
        cases h1
        simp [List.getElem?_map, List.getElem?_range, hi] at h2
        subst h2
        exact rec_ i hi
      | j + 1, h1 => simp [gRc] at h1
  have hb := at_ .au L.p rfl
  rw [A.au] at hb
  refine ⟨L, L.p, 0, fun j => (#[L.v0, .int .i64 σ.many, L.v2, .map (some L.b1), .map (some L.b2)] : Array Value).getD j undef, rfl, by decide, rfl, fun j hj => ⟨?_, ?_⟩, fun j s hs' => ?_⟩
  · simp only [hcell, hb, Nat.zero_add]
    have : j < (#[L.v0, .int .i64 σ.many, L.v2, .map (some L.b1), .map (some L.b2)] : Array Value).size := hj
    simp [Array.getD_eq_getD_getElem?, Array.getElem?_eq_getElem this]
  · match j, hj with
    | 0, _ => exact one0
    | 1, _ => rfl
    | 2, _ => exact one2
    | 3, _ => rfl
    | 4, _ => rfl
    | j + 5, hj => omega
  · match j, hs' with
    | 0, hs' => cases hs'; exact .v _ one0
    | 1, hs' => cases hs'; exact .i _ _
    | 2, hs' => cases hs'; exact repT
    | 3, hs' => cases hs'; exact .v _ rfl
    | 4, hs' => cases hs'; exact .v _ rfl
    | j + 5, hs' => simp at hs'
end
end Go.Proofs
namespace Go.Sx
/-- What the right one says holds of whatever the left one stands for. -/
def pS (x y : SV) : Prop := ∀ (H : Mem) (E : Env) (v : Value), Den H E x v → Den H E y v
def pL : List SV → List SV → Prop
  | [], [] => True
  | x :: l, y :: m => pS x y ∧ pL l m
  | _, _ => False
def pB : SB → SB → Prop
  | .box l e, .box m f => e = f ∧ pL l m
  | a, b => a = b
def pH : List (Nat × SB) → List (Nat × SB) → Prop
  | [], [] => True
  | (i, a) :: l, (j, b) :: m => i = j ∧ pB a b ∧ pH l m
  | _, _ => False
def pStk : List Fr → List Fr → Prop
  | [], [] => True
  | f :: s, f' :: s' => f.g = f'.g ∧ f.td = f'.td ∧ pL f.tm f'.tm ∧ pStk s s'
  | _, _ => False
structure pC (c c' : Core) : Prop where
  tm : pL c.tm c'.tm
  hp : pH c.hp c'.hp
  nx : c.nx = c'.nx
  lim : c.lim = c'.lim
  tc : c.tc = c'.tc
theorem pS.rfl' {x : SV} : pS x x := fun _ _ _ h => h
theorem pS.any {x : SV} : pS x .any := fun _ _ _ _ => trivial
theorem pL.rfl' : ∀ {l : List SV}, pL l l
  | [] => trivial
  | _ :: _ => ⟨pS.rfl', pL.rfl'⟩
theorem pB.rfl' {b : SB} : pB b b := by
  cases b <;> first | exact ⟨rfl, pL.rfl'⟩ | exact rfl
theorem pH.rfl' : ∀ {l : List (Nat × SB)}, pH l l
  | [] => trivial
  | _ :: _ => ⟨rfl, pB.rfl', pH.rfl'⟩
theorem denL_p {H : Mem} {E : Env} : ∀ {l m : List SV} {vs : List Value}, pL l m → DenL H E l vs → DenL H E m vs
  | [], [], [], _, _ => trivial
  | _ :: _, _ :: _, _ :: _, ⟨h1, h2⟩, ⟨d1, d2⟩ => ⟨h1 _ _ _ d1, denL_p h2 d2⟩
  | [], _ :: _, _, h, _ => h.elim
  | _ :: _, [], _, h, _ => h.elim
  | _ :: _, _ :: _, [], _, hd => hd.elim
  | [], [], _ :: _, _, hd => hd.elim
theorem pS.agg {l m : List SV} (h : pL l m) : pS (.agg l) (.agg m) := fun H E v ⟨vs, e, hd⟩ => ⟨vs, e, denL_p h hd⟩
theorem pS.sl {st n : Nat} {g g' : Nat → List Sh} (h : ∀ j, j < n → g j = g' j) : pS (.sh (.sl st n g)) (.sh (.sl st n g')) := fun H E v hd => by
  have hd : Rep H (.sl st n g) v := hd
  show Rep H (.sl st n g') v
  cases hd with
  | sl0 _ _ A cap hc => exact .sl0 _ _ _ _ hc
  | sl _ _ _ b off cap c h1 h2 h3 h4 h5 h6 => exact .sl _ _ _ b off cap c h1 h2 (fun i hi => by rw [← h i hi]; exact h3 i hi) h4 h5 fun i j s hi e => h6 i j s hi (by rw [h i hi]; exact e)
theorem pL.set {x y : SV} (h : pS x y) : ∀ {l m : List SV} (i : Nat), pL l m → pL (l.set i x) (m.set i y)
  | [], [], _, _ => trivial
  | _ :: _, _ :: _, 0, ⟨_, h2⟩ => ⟨h, h2⟩
  | _ :: _, _ :: _, i + 1, ⟨h1, h2⟩ => ⟨h1, pL.set h i h2⟩
  | [], _ :: _, _, h => h.elim
  | _ :: _, [], _, h => h.elim
section
variable {P : Program} {C : Ctx} {K : Kx} {H H' : Mem} {E E' : Env} {w w' : World}
theorem ent_p {id : Nat} {a b : SB} (h : pB a b) (he : Ent K H E w id a) : Ent K H E w id b ∧ obk E id a = obk E id b := by
  cases a with
  | box l e =>
    cases b with
    | box m f =>
      obtain ⟨rfl, h⟩ := h
      obtain ⟨b, cs, h1, h2, h3, h4⟩ := he
      exact ⟨⟨b, cs, h1, h2, denL_p h h3, h4⟩, rfl⟩
    | _ => simp [pB] at h
  | _ =>
    simp only [pB] at h
    subst h
    exact ⟨he, rfl⟩
theorem look_p : ∀ {l m : List (Nat × SB)} {i : Nat} {b : SB}, pH l m → look? m i = some b → ∃ a, look? l i = some a ∧ pB a b
  | [], [], _, _, _, h => by simp [look?] at h
  | (i, a) :: l, (j, b) :: m, k, sb, ⟨h1, h2, h3⟩, h => by
    subst h1
    simp only [look?] at h ⊢
    cases hk : (i == k) <;> simp only [hk, cond_true, cond_false] at h ⊢
    · exact look_p h3 h
    · cases h; exact ⟨_, rfl, h2⟩
  | [], _ :: _, _, _, h, _ => h.elim
  | _ :: _, [], _, _, h, _ => h.elim
theorem St.weakP {c c' : Core} {a : Act} (st : St C K H E w c a) (h : pC c c') : St C K H E w c' a := by
  refine ⟨denL_p h.tm st.den, ⟨fun id sb hl => ?_, fun id id' sb sb' b l1 l2 o1 o2 => ?_⟩, st.wok, fun i h1 h2 => st.free i (by rw [h.nx]; exact h1) (by rw [h.lim]; exact h2), st.gl, st.defers⟩
  · obtain ⟨x, h1, h2⟩ := look_p h.hp hl
    exact (ent_p h2 (st.hp.ent _ _ h1)).1
  · obtain ⟨x, h1, h2⟩ := look_p h.hp l1
    obtain ⟨y, h3, h4⟩ := look_p h.hp l2
    exact st.hp.dis _ _ _ _ _ h1 h3 (by rw [(ent_p h2 (st.hp.ent _ _ h1)).2]; exact o1) (by rw [(ent_p h4 (st.hp.ent _ _ h3)).2]; exact o2)
theorem StkOK.weakP : ∀ {s s' : List Fr} {ms : List Frame}, StkOK C H E s ms → pStk s s' → StkOK C H E s' ms
  | [], [], [], _, _ => trivial
  | f :: s, f' :: s', m :: ms, ⟨⟨fn, a, items, h1, h2, h3, h4, h5⟩, h6⟩, ⟨e1, e2, e3, e4⟩ =>
    ⟨⟨fn, a, items, by rw [← e1]; exact h1, denL_p e3 h2, h3, by rw [← e2]; exact h4, by rw [← e1]; exact h5⟩, StkOK.weakP h6 e4⟩
  | [], [], _ :: _, h, _ => h.elim
  | _ :: _, _, [], h, _ => h.elim
  | [], _ :: _, _, _, h => h.elim
  | _ :: _, [], _ :: _, _, h => h.elim
theorem botG_p {g : Nat} : ∀ {s s' : List Fr} {g : Nat}, pStk s s' → botG g s' = botG g s
  | [], [], _, _ => rfl
  | f :: s, f' :: s', _, ⟨e1, _, _, e4⟩ => by simp only [botG]; rw [e1]; exact botG_p (g := 0) e4
  | [], _ :: _, _, h => h.elim
  | _ :: _, [], _, h => h.elim
theorem goesS_weakP {g : Nat} {td : List It} {c c' : Core} {stk stk' : List Fr} {R : Hp → Prop} {φ : Sh → Prop} (hle : pC c c') (hs : pStk stk stk') (h : GoesS P C K g td c' stk' R φ) : GoesS P C K g td c stk R φ := by
  intro H E w a items ms cs fn hfn st hi hst hx
  have := h H E w a items ms cs fn hfn (st.weakP hle) hi (hst.weakP hs) hx
  rw [botG_p (g := 0) hs] at this
  exact this
end
end Go.Sx
namespace Go.Pl
open Go Go.Sx
theorem rw_put {α : Type} [Row α] (o : Nat → α) : rwAt (fnR o) = o := funext fun i => rowAt_put o i
/-- What events make of an automaton; or where it stops, and why. -/
def takeN (p : Nat → Ev) : Au → Nat → Nat → Au ⊕ (Nat × Nat)
  | σ, _, 0 => .inl σ
  | σ, k, r + 1 => match (σ.feed (p k)).1 with
    | none => takeN p (σ.feed (p k)).2 (k + 1) r
    | some e => .inr (k, e)
def takeM (m : Nat) (p : Nat → Ev) : Au ⊕ (Nat × Nat) := takeN p Au.nil 0 m
def takeB (m : Nat) (p : Nat → Ev) : Bool := match takeM m p with | .inl _ => true | .inr _ => false
def takeS (m : Nat) (p : Nat → Ev) : Au := match takeM m p with | .inl σ => σ | .inr _ => Au.nil
def takeK (m : Nat) (p : Nat → Ev) : Int := match takeM m p with | .inl _ => 0 | .inr (k, _) => k
def takeE (m : Nat) (p : Nat → Ev) : Nat := match takeM m p with | .inl _ => 0 | .inr (_, e) => e
/-- What a history's transactions are, or what is wrong with it. -/
def resT : Au ⊕ (Nat × Nat) → Sh
  | .inl σ => .tup [.os 61 7 σ.rs.length (Go.Proofs.gTx dlen dfn (rsAt σ)), .v .nilIface]
  | .inr (k, e) => .tup [.sl 0 0 fun _ => [], .ifc 81 (.pt [.i .i64 (k : Int), .er e 125])]
def resC : Au ⊕ (Nat × Nat) → Sh
  | .inl _ => .v .nilIface
  | .inr (k, e) => .ifc 81 (.pt [.i .i64 (k : Int), .er e 125])
/-- All is as hist.Valid has it. -/
structure GoodH (n m : Nat) (o : Nat → Oj) (p : Nat → Ev) : Prop where
  small : n ≤ 8 ∧ m ≤ 400
  valid : ∀ k, k < m → validB (p k) = true
  obj : ∀ k, k < m → (p k).kind = 2 → 0 ≤ (p k).obj ∧ (p k).obj < n ∧ opOf (p k).op = (o (p k).obj.toNat).kind
theorem scan_none {f : Nat → Option Nat} : ∀ {r k : Nat}, scanE f k r = none → ∀ j, k ≤ j → j < k + r → f j = none
  | 0, k, _, j, h1, h2 => by omega
  | r + 1, k, h, j, h1, h2 => by
    simp only [scanE] at h
    cases hf : f k with
    | some e => rw [hf] at h; cases h
    | none =>
      rw [hf] at h
      by_cases q : j = k
      · subst q; exact hf
      · exact scan_none h j (by omega) (by omega)
theorem good_of {n m : Nat} {o : Nat → Oj} {p : Nat → Ev} (h1 : bigB n m = false) (h2 : (badE n m o p).isNone = true) (h3 : ∀ k, k < m → in64 (p k).ret = true) : GoodH n m o p := by
  unfold bigB at h1
  have h1 : ¬ (8 < n ∨ 400 < m) := by simpa using h1
  have key : ∀ k, k < m → evErr n o (p k) = none := fun k hk => by
    unfold badE at h2
    cases hs : scanE (fun k => obErr (o k)) 0 n with
    | some x => rw [hs] at h2; cases h2
    | none =>
      rw [hs] at h2
      exact scan_none (Option.isNone_iff_eq_none.1 h2) k (by omega) (by omega)
  have parts : ∀ k, k < m → codeB (p k) = true ∧ fieldsB (p k) = true ∧ ((p k).kind = 2 → (p k).obj < n ∧ opOf (p k).op = (o (p k).obj.toNat).kind) := fun k hk => by
    have h := key k hk
    unfold evErr at h
    cases c1 : codeB (p k) <;> simp only [c1, cond_true, cond_false] at h
    · cases h
    cases c2 : fieldsB (p k) <;> simp only [c2, cond_true, cond_false] at h
    · cases h
    refine ⟨rfl, rfl, fun hk2 => ?_⟩
    simp only [hk2, beq_self_eq_true, cond_true] at h
    cases c3 : decide ((n : Int) ≤ (p k).obj) <;> simp only [c3, cond_true, cond_false] at h
    · have c3 := of_decide_eq_false c3
      cases c4 : (opOf (p k).op == (o (p k).obj.toNat).kind) <;> simp only [c4, cond_true, cond_false] at h
      · cases h
      · exact ⟨by omega, by simpa using c4⟩
    · cases h
  exact ⟨by omega, fun k hk => by
    obtain ⟨a, b, _⟩ := parts k hk
    simp [validB, a, b, h3 k hk], fun k hk hk2 => by
    obtain ⟨a, b, c⟩ := parts k hk
    exact ⟨fields_obj b hk2, c hk2⟩⟩
end Go.Pl
namespace Go.Proofs
open Go Go.Sx Go.Pl
theorem specTs : ∀ g F, specT g = some F → FnOK Tryd.prog (gls5 W5) g F := fun g F h => by
  unfold specT at h
  split at h
  · cases h; exact O51n
  · cases h
theorem CTok : CtxOK Tryd.prog (CT prim W5) := by
  have h := C5.ok specT stopAll
  exact ⟨h.1, h.2, h.3, h.4, h.5, h.6⟩
theorem CTf : FnsOK Tryd.prog (CT prim W5) := by
  have h := C5.fok (stop := stopAll) specTs fun g h => by
    unfold specT at h
    split at h
    all_goals first | (cases h; done) | kernel_rfl
  exact ⟨h.1, h.2⟩
theorem room_ok {n b : Nat} (h : n ≤ 100000) (hb : b ≤ 1000) : prim.room n b = true := by
  rw [prim_room, decide_eq_true_eq]
  have h1 : n * b ≤ 100000 * 1000 := Nat.mul_le_mul h hb
  refine ⟨by omega, ?_⟩
  unfold maxLen; omega
/-- The loop over the transactions. -/
theorem loopT {H0 : Mem} {w0 : World} {N : Nat} {rs : Nat → Rc} {φ : Sh → Prop} (hN : N ≤ 1000) (hD : ∀ k, k < N → dlen (rs k) ≤ 1000) (hφ : φ (.tup [.os 61 7 N (gTx dlen dfn rs), .v .nilIface])) :
    ∀ rm k, k + rm = N → GoesS Tryd.prog (CT prim W5) (K0 H0 w0) 48 tdT (LO48 dlen dfn N rs (N : Int) k k (gTx dlen dfn rs)) frX emp φ
  | rm, k, hk => by
    refine goesS_into (fn := Tryd.f48) (tb := tbT) (by kernel_rfl) (by kernel_rfl) ?_
    refine goesS_runZ CTok CTf (hold := noHold) (m := 300) (n := 400) (ts := [⟨48, tdT, LO48 dlen dfn N rs (N : Int) (k + 1 : Nat) (k + 1) (gTx dlen dfn rs), frX⟩]) ?_
    rw [f32 prim W5 dlen dfn N rs (N : Int) k (k + 1 : Nat) k (k + 1) (gTx dlen dfn rs) (gTx dlen dfn rs)]
    simp only [prim_lt, prim_le, prim_ofN, prim_inB, prim_toN, prim_add, prim_addN, one_eq, Tree.All, Fe2OK, Int.toNat_natCast, Nat.zero_add]
    refine ⟨fun h => ?_, fun h => ?_⟩
    · have hlt : k < N := by simp at h; omega
      have hd := hD k hlt
      have hw : IntKind.i64.wrap ((k : Int) + 1) = ((k + 1 : Nat) : Int) := by rw [wrap_id (by omega) (by omega)]; rfl
      have hle : decide (Int.ofNat 0 ≤ Int.ofNat (dlen (rs k))) = true := by simp
      have hr1 : prim.room (dlen (rs k)) 64 = true := room_ok (by omega) (by omega)
      have hr2 : prim.room (k + 1) 72 = true := room_ok (by omega) (by omega)
      have eqD : prim.snoc (fun _ => []) 0 (dfn (rs k)) = dfn (rs k) := by
        funext i; rw [prim_snoc]; simp
      match rm, hk with
      | 0, hk => omega
      | rm + 1, hk =>
        refine ⟨by simp; omega, hle, hr1, hr1, hle, hr1, hr1, ?_, hle, hr1, hr1, ?_, hr2, ⟨rfl, rfl, hw, rfl, fun i hi => ?_, trivial⟩, _, rfl, loopT hN hD hφ rm (k + 1) (by omega)⟩
        · repeat' (first | exact trivial | refine And.intro rfl ?_)
        · repeat' (first | exact trivial | refine And.intro rfl ?_)
        · rw [prim_snoc, eqD]
          by_cases q : i < k
          · rw [if_pos q]
          · rw [if_neg q]
            have : i = k := by omega
            subst this
            rw [Nat.sub_self]; rfl
    · have : k = N := by simp at h; omega
      subst this
      exact hφ
/-- The automaton tells its transactions. -/
theorem end32 {H0 : Mem} {w0 : World} {n : Nat} {o : Nat → Oj} {σ : Au} {b : Nat} {φ : Sh → Prop} (hI : σ.OK) (hm : σ.many ≤ 400) (hφ : φ (resT (.inl σ))) :
    GoesS Tryd.prog (CT prim W5) (K0 H0 w0) 32 td48 (LX (.val (.pointer (some ⟨b, 0, none⟩)))) [] (AutoR n o σ b) φ := by
  have hlen := hI.len
  refine goesS_show (X := Lay) (u := .pointer (some ⟨b, 0, none⟩)) (y := fun L => auX dlen dfn L.v0 σ.many σ.rs.length (rsAt σ) L.b1 L.b2) (fun H E h w hR _ hat => auto_den hR hat) (i := 14) rfl fun L => ?_
  show GoesS Tryd.prog (CT prim W5) (K0 H0 w0) 32 td48 (LX (auX dlen dfn L.v0 σ.many σ.rs.length (rsAt σ) L.b1 L.b2)) [] emp φ
  refine goesS_runTo CTok CTf (hold := noHold) (m := 300) (n := 400) (ts := [⟨48, tdT, LO48 dlen dfn σ.rs.length (rsAt σ) (σ.rs.length : Int) (0 : Nat) 0 (gTx dlen dfn (rsAt σ)), frX⟩]) ?_
  rw [e32 prim W5 dlen dfn L.v0 σ.many σ.rs.length (rsAt σ) L.b1 L.b2 (σ.rs.length : Int) (0 : Nat) 0 (gTx dlen dfn (rsAt σ))]
  refine ⟨by simp [prim_le, prim_ofN], room_ok (by simp [prim_toN, prim_ofN]; omega) (by omega), ⟨rfl, rfl, rfl, rfl, fun i hi => by omega, trivial⟩, _, rfl, loopT (by omega) (fun k hk => ?_) hφ _ 0 (Nat.zero_add _)⟩
  have := hI.dl k _ (rsAt_some hk)
  show (rsAt σ k).deeds.length ≤ 1000
  omega
theorem ev_den {H : Mem} {E : Env} {e : Ev} {v : Value} (h : Den H E (.agg [.sym .i64 e.kind, .sym .i64 e.tx, .sym .i64 e.thread, .sym .i64 e.obj, .sym .i64 e.op, .sym .i64 e.key, .sym .i64 e.val, .sym .i64 e.ret]) v) : v = evV e := by
  obtain ⟨⟨vs⟩, rfl, hd⟩ := h
  match vs, hd with
  | [a, b, c, d, e, f, g, h], ⟨h1, h2, h3, h4, h5, h6, h7, h8, _⟩ =>
    cases h1; cases h2; cases h3; cases h4; cases h5; cases h6; cases h7; cases h8
    rfl
/-- The loop over the events. -/
theorem loop32 {H0 : Mem} {w0 : World} {n m : Nat} {o : Nat → Oj} {p : Nat → Ev} {b : Nat} {φ : Sh → Prop} (hg : GoodH n m o p) :
    ∀ rm k σ, k + rm = m → σ.OK → σ.many = k → φ (resT (takeN p σ k rm)) → GoesS Tryd.prog (CT prim W5) (K0 H0 w0) 47 td47 (LT m p b (m : Int) k) fr32 (AutoR n o σ b) φ
  | rm, k, σ, hk, hI, hmany, hφ => by
    have hs := hg.small
    refine goesS_into (fn := Tryd.f47) (tb := tb47) (by kernel_rfl) (by kernel_rfl) ?_
    refine goesS_runTo CTok CTf (hold := hold2) (m := 300) (n := 400) (ts := [⟨47, tdP, LP m p b (m : Int) k (p k) .any, fr32⟩, ⟨32, td48, LX (.val (.pointer (some ⟨b, 0, none⟩))), []⟩]) ?_
    rw [b32 prim W5 m p b (m : Int) k k]
    refine ⟨fun h => ?_, fun h => ?_⟩
    · have hlt : k < m := by simp [prim_lt] at h; omega
      match rm, hk, hφ with
      | 0, hk, _ => omega
      | rm + 1, hk, hφ =>
        refine ⟨by simp [prim_inB]; omega, ⟨rfl, rfl, rfl, rfl, rfl, rfl, rfl, rfl, rfl, rfl, rfl, rfl, rfl, rfl, trivial⟩, _, rfl, ?_⟩
        refine goesS_call (fn := Tryd.f47) (g2 := 53) (args := [.val (.pointer (some ⟨b, 0, none⟩)), .agg [.sym .i64 (p k).kind, .sym .i64 (p k).tx, .sym .i64 (p k).thread, .sym .i64 (p k).obj, .sym .i64 (p k).op, .sym .i64 (p k).key, .sym .i64 (p k).val, .sym .i64 (p k).ret]]) (dst := some 34) (td' := tdQ) (by kernel_rfl) (by kernel_rfl) (CTf.en 53 (.inr (by kernel_rfl))) ⟨rfl, by kernel_rfl, by kernel_rfl⟩
          (feedR (fun H E v => ev_den) hI (by omega) (hg.valid k hlt) (hg.obj k hlt)) ?_
        show GoesS Tryd.prog (CT prim W5) (K0 H0 w0) 47 tdQ (LP m p b (m : Int) k (p k) (svE (σ.feed (p k)).1)) fr32 (AutoR n o (σ.feed (p k)).2 b) φ
        cases hx : (σ.feed (p k)).1 with
        | none =>
          refine goesS_runTo CTok CTf (hold := hold2) (m := 300) (n := 400) (ts := [⟨47, td47, LT m p b (m : Int) (k + 1 : Nat), fr32⟩]) ?_
          have e := c32 prim W5 m p b (m : Int) k (k + 1 : Nat) (p k)
          rw [show svE none = SV.nili from rfl, e]
          refine ⟨⟨rfl, rfl, rfl, ?_, trivial⟩, _, rfl, loop32 hg rm (k + 1) _ (by omega) (hI.feed (hg.valid k hlt)) (by rw [feed_many hx, hmany]) (by simpa only [takeN, hx] using hφ)⟩
          show prim.add .i64 (k : Int) (Int.ofNat 1) = ((k + 1 : Nat) : Int)
          rw [prim_add, one_eq, wrap_id (by omega) (by omega)]; rfl
        | some e =>
          refine goesS_runTo CTok CTf (hold := hold2) (m := 300) (n := 400) (ts := []) ?_
          rw [show svE (some e) = SV.sh (.er e 125) from rfl, d32 prim W5 m p b (m : Int) k (p k) e]
          have hφ' : φ (resT (.inr (k, e))) := by simpa only [takeN, hx] using hφ
          exact hφ'
    · have : k = m := by simp [prim_lt] at h; omega
      have : rm = 0 := by omega
      subst this
      exact ⟨⟨rfl, trivial⟩, _, rfl, end32 hI (by omega) hφ⟩
def nilS : Sh := .sl 0 0 fun _ => []
def F32 : List Sh → Tree Sh
  | [.agg [.sl 2 n g, .sl 8 m h]] => .need (okB Oj n g) (.need (okB Ev m h) (.need (retsB m h) (.node (bigB n m) (.leaf (.tup [.sl 0 0 fun _ => [], .er 2 125])) (.node (goodB n m g h)
      (.node (takeB m (rwAt h)) (.leaf (.tup [.os 61 7 (takeS m (rwAt h)).rs.length (gTx dlen dfn (rsAt (takeS m (rwAt h)))), .v .nilIface])) (.leaf (.tup [.sl 0 0 fun _ => [], .ifc 81 (.pt [.i .i64 (takeK m (rwAt h)), .er (takeE m (rwAt h)) 125])])))
      (.leaf (.tup [.sl 0 0 fun _ => [], .ifc 81 (.pt [.i .i64 (badPos n m g h), .er (badNo n m g h) 125])]))))))
  | _ => .fail
theorem O32 : FnOK Tryd.prog (gls5 W5) 32 F32 := by
  refine fnOK_S (C := CT prim W5) CTok (fn := Tryd.f32) (by kernel_rfl) (by kernel_rfl) fun H w shs args φ hrep h => ?_
  have hn : Tryd.f32.ntmps = 16 := by kernel_rfl
  unfold F32 at h
  split at h
  · rename_i n g m h'
    obtain ⟨h1, h2, h3, h4, h5⟩ := h
    match args, hrep with
    | [v], ⟨hv, _⟩ =>
      rw [hn]
      refine ⟨[.agg [.sl 2 n (fnR (rwAt (α := Oj) g)), .sl 8 m (fnR (rwAt (α := Ev) h'))]], ⟨rep_agg_rows2 hv h1 h2, trivial⟩, L0, ?_⟩
      refine goesS_runR CTok CTf (hold := hold53) (m := 300) (n := 400) ?_
      rw [a32 prim W5 n m (rwAt g) (rwAt h'), meetsR_eq]
      have hret : ∀ k, k < m → in64 (rwAt (α := Ev) h' k).ret = true := fun k hk => List.all_eq_true.1 h3 k (List.mem_range.2 hk)
      have hb0 : bigB n m = false → bigB n 0 = false := fun q => by
        unfold bigB at q ⊢
        have q : ¬ (8 < n ∨ 400 < m) := by simpa using q
        exact decide_eq_false (by omega)
      have hgd : goodB n m (fnR (rwAt (α := Oj) g)) (fnR (rwAt (α := Ev) h')) = goodB n m g h' := by
        unfold goodB; rw [rw_put, rw_put]
      refine ⟨okB_put _ _, okB_put _ _, List.all_eq_true.2 fun k hk => ?_, fun q => h4 q, fun q => ⟨fun q2 => ?_, fun q2 => ?_⟩⟩
      · rw [rw_put]; exact hret k (List.mem_range.1 hk)
      · have q3 : goodB n m g h' = true := hgd ▸ q2
        obtain ⟨hT, hF⟩ := (h5 q).1 q3
        have G := good_of q q3 hret
        have hs := G.small
        have fin : ∀ b, GoesS Tryd.prog (CT prim W5) (K0 H w) 47 td47 (LT m (rwAt h') b (m : Int) (0 : Nat)) fr32 (AutoR n (rwAt g) Au.nil b) φ := fun b => by
          refine loop32 G m 0 Au.nil (by omega) Au.OK.nil rfl ?_
          show φ (resT (takeM m (rwAt h')))
          unfold takeB at hT hF
          unfold takeS at hT
          unfold takeK takeE at hF
          cases hx : takeM m (rwAt (α := Ev) h') with
          | inl σ => rw [hx] at hT; exact hT rfl
          | inr x => rw [hx] at hF; exact hF rfl
        have own : ∀ nx tc, GoesS Tryd.prog (CT prim W5) (K0 H w) 47 td47 ⟨[SV.agg [SV.sh (Sh.sl 2 n (fnR (rwAt (α := Oj) g))), SV.sh (Sh.sl 8 m (fnR (rwAt (α := Ev) h')))], SV.ptr 1 0, SV.nilp, SV.nili, SV.nili, SV.ptr 6 0, SV.nili] ++ rep [.any] 6 ++ [.bool false] ++ rep [.any] 8 ++ [.bool false, .any, .any, SV.sh (Sh.sl 8 m (fnR (rwAt (α := Ev) h'))), .sym .i64 (prim.ofN m), .int .i64 (Int.ofNat 0)] ++ rep [.any] 16,
            [(0, SB.box [SV.sh (Sh.sl 2 n (fnR (rwAt (α := Oj) g))), SV.sh (Sh.sl 8 m (fnR (rwAt (α := Ev) h')))] 25), (1, SB.box [SV.sh (Sh.sl 2 n (fnR (rwAt (α := Oj) g))), SV.sh (Sh.sl 8 m (fnR (rwAt (α := Ev) h')))] 25), (3, SB.own 31 2 (prim.addN 0 n) (prim.snoc (nthL []) 0 (fnR (rwAt (α := Oj) g)))), (4, SB.fm .i64 (fun _ => none) [] [] none), (5, SB.fm .i64 (fun _ => none) [] [] none), (6, SB.box [SV.gs 3, SV.int .i64 (Int.ofNat 0), SV.nils, SV.mp 4, SV.mp 5] 87)], nx, L0, tc⟩
            [{ g := 32, td := [It.reg [0, 1] [1, 2, 3, 4, 5, 6], It.code [1, 1]], tm := [SV.agg [SV.sh (Sh.sl 2 n (fnR (rwAt (α := Oj) g))), SV.sh (Sh.sl 8 m (fnR (rwAt (α := Ev) h')))], SV.ptr 0 0, SV.nils, SV.nili, .any, .any, .any, SV.agg [SV.sh (Sh.sl 2 n (fnR (rwAt (α := Oj) g))), SV.sh (Sh.sl 8 m (fnR (rwAt (α := Ev) h')))]] ++ rep [.any] 8 }] emp φ := fun nx tc => by
          refine goesS_hide (R' := AutoR n (rwAt g) Au.nil) (i0 := 6) (fun i => Nat.blt i 3) (fun H E w h hon hh hd => new_own (n := n) (n' := prim.addN 0 n) (o := rwAt g) (o' := prim.snoc (nthL []) 0 (fnR (rwAt (α := Oj) g))) (fun i hi => by rw [prim_snoc]; simp) (Nat.zero_add n) rfl hh hd) fun b => ?_
          refine goesS_weakP (c' := LT m (rwAt h') b (m : Int) (0 : Nat)) (stk' := fr32) ⟨?_, trivial, rfl, rfl, rfl⟩ ⟨rfl, rfl, ?_, trivial⟩ (fin b)
          · repeat' (first | exact trivial | refine And.intro pS.any ?_ | refine And.intro (fun _ _ _ h => h) ?_)
          · repeat' (first | exact trivial | refine And.intro pS.any ?_ | refine And.intro (fun _ _ _ h => h) ?_)
        have nil : n = 0 → ∀ nx tc, GoesS Tryd.prog (CT prim W5) (K0 H w) 47 td47 ⟨[SV.agg [SV.sh (Sh.sl 2 n (fnR (rwAt (α := Oj) g))), SV.sh (Sh.sl 8 m (fnR (rwAt (α := Ev) h')))], SV.ptr 1 0, SV.nilp, SV.nili, SV.nili, SV.ptr 4 0, SV.nili] ++ rep [.any] 6 ++ [.bool false] ++ rep [.any] 8 ++ [.bool false, .any, .any, SV.sh (Sh.sl 8 m (fnR (rwAt (α := Ev) h'))), .sym .i64 (prim.ofN m), .int .i64 (Int.ofNat 0)] ++ rep [.any] 16,
            [(0, SB.box [SV.sh (Sh.sl 2 n (fnR (rwAt (α := Oj) g))), SV.sh (Sh.sl 8 m (fnR (rwAt (α := Ev) h')))] 25), (1, SB.box [SV.sh (Sh.sl 2 n (fnR (rwAt (α := Oj) g))), SV.sh (Sh.sl 8 m (fnR (rwAt (α := Ev) h')))] 25), (2, SB.fm .i64 (fun _ => none) [] [] none), (3, SB.fm .i64 (fun _ => none) [] [] none), (4, SB.box [SV.nils, SV.int .i64 (Int.ofNat 0), SV.nils, SV.mp 2, SV.mp 3] 87)], nx, L0, tc⟩
            [{ g := 32, td := [It.reg [0, 1] [1, 2, 3, 4, 5, 6], It.code [1, 1]], tm := [SV.agg [SV.sh (Sh.sl 2 n (fnR (rwAt (α := Oj) g))), SV.sh (Sh.sl 8 m (fnR (rwAt (α := Ev) h')))], SV.ptr 0 0, SV.nils, SV.nili, .any, .any, .any, SV.agg [SV.sh (Sh.sl 2 n (fnR (rwAt (α := Oj) g))), SV.sh (Sh.sl 8 m (fnR (rwAt (α := Ev) h')))]] ++ rep [.any] 8 }] emp φ := fun hz nx tc => by
          refine goesS_hide (R' := AutoR n (rwAt g) Au.nil) (i0 := 4) (fun i => Nat.blt i 2) (fun H E w h hon hh hd => new_nil (n := n) (o := rwAt g) hz rfl hh hd) fun b => ?_
          refine goesS_weakP (c' := LT m (rwAt h') b (m : Int) (0 : Nat)) (stk' := fr32) ⟨?_, trivial, rfl, rfl, rfl⟩ ⟨rfl, rfl, ?_, trivial⟩ (fin b)
          · repeat' (first | exact trivial | refine And.intro pS.any ?_ | refine And.intro (fun _ _ _ h => h) ?_)
          · repeat' (first | exact trivial | refine And.intro pS.any ?_ | refine And.intro (fun _ _ _ h => h) ?_)
        have hrm : prim.room (prim.addN 0 n) 16 = true := by rw [prim_addN, Nat.zero_add]; exact room_ok (by omega) (by omega)
        refine ⟨okB_put _ _, rfl, rfl, fun q4 => ?_, fun _ => ⟨fun _ => ⟨fun q5 => ⟨nil (by simpa [prim_leN] using q5) _ _, hrm, own _ _⟩, fun _ => ⟨hrm, own _ _⟩⟩, fun q5 => ?_⟩⟩
        · rw [hb0 q] at q4; cases q4
        · exfalso
          unfold goodB badE at q3 q5
          rw [rw_put] at q5
          cases hx : scanE (fun k => obErr (rwAt (α := Oj) g k)) 0 n with
          | some x => rw [hx] at q3; cases q3
          | none => rw [hx] at q5; cases q5
      · have q3 : goodB n m g h' = false := hgd ▸ q2
        have := (h5 q).2 q3
        unfold badPos badNo at this ⊢
        rw [rw_put, rw_put]
        exact this
  · exact h.elim
end Go.Proofs
namespace Go.Proofs
open Go Go.Sx Go.Pl
/-- The loop over the events. -/
theorem loop34 {H0 : Mem} {w0 : World} {n m : Nat} {o : Nat → Oj} {p : Nat → Ev} {b : Nat} {φ : Sh → Prop} (hg : GoodH n m o p) :
    ∀ rm k σ, k + rm = m → σ.OK → σ.many = k → φ (resC (takeN p σ k rm)) → GoesS Tryd.prog (CT prim W5) (K0 H0 w0) 47 td47 (LT m p b (m : Int) k) fr34 (AutoR n o σ b) φ
  | rm, k, σ, hk, hI, hmany, hφ => by
    have hs := hg.small
    refine goesS_into (fn := Tryd.f47) (tb := tb47) (by kernel_rfl) (by kernel_rfl) ?_
    refine goesS_runTo CTok CTf (hold := hold2) (m := 300) (n := 400) (ts := [⟨47, tdP, LP m p b (m : Int) k (p k) .any, fr34⟩]) ?_
    rw [b34 prim W5 m p b (m : Int) k k]
    refine ⟨fun h => ?_, fun h => ?_⟩
    · have hlt : k < m := by simp [prim_lt] at h; omega
      match rm, hk, hφ with
      | 0, hk, _ => omega
      | rm + 1, hk, hφ =>
        refine ⟨by simp [prim_inB]; omega, ⟨rfl, rfl, rfl, rfl, rfl, rfl, rfl, rfl, rfl, rfl, rfl, rfl, rfl, rfl, trivial⟩, _, rfl, ?_⟩
        refine goesS_call (fn := Tryd.f47) (g2 := 53) (args := [.val (.pointer (some ⟨b, 0, none⟩)), .agg [.sym .i64 (p k).kind, .sym .i64 (p k).tx, .sym .i64 (p k).thread, .sym .i64 (p k).obj, .sym .i64 (p k).op, .sym .i64 (p k).key, .sym .i64 (p k).val, .sym .i64 (p k).ret]]) (dst := some 34) (td' := tdQ) (by kernel_rfl) (by kernel_rfl) (CTf.en 53 (.inr (by kernel_rfl))) ⟨rfl, by kernel_rfl, by kernel_rfl⟩
          (feedR (fun H E v => ev_den) hI (by omega) (hg.valid k hlt) (hg.obj k hlt)) ?_
        show GoesS Tryd.prog (CT prim W5) (K0 H0 w0) 47 tdQ (LP m p b (m : Int) k (p k) (svE (σ.feed (p k)).1)) fr34 (AutoR n o (σ.feed (p k)).2 b) φ
        cases hx : (σ.feed (p k)).1 with
        | none =>
          refine goesS_runTo CTok CTf (hold := hold2) (m := 300) (n := 400) (ts := [⟨47, td47, LT m p b (m : Int) (k + 1 : Nat), fr34⟩]) ?_
          have e := c34 prim W5 m p b (m : Int) k (k + 1 : Nat) (p k)
          rw [show svE none = SV.nili from rfl, e]
          refine ⟨⟨rfl, rfl, rfl, ?_, trivial⟩, _, rfl, loop34 hg rm (k + 1) _ (by omega) (hI.feed (hg.valid k hlt)) (by rw [feed_many hx, hmany]) (by simpa only [takeN, hx] using hφ)⟩
          show prim.add .i64 (k : Int) (Int.ofNat 1) = ((k + 1 : Nat) : Int)
          rw [prim_add, one_eq, wrap_id (by omega) (by omega)]; rfl
        | some e =>
          refine goesS_runTo CTok CTf (hold := hold2) (m := 300) (n := 400) (ts := []) ?_
          rw [show svE (some e) = SV.sh (.er e 125) from rfl, d34 prim W5 m p b (m : Int) k (p k) e]
          have hφ' : φ (resC (.inr (k, e))) := by simpa only [takeN, hx] using hφ
          exact hφ'
    · have : k = m := by simp [prim_lt] at h; omega
      have : rm = 0 := by omega
      subst this
      exact hφ
def F34 : List Sh → Tree Sh
  | [.agg [.sl 2 n g, .sl 8 m h]] => .need (okB Oj n g) (.need (okB Ev m h) (.need (retsB m h) (.node (bigB n m) (.leaf (.er 2 125)) (.node (goodB n m g h)
      (.node (takeB m (rwAt h)) (.leaf (.v .nilIface)) (.leaf (.ifc 81 (.pt [.i .i64 (takeK m (rwAt h)), .er (takeE m (rwAt h)) 125]))))
      (.leaf (.ifc 81 (.pt [.i .i64 (badPos n m g h), .er (badNo n m g h) 125])))))))
  | _ => .fail
theorem O34 : FnOK Tryd.prog (gls5 W5) 34 F34 := by
  refine fnOK_S (C := CT prim W5) CTok (fn := Tryd.f34) (by kernel_rfl) (by kernel_rfl) fun H w shs args φ hrep h => ?_
  have hn : Tryd.f34.ntmps = 11 := by kernel_rfl
  unfold F34 at h
  split at h
  · rename_i n g m h'
    obtain ⟨h1, h2, h3, h4, h5⟩ := h
    match args, hrep with
    | [v], ⟨hv, _⟩ =>
      rw [hn]
      refine ⟨[.agg [.sl 2 n (fnR (rwAt (α := Oj) g)), .sl 8 m (fnR (rwAt (α := Ev) h'))]], ⟨rep_agg_rows2 hv h1 h2, trivial⟩, L0, ?_⟩
      refine goesS_runR CTok CTf (hold := hold53) (m := 300) (n := 400) ?_
      rw [a34 prim W5 n m (rwAt g) (rwAt h'), meetsR_eq]
      have hret : ∀ k, k < m → in64 (rwAt (α := Ev) h' k).ret = true := fun k hk => List.all_eq_true.1 h3 k (List.mem_range.2 hk)
      have hb0 : bigB n m = false → bigB n 0 = false := fun q => by
        unfold bigB at q ⊢
        have q : ¬ (8 < n ∨ 400 < m) := by simpa using q
        exact decide_eq_false (by omega)
      have hgd : goodB n m (fnR (rwAt (α := Oj) g)) (fnR (rwAt (α := Ev) h')) = goodB n m g h' := by
        unfold goodB; rw [rw_put, rw_put]
      refine ⟨okB_put _ _, okB_put _ _, List.all_eq_true.2 fun k hk => ?_, fun q => h4 q, fun q => ⟨fun q2 => ?_, fun q2 => ?_⟩⟩
      · rw [rw_put]; exact hret k (List.mem_range.1 hk)
      · have q3 : goodB n m g h' = true := hgd ▸ q2
        obtain ⟨hT, hF⟩ := (h5 q).1 q3
        have G := good_of q q3 hret
        have hs := G.small
        have fin : ∀ b, GoesS Tryd.prog (CT prim W5) (K0 H w) 47 td47 (LT m (rwAt h') b (m : Int) (0 : Nat)) fr34 (AutoR n (rwAt g) Au.nil b) φ := fun b => by
          refine loop34 G m 0 Au.nil (by omega) Au.OK.nil rfl ?_
          show φ (resC (takeM m (rwAt h')))
          unfold takeB at hT hF
          unfold takeK takeE at hF
          cases hx : takeM m (rwAt (α := Ev) h') with
          | inl σ => rw [hx] at hT; exact hT rfl
          | inr x => rw [hx] at hF; exact hF rfl
        have own : ∀ nx tc, GoesS Tryd.prog (CT prim W5) (K0 H w) 47 td47 ⟨[SV.agg [SV.sh (Sh.sl 2 n (fnR (rwAt (α := Oj) g))), SV.sh (Sh.sl 8 m (fnR (rwAt (α := Ev) h')))], SV.ptr 1 0, SV.nilp, SV.nili, SV.nili, SV.ptr 6 0, SV.nili] ++ rep [.any] 6 ++ [.bool false] ++ rep [.any] 8 ++ [.bool false, .any, .any, SV.sh (Sh.sl 8 m (fnR (rwAt (α := Ev) h'))), .sym .i64 (prim.ofN m), .int .i64 (Int.ofNat 0)] ++ rep [.any] 16,
            [(0, SB.box [SV.sh (Sh.sl 2 n (fnR (rwAt (α := Oj) g))), SV.sh (Sh.sl 8 m (fnR (rwAt (α := Ev) h')))] 25), (1, SB.box [SV.sh (Sh.sl 2 n (fnR (rwAt (α := Oj) g))), SV.sh (Sh.sl 8 m (fnR (rwAt (α := Ev) h')))] 25), (3, SB.own 31 2 (prim.addN 0 n) (prim.snoc (nthL []) 0 (fnR (rwAt (α := Oj) g)))), (4, SB.fm .i64 (fun _ => none) [] [] none), (5, SB.fm .i64 (fun _ => none) [] [] none), (6, SB.box [SV.gs 3, SV.int .i64 (Int.ofNat 0), SV.nils, SV.mp 4, SV.mp 5] 87)], nx, L0, tc⟩
            [{ g := 34, td := [It.reg [0, 1] [1, 2, 3, 4, 5, 6], It.code [1, 1]], tm := [SV.agg [SV.sh (Sh.sl 2 n (fnR (rwAt (α := Oj) g))), SV.sh (Sh.sl 8 m (fnR (rwAt (α := Ev) h')))], SV.ptr 0 0, SV.nili, .any, .any, .any, SV.agg [SV.sh (Sh.sl 2 n (fnR (rwAt (α := Oj) g))), SV.sh (Sh.sl 8 m (fnR (rwAt (α := Ev) h')))]] ++ rep [.any] 4 }] emp φ := fun nx tc => by
          refine goesS_hide (R' := AutoR n (rwAt g) Au.nil) (i0 := 6) (fun i => Nat.blt i 3) (fun H E w h hon hh hd => new_own (n := n) (n' := prim.addN 0 n) (o := rwAt g) (o' := prim.snoc (nthL []) 0 (fnR (rwAt (α := Oj) g))) (fun i hi => by rw [prim_snoc]; simp) (Nat.zero_add n) rfl hh hd) fun b => ?_
          refine goesS_weakP (c' := LT m (rwAt h') b (m : Int) (0 : Nat)) (stk' := fr34) ⟨?_, trivial, rfl, rfl, rfl⟩ ⟨rfl, rfl, ?_, trivial⟩ (fin b)
          · repeat' (first | exact trivial | refine And.intro pS.any ?_ | refine And.intro (fun _ _ _ h => h) ?_)
          · repeat' (first | exact trivial | refine And.intro pS.any ?_ | refine And.intro (fun _ _ _ h => h) ?_)
        have nil : n = 0 → ∀ nx tc, GoesS Tryd.prog (CT prim W5) (K0 H w) 47 td47 ⟨[SV.agg [SV.sh (Sh.sl 2 n (fnR (rwAt (α := Oj) g))), SV.sh (Sh.sl 8 m (fnR (rwAt (α := Ev) h')))], SV.ptr 1 0, SV.nilp, SV.nili, SV.nili, SV.ptr 4 0, SV.nili] ++ rep [.any] 6 ++ [.bool false] ++ rep [.any] 8 ++ [.bool false, .any, .any, SV.sh (Sh.sl 8 m (fnR (rwAt (α := Ev) h'))), .sym .i64 (prim.ofN m), .int .i64 (Int.ofNat 0)] ++ rep [.any] 16,
            [(0, SB.box [SV.sh (Sh.sl 2 n (fnR (rwAt (α := Oj) g))), SV.sh (Sh.sl 8 m (fnR (rwAt (α := Ev) h')))] 25), (1, SB.box [SV.sh (Sh.sl 2 n (fnR (rwAt (α := Oj) g))), SV.sh (Sh.sl 8 m (fnR (rwAt (α := Ev) h')))] 25), (2, SB.fm .i64 (fun _ => none) [] [] none), (3, SB.fm .i64 (fun _ => none) [] [] none), (4, SB.box [SV.nils, SV.int .i64 (Int.ofNat 0), SV.nils, SV.mp 2, SV.mp 3] 87)], nx, L0, tc⟩
            [{ g := 34, td := [It.reg [0, 1] [1, 2, 3, 4, 5, 6], It.code [1, 1]], tm := [SV.agg [SV.sh (Sh.sl 2 n (fnR (rwAt (α := Oj) g))), SV.sh (Sh.sl 8 m (fnR (rwAt (α := Ev) h')))], SV.ptr 0 0, SV.nili, .any, .any, .any, SV.agg [SV.sh (Sh.sl 2 n (fnR (rwAt (α := Oj) g))), SV.sh (Sh.sl 8 m (fnR (rwAt (α := Ev) h')))]] ++ rep [.any] 4 }] emp φ := fun hz nx tc => by
          refine goesS_hide (R' := AutoR n (rwAt g) Au.nil) (i0 := 4) (fun i => Nat.blt i 2) (fun H E w h hon hh hd => new_nil (n := n) (o := rwAt g) hz rfl hh hd) fun b => ?_
          refine goesS_weakP (c' := LT m (rwAt h') b (m : Int) (0 : Nat)) (stk' := fr34) ⟨?_, trivial, rfl, rfl, rfl⟩ ⟨rfl, rfl, ?_, trivial⟩ (fin b)
          · repeat' (first | exact trivial | refine And.intro pS.any ?_ | refine And.intro (fun _ _ _ h => h) ?_)
          · repeat' (first | exact trivial | refine And.intro pS.any ?_ | refine And.intro (fun _ _ _ h => h) ?_)
        have hrm : prim.room (prim.addN 0 n) 16 = true := by rw [prim_addN, Nat.zero_add]; exact room_ok (by omega) (by omega)
        refine ⟨okB_put _ _, rfl, rfl, fun q4 => ?_, fun _ => ⟨fun _ => ⟨fun q5 => ⟨nil (by simpa [prim_leN] using q5) _ _, hrm, own _ _⟩, fun _ => ⟨hrm, own _ _⟩⟩, fun q5 => ?_⟩⟩
        · rw [hb0 q] at q4; cases q4
        · exfalso
          unfold goodB badE at q3 q5
          rw [rw_put] at q5
          cases hx : scanE (fun k => obErr (rwAt (α := Oj) g k)) 0 n with
          | some x => rw [hx] at q3; cases q3
          | none => rw [hx] at q5; cases q5
      · have q3 : goodB n m g h' = false := hgd ▸ q2
        have := (h5 q).2 q3
        unfold badPos badNo at this ⊢
        rw [rw_put, rw_put]
        exact this
  · exact h.elim
end Go.Proofs
namespace Go.Pl
open Go Go.Sx
/-- Rows of transactions. -/
def gT (rs : Nat → Rc) (N : Nat → Nat) (D : Nat → Nat → List Sh) : Nat → List Sh := fun j =>
  [.i .i64 (rs j).id, .i .i64 (rs j).th, .i .i64 (rs j).st, .i .i64 (rs j).bg, .i .i64 (rs j).en, .i .i64 (rs j).tr, .sl 8 (N j) (D j)]
end Go.Pl
namespace Go.Proofs
open Go Go.Sx Go.Pl
def LO44 (k : Nat) (rs : Nat → Rc) (N : Nat → Nat) (D : Nat → Nat → List Sh) (x : Int) (c i : Int) : Core :=
  { tm := [.any, .sym .i64 x] ++ rep [.any] 6 ++ [.sh (.sl 7 k (gT rs N D)), .sym .i64 c, .sym .i64 i] ++ rep [.any] 10, hp := [], nx := 0, lim := L0, tc := [] }
def txId (l : List Sh) : Int := match l with | .i .i64 a :: _ => a | _ => 0
/-- Are these rows of transactions? -/
def txOk (l : List Sh) : Bool := match l with | [.i .i64 _, .i .i64 _, .i .i64 _, .i .i64 _, .i .i64 _, .i .i64 _, .sl 8 _ _] => true | _ => false
end Go.Proofs
namespace Go.Pl
open Go Go.Sx Go.Proofs
def okT (k : Nat) (g : Nat → List Sh) : Bool := (List.range k).all fun j => txOk (g j)
/-- Where the transaction stands. -/
def findAt (k : Nat) (g : Nat → List Sh) (x : Int) : Option Nat := (List.range k).find? fun j => txId (g j) == x
def findB (k : Nat) (g : Nat → List Sh) (x : Int) : Bool := (findAt k g x).isSome
def findI (k : Nat) (g : Nat → List Sh) (x : Int) : Int := match findAt k g x with | some j => (j : Int) | none => 0
end Go.Pl
namespace Go.Proofs
open Go Go.Sx Go.Pl
def F44 : List Sh → Tree Sh
  | [.sl 7 k g, .i .i64 x] => .need (okT k g) (.node (findB k g x) (.leaf (.tup [.i .i64 (findI k g x), .v (.bool true)])) (.leaf (.tup [.i .i64 0, .v (.bool false)])))
  | _ => .fail
def td44 : List It := [It.code [0, 1, 0, 1], It.inBlock 0, It.code [1, 1]]
def tb44 : List It := It.code [0, 0, 1, 0, 1] :: td44

theorem a44 (A : Prim) (W : Wd) (k : Nat) (rs : Nat → Rc) (N : Nat → Nat) (D : Nat → Nat → List Sh) (x c i : Int) : runTo (C5 A W noSpec stopAll) noHold 300 200 44 [.code []] (start0 21 [.sl 7 k (gT rs N D), .i .i64 x] L0) [] [⟨44, td44, LO44 k rs N D x c i, []⟩] = Tree.leaf (Fe2.at_ 0 [Eqn.int x x, Eqn.sh (Sh.sl 7 k (gT rs N D)) (Sh.sl 7 k (gT rs N D)), Eqn.int (A.ofN k) c, Eqn.int (Int.ofNat 0) i]) := by kernel_rfl
theorem b44 (A : Prim) (W : Wd) (k : Nat) (rs : Nat → Rc) (N : Nat → Nat) (D : Nat → Nat → List Sh) (x c i i1 : Int) : runTo (C5 A W noSpec stopAll) noHold 300 200 44 tb44 (LO44 k rs N D x c i) [] [⟨44, td44, LO44 k rs N D x c i1, []⟩] = Tree.node (A.lt i c) (Tree.need (A.inB i k) (Tree.node (A.eq (rs (A.toN i)).id x) (Tree.leaf (Fe2.ret (Sh.tup [Sh.i IntKind.i64 i, Sh.b true]))) (Tree.leaf (Fe2.at_ 0 [Eqn.int x x, Eqn.sh (Sh.sl 7 k (gT rs N D)) (Sh.sl 7 k (gT rs N D)), Eqn.int c c, Eqn.int (A.add IntKind.i64 i (Int.ofNat 1)) i1])))) (Tree.leaf (Fe2.ret (Sh.tup [Sh.i IntKind.i64 (Int.ofNat 0), Sh.b false]))) := by kernel_rfl
end Go.Proofs
namespace Go.Pl
open Go Go.Sx Go.Proofs
def rcOf (l : List Sh) : Rc := match l with | [.i .i64 a, .i .i64 b, .i .i64 c, .i .i64 d, .i .i64 e, .i .i64 f, .sl 8 _ _] => ⟨a, b, c, d, e, f, [], 0⟩ | _ => rc0
def nOf (l : List Sh) : Nat := match l with | [.i .i64 _, .i .i64 _, .i .i64 _, .i .i64 _, .i .i64 _, .i .i64 _, .sl 8 n _] => n | _ => 0
def dOf (l : List Sh) : Nat → List Sh := match l with | [.i .i64 _, .i .i64 _, .i .i64 _, .i .i64 _, .i .i64 _, .i .i64 _, .sl 8 _ h] => h | _ => fun _ => []
theorem txOk_eq {g : Nat → List Sh} {j : Nat} (h : txOk (g j) = true) : g j = gT (fun j => rcOf (g j)) (fun j => nOf (g j)) (fun j => dOf (g j)) j := by
  simp only [gT]
  unfold txOk at h
  split at h
  · rename_i a b c d e f n h' hl
    simp only [hl, rcOf, nOf, dOf]
  · cases h
theorem txId_eq {rs : Nat → Rc} {N : Nat → Nat} {D : Nat → Nat → List Sh} {j : Nat} : txId (gT rs N D j) = (rs j).id := rfl
theorem find_at {k j : Nat} {g : Nat → List Sh} {x : Int} (h1 : ∀ i, i < j → ¬ txId (g i) = x) (h2 : j < k) (h3 : txId (g j) = x) : findAt k g x = some j := by
  unfold findAt
  rw [List.find?_range_eq_some]
  exact ⟨by simpa using h3, by simpa using h2, fun i hi => by simpa using h1 i hi⟩
theorem find_no {k : Nat} {g : Nat → List Sh} {x : Int} (h1 : ∀ i, i < k → ¬ txId (g i) = x) : findAt k g x = none := by
  unfold findAt
  rw [List.find?_range_eq_none]
  intro i hi
  simpa using h1 i hi
end Go.Pl
namespace Go.Proofs
open Go Go.Sx Go.Pl
def F44b : List Sh → Tree Sh
  | [.sl 7 k g, .i .i64 x] => .need (okT k g) (.node (findB k g x) (.leaf (.tup [.i .i64 (findI k g x), .b true])) (.leaf (.tup [.i .i64 0, .b false])))
  | _ => .fail
theorem loop44 {H0 : Mem} {w0 : World} {k : Nat} {rs : Nat → Rc} {N : Nat → Nat} {D : Nat → Nat → List Sh} {x : Int} {φ : Sh → Prop} (hk : k ≤ maxLen)
    (hT : ∀ j, findAt k (gT rs N D) x = some j → φ (.tup [.i .i64 (j : Int), .b true])) (hF : findAt k (gT rs N D) x = none → φ (.tup [.i .i64 0, .b false])) :
    ∀ rm j, j + rm = k → (∀ i, i < j → ¬ txId (gT rs N D i) = x) → GoesS Tryd.prog (C5 prim W5 noSpec stopAll) (K0 H0 w0) 44 td44 (LO44 k rs N D x (k : Int) j) [] emp φ
  | rm, j, hj, hno => by
    have hk' := hk
    rw [maxLen_eq] at hk'
    refine goesS_into (fn := Tryd.f44) (tb := tb44) (by kernel_rfl) (by kernel_rfl) ?_
    refine goesS_runTo (C5.ok _ _) (fok0 _) (hold := noHold) (m := 300) (n := 200) (ts := [⟨44, td44, LO44 k rs N D x (k : Int) (j + 1 : Nat), []⟩]) ?_
    rw [b44 prim W5 k rs N D x (k : Int) j (j + 1 : Nat)]
    refine ⟨fun h => ?_, fun h => ?_⟩
    · have hlt : j < k := by simp [prim_lt] at h; omega
      refine ⟨by simp [prim_inB]; omega, fun q => ?_, fun q => ?_⟩
      · have q : (rs j).id = x := by simpa [prim_eq, prim_toN] using q
        exact hT j (find_at hno hlt (by rw [txId_eq]; exact q))
      · have q : ¬ (rs j).id = x := by simpa [prim_eq, prim_toN] using q
        match rm, hj with
        | 0, hj => omega
        | rm + 1, hj =>
          refine ⟨⟨rfl, rfl, rfl, ?_, trivial⟩, _, rfl, loop44 hk hT hF rm (j + 1) (by omega) fun i hi => ?_⟩
          · show prim.add .i64 (j : Int) (Int.ofNat 1) = ((j + 1 : Nat) : Int)
            rw [prim_add, one_eq, wrap_id (by omega) (by omega)]; rfl
          · by_cases q2 : i = j
            · subst q2; rw [txId_eq]; exact q
            · exact hno i (by omega)
    · have : j = k := by simp [prim_lt] at h; omega
      subst this
      exact hF (find_no hno)
theorem O44b : FnOK Tryd.prog (gls5 W5) 44 F44b := by
  refine fnOK_S (C := C5 prim W5 noSpec stopAll) (C5.ok _ _) (fn := Tryd.f44) (by kernel_rfl) (by kernel_rfl) fun H w shs args φ hrep h => ?_
  have hn : Tryd.f44.ntmps = 21 := by kernel_rfl
  unfold F44b at h
  split at h
  · rename_i k g x
    obtain ⟨h1, h2, h3⟩ := h
    match args, hrep with
    | [v, u], ⟨hv, hu, _⟩ =>
      rw [hn]
      have hg : ∀ j, j < k → g j = gT (fun j => rcOf (g j)) (fun j => nOf (g j)) (fun j => dOf (g j)) j := fun j hj => txOk_eq (List.all_eq_true.1 h1 j (List.mem_range.2 hj))
      have hfind : findAt k g x = findAt k (gT (fun j => rcOf (g j)) (fun j => nOf (g j)) (fun j => dOf (g j))) x := by
        cases q : findAt k (gT (fun j => rcOf (g j)) (fun j => nOf (g j)) (fun j => dOf (g j))) x with
        | none =>
          unfold findAt at q
          rw [List.find?_range_eq_none] at q
          exact find_no fun i hi => by have := q i hi; rw [← hg i hi] at this; simpa using this
        | some j =>
          unfold findAt at q
          rw [List.find?_range_eq_some] at q
          have hj : j < k := by simpa using q.2.1
          exact find_at (fun i hi => by have := q.2.2 i hi; rw [← hg i (by omega)] at this; simpa using this) hj (by have := q.1; rw [← hg j hj] at this; simpa using this)
      refine ⟨[.sl 7 k (gT (fun j => rcOf (g j)) (fun j => nOf (g j)) (fun j => dOf (g j))), .i .i64 x], ⟨rep_sl_congr hv hg, hu, trivial⟩, L0, ?_⟩
      refine goesS_runTo (C5.ok _ _) (fok0 _) (hold := noHold) (m := 300) (n := 200) (ts := [⟨44, td44, LO44 k (fun j => rcOf (g j)) (fun j => nOf (g j)) (fun j => dOf (g j)) x (k : Int) (0 : Nat), []⟩]) ?_
      rw [a44 prim W5 k (fun j => rcOf (g j)) (fun j => nOf (g j)) (fun j => dOf (g j)) x (k : Int) (0 : Nat)]
      refine ⟨⟨rfl, rfl, rfl, rfl, trivial⟩, _, rfl, loop44 (rep_len hv) (fun j hj => ?_) (fun hj => ?_) k 0 (by omega) fun i hi => by omega⟩
      · have := h2 (by unfold findB; rw [hfind, hj]; rfl)
        unfold findI at this
        rw [hfind, hj] at this
        exact this
      · exact h3 (by unfold findB; rw [hfind, hj]; rfl)
  · exact h.elim
/-- A truth value that is known is told as such. -/
theorem res_b {H H' : Mem} {w w' : World} {v : Value} {n : Int} {t : Bool} (r : SpecRes H w (.tup [.i .i64 n, .b t]) v H' w') : SpecRes H w (.tup [.i .i64 n, .v (.bool t)]) v H' w' :=
  ⟨r.Hle, r.on, r.os, r.tape, r.output, r.size, r.old, r.fresh, fun b0 => by
    obtain ⟨E1, a1, a2, ⟨⟨vs⟩, e, hd⟩, a4⟩ := r.res b0
    refine ⟨E1, a1, a2, ⟨⟨vs⟩, e, ?_⟩, a4⟩
    match vs, hd with
    | [a, b], ⟨h1, h2, _⟩ => exact ⟨h1, h2, trivial⟩⟩
theorem O44 : FnOK Tryd.prog (gls5 W5) 44 F44 := fun H w shs args φ h1 h2 h3 h4 => by
  unfold F44 at h4
  split at h4
  · rename_i k g x
    obtain ⟨a1, a2, a3⟩ := h4
    refine Calls.mono (O44b H w [.sl 7 k g, .i .i64 x] args (fun s => ∃ n t, s = .tup [.i .i64 n, .b t] ∧ φ (.tup [.i .i64 n, .v (.bool t)])) h1 h2 h3 ⟨a1, fun q => ⟨_, _, rfl, a2 q⟩, fun q => ⟨_, _, rfl, a3 q⟩⟩) fun e w' ⟨v, s, H', e1, ⟨n, t, e2, e3⟩, r⟩ => ?_
    subst e2
    exact ⟨v, _, H', e1, e3, res_b r⟩
  · exact h4.elim
end Go.Proofs
namespace Go.Pl
open Go Go.Sx Go.Proofs
/-- What a history's transactions are said to be. -/
noncomputable def sameT (m : Nat) (h : Nat → List Sh) (TB : Bool) (K : Nat) (rs : Nat → Rc) (N : Nat → Nat) (D : Nat → Nat → De) (k1 : Int) (e1 : Nat) : Bool :=
  @decide (takeB m (rwAt h) = TB ∧ (takeS m (rwAt h)).rs.length = K ∧ gTx dlen dfn (rsAt (takeS m (rwAt h))) = gT rs N (fun j => fnR (D j)) ∧ takeK m (rwAt h) = k1 ∧ takeE m (rwAt h) = e1) (Classical.propDecidable _)
/-- Which events a closure keeps that leaves out two places. -/
def keep2 (u v : Int) : Nat → Ev → Bool := fun i _ => !((i : Int) == u) && !((i : Int) == v)
noncomputable def sameK (m : Nat) (h : Nat → List Sh) (L : Int → Int → Nat) (G : Int → Int → Nat → List Sh) : Bool :=
  @decide (∀ u v, L u v = (keptF (keep2 u v) (rwAt h) m).length ∧ G u v = fnR (nth (keptF (keep2 u v) (rwAt h) m))) (Classical.propDecidable _)
end Go.Pl
namespace Go.Proofs
open Go Go.Sx Go.Pl
noncomputable def F38v (L : Int → Int → Nat) (G : Int → Int → Nat → List Sh) : List Sh → Tree Sh
  | [.agg [.sl 2 n g, .sl 8 m h], .fn 45 [.pt [.i .i64 _, .i .i64 _, .i .i64 _, .i .i64 _, .i .i64 _, .i .i64 _, .i .i64 u, .i .i64 v]]] =>
    .need (sameK m h L G) (.need (okB Ev m h) (.need (roomB n 16) (.need (roomB m 64) (.leaf (.agg [.os 31 2 n g, .os 34 8 (L u v) (G u v)])))))
  | _ => .fail
noncomputable def F32v (TB : Bool) (K : Nat) (rs : Nat → Rc) (N : Nat → Nat) (D : Nat → Nat → De) (k1 : Int) (e1 : Nat) : List Sh → Tree Sh
  | [.agg [.sl 2 n g, .sl 8 m h]] => .need (sameT m h TB K rs N D k1 e1) (.need (okB Oj n g) (.need (okB Ev m h) (.need (retsB m h) (.node (bigB n m) (.leaf (.tup [.sl 0 0 fun _ => [], .er 2 125])) (.node (goodB n m g h)
      (.node TB (.leaf (.tup [.os 61 7 K (gT rs N (fun j => fnR (D j))), .v .nilIface])) (.leaf (.tup [.sl 0 0 fun _ => [], .ifc 81 (.pt [.i .i64 k1, .er e1 125])])))
      (.leaf (.tup [.sl 0 0 fun _ => [], .ifc 81 (.pt [.i .i64 (badPos n m g h), .er (badNo n m g h) 125])])))))))
  | _ => .fail
noncomputable def spec23 (TB : Bool) (K : Nat) (rs : Nat → Rc) (N : Nat → Nat) (D : Nat → Nat → De) (k1 : Int) (e1 : Nat) (L : Int → Int → Nat) (G : Int → Int → Nat → List Sh) : Nat → Option (List Sh → Tree Sh)
  | 32 => some (F32v TB K rs N D k1 e1)
  | 34 => some F34
  | 37 => some F37
  | 38 => some (F38v L G)
  | 44 => some F44
  | _ => none
noncomputable def C23 (A : Prim) (W : Wd) (TB : Bool) (K : Nat) (rs : Nat → Rc) (N : Nat → Nat) (D : Nat → Nat → De) (k1 : Int) (e1 : Nat) (L : Int → Int → Nat) (G : Int → Int → Nat → List Sh) : Ctx := C5 A W (spec23 TB K rs N D k1 e1 L G) stopAll
def spec29 : Nat → Option (List Sh → Tree Sh)
  | 34 => some F34
  | 37 => some F37
  | _ => none
def td29 : List It := [It.code [0, 1, 0, 1, 1, 1], It.inBlock 0, It.code [1, 1, 1, 1]]
def tb29 : List It := It.code [0, 0, 1, 0, 1, 1, 1] :: td29
def LO29 (n m : Nat) (o : Nat → Oj) (p : Nat → Ev) (y c i : Int) : Core :=
  { tm := [.any, .ptr 0 0, .ptr 1 0, .nili, .any, .sym .i64 y] ++ rep [.any] 9 ++ [.sh (.sl 8 m (fnR p)), .sym .i64 c, .sym .i64 i] ++ rep [.any] 19,
    hp := [(0, .box [.sh (.sl 2 n (fnR o)), .sh (.sl 8 m (fnR p))] 25), (1, .box [.nils, .nils] 25)], nx := 2, lim := L0, tc := [] }

theorem a23 (A : Prim) (W : Wd) (n m : Nat) (o : Nat → Oj) (p : Nat → Ev) (x k : Int) (TB : Bool) (K : Nat) (rs : Nat → Rc) (N : Nat → Nat) (D : Nat → Nat → De) (k1 : Int) (e1 : Nat) (L : Int → Int → Nat) (G : Int → Int → Nat → List Sh) : runR (C23 A W TB K rs N D k1 e1 L G) noHold 300 400 23 [.code []] (start0 57 [.agg [.sl 2 n (fnR o), .sl 8 m (fnR p)], .i .i64 x, .i .i64 k] L0) [] = Tree.need (sameT m (fnR p) TB K rs N D k1 e1) (Tree.need (okB Oj n (fnR o)) (Tree.need (okB Ev m (fnR p)) (Tree.need (retsB m (fnR p)) (Tree.node (bigB n m) (Tree.leaf (Fe3.ret (Sh.tup [Sh.agg [Sh.sl 0 0 fun (x : Nat) => [], Sh.sl 0 0 fun (x : Nat) => []], Sh.er 2 125]))) (Tree.node (goodB n m (fnR o) (fnR p)) (Tree.node TB (Tree.need (okT K (gT rs N fun (j : Nat) => fnR (D j))) (Tree.node (findB K (gT rs N fun (j : Nat) => fnR (D j)) x) (Tree.node (A.lt k (Int.ofNat 0)) (Tree.leaf (Fe3.ret (Sh.tup [Sh.agg [Sh.sl 0 0 fun (x : Nat) => [], Sh.sl 0 0 fun (x : Nat) => []], Sh.er 1 125]))) (Tree.need (A.inB (findI K (gT rs N fun (j : Nat) => fnR (D j)) x) K) (Tree.node (A.le (A.ofN (N (A.toN (findI K (gT rs N fun (j : Nat) => fnR (D j)) x)))) k) (Tree.leaf (Fe3.ret (Sh.tup [Sh.agg [Sh.sl 0 0 fun (x : Nat) => [], Sh.sl 0 0 fun (x : Nat) => []], Sh.er 1 125]))) (Tree.need (A.inB (findI K (gT rs N fun (j : Nat) => fnR (D j)) x) K) (Tree.need (A.inB k (N (A.toN (findI K (gT rs N fun (j : Nat) => fnR (D j)) x)))) (Tree.need (sameK m (fnR p) L G) (Tree.need (okB Ev m (fnR p)) (Tree.need (roomB n 16) (Tree.need (roomB m 64) (Tree.leaf (Fe3.ret (Sh.tup [Sh.agg [Sh.os 31 2 n (fnR o), Sh.os 34 8 (L (D (A.toN (findI K (gT rs N fun (j : Nat) => fnR (D j)) x)) (A.toN k)).here (D (A.toN (findI K (gT rs N fun (j : Nat) => fnR (D j)) x)) (A.toN k)).back) (G (D (A.toN (findI K (gT rs N fun (j : Nat) => fnR (D j)) x)) (A.toN k)).here (D (A.toN (findI K (gT rs N fun (j : Nat) => fnR (D j)) x)) (A.toN k)).back)], Sh.v Value.nilIface])))))))))))) (Tree.leaf (Fe3.ret (Sh.tup [Sh.agg [Sh.sl 0 0 fun (x : Nat) => [], Sh.sl 0 0 fun (x : Nat) => []], Sh.er 0 125]))))) (Tree.leaf (Fe3.ret (Sh.tup [Sh.agg [Sh.sl 0 0 fun (x : Nat) => [], Sh.sl 0 0 fun (x : Nat) => []], Sh.ifc 81 (Sh.pt [Sh.i IntKind.i64 k1, Sh.er e1 125])])))) (Tree.leaf (Fe3.ret (Sh.tup [Sh.agg [Sh.sl 0 0 fun (x : Nat) => [], Sh.sl 0 0 fun (x : Nat) => []], Sh.ifc 81 (Sh.pt [Sh.i IntKind.i64 (badPos n m (fnR o) (fnR p)), Sh.er (badNo n m (fnR o) (fnR p)) 125])])))))))) := by kernel_rfl
theorem a29 (A : Prim) (W : Wd) (n m : Nat) (o : Nat → Oj) (p : Nat → Ev) (y c i : Int) : runTo (C5 A W spec29 stopAll) noHold 300 400 29 [.code []] (start0 37 [.agg [.sl 2 n (fnR o), .sl 8 m (fnR p)]] L0) [] [⟨29, td29, LO29 n m o p y c i, []⟩] = Tree.need (okB Oj n (fnR o)) (Tree.need (okB Ev m (fnR p)) (Tree.need (retsB m (fnR p)) (Tree.node (bigB n m) (Tree.leaf (Fe2.ret (Sh.tup [Sh.agg [Sh.sl 0 0 fun (x : Nat) => [], Sh.sl 0 0 fun (x : Nat) => []], Sh.er 2 125]))) (Tree.node (goodB n m (fnR o) (fnR p)) (Tree.node (takeB m (rwAt (fnR p))) (Tree.leaf (Fe2.at_ 0 [Eqn.int (Int.ofNat 0) y, Eqn.sh (Sh.sl 8 m (fnR p)) (Sh.sl 8 m (fnR p)), Eqn.int (A.ofN m) c, Eqn.int (Int.ofNat 0) i, Eqn.sh (Sh.sl 2 n (fnR o)) (Sh.sl 2 n (fnR o)), Eqn.sh (Sh.sl 8 m (fnR p)) (Sh.sl 8 m (fnR p))])) (Tree.leaf (Fe2.ret (Sh.tup [Sh.agg [Sh.sl 0 0 fun (x : Nat) => [], Sh.sl 0 0 fun (x : Nat) => []], Sh.ifc 81 (Sh.pt [Sh.i IntKind.i64 (takeK m (rwAt (fnR p))), Sh.er (takeE m (rwAt (fnR p))) 125])])))) (Tree.leaf (Fe2.ret (Sh.tup [Sh.agg [Sh.sl 0 0 fun (x : Nat) => [], Sh.sl 0 0 fun (x : Nat) => []], Sh.ifc 81 (Sh.pt [Sh.i IntKind.i64 (badPos n m (fnR o) (fnR p)), Sh.er (badNo n m (fnR o) (fnR p)) 125])]))))))) := by kernel_rfl
theorem b29 (A : Prim) (W : Wd) (n m : Nat) (o : Nat → Oj) (p : Nat → Ev) (y y1 c i i1 : Int) : runTo (C5 A W spec29 stopAll) noHold 300 400 29 tb29 (LO29 n m o p y c i) [] [⟨29, td29, LO29 n m o p y1 c i1, []⟩] = Tree.node (A.lt i c) (Tree.need (A.inB i m) (Tree.node (A.eq (p (A.toN i)).kind (Int.ofNat 2)) (Tree.leaf (Fe2.at_ 0 [Eqn.int (A.max y (A.add IntKind.i64 (p (A.toN i)).obj (Int.ofNat 1))) y1, Eqn.sh (Sh.sl 8 m (fnR p)) (Sh.sl 8 m (fnR p)), Eqn.int c c, Eqn.int (A.add IntKind.i64 i (Int.ofNat 1)) i1, Eqn.sh (Sh.sl 2 n (fnR o)) (Sh.sl 2 n (fnR o)), Eqn.sh (Sh.sl 8 m (fnR p)) (Sh.sl 8 m (fnR p))])) (Tree.leaf (Fe2.at_ 0 [Eqn.int y y1, Eqn.sh (Sh.sl 8 m (fnR p)) (Sh.sl 8 m (fnR p)), Eqn.int c c, Eqn.int (A.add IntKind.i64 i (Int.ofNat 1)) i1, Eqn.sh (Sh.sl 2 n (fnR o)) (Sh.sl 2 n (fnR o)), Eqn.sh (Sh.sl 8 m (fnR p)) (Sh.sl 8 m (fnR p))])))) (Tree.need (A.upTo y n) (Tree.need (roomB (A.toN y) 16) (Tree.need (roomB m 64) (Tree.leaf (Fe2.ret (Sh.tup [Sh.agg [Sh.os 31 2 (A.toN y) (fnR o), Sh.os 34 8 m (fnR p)], Sh.v Value.nilIface])))))) := by kernel_rfl
end Go.Proofs
namespace Go.Pl
open Go Go.Sx Go.Proofs
/-- Where a history's transaction stands among its transactions; is there one? -/
def txI (m : Nat) (p : Nat → Ev) (x : Int) : Nat := (findI (takeS m p).rs.length (gTx dlen dfn (rsAt (takeS m p))) x).toNat
def txB (m : Nat) (p : Nat → Ev) (x : Int) : Bool := findB (takeS m p).rs.length (gTx dlen dfn (rsAt (takeS m p))) x
/-- Has it so many deeds? -/
def deedB (m : Nat) (p : Nat → Ev) (x k : Int) : Bool := decide (0 ≤ k ∧ k < (rsAt (takeS m p) (txI m p x)).deeds.length)
def deedD (m : Nat) (p : Nat → Ev) (x k : Int) : De := nth (rsAt (takeS m p) (txI m p x)).deeds k.toNat
/-- The events without the deed's two. -/
def dropE (m : Nat) (p : Nat → Ev) (x k : Int) : List Ev := keptF (keep2 (deedD m p x k).here (deedD m p x k).back) p m
theorem findB_in {K : Nat} {g : Nat → List Sh} {x : Int} (h : findB K g x = true) : ∃ j : Nat, j < K ∧ findI K g x = (j : Int) ∧ txId (g j) = x := by
  unfold findB at h
  cases hj : findAt K g x with
  | none => rw [hj] at h; cases h
  | some j =>
    have h2 := hj
    unfold findAt at h2
    rw [List.find?_range_eq_some] at h2
    exact ⟨j, by simpa using h2.2.1, by simp [findI, hj], by simpa using h2.1⟩
end Go.Pl
namespace Go.Proofs
open Go Go.Sx Go.Pl
theorem O32v (TB : Bool) (K : Nat) (rs : Nat → Rc) (N : Nat → Nat) (D : Nat → Nat → De) (k1 : Int) (e1 : Nat) : FnOK Tryd.prog (gls5 W5) 32 (F32v TB K rs N D k1 e1) := fun H w shs args φ h1 h2 h3 h4 => by
  unfold F32v at h4
  split at h4
  · rename_i n g m h
    obtain ⟨hs, a1, a2, a3, a4, a5⟩ := h4
    unfold sameT at hs
    obtain ⟨s1, s2, s3, s4, s5⟩ := @of_decide_eq_true _ (Classical.propDecidable _) hs
    refine O32 H w _ args φ h1 h2 h3 ⟨a1, a2, a3, a4, fun q => ⟨fun q2 => ⟨fun q3 => ?_, fun q3 => ?_⟩, fun q2 => (a5 q).2 q2⟩⟩
    · rw [s2, s3]; exact ((a5 q).1 q2).1 (s1 ▸ q3)
    · rw [s4, s5]; exact ((a5 q).1 q2).2 (s1 ▸ q3)
  · exact h4.elim
theorem O38v (L : Int → Int → Nat) (G : Int → Int → Nat → List Sh) : FnOK Tryd.prog (gls5 W5) 38 (F38v L G) := fun H w shs args φ h1 h2 h3 h4 => by
  unfold F38v at h4
  split at h4
  · rename_i n g m h a b c d e f u v
    obtain ⟨hs, a1, a2, a3, a4⟩ := h4
    unfold sameK at hs
    obtain ⟨s1, s2⟩ := @of_decide_eq_true _ (Classical.propDecidable _) hs u v
    have a4 : φ (.agg [.os 31 2 n g, .os 34 8 (L u v) (G u v)]) := a4
    rw [s1, s2] at a4
    exact O38 H w _ args φ h1 h2 h3 ⟨a1, a2, a3, a4⟩
  · exact h4.elim
theorem O23s (TB : Bool) (K : Nat) (rs : Nat → Rc) (N : Nat → Nat) (D : Nat → Nat → De) (k1 : Int) (e1 : Nat) (L : Int → Int → Nat) (G : Int → Int → Nat → List Sh) : ∀ g F, spec23 TB K rs N D k1 e1 L G g = some F → FnOK Tryd.prog (gls5 W5) g F := fun g F h => by
  unfold spec23 at h
  split at h
  · cases h; exact O32v _ _ _ _ _ _ _
  · cases h; exact O34
  · cases h; exact O37
  · cases h; exact O38v _ _
  · cases h; exact O44
  · cases h
theorem C23f (TB : Bool) (K : Nat) (rs : Nat → Rc) (N : Nat → Nat) (D : Nat → Nat → De) (k1 : Int) (e1 : Nat) (L : Int → Int → Nat) (G : Int → Int → Nat → List Sh) : FnsOK Tryd.prog (C23 prim W5 TB K rs N D k1 e1 L G) :=
  C5.fok (O23s TB K rs N D k1 e1 L G) fun g h => by
    unfold spec23 at h
    split at h
    all_goals first | (cases h; done) | kernel_rfl
theorem C23ok (TB : Bool) (K : Nat) (rs : Nat → Rc) (N : Nat → Nat) (D : Nat → Nat → De) (k1 : Int) (e1 : Nat) (L : Int → Int → Nat) (G : Int → Int → Nat → List Sh) : CtxOK Tryd.prog (C23 prim W5 TB K rs N D k1 e1 L G) := C5.ok _ _
def F23 : List Sh → Tree Sh
  | [.agg [.sl 2 n g, .sl 8 m h], .i .i64 x, .i .i64 k] => .need (okB Oj n g) (.need (okB Ev m h) (.need (retsB m h) (.node (bigB n m) (.leaf (.tup [.agg [.sl 0 0 fun _ => [], .sl 0 0 fun _ => []], .er 2 125])) (.node (goodB n m g h)
      (.node (takeB m (rwAt h)) (.node (txB m (rwAt h) x) (.node (deedB m (rwAt h) x k) (.leaf (.tup [.agg [.os 31 2 n (fnR (rwAt (α := Oj) g)), osR 34 8 (dropE m (rwAt h) x k)], .v .nilIface])) (.leaf (.tup [.agg [.sl 0 0 fun _ => [], .sl 0 0 fun _ => []], .er 1 125])))
        (.leaf (.tup [.agg [.sl 0 0 fun _ => [], .sl 0 0 fun _ => []], .er 0 125]))) (.leaf (.tup [.agg [.sl 0 0 fun _ => [], .sl 0 0 fun _ => []], .ifc 81 (.pt [.i .i64 (takeK m (rwAt h)), .er (takeE m (rwAt h)) 125])])))
      (.leaf (.tup [.agg [.sl 0 0 fun _ => [], .sl 0 0 fun _ => []], .ifc 81 (.pt [.i .i64 (badPos n m g h), .er (badNo n m g h) 125])]))))))
  | _ => .fail
theorem O23 : FnOK Tryd.prog (gls5 W5) 23 F23 := fun H w shs args φ hon hgl hrep h => by
  unfold F23 at h
  split at h
  · rename_i n g m h' x k
    let σ := takeS m (rwAt (α := Ev) h')
    have key : FnOK Tryd.prog (gls5 W5) 23 (fun l => .need (@decide (l = [.agg [.sl 2 n g, .sl 8 m h'], .i .i64 x, .i .i64 k]) (Classical.propDecidable _)) (F23 [.agg [.sl 2 n g, .sl 8 m h'], .i .i64 x, .i .i64 k])) := by
      refine fnOK_S (C := C23 prim W5 (takeB m (rwAt h')) σ.rs.length (rsAt σ) (fun j => dlen (rsAt σ j)) (fun j => nth (rsAt σ j).deeds) (takeK m (rwAt h')) (takeE m (rwAt h')) (fun u v => (keptF (keep2 u v) (rwAt h') m).length) (fun u v => fnR (nth (keptF (keep2 u v) (rwAt h') m)))) (C23ok _ _ _ _ _ _ _ _ _) (fn := Tryd.f23) (by kernel_rfl) (by kernel_rfl) fun H w shs args φ hrep h => ?_
      obtain ⟨hl, h⟩ := h
      have hl := @of_decide_eq_true _ (Classical.propDecidable _) hl
      subst hl
      have hn : Tryd.f23.ntmps = 57 := by kernel_rfl
      obtain ⟨h1, h2, h3, h4, h5⟩ := h
      match args, hrep with
      | [v, u1, u2], ⟨hv, hu1, hu2, _⟩ =>
        rw [hn]
        refine ⟨[.agg [.sl 2 n (fnR (rwAt (α := Oj) g)), .sl 8 m (fnR (rwAt (α := Ev) h'))], .i .i64 x, .i .i64 k], ⟨rep_agg_rows2 hv h1 h2, hu1, hu2, trivial⟩, L0, ?_⟩
        refine goesS_runR (C23ok _ _ _ _ _ _ _ _ _) (C23f _ _ _ _ _ _ _ _ _) (hold := noHold) (m := 300) (n := 400) ?_
        rw [a23 prim W5 n m (rwAt g) (rwAt h') x k, meetsR_eq]
        have hgd : goodB n m (fnR (rwAt (α := Oj) g)) (fnR (rwAt (α := Ev) h')) = goodB n m g h' := by
          unfold goodB; rw [rw_put, rw_put]
        have hret : retsB m (fnR (rwAt (α := Ev) h')) = true := List.all_eq_true.2 fun i hi => by
          rw [rw_put]; exact List.all_eq_true.1 h3 i hi
        have hsame : sameT m (fnR (rwAt (α := Ev) h')) (takeB m (rwAt h')) σ.rs.length (rsAt σ) (fun j => dlen (rsAt σ j)) (fun j => nth (rsAt σ j).deeds) (takeK m (rwAt h')) (takeE m (rwAt h')) = true := by
          unfold sameT
          refine @decide_eq_true _ (Classical.propDecidable _) ?_
          rw [rw_put]
          exact ⟨rfl, rfl, rfl, rfl, rfl⟩
        have hsK : sameK m (fnR (rwAt (α := Ev) h')) (fun u v => (keptF (keep2 u v) (rwAt h') m).length) (fun u v => fnR (nth (keptF (keep2 u v) (rwAt h') m))) = true := by
          unfold sameK
          refine @decide_eq_true _ (Classical.propDecidable _) ?_
          rw [rw_put]
          exact fun u v => ⟨rfl, rfl⟩
        refine ⟨hsame, okB_put _ _, okB_put _ _, hret, fun q => h4 q, fun q => ⟨fun q2 => ?_, fun q2 => ?_⟩⟩
        · obtain ⟨hT, hF⟩ := (h5 q).1 (hgd ▸ q2)
          have hsm : n ≤ 8 ∧ m ≤ 400 := by
            unfold bigB at q
            have q : ¬ (8 < n ∨ 400 < m) := by simpa using q
            omega
          refine ⟨fun q3 => ⟨?_, fun q4 => ?_, fun q4 => ?_⟩, fun q3 => hF q3⟩
          · exact List.all_eq_true.2 fun i _ => rfl
          · have hx := (hT q3).1 q4
            have hin : prim.inB (findI σ.rs.length (gTx dlen dfn (rsAt σ)) x) σ.rs.length = true := by
              obtain ⟨j, hj, e, _⟩ := findB_in q4
              have e : findI σ.rs.length (gTx dlen dfn (rsAt σ)) x = (j : Int) := e
              rw [e, prim_inB]
              simp; omega
            have hlen : dlen (rsAt σ (prim.toN (findI σ.rs.length (gTx dlen dfn (rsAt σ)) x))) = (rsAt σ (txI m (rwAt h') x)).deeds.length := rfl
            have hd : ∀ b, deedB m (rwAt h') x k = b ↔ decide (0 ≤ k ∧ k < (rsAt σ (txI m (rwAt h') x)).deeds.length) = b := fun b => Iff.rfl
            refine ⟨fun q5 => hx.2 ?_, fun q5 => ⟨hin, fun q6 => hx.2 ?_, fun q6 => ⟨hin, ?_, hsK, okB_put _ _, room_ok (by omega) (by omega), room_ok (by omega) (by omega), hx.1 ?_⟩⟩⟩
            · have q5 : k < 0 := of_decide_eq_true q5
              rw [hd]
              exact decide_eq_false (by omega)
            · have q6 : ((rsAt σ (txI m (rwAt h') x)).deeds.length : Int) ≤ k := of_decide_eq_true q6
              rw [hd]
              exact decide_eq_false (by omega)
            · have q5 : ¬ k < 0 := of_decide_eq_false q5
              have q6 : ¬ ((rsAt σ (txI m (rwAt h') x)).deeds.length : Int) ≤ k := of_decide_eq_false q6
              show decide (0 ≤ k ∧ k < ((rsAt σ (txI m (rwAt h') x)).deeds.length : Int)) = true
              exact decide_eq_true (by omega)
            · have q5 : ¬ k < 0 := of_decide_eq_false q5
              have q6 : ¬ ((rsAt σ (txI m (rwAt h') x)).deeds.length : Int) ≤ k := of_decide_eq_false q6
              rw [hd]
              exact decide_eq_true (by omega)
          · exact (hT q3).2 q4
        · have := (h5 q).2 (hgd ▸ q2)
          unfold badPos badNo at this ⊢
          rw [rw_put, rw_put]
          exact this
    exact key H w _ args φ hon hgl hrep ⟨@decide_eq_true _ (Classical.propDecidable _) rfl, h⟩
  · exact h.elim
end Go.Proofs
namespace Go.Pl
open Go Go.Sx
/-- How many objects the first calls name. -/
def spN (p : Nat → Ev) : Nat → Nat
  | 0 => 0
  | i + 1 => if (p i).kind = 2 then max (spN p i) ((p i).obj.toNat + 1) else spN p i
theorem spN_le {n m : Nat} {o : Nat → Oj} {p : Nat → Ev} (G : GoodH n m o p) : ∀ i, i ≤ m → spN p i ≤ n
  | 0, _ => Nat.zero_le _
  | i + 1, h => by
    have ih := spN_le G i (by omega)
    simp only [spN]
    split
    · rename_i hk
      have := G.obj i (by omega) hk
      omega
    · exact ih
end Go.Pl
namespace Go.Proofs
open Go Go.Sx Go.Pl
theorem O29s : ∀ g F, spec29 g = some F → FnOK Tryd.prog (gls5 W5) g F := fun g F h => by
  unfold spec29 at h
  split at h
  · cases h; exact O34
  · cases h; exact O37
  · cases h
theorem C29f : FnsOK Tryd.prog (C5 prim W5 spec29 stopAll) := C5.fok O29s fun g h => by
  unfold spec29 at h
  split at h
  all_goals first | (cases h; done) | kernel_rfl
def F29 : List Sh → Tree Sh
  | [.agg [.sl 2 n g, .sl 8 m h]] => .need (okB Oj n g) (.need (okB Ev m h) (.need (retsB m h) (.node (bigB n m) (.leaf (.tup [.agg [.sl 0 0 fun _ => [], .sl 0 0 fun _ => []], .er 2 125])) (.node (goodB n m g h)
      (.node (takeB m (rwAt h)) (.leaf (.tup [.agg [.os 31 2 (spN (rwAt h) m) (fnR (rwAt (α := Oj) g)), .os 34 8 m (fnR (rwAt (α := Ev) h))], .v .nilIface])) (.leaf (.tup [.agg [.sl 0 0 fun _ => [], .sl 0 0 fun _ => []], .ifc 81 (.pt [.i .i64 (takeK m (rwAt h)), .er (takeE m (rwAt h)) 125])])))
      (.leaf (.tup [.agg [.sl 0 0 fun _ => [], .sl 0 0 fun _ => []], .ifc 81 (.pt [.i .i64 (badPos n m g h), .er (badNo n m g h) 125])]))))))
  | _ => .fail
theorem loop29 {H0 : Mem} {w0 : World} {n m : Nat} {o : Nat → Oj} {p : Nat → Ev} {φ : Sh → Prop} (G : GoodH n m o p) (hφ : φ (.tup [.agg [.os 31 2 (spN p m) (fnR o), .os 34 8 m (fnR p)], .v .nilIface])) :
    ∀ rm i, i + rm = m → GoesS Tryd.prog (C5 prim W5 spec29 stopAll) (K0 H0 w0) 29 td29 (LO29 n m o p (spN p i) (m : Int) i) [] emp φ
  | rm, i, hi => by
    have hs := G.small
    refine goesS_into (fn := Tryd.f29) (tb := tb29) (by kernel_rfl) (by kernel_rfl) ?_
    refine goesS_runTo (C5.ok _ _) C29f (hold := noHold) (m := 300) (n := 400) (ts := [⟨29, td29, LO29 n m o p (spN p (i + 1)) (m : Int) (i + 1 : Nat), []⟩]) ?_
    rw [b29 prim W5 n m o p (spN p i) (spN p (i + 1)) (m : Int) i (i + 1 : Nat)]
    have hle := spN_le G i (by omega)
    refine ⟨fun h => ?_, fun h => ?_⟩
    · have hlt : i < m := by simp [prim_lt] at h; omega
      have hw : prim.add .i64 (i : Int) (Int.ofNat 1) = ((i + 1 : Nat) : Int) := by rw [prim_add, one_eq, wrap_id (by omega) (by omega)]; rfl
      match rm, hi with
      | 0, hi => omega
      | rm + 1, hi =>
        have next := loop29 (H0 := H0) (w0 := w0) G hφ rm (i + 1) (by omega)
        refine ⟨by simp [prim_inB]; omega, fun q => ?_, fun q => ?_⟩
        · have q : (p i).kind = 2 := of_decide_eq_true q
          have ho := G.obj i hlt q
          refine ⟨⟨?_, rfl, rfl, hw, rfl, rfl, trivial⟩, _, rfl, next⟩
          show prim.max (spN p i : Int) (prim.add .i64 (p i).obj (Int.ofNat 1)) = (spN p (i + 1) : Int)
          rw [prim_add, one_eq, wrap_id (by omega) (by omega)]
          simp only [spN, q, if_true]
          rw [prim_max]
          split <;> omega
        · have q : ¬ (p i).kind = 2 := of_decide_eq_false q
          refine ⟨⟨?_, rfl, rfl, hw, rfl, rfl, trivial⟩, _, rfl, next⟩
          show (spN p i : Int) = (spN p (i + 1) : Int)
          simp only [spN, q, if_false]
    · have : i = m := by simp [prim_lt] at h; omega
      subst this
      exact ⟨(by rw [prim_upTo]; exact decide_eq_true (by omega)), room_ok (by simp [prim_toN]; omega) (by omega), room_ok (by omega) (by omega), hφ⟩
theorem O29 : FnOK Tryd.prog (gls5 W5) 29 F29 := by
  refine fnOK_S (C := C5 prim W5 spec29 stopAll) (C5.ok _ _) (fn := Tryd.f29) (by kernel_rfl) (by kernel_rfl) fun H w shs args φ hrep h => ?_
  have hn : Tryd.f29.ntmps = 37 := by kernel_rfl
  unfold F29 at h
  split at h
  · rename_i n g m h'
    obtain ⟨h1, h2, h3, h4, h5⟩ := h
    match args, hrep with
    | [v], ⟨hv, _⟩ =>
      rw [hn]
      refine ⟨[.agg [.sl 2 n (fnR (rwAt (α := Oj) g)), .sl 8 m (fnR (rwAt (α := Ev) h'))]], ⟨rep_agg_rows2 hv h1 h2, trivial⟩, L0, ?_⟩
      refine goesS_runTo (C5.ok _ _) C29f (hold := noHold) (m := 300) (n := 400) (ts := [⟨29, td29, LO29 n m (rwAt g) (rwAt h') (0 : Nat) (m : Int) (0 : Nat), []⟩]) ?_
      rw [a29 prim W5 n m (rwAt g) (rwAt h') (0 : Nat) (m : Int) (0 : Nat)]
      have hgd : goodB n m (fnR (rwAt (α := Oj) g)) (fnR (rwAt (α := Ev) h')) = goodB n m g h' := by
        unfold goodB; rw [rw_put, rw_put]
      have hret' : ∀ k, k < m → in64 (rwAt (α := Ev) h' k).ret = true := fun k hk => List.all_eq_true.1 h3 k (List.mem_range.2 hk)
      have hret : retsB m (fnR (rwAt (α := Ev) h')) = true := List.all_eq_true.2 fun i hi => by
        rw [rw_put]; exact List.all_eq_true.1 h3 i hi
      refine ⟨okB_put _ _, okB_put _ _, hret, fun q => h4 q, fun q => ⟨fun q2 => ?_, fun q2 => ?_⟩⟩
      · obtain ⟨hT, hF⟩ := (h5 q).1 (hgd ▸ q2)
        have G := good_of q (hgd ▸ q2 : goodB n m g h' = true) hret'
        rw [rw_put]
        exact ⟨fun q3 => ⟨⟨rfl, rfl, rfl, rfl, rfl, rfl, trivial⟩, _, rfl, loop29 G (hT q3) m 0 (by omega)⟩, fun q3 => hF q3⟩
      · have := (h5 q).2 (hgd ▸ q2)
        unfold badPos badNo at this ⊢
        rw [rw_put, rw_put]
        exact this
  · exact h.elim
end Go.Proofs
namespace Go.Pl
open Go Go.Sx
def keepA (a b : Int) : Nat → Ev → Bool := fun _ e => !(e.tx == a) && !(e.tx == b)
def keepB (a : Int) : Nat → Ev → Bool := fun _ e => e.tx == a
def keepC : Nat → Ev → Bool := fun _ _ => true
end Go.Pl
namespace Go.Proofs
open Go Go.Sx Go.Pl
def keepO : Sh → Option (Nat → Ev → Bool)
  | .fn 40 [.pt [.fn 24 [.pt [.i .i64 a], .pt [.i .i64 b]]]] => some (keepA a b)
  | .fn 40 [.pt [.fn 25 [.pt [.i .i64 a]]]] => some (keepB a)
  | .fn 40 [.pt [.fn 26 [.pt [.i .i64 a]]]] => some (keepB a)
  | .fn 40 [.pt [.fn 28 []]] => some keepC
  | _ => none
def F38o : List Sh → Tree Sh
  | [.agg [.sl 2 n g, .sl 8 m h], cl] => match keepO cl with
    | some P => .need (okB Ev m h) (.need (roomB n 16) (.need (roomB m 64) (.leaf (.agg [.os 31 2 n g, osR 34 8 (keptF P (rwAt h) m)]))))
    | none => .fail
  | _ => .fail
def spec17 : Nat → Option (List Sh → Tree Sh)
  | 38 => some F38o
  | _ => none

theorem a17_24 (A : Prim) (W : Wd) (n m : Nat) (g : Nat → List Sh) (p : Nat → Ev) (a b : Int) : runR (C5 A W spec17 stopAll) noHold 300 400 17 [.code []] (start0 8 [.agg [.sl 2 n g, .sl 8 m (fnR p)], .fn 24 [.pt [.i .i64 a], .pt [.i .i64 b]]] L0) [] = Tree.need (okB Ev m (fnR p)) (Tree.need (roomB n 16) (Tree.need (roomB m 64) (Tree.leaf (Fe3.ret (Sh.agg [Sh.os 31 2 n g, Sh.os 34 8 (len (keptF (keepA a b) (rwAt (fnR p)) m)) (fnR (nth (keptF (keepA a b) (rwAt (fnR p)) m)))]))))) := by kernel_rfl
theorem a17_25 (A : Prim) (W : Wd) (n m : Nat) (g : Nat → List Sh) (p : Nat → Ev) (a : Int) : runR (C5 A W spec17 stopAll) noHold 300 400 17 [.code []] (start0 8 [.agg [.sl 2 n g, .sl 8 m (fnR p)], .fn 25 [.pt [.i .i64 a]]] L0) [] = Tree.need (okB Ev m (fnR p)) (Tree.need (roomB n 16) (Tree.need (roomB m 64) (Tree.leaf (Fe3.ret (Sh.agg [Sh.os 31 2 n g, Sh.os 34 8 (len (keptF (keepB a) (rwAt (fnR p)) m)) (fnR (nth (keptF (keepB a) (rwAt (fnR p)) m)))]))))) := by kernel_rfl
theorem a17_26 (A : Prim) (W : Wd) (n m : Nat) (g : Nat → List Sh) (p : Nat → Ev) (a : Int) : runR (C5 A W spec17 stopAll) noHold 300 400 17 [.code []] (start0 8 [.agg [.sl 2 n g, .sl 8 m (fnR p)], .fn 26 [.pt [.i .i64 a]]] L0) [] = Tree.need (okB Ev m (fnR p)) (Tree.need (roomB n 16) (Tree.need (roomB m 64) (Tree.leaf (Fe3.ret (Sh.agg [Sh.os 31 2 n g, Sh.os 34 8 (len (keptF (keepB a) (rwAt (fnR p)) m)) (fnR (nth (keptF (keepB a) (rwAt (fnR p)) m)))]))))) := by kernel_rfl
theorem a17_28 (A : Prim) (W : Wd) (n m : Nat) (g : Nat → List Sh) (p : Nat → Ev) : runR (C5 A W spec17 stopAll) noHold 300 400 17 [.code []] (start0 8 [.agg [.sl 2 n g, .sl 8 m (fnR p)], .fn 28 []] L0) [] = Tree.need (okB Ev m (fnR p)) (Tree.need (roomB n 16) (Tree.need (roomB m 64) (Tree.leaf (Fe3.ret (Sh.agg [Sh.os 31 2 n g, Sh.os 34 8 (len (keptF keepC (rwAt (fnR p)) m)) (fnR (nth (keptF keepC (rwAt (fnR p)) m)))]))))) := by kernel_rfl
end Go.Proofs
namespace Go.Proofs
open Go Go.Sx Go.Pl
theorem O38o : FnOK Tryd.prog (gls5 W5) 38 F38o := fun H w shs args φ h1 h2 h3 h4 => by
  unfold F38o at h4
  split at h4
  · rename_i n g m h cl
    split at h4
    · rename_i P hP
      unfold keepO at hP
      split at hP
      all_goals first | (cases hP; done) | (cases hP; exact O38 H w _ args φ h1 h2 h3 h4)
    · exact h4.elim
  · exact h4.elim
theorem O17s : ∀ g F, spec17 g = some F → FnOK Tryd.prog (gls5 W5) g F := fun g F h => by
  unfold spec17 at h
  split at h
  · cases h; exact O38o
  · cases h
theorem C17f : FnsOK Tryd.prog (C5 prim W5 spec17 stopAll) := C5.fok O17s fun g h => by
  unfold spec17 at h
  split at h
  all_goals first | (cases h; done) | kernel_rfl
def keepP : Sh → Option (Nat → Ev → Bool)
  | .fn 24 [.pt [.i .i64 a], .pt [.i .i64 b]] => some (keepA a b)
  | .fn 25 [.pt [.i .i64 a]] => some (keepB a)
  | .fn 26 [.pt [.i .i64 a]] => some (keepB a)
  | .fn 28 [] => some keepC
  | _ => none
def F17 : List Sh → Tree Sh
  | [.agg [.sl 2 n g, .sl 8 m h], cl] => match keepP cl with
    | some P => .need (okB Ev m h) (.need (roomB n 16) (.need (roomB m 64) (.leaf (.agg [.os 31 2 n g, osR 34 8 (keptF P (rwAt h) m)]))))
    | none => .fail
  | _ => .fail
theorem O17 : FnOK Tryd.prog (gls5 W5) 17 F17 := by
  refine fnOK_S (C := C5 prim W5 spec17 stopAll) (C5.ok _ _) (fn := Tryd.f17) (by kernel_rfl) (by kernel_rfl) fun H w shs args φ hrep h => ?_
  have hn : Tryd.f17.ntmps = 8 := by kernel_rfl
  unfold F17 at h
  split at h
  · rename_i n g m h' cl
    split at h
    · rename_i P hP
      obtain ⟨h1, h2, h3, h4⟩ := h
      match args, hrep with
      | [v, u], ⟨hv, hu, _⟩ =>
        have hv' := rep_agg_rows hv h1
        rw [hn]
        unfold keepP at hP
        split at hP
        · rename_i a b
          cases hP
          refine ⟨[.agg [.sl 2 n g, .sl 8 m (fnR (rwAt (α := Ev) h'))], .fn 24 [.pt [.i .i64 a], .pt [.i .i64 b]]], ⟨hv', hu, trivial⟩, L0, ?_⟩
          refine goesS_runR (C5.ok _ _) C17f (hold := noHold) (m := 300) (n := 400) ?_
          rw [a17_24 prim W5 n m g (rwAt h') a b, meetsR_eq, rw_put]
          exact ⟨okB_put _ _, h2, h3, h4⟩
        · rename_i a
          cases hP
          refine ⟨[.agg [.sl 2 n g, .sl 8 m (fnR (rwAt (α := Ev) h'))], .fn 25 [.pt [.i .i64 a]]], ⟨hv', hu, trivial⟩, L0, ?_⟩
          refine goesS_runR (C5.ok _ _) C17f (hold := noHold) (m := 300) (n := 400) ?_
          rw [a17_25 prim W5 n m g (rwAt h') a, meetsR_eq, rw_put]
          exact ⟨okB_put _ _, h2, h3, h4⟩
        · rename_i a
          cases hP
          refine ⟨[.agg [.sl 2 n g, .sl 8 m (fnR (rwAt (α := Ev) h'))], .fn 26 [.pt [.i .i64 a]]], ⟨hv', hu, trivial⟩, L0, ?_⟩
          refine goesS_runR (C5.ok _ _) C17f (hold := noHold) (m := 300) (n := 400) ?_
          rw [a17_26 prim W5 n m g (rwAt h') a, meetsR_eq, rw_put]
          exact ⟨okB_put _ _, h2, h3, h4⟩
        · cases hP
          refine ⟨[.agg [.sl 2 n g, .sl 8 m (fnR (rwAt (α := Ev) h'))], .fn 28 []], ⟨hv', hu, trivial⟩, L0, ?_⟩
          refine goesS_runR (C5.ok _ _) C17f (hold := noHold) (m := 300) (n := 400) ?_
          rw [a17_28 prim W5 n m g (rwAt h'), meetsR_eq, rw_put]
          exact ⟨okB_put _ _, h2, h3, h4⟩
        · cases hP
    · exact h.elim
  · exact h.elim
end Go.Proofs
namespace Go.Pl
open Go Go.Sx Go.Proofs
def txSt (l : List Sh) : Int := match l with | [_, _, .i .i64 c, _, _, _, _] => c | _ => 0
/-- Is there such a transaction, and is it committed? -/
def cmB (k : Nat) (g : Nat → List Sh) (x : Int) : Bool := match findAt k g x with | some j => txSt (g j) == 3 | none => false
def keepM (k : Nat) (g : Nat → List Sh) : Nat → Ev → Bool := fun _ e => cmB k g e.tx
end Go.Pl
namespace Go.Proofs
open Go Go.Sx Go.Pl
def F49 : List Sh → Tree Sh
  | [.i .i64 x, .pt [.sl 7 k g]] => .need (okT k g) (.leaf (.b (cmB k g x)))
  | _ => .fail
def spec49 : Nat → Option (List Sh → Tree Sh)
  | 44 => some F44
  | _ => none
def spec38m : Nat → Option (List Sh → Tree Sh)
  | 37 => some F37
  | 49 => some F49
  | _ => none
def cl49 (k : Nat) (g : Nat → List Sh) : Sh := .fn 40 [.pt [.fn 49 [.pt [.sl 7 k g]]]]
def F38m : List Sh → Tree Sh
  | [.agg [.sl 2 n g, .sl 8 m h], .fn 40 [.pt [.fn 49 [.pt [.sl 7 k g']]]]] => .need (okT k g') (.need (okB Ev m h) (.need (roomB n 16) (.need (roomB m 64) (.leaf (.agg [.os 31 2 n g, osR 34 8 (keptF (keepM k g') (rwAt h) m)])))))
  | _ => .fail
def spec17m : Nat → Option (List Sh → Tree Sh)
  | 38 => some F38m
  | _ => none

theorem a49 (A : Prim) (W : Wd) (k : Nat) (rs : Nat → Rc) (N : Nat → Nat) (D : Nat → Nat → List Sh) (x : Int) : runR (C5 A W spec49 stopAll) noHold 300 200 49 [.code []] (start0 21 [.i .i64 x, .pt [.sl 7 k (gT rs N D)]] L0) [] = Tree.need (okT k (gT rs N D)) (Tree.node (findB k (gT rs N D) x) (Tree.need (A.inB (findI k (gT rs N D) x) k) (Tree.leaf (Fe3.ret (Sh.b (A.eq (rs (A.toN (findI k (gT rs N D) x))).st (Int.ofNat 3)))))) (Tree.leaf (Fe3.ret (Sh.b false)))) := by kernel_rfl
theorem a38m (A : Prim) (W : Wd) (n m k : Nat) (g g' : Nat → List Sh) (p : Nat → Ev) (i' : Int) (k' : Nat) (gg' : Nat → List Sh) : runTo (C5 A W spec38m stopAll) noHold 300 200 38 [.code []] (start0 32 [.agg [.sl 2 n g, .sl 8 m (fnR p)], (cl49 k g')] L0) [] [⟨38, td10, LO38 n m g p (cl49 k g') i' k' gg', []⟩] = Tree.need (roomB n 16) (Tree.need (roomB 0 64) (Tree.leaf (Fe2.at_ 0 [Eqn.nat 1 1, Eqn.fun_ (fun (x : Nat) => [Sh.fn 49 [Sh.pt [Sh.sl 7 k g']]]) fun (x : Nat) => [Sh.fn 49 [Sh.pt [Sh.sl 7 k g']]], Eqn.nat 0 0, Eqn.sh (Sh.sl 8 m (fnR p)) (Sh.sl 8 m (fnR p)), Eqn.int (A.ofN m) (Int.ofNat m), Eqn.int (Int.ofNat 0) i', Eqn.nat n n, Eqn.get n g g, Eqn.nat 0 k', Eqn.get 0 (fun (x : Nat) => []) gg']))) := by kernel_rfl
theorem b38m (A : Prim) (W : Wd) (n m c : Nat) (g g' : Nat → List Sh) (p : Nat → Ev) (i i' : Int) (k k' : Nat) (gg gg' : Nat → List Sh) : runTo (C5 A W spec38m stopAll) noHold 300 200 38 tb10 (LO38 n m g p (cl49 c g') i k gg) [] [⟨38, td10, LO38 n m g p (cl49 c g') i' k' gg', []⟩] = Tree.node (A.lt i (Int.ofNat m)) (Tree.need (A.inB i m) (Tree.need (okT c g') (Tree.node (cmB c g' (p (A.toN i)).tx) (Tree.need (A.room (A.addN k 1) 64) (Tree.leaf (Fe2.at_ 0 [Eqn.nat 1 1, Eqn.fun_ (fun (x : Nat) => [Sh.fn 49 [Sh.pt [Sh.sl 7 c g']]]) fun (x : Nat) => [Sh.fn 49 [Sh.pt [Sh.sl 7 c g']]], Eqn.nat 0 0, Eqn.sh (Sh.sl 8 m (fnR p)) (Sh.sl 8 m (fnR p)), Eqn.int (Int.ofNat m) (Int.ofNat m), Eqn.int (A.add IntKind.i64 i (Int.ofNat 1)) i', Eqn.nat n n, Eqn.get n g g, Eqn.nat (A.addN k 1) k', Eqn.get (A.addN k 1) (A.snoc gg k (nthL [[Sh.i IntKind.i64 (p (A.toN i)).kind, Sh.i IntKind.i64 (p (A.toN i)).tx, Sh.i IntKind.i64 (p (A.toN i)).thread, Sh.i IntKind.i64 (p (A.toN i)).obj, Sh.i IntKind.i64 (p (A.toN i)).op, Sh.i IntKind.i64 (p (A.toN i)).key, Sh.i IntKind.i64 (p (A.toN i)).val, Sh.i IntKind.i64 (p (A.toN i)).ret]])) gg']))) (Tree.leaf (Fe2.at_ 0 [Eqn.nat 1 1, Eqn.fun_ (fun (x : Nat) => [Sh.fn 49 [Sh.pt [Sh.sl 7 c g']]]) fun (x : Nat) => [Sh.fn 49 [Sh.pt [Sh.sl 7 c g']]], Eqn.nat 0 0, Eqn.sh (Sh.sl 8 m (fnR p)) (Sh.sl 8 m (fnR p)), Eqn.int (Int.ofNat m) (Int.ofNat m), Eqn.int (A.add IntKind.i64 i (Int.ofNat 1)) i', Eqn.nat n n, Eqn.get n g g, Eqn.nat k k', Eqn.get k gg gg']))))) (Tree.leaf (Fe2.ret (Sh.agg [Sh.os 31 2 n g, Sh.os 34 8 k gg]))) := by kernel_rfl
theorem a17m (A : Prim) (W : Wd) (n m k : Nat) (g g' : Nat → List Sh) (p : Nat → Ev) : runR (C5 A W spec17m stopAll) noHold 300 400 17 [.code []] (start0 8 [.agg [.sl 2 n g, .sl 8 m (fnR p)], .fn 49 [.pt [.sl 7 k g']]] L0) [] = Tree.need (okT k g') (Tree.need (okB Ev m (fnR p)) (Tree.need (roomB n 16) (Tree.need (roomB m 64) (Tree.leaf (Fe3.ret (Sh.agg [Sh.os 31 2 n g, Sh.os 34 8 (len (keptF (keepM k g') (rwAt (fnR p)) m)) (fnR (nth (keptF (keepM k g') (rwAt (fnR p)) m)))])))))) := by kernel_rfl
end Go.Proofs
