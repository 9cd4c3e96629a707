/-
  States that say less, as equations that the kernel computes. A run over several frames: whatever is called is entered; loops stop in any frame. And memory beside what the executor knows. Rules for runs over several frames: loops, states that say less, calls that are looked at from outside, summaries. Checkers: structs of numbers that are compared, kinds of errors. A call from whatever memory is known of, to its end: what is known of memory then. A call under memory that no id names: what it leaves; ids that are hidden; hidden memory that will not change any more. A slice that has grown by elements that hold slices of one's own: these are frozen, and it is a slice that grows again. Targets that stand at one place: the first that fits is taken. Frames with deferred calls and rounds of a range over a function: single steps. Runs over several frames with ranges over functions: definitions, what the world's own blocks for them are.
-/
import Derived.Test.YtikaakiadiaeoaaGreatDoorB04
import Derived.Laws.StructEq
import Derived.RangeFuncIn
import Derived.RangeFuncRecord
namespace Go.Sx
def isRn (r : Option Rn) (id : Nat) : Bool := match r with | some (.id i) => i == id | _ => false
def isRnNil (r : Option Rn) : Bool := match r with | some .nil => true | _ => false
mutual
def qS (hp : List (Nat × SB)) (ρ : List (Nat × Rn)) : SV → SV → Option (List Eqn)
 | _, .any => some []
 | x, .sym k m => match x with
  | .int k' n => iff2 (k' == k) (some [.int n m])
  | .sym k' n => iff2 (k' == k) (some [.int n m])
  | _ => none
 | x, .test b => match x with
  | .bool b' => some [.bool b' b]
  | .test b' => some [.bool b' b]
  | _ => none
 | x, .gs id' => match x with
  | .gs id => iff2 (isRn (look? ρ id') id) (some [])
  | .nils => iff2 (isRnNil (look? ρ id')) (some [])
  | _ => none
 | x, .ptr id' off' => match x with
  | .ptr id off => iff2 (isRn (look? ρ id') id && off == off') (some [])
  | _ => none
 | x, .mp id' => match x with
  | .mp id => iff2 (isRn (look? ρ id') id) (some [])
  | _ => none
 | x, .fn f' l' => match x with
  | .fn f l => iff2 (f == f') (qL hp ρ l l')
  | _ => none
 | x, .agg l' => match x with
  | .agg l => qL hp ρ l l'
  | _ => none
 | x, .tup l' => match x with
  | .tup l => qL hp ρ l l'
  | _ => none
 | x, .ifc t' y => match x with
  | .ifc t z => iff2 (t == t') (qS hp ρ z y)
  | _ => none
 | x, .sh s => (toSh hp x).map fun s' => [.sh s' s]
 | x, .shp st' n' g' i' off' => match x with
  | .shp st n g i off => iff2 (st == st' && off == off') (some [.nat n n', .fun_ g g', .nat i i'])
  | x => iff2 (off' == 0) ((toSh hp x).map fun s => [.sh s (.pt (g' i')), .nat (g' i').length st', .bool (Nat.blt i' n') true])
 | x, .int k' n' => match x with
  | .int k n => iff2 (k == k') (some [.int n n'])
  | .sym k n => iff2 (k == k') (some [.int n n'])
  | _ => none
 | x, .bool b' => match x with
  | .bool b => iff2 (b == b') (some [])
  | .test b => some [.bool b b']
  | _ => none
 | .nilp, .nilp => some []
 | .nils, .nils => some []
 | .nilf, .nilf => some []
 | .nili, .nili => some []
 | .nilm, .nilm => some []
 | .glob g, .glob g' => iff2 (g == g') (some [])
 | .str l, .str l' => some [.str l l']
 | .val v, .val v' => some [.val v v']
 | _, _ => none
def qL (hp : List (Nat × SB)) (ρ : List (Nat × Rn)) : List SV → List SV → Option (List Eqn)
 | [], [] => some []
 | x :: l, y :: l' => app2 (qS hp ρ x y) (qL hp ρ l l')
 | _, _ => none
end
def qM (hp : List (Nat × SB)) (ρ : List (Nat × Rn)) : List (SV × SV) → List (SV × SV) → Option (List Eqn)
 | [], [] => some []
 |(a, b) :: l, (a', b') :: l' => app2 (qS hp ρ a a') (app2 (qS hp ρ b b') (qM hp ρ l l'))
 | _, _ => none
def qB (hp : List (Nat × SB)) (ρ : List (Nat × Rn)) (id' : Nat) : SB → Option (List Eqn)
 | .box cells' e' => match look? ρ id' with
  | some (.id id) => match look? hp id with
   | some (.box cells e) => iff2 (e == e') (qL hp ρ cells cells')
   | _ => none
  | _ => none
 | .row cells' e' st' n' => match look? ρ id' with
  | some (.id id) => match look? hp id with
   | some (.row cells e st n) => iff2 (e == e' && st == st' && n == n') (qL hp ρ cells cells')
   | _ => none
  | _ => none
 | .own e' st' n' g' => match look? ρ id' with
  | some (.id id) => match ownEls hp id with
   | some (e, st, n, g) => iff2 (e == e' && st == st') (some [.nat n n', .get n g g'])
   | _ => none
  | some .nil => some [.nat n' 0]
  | none => none
 | .map es' => match look? ρ id' with
  | some (.id id) => match look? hp id with
   | some (.map es) => qM hp ρ es es'
   | _ => none
  | _ => none
 | .fz _ _ _ => none
 | .fzb _ => none
 | .ownx _ _ _ _ _ => none
 | .fm _ _ _ _ _ => none
 | .buf e' l' => match look? ρ id' with
  | some (.id id) => match look? hp id with
   | some (.buf e l) => iff2 (e == e') (some [.str l l'])
   | _ => none
  | _ => none
def qH (hp : List (Nat × SB)) (ρ : List (Nat × Rn)) : List (Nat × SB) → Option (List Eqn)
 | [] => some []
 |(id', sb) :: l => app2 (qB hp ρ id' sb) (qH hp ρ l)
def qC (ρ : List (Nat × Rn)) (c c' : Core) : Option (List Eqn) := iff2 (rnOK c'.nx ρ) (app2 (qL c.hp ρ c.tm c'.tm) (qH c.hp ρ c'.hp))
section
variable {hp : List (Nat × SB)} {ρ : List (Nat × Rn)}
theorem isRn_ok {r : Option Rn} {id : Nat} (h : isRn r id = true) : r = some (.id id) := by
 unfold isRn at h
 split at h
 ·simp only [beq_iff_eq] at h; subst h; rfl
 ·cases h
theorem isRnNil_ok {r : Option Rn} (h : isRnNil r = true) : r = some .nil := by
 unfold isRnNil at h
 split at h
 ·rfl
 ·cases h
mutual
theorem qS_ok : ∀ {x : SV} (y : SV) {l : List Eqn}, qS hp ρ x y = some l → Eqn.all l → leS hp ρ x y
 | x, .any, l, h, ha => by cases x <;> trivial
 | x, .sym k m, l, h, ha => by
  cases x <;> simp only [qS] at h
  all_goals first
   |(cases h; done)
   |(obtain ⟨h1, h2⟩ := iff2_some h; cases h2; simp only [beq_iff_eq] at h1; subst h1; simp only [leS]; exact ⟨trivial, ha.1⟩)
 | x, .test b, l, h, ha => by
  cases x <;> simp only [qS] at h
  all_goals first
   |(cases h; done)
   |(cases h; simp only [leS]; exact ha.1)
 | x, .gs id', l, h, ha => by
  cases x <;> simp only [qS] at h
  all_goals first
   |(cases h; done)
   |(obtain ⟨h1, h2⟩ := iff2_some h; simp only [leS]; exact isRn_ok h1)
   |(obtain ⟨h1, h2⟩ := iff2_some h; simp only [leS]; exact isRnNil_ok h1)
 | x, .ptr id' off', l, h, ha => by
  cases x <;> simp only [qS] at h
  all_goals first
   |(cases h; done)
   |(obtain ⟨h1, h2⟩ := iff2_some h; simp only [Bool.and_eq_true, beq_iff_eq] at h1; simp only [leS]; exact ⟨isRn_ok h1.1, h1.2⟩)
 | x, .mp id', l, h, ha => by
  cases x <;> simp only [qS] at h
  all_goals first
   |(cases h; done)
   |(obtain ⟨h1, h2⟩ := iff2_some h; simp only [leS]; exact isRn_ok h1)
 | x, .fn f' l', l, h, ha => by
  cases x <;> simp only [qS] at h
  all_goals first
   |(cases h; done)
   |(obtain ⟨h1, h2⟩ := iff2_some h; simp only [beq_iff_eq] at h1; simp only [leS]; exact ⟨h1, qL_ok l' h2 ha⟩)
 | x, .agg l', l, h, ha => by
  cases x <;> simp only [qS] at h
  all_goals first
   |(cases h; done)
   |(simp only [leS]; exact qL_ok l' h ha)
 | x, .tup l', l, h, ha => by
  cases x <;> simp only [qS] at h
  all_goals first
   |(cases h; done)
   |(simp only [leS]; exact qL_ok l' h ha)
 | x, .ifc t' y, l, h, ha => by
  cases x <;> simp only [qS] at h
  all_goals first
   |(cases h; done)
   |(obtain ⟨h1, h2⟩ := iff2_some h; simp only [beq_iff_eq] at h1; simp only [leS]; exact ⟨h1, qS_ok y h2 ha⟩)
 | x, .sh s, l, h, ha => by
  have h0 : ∃ s', toSh hp x = some s' ∧ s' = s := by
   cases x <;> simp only [qS, Option.map_eq_some_iff] at h
   all_goals
    obtain ⟨s', h1, rfl⟩ := h
    exact ⟨s', h1, ha.1⟩
  obtain ⟨s', h1, rfl⟩ := h0
  cases x <;> simp only [leS] <;> exact .inl h1
 | x, .int k n, l, h, ha => by
  cases x <;> simp only [qS] at h
  all_goals first
   |(cases h; done)
   |(obtain ⟨h1, h2⟩ := iff2_some h; cases h2; simp only [beq_iff_eq] at h1; simp only [leS]; exact ⟨h1, ha.1⟩)
 | x, .bool b, l, h, ha => by
  cases x <;> simp only [qS] at h
  all_goals first
   |(cases h; done)
   |(obtain ⟨h1, h2⟩ := iff2_some h; simp only [beq_iff_eq] at h1; simp only [leS]; exact h1)
   |(cases h; simp only [leS]; exact ha.1)
 | x, .nilp, l, h, ha => by cases x <;> simp only [qS] at h <;> first | (cases h; done) | (simp only [leS])
 | x, .nils, l, h, ha => by cases x <;> simp only [qS] at h <;> first | (cases h; done) | (simp only [leS])
 | x, .nilf, l, h, ha => by cases x <;> simp only [qS] at h <;> first | (cases h; done) | (simp only [leS])
 | x, .nili, l, h, ha => by cases x <;> simp only [qS] at h <;> first | (cases h; done) | (simp only [leS])
 | x, .nilm, l, h, ha => by cases x <;> simp only [qS] at h <;> first | (cases h; done) | (simp only [leS])
 | x, .glob g, l, h, ha => by
  cases x <;> simp only [qS] at h
  all_goals first
   |(cases h; done)
   |(obtain ⟨h1, h2⟩ := iff2_some h; simp only [beq_iff_eq] at h1; simp only [leS]; exact h1)
 | x, .str s, l, h, ha => by
  cases x <;> simp only [qS] at h
  all_goals first
   |(cases h; done)
   |(cases h; simp only [leS]; exact ha.1)
 | x, .val s, l, h, ha => by
  cases x <;> simp only [qS] at h
  all_goals first
   |(cases h; done)
   |(cases h; simp only [leS]; exact ha.1)
 | x, .shp st n g i off, l, h, ha => by
  have key : ∀ (q : Option Sh), iff2 (off == 0) (q.map fun s => [Eqn.sh s (.pt (g i)), .nat (g i).length st, .bool (Nat.blt i n) true]) = some l → q = some (.pt (g i)) ∧ off = 0 ∧ (g i).length = st ∧ i < n := fun q h => by
   obtain ⟨h1, h2⟩ := iff2_some h
   simp only [Option.map_eq_some_iff] at h2
   obtain ⟨s, h3, rfl⟩ := h2
   have e1 : s = .pt (g i) := ha.1
   exact ⟨by rw [h3, e1], by simpa using h1, ha.2.1, blt_spec ha.2.2.1⟩
  cases x <;> simp only [qS] at h
  case shp => obtain ⟨h1, h2⟩ := iff2_some h; cases h2; simp only [Bool.and_eq_true, beq_iff_eq] at h1; simp only [leS]; exact ⟨h1.1, ha.1, ha.2.1, ha.2.2.1, h1.2⟩
  all_goals
   simp only [leS]
   exact key _ h
 | x, .gp id st i off, l, h, ha => by cases x <;> simp only [qS] at h <;> cases h
 | x, .ev id, l, h, ha => by cases x <;> simp only [qS] at h <;> cases h
 | x, .vw id n, l, h, ha => by cases x <;> simp only [qS] at h <;> cases h
theorem qL_ok : ∀ {l : List SV} (l' : List SV) {q : List Eqn}, qL hp ρ l l' = some q → Eqn.all q → leL hp ρ l l'
 | [], [], _, _, _ => trivial
 | x :: l, y :: l', q, h, ha => by
  simp only [qL] at h
  obtain ⟨a, b, h1, h2, rfl⟩ := app2_some h
  exact ⟨qS_ok y h1 (Eqn.all_app ha).1, qL_ok l' h2 (Eqn.all_app ha).2⟩
 | [], _ :: _, _, h, _ => by simp [qL] at h
 | _ :: _, [], _, h, _ => by simp [qL] at h
end
theorem qM_ok : ∀ {l l' : List (SV × SV)} {q : List Eqn}, qM hp ρ l l' = some q → Eqn.all q → leM hp ρ l l'
 | [], [], _, _, _ => trivial
 |(a, b) :: l, (a', b') :: l', q, h, ha => by
  simp only [qM] at h
  obtain ⟨q1, q2, h1, h2, rfl⟩ := app2_some h
  obtain ⟨q3, q4, h3, h4, rfl⟩ := app2_some h2
  obtain ⟨a1, a2⟩ := Eqn.all_app ha
  obtain ⟨a3, a4⟩ := Eqn.all_app a2
  exact ⟨qS_ok a' h1 a1, qS_ok b' h3 a3, qM_ok h4 a4⟩
 | [], _ :: _, _, h, _ => by simp [qM] at h
 | _ :: _, [], _, h, _ => by simp [qM] at h
theorem qB_ok {id' : Nat} {sb : SB} {q : List Eqn} (h : qB hp ρ id' sb = some q) (ha : Eqn.all q) : leB hp ρ id' sb := by
 cases sb with
 | box cells' e' =>
  simp only [qB] at h
  simp only [leB]
  split at h
  ·rename_i id hr
   simp only [hr]
   split at h
   ·rename_i cells e hl
    simp only [hl]
    obtain ⟨h1, h2⟩ := iff2_some h
    exact ⟨by simpa using h1, qL_ok _ h2 ha⟩
   ·cases h
  ·cases h
 | row cells' e' st' n' =>
  simp only [qB] at h
  simp only [leB]
  split at h
  ·rename_i id hr
   simp only [hr]
   split at h
   ·rename_i cells e st n hl
    simp only [hl]
    obtain ⟨h1, h2⟩ := iff2_some h
    simp only [Bool.and_eq_true, beq_iff_eq] at h1
    exact ⟨h1.1.1, h1.1.2, h1.2, qL_ok _ h2 ha⟩
   ·cases h
  ·cases h
 | own e' st' n' g' =>
  simp only [qB] at h
  simp only [leB]
  split at h
  ·rename_i id hr
   simp only [hr]
   split at h
   ·rename_i e st n g hl
    simp only [hl]
    obtain ⟨h1, h2⟩ := iff2_some h
    cases h2
    simp only [Bool.and_eq_true, beq_iff_eq] at h1
    exact ⟨h1.1, h1.2, ha.1, ha.2.1⟩
   ·cases h
  ·rename_i hr
   simp only [hr]
   cases h
   exact ha.1
  ·cases h
 | map es' =>
  simp only [qB] at h
  simp only [leB]
  split at h
  ·rename_i id hr
   simp only [hr]
   split at h
   ·rename_i es hl
    simp only [hl]
    exact qM_ok h ha
   ·cases h
  ·cases h
 | fz st n g => simp [qB] at h
 | fzb l => simp [qB] at h
 | ownx e st n g m => simp [qB] at h
 | fm k M fs us t => simp [qB] at h
 | buf e' l' =>
  simp only [qB] at h
  split at h
  ·rename_i id hr
   split at h
   ·rename_i e l hl
    obtain ⟨h1, h2⟩ := iff2_some h
    cases h2
    simp only [leB, hr, hl]
    exact ⟨by simpa using h1, ha.1⟩
   ·cases h
  ·cases h
theorem qH_ok : ∀ {l : List (Nat × SB)} {q : List Eqn}, qH hp ρ l = some q → Eqn.all q → leH hp ρ l
 | [], _, _, _ => trivial
 |(id', sb) :: l, q, h, ha => by
  simp only [qH] at h
  obtain ⟨a, b, h1, h2, rfl⟩ := app2_some h
  exact ⟨qB_ok h1 (Eqn.all_app ha).1, qH_ok h2 (Eqn.all_app ha).2⟩
theorem qC_ok {c c' : Core} {q : List Eqn} (h : qC ρ c c' = some q) (ha : Eqn.all q) : leC ρ c c' := by
 unfold qC at h
 obtain ⟨h1, h2⟩ := iff2_some h
 obtain ⟨a, b, h3, h4, rfl⟩ := app2_some h2
 exact ⟨qL_ok _ h3 (Eqn.all_app ha).1, qH_ok h4 (Eqn.all_app ha).2, h1⟩
end
inductive Fe where
 | ret (s : Sh)
 | at_ (l : List Eqn)
def itEq : It → It → Bool
 | .code p, .code q => p == q
 | .inBlock i, .inBlock j => i == j
 | .reg p l, .reg q m => p == q && l == m
 | .beg, .beg => true
 | _, _ => false
def itsEq : List It → List It → Bool
 | [], [] => true
 | x :: l, y :: m => itEq x y && itsEq l m
 | _, _ => false
theorem itEq_ok {x y : It} (h : itEq x y = true) : x = y := by
 cases x <;> cases y <;> simp [itEq] at h <;> simp_all
theorem itsEq_ok : ∀ {l m : List It}, itsEq l m = true → l = m
 | [], [], _ => rfl
 | x :: l, y :: m, h => by
  simp only [itsEq, Bool.and_eq_true] at h
  rw [itEq_ok h.1, itsEq_ok h.2]
 | [], _ :: _, h => by simp [itsEq] at h
 | _ :: _, [], h => by simp [itsEq] at h
end Go.Sx
namespace Go.Sx
structure Fr where
 g : Nat
 td : List It
 tm : List SV
inductive OutS where
 | fin (v : SV) (c : Core)
 | stop (g : Nat) (td : List It) (c : Core) (stk : List Fr)
def pushOf (C : Ctx) (fn : Func) (td : List It) (c : Core) : Option (Nat × Func × List SV) :=
 match td with
 | .reg p (i :: _) :: _ => match codeAt (bodyOf fn) p with
  | .region _ ops _ => match opAt ops.toList i with
   | some o => match wantOf ops.toList c.tm o with
    | .yes => match o.op with
     | .call k => match k.callee with
      | .value f => match evL c.tm f with
       | .fn g cs => match C.spec g with
        | some _ => none
        | none => match C.fns.get g with
         | some fn' => bif Nat.ble (k.args.toList.map (evL c.tm) ++ cs).length fn'.ntmps && fn'.body.isSome then some (g, fn', k.args.toList.map (evL c.tm) ++ cs) else none
         | none => none
       | _ => none
      | _ => none
     | _ => none
    | _ => none
   | none => none
  | _ => none
 | _ => none
def holdB (hold : Nat → Bool) (fn : Func) (td : List It) (c : Core) : Bool :=
 match td with
 | .reg p (i :: _) :: _ => match codeAt (bodyOf fn) p with
  | .region _ ops _ => match opAt ops.toList i with
   | some o => match o.op with
    | .call k => match k.callee with
     | .value f => match evL c.tm f with
      | .fn g _ => hold g
      | _ => false
     | _ => false
    | _ => false
   | none => false
  | _ => false
 | _ => false
def popOf (C : Ctx) (f : Fr) (v : SV) (c : Core) : Option (List It × Core) :=
 match C.fns.get f.g with
 | some fn => match f.td with
  | .reg p (i :: r) :: k => match codeAt (bodyOf fn) p with
   | .region _ ops _ => some (.reg p r :: k, { c with tm := putS f.tm ((opAt ops.toList i).bind (·.dst)) v })
   | _ => none
  | _ => none
 | none => none
def runS (C : Ctx) (hold : Nat → Bool) (m : Nat) : Nat → Nat → List It → Core → List Fr → Tree OutS
 | 0, g, td, c, stk => .leaf (.stop g td c stk)
 | n + 1, g, td, c, stk => match C.fns.get g with
  | none => .fail
  | some fn => bif holdB hold fn td c then .leaf (.stop g td c stk) else match pushOf C fn td c with
   | some r => runS C hold m n r.1 [.code []] { c with tm := r.2.2 ++ List.replicate (r.2.1.ntmps - r.2.2.length) .any } ({ g, td, tm := c.tm } :: stk)
   | none => (stepR C (callWith C (run C m false)) true g fn td c).bind fun s => match s with
    | .go td c => runS C hold m n g td c stk
    | .halt td c => .leaf (.stop g td c stk)
    | .done v c => match stk with
     | [] => .leaf (.fin v c)
     | f :: stk => match popOf C f v c with
      | some r => runS C hold m n f.g r.1 r.2 stk
      | none => .fail
def base (g : Nat) : Frame := { (default : Frame) with fn := g, kind := .normal }
def StkOK (C : Ctx) (H : Mem) (E : Env) : List Fr → List Frame → Prop
 | [], [] => True
 | f :: s, mf :: ms => (∃ fn a items, C.fns.get f.g = some fn ∧ DenL H E f.tm a.tmps.toList ∧ a.defers = [] ∧ ItOK (bodyOf fn) f.td items ∧ mf = (base f.g).at a items) ∧ StkOK C H E s ms
 | _, _ => False
abbrev Hp := Nat → Option Obj
def ExtOK (R : Hp → Prop) (K : Kx) (H : Mem) (E : Env) (w : World) : Prop :=
 ∃ h : Hp, R h ∧ ∀ b o, h b = some o → w.heap[b]? = some o ∧ H b = none ∧ (∀ i, bk E i ≠ some b) ∧ (K.w0.heap.size ≤ b ∨ K.own b)
def emp : Hp → Prop := fun _ => True
def botG (g : Nat) : List Fr → Nat
 | [] => g
 | f :: s => botG f.g s
def GoesS (P : Program) (C : Ctx) (K : Kx) (g : Nat) (td : List It) (c : Core) (stk : List Fr) (R : Hp → Prop) (φ : Sh → Prop) : Prop :=
 ∀ (H : Mem) (E : Env) (w : World) (a : Act) (items : List Item) (ms cs : List Frame) (fn : Func), C.fns.get g = some fn → St C K H E w c a → ItOK (bodyOf fn) td items → StkOK C H E stk ms → ExtOK R K H E w →
  ∃ (a' : Act) (w' : World) (v : Value) (s : Sh) (H' : Mem) (todo : List Item) (fn0 : Func), C.fns.get (botG g stk) = some fn0 ∧ Steps P (lone ((base g).at a items) (ms ++ cs) w) (lone { (base (botG g stk)).at a' todo with mode := .returning } cs w') ∧
   a'.defers = [] ∧ φ s ∧ SpecRes K.H0 K.w0 s v H' w' ∧ (results fn0 a'.tmps).run P w' = .ok v w'
section
variable {P : Program} {C : Ctx} {K : Kx} {H H' H'' H0 : Mem} {E E' E'' E1 : Env} {w w' w'' w0 : World}
theorem StkOK.le (hH : H.le H') (hE : E.le E') : ∀ {s : List Fr} {ms : List Frame}, StkOK C H E s ms → StkOK C H' E' s ms
 | [], [], _ => trivial
 | _ :: _, _ :: _, ⟨⟨fn, a, items, h1, h2, h3⟩, h4⟩ => ⟨⟨fn, a, items, h1, h2.le hH hE, h3⟩, StkOK.le hH hE h4⟩
 | [], _ :: _, h => h.elim
 | _ :: _, [], h => h.elim
/-! The start anew: what is known of the rest of memory. -/
def reK (H : Mem) (E : Env) (w : World) (hp : List (Nat × SB)) : Kx := ⟨w, fun b => ∃ id sb, look? hp id = some sb ∧ obk E id sb = some b, H⟩
theorem Ent.reK {K1 K2 : Kx} {id : Nat} {sb : SB} (h : Ent K1 H E w id sb) (hm : ∀ b, obk E id sb = some b → Mine K1 H b → Mine K2 H b) : Ent K2 H E w id sb := by
 cases sb with
 | box cells elem => obtain ⟨b, cs, he, h1, h2, h3⟩ := h; exact ⟨b, cs, he, h1, h2, hm b (by simp [obk, he, blkV]) h3⟩
 | row cells elem st n => obtain ⟨v, xs, he, h1, h2, h3⟩ := h; exact ⟨v, xs, he, h1, h2, fun b hb => hm b (by simp [obk, he, hb]) (h3 b hb)⟩
 | own elem st n g => obtain ⟨v, xs, he, h1, h2, h3⟩ := h; exact ⟨v, xs, he, h1, h2, fun b hb => hm b (by simp [obk, he, hb]) (h3 b hb)⟩
 | fz st n g => exact h
 | map es => obtain ⟨b, ms, clk, he, h1, h2, h3⟩ := h; exact ⟨b, ms, clk, he, h1, h2, hm b (by simp [obk, he, blkV]) h3⟩
 | fzb l => exact h
 | ownx elem st n g more => obtain ⟨v, xs, ys, he, h1, h2, h3, h4, h5, h6⟩ := h; exact ⟨v, xs, ys, he, h1, h2, h3, h4, h5, fun b hb => hm b (by simp [obk, he, hb]) (h6 b hb)⟩
 | fm k M fs us tag => obtain ⟨b, ms, clk, fv, uv, he, h1, h2, h3, h4, h5, h6, h7⟩ := h; exact ⟨b, ms, clk, fv, uv, he, h1, h2, h3, h4, h5, h6, hm b (by simp [obk, he, blkV]) h7⟩
 | buf e l => obtain ⟨v, he, h1, h3⟩ := h; exact ⟨v, he, h1, fun b hb => hm b (by simp [obk, he, hb]) (h3 b hb)⟩
theorem heap_re {hp : List (Nat × SB)} (hh : HeapOK K H E w hp) (hw : WOK K H w) : HeapOK (reK H E w hp) H E w hp ∧ WOK (reK H E w hp) H w :=
 ⟨⟨fun id sb hl => (hh.ent id sb hl).reK fun b hb hm => ⟨hm.1, .inr ⟨id, sb, hl, hb⟩⟩, hh.dis⟩,
  ⟨rfl, rfl, rfl, Nat.le_refl _, fun _ _ _ => rfl, hw.on, fun _ _ h => h, fun _ h => .inl h⟩⟩
theorem mine_un {hp : List (Nat × SB)} (hh : HeapOK K H E w hp) (hw : WOK K H w) {b : Nat} (h : w.heap.size ≤ b ∨ (reK H E w hp).own b) : K.w0.heap.size ≤ b ∨ K.own b := by
 rcases h with h | ⟨id, sb, h1, h2⟩
 ·exact .inl (Nat.le_trans hw.size h)
 ·exact ((hh.ent _ _ h1).lt h2).2.2
theorem heap_un {hp hp' : List (Nat × SB)} (hh : HeapOK K H E w hp) (hw : WOK K H w) (hh' : HeapOK (reK H E w hp) H' E' w' hp') (hw' : WOK (reK H E w hp) H' w') : HeapOK K H' E' w' hp' ∧ WOK K H' w' := by
 refine ⟨⟨fun id sb hl => (hh'.ent id sb hl).reK fun b hb hm => ⟨hm.1, mine_un hh hw hm.2⟩, hh'.dis⟩, ⟨hw'.os.trans hw.os, hw'.tape.trans hw.tape, hw'.output.trans hw.output, Nat.le_trans hw.size hw'.size, fun b hb hn => ?_, hw'.on, fun b o h => hw'.le b o (hw.le b o h), fun b hb => ?_⟩⟩
 ·rw [hw'.kept b (by have := hw.size; exact Nat.lt_of_lt_of_le hb this) fun ho => ?_]
  ·exact hw.kept b hb hn
  ·rcases mine_un hh hw (.inr ho) with h | h
   ·omega
   ·exact hn h
 ·rcases hw'.fresh b hb with h | h
  ·exact hw.fresh b h
  ·exact .inr (mine_un hh hw h)
theorem St.re {c : Core} {a : Act} (st : St C K H E w c a) : St C (reK H E w c.hp) H E w c a :=
 ⟨st.den, (heap_re st.hp st.wok).1, (heap_re st.hp st.wok).2, st.free, st.gl, st.defers⟩
theorem St.un {c c' : Core} {a a' : Act} (st : St C K H E w c a) (st' : St C (reK H E w c.hp) H' E' w' c' a') : St C K H' E' w' c' a' :=
 ⟨st'.den, (heap_un st.hp st.wok st'.hp st'.wok).1, (heap_un st.hp st.wok st'.hp st'.wok).2, st'.free, st'.gl, st'.defers⟩
theorem ExtOK.keep {R : Hp → Prop} {c c' : Core} {a a' : Act} (h : ExtOK R K H E w) (st : St C K H E w c a) (st' : St C (reK H E w c.hp) H' E' w' c' a') (mv : Mv (reK H E w c.hp) H E w c H' E' w' c') : ExtOK R K H' E' w' := by
 obtain ⟨hh, hr, hb⟩ := h
 refine ⟨hh, hr, fun b o e => ?_⟩
 obtain ⟨h1, h2, h3, h4⟩ := hb b o e
 have hlt := (Array.getElem?_eq_some_iff.1 h1).1
 have hno : ¬ (reK H E w c.hp).own b := fun ⟨id, sb, _, q⟩ => h3 id (obk_bk q)
 refine ⟨by rw [st'.wok.kept b hlt hno]; exact h1, ?_, fun i hi => ?_, h4⟩
 ·cases hx : H' b with
  | none => rfl
  | some o' =>
   rcases st'.wok.fresh b (by rw [hx]; simp) with q | q | q
   ·exact (q h2).elim
   ·have q : w.heap.size ≤ b := q; omega
   ·exact (hno q).elim
 ·cases he : E i with
  | none =>
   rcases mv.newb i b he hi with q | ⟨id, _, q⟩
   ·omega
   ·exact h3 id q
  | some v =>
   have : bk E' i = bk E i := by simp [bk, he, mv.Ele _ _ he]
   rw [this] at hi
   exact h3 i hi
def OutSOK (P : Program) (C : Ctx) (K : Kx) (R : Hp → Prop) (φ : Sh → Prop) : OutS → Prop
 | .fin v c => ∃ s, finish c v = some s ∧ φ s
 | .stop g td c stk => GoesS P C K g td c stk R φ
theorem enter_base {g : Nat} {fn : Func} {body : Code} (hP : P.funcs[g]? = some fn) (hb : fn.body = some body) (args : Array Value) :
  Frame.enter P g args .normal = (base g).at { tmps := args ++ Array.replicate (fn.ntmps - args.size) undef, defers := [] } [.code body] := by
 simp [Frame.enter, Frame.at, hP, hb, base]
theorem goesS_run (hC : CtxOK P C) (hF : FnsOK P C) {hold : Nat → Bool} {m : Nat} {R : Hp → Prop} {φ : Sh → Prop} : ∀ {n g : Nat} {td : List It} {c : Core} {stk : List Fr}, (runS C hold m n g td c stk).All (OutSOK P C (K0 H0 w0) R φ) → GoesS P C (K0 H0 w0) g td c stk R φ
 | 0, g, td, c, stk, h => h
 | n + 1, g, td, c, stk, h => by
  intro H E w a items ms cs fn hfn st hi hs hx
  simp only [runS, hfn] at h
  cases hhold : holdB hold fn td c <;> simp only [hhold, cond_true, cond_false] at h
  rotate_left
  ·exact h H E w a items ms cs fn hfn st hi hs hx
  split at h
  ·-- a call is entered
   rename_i r hr
   unfold pushOf at hr
   split at hr
   ·rename_i p i rest k
    split at hr
    ·rename_i rid ops dr hcode
     split at hr
     ·rename_i o ho
      split at hr
      ·rename_i hwant
       split at hr
       ·rename_i kk hop
        split at hr
        ·rename_i f hcal
         split at hr
         ·rename_i g2 caps hev
          split at hr
          ·cases hr
          ·rename_i hspec
           split at hr
           ·rename_i fn2 hfn2
            cases hb : (Nat.ble (kk.args.toList.map (evL c.tm) ++ caps).length fn2.ntmps && fn2.body.isSome) <;> simp only [hb, cond_true, cond_false] at hr
            ·cases hr
            cases hr
            simp only [Bool.and_eq_true] at hb
            obtain ⟨body2, hbody2⟩ := Option.isSome_iff_exists.1 hb.2
            have ih := goesS_run hC hF h
            have hP2 := hC.fn g2 fn2 hfn2
            cases hi with
            | reg p l id ops2 hc hk =>
             rw [hc] at hcode
             cases hcode
             rename_i k'
             have df := den_ev (H := H) (E := E) st.den f
             rw [hev] at df
             obtain ⟨vs, ef, hvs⟩ := df
             have hargs := (den_map st.den kk.args.toList).append hvs
             have ho' : ops[i]? = some o := by simpa [opAt] using ho
             have hw' := wantOf_spec (ops := ops) st.den o
             rw [hwant] at hw'
             have hent := hF.en g2 (.inr (by rw [hfn2]; rfl))
             have hrun : (execOp a.eval o).run P w = .ok (.enter g2 (kk.args.map a.eval ++ vs)) w := by
              simp only [execOp, hop, resolve, hcal]
              simp [Deferred.ofValue, ef, invoke, callFunc_run hent]
             have hg := stepG_op (P := P) (b := base g) (k := k') (cs := ms ++ cs) (w := w) (rest := rest) ho' hw'
             have henter : step P (lone ((base g).at a (.inRegion ops (i :: rest) :: k')) (ms ++ cs) w) = .next (lone (Frame.enter P g2 (kk.args.map a.eval ++ vs) .normal) ((base g).at a (.inRegion ops (i :: rest) :: k') :: (ms ++ cs)) w) :=
              step_lone_go (by rw [hg]; simp [stepG.apply, hrun, Frame.at])
             rw [enter_base hP2 hbody2] at henter
             have hl := hargs.length
             have hlen : (kk.args.map a.eval ++ vs).size = (kk.args.toList.map (evL c.tm) ++ caps).length := by
              rw [← hl]; simp
             have st2 : St C (K0 H0 w0) H E w { c with tm := (kk.args.toList.map (evL c.tm) ++ caps) ++ List.replicate (fn2.ntmps - (kk.args.toList.map (evL c.tm) ++ caps).length) .any } { tmps := (kk.args.map a.eval ++ vs) ++ Array.replicate (fn2.ntmps - (kk.args.map a.eval ++ vs).size) undef, defers := [] } := by
              refine ⟨?_, st.hp, st.wok, st.free, st.gl, rfl⟩
              have : ((kk.args.map a.eval ++ vs) ++ Array.replicate (fn2.ntmps - (kk.args.map a.eval ++ vs).size) undef).toList = (kk.args.toList.map a.eval ++ vs.toList) ++ List.replicate (fn2.ntmps - (kk.args.toList.map (evL c.tm) ++ caps).length) undef := by
               rw [hlen]; simp
              simp only [this]
              exact hargs.append (DenL.any _ _ (by simp))
             have hit2 : ItOK (bodyOf fn2) [.code []] [.code body2] := by
              have := ItOK.code (body := bodyOf fn2) [] ItOK.nil
              have he : codeAt (bodyOf fn2) [] = body2 := by simp [codeAt, bodyOf, hbody2]
              rwa [he] at this
             have hs2 : StkOK C H E ({ g, td := .reg p (i :: rest) :: k, tm := c.tm } :: stk) ((base g).at a (.inRegion ops (i :: rest) :: k') :: ms) :=
              ⟨⟨fn, a, _, hfn, st.den, st.defers, .reg p (i :: rest) _ ops hc hk, rfl⟩, hs⟩
             obtain ⟨a', w', v, s, H', todo, fn0, q1, q2, q3⟩ := ih H E w _ _ (_ :: ms) cs fn2 hfn2 st2 hit2 hs2 hx
             exact ⟨a', w', v, s, H', todo, fn0, q1, .head henter q2, q3⟩
           ·cases hr
         ·cases hr
        ·cases hr
       ·cases hr
      ·cases hr
     ·cases hr
    ·cases hr
   ·cases hr
  ·have hK := call_hyp (K := reK H E w c.hp) hC hF (run_ok hC hF m)
   obtain ⟨sig, h1, h2⟩ := stepR_ok hC hF hK (Tree.All_bind h) st.re hi (base g) (ms ++ cs)
   cases sig with
   | go td' c' =>
    obtain ⟨a', w', H', E', items', q1, q2, q3, q4⟩ := h2
    obtain ⟨a2, w2, v, s, H2, todo, fn0, r1, r2, r3⟩ := goesS_run hC hF h1 H' E' w' a' items' ms cs fn hfn (st.un q2) q4 (hs.le q3.Hle q3.Ele) (hx.keep st q2 q3)
    exact ⟨a2, w2, v, s, H2, todo, fn0, r1, q1.trans r2, r3⟩
   | halt td' c' =>
    obtain ⟨a', w', H', E', items', q1, q2, q3, q4⟩ := h2
    obtain ⟨a2, w2, v, s, H2, todo, fn0, r1, r2, r3⟩ := h1 H' E' w' a' items' ms cs fn hfn (st.un q2) q4 (hs.le q3.Hle q3.Ele) (hx.keep st q2 q3)
    exact ⟨a2, w2, v, s, H2, todo, fn0, r1, q1.trans r2, r3⟩
   | done sv c' =>
    obtain ⟨a', w', H', E', v, todo, q1, q2, q3, q4, q5⟩ := h2
    cases stk with
    | nil =>
     cases ms with
     | cons _ _ => exact hs.elim
     | nil =>
      obtain ⟨s, e1, e2⟩ := h1
      obtain ⟨H2, r⟩ := finish_ok (st.un q2) e1 q4
      exact ⟨a', w', v, s, H2, todo, fn, hfn, q1, q2.defers, e2, r, q5⟩
    | cons f stk =>
     cases ms with
     | nil => exact hs.elim
     | cons mf ms =>
      simp only at h1
      split at h1
      ·rename_i r hr
       unfold popOf at hr
       split at hr
       ·rename_i fnf hfnf
        split at hr
        ·rename_i p i rest k htd
         split at hr
         ·rename_i rid ops dr hcode
          cases hr
          obtain ⟨⟨fn3, a3, items3, g1, g2, g3, g4, g5⟩, hs'⟩ := hs.le q3.Hle q3.Ele
          rw [hfnf] at g1; cases g1
          rw [htd] at g4
          cases g4 with
          | reg p l id ops2 hc hk =>
           rw [hc] at hcode
           cases hcode
           rename_i k'
           subst g5
           have hleave : step P (lone { (base g).at a' todo with mode := .returning } ((base f.g).at a3 (.inRegion ops (i :: rest) :: k') :: (ms ++ cs)) w') = .next (lone ((base f.g).at (a3.put ((opAt ops.toList i).bind (·.dst)) v) (.inRegion ops rest :: k')) (ms ++ cs) w') := by
            rw [step_leave_returned (v := v) ⟨rfl, q2.defers, rfl, fn, hC.fn g fn hfn, q5⟩, Frame.finish_at]
            simp [opAt]
           have st3 : St C (K0 H0 w0) H' E' w' { c' with tm := putS f.tm ((opAt ops.toList i).bind (·.dst)) sv } (a3.put ((opAt ops.toList i).bind (·.dst)) v) :=
            ⟨den_put (c := { c' with tm := f.tm }) g2 _ q4, (st.un q2).hp, (st.un q2).wok, q2.free, q2.gl, by rw [put_defers]; exact g3⟩
           obtain ⟨a2, w2, v2, s, H2, todo2, fn0, r1, r2, r3⟩ := goesS_run hC hF h1 H' E' w' _ _ ms cs fnf hfnf st3 (.reg p rest _ ops hc hk) hs' (hx.keep st q2 q3)
           exact ⟨a2, w2, v2, s, H2, todo2, fn0, r1, (q1.trans (.one hleave)).trans r2, r3⟩
         ·cases hr
        ·cases hr
       ·cases hr
      ·exact h1.elim
end
end Go.Sx
namespace Go.Sx
structure Tgt where
 g : Nat
 td : List It
 c : Core
 stk : List Fr
mutual
def coll : SV → SV → List (Nat × Rn)
 | .gs i, .gs j => [(i, .id j)]
 | .gs i, .nils => [(i, .nil)]
 | .ptr i _, .ptr j _ => [(i, .id j)]
 | .mp i, .mp j => [(i, .id j)]
 | .fn _ l, .fn _ m => collL l m
 | .agg l, .agg m => collL l m
 | .tup l, .tup m => collL l m
 | .ifc _ x, .ifc _ y => coll x y
 | _, _ => []
def collL : List SV → List SV → List (Nat × Rn)
 | x :: l, y :: m => coll x y ++ collL l m
 | _, _ => []
end
def collM : List (SV × SV) → List (SV × SV) → List (Nat × Rn)
 |(a, b) :: l, (c, d) :: m => coll a c ++ coll b d ++ collM l m
 | _, _ => []
def collB : Option SB → Option SB → List (Nat × Rn)
 | some (.box l _), some (.box m _) => collL l m
 | some (.row l _ _ _), some (.row m _ _ _) => collL l m
 | some (.map l), some (.map m) => collM l m
 | _, _ => []
def collF : List Fr → List Fr → List (Nat × Rn)
 | f :: s, f' :: s' => collL f.tm f'.tm ++ collF s s'
 | _, _ => []
def infer (hp' hp : List (Nat × SB)) : Nat → List (Nat × Rn) → List (Nat × Rn) → List (Nat × Rn)
 | 0, _, acc => acc
 | _, [], acc => acc
 | n + 1, (i, r) :: t, acc => match look? acc i with
  | some _ => infer hp' hp n t acc
  | none => match r with
   | .id j => infer hp' hp n (collB (look? hp' i) (look? hp j) ++ t) ((i, r) :: acc)
   | .nil => infer hp' hp n t ((i, r) :: acc)
def qStk (hp : List (Nat × SB)) (ρ : List (Nat × Rn)) : List Fr → List Fr → Option (List Eqn)
 | [], [] => some []
 | f :: s, f' :: s' => iff2 (f.g == f'.g && itsEq f.td f'.td) (app2 (qL hp ρ f.tm f'.tm) (qStk hp ρ s s'))
 | _, _ => none
inductive Fe2 where
 | ret (s : Sh)
 | at_ (k : Nat) (l : List Eqn)
def sameStk : List Fr → List Fr → Bool
 | [], [] => true
 | f :: s, f' :: s' => f.g == f'.g && itsEq f.td f'.td && sameStk s s'
 | _, _ => false
def Tgt.rn (t : Tgt) (c : Core) (stk : List Fr) : List (Nat × Rn) := infer t.c.hp c.hp 4000 (collL t.c.tm c.tm ++ collF t.stk stk) []
def matchT (g : Nat) (td : List It) (c : Core) (stk : List Fr) : Nat → List Tgt → Tree Fe2
 | _, [] => .fail
 | k, t :: r => bif g == t.g && itsEq td t.td && sameStk stk t.stk then match app2 (qC (t.rn c stk) c t.c) (qStk c.hp (t.rn c stk) stk t.stk) with
   | some l => .leaf (.at_ k l)
   | none => .fail
  else matchT g td c stk (k + 1) r
def toFe2 (ts : List Tgt) : OutS → Tree Fe2
 | .fin v c => match finish c v with
  | some s => .leaf (.ret s)
  | none => .fail
 | .stop g td c stk => matchT g td c stk 0 ts
def runTo (C : Ctx) (hold : Nat → Bool) (m n g : Nat) (td : List It) (c : Core) (stk : List Fr) (ts : List Tgt) : Tree Fe2 := (runS C hold m n g td c stk).bind (toFe2 ts)
def Fe2OK (P : Program) (C : Ctx) (K : Kx) (ts : List Tgt) (R : Hp → Prop) (φ : Sh → Prop) : Fe2 → Prop
 | .ret s => φ s
 | .at_ k l => Eqn.all l ∧ ∃ t, ts[k]? = some t ∧ GoesS P C K t.g t.td t.c t.stk R φ
section
variable {P : Program} {C : Ctx} {K : Kx} {H H' H'' H0 : Mem} {E E' E'' E1 : Env} {w w' w'' w0 : World}
def leStk (hp : List (Nat × SB)) (ρ : List (Nat × Rn)) : List Fr → List Fr → Prop
 | [], [] => True
 | f :: s, f' :: s' => f.g = f'.g ∧ f.td = f'.td ∧ leL hp ρ f.tm f'.tm ∧ leStk hp ρ s s'
 | _, _ => False
theorem qStk_ok {hp : List (Nat × SB)} {ρ : List (Nat × Rn)} : ∀ {s s' : List Fr} {q : List Eqn}, qStk hp ρ s s' = some q → Eqn.all q → leStk hp ρ s s'
 | [], [], _, _, _ => trivial
 | f :: s, f' :: s', q, h, ha => by
  simp only [qStk] at h
  obtain ⟨h1, h2⟩ := iff2_some h
  obtain ⟨a, b, h3, h4, rfl⟩ := app2_some h2
  simp only [Bool.and_eq_true, beq_iff_eq] at h1
  exact ⟨h1.1, itsEq_ok h1.2, qL_ok _ h3 (Eqn.all_app ha).1, qStk_ok h4 (Eqn.all_app ha).2⟩
 | [], _ :: _, _, h, _ => by simp [qStk] at h
 | _ :: _, [], _, h, _ => by simp [qStk] at h
theorem StkOK.weak {hp : List (Nat × SB)} {ρ : List (Nat × Rn)} (hh : HeapOK K H E w hp) : ∀ {s s' : List Fr} {ms : List Frame}, StkOK C H E s ms → leStk hp ρ s s' → StkOK C H (rnEnv ρ E) s' ms
 | [], [], [], _, _ => trivial
 | f :: s, f' :: s', m :: ms, ⟨⟨fn, a, items, h1, h2, h3, h4, h5⟩, h6⟩, ⟨e1, e2, e3, e4⟩ =>
  ⟨⟨fn, a, items, by rw [← e1]; exact h1, leL_den hh _ e3 h2, h3, by rw [← e2]; exact h4, by rw [← e1]; exact h5⟩, StkOK.weak hh h6 e4⟩
 | [], [], _ :: _, h, _ => h.elim
 | _ :: _, _, [], h, _ => h.elim
 | [], _ :: _, _, _, h => h.elim
 | _ :: _, [], _ :: _, _, h => h.elim
theorem ExtOK.weak {R : Hp → Prop} {ρ : List (Nat × Rn)} (h : ExtOK R K H E w) : ExtOK R K H (rnEnv ρ E) w := by
 obtain ⟨hh, h1, h2⟩ := h
 refine ⟨hh, h1, fun b o e => ?_⟩
 obtain ⟨a1, a2, a3, a4⟩ := h2 b o e
 refine ⟨a1, a2, fun i => ?_, a4⟩
 unfold bk rnEnv
 cases hr : look? ρ i with
 | none => simp
 | some r =>
  cases r with
  | id j => exact a3 j
  | nil => simp [blkV]
theorem botG_le {hp : List (Nat × SB)} {ρ : List (Nat × Rn)} : ∀ {s s' : List Fr} {g : Nat}, leStk hp ρ s s' → botG g s' = botG g s
 | [], [], _, _ => rfl
 | f :: s, f' :: s', _, ⟨e1, _, _, e4⟩ => by simp only [botG]; rw [e1]; exact botG_le e4
 | [], _ :: _, _, h => h.elim
 | _ :: _, [], _, h => h.elim
theorem goesS_weak {g : Nat} {td : List It} {c c' : Core} {stk stk' : List Fr} {R : Hp → Prop} {φ : Sh → Prop} (ρ : List (Nat × Rn)) (hle : leC ρ c c') (hs : leStk c.hp ρ stk stk') (h : GoesS P C K g td c' stk' R φ) : GoesS P C K g td c stk R φ := by
 intro H E w a items ms cs fn hfn st hi hst hx
 have := h H (rnEnv ρ E) w a items ms cs fn hfn (st.weak hle) hi (hst.weak st.hp hs) hx.weak
 rw [botG_le hs] at this
 exact this
theorem matchT_ok {R : Hp → Prop} {φ : Sh → Prop} {ts : List Tgt} {g : Nat} {td : List It} {c : Core} {stk : List Fr} : ∀ {r : List Tgt} {k : Nat}, (∀ j, r[j]? = ts[k + j]?) → (matchT g td c stk k r).All (Fe2OK P C K ts R φ) → GoesS P C K g td c stk R φ
 | [], _, _, h => h.elim
 | t :: r, k, hk, h => by
  unfold matchT at h
  cases hb : (g == t.g && itsEq td t.td && sameStk stk t.stk) <;> simp only [hb, cond_true, cond_false] at h
  ·exact matchT_ok (fun j => by have := hk (j + 1); simp only [List.getElem?_cons_succ] at this; rw [this]; congr 1; omega) h
  ·simp only [Bool.and_eq_true, beq_iff_eq] at hb
   obtain ⟨⟨h1, h2⟩, h3⟩ := hb
   split at h
   ·rename_i l hl
    obtain ⟨a, b, q1, q2, rfl⟩ := app2_some hl
    obtain ⟨hl, t', ht, hg⟩ := h
    have := hk 0
    simp only [List.getElem?_cons_zero, Nat.add_zero] at this
    rw [← this] at ht
    cases ht
    have h2 := itsEq_ok h2
    subst h1 h2
    exact goesS_weak (t.rn c stk) (qC_ok q1 (Eqn.all_app hl).1) (qStk_ok q2 (Eqn.all_app hl).2) hg
   ·exact h.elim
theorem gSr (hC : CtxOK P C) (hF : FnsOK P C) {hold : Nat → Bool} {m n g : Nat} {td : List It} {c : Core} {stk : List Fr} {ts : List Tgt} {R : Hp → Prop} {φ : Sh → Prop}
  (h : (runTo C hold m n g td c stk ts).All (Fe2OK P C (K0 H0 w0) ts R φ)) : GoesS P C (K0 H0 w0) g td c stk R φ := by
 refine goesS_run hC hF (hold := hold) (m := m) (n := n) ((Tree.All_bind h).mono fun o ho => ?_)
 cases o with
 | fin v c =>
  simp only [toFe2] at ho
  split at ho
  ·rename_i s hs
   exact ⟨s, hs, ho⟩
  ·exact ho.elim
 | stop g td c stk => exact matchT_ok (k := 0) (fun j => by simp) ho
theorem goesS_loop {g : Nat} {fn : Func} {p : List Nat} {k : List It} {x : Code} {c : Core} {stk : List Fr} {R : Hp → Prop} {φ : Sh → Prop} (hfn : C.fns.get g = some fn) (hx : codeAt (bodyOf fn) p = .loop x)
  (h : GoesS P C K g (.code (0 :: p) :: .code p :: k) c stk R φ) : GoesS P C K g (.code p :: k) c stk R φ := by
 intro H E w a items ms cs fn' hfn' st hi hs he
 rw [hfn] at hfn'; cases hfn'
 have h0 : codeAt (bodyOf fn) (0 :: p) = x := by simp [codeAt, hx, child]
 cases hi with
 | code p hk =>
  have := ItOK.code (0 :: p) (ItOK.loop p x hx hk)
  rw [h0] at this
  rw [hx]
  obtain ⟨a2, w2, v, s, H', todo, fn0, r0, r1, r2⟩ := h H E w a _ ms cs fn hfn st this hs he
  exact ⟨a2, w2, v, s, H', todo, fn0, r0, .head step_loop r1, r2⟩
 | loop p y hl hk =>
  rw [hx] at hl; cases hl
  have := ItOK.code (0 :: p) (ItOK.loop p x hx hk)
  rw [h0] at this
  obtain ⟨a2, w2, v, s, H', todo, fn0, r0, r1, r2⟩ := h H E w a _ ms cs fn hfn st this hs he
  exact ⟨a2, w2, v, s, H', todo, fn0, r0, .head step_inLoop r1, r2⟩
theorem GoesS.mono {g : Nat} {td : List It} {c : Core} {stk : List Fr} {R : Hp → Prop} {φ ψ : Sh → Prop} (h : GoesS P C K g td c stk R φ) (hp : ∀ s, φ s → ψ s) : GoesS P C K g td c stk R ψ :=
 fun H E w a items ms cs fn h1 h2 h3 h4 h5 => let ⟨a2, w2, v, s, H2, todo, fn0, r1, r2, r3, r4, r5⟩ := h H E w a items ms cs fn h1 h2 h3 h4 h5; ⟨a2, w2, v, s, H2, todo, fn0, r1, r2, r3, hp s r4, r5⟩
theorem ext_emp : ExtOK emp K H E w := ⟨fun _ => none, trivial, fun _ _ h => by cases h⟩
theorem fnOK_S (hC : CtxOK P C) {g : Nat} {fn : Func} {F : List Sh → Tree Sh} (hfn : C.fns.get g = some fn) (hb : fn.body.isSome = true)
  (h : ∀ (H : Mem) (w : World) (shs : List Sh) (args : List Value) (φ : Sh → Prop), RepL H shs args → (F shs).All φ → ∃ shs' : List Sh, RepL H shs' args ∧ ∃ L, GoesS P C (K0 H w) g [.code []] (start0 fn.ntmps shs' L) [] emp φ) : FnOK P C.gls g F := by
 intro H w shs args φ hon hg hr hφ
 obtain ⟨shs', hr, L, hgo⟩ := h H w shs args φ hr hφ
 obtain ⟨body, hbody⟩ := Option.isSome_iff_exists.1 hb
 have hP := hC.fn g fn hfn
 intro cs
 let a : Act := { tmps := args.toArray ++ Array.replicate (fn.ntmps - args.toArray.size) undef, defers := [] }
 have hlen := hr.length
 have st : St C (K0 H w) H E0 w (start0 fn.ntmps shs' L) a := by
  refine ⟨?_, ⟨fun _ _ h => by simp [start0, look?] at h, fun _ _ _ _ _ h => by simp [start0, look?] at h⟩, ⟨rfl, rfl, rfl, Nat.le_refl _, fun _ _ _ => rfl, hon, fun _ _ h => h, fun _ h => .inl h⟩, fun _ _ _ => rfl, hg, rfl⟩
  have : a.tmps.toList = args ++ List.replicate (fn.ntmps - shs'.length) undef := by simp [a, hlen]
  rw [this]
  exact (argL_den hr).append (DenL.any _ _ (by simp))
 have hit : ItOK (bodyOf fn) [.code []] [.code body] := by
  have := ItOK.code (body := bodyOf fn) [] ItOK.nil
  have he : codeAt (bodyOf fn) [] = body := by simp [codeAt, bodyOf, hbody]
  rwa [he] at this
 obtain ⟨a', w', v, s, H', todo, fn0, q0, q1, q2, q3, q4, q5⟩ := hgo H E0 w a [.code body] [] cs fn hfn st hit trivial ext_emp
 exact ⟨.returned v, w', _, ⟨v, s, H', rfl, q3, q4⟩, by rw [enter_base hP hbody]; exact q1, rfl, rfl, q2, rfl, fn, hP, by cases hfn.symm.trans q0; exact q5⟩
end
end Go.Sx
namespace Go.Sx
def isLoop : Code → Bool
 | .loop _ => true
 | _ => false
def loopTd (fn : Func) : List It → Option (List It)
 | .code p :: k => bif isLoop (codeAt (bodyOf fn) p) then some (.code (0 :: p) :: .code p :: k) else none
 | _ => none
theorem gSi {P : Program} {C : Ctx} {K : Kx} {g : Nat} {fn : Func} {td tb : List It} {c : Core} {stk : List Fr} {R : Hp → Prop} {φ : Sh → Prop} (hfn : C.fns.get g = some fn) (hx : loopTd fn td = some tb)
  (h : GoesS P C K g tb c stk R φ) : GoesS P C K g td c stk R φ := by
 unfold loopTd at hx
 split at hx
 ·rename_i p k
  cases hb : isLoop (codeAt (bodyOf fn) p) <;> simp only [hb, cond_true, cond_false] at hx
  ·cases hx
  ·cases hx
   unfold isLoop at hb
   split at hb
   ·rename_i x he
    exact goesS_loop hfn he h
   ·cases hb
 ·cases hx
end Go.Sx
namespace Go.Sx
def intFieldsB (P : Program) : List Field → Nat → Bool
 | [], _ => true
 | f :: r, j => f.name != "_" && f.offset == j && (match P.underlying f.type with | some (.int .i64) => true | _ => false) && intFieldsB P r (j + 1)
def eqTyB (P : Program) (t n : Nat) : Bool :=
 (match P.underlying t with | some (.struct fs) => intFieldsB P fs.toList 0 && fs.size == n | _ => false) && !P.stoodInHeld t && !P.eqGuardType P.depth t
theorem part_int {P : Program} {t : Nat} {k : IntKind} (hu : P.underlying t = some (.int k)) (xs : List Int) (j : Nat) (n : Int) (hj : xs[j]? = some n) (w : World) :
  (part t (xs.map (Value.int .i64)).toArray j).run P w = .ok (.int .i64 n) w := by
 have : (xs.map (Value.int .i64)).toArray[j]? = some (.int .i64 n) := by simp [hj]
 simp [part, isAgg, run_underlying hu, this]
theorem eqFields_int {P : Program} (d : Nat) (w : World) : ∀ (fs : List Field) (j : Nat) (xs ys : List Int), intFieldsB P fs j = true → xs.length = j + fs.length → ys.length = j + fs.length →
  (Op.eqFields (d + 1) (xs.map (Value.int .i64)).toArray (ys.map (Value.int .i64)).toArray fs).run P w = .ok (xs.drop j == ys.drop j) w
 | [], j, xs, ys, _, h1, h2 => by
  simp only [List.length_nil, Nat.add_zero] at h1 h2
  simp [Op.eqFields, List.drop_eq_nil_of_le (Nat.le_of_eq h1), List.drop_eq_nil_of_le (Nat.le_of_eq h2)]
 | f :: fs, j, xs, ys, h, h1, h2 => by
  simp only [intFieldsB, Bool.and_eq_true, bne_iff_ne, ne_eq, beq_iff_eq] at h
  obtain ⟨⟨⟨a1, a2⟩, a3⟩, a4⟩ := h
  have hu : P.underlying f.type = some (.int .i64) := by
   split at a3
   ·assumption
   ·cases a3
  simp only [List.length_cons] at h1 h2
  have e1 : xs[j]? = some (xs[j]'(by omega)) := List.getElem?_eq_getElem (by omega)
  have e2 : ys[j]? = some (ys[j]'(by omega)) := List.getElem?_eq_getElem (by omega)
  have p1 := part_int hu xs j _ e1 w
  have p2 := part_int hu ys j _ e2 w
  have q := run_equalIn_int (P := P) w d f.type .i64 .i64 (xs[j]'(by omega)) (ys[j]'(by omega)) hu
  have ih := eqFields_int d w fs (j + 1) xs ys a4 (by omega) (by omega)
  have hd1 : xs.drop j = xs[j]'(by omega) :: xs.drop (j + 1) := List.drop_eq_getElem_cons (by omega)
  have hd2 : ys.drop j = ys[j]'(by omega) :: ys.drop (j + 1) := List.drop_eq_getElem_cons (by omega)
  have hn : f.name ≠ "_" := by simpa using a1
  simp only [Op.eqFields, hn, ne_eq, not_false_eq_true, if_true, a2, Sem.run_bind, p1, p2, q, Result.andThen_ok, Sem.run_ite]
  rw [hd1, hd2]
  by_cases hb : xs[j]'(by omega) = ys[j]'(by omega)
  ·have hb' : (xs[j]'(by omega) == ys[j]'(by omega)) = true := by simpa using hb
   simp only [hb', List.cons_beq_cons, Bool.true_and, Bool.not_true, Bool.false_eq_true, if_false]
   exact ih
  ·have hb' : (xs[j]'(by omega) == ys[j]'(by omega)) = false := by simpa using hb
   simp only [hb', List.cons_beq_cons, Bool.false_and, Bool.not_false, if_true, Sem.run_pure]
theorem eqTyB_ok {P : Program} {t n : Nat} (h : eqTyB P t n = true) (xs ys : List Int) (w : World) (h1 : xs.length = n) (h2 : ys.length = n) (x y : Operand) :
  (do eqGuard .eql t x y (.agg (xs.map (Value.int .i64)).toArray) (.agg (ys.map (Value.int .i64)).toArray); binOp .eql t (.agg (xs.map (Value.int .i64)).toArray) (.agg (ys.map (Value.int .i64)).toArray) : Sem Value).run P w = .ok (.bool (xs == ys)) w ∧
  (do eqGuard .neq t x y (.agg (xs.map (Value.int .i64)).toArray) (.agg (ys.map (Value.int .i64)).toArray); binOp .neq t (.agg (xs.map (Value.int .i64)).toArray) (.agg (ys.map (Value.int .i64)).toArray) : Sem Value).run P w = .ok (.bool (!(xs == ys))) w := by
 unfold eqTyB at h
 simp only [Bool.and_eq_true, Bool.not_eq_true'] at h
 obtain ⟨⟨a1, a2⟩, a3⟩ := h
 split at a1
 ·rename_i fs hu
  simp only [Bool.and_eq_true, beq_iff_eq] at a1
  have hf : P.fieldsOf t = fs := by simp [Program.fieldsOf, hu]
  have he := run_equalIn_struct (P := P) w 9999 t (xs.map (Value.int .i64)).toArray (ys.map (Value.int .i64)).toArray (by rw [hf]; exact hu) a2
  have hl : fs.toList.length = n := by simpa using a1.2
  rw [hf, eqFields_int 9998 w fs.toList 0 xs ys a1.1 (by omega) (by omega)] at he
  simp only [List.drop_zero] at he
  have g1 := run_eqGuard_agg (P := P) w .eql t x y (xs.map (Value.int .i64)).toArray (ys.map (Value.int .i64)).toArray a3
  have g2 := run_eqGuard_agg (P := P) w .neq t x y (xs.map (Value.int .i64)).toArray (ys.map (Value.int .i64)).toArray a3
  have b1 := run_eql_struct (P := P) w t (xs.map (Value.int .i64)).toArray (ys.map (Value.int .i64)).toArray
  have b2 := run_neq_struct (P := P) w t (xs.map (Value.int .i64)).toArray (ys.map (Value.int .i64)).toArray
  rw [he] at b1 b2
  constructor
  ·rw [Sem.run_bind, g1, Result.andThen_ok, b1, Result.andThen_ok]
  ·rw [Sem.run_bind, g2, Result.andThen_ok, b2, Result.andThen_ok]
 ·cases a1
def ersB (P : Program) : List Nat → Bool
 | [] => true
 | T :: r => (match P.info? T with | some inf => inf.comparable | none => false) && (match P.underlying T with | some (.pointer e) => (match P.info? e with | some ie => ie.size != 0 | none => false) | _ => false) && ersB P r
theorem ersB_ok {P : Program} : ∀ {l : List Nat}, ersB P l = true → ∀ T, l.contains T = true → ∃ inf e ie, P.info? T = some inf ∧ inf.comparable = true ∧ P.underlying T = some (.pointer e) ∧ P.info? e = some ie ∧ ie.size ≠ 0
 | [], _, T, h => by simp at h
 | T' :: r, h, T, hT => by
  simp only [ersB, Bool.and_eq_true] at h
  obtain ⟨⟨h1, h2⟩, h3⟩ := h
  simp only [List.contains_cons, Bool.or_eq_true, beq_iff_eq] at hT
  rcases hT with rfl | hT
  ·split at h1
   ·rename_i inf hi
    split at h2
    ·rename_i e he
     split at h2
     ·rename_i ie hie
      exact ⟨inf, e, ie, hi, h1, he, hie, by simpa using h2⟩
     ·cases h2
    ·cases h2
   ·cases h1
  ·exact ersB_ok h3 T hT
def eqTysB (P : Program) (tys : BT TyI) : List Nat → Bool
 | [] => true
 | t :: r => (match tys.get t with | some i => eqTyB P t i.size | none => true) && eqTysB P tys r
theorem eqTysB_ok {P : Program} {tys : BT TyI} : ∀ {l : List Nat}, eqTysB P tys l = true → ∀ t i, l.contains t = true → tys.get t = some i → eqTyB P t i.size = true
 | [], _, t, _, h, _ => by simp at h
 | t' :: r, h, t, i, ht, hi => by
  simp only [eqTysB, Bool.and_eq_true] at h
  simp only [List.contains_cons, Bool.or_eq_true, beq_iff_eq] at ht
  rcases ht with rfl | ht
  ·have := h.1; rw [hi] at this; exact this
  ·exact eqTysB_ok h.2 t i ht hi
end Go.Sx
namespace Go.Sx
section
variable {P : Program} {C : Ctx} {H H' : Mem} {E E' : Env} {w w' : World}
end
end Go.Sx
namespace Go.Sx
inductive OutE where
 | fin (v : SV) (hp : List (Nat × SB))
 | stop (td : List It) (c : Core)
section
variable {P : Program} {C : Ctx} {K : Kx} {H H' : Mem} {E E' E0 : Env} {w w' : World}
end
end Go.Sx
/-! Where a run ends: which state that is told of it comes to. -/
namespace Go.Sx
def collFa : List (Int × Bool × SV) → List (Int × Bool × SV) → List (Nat × Rn)
 |(_, true, x) :: l, (_, true, y) :: m => coll x y ++ collFa l m
 | _ :: l, _ :: m => collFa l m
 | _, _ => []
def collB2 : Option SB → Option SB → List (Nat × Rn)
 | some (.fm _ _ fs us _), some (.fm _ _ gs vs _) => collFa fs gs ++ collFa us vs
 | some (.ownx _ _ _ _ l), some (.ownx _ _ _ _ m) => collL l m
 | a, b => collB a b
def infer2 (hp' hp : List (Nat × SB)) : Nat → List (Nat × Rn) → List (Nat × Rn) → List (Nat × Rn)
 | 0, _, acc => acc
 | _, [], acc => acc
 | n + 1, (i, r) :: t, acc => match look? acc i with
  | some _ => infer2 hp' hp n t acc
  | none => match r with
   | .id j => infer2 hp' hp n (collB2 (look? hp' i) (look? hp j) ++ t) ((i, r) :: acc)
   | .nil => infer2 hp' hp n t ((i, r) :: acc)
structure TgE where
 hp : List (Nat × SB)
 keep : List Nat
def TgE.rn (t : TgE) (hp : List (Nat × SB)) : List (Nat × Rn) := infer2 t.hp hp 4000 (t.keep.map fun i => (i, .id i)) []
section
variable {P : Program} {C : Ctx} {K : Kx} {H H' : Mem} {E E' : Env} {w w' : World} {hp : List (Nat × SB)} {ρ : List (Nat × Rn)}
end
end Go.Sx
namespace Go.Sx
def Hp.at (h : Hp) (H : Mem) (w : World) : Prop := ∀ b o, h b = some o → w.heap[b]? = some o ∧ H b = none
mutual
def noId : SV → Bool
 | .ptr _ _ => false
 | .gs _ => false
 | .gp _ _ _ _ => false
 | .mp _ => false
 | .ev _ => false
 | .vw _ _ => false
 | .fn _ l => noIdL l
 | .agg l => noIdL l
 | .tup l => noIdL l
 | .ifc _ x => noId x
 | _ => true
def noIdL : List SV → Bool
 | [] => true
 | x :: l => noId x && noIdL l
end
def Env0 : Env := fun _ => none
mutual
theorem noId_den {H : Mem} {E E' : Env} : ∀ {x : SV} {v : Value}, noId x = true → Den H E x v → Den H E' x v
 | .any, _, _, _ => trivial
 | .val _, _, _, h => h
 | .int _ _, _, _, h => h
 | .sym _ _, _, _, h => h
 | .bool _, _, _, h => h
 | .test _, _, _, h => h
 | .str _, _, _, h => h
 | .ptr _ _, _, h, _ => by simp [noId] at h
 | .gs _, _, h, _ => by simp [noId] at h
 | .gp _ _ _ _, _, h, _ => by simp [noId] at h
 | .nilp, _, _, h => h
 | .nils, _, _, h => h
 | .nilf, _, _, h => h
 | .nili, _, _, h => h
 | .nilm, _, _, h => h
 | .fn _ l, _, hn, ⟨vs, h1, h2⟩ => ⟨vs, h1, noIdL_den (by simpa [noId] using hn) h2⟩
 | .agg l, _, hn, ⟨vs, h1, h2⟩ => ⟨vs, h1, noIdL_den (by simpa [noId] using hn) h2⟩
 | .tup l, _, hn, ⟨vs, h1, h2⟩ => ⟨vs, h1, noIdL_den (by simpa [noId] using hn) h2⟩
 | .ifc _ x, _, hn, ⟨v, h1, h2⟩ => ⟨v, h1, noId_den (by simpa [noId] using hn) h2⟩
 | .mp _, _, h, _ => by simp [noId] at h
 | .sh _, _, _, h => h
 | .shp _ _ _ _ _, _, _, h => h
 | .glob _, _, _, h => h
 | .ev _, _, h, _ => by simp [noId] at h
 | .vw _ _, _, h, _ => by simp [noId] at h
theorem noIdL_den {H : Mem} {E E' : Env} : ∀ {l : List SV} {vs : List Value}, noIdL l = true → DenL H E l vs → DenL H E' l vs
 | [], [], _, _ => trivial
 | _ :: _, _ :: _, hn, ⟨h1, h2⟩ => by
  simp only [noIdL, Bool.and_eq_true] at hn
  exact ⟨noId_den hn.1 h1, noIdL_den hn.2 h2⟩
 | [], _ :: _, _, h => h.elim
 | _ :: _, [], _, h => h.elim
end
theorem heap_nil {K : Kx} {H : Mem} {E : Env} {w : World} : HeapOK K H E w [] := ⟨fun _ _ hl => by simp [look?] at hl, fun _ _ _ _ _ hl => by simp [look?] at hl⟩
section
variable {P : Program} {C : Ctx} {H H' H0 : Mem} {E E' : Env} {w w' w0 : World}
def Mem.with (H : Mem) (h : Hp) : Mem := fun b => match h b with | some o => some o | none => H b
inductive Fe3 where
 | ret (s : Sh)
 | raw (g : Nat) (td : List It) (c : Core) (stk : List Fr)
end
end Go.Sx
namespace Go.Sx
section
variable {P : Program} {C : Ctx} {K : Kx} {H H' H0 : Mem} {E E' : Env} {w w' w0 : World}
end
end Go.Sx
namespace Go.Sx
def matchU (g : Nat) (td : List It) (c : Core) (stk : List Fr) : Nat → List Tgt → Tree Fe2
 | _, [] => .fail
 | k, t :: r => bif g == t.g && itsEq td t.td && sameStk stk t.stk then match app2 (qC (t.rn c stk) c t.c) (qStk c.hp (t.rn c stk) stk t.stk) with
   | some l => .leaf (.at_ k l)
   | none => matchU g td c stk (k + 1) r
  else matchU g td c stk (k + 1) r
def toFeU (ts : List Tgt) : OutS → Tree Fe2
 | .fin v c => match finish c v with
  | some s => .leaf (.ret s)
  | none => .fail
 | .stop g td c stk => matchU g td c stk 0 ts
section
variable {P : Program} {C : Ctx} {K : Kx} {H0 : Mem} {w0 : World}
theorem matchU_ok {R : Hp → Prop} {φ : Sh → Prop} {ts : List Tgt} {g : Nat} {td : List It} {c : Core} {stk : List Fr} : ∀ {r : List Tgt} {k : Nat}, (∀ j, r[j]? = ts[k + j]?) → (matchU g td c stk k r).All (Fe2OK P C K ts R φ) → GoesS P C K g td c stk R φ
 | [], _, _, h => h.elim
 | t :: r, k, hk, h => by
  have hr : ∀ j, r[j]? = ts[k + 1 + j]? := fun j => by have := hk (j + 1); simp only [List.getElem?_cons_succ] at this; rw [this]; congr 1; omega
  unfold matchU at h
  cases hb : (g == t.g && itsEq td t.td && sameStk stk t.stk) <;> simp only [hb, cond_true, cond_false] at h
  ·exact matchU_ok hr h
  ·simp only [Bool.and_eq_true, beq_iff_eq] at hb
   obtain ⟨⟨h1, h2⟩, h3⟩ := hb
   split at h
   ·rename_i l hl
    obtain ⟨a, b, q1, q2, rfl⟩ := app2_some hl
    obtain ⟨hl, t', ht, hg⟩ := h
    have := hk 0
    simp only [List.getElem?_cons_zero, Nat.add_zero] at this
    rw [← this] at ht
    cases ht
    have h2 := itsEq_ok h2
    subst h1 h2
    exact goesS_weak (t.rn c stk) (qC_ok q1 (Eqn.all_app hl).1) (qStk_ok q2 (Eqn.all_app hl).2) hg
   ·exact matchU_ok hr h
end
/-! A run that pauses at given places. -/
def runQ (C : Ctx) (pause : Nat → List It → Bool) (hold : Nat → Bool) (m : Nat) : Nat → Nat → List It → Core → List Fr → Tree OutS
 | 0, g, td, c, stk => .leaf (.stop g td c stk)
 | n + 1, g, td, c, stk => match C.fns.get g with
  | none => .fail
  | some fn => bif pause g td || holdB hold fn td c then .leaf (.stop g td c stk) else match pushOf C fn td c with
   | some r => runQ C pause hold m n r.1 [.code []] { c with tm := r.2.2 ++ List.replicate (r.2.1.ntmps - r.2.2.length) .any } ({ g, td, tm := c.tm } :: stk)
   | none => (stepR C (callWith C (run C m false)) true g fn td c).bind fun s => match s with
    | .go td c => runQ C pause hold m n g td c stk
    | .halt td c => .leaf (.stop g td c stk)
    | .done v c => match stk with
     | [] => .leaf (.fin v c)
     | f :: stk => match popOf C f v c with
      | some r => runQ C pause hold m n f.g r.1 r.2 stk
      | none => .fail
section
variable {P : Program} {C : Ctx} {K : Kx} {H H' H'' H0 : Mem} {E E' E'' E1 : Env} {w w' w'' w0 : World}
theorem goesS_runQ (hC : CtxOK P C) (hF : FnsOK P C) {pause : Nat → List It → Bool} {hold : Nat → Bool} {m : Nat} {R : Hp → Prop} {φ : Sh → Prop} : ∀ {n g : Nat} {td : List It} {c : Core} {stk : List Fr}, (runQ C pause hold m n g td c stk).All (OutSOK P C (K0 H0 w0) R φ) → GoesS P C (K0 H0 w0) g td c stk R φ
 | 0, g, td, c, stk, h => h
 | n + 1, g, td, c, stk, h => by
  intro H E w a items ms cs fn hfn st hi hs hx
  simp only [runQ, hfn] at h
  cases hhold : (pause g td || holdB hold fn td c) <;> simp only [hhold, cond_true, cond_false] at h
  rotate_left
  ·exact h H E w a items ms cs fn hfn st hi hs hx
  split at h
  ·-- a call is entered
   rename_i r hr
   unfold pushOf at hr
   split at hr
   ·rename_i p i rest k
    split at hr
    ·rename_i rid ops dr hcode
     split at hr
     ·rename_i o ho
      split at hr
      ·rename_i hwant
       split at hr
       ·rename_i kk hop
        split at hr
        ·rename_i f hcal
         split at hr
         ·rename_i g2 caps hev
          split at hr
          ·cases hr
          ·rename_i hspec
           split at hr
           ·rename_i fn2 hfn2
            cases hb : (Nat.ble (kk.args.toList.map (evL c.tm) ++ caps).length fn2.ntmps && fn2.body.isSome) <;> simp only [hb, cond_true, cond_false] at hr
            ·cases hr
            cases hr
            simp only [Bool.and_eq_true] at hb
            obtain ⟨body2, hbody2⟩ := Option.isSome_iff_exists.1 hb.2
            have ih := goesS_runQ hC hF h
            have hP2 := hC.fn g2 fn2 hfn2
            cases hi with
            | reg p l id ops2 hc hk =>
             rw [hc] at hcode
             cases hcode
             rename_i k'
             have df := den_ev (H := H) (E := E) st.den f
             rw [hev] at df
             obtain ⟨vs, ef, hvs⟩ := df
             have hargs := (den_map st.den kk.args.toList).append hvs
             have ho' : ops[i]? = some o := by simpa [opAt] using ho
             have hw' := wantOf_spec (ops := ops) st.den o
             rw [hwant] at hw'
             have hent := hF.en g2 (.inr (by rw [hfn2]; rfl))
             have hrun : (execOp a.eval o).run P w = .ok (.enter g2 (kk.args.map a.eval ++ vs)) w := by
              simp only [execOp, hop, resolve, hcal]
              simp [Deferred.ofValue, ef, invoke, callFunc_run hent]
             have hg := stepG_op (P := P) (b := base g) (k := k') (cs := ms ++ cs) (w := w) (rest := rest) ho' hw'
             have henter : step P (lone ((base g).at a (.inRegion ops (i :: rest) :: k')) (ms ++ cs) w) = .next (lone (Frame.enter P g2 (kk.args.map a.eval ++ vs) .normal) ((base g).at a (.inRegion ops (i :: rest) :: k') :: (ms ++ cs)) w) :=
              step_lone_go (by rw [hg]; simp [stepG.apply, hrun, Frame.at])
             rw [enter_base hP2 hbody2] at henter
             have hl := hargs.length
             have hlen : (kk.args.map a.eval ++ vs).size = (kk.args.toList.map (evL c.tm) ++ caps).length := by
              rw [← hl]; simp
             have st2 : St C (K0 H0 w0) H E w { c with tm := (kk.args.toList.map (evL c.tm) ++ caps) ++ List.replicate (fn2.ntmps - (kk.args.toList.map (evL c.tm) ++ caps).length) .any } { tmps := (kk.args.map a.eval ++ vs) ++ Array.replicate (fn2.ntmps - (kk.args.map a.eval ++ vs).size) undef, defers := [] } := by
              refine ⟨?_, st.hp, st.wok, st.free, st.gl, rfl⟩
              have : ((kk.args.map a.eval ++ vs) ++ Array.replicate (fn2.ntmps - (kk.args.map a.eval ++ vs).size) undef).toList = (kk.args.toList.map a.eval ++ vs.toList) ++ List.replicate (fn2.ntmps - (kk.args.toList.map (evL c.tm) ++ caps).length) undef := by
               rw [hlen]; simp
              simp only [this]
              exact hargs.append (DenL.any _ _ (by simp))
             have hit2 : ItOK (bodyOf fn2) [.code []] [.code body2] := by
              have := ItOK.code (body := bodyOf fn2) [] ItOK.nil
              have he : codeAt (bodyOf fn2) [] = body2 := by simp [codeAt, bodyOf, hbody2]
              rwa [he] at this
             have hs2 : StkOK C H E ({ g, td := .reg p (i :: rest) :: k, tm := c.tm } :: stk) ((base g).at a (.inRegion ops (i :: rest) :: k') :: ms) :=
              ⟨⟨fn, a, _, hfn, st.den, st.defers, .reg p (i :: rest) _ ops hc hk, rfl⟩, hs⟩
             obtain ⟨a', w', v, s, H', todo, fn0, q1, q2, q3⟩ := ih H E w _ _ (_ :: ms) cs fn2 hfn2 st2 hit2 hs2 hx
             exact ⟨a', w', v, s, H', todo, fn0, q1, .head henter q2, q3⟩
           ·cases hr
         ·cases hr
        ·cases hr
       ·cases hr
      ·cases hr
     ·cases hr
    ·cases hr
   ·cases hr
  ·have hK := call_hyp (K := reK H E w c.hp) hC hF (run_ok hC hF m)
   obtain ⟨sig, h1, h2⟩ := stepR_ok hC hF hK (Tree.All_bind h) st.re hi (base g) (ms ++ cs)
   cases sig with
   | go td' c' =>
    obtain ⟨a', w', H', E', items', q1, q2, q3, q4⟩ := h2
    obtain ⟨a2, w2, v, s, H2, todo, fn0, r1, r2, r3⟩ := goesS_runQ hC hF h1 H' E' w' a' items' ms cs fn hfn (st.un q2) q4 (hs.le q3.Hle q3.Ele) (hx.keep st q2 q3)
    exact ⟨a2, w2, v, s, H2, todo, fn0, r1, q1.trans r2, r3⟩
   | halt td' c' =>
    obtain ⟨a', w', H', E', items', q1, q2, q3, q4⟩ := h2
    obtain ⟨a2, w2, v, s, H2, todo, fn0, r1, r2, r3⟩ := h1 H' E' w' a' items' ms cs fn hfn (st.un q2) q4 (hs.le q3.Hle q3.Ele) (hx.keep st q2 q3)
    exact ⟨a2, w2, v, s, H2, todo, fn0, r1, q1.trans r2, r3⟩
   | done sv c' =>
    obtain ⟨a', w', H', E', v, todo, q1, q2, q3, q4, q5⟩ := h2
    cases stk with
    | nil =>
     cases ms with
     | cons _ _ => exact hs.elim
     | nil =>
      obtain ⟨s, e1, e2⟩ := h1
      obtain ⟨H2, r⟩ := finish_ok (st.un q2) e1 q4
      exact ⟨a', w', v, s, H2, todo, fn, hfn, q1, q2.defers, e2, r, q5⟩
    | cons f stk =>
     cases ms with
     | nil => exact hs.elim
     | cons mf ms =>
      simp only at h1
      split at h1
      ·rename_i r hr
       unfold popOf at hr
       split at hr
       ·rename_i fnf hfnf
        split at hr
        ·rename_i p i rest k htd
         split at hr
         ·rename_i rid ops dr hcode
          cases hr
          obtain ⟨⟨fn3, a3, items3, g1, g2, g3, g4, g5⟩, hs'⟩ := hs.le q3.Hle q3.Ele
          rw [hfnf] at g1; cases g1
          rw [htd] at g4
          cases g4 with
          | reg p l id ops2 hc hk =>
           rw [hc] at hcode
           cases hcode
           rename_i k'
           subst g5
           have hleave : step P (lone { (base g).at a' todo with mode := .returning } ((base f.g).at a3 (.inRegion ops (i :: rest) :: k') :: (ms ++ cs)) w') = .next (lone ((base f.g).at (a3.put ((opAt ops.toList i).bind (·.dst)) v) (.inRegion ops rest :: k')) (ms ++ cs) w') := by
            rw [step_leave_returned (v := v) ⟨rfl, q2.defers, rfl, fn, hC.fn g fn hfn, q5⟩, Frame.finish_at]
            simp [opAt]
           have st3 : St C (K0 H0 w0) H' E' w' { c' with tm := putS f.tm ((opAt ops.toList i).bind (·.dst)) sv } (a3.put ((opAt ops.toList i).bind (·.dst)) v) :=
            ⟨den_put (c := { c' with tm := f.tm }) g2 _ q4, (st.un q2).hp, (st.un q2).wok, q2.free, q2.gl, by rw [put_defers]; exact g3⟩
           obtain ⟨a2, w2, v2, s, H2, todo2, fn0, r1, r2, r3⟩ := goesS_runQ hC hF h1 H' E' w' _ _ ms cs fnf hfnf st3 (.reg p rest _ ops hc hk) hs' (hx.keep st q2 q3)
           exact ⟨a2, w2, v2, s, H2, todo2, fn0, r1, (q1.trans (.one hleave)).trans r2, r3⟩
         ·cases hr
        ·cases hr
       ·cases hr
      ·exact h1.elim
def runV (C : Ctx) (pause : Nat → List It → Bool) (m n g : Nat) (td : List It) (c : Core) (stk : List Fr) (ts : List Tgt) : Tree Fe2 := (runQ C pause (fun _ => false) m n g td c stk).bind (toFeU ts)
theorem goesS_runV (hC : CtxOK P C) (hF : FnsOK P C) {pause : Nat → List It → Bool} {m n g : Nat} {td : List It} {c : Core} {stk : List Fr} {ts : List Tgt} {φ : Sh → Prop} {R : Hp → Prop}
  (h : (runV C pause m n g td c stk ts).All (Fe2OK P C (K0 H0 w0) ts R φ)) : GoesS P C (K0 H0 w0) g td c stk R φ := by
 refine goesS_runQ hC hF (pause := pause) (hold := fun _ => false) (m := m) (n := n) ((Tree.All_bind h).mono fun o ho => ?_)
 cases o with
 | fin v c =>
  simp only [toFeU] at ho
  split at ho
  ·rename_i s hs
   exact ⟨s, hs, ho⟩
  ·exact ho.elim
 | stop g td c stk => exact matchU_ok (k := 0) (fun j => by simp) ho
end
end Go.Sx
namespace Go.Sx
def atQ (b : Frame) (a : Act) (todo : List Item) : Frame :=
 { fn := b.fn, tmps := a.tmps, todo, defers := a.defers ++ b.defers, mode := .run, kind := b.kind, roundOf := b.roundOf }
def bq (g : Nat) (r : Option Nat) (ds : List Deferred) : Frame := { (default : Frame) with fn := g, kind := .normal, roundOf := r, defers := ds }
section moves
variable {P : Program} {b : Frame} {a : Act} {k : List Item} {cs : List Frame} {w : World} {ops : Array Oper}
end moves
/-! No deferred calls in the code. -/
section
variable {P : Program} {C : Ctx} {K : Kx} {H H' H'' : Mem} {E E' E'' : Env} {w w' w'' : World}
/-! A step of the code, in such a frame. -/
end
end Go.Sx
namespace Go.Sx
inductive LSt where
 | ready | busy | done (q : List Nat)
structure Fw where
 g : Nat
 r : Option (Nat × Nat)
 td : List It
 tm : List SV
 lp : Option (Nat × List Nat × LSt)
def lstOf : LSt → LoopState
 | .ready => .ready
 | .busy => .busy
 | .done _ => .done
def jumpOf (body : Code) : LSt → Option Code
 | .done q => some (codeAt body q)
 | _ => none
def marks (rs : List Nat) : List Deferred := rs.map fun r => { target := .collected r, args := #[] }
def rOf (r : Option (Nat × Nat)) : Option Nat := r.map (·.1)
def lpB (f : Fw) : List Nat := match f.lp with
 | some (l, _, _) => [l]
 | none => []
def LpAt (fn : Func) (g : Nat) (tmps : Array Value) (p : List Nat) (s : LSt) (o : Obj) : Prop :=
 ∃ x ps ca cb df, codeAt (bodyOf fn) p = .rangeFunc x ps ca cb ∧ o = .loop { state := lstOf s, pending := jumpOf (bodyOf fn) s, fn := g, tmps, params := ps, assign := ca, body := cb, defers := df }
def FwOK (C : Ctx) (H : Mem) (E : Env) (h : Hp) (f : Fw) (mf : Frame) (rs : List Nat) : Prop :=
 ∃ fn a items, C.fns.get f.g = some fn ∧ DenL H E f.tm a.tmps.toList ∧ a.defers = [] ∧ ItOK (bodyOf fn) f.td items ∧ (∀ x ∈ rs, h x = some (.deferred (some []))) ∧
  match f.lp with
  | none => mf = atQ (bq f.g (rOf f.r) (marks rs)) a items
  | some (l, p, s) => mf = atQ (bq f.g (rOf f.r) (marks rs)) a (.inRangeFunc l :: items) ∧ ∃ o, h l = some o ∧ LpAt fn f.g a.tmps p s o
def StkW (C : Ctx) (H : Mem) (E : Env) (h : Hp) : List Fw → List Frame → List Nat → Prop
 | [], [], B => B = []
 | f :: s, mf :: ms, B => ∃ rs B', B = rs ++ lpB f ++ B' ∧ FwOK C H E h f mf rs ∧ StkW C H E h s ms B'
 | _, _, _ => False
def ExtAt (h : Hp) (K : Kx) (H : Mem) (E : Env) (w : World) (hp : List (Nat × SB)) : Prop :=
 ∀ b o, h b = some o → w.heap[b]? = some o ∧ H b = none ∧ (∀ id sb, look? hp id = some sb → obk E id sb ≠ some b) ∧ (K.w0.heap.size ≤ b ∨ K.own b)
def EndW (P : Program) (C : Ctx) (K : Kx) (bot : Nat) (φ : Sh → Prop) (m : Machine) (cs : List Frame) : Prop :=
 ∃ (a' : Act) (w' : World) (v : Value) (s : Sh) (H' : Mem) (todo : List Item) (fn0 : Func), C.fns.get bot = some fn0 ∧ Steps P m (lone { (base bot).at a' todo with mode := .returning } cs w') ∧
   a'.defers = [] ∧ φ s ∧ SpecRes K.H0 K.w0 s v H' w' ∧ (results fn0 a'.tmps).run P w' = .ok v w'
theorem EndW.of {P : Program} {C : Ctx} {K : Kx} {bot : Nat} {φ : Sh → Prop} {m m' : Machine} {cs : List Frame} (h1 : Steps P m m') (h2 : EndW P C K bot φ m' cs) : EndW P C K bot φ m cs := by
 obtain ⟨a', w', v, s, H', todo, fn0, q1, q2, q3⟩ := h2
 exact ⟨a', w', v, s, H', todo, fn0, q1, h1.trans q2, q3⟩
section
variable {P : Program} {C : Ctx} {K : Kx} {H H' H'' H0 : Mem} {E E' E'' E1 : Env} {w w' w'' w0 : World} {h : Hp}
theorem FwOK.le (hH : H.le H') (hE : E.le E') {f : Fw} {mf : Frame} {rs : List Nat} (x : FwOK C H E h f mf rs) : FwOK C H' E' h f mf rs := by
 obtain ⟨fn, a, items, h1, h2, h3⟩ := x
 exact ⟨fn, a, items, h1, h2.le hH hE, h3⟩
theorem StkW.le (hH : H.le H') (hE : E.le E') : ∀ {s : List Fw} {ms : List Frame} {B : List Nat}, StkW C H E h s ms B → StkW C H' E' h s ms B
 | [], [], _, x => x
 | _ :: _, _ :: _, _, ⟨rs, B', h1, h2, h3⟩ => ⟨rs, B', h1, h2.le hH hE, StkW.le hH hE h3⟩
 | [], _ :: _, _, x => x.elim
 | _ :: _, [], _, x => x.elim
theorem ExtAt.keep {c c' : Core} {a a' : Act} (hx : ExtAt h K H E w c.hp) (st : St C K H E w c a) (st' : St C (reK H E w c.hp) H' E' w' c' a') : ExtAt h K H' E' w' c'.hp := by
 intro b o e
 obtain ⟨h1, h2, h3, h4⟩ := hx b o e
 have hlt := (Array.getElem?_eq_some_iff.1 h1).1
 have hno : ¬ (reK H E w c.hp).own b := fun ⟨id, sb, q1, q⟩ => h3 id sb q1 q
 refine ⟨by rw [st'.wok.kept b hlt hno]; exact h1, ?_, fun id sb hl ho => ?_, h4⟩
 ·cases hx : H' b with
  | none => rfl
  | some o' =>
   rcases st'.wok.fresh b (by rw [hx]; simp) with q | q | q
   ·exact (q h2).elim
   ·have q : w.heap.size ≤ b := q; omega
   ·exact (hno q).elim
 ·obtain ⟨_, _, q⟩ := (st'.hp.ent id sb hl).lt ho
  rcases q with q | q
  ·have q : w.heap.size ≤ b := q; omega
  ·exact hno q
theorem ExtAt.weak {ρ : List (Nat × Rn)} {c c' : Core} {a : Act} (hx : ExtAt h K H E w c.hp) (st : St C K H E w c a) (hle : leC ρ c c') : ExtAt h K H (rnEnv ρ E) w c'.hp := by
 intro b o e
 obtain ⟨h1, h2, h3, h4⟩ := hx b o e
 refine ⟨h1, h2, fun id sb hl ho => ?_, h4⟩
 obtain ⟨id0, s0, _, q1, q2⟩ := (leB_ok st.hp (leH_at hle.2.1 hl)).2 b ho
 exact h3 id0 s0 q1 q2
/-! Blocks that are written, and new ones. -/
def hset_ (h : Hp) (b : Nat) (o : Obj) : Hp := fun x => if x = b then some o else h x
theorem hset_same {b : Nat} {o : Obj} : hset_ h b o b = some o := by simp [hset_]
theorem hset_other {b x : Nat} {o : Obj} (hne : x ≠ b) : hset_ h b o x = h x := by simp [hset_, hne]
theorem St.putObj {c : Core} {a : Act} (st : St C K H E w c a) {b : Nat} {o o' : Obj} (hx : ExtAt h K H E w c.hp) (hb : h b = some o) : St C K H E (w.putObj b o') c a := by
 obtain ⟨h1, h2, h3, h4⟩ := hx b o hb
 refine ⟨st.den, ⟨fun id sb hl => (st.hp.ent id sb hl).kept (fun _ _ e => e) (fun _ _ e => e) (fun b' hb' => ?_) fun b' hb' => ((st.hp.ent id sb hl).lt hb').2.1, st.hp.dis⟩, ?_, st.free, st.gl, st.defers⟩
 ·exact World.putObj_heap_other (fun e => h3 id sb hl (e ▸ hb'))
 ·refine ⟨st.wok.os, st.wok.tape, st.wok.output, by rw [World.putObj_size]; exact st.wok.size, fun b' hlt hno => ?_, fun b' o2 hb' => ?_, st.wok.le, st.wok.fresh⟩
  ·rw [World.putObj_heap_other]
   ·exact st.wok.kept b' hlt hno
   ·intro e
    subst e
    rcases h4 with q | q
    ·omega
    ·exact hno q
  ·rw [World.putObj_heap_other]
   ·exact st.wok.on b' o2 hb'
   ·intro e; rw [e, h2] at hb'; cases hb'
theorem ExtAt.put {hp : List (Nat × SB)} {b : Nat} {o o' : Obj} (hx : ExtAt h K H E w hp) (hb : h b = some o) : ExtAt (hset_ h b o') K H E (w.putObj b o') hp := by
 intro x o2 e
 by_cases hxb : x = b
 ·subst hxb
  rw [hset_same] at e
  cases e
  obtain ⟨h1, h2⟩ := hx x o hb
  exact ⟨World.putObj_heap_same (Array.getElem?_eq_some_iff.1 h1).1, h2⟩
 ·rw [hset_other hxb] at e
  obtain ⟨h1, h2⟩ := hx x o2 e
  exact ⟨by rw [World.putObj_heap_other hxb]; exact h1, h2⟩
theorem heap_alloc_old (w : World) (o : Obj) (x : Nat) (h : x < w.heap.size) : (w.alloc o).heap[x]? = w.heap[x]? := by
 show (w.heap.push o)[x]? = _
 simp [Array.getElem?_push, Nat.ne_of_lt h]
theorem ExtAt.alloc {c : Core} {a : Act} (hx : ExtAt h K H E w c.hp) (st : St C K H E w c a) (o : Obj) : ExtAt (hset_ h w.heap.size o) K H E (w.alloc o) c.hp := by
 intro x o2 e
 by_cases hxb : x = w.heap.size
 ·subst hxb
  rw [hset_same] at e
  cases e
  refine ⟨World.alloc_heap_new w o, ?_, fun id sb hl ho => ?_, .inl st.wok.size⟩
  ·cases hH : H w.heap.size with
   | none => rfl
   | some o' => have := (Array.getElem?_eq_some_iff.1 (st.wok.on _ _ hH)).1; omega
  ·have := ((st.hp.ent id sb hl).lt ho).1; omega
 ·rw [hset_other hxb] at e
  obtain ⟨h1, h2⟩ := hx x o2 e
  exact ⟨by rw [heap_alloc_old w o x (Array.getElem?_eq_some_iff.1 h1).1]; exact h1, h2⟩
theorem FwOK.put {f : Fw} {mf : Frame} {rs : List Nat} (x : FwOK C H E h f mf rs) {b : Nat} {o : Obj} (h1 : b ∉ rs) (h2 : b ∉ lpB f) : FwOK C H E (hset_ h b o) f mf rs := by
 obtain ⟨fn, a, items, q1, q2, q3, q4, q5, q6⟩ := x
 refine ⟨fn, a, items, q1, q2, q3, q4, fun y hy => by rw [hset_other (fun e => h1 (by rw [← e]; exact hy))]; exact q5 y hy, ?_⟩
 unfold lpB at h2
 split at q6
 ·exact q6
 ·rename_i l p s hl
  rw [hl] at h2
  obtain ⟨q7, o', q8, q9⟩ := q6
  exact ⟨q7, o', by rw [hset_other (fun e => h2 (by simp [e]))]; exact q8, q9⟩
theorem StkW.put {b : Nat} {o : Obj} : ∀ {s : List Fw} {ms : List Frame} {B : List Nat}, StkW C H E h s ms B → b ∉ B → StkW C H E (hset_ h b o) s ms B
 | [], [], _, x, _ => x
 | f :: _, _ :: _, B, ⟨rs, B', h1, h2, h3⟩, hb => by
  subst h1
  simp only [List.mem_append, not_or] at hb
  exact ⟨rs, B', rfl, h2.put hb.1.1 hb.1.2, StkW.put h3 hb.2⟩
 | [], _ :: _, _, x, _ => x.elim
 | _ :: _, [], _, x, _ => x.elim
theorem StkW.len : ∀ {s : List Fw} {ms : List Frame} {B : List Nat}, StkW C H E h s ms B → s.length = ms.length
 | [], [], _, _ => rfl
 | _ :: _, _ :: _, _, ⟨_, _, _, _, h3⟩ => by simp [StkW.len h3]
 | [], _ :: _, _, x => x.elim
 | _ :: _, [], _, x => x.elim
theorem StkW.has : ∀ {s : List Fw} {ms : List Frame} {B : List Nat}, StkW C H E h s ms B → ∀ x ∈ B, ∃ o, h x = some o
 | [], [], _, e, x, hx => by have e : _ = [] := e; subst e; cases hx
 | f :: _, _ :: _, B, ⟨rs, B', h1, h2, h3⟩, x, hx => by
  subst h1
  obtain ⟨fn, a, items, q1, q2, q3, q4, q5, q6⟩ := h2
  simp only [List.mem_append] at hx
  rcases hx with (hx | hx) | hx
  ·exact ⟨_, q5 x hx⟩
  ·unfold lpB at hx
   split at q6
   ·rename_i hl; rw [hl] at hx; cases hx
   ·rename_i l p s hl
    rw [hl] at hx
    obtain ⟨_, o, q8, _⟩ := q6
    have : x = l := by simpa using hx
    exact ⟨o, this ▸ q8⟩
  ·exact StkW.has h3 x hx
 | [], _ :: _, _, e, _, _ => e.elim
 | _ :: _, [], _, e, _, _ => e.elim
end
end Go.Sx
