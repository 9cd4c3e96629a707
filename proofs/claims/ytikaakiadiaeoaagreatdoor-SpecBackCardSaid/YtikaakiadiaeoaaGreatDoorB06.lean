/-
  Runs over several frames with ranges over functions. Runs over several frames with ranges over functions are sound. Runs over several frames with ranges over functions are sound, the second part; rules. Runs over several frames with ranges over functions: the theorem, and its rules. Runs over several frames with ranges over functions: told states, loops, summaries.
-/
import Derived.Test.YtikaakiadiaeoaaGreatDoorB05
namespace Go.Sx
section moves
variable {P : Program} {b c : Frame} {a : Act} {k : List Item} {cs : List Frame} {w w' : World}
end moves
/-! The run. -/
inductive OutW where
 | fin (v : SV) (c : Core)
 | stop (g : Nat) (r : Option (Nat × Nat)) (td : List It) (c : Core) (stk : List Fw)
inductive EvW where
 | plain | bad | halt
 | next (g : Nat) (r : Option (Nat × Nat)) (td : List It) (c : Core) (stk : List Fw) (q : List Eqn)
section
variable {P : Program} {C : Ctx} {K : Kx} {H H' H'' H0 : Mem} {E E' E'' E1 : Env} {w w' w'' w0 : World} {h : Hp}
theorem LpAt.loop {fn : Func} {g : Nat} {tmps : Array Value} {p : List Nat} {s : LSt} {o : Obj} (hx : LpAt fn g tmps p s o) : ∃ lp, o = .loop lp ∧ lp.state = lstOf s ∧ lp.pending = jumpOf (bodyOf fn) s ∧ ∀ s', LpAt fn g tmps p s' (.loop { lp with state := lstOf s', pending := jumpOf (bodyOf fn) s' }) := by
 obtain ⟨x, ps, ca, cb, df, h1, rfl⟩ := hx
 exact ⟨_, rfl, rfl, rfl, fun s' => ⟨x, ps, ca, cb, df, h1, rfl⟩⟩
end
end Go.Sx
namespace Go.Sx
section
variable {P : Program} {C : Ctx} {K : Kx} {H H' H'' H0 : Mem} {E E' E'' E1 : Env} {w w' w'' w0 : World} {h : Hp}
end
end Go.Sx
namespace Go.Sx
section
variable {P : Program} {C : Ctx} {K : Kx} {H H' H'' H0 : Mem} {E E' E'' E1 : Env} {w w' w'' w0 : World} {h : Hp}
end
end Go.Sx
namespace Go.Sx
section
variable {P : Program} {C : Ctx} {K : Kx} {H H' H'' H0 : Mem} {E E' E'' E1 : Env} {w w' w'' w0 : World} {h : Hp}
/-! Rules. -/
end
end Go.Sx
namespace Go.Sx
structure TgtW where
 g : Nat
 r : Option (Nat × Nat)
 td : List It
 c : Core
 stk : List Fw
def collW : List Fw → List Fw → List (Nat × Rn)
 | f :: s, f' :: s' => collL f.tm f'.tm ++ collW s s'
 | _, _ => []
def TgtW.rn (t : TgtW) (c : Core) (stk : List Fw) : List (Nat × Rn) := infer t.c.hp c.hp 4000 (collL t.c.tm c.tm ++ collW t.stk stk) []
section
variable {P : Program} {C : Ctx} {K : Kx} {H H' H'' H0 : Mem} {E E' E'' E1 : Env} {w w' w'' w0 : World} {h : Hp}
def leStkW (hp : List (Nat × SB)) (ρ : List (Nat × Rn)) : List Fw → List Fw → Prop
 | [], [] => True
 | f :: s, f' :: s' => f.g = f'.g ∧ f.td = f'.td ∧ f.r = f'.r ∧ f.lp = f'.lp ∧ leL hp ρ f.tm f'.tm ∧ leStkW hp ρ s s'
 | _, _ => False
theorem StkW.weak {hp : List (Nat × SB)} {ρ : List (Nat × Rn)} (hh : HeapOK K H E w hp) : ∀ {s s' : List Fw} {ms : List Frame} {B : List Nat}, StkW C H E h s ms B → leStkW hp ρ s s' → StkW C H (rnEnv ρ E) h s' ms B
 | [], [], [], _, x, _ => x
 | ⟨g, r, td, tm, lp⟩ :: s, ⟨g', r', td', tm', lp'⟩ :: s', m :: ms, B, ⟨rs, B', hB, ⟨fn, a, items, h1, h2, h3⟩, h6⟩, ⟨e1, e2, e3, e4, e5, e6⟩ => by
  simp only at e1 e2 e3 e4 e5
  subst e1 e2 e3 e4
  exact ⟨rs, B', hB, ⟨fn, a, items, h1, leL_den hh _ e5 h2, h3⟩, StkW.weak hh h6 e6⟩
 | [], [], _ :: _, _, x, _ => x.elim
 | _ :: _, _, [], _, x, _ => x.elim
 | [], _ :: _, _, _, _, x => x.elim
 | _ :: _, [], _ :: _, _, _, x => x.elim
end
end Go.Sx
