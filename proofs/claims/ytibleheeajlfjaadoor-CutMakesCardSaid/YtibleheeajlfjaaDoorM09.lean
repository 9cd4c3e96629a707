/-
  Chapter 5: summary: the law's example is as it is told. Own work. A state of which single values say less: slices that agree as far as they reach. Own work. Chapter 5: the law CutMakes; evaluated. The equations are written by program (gen2.py). Own work. Chapter 5: summary: the law CutMakes answers true. Own work (written by program, mkf95.py). Chapter 5: summary: the law CutMakes answers true, whatever it is given. Own work.
-/
import Derived.Test.YtibleheeajlfjaaDoorM08
namespace Go.Proofs
open Go Go.Sx Go.Pl
theorem O8s : ∀ g F, spec8 g = some F → FnOK Tryd.prog (gls5 W5) g F := fun g F h => by
  unfold spec8 at h
  split at h
  · cases h; exact O32c
  · cases h; exact O34c
  · cases h
theorem C8ok : CtxOK Tryd.prog C8 := by
  have h := C5.ok spec8 unroll
  exact ⟨h.1, h.2, h.3, h.4, h.5, h.6⟩
theorem C8f : FnsOK Tryd.prog C8 := by
  have h := C5.fok (stop := unroll) O8s fun g h => by
    unfold spec8 at h
    split at h
    all_goals first | (cases h; done) | kernel_rfl
  exact ⟨h.1, h.2⟩
def F8 : List Sh → Tree Sh
  | [] => .leaf (.b true)
  | _ => .fail
set_option maxRecDepth 100000 in
theorem O8 : FnOK Tryd.prog (gls5 W5) 8 F8 := by
  refine fnOK_S (C := C8) C8ok (fn := Tryd.f8) (by kernel_rfl) (by kernel_rfl) fun H w shs args φ hrep h => ?_
  have hn : Tryd.f8.ntmps = 84 := by kernel_rfl
  unfold F8 at h
  split at h
  · refine ⟨[], hrep, L0, ?_⟩
    refine goesS_runToM C8ok C8f (hold := noHold) (m := 600) (n := 3000) (ts := []) ?_
    rw [hn]
    refine way_fin w8 ?_ h
    repeat' (first | exact trivial | refine ⟨rfl, ?_⟩)
  · exact h.elim
end Go.Proofs
namespace Go.Sx
/-- What the right one says holds of whatever the left one stands for. -/
def pS (x y : SV) : Prop := ∀ (H : Mem) (E : Env) (v : Value), Den H E x v → Den H E y v
def pL : List SV → List SV → Prop
  | [], [] => True
  | x :: l, y :: m => pS x y ∧ pL l m
  | _, _ => False
def pB : SB → SB → Prop
  | .box l e, .box m f => e = f ∧ pL l m
  | a, b => a = b
def pH : List (Nat × SB) → List (Nat × SB) → Prop
  | [], [] => True
  | (i, a) :: l, (j, b) :: m => i = j ∧ pB a b ∧ pH l m
  | _, _ => False
def pStk : List Fr → List Fr → Prop
  | [], [] => True
  | f :: s, f' :: s' => f.g = f'.g ∧ f.td = f'.td ∧ pL f.tm f'.tm ∧ pStk s s'
  | _, _ => False
structure pC (c c' : Core) : Prop where
  tm : pL c.tm c'.tm
  hp : pH c.hp c'.hp
  nx : c.nx = c'.nx
  lim : c.lim = c'.lim
  tc : c.tc = c'.tc
theorem pS.rfl' {x : SV} : pS x x := fun _ _ _ h => h
theorem pS.any {x : SV} : pS x .any := fun _ _ _ _ => trivial
theorem pL.rfl' : ∀ {l : List SV}, pL l l
  | [] => trivial
  | _ :: _ => ⟨pS.rfl', pL.rfl'⟩
theorem pB.rfl' {b : SB} : pB b b := by
  cases b <;> first | exact ⟨rfl, pL.rfl'⟩ | exact rfl
theorem pH.rfl' : ∀ {l : List (Nat × SB)}, pH l l
  | [] => trivial
  | _ :: _ => ⟨rfl, pB.rfl', pH.rfl'⟩
theorem denL_p {H : Mem} {E : Env} : ∀ {l m : List SV} {vs : List Value}, pL l m → DenL H E l vs → DenL H E m vs
  | [], [], [], _, _ => trivial
  | _ :: _, _ :: _, _ :: _, ⟨h1, h2⟩, ⟨d1, d2⟩ => ⟨h1 _ _ _ d1, denL_p h2 d2⟩
  | [], _ :: _, _, h, _ => h.elim
  | _ :: _, [], _, h, _ => h.elim
  | _ :: _, _ :: _, [], _, hd => hd.elim
  | [], [], _ :: _, _, hd => hd.elim
theorem pS.agg {l m : List SV} (h : pL l m) : pS (.agg l) (.agg m) := fun H E v ⟨vs, e, hd⟩ => ⟨vs, e, denL_p h hd⟩
theorem pS.sl {st n : Nat} {g g' : Nat → List Sh} (h : ∀ j, j < n → g j = g' j) : pS (.sh (.sl st n g)) (.sh (.sl st n g')) := fun H E v hd => by
  have hd : Rep H (.sl st n g) v := hd
  show Rep H (.sl st n g') v
  cases hd with
  | sl0 _ _ A cap hc => exact .sl0 _ _ _ _ hc
  | sl _ _ _ b off cap c h1 h2 h3 h4 h5 h6 => exact .sl _ _ _ b off cap c h1 h2 (fun i hi => by rw [← h i hi]; exact h3 i hi) h4 h5 fun i j s hi e => h6 i j s hi (by rw [h i hi]; exact e)
theorem pL.set {x y : SV} (h : pS x y) : ∀ {l m : List SV} (i : Nat), pL l m → pL (l.set i x) (m.set i y)
  | [], [], _, _ => trivial
  | _ :: _, _ :: _, 0, ⟨_, h2⟩ => ⟨h, h2⟩
  | _ :: _, _ :: _, i + 1, ⟨h1, h2⟩ => ⟨h1, pL.set h i h2⟩
  | [], _ :: _, _, h => h.elim
  | _ :: _, [], _, h => h.elim
section
variable {P : Program} {C : Ctx} {K : Kx} {H H' : Mem} {E E' : Env} {w w' : World}
theorem ent_p {id : Nat} {a b : SB} (h : pB a b) (he : Ent K H E w id a) : Ent K H E w id b ∧ obk E id a = obk E id b := by
  cases a with
  | box l e =>
    cases b with
    | box m f =>
      obtain ⟨rfl, h⟩ := h
      obtain ⟨b, cs, h1, h2, h3, h4⟩ := he
      exact ⟨⟨b, cs, h1, h2, denL_p h h3, h4⟩, rfl⟩
    | _ => simp [pB] at h
  | _ =>
    simp only [pB] at h
    subst h
    exact ⟨he, rfl⟩
theorem look_p : ∀ {l m : List (Nat × SB)} {i : Nat} {b : SB}, pH l m → look? m i = some b → ∃ a, look? l i = some a ∧ pB a b
  | [], [], _, _, _, h => by simp [look?] at h
  | (i, a) :: l, (j, b) :: m, k, sb, ⟨h1, h2, h3⟩, h => by
    subst h1
    simp only [look?] at h ⊢
    cases hk : (i == k) <;> simp only [hk, cond_true, cond_false] at h ⊢
    · exact look_p h3 h
    · cases h; exact ⟨_, rfl, h2⟩
  | [], _ :: _, _, _, h, _ => h.elim
  | _ :: _, [], _, _, h, _ => h.elim
theorem St.weakP {c c' : Core} {a : Act} (st : St C K H E w c a) (h : pC c c') : St C K H E w c' a := by
  refine ⟨denL_p h.tm st.den, ⟨fun id sb hl => ?_, fun id id' sb sb' b l1 l2 o1 o2 => ?_⟩, st.wok, fun i h1 h2 => st.free i (by rw [h.nx]; exact h1) (by rw [h.lim]; exact h2), st.gl, st.defers⟩
  · obtain ⟨x, h1, h2⟩ := look_p h.hp hl
    exact (ent_p h2 (st.hp.ent _ _ h1)).1
  · obtain ⟨x, h1, h2⟩ := look_p h.hp l1
    obtain ⟨y, h3, h4⟩ := look_p h.hp l2
    exact st.hp.dis _ _ _ _ _ h1 h3 (by rw [(ent_p h2 (st.hp.ent _ _ h1)).2]; exact o1) (by rw [(ent_p h4 (st.hp.ent _ _ h3)).2]; exact o2)
theorem StkOK.weakP : ∀ {s s' : List Fr} {ms : List Frame}, StkOK C H E s ms → pStk s s' → StkOK C H E s' ms
  | [], [], [], _, _ => trivial
  | f :: s, f' :: s', m :: ms, ⟨⟨fn, a, items, h1, h2, h3, h4, h5⟩, h6⟩, ⟨e1, e2, e3, e4⟩ =>
    ⟨⟨fn, a, items, by rw [← e1]; exact h1, denL_p e3 h2, h3, by rw [← e2]; exact h4, by rw [← e1]; exact h5⟩, StkOK.weakP h6 e4⟩
  | [], [], _ :: _, h, _ => h.elim
  | _ :: _, _, [], h, _ => h.elim
  | [], _ :: _, _, _, h => h.elim
  | _ :: _, [], _ :: _, _, h => h.elim
theorem botG_p {g : Nat} : ∀ {s s' : List Fr} {g : Nat}, pStk s s' → botG g s' = botG g s
  | [], [], _, _ => rfl
  | f :: s, f' :: s', _, ⟨e1, _, _, e4⟩ => by simp only [botG]; rw [e1]; exact botG_p (g := 0) e4
  | [], _ :: _, _, h => h.elim
  | _ :: _, [], _, h => h.elim
theorem goesS_weakP {g : Nat} {td : List It} {c c' : Core} {stk stk' : List Fr} {R : Hp → Prop} {φ : Sh → Prop} (hle : pC c c') (hs : pStk stk stk') (h : GoesS P C K g td c' stk' R φ) : GoesS P C K g td c stk R φ := by
  intro H E w a items ms cs fn hfn st hi hst hx
  have := h H E w a items ms cs fn hfn (st.weakP hle) hi (hst.weakP hs) hx
  rw [botG_p (g := 0) hs] at this
  exact this
end
end Go.Sx
namespace Go.Pl
open Go Go.Sx
def smallB (n m : Nat) : Bool := decide (n ≤ 100) && decide (m ≤ 600)
def sameHB (n m : Nat) (g h : Nat → List Sh) (n' m' : Nat) (g' h' : Nat → List Sh) : Bool := sameL (lst Oj n g) (lst Oj n' g') && sameL (lst Ev m h) (lst Ev m' h')
def subHB (n m : Nat) (g h : Nat → List Sh) (n' m' : Nat) (g' h' : Nat → List Sh) : Bool := sameL (lst Oj n g) (lst Oj n' g') && subB (rwAt h') m' 0 (rwAt h) m
/-- A list of values of which few are known. -/
def tmOf (n : Nat) (l : List (Nat × SV)) : List SV := l.foldl (fun t p => t.set p.1 p.2) (List.replicate n .any)
end Go.Pl
namespace Go.Proofs
open Go Go.Sx Go.Pl
def F9p : List Sh → Tree Sh
  | [.agg [.sl 2 n _, .sl 8 m _]] => .leaf (.b (smallB n m))
  | _ => .fail
def F12p : List Sh → Tree Sh
  | [.agg [.sl 2 n g, .sl 8 m h], .agg [.sl 2 n' g', .sl 8 m' h']] => .need (okB Oj n g) (.need (okB Oj n' g') (.need (okB Ev m h) (.need (okB Ev m' h') (.leaf (.b (sameHB n m g h n' m' g' h'))))))
  | _ => .fail
def F21p : List Sh → Tree Sh
  | [.agg [.sl 2 n g, .sl 8 m h], .agg [.sl 2 n' g', .sl 8 m' h']] => .need (okB Oj n g) (.need (okB Oj n' g') (.need (okB Ev m h) (.need (okB Ev m' h') (.leaf (.b (subHB n m g h n' m' g' h'))))))
  | _ => .fail
theorem O9p : FnOK Tryd.prog (gls5 W5) 9 F9p := O9
theorem O12p : FnOK Tryd.prog (gls5 W5) 12 F12p := O12
theorem O21p : FnOK Tryd.prog (gls5 W5) 21 F21p := O21
theorem O22p : FnOK Tryd.prog (gls5 W5) 22 F21p := O22
def spec3 : Nat → Option (List Sh → Tree Sh)
  | 8 => some F8
  | 9 => some F9p
  | 10 => some F10
  | 11 => some F11
  | 12 => some F12p
  | 13 => some F13
  | 14 => some F14
  | 15 => some F15
  | 16 => some F16
  | 19 => some F19
  | 20 => some F20
  | 21 => some F21p
  | 22 => some F21p
  | 37 => some F37
  | _ => none
def hold17 : Nat → Bool := fun g => Nat.beq g 17
def td17 : List It := [It.reg [0, 1, 1, 1, 1, 1, 1, 1, 1, 1] [2, 3, 4], It.code [1, 1, 1, 1, 1, 1, 1, 1, 1, 1]]
def tm3 (n0 m0 n1 m1 k N M : Nat) (g0 g1 go : Nat → Oj) (h0 h1 he : Nat → Ev) (q : Nat → Int) (gm hm : Nat → List Sh) : List (Nat × SV) :=
  [(5, .ptr 0 0), (6, .ptr 1 0), (9, .ptr 2 0), (12, .sh (.sl 2 N gm)), (13, .sh (.sl 8 M hm)), (14, .ptr 3 0), (15, .test true), (16, .test true), (17, .ptr 4 0)]
def hp3 (n0 m0 n1 m1 k N M : Nat) (g0 g1 go : Nat → Oj) (h0 h1 he : Nat → Ev) (q : Nat → Int) (gm hm : Nat → List Sh) (av : SV) : List (Nat × SB) :=
  [(0, .box [.sh (.sl 2 n0 (fnR g0)), .sh (.sl 8 m0 (fnR h0))] 25), (1, .box [.sh (.sl 2 n1 (fnR g1)), .sh (.sl 8 m1 (fnR h1))] 25), (2, .box [.sh (.sl 1 k (fnR q))] 26), (3, .box [.sh (.sl 2 n0 gm), .sh (.sl 8 m0 hm)] 25), (4, .box [av] 26)]
/-- Ahead of Only. -/
def L17 (n0 m0 n1 m1 k N M : Nat) (g0 g1 go : Nat → Oj) (h0 h1 he : Nat → Ev) (q : Nat → Int) (gm hm : Nat → List Sh) : Core :=
  { tm := tmOf 159 (tm3 n0 m0 n1 m1 k N M g0 g1 go h0 h1 he q gm hm ++ [(79, .agg [.sh (.sl 2 n0 gm), .sh (.sl 8 m0 hm)]), (80, .fn 18 [.ptr 4 0, .ptr 2 0])]), hp := hp3 n0 m0 n1 m1 k N M g0 g1 go h0 h1 he q gm hm .nils, nx := 5, lim := L0, tc := [] }
/-- The frames of Only and of the law. -/
def fr17 (n0 m0 n1 m1 k N M : Nat) (g0 g1 go : Nat → Oj) (h0 h1 he : Nat → Ev) (q : Nat → Int) : List Fr :=
  [⟨17, [.reg [0, 1] [2, 3], .code [1, 1]], tmOf 8 [(4, .ptr 7 0)]⟩, ⟨3, td17, tmOf 159 (tm3 n0 m0 n1 m1 k N M g0 g1 go h0 h1 he q (fnR go) (fnR he))⟩]
def hpK (n0 m0 n1 m1 k N M : Nat) (g0 g1 go : Nat → Oj) (h0 h1 he : Nat → Ev) (q : Nat → Int) (a c : Nat) (ga gc : Nat → List Sh) : List (Nat × SB) :=
  hp3 n0 m0 n1 m1 k N M g0 g1 go h0 h1 he q (fnR go) (fnR he) (.gs 13) ++ [(6, .box [.fn 18 [.ptr 4 0, .ptr 2 0]] 38), (7, .box [.nils, .nils] 25), (9, .box [.nils, .nils] 25), (10, .own 31 2 n0 (fnR go)), (11, .own 34 8 c gc), (12, .box [.gs 10, .gs 11] 25), (13, .own 3 1 a ga)]
def tm38 (n0 m0 n1 m1 k N M : Nat) (g0 g1 go : Nat → Oj) (h0 h1 he : Nat → Ev) (q : Nat → Int) (i : Int) : List (Nat × SV) :=
  [(1, .fn 40 [.ptr 6 0]), (4, .ptr 9 0), (5, .ptr 12 0), (13, .sh (.sl 8 m0 (fnR he))), (14, .sym .i64 (m0 : Int)), (15, .sym .i64 i)]
/-- At the head of kept's loop. -/
def LK (n0 m0 n1 m1 k N M : Nat) (g0 g1 go : Nat → Oj) (h0 h1 he : Nat → Ev) (q : Nat → Int) (i : Int) (a c : Nat) (ga gc : Nat → List Sh) : Core :=
  { tm := tmOf 32 (tm38 n0 m0 n1 m1 k N M g0 g1 go h0 h1 he q i), hp := hpK n0 m0 n1 m1 k N M g0 g1 go h0 h1 he q a c ga gc, nx := 14, lim := L0, tc := [] }
/-- The closures' frames, while kept looks at an event. -/
def frI (n0 m0 n1 m1 k N M : Nat) (g0 g1 go : Nat → Oj) (h0 h1 he : Nat → Ev) (q : Nat → Int) (i : Int) : List Fr :=
  [⟨40, [.reg [0, 1] [3, 4], .code [1, 1]], tmOf 10 []⟩,
   ⟨38, [.reg [0, 1, 0, 0, 1, 1, 0, 0, 1, 0, 1, 1] [3], .code [1, 1, 0, 0, 1, 1, 0, 0, 1, 0, 1, 1], .inBlock 1, .code [1, 1, 1, 0, 0, 1, 0, 1, 1], .code [0, 1, 0, 1, 1], .inBlock 0, .code [1, 1, 1]], tmOf 32 (tm38 n0 m0 n1 m1 k N M g0 g1 go h0 h1 he q i ++ [(7, .ptr 14 0)])⟩] ++ fr17 n0 m0 n1 m1 k N M g0 g1 go h0 h1 he q
/-- At the head of the law's closure's loop. -/
def LI (n0 m0 n1 m1 k N M : Nat) (g0 g1 go : Nat → Oj) (h0 h1 he : Nat → Ev) (q : Nat → Int) (e : Ev) (j : Int) (a c : Nat) (ga gc : Nat → List Sh) : Core :=
  { tm := tmOf 22 [(0, .sym .i64 e.tx), (2, .ptr 2 0), (5, .sym .i64 j)], hp := hpK n0 m0 n1 m1 k N M g0 g1 go h0 h1 he q a c ga gc ++ [(14, .box (argL (evR e)) 34)], nx := 15, lim := L0, tc := [] }
def td3 : List It := [It.code [0, 1, 0, 1, 1, 1, 1, 1, 1, 1, 1, 1, 1, 1, 1], It.inBlock 0, It.code [1, 1, 1, 1, 1, 1, 1, 1, 1, 1, 1, 1, 1]]
def tb3 : List It := It.code [0, 0, 1, 0, 1, 1, 1, 1, 1, 1, 1, 1, 1, 1, 1, 1] :: td3
/-- At the head of the law's own loop. -/
def L3 (n0 m0 n1 m1 k N M : Nat) (g0 g1 go : Nat → Oj) (h0 h1 he : Nat → Ev) (q : Nat → Int) (i : Int) (a b : Nat) (ga gb : Nat → List Sh) : Core :=
  { tm := tmOf 159 [(5, .ptr 0 0), (6, .ptr 1 0), (12, .sh (.sl 2 N (fnR go))), (13, .sh (.sl 8 M (fnR he))), (14, .ptr 3 0), (15, .test true), (16, .test true), (17, .ptr 4 0), (19, .test true), (20, .gs 5), (21, .sym .i64 i)],
    hp := [(0, .box [.sh (.sl 2 n0 (fnR g0)), .sh (.sl 8 m0 (fnR h0))] 25), (1, .box [.sh (.sl 2 n1 (fnR g1)), .sh (.sl 8 m1 (fnR h1))] 25), (3, .box [.sh (.sl 2 n0 (fnR go)), .sh (.sl 8 m0 (fnR he))] 25), (4, .box [.gs 13] 26), (5, .own 3 1 b gb), (13, .own 3 1 a ga)], nx := 14, lim := L0, tc := [] }

theorem a3 (A : Prim) (W : Wd) (n0 m0 n1 m1 k N M : Nat) (g0 g1 go : Nat → Oj) (h0 h1 he : Nat → Ev) (q : Nat → Int) (x y : Int) (gm hm : Nat → List Sh) :
    runTo (C5 A W spec3 stopAll) hold17 300 400 3 [.code []] (start0 159 [.agg [.sl 2 n0 (fnR g0), .sl 8 m0 (fnR h0)], .agg [.sl 2 n1 (fnR g1), .sl 8 m1 (fnR h1)], .i .i64 x, .i .i64 y, .sl 1 k (fnR q)] L0) [] [⟨3, td17, L17 n0 m0 n1 m1 k N M g0 g1 go h0 h1 he q gm hm, []⟩] =
      Tree.node (A.nt (smallB n0 m0)) (Tree.leaf (Fe2.ret (Sh.b true)))
  (Tree.node (A.nt (smallB n1 m1)) (Tree.leaf (Fe2.ret (Sh.b true)))
    (Tree.node (A.lt (Int.ofNat 50) (A.ofN k)) (Tree.leaf (Fe2.ret (Sh.b true)))
      (Tree.node (A.nt true) (Tree.leaf (Fe2.ret (Sh.b true)))
        (Tree.need (okB Oj n0 (fnR g0))
          (Tree.need (roomB n0 16)
            (Tree.need (A.room (A.addN n0 1) 16)
              (Tree.need (okB Ev m0 (fnR h0))
                (Tree.need (roomB m0 64)
                  (Tree.need (A.room (A.addN m0 1) 64)
                    (Tree.need (A.upTo (A.ofN n0) (A.addN n0 1))
                      (Tree.need (A.upTo (A.ofN m0) (A.addN m0 1))
                        (Tree.need (A.upTo (A.ofN m0) (A.addN m0 1))
                          (Tree.must
                            [Eqn.sh (Sh.sl 2 n0 (fnR g0)) (Sh.sl 2 n0 (fnR g0)),
                              Eqn.sh (Sh.sl 8 m0 (fnR h0)) (Sh.sl 8 m0 (fnR h0)),
                              Eqn.sh (Sh.sl 2 n1 (fnR g1)) (Sh.sl 2 n1 (fnR g1)),
                              Eqn.sh (Sh.sl 8 m1 (fnR h1)) (Sh.sl 8 m1 (fnR h1)), Eqn.int x x, Eqn.int y y,
                              Eqn.sh (Sh.sl 1 k (fnR q)) (Sh.sl 1 k (fnR q)), Eqn.bool true true,
                              Eqn.sh (Sh.sl 2 n0 (fnR g0)) (Sh.sl 2 n0 (fnR g0)),
                              Eqn.sh (Sh.sl 8 m0 (fnR h0)) (Sh.sl 8 m0 (fnR h0)),
                              Eqn.sh (Sh.sl 2 n1 (fnR g1)) (Sh.sl 2 n1 (fnR g1)),
                              Eqn.sh (Sh.sl 8 m1 (fnR h1)) (Sh.sl 8 m1 (fnR h1)),
                              Eqn.sh (Sh.sl 1 k (fnR q)) (Sh.sl 1 k (fnR q)), Eqn.nat (A.addN n0 1) (A.addN n0 1),
                              Eqn.fun_
                                (A.snoc (fO (fnR g0)) n0
                                  (nthL [[Sh.i IntKind.i64 (Int.ofNat 47), Sh.i IntKind.i64 (Int.ofNat 0)]]))
                                (A.snoc (fO (fnR g0)) n0
                                  (nthL [[Sh.i IntKind.i64 (Int.ofNat 47), Sh.i IntKind.i64 (Int.ofNat 0)]])),
                              Eqn.nat (A.addN m0 1) (A.addN m0 1),
                              Eqn.fun_
                                (A.snoc (fE (fnR h0)) m0
                                  (nthL
                                    [[Sh.i IntKind.i64 (Int.ofNat 47), Sh.i IntKind.i64 (Int.ofNat 0),
                                        Sh.i IntKind.i64 (Int.ofNat 0), Sh.i IntKind.i64 (Int.ofNat 0),
                                        Sh.i IntKind.i64 (Int.ofNat 0), Sh.i IntKind.i64 (Int.ofNat 0),
                                        Sh.i IntKind.i64 (Int.ofNat 0), Sh.i IntKind.i64 (Int.ofNat 0)]]))
                                (A.snoc (fE (fnR h0)) m0
                                  (nthL
                                    [[Sh.i IntKind.i64 (Int.ofNat 47), Sh.i IntKind.i64 (Int.ofNat 0),
                                        Sh.i IntKind.i64 (Int.ofNat 0), Sh.i IntKind.i64 (Int.ofNat 0),
                                        Sh.i IntKind.i64 (Int.ofNat 0), Sh.i IntKind.i64 (Int.ofNat 0),
                                        Sh.i IntKind.i64 (Int.ofNat 0), Sh.i IntKind.i64 (Int.ofNat 0)]])),
                              Eqn.sh
                                (Sh.sl 2 (A.toN (A.ofN n0))
                                  (A.snoc (fO (fnR g0)) n0
                                    (nthL [[Sh.i IntKind.i64 (Int.ofNat 47), Sh.i IntKind.i64 (Int.ofNat 0)]])))
                                (Sh.sl 2 (A.toN (A.ofN n0))
                                  (A.snoc (fO (fnR g0)) n0
                                    (nthL [[Sh.i IntKind.i64 (Int.ofNat 47), Sh.i IntKind.i64 (Int.ofNat 0)]]))),
                              Eqn.sh
                                (Sh.sl 8 (A.toN (A.ofN m0))
                                  (A.snoc (fE (fnR h0)) m0
                                    (nthL
                                      [[Sh.i IntKind.i64 (Int.ofNat 47), Sh.i IntKind.i64 (Int.ofNat 0),
                                          Sh.i IntKind.i64 (Int.ofNat 0), Sh.i IntKind.i64 (Int.ofNat 0),
                                          Sh.i IntKind.i64 (Int.ofNat 0), Sh.i IntKind.i64 (Int.ofNat 0),
                                          Sh.i IntKind.i64 (Int.ofNat 0), Sh.i IntKind.i64 (Int.ofNat 0)]])))
                                (Sh.sl 8 (A.toN (A.ofN m0))
                                  (A.snoc (fE (fnR h0)) m0
                                    (nthL
                                      [[Sh.i IntKind.i64 (Int.ofNat 47), Sh.i IntKind.i64 (Int.ofNat 0),
                                          Sh.i IntKind.i64 (Int.ofNat 0), Sh.i IntKind.i64 (Int.ofNat 0),
                                          Sh.i IntKind.i64 (Int.ofNat 0), Sh.i IntKind.i64 (Int.ofNat 0),
                                          Sh.i IntKind.i64 (Int.ofNat 0), Sh.i IntKind.i64 (Int.ofNat 0)]])))]
                            (Tree.need (A.upTo (A.ofN m0) (A.addN m0 1))
                              (Tree.need (A.upTo (A.ofN n0) (A.addN n0 1))
                                (Tree.need (A.upTo (A.ofN n0) (A.addN n0 1))
                                  (Tree.must
                                    [Eqn.sh (Sh.sl 2 n0 (fnR g0)) (Sh.sl 2 n0 (fnR g0)),
                                      Eqn.sh (Sh.sl 8 m0 (fnR h0)) (Sh.sl 8 m0 (fnR h0)),
                                      Eqn.sh (Sh.sl 2 n1 (fnR g1)) (Sh.sl 2 n1 (fnR g1)),
                                      Eqn.sh (Sh.sl 8 m1 (fnR h1)) (Sh.sl 8 m1 (fnR h1)), Eqn.int x x, Eqn.int y y,
                                      Eqn.sh (Sh.sl 1 k (fnR q)) (Sh.sl 1 k (fnR q)), Eqn.bool true true,
                                      Eqn.sh (Sh.sl 2 n0 (fnR g0)) (Sh.sl 2 n0 (fnR g0)),
                                      Eqn.sh (Sh.sl 8 m0 (fnR h0)) (Sh.sl 8 m0 (fnR h0)),
                                      Eqn.sh (Sh.sl 2 n1 (fnR g1)) (Sh.sl 2 n1 (fnR g1)),
                                      Eqn.sh (Sh.sl 8 m1 (fnR h1)) (Sh.sl 8 m1 (fnR h1)),
                                      Eqn.sh (Sh.sl 1 k (fnR q)) (Sh.sl 1 k (fnR q)),
                                      Eqn.nat (A.addN n0 1) (A.addN n0 1),
                                      Eqn.fun_
                                        (A.snoc (fO (fnR g0)) n0
                                          (nthL [[Sh.i IntKind.i64 (Int.ofNat 47), Sh.i IntKind.i64 (Int.ofNat 0)]]))
                                        (A.snoc (fO (fnR g0)) n0
                                          (nthL [[Sh.i IntKind.i64 (Int.ofNat 47), Sh.i IntKind.i64 (Int.ofNat 0)]])),
                                      Eqn.nat (A.addN m0 1) (A.addN m0 1),
                                      Eqn.fun_
                                        (A.snoc (fE (fnR h0)) m0
                                          (nthL
                                            [[Sh.i IntKind.i64 (Int.ofNat 47), Sh.i IntKind.i64 (Int.ofNat 0),
                                                Sh.i IntKind.i64 (Int.ofNat 0), Sh.i IntKind.i64 (Int.ofNat 0),
                                                Sh.i IntKind.i64 (Int.ofNat 0), Sh.i IntKind.i64 (Int.ofNat 0),
                                                Sh.i IntKind.i64 (Int.ofNat 0), Sh.i IntKind.i64 (Int.ofNat 0)]]))
                                        (A.snoc (fE (fnR h0)) m0
                                          (nthL
                                            [[Sh.i IntKind.i64 (Int.ofNat 47), Sh.i IntKind.i64 (Int.ofNat 0),
                                                Sh.i IntKind.i64 (Int.ofNat 0), Sh.i IntKind.i64 (Int.ofNat 0),
                                                Sh.i IntKind.i64 (Int.ofNat 0), Sh.i IntKind.i64 (Int.ofNat 0),
                                                Sh.i IntKind.i64 (Int.ofNat 0), Sh.i IntKind.i64 (Int.ofNat 0)]])),
                                      Eqn.sh
                                        (Sh.sl 2 (A.toN (A.ofN n0))
                                          (A.snoc (fO (fnR g0)) n0
                                            (nthL [[Sh.i IntKind.i64 (Int.ofNat 47), Sh.i IntKind.i64 (Int.ofNat 0)]])))
                                        (Sh.sl 2 (A.toN (A.ofN n0))
                                          (A.snoc (fO (fnR g0)) n0
                                            (nthL
                                              [[Sh.i IntKind.i64 (Int.ofNat 47), Sh.i IntKind.i64 (Int.ofNat 0)]]))),
                                      Eqn.sh
                                        (Sh.sl 8 (A.toN (A.ofN m0))
                                          (A.snoc (fE (fnR h0)) m0
                                            (nthL
                                              [[Sh.i IntKind.i64 (Int.ofNat 47), Sh.i IntKind.i64 (Int.ofNat 0),
                                                  Sh.i IntKind.i64 (Int.ofNat 0), Sh.i IntKind.i64 (Int.ofNat 0),
                                                  Sh.i IntKind.i64 (Int.ofNat 0), Sh.i IntKind.i64 (Int.ofNat 0),
                                                  Sh.i IntKind.i64 (Int.ofNat 0), Sh.i IntKind.i64 (Int.ofNat 0)]])))
                                        (Sh.sl 8 (A.toN (A.ofN m0))
                                          (A.snoc (fE (fnR h0)) m0
                                            (nthL
                                              [[Sh.i IntKind.i64 (Int.ofNat 47), Sh.i IntKind.i64 (Int.ofNat 0),
                                                  Sh.i IntKind.i64 (Int.ofNat 0), Sh.i IntKind.i64 (Int.ofNat 0),
                                                  Sh.i IntKind.i64 (Int.ofNat 0), Sh.i IntKind.i64 (Int.ofNat 0),
                                                  Sh.i IntKind.i64 (Int.ofNat 0), Sh.i IntKind.i64 (Int.ofNat 0)]])))]
                                    (Tree.need (A.upTo (A.ofN n0) (A.addN n0 1))
                                      (Tree.need (A.upTo (A.ofN m0) (A.addN m0 1))
                                        (Tree.need (A.upTo (A.ofN m0) (A.addN m0 1))
                                          (Tree.need (A.upTo (A.ofN n0) (A.addN n0 1))
                                            (Tree.must
                                              [Eqn.sh (Sh.sl 2 n0 (fnR g0)) (Sh.sl 2 n0 (fnR g0)),
                                                Eqn.sh (Sh.sl 8 m0 (fnR h0)) (Sh.sl 8 m0 (fnR h0)),
                                                Eqn.sh (Sh.sl 2 n1 (fnR g1)) (Sh.sl 2 n1 (fnR g1)),
                                                Eqn.sh (Sh.sl 8 m1 (fnR h1)) (Sh.sl 8 m1 (fnR h1)), Eqn.int x x,
                                                Eqn.int y y, Eqn.sh (Sh.sl 1 k (fnR q)) (Sh.sl 1 k (fnR q)),
                                                Eqn.bool true true, Eqn.sh (Sh.sl 2 n0 (fnR g0)) (Sh.sl 2 n0 (fnR g0)),
                                                Eqn.sh (Sh.sl 8 m0 (fnR h0)) (Sh.sl 8 m0 (fnR h0)),
                                                Eqn.sh (Sh.sl 2 n1 (fnR g1)) (Sh.sl 2 n1 (fnR g1)),
                                                Eqn.sh (Sh.sl 8 m1 (fnR h1)) (Sh.sl 8 m1 (fnR h1)),
                                                Eqn.sh (Sh.sl 1 k (fnR q)) (Sh.sl 1 k (fnR q)),
                                                Eqn.nat (A.addN n0 1) (A.addN n0 1),
                                                Eqn.fun_
                                                  (A.snoc (fO (fnR g0)) n0
                                                    (nthL
                                                      [[Sh.i IntKind.i64 (Int.ofNat 47),
                                                          Sh.i IntKind.i64 (Int.ofNat 0)]]))
                                                  (A.snoc (fO (fnR g0)) n0
                                                    (nthL
                                                      [[Sh.i IntKind.i64 (Int.ofNat 47),
                                                          Sh.i IntKind.i64 (Int.ofNat 0)]])),
                                                Eqn.nat (A.addN m0 1) (A.addN m0 1),
                                                Eqn.fun_
                                                  (A.snoc (fE (fnR h0)) m0
                                                    (nthL
                                                      [[Sh.i IntKind.i64 (Int.ofNat 47), Sh.i IntKind.i64 (Int.ofNat 0),
                                                          Sh.i IntKind.i64 (Int.ofNat 0),
                                                          Sh.i IntKind.i64 (Int.ofNat 0),
                                                          Sh.i IntKind.i64 (Int.ofNat 0),
                                                          Sh.i IntKind.i64 (Int.ofNat 0),
                                                          Sh.i IntKind.i64 (Int.ofNat 0),
                                                          Sh.i IntKind.i64 (Int.ofNat 0)]]))
                                                  (A.snoc (fE (fnR h0)) m0
                                                    (nthL
                                                      [[Sh.i IntKind.i64 (Int.ofNat 47), Sh.i IntKind.i64 (Int.ofNat 0),
                                                          Sh.i IntKind.i64 (Int.ofNat 0),
                                                          Sh.i IntKind.i64 (Int.ofNat 0),
                                                          Sh.i IntKind.i64 (Int.ofNat 0),
                                                          Sh.i IntKind.i64 (Int.ofNat 0),
                                                          Sh.i IntKind.i64 (Int.ofNat 0),
                                                          Sh.i IntKind.i64 (Int.ofNat 0)]])),
                                                Eqn.sh
                                                  (Sh.sl 2 (A.toN (A.ofN n0))
                                                    (A.snoc (fO (fnR g0)) n0
                                                      (nthL
                                                        [[Sh.i IntKind.i64 (Int.ofNat 47),
                                                            Sh.i IntKind.i64 (Int.ofNat 0)]])))
                                                  (Sh.sl 2 (A.toN (A.ofN n0))
                                                    (A.snoc (fO (fnR g0)) n0
                                                      (nthL
                                                        [[Sh.i IntKind.i64 (Int.ofNat 47),
                                                            Sh.i IntKind.i64 (Int.ofNat 0)]]))),
                                                Eqn.sh
                                                  (Sh.sl 8 (A.toN (A.ofN m0))
                                                    (A.snoc (fE (fnR h0)) m0
                                                      (nthL
                                                        [[Sh.i IntKind.i64 (Int.ofNat 47),
                                                            Sh.i IntKind.i64 (Int.ofNat 0),
                                                            Sh.i IntKind.i64 (Int.ofNat 0),
                                                            Sh.i IntKind.i64 (Int.ofNat 0),
                                                            Sh.i IntKind.i64 (Int.ofNat 0),
                                                            Sh.i IntKind.i64 (Int.ofNat 0),
                                                            Sh.i IntKind.i64 (Int.ofNat 0),
                                                            Sh.i IntKind.i64 (Int.ofNat 0)]])))
                                                  (Sh.sl 8 (A.toN (A.ofN m0))
                                                    (A.snoc (fE (fnR h0)) m0
                                                      (nthL
                                                        [[Sh.i IntKind.i64 (Int.ofNat 47),
                                                            Sh.i IntKind.i64 (Int.ofNat 0),
                                                            Sh.i IntKind.i64 (Int.ofNat 0),
                                                            Sh.i IntKind.i64 (Int.ofNat 0),
                                                            Sh.i IntKind.i64 (Int.ofNat 0),
                                                            Sh.i IntKind.i64 (Int.ofNat 0),
                                                            Sh.i IntKind.i64 (Int.ofNat 0),
                                                            Sh.i IntKind.i64 (Int.ofNat 0)]])))]
                                              (Tree.must
                                                [Eqn.sh (Sh.sl 2 n0 (fnR g0)) (Sh.sl 2 n0 (fnR g0)),
                                                  Eqn.sh (Sh.sl 8 m0 (fnR h0)) (Sh.sl 8 m0 (fnR h0)),
                                                  Eqn.sh (Sh.sl 2 n1 (fnR g1)) (Sh.sl 2 n1 (fnR g1)),
                                                  Eqn.sh (Sh.sl 8 m1 (fnR h1)) (Sh.sl 8 m1 (fnR h1)), Eqn.int x x,
                                                  Eqn.int y y, Eqn.sh (Sh.sl 1 k (fnR q)) (Sh.sl 1 k (fnR q)),
                                                  Eqn.bool true true,
                                                  Eqn.sh (Sh.sl 2 n0 (fnR g0)) (Sh.sl 2 n0 (fnR g0)),
                                                  Eqn.sh (Sh.sl 8 m0 (fnR h0)) (Sh.sl 8 m0 (fnR h0)),
                                                  Eqn.sh (Sh.sl 2 n1 (fnR g1)) (Sh.sl 2 n1 (fnR g1)),
                                                  Eqn.sh (Sh.sl 8 m1 (fnR h1)) (Sh.sl 8 m1 (fnR h1)),
                                                  Eqn.sh (Sh.sl 1 k (fnR q)) (Sh.sl 1 k (fnR q)),
                                                  Eqn.nat (A.addN n0 1) (A.addN n0 1),
                                                  Eqn.fun_
                                                    (A.snoc (fO (fnR g0)) n0
                                                      (nthL
                                                        [[Sh.i IntKind.i64 (Int.ofNat 47),
                                                            Sh.i IntKind.i64 (Int.ofNat 0)]]))
                                                    (A.snoc (fO (fnR g0)) n0
                                                      (nthL
                                                        [[Sh.i IntKind.i64 (Int.ofNat 47),
                                                            Sh.i IntKind.i64 (Int.ofNat 0)]])),
                                                  Eqn.nat (A.addN m0 1) (A.addN m0 1),
                                                  Eqn.fun_
                                                    (A.snoc (fE (fnR h0)) m0
                                                      (nthL
                                                        [[Sh.i IntKind.i64 (Int.ofNat 47),
                                                            Sh.i IntKind.i64 (Int.ofNat 0),
                                                            Sh.i IntKind.i64 (Int.ofNat 0),
                                                            Sh.i IntKind.i64 (Int.ofNat 0),
                                                            Sh.i IntKind.i64 (Int.ofNat 0),
                                                            Sh.i IntKind.i64 (Int.ofNat 0),
                                                            Sh.i IntKind.i64 (Int.ofNat 0),
                                                            Sh.i IntKind.i64 (Int.ofNat 0)]]))
                                                    (A.snoc (fE (fnR h0)) m0
                                                      (nthL
                                                        [[Sh.i IntKind.i64 (Int.ofNat 47),
                                                            Sh.i IntKind.i64 (Int.ofNat 0),
                                                            Sh.i IntKind.i64 (Int.ofNat 0),
                                                            Sh.i IntKind.i64 (Int.ofNat 0),
                                                            Sh.i IntKind.i64 (Int.ofNat 0),
                                                            Sh.i IntKind.i64 (Int.ofNat 0),
                                                            Sh.i IntKind.i64 (Int.ofNat 0),
                                                            Sh.i IntKind.i64 (Int.ofNat 0)]])),
                                                  Eqn.sh
                                                    (Sh.sl 2 (A.toN (A.ofN n0))
                                                      (A.snoc (fO (fnR g0)) n0
                                                        (nthL
                                                          [[Sh.i IntKind.i64 (Int.ofNat 47),
                                                              Sh.i IntKind.i64 (Int.ofNat 0)]])))
                                                    (Sh.sl 2 (A.toN (A.ofN n0))
                                                      (A.snoc (fO (fnR g0)) n0
                                                        (nthL
                                                          [[Sh.i IntKind.i64 (Int.ofNat 47),
                                                              Sh.i IntKind.i64 (Int.ofNat 0)]]))),
                                                  Eqn.sh
                                                    (Sh.sl 8 (A.toN (A.ofN m0))
                                                      (A.snoc (fE (fnR h0)) m0
                                                        (nthL
                                                          [[Sh.i IntKind.i64 (Int.ofNat 47),
                                                              Sh.i IntKind.i64 (Int.ofNat 0),
                                                              Sh.i IntKind.i64 (Int.ofNat 0),
                                                              Sh.i IntKind.i64 (Int.ofNat 0),
                                                              Sh.i IntKind.i64 (Int.ofNat 0),
                                                              Sh.i IntKind.i64 (Int.ofNat 0),
                                                              Sh.i IntKind.i64 (Int.ofNat 0),
                                                              Sh.i IntKind.i64 (Int.ofNat 0)]])))
                                                    (Sh.sl 8 (A.toN (A.ofN m0))
                                                      (A.snoc (fE (fnR h0)) m0
                                                        (nthL
                                                          [[Sh.i IntKind.i64 (Int.ofNat 47),
                                                              Sh.i IntKind.i64 (Int.ofNat 0),
                                                              Sh.i IntKind.i64 (Int.ofNat 0),
                                                              Sh.i IntKind.i64 (Int.ofNat 0),
                                                              Sh.i IntKind.i64 (Int.ofNat 0),
                                                              Sh.i IntKind.i64 (Int.ofNat 0),
                                                              Sh.i IntKind.i64 (Int.ofNat 0),
                                                              Sh.i IntKind.i64 (Int.ofNat 0)]])))]
                                                (Tree.must
                                                  [Eqn.sh (Sh.sl 2 n0 (fnR g0)) (Sh.sl 2 n0 (fnR g0)),
                                                    Eqn.sh (Sh.sl 8 m0 (fnR h0)) (Sh.sl 8 m0 (fnR h0)),
                                                    Eqn.sh (Sh.sl 2 n1 (fnR g1)) (Sh.sl 2 n1 (fnR g1)),
                                                    Eqn.sh (Sh.sl 8 m1 (fnR h1)) (Sh.sl 8 m1 (fnR h1)), Eqn.int x x,
                                                    Eqn.int y y, Eqn.sh (Sh.sl 1 k (fnR q)) (Sh.sl 1 k (fnR q)),
                                                    Eqn.bool true true,
                                                    Eqn.sh (Sh.sl 2 n0 (fnR g0)) (Sh.sl 2 n0 (fnR g0)),
                                                    Eqn.sh (Sh.sl 8 m0 (fnR h0)) (Sh.sl 8 m0 (fnR h0)),
                                                    Eqn.sh (Sh.sl 2 n1 (fnR g1)) (Sh.sl 2 n1 (fnR g1)),
                                                    Eqn.sh (Sh.sl 8 m1 (fnR h1)) (Sh.sl 8 m1 (fnR h1)),
                                                    Eqn.sh (Sh.sl 1 k (fnR q)) (Sh.sl 1 k (fnR q)),
                                                    Eqn.nat (A.addN n0 1) (A.addN n0 1),
                                                    Eqn.fun_
                                                      (A.snoc (fO (fnR g0)) n0
                                                        (nthL
                                                          [[Sh.i IntKind.i64 (Int.ofNat 47),
                                                              Sh.i IntKind.i64 (Int.ofNat 0)]]))
                                                      (A.snoc (fO (fnR g0)) n0
                                                        (nthL
                                                          [[Sh.i IntKind.i64 (Int.ofNat 47),
                                                              Sh.i IntKind.i64 (Int.ofNat 0)]])),
                                                    Eqn.nat (A.addN m0 1) (A.addN m0 1),
                                                    Eqn.fun_
                                                      (A.snoc (fE (fnR h0)) m0
                                                        (nthL
                                                          [[Sh.i IntKind.i64 (Int.ofNat 47),
                                                              Sh.i IntKind.i64 (Int.ofNat 0),
                                                              Sh.i IntKind.i64 (Int.ofNat 0),
                                                              Sh.i IntKind.i64 (Int.ofNat 0),
                                                              Sh.i IntKind.i64 (Int.ofNat 0),
                                                              Sh.i IntKind.i64 (Int.ofNat 0),
                                                              Sh.i IntKind.i64 (Int.ofNat 0),
                                                              Sh.i IntKind.i64 (Int.ofNat 0)]]))
                                                      (A.snoc (fE (fnR h0)) m0
                                                        (nthL
                                                          [[Sh.i IntKind.i64 (Int.ofNat 47),
                                                              Sh.i IntKind.i64 (Int.ofNat 0),
                                                              Sh.i IntKind.i64 (Int.ofNat 0),
                                                              Sh.i IntKind.i64 (Int.ofNat 0),
                                                              Sh.i IntKind.i64 (Int.ofNat 0),
                                                              Sh.i IntKind.i64 (Int.ofNat 0),
                                                              Sh.i IntKind.i64 (Int.ofNat 0),
                                                              Sh.i IntKind.i64 (Int.ofNat 0)]])),
                                                    Eqn.sh
                                                      (Sh.sl 2 (A.toN (A.ofN n0))
                                                        (A.snoc (fO (fnR g0)) n0
                                                          (nthL
                                                            [[Sh.i IntKind.i64 (Int.ofNat 47),
                                                                Sh.i IntKind.i64 (Int.ofNat 0)]])))
                                                      (Sh.sl 2 (A.toN (A.ofN n0))
                                                        (A.snoc (fO (fnR g0)) n0
                                                          (nthL
                                                            [[Sh.i IntKind.i64 (Int.ofNat 47),
                                                                Sh.i IntKind.i64 (Int.ofNat 0)]]))),
                                                    Eqn.sh
                                                      (Sh.sl 8 (A.toN (A.ofN m0))
                                                        (A.snoc (fE (fnR h0)) m0
                                                          (nthL
                                                            [[Sh.i IntKind.i64 (Int.ofNat 47),
                                                                Sh.i IntKind.i64 (Int.ofNat 0),
                                                                Sh.i IntKind.i64 (Int.ofNat 0),
                                                                Sh.i IntKind.i64 (Int.ofNat 0),
                                                                Sh.i IntKind.i64 (Int.ofNat 0),
                                                                Sh.i IntKind.i64 (Int.ofNat 0),
                                                                Sh.i IntKind.i64 (Int.ofNat 0),
                                                                Sh.i IntKind.i64 (Int.ofNat 0)]])))
                                                      (Sh.sl 8 (A.toN (A.ofN m0))
                                                        (A.snoc (fE (fnR h0)) m0
                                                          (nthL
                                                            [[Sh.i IntKind.i64 (Int.ofNat 47),
                                                                Sh.i IntKind.i64 (Int.ofNat 0),
                                                                Sh.i IntKind.i64 (Int.ofNat 0),
                                                                Sh.i IntKind.i64 (Int.ofNat 0),
                                                                Sh.i IntKind.i64 (Int.ofNat 0),
                                                                Sh.i IntKind.i64 (Int.ofNat 0),
                                                                Sh.i IntKind.i64 (Int.ofNat 0),
                                                                Sh.i IntKind.i64 (Int.ofNat 0)]])))]
                                                  (Tree.need (roomB (A.toN (A.ofN n0)) 16)
                                                    (Tree.need (roomB (upN x (A.toN (A.ofN m0))) 64)
                                                      (Tree.need (okB Oj n0 (fnR g0))
                                                        (Tree.need (okB Ev (upN x m0) (fnR h0))
                                                          (Tree.need (roomB n0 16)
                                                            (Tree.need (roomB (upN x m0) 64)
                                                              (Tree.need
                                                                (okB Oj (A.toN (A.ofN n0))
                                                                  ((C5 A W spec3 stopAll).A.snoc (fO (fnR g0)) n0
                                                                    (nthL
                                                                      (chunks
                                                                        2
                                                                        1 [Sh.i IntKind.i64 47, Sh.i IntKind.i64 0]))))
                                                                (Tree.need (okB Oj n0 (fO (fnR g0)))
                                                                  (Tree.need
                                                                    (okB Ev (upN x (A.toN (A.ofN m0)))
                                                                      ((C5 A W spec3 stopAll).A.snoc (fE (fnR h0)) m0
                                                                        (nthL
                                                                          (chunks
                                                                            8
                                                                            1
                                                                            [Sh.i IntKind.i64 47, Sh.i IntKind.i64 0,
                                                                              Sh.i IntKind.i64 0, Sh.i IntKind.i64 0,
                                                                              Sh.i IntKind.i64 0, Sh.i IntKind.i64 0,
                                                                              Sh.i IntKind.i64 0,
                                                                              Sh.i IntKind.i64 0]))))
                                                                    (Tree.need (okB Ev (upN x m0) (fE (fnR h0)))
                                                                      (Tree.need
                                                                        (okB Ev (A.toN (A.ofN m0))
                                                                          ((C5 A W spec3 stopAll).A.snoc (fE (fnR h0))
                                                                            m0
                                                                            (nthL
                                                                              (chunks
                                                                                8
                                                                                1
                                                                                [Sh.i IntKind.i64 47,
                                                                                  Sh.i IntKind.i64 0,
                                                                                  Sh.i IntKind.i64 0,
                                                                                  Sh.i IntKind.i64 0,
                                                                                  Sh.i IntKind.i64 0,
                                                                                  Sh.i IntKind.i64 0,
                                                                                  Sh.i IntKind.i64 0,
                                                                                  Sh.i IntKind.i64 0]))))
                                                                        (Tree.need (roomB (A.toN (A.ofN n0)) 16)
                                                                          (Tree.need (roomB (A.toN (A.ofN m0)) 64)
                                                                            (Tree.need (okB Oj n0 (fnR g0))
                                                                              (Tree.need (okB Ev m0 (fnR h0))
                                                                                (Tree.need (roomB n0 16)
                                                                                  (Tree.need (roomB m0 64)
                                                                                    (Tree.need
                                                                                      (okB Oj (A.toN (A.ofN n0))
                                                                                        ((C5 A W spec3 stopAll).A.snoc
                                                                                          (fO (fnR g0)) n0
                                                                                          (nthL
                                                                                            (chunks
                                                                                              2
                                                                                              1
                                                                                              [Sh.i IntKind.i64 47,
                                                                                                Sh.i IntKind.i64 0]))))
                                                                                      (Tree.need
                                                                                        (okB Oj n0 (fO (fnR g0)))
                                                                                        (Tree.need
                                                                                          (okB Ev
                                                                                            (len
                                                                                              (keptF
                                                                                                (fun (x : Nat)
                                                                                                    (e : Ev) =>
                                                                                                  !e.tx == y)
                                                                                                (rwAt
                                                                                                  ((C5 A W spec3
                                                                                                          stopAll).A.snoc
                                                                                                    (fE (fnR h0)) m0
                                                                                                    (nthL
                                                                                                      (chunks
                                                                                                        8
                                                                                                        1
                                                                                                        [Sh.i
                                                                                                            IntKind.i64
                                                                                                            47,
                                                                                                          Sh.i
                                                                                                            IntKind.i64
                                                                                                            0,
                                                                                                          Sh.i
                                                                                                            IntKind.i64
                                                                                                            0,
                                                                                                          Sh.i
                                                                                                            IntKind.i64
                                                                                                            0,
                                                                                                          Sh.i
                                                                                                            IntKind.i64
                                                                                                            0,
                                                                                                          Sh.i
                                                                                                            IntKind.i64
                                                                                                            0,
                                                                                                          Sh.i
                                                                                                            IntKind.i64
                                                                                                            0,
                                                                                                          Sh.i
                                                                                                            IntKind.i64
                                                                                                            0]))))
                                                                                                (A.toN (A.ofN m0))))
                                                                                            (fnR
                                                                                              (nth
                                                                                                (keptF
                                                                                                  (fun (x : Nat)
                                                                                                      (e : Ev) =>
                                                                                                    !e.tx == y)
                                                                                                  (rwAt
                                                                                                    ((C5 A W spec3
                                                                                                            stopAll).A.snoc
                                                                                                      (fE (fnR h0)) m0
                                                                                                      (nthL
                                                                                                        (chunks
                                                                                                          8
                                                                                                          1
                                                                                                          [Sh.i
                                                                                                              IntKind.i64
                                                                                                              47,
                                                                                                            Sh.i
                                                                                                              IntKind.i64
                                                                                                              0,
                                                                                                            Sh.i
                                                                                                              IntKind.i64
                                                                                                              0,
                                                                                                            Sh.i
                                                                                                              IntKind.i64
                                                                                                              0,
                                                                                                            Sh.i
                                                                                                              IntKind.i64
                                                                                                              0,
                                                                                                            Sh.i
                                                                                                              IntKind.i64
                                                                                                              0,
                                                                                                            Sh.i
                                                                                                              IntKind.i64
                                                                                                              0,
                                                                                                            Sh.i
                                                                                                              IntKind.i64
                                                                                                              0]))))
                                                                                                  ((C5 A W spec3
                                                                                                          stopAll).A.toN
                                                                                                    ((C5 A W spec3
                                                                                                            stopAll).A.ofN
                                                                                                      m0))))))
                                                                                          (Tree.need
                                                                                            (okB Ev
                                                                                              (len
                                                                                                (keptF (kp19 [y] false)
                                                                                                  (rwAt (fnR h0)) m0))
                                                                                              (fnR
                                                                                                (nth
                                                                                                  (keptF
                                                                                                    (kp19 [y] false)
                                                                                                    (rwAt (fnR h0))
                                                                                                    m0))))
                                                                                            (Tree.leaf
                                                                                              (Fe2.at_ 0
                                                                                                [Eqn.sh
                                                                                                    (Sh.sl 2
                                                                                                      (A.addN n0 1)
                                                                                                      (A.snoc
                                                                                                        (fO (fnR g0)) n0
                                                                                                        (nthL
                                                                                                          [[Sh.i
                                                                                                                IntKind.i64
                                                                                                                (Int.ofNat
                                                                                                                  47),
                                                                                                              Sh.i
                                                                                                                IntKind.i64
                                                                                                                (Int.ofNat
                                                                                                                  0)]])))
                                                                                                    (Sh.sl 2 N gm),
                                                                                                  Eqn.sh
                                                                                                    (Sh.sl 8
                                                                                                      (A.addN m0 1)
                                                                                                      (A.snoc
                                                                                                        (fE (fnR h0)) m0
                                                                                                        (nthL
                                                                                                          [[Sh.i
                                                                                                                IntKind.i64
                                                                                                                (Int.ofNat
                                                                                                                  47),
                                                                                                              Sh.i
                                                                                                                IntKind.i64
                                                                                                                (Int.ofNat
                                                                                                                  0),
                                                                                                              Sh.i
                                                                                                                IntKind.i64
                                                                                                                (Int.ofNat
                                                                                                                  0),
                                                                                                              Sh.i
                                                                                                                IntKind.i64
                                                                                                                (Int.ofNat
                                                                                                                  0),
                                                                                                              Sh.i
                                                                                                                IntKind.i64
                                                                                                                (Int.ofNat
                                                                                                                  0),
                                                                                                              Sh.i
                                                                                                                IntKind.i64
                                                                                                                (Int.ofNat
                                                                                                                  0),
                                                                                                              Sh.i
                                                                                                                IntKind.i64
                                                                                                                (Int.ofNat
                                                                                                                  0),
                                                                                                              Sh.i
                                                                                                                IntKind.i64
                                                                                                                (Int.ofNat
                                                                                                                  0)]])))
                                                                                                    (Sh.sl 8 M hm),
                                                                                                  Eqn.bool
                                                                                                    (sameHB
                                                                                                      (A.toN (A.ofN n0))
                                                                                                      (upN x
                                                                                                        (A.toN
                                                                                                          (A.ofN m0)))
                                                                                                      ((C5 A W spec3
                                                                                                              stopAll).A.snoc
                                                                                                        (fO (fnR g0)) n0
                                                                                                        (nthL
                                                                                                          (chunks
                                                                                                            2
                                                                                                            1
                                                                                                            [Sh.i
                                                                                                                IntKind.i64
                                                                                                                47,
                                                                                                              Sh.i
                                                                                                                IntKind.i64
                                                                                                                0])))
                                                                                                      ((C5 A W spec3
                                                                                                              stopAll).A.snoc
                                                                                                        (fE (fnR h0)) m0
                                                                                                        (nthL
                                                                                                          (chunks
                                                                                                            8
                                                                                                            1
                                                                                                            [Sh.i
                                                                                                                IntKind.i64
                                                                                                                47,
                                                                                                              Sh.i
                                                                                                                IntKind.i64
                                                                                                                0,
                                                                                                              Sh.i
                                                                                                                IntKind.i64
                                                                                                                0,
                                                                                                              Sh.i
                                                                                                                IntKind.i64
                                                                                                                0,
                                                                                                              Sh.i
                                                                                                                IntKind.i64
                                                                                                                0,
                                                                                                              Sh.i
                                                                                                                IntKind.i64
                                                                                                                0,
                                                                                                              Sh.i
                                                                                                                IntKind.i64
                                                                                                                0,
                                                                                                              Sh.i
                                                                                                                IntKind.i64
                                                                                                                0])))
                                                                                                      n0 (upN x m0)
                                                                                                      (fO (fnR g0))
                                                                                                      (fE (fnR h0)))
                                                                                                    true,
                                                                                                  Eqn.bool
                                                                                                    (sameHB
                                                                                                      (A.toN (A.ofN n0))
                                                                                                      (len
                                                                                                        (keptF
                                                                                                          (fun (x : Nat)
                                                                                                              (e :
                                                                                                                Ev) =>
                                                                                                            !e.tx == y)
                                                                                                          (rwAt
                                                                                                            ((C5 A W
                                                                                                                    spec3
                                                                                                                    stopAll).A.snoc
                                                                                                              (fE
                                                                                                                (fnR
                                                                                                                  h0))
                                                                                                              m0
                                                                                                              (nthL
                                                                                                                (chunks
                                                                                                                  8
                                                                                                                  1
                                                                                                                  [Sh.i
                                                                                                                      IntKind.i64
                                                                                                                      47,
                                                                                                                    Sh.i
                                                                                                                      IntKind.i64
                                                                                                                      0,
                                                                                                                    Sh.i
                                                                                                                      IntKind.i64
                                                                                                                      0,
                                                                                                                    Sh.i
                                                                                                                      IntKind.i64
                                                                                                                      0,
                                                                                                                    Sh.i
                                                                                                                      IntKind.i64
                                                                                                                      0,
                                                                                                                    Sh.i
                                                                                                                      IntKind.i64
                                                                                                                      0,
                                                                                                                    Sh.i
                                                                                                                      IntKind.i64
                                                                                                                      0,
                                                                                                                    Sh.i
                                                                                                                      IntKind.i64
                                                                                                                      0]))))
                                                                                                          (A.toN
                                                                                                            (A.ofN
                                                                                                              m0))))
                                                                                                      ((C5 A W spec3
                                                                                                              stopAll).A.snoc
                                                                                                        (fO (fnR g0)) n0
                                                                                                        (nthL
                                                                                                          (chunks
                                                                                                            2
                                                                                                            1
                                                                                                            [Sh.i
                                                                                                                IntKind.i64
                                                                                                                47,
                                                                                                              Sh.i
                                                                                                                IntKind.i64
                                                                                                                0])))
                                                                                                      (fnR
                                                                                                        (nth
                                                                                                          (keptF
                                                                                                            (fun
                                                                                                                (x :
                                                                                                                  Nat)
                                                                                                                (e :
                                                                                                                  Ev) =>
                                                                                                              !e.tx ==
                                                                                                                  y)
                                                                                                            (rwAt
                                                                                                              ((C5 A W
                                                                                                                      spec3
                                                                                                                      stopAll).A.snoc
                                                                                                                (fE
                                                                                                                  (fnR
                                                                                                                    h0))
                                                                                                                m0
                                                                                                                (nthL
                                                                                                                  (chunks
                                                                                                                    8
                                                                                                                    1
                                                                                                                    [Sh.i
                                                                                                                        IntKind.i64
                                                                                                                        47,
                                                                                                                      Sh.i
                                                                                                                        IntKind.i64
                                                                                                                        0,
                                                                                                                      Sh.i
                                                                                                                        IntKind.i64
                                                                                                                        0,
                                                                                                                      Sh.i
                                                                                                                        IntKind.i64
                                                                                                                        0,
                                                                                                                      Sh.i
                                                                                                                        IntKind.i64
                                                                                                                        0,
                                                                                                                      Sh.i
                                                                                                                        IntKind.i64
                                                                                                                        0,
                                                                                                                      Sh.i
                                                                                                                        IntKind.i64
                                                                                                                        0,
                                                                                                                      Sh.i
                                                                                                                        IntKind.i64
                                                                                                                        0]))))
                                                                                                            ((C5 A W
                                                                                                                    spec3
                                                                                                                    stopAll).A.toN
                                                                                                              ((C5 A W
                                                                                                                      spec3
                                                                                                                      stopAll).A.ofN
                                                                                                                m0)))))
                                                                                                      n0
                                                                                                      (len
                                                                                                        (keptF
                                                                                                          (kp19 [y]
                                                                                                            false)
                                                                                                          (rwAt
                                                                                                            (fnR h0))
                                                                                                          m0))
                                                                                                      (fO (fnR g0))
                                                                                                      (fnR
                                                                                                        (nth
                                                                                                          (keptF
                                                                                                            (kp19 [y]
                                                                                                              false)
                                                                                                            (rwAt
                                                                                                              (fnR h0))
                                                                                                            m0))))
                                                                                                    true,
                                                                                                  Eqn.sh
                                                                                                    (Sh.sl 2
                                                                                                      (A.toN (A.ofN n0))
                                                                                                      (A.snoc
                                                                                                        (fO (fnR g0)) n0
                                                                                                        (nthL
                                                                                                          [[Sh.i
                                                                                                                IntKind.i64
                                                                                                                (Int.ofNat
                                                                                                                  47),
                                                                                                              Sh.i
                                                                                                                IntKind.i64
                                                                                                                (Int.ofNat
                                                                                                                  0)]])))
                                                                                                    (Sh.sl 2 n0 gm),
                                                                                                  Eqn.sh
                                                                                                    (Sh.sl 8
                                                                                                      (A.toN (A.ofN m0))
                                                                                                      (A.snoc
                                                                                                        (fE (fnR h0)) m0
                                                                                                        (nthL
                                                                                                          [[Sh.i
                                                                                                                IntKind.i64
                                                                                                                (Int.ofNat
                                                                                                                  47),
                                                                                                              Sh.i
                                                                                                                IntKind.i64
                                                                                                                (Int.ofNat
                                                                                                                  0),
                                                                                                              Sh.i
                                                                                                                IntKind.i64
                                                                                                                (Int.ofNat
                                                                                                                  0),
                                                                                                              Sh.i
                                                                                                                IntKind.i64
                                                                                                                (Int.ofNat
                                                                                                                  0),
                                                                                                              Sh.i
                                                                                                                IntKind.i64
                                                                                                                (Int.ofNat
                                                                                                                  0),
                                                                                                              Sh.i
                                                                                                                IntKind.i64
                                                                                                                (Int.ofNat
                                                                                                                  0),
                                                                                                              Sh.i
                                                                                                                IntKind.i64
                                                                                                                (Int.ofNat
                                                                                                                  0),
                                                                                                              Sh.i
                                                                                                                IntKind.i64
                                                                                                                (Int.ofNat
                                                                                                                  0)]])))
                                                                                                    (Sh.sl 8 m0 hm),
                                                                                                  Eqn.sh
                                                                                                    (Sh.sl 2 n0
                                                                                                      (fnR g0))
                                                                                                    (Sh.sl 2 n0
                                                                                                      (fnR g0)),
                                                                                                  Eqn.sh
                                                                                                    (Sh.sl 8 m0
                                                                                                      (fnR h0))
                                                                                                    (Sh.sl 8 m0
                                                                                                      (fnR h0)),
                                                                                                  Eqn.sh
                                                                                                    (Sh.sl 2 n1
                                                                                                      (fnR g1))
                                                                                                    (Sh.sl 2 n1
                                                                                                      (fnR g1)),
                                                                                                  Eqn.sh
                                                                                                    (Sh.sl 8 m1
                                                                                                      (fnR h1))
                                                                                                    (Sh.sl 8 m1
                                                                                                      (fnR h1)),
                                                                                                  Eqn.sh
                                                                                                    (Sh.sl 1 k (fnR q))
                                                                                                    (Sh.sl 1 k (fnR q)),
                                                                                                  Eqn.sh
                                                                                                    (Sh.sl 2
                                                                                                      (A.toN (A.ofN n0))
                                                                                                      (A.snoc
                                                                                                        (fO (fnR g0)) n0
                                                                                                        (nthL
                                                                                                          [[Sh.i
                                                                                                                IntKind.i64
                                                                                                                (Int.ofNat
                                                                                                                  47),
                                                                                                              Sh.i
                                                                                                                IntKind.i64
                                                                                                                (Int.ofNat
                                                                                                                  0)]])))
                                                                                                    (Sh.sl 2 n0 gm),
                                                                                                  Eqn.sh
                                                                                                    (Sh.sl 8
                                                                                                      (A.toN (A.ofN m0))
                                                                                                      (A.snoc
                                                                                                        (fE (fnR h0)) m0
                                                                                                        (nthL
                                                                                                          [[Sh.i
                                                                                                                IntKind.i64
                                                                                                                (Int.ofNat
                                                                                                                  47),
                                                                                                              Sh.i
                                                                                                                IntKind.i64
                                                                                                                (Int.ofNat
                                                                                                                  0),
                                                                                                              Sh.i
                                                                                                                IntKind.i64
                                                                                                                (Int.ofNat
                                                                                                                  0),
                                                                                                              Sh.i
                                                                                                                IntKind.i64
                                                                                                                (Int.ofNat
                                                                                                                  0),
                                                                                                              Sh.i
                                                                                                                IntKind.i64
                                                                                                                (Int.ofNat
                                                                                                                  0),
                                                                                                              Sh.i
                                                                                                                IntKind.i64
                                                                                                                (Int.ofNat
                                                                                                                  0),
                                                                                                              Sh.i
                                                                                                                IntKind.i64
                                                                                                                (Int.ofNat
                                                                                                                  0),
                                                                                                              Sh.i
                                                                                                                IntKind.i64
                                                                                                                (Int.ofNat
                                                                                                                  0)]])))
                                                                                                    (Sh.sl 8 m0
                                                                                                      hm)]))))))))))))))))))))))))))))))))))))))))))))))) := by kernel_rfl
theorem a17 (A : Prim) (W : Wd) (n0 m0 n1 m1 k N M : Nat) (g0 g1 go : Nat → Oj) (h0 h1 he : Nat → Ev) (q : Nat → Int) (i : Int) (a c : Nat) (ga gc : Nat → List Sh) :
    runTo (C5 A W spec3 stopAll) noHold 300 400 3 td17 (L17 n0 m0 n1 m1 k N M g0 g1 go h0 h1 he q (fnR go) (fnR he)) [] [⟨38, td10, LK n0 m0 n1 m1 k N M g0 g1 go h0 h1 he q i a c ga gc, fr17 n0 m0 n1 m1 k N M g0 g1 go h0 h1 he q⟩] =
      Tree.need (roomB n0 16)
  (Tree.need (roomB 0 64)
    (Tree.leaf
      (Fe2.at_ 0
        [Eqn.sh (Sh.sl 8 m0 (fnR he)) (Sh.sl 8 m0 (fnR he)), Eqn.int (A.ofN m0) (Int.ofNat m0), Eqn.int (Int.ofNat 0) i,
          Eqn.sh (Sh.sl 2 n0 (fnR g0)) (Sh.sl 2 n0 (fnR g0)), Eqn.sh (Sh.sl 8 m0 (fnR h0)) (Sh.sl 8 m0 (fnR h0)),
          Eqn.sh (Sh.sl 2 n1 (fnR g1)) (Sh.sl 2 n1 (fnR g1)), Eqn.sh (Sh.sl 8 m1 (fnR h1)) (Sh.sl 8 m1 (fnR h1)),
          Eqn.sh (Sh.sl 1 k (fnR q)) (Sh.sl 1 k (fnR q)), Eqn.sh (Sh.sl 2 n0 (fnR go)) (Sh.sl 2 n0 (fnR go)),
          Eqn.sh (Sh.sl 8 m0 (fnR he)) (Sh.sl 8 m0 (fnR he)), Eqn.nat n0 n0, Eqn.get n0 (fnR go) (fnR go), Eqn.nat 0 c,
          Eqn.get 0 (fun (x : Nat) => []) gc, Eqn.nat a 0, Eqn.sh (Sh.sl 2 N (fnR go)) (Sh.sl 2 N (fnR go)),
          Eqn.sh (Sh.sl 8 M (fnR he)) (Sh.sl 8 M (fnR he)), Eqn.bool true true, Eqn.bool true true]))) := by kernel_rfl
theorem bK (A : Prim) (W : Wd) (n0 m0 n1 m1 k N M : Nat) (g0 g1 go : Nat → Oj) (h0 h1 he : Nat → Ev) (q : Nat → Int) (i : Int) (a c : Nat) (ga gc : Nat → List Sh) (e : Ev) (j : Int) (a' c' b a2 : Nat) (ga' gc' gb : Nat → List Sh) :
    runTo (C5 A W spec3 stopAll) noHold 300 400 38 tb10 (LK n0 m0 n1 m1 k N M g0 g1 go h0 h1 he q i a c ga gc) (fr17 n0 m0 n1 m1 k N M g0 g1 go h0 h1 he q) [⟨18, td10, LI n0 m0 n1 m1 k N M g0 g1 go h0 h1 he q e j a' c' ga' gc', frI n0 m0 n1 m1 k N M g0 g1 go h0 h1 he q i⟩, ⟨3, td3, L3 n0 m0 n1 m1 k N M g0 g1 go h0 h1 he q 0 a2 b ga' gb, []⟩] =
      Tree.node (A.lt i (Int.ofNat m0))
  (Tree.need (A.inB i m0)
    (Tree.need (A.room (A.addN a 1) 8)
      (Tree.leaf
        (Fe2.at_ 0
          [Eqn.int (he (A.toN i)).tx e.tx, Eqn.int (Int.ofNat 0) j, Eqn.sh (Sh.sl 2 n0 (fnR g0)) (Sh.sl 2 n0 (fnR g0)),
            Eqn.sh (Sh.sl 8 m0 (fnR h0)) (Sh.sl 8 m0 (fnR h0)), Eqn.sh (Sh.sl 2 n1 (fnR g1)) (Sh.sl 2 n1 (fnR g1)),
            Eqn.sh (Sh.sl 8 m1 (fnR h1)) (Sh.sl 8 m1 (fnR h1)), Eqn.sh (Sh.sl 1 k (fnR q)) (Sh.sl 1 k (fnR q)),
            Eqn.sh (Sh.sl 2 n0 (fnR go)) (Sh.sl 2 n0 (fnR go)), Eqn.sh (Sh.sl 8 m0 (fnR he)) (Sh.sl 8 m0 (fnR he)),
            Eqn.nat n0 n0, Eqn.get n0 (fnR go) (fnR go), Eqn.nat c c', Eqn.get c gc gc', Eqn.nat (A.addN a 1) a',
            Eqn.get (A.addN a 1) (A.snoc ga a (nthL [[Sh.i IntKind.i64 (he (A.toN i)).tx]])) ga',
            Eqn.int (he (A.toN i)).kind e.kind, Eqn.int (he (A.toN i)).tx e.tx, Eqn.int (he (A.toN i)).thread e.thread,
            Eqn.int (he (A.toN i)).obj e.obj, Eqn.int (he (A.toN i)).op e.op, Eqn.int (he (A.toN i)).key e.key,
            Eqn.int (he (A.toN i)).val e.val, Eqn.int (he (A.toN i)).ret e.ret,
            Eqn.sh (Sh.sl 8 m0 (fnR he)) (Sh.sl 8 m0 (fnR he)), Eqn.int (Int.ofNat m0) (Int.ofNat m0), Eqn.int i i,
            Eqn.sh (Sh.sl 2 N (fnR go)) (Sh.sl 2 N (fnR go)), Eqn.sh (Sh.sl 8 M (fnR he)) (Sh.sl 8 M (fnR he)),
            Eqn.bool true true, Eqn.bool true true]))))
  (Tree.need (okB Oj n0 (fnR g0))
    (Tree.need (okB Ev m0 (fnR h0))
      (Tree.need (okB Int k (fnR q))
        (Tree.need (roomB n0 16)
          (Tree.need (roomB m0 64)
            (Tree.need (okB Oj n0 (fnR go))
              (Tree.need (okB Oj n0 (fO (fnR g0)))
                (Tree.need (okB Ev c gc)
                  (Tree.need
                    (okB Ev (len (keptF (kp19 (lst Int k (fnR q)) true) (rwAt (fnR h0)) m0))
                      (fnR (nth (keptF (kp19 (lst Int k (fnR q)) true) (rwAt (fnR h0)) m0))))
                    (Tree.leaf
                      (Fe2.at_ 1
                        [Eqn.sh (Sh.sl 2 N (fnR go)) (Sh.sl 2 N (fnR go)),
                          Eqn.sh (Sh.sl 8 M (fnR he)) (Sh.sl 8 M (fnR he)), Eqn.bool true true, Eqn.bool true true,
                          Eqn.bool
                            (sameHB n0 c (fnR go) gc n0 (len (keptF (kp19 (lst Int k (fnR q)) true) (rwAt (fnR h0)) m0))
                              (fO (fnR g0)) (fnR (nth (keptF (kp19 (lst Int k (fnR q)) true) (rwAt (fnR h0)) m0))))
                            true,
                          Eqn.int (Int.ofNat 0) (Int.ofNat 0), Eqn.sh (Sh.sl 2 n0 (fnR g0)) (Sh.sl 2 n0 (fnR g0)),
                          Eqn.sh (Sh.sl 8 m0 (fnR h0)) (Sh.sl 8 m0 (fnR h0)),
                          Eqn.sh (Sh.sl 2 n1 (fnR g1)) (Sh.sl 2 n1 (fnR g1)),
                          Eqn.sh (Sh.sl 8 m1 (fnR h1)) (Sh.sl 8 m1 (fnR h1)),
                          Eqn.sh (Sh.sl 2 n0 (fnR go)) (Sh.sl 2 n0 (fnR go)),
                          Eqn.sh (Sh.sl 8 m0 (fnR he)) (Sh.sl 8 m0 (fnR he)), Eqn.nat b 0, Eqn.nat a a2,
                          Eqn.get a ga ga']))))))))))) := by kernel_rfl
theorem bI (A : Prim) (W : Wd) (n0 m0 n1 m1 k N M : Nat) (g0 g1 go : Nat → Oj) (h0 h1 he : Nat → Ev) (q : Nat → Int) (i : Int) (a c : Nat) (ga gc : Nat → List Sh) (e : Ev) (j j' i' : Int) (c' : Nat) (gc' : Nat → List Sh) :
    runTo (C5 A W spec3 stopAll) noHold 300 400 18 tb10 (LI n0 m0 n1 m1 k N M g0 g1 go h0 h1 he q e j a c ga gc) (frI n0 m0 n1 m1 k N M g0 g1 go h0 h1 he q i) [⟨38, td10, LK n0 m0 n1 m1 k N M g0 g1 go h0 h1 he q i' a c' ga gc', fr17 n0 m0 n1 m1 k N M g0 g1 go h0 h1 he q⟩, ⟨18, td10, LI n0 m0 n1 m1 k N M g0 g1 go h0 h1 he q e j' a c ga gc, frI n0 m0 n1 m1 k N M g0 g1 go h0 h1 he q i⟩] =
      Tree.node (A.lt j (A.ofN k))
  (Tree.need (A.inB j k)
    (Tree.node (A.eq (q (A.toN j)) e.tx)
      (Tree.need (A.room (A.addN c 1) 64)
        (Tree.leaf
          (Fe2.at_ 0
            [Eqn.sh (Sh.sl 8 m0 (fnR he)) (Sh.sl 8 m0 (fnR he)), Eqn.int (Int.ofNat m0) (Int.ofNat m0),
              Eqn.int (A.add IntKind.i64 i (Int.ofNat 1)) i', Eqn.sh (Sh.sl 2 n0 (fnR g0)) (Sh.sl 2 n0 (fnR g0)),
              Eqn.sh (Sh.sl 8 m0 (fnR h0)) (Sh.sl 8 m0 (fnR h0)), Eqn.sh (Sh.sl 2 n1 (fnR g1)) (Sh.sl 2 n1 (fnR g1)),
              Eqn.sh (Sh.sl 8 m1 (fnR h1)) (Sh.sl 8 m1 (fnR h1)), Eqn.sh (Sh.sl 1 k (fnR q)) (Sh.sl 1 k (fnR q)),
              Eqn.sh (Sh.sl 2 n0 (fnR go)) (Sh.sl 2 n0 (fnR go)), Eqn.sh (Sh.sl 8 m0 (fnR he)) (Sh.sl 8 m0 (fnR he)),
              Eqn.nat n0 n0, Eqn.get n0 (fnR go) (fnR go), Eqn.nat (A.addN c 1) c',
              Eqn.get (A.addN c 1)
                (A.snoc gc c
                  (nthL
                    [[Sh.i IntKind.i64 e.kind, Sh.i IntKind.i64 e.tx, Sh.i IntKind.i64 e.thread, Sh.i IntKind.i64 e.obj,
                        Sh.i IntKind.i64 e.op, Sh.i IntKind.i64 e.key, Sh.i IntKind.i64 e.val,
                        Sh.i IntKind.i64 e.ret]]))
                gc',
              Eqn.nat a a, Eqn.get a ga ga, Eqn.sh (Sh.sl 2 N (fnR go)) (Sh.sl 2 N (fnR go)),
              Eqn.sh (Sh.sl 8 M (fnR he)) (Sh.sl 8 M (fnR he)), Eqn.bool true true, Eqn.bool true true])))
      (Tree.leaf
        (Fe2.at_ 1
          [Eqn.int e.tx e.tx, Eqn.int (A.add IntKind.i64 j (Int.ofNat 1)) j',
            Eqn.sh (Sh.sl 2 n0 (fnR g0)) (Sh.sl 2 n0 (fnR g0)), Eqn.sh (Sh.sl 8 m0 (fnR h0)) (Sh.sl 8 m0 (fnR h0)),
            Eqn.sh (Sh.sl 2 n1 (fnR g1)) (Sh.sl 2 n1 (fnR g1)), Eqn.sh (Sh.sl 8 m1 (fnR h1)) (Sh.sl 8 m1 (fnR h1)),
            Eqn.sh (Sh.sl 1 k (fnR q)) (Sh.sl 1 k (fnR q)), Eqn.sh (Sh.sl 2 n0 (fnR go)) (Sh.sl 2 n0 (fnR go)),
            Eqn.sh (Sh.sl 8 m0 (fnR he)) (Sh.sl 8 m0 (fnR he)), Eqn.nat n0 n0, Eqn.get n0 (fnR go) (fnR go),
            Eqn.nat c c, Eqn.get c gc gc, Eqn.nat a a, Eqn.get a ga ga, Eqn.int e.kind e.kind, Eqn.int e.tx e.tx,
            Eqn.int e.thread e.thread, Eqn.int e.obj e.obj, Eqn.int e.op e.op, Eqn.int e.key e.key, Eqn.int e.val e.val,
            Eqn.int e.ret e.ret, Eqn.sh (Sh.sl 8 m0 (fnR he)) (Sh.sl 8 m0 (fnR he)),
            Eqn.int (Int.ofNat m0) (Int.ofNat m0), Eqn.int i i, Eqn.sh (Sh.sl 2 N (fnR go)) (Sh.sl 2 N (fnR go)),
            Eqn.sh (Sh.sl 8 M (fnR he)) (Sh.sl 8 M (fnR he)), Eqn.bool true true, Eqn.bool true true]))))
  (Tree.leaf
    (Fe2.at_ 0
      [Eqn.sh (Sh.sl 8 m0 (fnR he)) (Sh.sl 8 m0 (fnR he)), Eqn.int (Int.ofNat m0) (Int.ofNat m0),
        Eqn.int (A.add IntKind.i64 i (Int.ofNat 1)) i', Eqn.sh (Sh.sl 2 n0 (fnR g0)) (Sh.sl 2 n0 (fnR g0)),
        Eqn.sh (Sh.sl 8 m0 (fnR h0)) (Sh.sl 8 m0 (fnR h0)), Eqn.sh (Sh.sl 2 n1 (fnR g1)) (Sh.sl 2 n1 (fnR g1)),
        Eqn.sh (Sh.sl 8 m1 (fnR h1)) (Sh.sl 8 m1 (fnR h1)), Eqn.sh (Sh.sl 1 k (fnR q)) (Sh.sl 1 k (fnR q)),
        Eqn.sh (Sh.sl 2 n0 (fnR go)) (Sh.sl 2 n0 (fnR go)), Eqn.sh (Sh.sl 8 m0 (fnR he)) (Sh.sl 8 m0 (fnR he)),
        Eqn.nat n0 n0, Eqn.get n0 (fnR go) (fnR go), Eqn.nat c c', Eqn.get c gc gc', Eqn.nat a a, Eqn.get a ga ga,
        Eqn.sh (Sh.sl 2 N (fnR go)) (Sh.sl 2 N (fnR go)), Eqn.sh (Sh.sl 8 M (fnR he)) (Sh.sl 8 M (fnR he)),
        Eqn.bool true true, Eqn.bool true true])) := by kernel_rfl
theorem b3 (A : Prim) (W : Wd) (n0 m0 n1 m1 k N M : Nat) (g0 g1 go : Nat → Oj) (h0 h1 he : Nat → Ev) (q : Nat → Int) (i i' : Int) (a b b' : Nat) (ga gb gb' : Nat → List Sh) :
    runTo (C5 A W spec3 stopAll) noHold 300 400 3 tb3 (L3 n0 m0 n1 m1 k N M g0 g1 go h0 h1 he q i a b ga gb) [] [⟨3, td3, L3 n0 m0 n1 m1 k N M g0 g1 go h0 h1 he q i' a b' ga gb', []⟩] =
      Tree.node (A.lt i (A.ofN m0))
  (Tree.need (A.inB i m0)
    (Tree.need (A.room (A.addN b 1) 8)
      (Tree.leaf
        (Fe2.at_ 0
          [Eqn.sh (Sh.sl 2 N (fnR go)) (Sh.sl 2 N (fnR go)), Eqn.sh (Sh.sl 8 M (fnR he)) (Sh.sl 8 M (fnR he)),
            Eqn.bool true true, Eqn.bool true true, Eqn.bool true true, Eqn.int (A.add IntKind.i64 i (Int.ofNat 1)) i',
            Eqn.sh (Sh.sl 2 n0 (fnR g0)) (Sh.sl 2 n0 (fnR g0)), Eqn.sh (Sh.sl 8 m0 (fnR h0)) (Sh.sl 8 m0 (fnR h0)),
            Eqn.sh (Sh.sl 2 n1 (fnR g1)) (Sh.sl 2 n1 (fnR g1)), Eqn.sh (Sh.sl 8 m1 (fnR h1)) (Sh.sl 8 m1 (fnR h1)),
            Eqn.sh (Sh.sl 2 n0 (fnR go)) (Sh.sl 2 n0 (fnR go)), Eqn.sh (Sh.sl 8 m0 (fnR he)) (Sh.sl 8 m0 (fnR he)),
            Eqn.nat (A.addN b 1) b',
            Eqn.get (A.addN b 1) (A.snoc gb b (nthL [[Sh.i IntKind.i64 (h0 (A.toN i)).tx]])) gb', Eqn.nat a a,
            Eqn.get a ga ga]))))
  (Tree.need (okB Oj n0 (fnR go))
    (Tree.need (okB Oj n0 (fnR g0))
      (Tree.need (okB Ev m0 (fnR he))
        (Tree.need (okB Ev m0 (fnR h0))
          (Tree.node (sameHB n0 m0 (fnR go) (fnR he) n0 m0 (fnR g0) (fnR h0))
            (Tree.need (A.inB (A.ofN n0) N)
              (Tree.node (A.eq (go (A.toN (A.ofN n0))).kind (Int.ofNat 47))
                (Tree.need (A.inB (A.ofN m0) M)
                  (Tree.node true
                    (Tree.node true
                      (Tree.node true
                        (Tree.need (okB Int a ga)
                          (Tree.need (okB Int b gb)
                            (Tree.node (sameL (lst Int a ga) (lst Int b gb))
                              (Tree.node (A.eq (he (A.toN (A.ofN m0))).kind (Int.ofNat 47))
                                (Tree.need (okB Oj n0 (fnR go))
                                  (Tree.need (okB Oj n1 (fnR g1))
                                    (Tree.need (okB Ev m0 (fnR he))
                                      (Tree.need (okB Ev m1 (fnR h1))
                                        (Tree.need (okB Oj n0 (fnR g0))
                                          (Tree.need (okB Oj n1 (fnR g1))
                                            (Tree.need (okB Ev m0 (fnR h0))
                                              (Tree.need (okB Ev m1 (fnR h1))
                                                (Tree.node
                                                  (A.beq (subHB n0 m0 (fnR go) (fnR he) n1 m1 (fnR g1) (fnR h1))
                                                    (subHB n0 m0 (fnR g0) (fnR h0) n1 m1 (fnR g1) (fnR h1)))
                                                  (Tree.need (okB Oj n1 (fnR g1))
                                                    (Tree.need (okB Oj n0 (fnR go))
                                                      (Tree.need (okB Ev m1 (fnR h1))
                                                        (Tree.need (okB Ev m0 (fnR he))
                                                          (Tree.need (okB Oj n1 (fnR g1))
                                                            (Tree.need (okB Oj n0 (fnR g0))
                                                              (Tree.need (okB Ev m1 (fnR h1))
                                                                (Tree.need (okB Ev m0 (fnR h0))
                                                                  (Tree.leaf
                                                                    (Fe2.ret
                                                                      (Sh.b
                                                                        (A.beq
                                                                          (subHB n1 m1 (fnR g1) (fnR h1) n0 m0 (fnR go)
                                                                            (fnR he))
                                                                          (subHB n1 m1 (fnR g1) (fnR h1) n0 m0 (fnR g0)
                                                                            (fnR h0))))))))))))))
                                                  (Tree.leaf (Fe2.ret (Sh.b false))))))))))))
                                (Tree.leaf (Fe2.ret (Sh.b false))))
                              (Tree.leaf (Fe2.ret (Sh.b false))))))
                        (Tree.leaf (Fe2.ret (Sh.b false))))
                      (Tree.leaf (Fe2.ret (Sh.b false))))
                    (Tree.leaf (Fe2.ret (Sh.b false)))))
                (Tree.node true
                  (Tree.node true
                    (Tree.node true
                      (Tree.need (okB Int a ga)
                        (Tree.need (okB Int b gb)
                          (Tree.node (sameL (lst Int a ga) (lst Int b gb)) (Tree.leaf (Fe2.ret (Sh.b false)))
                            (Tree.leaf (Fe2.ret (Sh.b false))))))
                      (Tree.leaf (Fe2.ret (Sh.b false))))
                    (Tree.leaf (Fe2.ret (Sh.b false))))
                  (Tree.leaf (Fe2.ret (Sh.b false))))))
            (Tree.node true
              (Tree.node true
                (Tree.node true
                  (Tree.need (okB Int a ga)
                    (Tree.need (okB Int b gb)
                      (Tree.node (sameL (lst Int a ga) (lst Int b gb)) (Tree.leaf (Fe2.ret (Sh.b false)))
                        (Tree.leaf (Fe2.ret (Sh.b false))))))
                  (Tree.leaf (Fe2.ret (Sh.b false))))
                (Tree.leaf (Fe2.ret (Sh.b false))))
              (Tree.leaf (Fe2.ret (Sh.b false))))))))) := by kernel_rfl
end Go.Proofs
namespace Go.Pl
open Go Go.Sx
theorem subB_congr {p p' : Nat → Ev} : ∀ (k i : Nat) (q q' : Nat → Ev) (r : Nat), (∀ j, j < k → p (i + j) = p' (i + j)) → (∀ j, j < r → q j = q' j) → subB p k i q r = subB p' k i q' r
  | 0, _, _, _, _, _, _ => rfl
  | k + 1, i, q, q', r, h1, h2 => by
    have hp : p i = p' i := h1 0 (by omega)
    have h1' : ∀ j, j < k → p (i + 1 + j) = p' (i + 1 + j) := fun j hj => by
      have := h1 (j + 1) (by omega)
      rwa [show i + (j + 1) = i + 1 + j by omega] at this
    simp only [subB]
    by_cases hr : 0 < r
    · rw [h2 0 hr, hp]
      cases (decide (0 < r) && evEq (q' 0) (p' i)) with
      | true => simp only [cond_true]; exact subB_congr k (i + 1) _ _ _ h1' fun j hj => h2 (1 + j) (by omega)
      | false => simp only [cond_false]; exact subB_congr k (i + 1) _ _ _ h1' h2
    · have e : decide (0 < r) = false := decide_eq_false hr
      rw [e]
      simp only [Bool.false_and, cond_false]
      exact subB_congr k (i + 1) _ _ _ h1' h2
theorem rwAt_fnR {α : Type} [Row α] (o : Nat → α) : rwAt (fnR o) = o := funext fun i => rowAt_put o i
theorem lst_pt {α : Type} [Row α] {n : Nat} {o p : Nat → α} (h : ∀ j, j < n → o j = p j) : lst α n (fnR o) = lst α n (fnR p) := lst_congr fun i hi => by simp only [fnR, h i hi]
theorem keptF_congr {P : Nat → Ev → Bool} {p p' : Nat → Ev} : ∀ {m : Nat}, (∀ j, j < m → p j = p' j) → keptF P p m = keptF P p' m
  | 0, _ => rfl
  | m + 1, h => by
    simp only [keptF]
    rw [keptF_congr (m := m) fun j hj => h j (by omega), h m (by omega)]
theorem keptF_ext {P Q : Nat → Ev → Bool} {p : Nat → Ev} (h : ∀ i e, P i e = Q i e) : ∀ {m : Nat}, keptF P p m = keptF Q p m
  | 0 => rfl
  | m + 1 => by
    simp only [keptF]
    rw [keptF_ext h (m := m), h]
theorem sameHB_true {n m n' m' : Nat} {g h g' h' : Nat → List Sh} (h1 : lst Oj n g = lst Oj n' g') (h2 : lst Ev m h = lst Ev m' h') : sameHB n m g h n' m' g' h' = true := by
  unfold sameHB
  rw [sameL_true h1, sameL_true h2]; rfl
def txf (p : Nat → Ev) (j : Nat) : Int := (p j).tx
theorem lst_kept (l : List Ev) : lst Ev (len l) (fnR (nth l)) = l := lst_nth l
theorem okB_kept (l : List Ev) : okB Ev (len l) (fnR (nth l)) = true := okB_put _ _
theorem room_le {n b : Nat} (h : n ≤ 100000) (hb : b ≤ 1000) : roomB n b = true := by
  show decide (n * b ≤ 140737488355328 ∧ n ≤ maxLen) = true
  rw [maxLen_eq]
  have : n * b ≤ 100000 * 1000 := Nat.mul_le_mul h hb
  exact decide_eq_true ⟨by omega, by omega⟩
theorem proom_le {n b : Nat} (h : n ≤ 100000) (hb : b ≤ 1000) : prim.room n b = true := room_le h hb
end Go.Pl
namespace Go.Proofs
open Go Go.Sx Go.Pl
theorem O3s : ∀ g F, spec3 g = some F → FnOK Tryd.prog (gls5 W5) g F := fun g F h => by
  unfold spec3 at h
  split at h
  · cases h; exact O8
  · cases h; exact O9p
  · cases h; exact O10
  · cases h; exact O11
  · cases h; exact O12p
  · cases h; exact O13
  · cases h; exact O14
  · cases h; exact O15
  · cases h; exact O16
  · cases h; exact O19
  · cases h; exact O20
  · cases h; exact O21p
  · cases h; exact O22p
  · cases h; exact O37
  · cases h
theorem fok3 (stop : Nat → List Nat → Bool) : FnsOK Tryd.prog (C5 prim W5 spec3 stop) := C5.fok O3s fun g h => by
  unfold spec3 at h
  split at h
  all_goals first | (cases h; done) | kernel_rfl
structure In3 (n0 m0 N M : Nat) (g0 go : Nat → Oj) (h0 he : Nat → Ev) : Prop where
  hn : n0 ≤ 100
  hm : m0 ≤ 600
  hN : N = n0 + 1
  hM : M = m0 + 1
  o : ∀ j, j < n0 → go j = g0 j
  oz : (go n0).kind = 47
  e : ∀ j, j < m0 → he j = h0 j
  ez : (he m0).kind = 47
section
variable {H0 : Mem} {w0 : World} {n0 m0 n1 m1 k N M : Nat} {g0 g1 go : Nat → Oj} {h0 h1 he : Nat → Ev} {q : Nat → Int} {φ : Sh → Prop}
theorem loop3 (I : In3 n0 m0 N M g0 go h0 he) (hφ : φ (.b true)) : ∀ rm (i : Nat), i + rm = m0 →
    GoesS Tryd.prog (C5 prim W5 spec3 stopAll) (K0 H0 w0) 3 td3 (L3 n0 m0 n1 m1 k N M g0 g1 go h0 h1 he q (i : Int) m0 i (fnR (txf he)) (fnR (txf h0))) [] emp φ
  | rm, i, hi => by
    have hm := I.hm
    have hn := I.hn
    have hN := I.hN
    have hM := I.hM
    refine goesS_into (fn := Tryd.f3) (tb := tb3) (by kernel_rfl) (by kernel_rfl) ?_
    refine goesS_runToM (C5.ok _ _) (fok3 _) (hold := noHold) (m := 300) (n := 400) (ts := [⟨3, td3, L3 n0 m0 n1 m1 k N M g0 g1 go h0 h1 he q ((i + 1 : Nat) : Int) m0 (i + 1) (fnR (txf he)) (fnR (txf h0)), []⟩]) ?_
    rw [b3 prim W5 n0 m0 n1 m1 k N M g0 g1 go h0 h1 he q i (i + 1 : Nat) m0 i (i + 1) (fnR (txf he)) (fnR (txf h0)) (fnR (txf h0)), meetsE_eq]
    refine ⟨fun h => ?_, fun h => ?_⟩
    · have hlt : i < m0 := by simp [prim_lt, prim_ofN] at h; omega
      match rm, hi with
      | 0, hi => omega
      | rm + 1, hi =>
        refine ⟨?_, proom_le (n := i + 1) (by omega) (by omega), ⟨rfl, rfl, rfl, rfl, rfl, ?_, rfl, rfl, rfl, rfl, rfl, rfl, rfl, ?_, rfl, fun _ _ => rfl, trivial⟩, _, rfl, loop3 I hφ rm (i + 1) (by omega)⟩
        · simp [prim_inB]; omega
        · show IntKind.i64.wrap ((i : Int) + 1) = ((i + 1 : Nat) : Int)
          rw [wrap_id (by omega) (by omega)]; rfl
        · exact snoc_row (o := txf h0) rfl
    · have hge : i = m0 := by simp [prim_lt, prim_ofN] at h; omega
      have eO : lst Oj n0 (fnR go) = lst Oj n0 (fnR g0) := lst_pt I.o
      have eE : lst Ev m0 (fnR he) = lst Ev m0 (fnR h0) := lst_pt I.e
      have sub1 : subHB n0 m0 (fnR go) (fnR he) n1 m1 (fnR g1) (fnR h1) = subHB n0 m0 (fnR g0) (fnR h0) n1 m1 (fnR g1) (fnR h1) := by
        unfold subHB
        rw [eO, rwAt_fnR, rwAt_fnR, rwAt_fnR, subB_congr m1 0 he h0 m0 (fun _ _ => rfl) I.e]
      have sub2 : subHB n1 m1 (fnR g1) (fnR h1) n0 m0 (fnR go) (fnR he) = subHB n1 m1 (fnR g1) (fnR h1) n0 m0 (fnR g0) (fnR h0) := by
        unfold subHB
        rw [eO, rwAt_fnR, rwAt_fnR, rwAt_fnR, subB_congr (p := he) (p' := h0) m0 0 h1 h1 m1 (fun j hj => I.e _ (by omega)) (fun _ _ => rfl)]
      have still : sameHB n0 m0 (fnR go) (fnR he) n0 m0 (fnR g0) (fnR h0) = true := sameHB_true eO eE
      have asked : sameL (lst Int m0 (fnR (txf he))) (lst Int i (fnR (txf h0))) = true := by
        subst hge
        exact sameL_true (lst_pt fun j hj => by unfold txf; rw [I.e j hj])
      have k1 : prim.eq (go (prim.toN (prim.ofN n0))).kind 47 = true := by
        have : (go n0).kind = 47 := I.oz
        show ((go n0).kind == 47) = true
        rw [this]; rfl
      have k2 : prim.eq (he (prim.toN (prim.ofN m0))).kind 47 = true := by
        have : (he m0).kind = 47 := I.ez
        show ((he m0).kind == 47) = true
        rw [this]; rfl
      have in1 : prim.inB (prim.ofN n0) N = true := by simp [prim_inB, prim_ofN]; omega
      have in2 : prim.inB (prim.ofN m0) M = true := by simp [prim_inB, prim_ofN]; omega
      have no : ∀ {b : Bool} {T : Prop}, b = true → (b = false → T) := fun h1 h2 => by rw [h1] at h2; cases h2
      have beq1 : prim.beq (subHB n0 m0 (fnR go) (fnR he) n1 m1 (fnR g1) (fnR h1)) (subHB n0 m0 (fnR g0) (fnR h0) n1 m1 (fnR g1) (fnR h1)) = true := by rw [sub1, prim_beq]; simp
      have beq2 : prim.beq (subHB n1 m1 (fnR g1) (fnR h1) n0 m0 (fnR go) (fnR he)) (subHB n1 m1 (fnR g1) (fnR h1) n0 m0 (fnR g0) (fnR h0)) = true := by rw [sub2, prim_beq]; simp
      have fin : φ (.b (prim.beq (subHB n1 m1 (fnR g1) (fnR h1) n0 m0 (fnR go) (fnR he)) (subHB n1 m1 (fnR g1) (fnR h1) n0 m0 (fnR g0) (fnR h0)))) := by rw [beq2]; exact hφ
      have b (n : Nat) {α : Type} [Row α] (o : Nat → α) : okB α n (fnR o) = true := okB_put o n
      exact ⟨b _ _, b _ _, b _ _, b _ _, fun _ => ⟨in1, fun _ => ⟨in2, fun _ => ⟨fun _ => ⟨fun _ => ⟨b _ _, b _ _, fun _ => ⟨fun _ => ⟨b _ _, b _ _, b _ _, b _ _, b _ _, b _ _, b _ _, b _ _, fun _ => ⟨b _ _, b _ _, b _ _, b _ _, b _ _, b _ _, b _ _, b _ _, fin⟩, no beq1⟩, no k2⟩, no asked⟩, no rfl⟩, no rfl⟩, no rfl⟩, no k1⟩, no still⟩

/-- What the law keeps. -/
theorem loopI (hr : k ≤ 100000) (hm : m0 ≤ 600) {i : Nat} (hi : i < m0)
    (next : GoesS Tryd.prog (C5 prim W5 spec3 stopAll) (K0 H0 w0) 38 td10 (LK n0 m0 n1 m1 k N M g0 g1 go h0 h1 he q (i + 1 : Nat) (i + 1) (keptF (kp19 (lst Int k (fnR q)) true) he (i + 1)).length (fnR (txf he)) (fnR (nth (keptF (kp19 (lst Int k (fnR q)) true) he (i + 1))))) (fr17 n0 m0 n1 m1 k N M g0 g1 go h0 h1 he q) emp φ) :
    ∀ rj (j : Nat), j + rj = k → (∀ x, x < j → q x ≠ (he i).tx) →
    GoesS Tryd.prog (C5 prim W5 spec3 stopAll) (K0 H0 w0) 18 td10 (LI n0 m0 n1 m1 k N M g0 g1 go h0 h1 he q (he i) (j : Int) (i + 1) (keptF (kp19 (lst Int k (fnR q)) true) he i).length (fnR (txf he)) (fnR (nth (keptF (kp19 (lst Int k (fnR q)) true) he i)))) (frI n0 m0 n1 m1 k N M g0 g1 go h0 h1 he q (i : Int)) emp φ
  | rj, j, hj, hno => by
    have hle := keptF_le (kp19 (lst Int k (fnR q)) true) he i
    have hmem : ∀ b, hasB (lst Int k (fnR q)) (he i).tx = b → (kp19 (lst Int k (fnR q)) true i (he i)) = b := fun b hb => by
      unfold kp19; rw [hb]; cases b <;> rfl
    have hkT : hasB (lst Int k (fnR q)) (he i).tx = true → keptF (kp19 (lst Int k (fnR q)) true) he (i + 1) = keptF (kp19 (lst Int k (fnR q)) true) he i ++ [he i] := fun h => by
      simp only [keptF, hmem true h, cond_true]
    have hkF : hasB (lst Int k (fnR q)) (he i).tx = false → keptF (kp19 (lst Int k (fnR q)) true) he (i + 1) = keptF (kp19 (lst Int k (fnR q)) true) he i := fun h => by
      simp only [keptF, hmem false h, cond_false]
    generalize hKP : keptF (kp19 (lst Int k (fnR q)) true) he i = KP at *
    generalize hKN : keptF (kp19 (lst Int k (fnR q)) true) he (i + 1) = KN at *
    have hwi : IntKind.i64.wrap ((i : Int) + 1) = ((i + 1 : Nat) : Int) := by rw [wrap_id (by omega) (by omega)]; rfl
    refine goesS_into (fn := Tryd.f18) (tb := tb10) (by kernel_rfl) (by kernel_rfl) ?_
    refine goesS_runToM (C5.ok _ _) (fok3 _) (hold := noHold) (m := 300) (n := 400) (ts := [⟨38, td10, LK n0 m0 n1 m1 k N M g0 g1 go h0 h1 he q ((i + 1 : Nat) : Int) (i + 1) KN.length (fnR (txf he)) (fnR (nth KN)), fr17 n0 m0 n1 m1 k N M g0 g1 go h0 h1 he q⟩, ⟨18, td10, LI n0 m0 n1 m1 k N M g0 g1 go h0 h1 he q (he i) ((j + 1 : Nat) : Int) (i + 1) KP.length (fnR (txf he)) (fnR (nth KP)), frI n0 m0 n1 m1 k N M g0 g1 go h0 h1 he q (i : Int)⟩]) ?_
    rw [bI prim W5 n0 m0 n1 m1 k N M g0 g1 go h0 h1 he q i (i + 1) KP.length (fnR (txf he)) (fnR (nth KP)) (he i) j (j + 1 : Nat) (i + 1 : Nat) KN.length (fnR (nth KN)), meetsE_eq]
    refine ⟨fun h => ?_, fun h => ?_⟩
    · have hlt : j < k := by simp [prim_lt, prim_ofN] at h; omega
      refine ⟨by simp [prim_inB]; omega, fun h2 => ?_, fun h2 => ?_⟩
      · have hq : q j = (he i).tx := by simpa [prim_eq, prim_toN] using h2
        have hin : hasB (lst Int k (fnR q)) (he i).tx = true := decide_eq_true (by
          rw [lst_put]; exact List.mem_map.2 ⟨j, List.mem_range.2 hlt, hq⟩)
        have e1 := hkT hin
        refine ⟨proom_le (n := KP.length + 1) (by omega) (by omega), ⟨rfl, rfl, hwi, rfl, rfl, rfl, rfl, rfl, rfl, rfl, rfl, fun _ _ => rfl, ?_, ?_, rfl, fun _ _ => rfl, rfl, rfl, rfl, rfl, trivial⟩, _, rfl, next⟩
        · show KP.length + 1 = KN.length
          rw [e1]; simp
        · show ∀ x, x < KP.length + 1 → _ = _
          rw [e1]; exact snoc_nth _ _ rfl
      · have hq : q j ≠ (he i).tx := by simpa [prim_eq, prim_toN] using h2
        match rj, hj with
        | 0, hj => omega
        | rj + 1, hj =>
          have hwj : IntKind.i64.wrap ((j : Int) + 1) = ((j + 1 : Nat) : Int) := by rw [wrap_id (by omega) (by omega)]; rfl
          have rec_ := loopI hr hm hi (by rw [hKN]; exact next) rj (j + 1) (by omega) fun x hx => by
            by_cases e : x = j
            · subst e; exact hq
            · exact hno x (by omega)
          rw [hKP] at rec_
          refine ⟨⟨rfl, hwj, rfl, rfl, rfl, rfl, rfl, rfl, rfl, rfl, fun _ _ => rfl, rfl, fun _ _ => rfl, rfl, fun _ _ => rfl, rfl, rfl, rfl, rfl, rfl, rfl, rfl, rfl, rfl, rfl, rfl, rfl, rfl, rfl, rfl, trivial⟩, _, rfl, rec_⟩
    · have hge : j = k := by simp [prim_lt, prim_ofN] at h; omega
      subst hge
      have hin : hasB (lst Int j (fnR q)) (he i).tx = false := decide_eq_false (by
        rw [lst_put]
        intro hm
        obtain ⟨x, h1, h2⟩ := List.mem_map.1 hm
        exact hno x (List.mem_range.1 h1) h2)
      have e1 := hkF hin
      subst e1
      exact ⟨⟨rfl, rfl, hwi, rfl, rfl, rfl, rfl, rfl, rfl, rfl, rfl, fun _ _ => rfl, rfl, fun _ _ => rfl, rfl, fun _ _ => rfl, rfl, rfl, rfl, rfl, trivial⟩, _, rfl, next⟩
theorem loopK (I : In3 n0 m0 N M g0 go h0 he) (hr : k ≤ 100000) (hφ : φ (.b true)) : ∀ rm (i : Nat), i + rm = m0 →
    GoesS Tryd.prog (C5 prim W5 spec3 stopAll) (K0 H0 w0) 38 td10 (LK n0 m0 n1 m1 k N M g0 g1 go h0 h1 he q (i : Int) i (keptF (kp19 (lst Int k (fnR q)) true) he i).length (fnR (txf he)) (fnR (nth (keptF (kp19 (lst Int k (fnR q)) true) he i)))) (fr17 n0 m0 n1 m1 k N M g0 g1 go h0 h1 he q) emp φ
  | rm, i, hi => by
    have hm := I.hm
    have hn := I.hn
    refine goesS_into (fn := Tryd.f38) (tb := tb10) (by kernel_rfl) (by kernel_rfl) ?_
    refine goesS_runToM (C5.ok _ _) (fok3 _) (hold := noHold) (m := 300) (n := 400) (ts := [⟨18, td10, LI n0 m0 n1 m1 k N M g0 g1 go h0 h1 he q (he i) ((0 : Nat) : Int) (i + 1) (keptF (kp19 (lst Int k (fnR q)) true) he i).length (fnR (txf he)) (fnR (nth (keptF (kp19 (lst Int k (fnR q)) true) he i))), frI n0 m0 n1 m1 k N M g0 g1 go h0 h1 he q (i : Int)⟩, ⟨3, td3, L3 n0 m0 n1 m1 k N M g0 g1 go h0 h1 he q 0 i 0 (fnR (txf he)) (fnR (txf h0)), []⟩]) ?_
    rw [bK prim W5 n0 m0 n1 m1 k N M g0 g1 go h0 h1 he q i i (keptF (kp19 (lst Int k (fnR q)) true) he i).length (fnR (txf he)) (fnR (nth (keptF (kp19 (lst Int k (fnR q)) true) he i))) (he i) (0 : Nat) (i + 1) (keptF (kp19 (lst Int k (fnR q)) true) he i).length 0 i (fnR (txf he)) (fnR (nth (keptF (kp19 (lst Int k (fnR q)) true) he i))) (fnR (txf h0)), meetsE_eq]
    refine ⟨fun h => ?_, fun h => ?_⟩
    · have hlt : i < m0 := by simp [prim_lt] at h; omega
      match rm, hi with
      | 0, hi => omega
      | rm + 1, hi =>
        refine ⟨by simp [prim_inB]; omega, proom_le (n := i + 1) (by omega) (by omega), ⟨rfl, rfl, rfl, rfl, rfl, rfl, rfl, rfl, rfl, rfl, fun _ _ => rfl, rfl, fun _ _ => rfl, rfl, ?_, rfl, rfl, rfl, rfl, rfl, rfl, rfl, rfl, rfl, rfl, rfl, rfl, rfl, rfl, rfl, trivial⟩, _, rfl, loopI hr hm hlt (loopK I hr hφ rm (i + 1) (by omega)) k 0 (by omega) fun x hx => by omega⟩
        exact snoc_row (o := txf he) rfl
    · have hge : i = m0 := by simp [prim_lt] at h; omega
      subst hge
      have b (n : Nat) {α : Type} [Row α] (o : Nat → α) : okB α n (fnR o) = true := okB_put o n
      have only : sameHB n0 (keptF (kp19 (lst Int k (fnR q)) true) he i).length (fnR go) (fnR (nth (keptF (kp19 (lst Int k (fnR q)) true) he i))) n0 (len (keptF (kp19 (lst Int k (fnR q)) true) (rwAt (fnR h0)) i)) (fO (fnR g0)) (fnR (nth (keptF (kp19 (lst Int k (fnR q)) true) (rwAt (fnR h0)) i))) = true := by
        refine sameHB_true ?_ ?_
        · rw [fO_fnR]; exact lst_pt I.o
        · rw [lst_kept, lst_nth, rwAt_fnR]
          exact keptF_congr I.e
      exact ⟨b _ _, b _ _, b _ _, room_le (by omega) (by omega), room_le (by omega) (by omega), b _ _, by rw [fO_fnR]; exact b _ _, b _ _, b _ _, ⟨rfl, rfl, rfl, rfl, only, rfl, rfl, rfl, rfl, rfl, rfl, rfl, rfl, rfl, fun _ _ => rfl, trivial⟩, _, rfl, loop3 (k := k) (q := q) I hφ i 0 (by omega)⟩

/-- Behind what has been asked of Prefix and Without. -/
theorem go17 (I : In3 n0 m0 N M g0 go h0 he) (hr : k ≤ 100000) (hφ : φ (.b true)) : GoesS Tryd.prog (C5 prim W5 spec3 stopAll) (K0 H0 w0) 3 td17 (L17 n0 m0 n1 m1 k N M g0 g1 go h0 h1 he q (fnR go) (fnR he)) [] emp φ := by
  have hm := I.hm
  have hn := I.hn
  refine goesS_runToM (C5.ok _ _) (fok3 _) (hold := noHold) (m := 300) (n := 400) (ts := [⟨38, td10, LK n0 m0 n1 m1 k N M g0 g1 go h0 h1 he q ((0 : Nat) : Int) 0 (keptF (kp19 (lst Int k (fnR q)) true) he 0).length (fnR (txf he)) (fnR (nth (keptF (kp19 (lst Int k (fnR q)) true) he 0))), fr17 n0 m0 n1 m1 k N M g0 g1 go h0 h1 he q⟩]) ?_
  rw [a17 prim W5 n0 m0 n1 m1 k N M g0 g1 go h0 h1 he q (0 : Nat) 0 (keptF (kp19 (lst Int k (fnR q)) true) he 0).length (fnR (txf he)) (fnR (nth (keptF (kp19 (lst Int k (fnR q)) true) he 0))), meetsE_eq]
  exact ⟨room_le (by omega) (by omega), room_le (by omega) (by omega), ⟨rfl, rfl, rfl, rfl, rfl, rfl, rfl, rfl, rfl, rfl, rfl, fun _ _ => rfl, rfl, fun j hj => by omega, rfl, rfl, rfl, rfl, rfl, trivial⟩, _, rfl, loopK I hr hφ m0 0 (by omega)⟩
end
theorem tmOf_p {n : Nat} {l l' : List (Nat × SV)} (h : l.length = l'.length) (hk : ∀ (i : Nat) (a b : Nat × SV), l[i]? = some a → l'[i]? = some b → a.1 = b.1 ∧ pS a.2 b.2) : pL (tmOf n l) (tmOf n l') := by
  unfold tmOf
  have : ∀ (l l' : List (Nat × SV)) (t t' : List SV), l.length = l'.length → (∀ (i : Nat) (a b : Nat × SV), l[i]? = some a → l'[i]? = some b → a.1 = b.1 ∧ pS a.2 b.2) → pL t t' → pL (l.foldl (fun t p => t.set p.1 p.2) t) (l'.foldl (fun t p => t.set p.1 p.2) t') := by
    intro l
    induction l with
    | nil => intro l' t t' h _ ht; cases l' with
      | nil => exact ht
      | cons _ _ => simp at h
    | cons x l ih =>
      intro l' t t' h hk ht
      cases l' with
      | nil => simp at h
      | cons y l' =>
        obtain ⟨e1, e2⟩ := hk 0 x y rfl rfl
        refine ih l' _ _ (by simpa using h) (fun i a b h1 h2 => hk (i + 1) a b h1 h2) ?_
        show pL (t.set x.1 x.2) (t'.set y.1 y.2)
        rw [e1]
        exact pL.set e2 _ ht
  exact this l l' _ _ h hk pL.rfl'
/-- The lists with one more behind them. -/
def gmO (n : Nat) (g : Nat → Oj) : Nat → List Sh := prim.snoc (fO (fnR g)) n (nthL [[.i .i64 47, .i .i64 0]])
def gmE (n : Nat) (h : Nat → Ev) : Nat → List Sh := prim.snoc (fE (fnR h)) n (nthL [[.i .i64 47, .i .i64 0, .i .i64 0, .i .i64 0, .i .i64 0, .i .i64 0, .i .i64 0, .i .i64 0]])
def upO (n : Nat) (g : Nat → Oj) (j : Nat) : Oj := if j < n then g j else ⟨47, 0⟩
def upE (n : Nat) (h : Nat → Ev) (j : Nat) : Ev := if j < n then h j else ⟨47, 0, 0, 0, 0, 0, 0, 0⟩
theorem gmO_at {n : Nat} {g : Nat → Oj} : ∀ j, j < n + 1 → gmO n g j = fnR (upO n g) j := fun j hj => by
  unfold gmO
  rw [prim_snoc, fO_fnR]
  simp only [fnR, upO]
  split
  · rfl
  · have : j - n = 0 := by omega
    rw [this]; rfl
theorem gmE_at {n : Nat} {h : Nat → Ev} : ∀ j, j < n + 1 → gmE n h j = fnR (upE n h) j := fun j hj => by
  unfold gmE
  rw [prim_snoc, fE_fnR]
  simp only [fnR, upE]
  split
  · rfl
  · have : j - n = 0 := by omega
    rw [this]; rfl
section
variable {H0 : Mem} {w0 : World} {n0 m0 n1 m1 k : Nat} {g0 g1 : Nat → Oj} {h0 h1 : Nat → Ev} {q : Nat → Int} {φ : Sh → Prop}
theorem in3_up (hn : n0 ≤ 100) (hm : m0 ≤ 600) : In3 n0 m0 (n0 + 1) (m0 + 1) g0 (upO n0 g0) h0 (upE m0 h0) :=
  ⟨hn, hm, rfl, rfl, fun j hj => by simp [upO, hj], by simp [upO], fun j hj => by simp [upE, hj], by simp [upE]⟩
theorem go17m (hn : n0 ≤ 100) (hm : m0 ≤ 600) (hr : k ≤ 100000) (hφ : φ (.b true)) : GoesS Tryd.prog (C5 prim W5 spec3 stopAll) (K0 H0 w0) 3 td17 (L17 n0 m0 n1 m1 k (n0 + 1) (m0 + 1) g0 g1 (upO n0 g0) h0 h1 (upE m0 h0) q (gmO n0 g0) (gmE m0 h0)) [] emp φ := by
  have s1 : pS (.sh (.sl 2 (n0 + 1) (gmO n0 g0))) (.sh (.sl 2 (n0 + 1) (fnR (upO n0 g0)))) := pS.sl gmO_at
  have s2 : pS (.sh (.sl 8 (m0 + 1) (gmE m0 h0))) (.sh (.sl 8 (m0 + 1) (fnR (upE m0 h0)))) := pS.sl gmE_at
  have s3 : pS (.sh (.sl 2 n0 (gmO n0 g0))) (.sh (.sl 2 n0 (fnR (upO n0 g0)))) := pS.sl fun j hj => gmO_at j (by omega)
  have s4 : pS (.sh (.sl 8 m0 (gmE m0 h0))) (.sh (.sl 8 m0 (fnR (upE m0 h0)))) := pS.sl fun j hj => gmE_at j (by omega)
  have g := go17 (H0 := H0) (w0 := w0) (n1 := n1) (m1 := m1) (g1 := g1) (h1 := h1) (q := q) (in3_up (g0 := g0) (h0 := h0) hn hm) hr hφ
  refine goesS_weakP ?_ ?_ g
  rotate_left
  · exact trivial
  refine ⟨?_, ?_, rfl, rfl, rfl⟩
  · refine tmOf_p rfl fun i a b h1 h2 => ?_
    match i, h1, h2 with
    | 0, h1, h2 => cases h1; cases h2; exact ⟨rfl, pS.rfl'⟩
    | 1, h1, h2 => cases h1; cases h2; exact ⟨rfl, pS.rfl'⟩
    | 2, h1, h2 => cases h1; cases h2; exact ⟨rfl, pS.rfl'⟩
    | 3, h1, h2 => cases h1; cases h2; exact ⟨rfl, s1⟩
    | 4, h1, h2 => cases h1; cases h2; exact ⟨rfl, s2⟩
    | 5, h1, h2 => cases h1; cases h2; exact ⟨rfl, pS.rfl'⟩
    | 6, h1, h2 => cases h1; cases h2; exact ⟨rfl, pS.rfl'⟩
    | 7, h1, h2 => cases h1; cases h2; exact ⟨rfl, pS.rfl'⟩
    | 8, h1, h2 => cases h1; cases h2; exact ⟨rfl, pS.rfl'⟩
    | 9, h1, h2 => cases h1; cases h2; exact ⟨rfl, pS.agg ⟨s3, s4, trivial⟩⟩
    | 10, h1, h2 => cases h1; cases h2; exact ⟨rfl, pS.rfl'⟩
    | i + 11, h1, h2 => cases h1
  · exact ⟨rfl, pB.rfl', rfl, pB.rfl', rfl, pB.rfl', rfl, ⟨rfl, s3, s4, trivial⟩, rfl, pB.rfl', trivial⟩
end
end Go.Proofs
namespace Go.Proofs
open Go Go.Sx Go.Pl
def F3 : List Sh → Tree Sh
  | [.agg [.sl 2 n0 g0, .sl 8 m0 h0], .agg [.sl 2 n1 g1, .sl 8 m1 h1], .i .i64 _, .i .i64 _, .sl 1 k q] => .need (okB Oj n0 g0) (.need (okB Ev m0 h0) (.need (okB Oj n1 g1) (.need (okB Ev m1 h1) (.need (okB Int k q) (.leaf (.b true))))))
  | _ => .fail
theorem okB_gmO {n m : Nat} {g : Nat → Oj} (h : m ≤ n + 1) : okB Oj m (gmO n g) = true := okB_of (o := upO n g) fun j hj => gmO_at j (by omega)
theorem okB_gmE {n m : Nat} {g : Nat → Ev} (h : m ≤ n + 1) : okB Ev m (gmE n g) = true := okB_of (o := upE n g) fun j hj => gmE_at j (by omega)
theorem rw_gmE {n : Nat} {h : Nat → Ev} {j : Nat} (hj : j < n) : rwAt (gmE n h) j = h j := by
  rw [rwAt, gmE_at j (by omega)]
  simp [fnR, Row.get_put, upE, hj]
theorem upN_le (x : Int) (m : Nat) : upN x m ≤ m := by unfold upN; omega
theorem pre3 {n0 m0 : Nat} {g0 : Nat → Oj} {h0 : Nat → Ev} {x : Int} : sameHB n0 (upN x m0) (gmO n0 g0) (gmE m0 h0) n0 (upN x m0) (fO (fnR g0)) (fE (fnR h0)) = true := by
  have := upN_le x m0
  refine sameHB_true (lst_congr fun j hj => ?_) (lst_congr fun j hj => ?_)
  · rw [gmO_at j (by omega), fO_fnR]
    simp [fnR, upO, hj]
  · rw [gmE_at j (by omega), fE_fnR]
    have : j < m0 := by omega
    simp [fnR, upE, this]
theorem wit3 {n0 m0 : Nat} {g0 : Nat → Oj} {h0 : Nat → Ev} {y : Int} : sameHB n0 (len (keptF (fun _ e => !(e.tx == y)) (rwAt (gmE m0 h0)) m0)) (gmO n0 g0) (fnR (nth (keptF (fun _ e => !(e.tx == y)) (rwAt (gmE m0 h0)) m0))) n0 (len (keptF (kp19 [y] false) (rwAt (fnR h0)) m0)) (fO (fnR g0)) (fnR (nth (keptF (kp19 [y] false) (rwAt (fnR h0)) m0))) = true := by
  refine sameHB_true (lst_congr fun j hj => ?_) ?_
  · rw [gmO_at j (by omega), fO_fnR]
    simp [fnR, upO, hj]
  · rw [lst_kept, lst_kept, rwAt_fnR, keptF_congr (p := rwAt (gmE m0 h0)) (p' := h0) fun j hj => rw_gmE hj]
    refine keptF_ext fun i e => ?_
    unfold kp19 hasB
    by_cases h : e.tx = y <;> simp [h]
theorem O3 : FnOK Tryd.prog (gls5 W5) 3 F3 := by
  refine fnOK_S (C := C5 prim W5 spec3 stopAll) (C5.ok _ _) (fn := Tryd.f3) (by kernel_rfl) (by kernel_rfl) fun H w shs args φ hrep h => ?_
  have hn : Tryd.f3.ntmps = 159 := by kernel_rfl
  unfold F3 at h
  split at h
  · rename_i n0 g0 m0 h0 n1 g1 m1 h1 x y k q
    obtain ⟨q1, q2, q3, q4, q5, hφ⟩ := h
    have hφ : φ (.b true) := hφ
    match args, hrep with
    | [v0, v1, v2, v3, v4], ⟨r0, r1, r2, r3, r4, _⟩ =>
      rw [hn]
      refine ⟨[.agg [.sl 2 n0 (fnR (rwAt (α := Oj) g0)), .sl 8 m0 (fnR (rwAt (α := Ev) h0))], .agg [.sl 2 n1 (fnR (rwAt (α := Oj) g1)), .sl 8 m1 (fnR (rwAt (α := Ev) h1))], .i .i64 x, .i .i64 y, .sl 1 k (fnR (rwAt (α := Int) q))], ⟨rep_agg_rows2 r0 q1 q2, rep_agg_rows2 r1 q3 q4, r2, r3, rep_rows r4 q5, trivial⟩, L0, ?_⟩
      generalize rwAt (α := Oj) g0 = g0
      generalize rwAt (α := Ev) h0 = h0
      generalize rwAt (α := Oj) g1 = g1
      generalize rwAt (α := Ev) h1 = h1
      generalize rwAt (α := Int) q = q
      refine goesS_runToM (C5.ok _ _) (fok3 _) (hold := hold17) (m := 300) (n := 400) (ts := [⟨3, td17, L17 n0 m0 n1 m1 k (n0 + 1) (m0 + 1) g0 g1 (upO n0 g0) h0 h1 (upE m0 h0) q (gmO n0 g0) (gmE m0 h0), []⟩]) ?_
      rw [a3 prim W5 n0 m0 n1 m1 k (n0 + 1) (m0 + 1) g0 g1 (upO n0 g0) h0 h1 (upE m0 h0) q x y (gmO n0 g0) (gmE m0 h0), meetsE_eq]
      refine ⟨fun _ => hφ, fun c1 => ⟨fun _ => hφ, fun _ => ⟨fun _ => hφ, fun c3 => ⟨fun _ => hφ, fun _ => ?_⟩⟩⟩⟩
      have c1 : smallB n0 m0 = true := by simpa [prim_nt] using c1
      simp [smallB] at c1
      have c3 : k ≤ 50 := by simp [prim_lt, prim_ofN] at c3; omega
      obtain ⟨s1, s2⟩ := c1
      have hup := upN_le x m0
      have last := go17m (H0 := H) (w0 := w) (n1 := n1) (m1 := m1) (g0 := g0) (h0 := h0) (g1 := g1) (h1 := h1) (q := q) s1 s2 (k := k) (by omega) hφ
      have up (a b : Nat) (h : a ≤ b) : prim.upTo (prim.ofN a) b = true := by simp [prim_upTo, prim_ofN]; omega
      repeat' (first
        | exact trivial
        | exact last
        | exact okB_put _ _
        | exact pre3
        | exact wit3
        | exact okB_gmO (by omega)
        | exact okB_gmE (by omega)
        | exact room_le (by omega) (by omega)
        | exact up _ _ (by omega)
        | exact rfl
        | refine And.intro ?_ ?_
        | refine Exists.intro _ (And.intro rfl ?_))
      all_goals first
        | exact up n0 (n0 + 1) (by omega)
        | exact up m0 (m0 + 1) (by omega)
        | exact room_le (n := n0) (by omega) (by omega)
        | exact room_le (n := m0) (by omega) (by omega)
        | exact room_le (n := upN x m0) (by omega) (by omega)
        | exact proom_le (n := n0 + 1) (by omega) (by omega)
        | exact proom_le (n := m0 + 1) (by omega) (by omega)
        | exact okB_gmO (n := n0) (m := n0) (by omega)
        | exact okB_gmE (n := m0) (m := m0) (by omega)
        | exact okB_gmE (n := m0) (m := upN x m0) (by omega)
  · exact h.elim
end Go.Proofs
