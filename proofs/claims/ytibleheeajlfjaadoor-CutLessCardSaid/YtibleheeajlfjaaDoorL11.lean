/-
  Chapter 5: the law CutMakes; evaluated. The equations are written by program (gen2.py). Own work. Chapter 5: summary: the law CutMakes answers true. Own work (written by program, mkf95.py). Targets that stand at one place: the first that fits is taken. Own work. Chapter 5: the law CutLess; evaluated. The equations are written by program (gen2.py). Own work. Chapter 5: summary: the law CutMakes answers true, whatever it is given. Own work. Chapter 5: summary: the law CutLess answers true. Own work. From the readings of a row to the shapes of the executor: ints, flat structs of ints, slices of them, the listed variables; and back: the row's post. Own work.
-/
import Derived.Test.YtibleheeajlfjaaDoorL10
import Derived.ProofKit
import Derived.Deep.Slices
import Derived.Stop.LaidErr
import Derived.LaidMore
namespace Go.Pl
open Go Go.Sx
def smallB (n m : Nat) : Bool := decide (n ≤ 100) && decide (m ≤ 600)
def sameHB (n m : Nat) (g h : Nat → List Sh) (n' m' : Nat) (g' h' : Nat → List Sh) : Bool := sameL (lst Oj n g) (lst Oj n' g') && sameL (lst Ev m h) (lst Ev m' h')
def subHB (n m : Nat) (g h : Nat → List Sh) (n' m' : Nat) (g' h' : Nat → List Sh) : Bool := sameL (lst Oj n g) (lst Oj n' g') && subB (rwAt h') m' 0 (rwAt h) m
/-- A list of values of which few are known. -/
def tmOf (n : Nat) (l : List (Nat × SV)) : List SV := l.foldl (fun t p => t.set p.1 p.2) (List.replicate n .any)
end Go.Pl
namespace Go.Proofs
open Go Go.Sx Go.Pl
def F9p : List Sh → Tree Sh
  | [.agg [.sl 2 n _, .sl 8 m _]] => .leaf (.b (smallB n m))
  | _ => .fail
def F12p : List Sh → Tree Sh
  | [.agg [.sl 2 n g, .sl 8 m h], .agg [.sl 2 n' g', .sl 8 m' h']] => .need (okB Oj n g) (.need (okB Oj n' g') (.need (okB Ev m h) (.need (okB Ev m' h') (.leaf (.b (sameHB n m g h n' m' g' h'))))))
  | _ => .fail
def F21p : List Sh → Tree Sh
  | [.agg [.sl 2 n g, .sl 8 m h], .agg [.sl 2 n' g', .sl 8 m' h']] => .need (okB Oj n g) (.need (okB Oj n' g') (.need (okB Ev m h) (.need (okB Ev m' h') (.leaf (.b (subHB n m g h n' m' g' h'))))))
  | _ => .fail
theorem O9p : FnOK Tryd.prog (gls5 W5) 9 F9p := O9
theorem O12p : FnOK Tryd.prog (gls5 W5) 12 F12p := O12
theorem O21p : FnOK Tryd.prog (gls5 W5) 21 F21p := O21
theorem O22p : FnOK Tryd.prog (gls5 W5) 22 F21p := O22
def spec3 : Nat → Option (List Sh → Tree Sh)
  | 8 => some F8
  | 9 => some F9p
  | 10 => some F10
  | 11 => some F11
  | 12 => some F12p
  | 13 => some F13
  | 14 => some F14
  | 15 => some F15
  | 16 => some F16
  | 19 => some F19
  | 20 => some F20
  | 21 => some F21p
  | 22 => some F21p
  | 37 => some F37
  | _ => none
def hold17 : Nat → Bool := fun g => Nat.beq g 17
def td17 : List It := [It.reg [0, 1, 1, 1, 1, 1, 1, 1, 1, 1] [2, 3, 4], It.code [1, 1, 1, 1, 1, 1, 1, 1, 1, 1]]
def tm3 (n0 m0 n1 m1 k N M : Nat) (g0 g1 go : Nat → Oj) (h0 h1 he : Nat → Ev) (q : Nat → Int) (gm hm : Nat → List Sh) : List (Nat × SV) :=
  [(5, .ptr 0 0), (6, .ptr 1 0), (9, .ptr 2 0), (12, .sh (.sl 2 N gm)), (13, .sh (.sl 8 M hm)), (14, .ptr 3 0), (15, .test true), (16, .test true), (17, .ptr 4 0)]
def hp3 (n0 m0 n1 m1 k N M : Nat) (g0 g1 go : Nat → Oj) (h0 h1 he : Nat → Ev) (q : Nat → Int) (gm hm : Nat → List Sh) (av : SV) : List (Nat × SB) :=
  [(0, .box [.sh (.sl 2 n0 (fnR g0)), .sh (.sl 8 m0 (fnR h0))] 25), (1, .box [.sh (.sl 2 n1 (fnR g1)), .sh (.sl 8 m1 (fnR h1))] 25), (2, .box [.sh (.sl 1 k (fnR q))] 26), (3, .box [.sh (.sl 2 n0 gm), .sh (.sl 8 m0 hm)] 25), (4, .box [av] 26)]
/-- Ahead of Only. -/
def L17 (n0 m0 n1 m1 k N M : Nat) (g0 g1 go : Nat → Oj) (h0 h1 he : Nat → Ev) (q : Nat → Int) (gm hm : Nat → List Sh) : Core :=
  { tm := tmOf 159 (tm3 n0 m0 n1 m1 k N M g0 g1 go h0 h1 he q gm hm ++ [(79, .agg [.sh (.sl 2 n0 gm), .sh (.sl 8 m0 hm)]), (80, .fn 18 [.ptr 4 0, .ptr 2 0])]), hp := hp3 n0 m0 n1 m1 k N M g0 g1 go h0 h1 he q gm hm .nils, nx := 5, lim := L0, tc := [] }
/-- The frames of Only and of the law. -/
def fr17 (n0 m0 n1 m1 k N M : Nat) (g0 g1 go : Nat → Oj) (h0 h1 he : Nat → Ev) (q : Nat → Int) : List Fr :=
  [⟨17, [.reg [0, 1] [2, 3], .code [1, 1]], tmOf 8 [(4, .ptr 7 0)]⟩, ⟨3, td17, tmOf 159 (tm3 n0 m0 n1 m1 k N M g0 g1 go h0 h1 he q (fnR go) (fnR he))⟩]
def hpK (n0 m0 n1 m1 k N M : Nat) (g0 g1 go : Nat → Oj) (h0 h1 he : Nat → Ev) (q : Nat → Int) (a c : Nat) (ga gc : Nat → List Sh) : List (Nat × SB) :=
  hp3 n0 m0 n1 m1 k N M g0 g1 go h0 h1 he q (fnR go) (fnR he) (.gs 13) ++ [(6, .box [.fn 18 [.ptr 4 0, .ptr 2 0]] 38), (7, .box [.nils, .nils] 25), (9, .box [.nils, .nils] 25), (10, .own 31 2 n0 (fnR go)), (11, .own 34 8 c gc), (12, .box [.gs 10, .gs 11] 25), (13, .own 3 1 a ga)]
def tm38 (n0 m0 n1 m1 k N M : Nat) (g0 g1 go : Nat → Oj) (h0 h1 he : Nat → Ev) (q : Nat → Int) (i : Int) : List (Nat × SV) :=
  [(1, .fn 40 [.ptr 6 0]), (4, .ptr 9 0), (5, .ptr 12 0), (13, .sh (.sl 8 m0 (fnR he))), (14, .sym .i64 (m0 : Int)), (15, .sym .i64 i)]
/-- At the head of kept's loop. -/
def LK (n0 m0 n1 m1 k N M : Nat) (g0 g1 go : Nat → Oj) (h0 h1 he : Nat → Ev) (q : Nat → Int) (i : Int) (a c : Nat) (ga gc : Nat → List Sh) : Core :=
  { tm := tmOf 32 (tm38 n0 m0 n1 m1 k N M g0 g1 go h0 h1 he q i), hp := hpK n0 m0 n1 m1 k N M g0 g1 go h0 h1 he q a c ga gc, nx := 14, lim := L0, tc := [] }
/-- The closures' frames, while kept looks at an event. -/
def frI (n0 m0 n1 m1 k N M : Nat) (g0 g1 go : Nat → Oj) (h0 h1 he : Nat → Ev) (q : Nat → Int) (i : Int) : List Fr :=
  [⟨40, [.reg [0, 1] [3, 4], .code [1, 1]], tmOf 10 []⟩,
   ⟨38, [.reg [0, 1, 0, 0, 1, 1, 0, 0, 1, 0, 1, 1] [3], .code [1, 1, 0, 0, 1, 1, 0, 0, 1, 0, 1, 1], .inBlock 1, .code [1, 1, 1, 0, 0, 1, 0, 1, 1], .code [0, 1, 0, 1, 1], .inBlock 0, .code [1, 1, 1]], tmOf 32 (tm38 n0 m0 n1 m1 k N M g0 g1 go h0 h1 he q i ++ [(7, .ptr 14 0)])⟩] ++ fr17 n0 m0 n1 m1 k N M g0 g1 go h0 h1 he q
/-- At the head of the law's closure's loop. -/
def LI (n0 m0 n1 m1 k N M : Nat) (g0 g1 go : Nat → Oj) (h0 h1 he : Nat → Ev) (q : Nat → Int) (e : Ev) (j : Int) (a c : Nat) (ga gc : Nat → List Sh) : Core :=
  { tm := tmOf 22 [(0, .sym .i64 e.tx), (2, .ptr 2 0), (5, .sym .i64 j)], hp := hpK n0 m0 n1 m1 k N M g0 g1 go h0 h1 he q a c ga gc ++ [(14, .box (argL (evR e)) 34)], nx := 15, lim := L0, tc := [] }
def td3 : List It := [It.code [0, 1, 0, 1, 1, 1, 1, 1, 1, 1, 1, 1, 1, 1, 1], It.inBlock 0, It.code [1, 1, 1, 1, 1, 1, 1, 1, 1, 1, 1, 1, 1]]
def tb3 : List It := It.code [0, 0, 1, 0, 1, 1, 1, 1, 1, 1, 1, 1, 1, 1, 1, 1] :: td3
/-- At the head of the law's own loop. -/
def L3 (n0 m0 n1 m1 k N M : Nat) (g0 g1 go : Nat → Oj) (h0 h1 he : Nat → Ev) (q : Nat → Int) (i : Int) (a b : Nat) (ga gb : Nat → List Sh) : Core :=
  { tm := tmOf 159 [(5, .ptr 0 0), (6, .ptr 1 0), (12, .sh (.sl 2 N (fnR go))), (13, .sh (.sl 8 M (fnR he))), (14, .ptr 3 0), (15, .test true), (16, .test true), (17, .ptr 4 0), (19, .test true), (20, .gs 5), (21, .sym .i64 i)],
    hp := [(0, .box [.sh (.sl 2 n0 (fnR g0)), .sh (.sl 8 m0 (fnR h0))] 25), (1, .box [.sh (.sl 2 n1 (fnR g1)), .sh (.sl 8 m1 (fnR h1))] 25), (3, .box [.sh (.sl 2 n0 (fnR go)), .sh (.sl 8 m0 (fnR he))] 25), (4, .box [.gs 13] 26), (5, .own 3 1 b gb), (13, .own 3 1 a ga)], nx := 14, lim := L0, tc := [] }

theorem a3 (A : Prim) (W : Wd) (n0 m0 n1 m1 k N M : Nat) (g0 g1 go : Nat → Oj) (h0 h1 he : Nat → Ev) (q : Nat → Int) (x y : Int) (gm hm : Nat → List Sh) : runTo (C5 A W spec3 stopAll) hold17 300 400 3 [.code []] (start0 159 [.agg [.sl 2 n0 (fnR g0), .sl 8 m0 (fnR h0)], .agg [.sl 2 n1 (fnR g1), .sl 8 m1 (fnR h1)], .i .i64 x, .i .i64 y, .sl 1 k (fnR q)] L0) [] [⟨3, td17, L17 n0 m0 n1 m1 k N M g0 g1 go h0 h1 he q gm hm, []⟩] = Tree.node (A.nt (smallB n0 m0)) (Tree.leaf (Fe2.ret (Sh.b true))) (Tree.node (A.nt (smallB n1 m1)) (Tree.leaf (Fe2.ret (Sh.b true))) (Tree.node (A.lt (Int.ofNat 50) (A.ofN k)) (Tree.leaf (Fe2.ret (Sh.b true))) (Tree.node (A.nt true) (Tree.leaf (Fe2.ret (Sh.b true))) (Tree.need (okB Oj n0 (fnR g0)) (Tree.need (roomB n0 16) (Tree.need (A.room (A.addN n0 1) 16) (Tree.need (okB Ev m0 (fnR h0)) (Tree.need (roomB m0 64) (Tree.need (A.room (A.addN m0 1) 64) (Tree.need (A.upTo (A.ofN n0) (A.addN n0 1)) (Tree.need (A.upTo (A.ofN m0) (A.addN m0 1)) (Tree.need (A.upTo (A.ofN m0) (A.addN m0 1)) (Tree.must [Eqn.sh (Sh.sl 2 n0 (fnR g0)) (Sh.sl 2 n0 (fnR g0)), Eqn.sh (Sh.sl 8 m0 (fnR h0)) (Sh.sl 8 m0 (fnR h0)), Eqn.sh (Sh.sl 2 n1 (fnR g1)) (Sh.sl 2 n1 (fnR g1)), Eqn.sh (Sh.sl 8 m1 (fnR h1)) (Sh.sl 8 m1 (fnR h1)), Eqn.int x x, Eqn.int y y, Eqn.sh (Sh.sl 1 k (fnR q)) (Sh.sl 1 k (fnR q)), Eqn.bool true true, Eqn.sh (Sh.sl 2 n0 (fnR g0)) (Sh.sl 2 n0 (fnR g0)), Eqn.sh (Sh.sl 8 m0 (fnR h0)) (Sh.sl 8 m0 (fnR h0)), Eqn.sh (Sh.sl 2 n1 (fnR g1)) (Sh.sl 2 n1 (fnR g1)), Eqn.sh (Sh.sl 8 m1 (fnR h1)) (Sh.sl 8 m1 (fnR h1)), Eqn.sh (Sh.sl 1 k (fnR q)) (Sh.sl 1 k (fnR q)), Eqn.nat (A.addN n0 1) (A.addN n0 1), Eqn.fun_ (A.snoc (fO (fnR g0)) n0 (nthL [[Sh.i IntKind.i64 (Int.ofNat 47), Sh.i IntKind.i64 (Int.ofNat 0)]])) (A.snoc (fO (fnR g0)) n0 (nthL [[Sh.i IntKind.i64 (Int.ofNat 47), Sh.i IntKind.i64 (Int.ofNat 0)]])), Eqn.nat (A.addN m0 1) (A.addN m0 1), Eqn.fun_ (A.snoc (fE (fnR h0)) m0 (nthL [[Sh.i IntKind.i64 (Int.ofNat 47), Sh.i IntKind.i64 (Int.ofNat 0), Sh.i IntKind.i64 (Int.ofNat 0), Sh.i IntKind.i64 (Int.ofNat 0), Sh.i IntKind.i64 (Int.ofNat 0), Sh.i IntKind.i64 (Int.ofNat 0), Sh.i IntKind.i64 (Int.ofNat 0), Sh.i IntKind.i64 (Int.ofNat 0)]])) (A.snoc (fE (fnR h0)) m0 (nthL [[Sh.i IntKind.i64 (Int.ofNat 47), Sh.i IntKind.i64 (Int.ofNat 0), Sh.i IntKind.i64 (Int.ofNat 0), Sh.i IntKind.i64 (Int.ofNat 0), Sh.i IntKind.i64 (Int.ofNat 0), Sh.i IntKind.i64 (Int.ofNat 0), Sh.i IntKind.i64 (Int.ofNat 0), Sh.i IntKind.i64 (Int.ofNat 0)]])), Eqn.sh (Sh.sl 2 (A.toN (A.ofN n0)) (A.snoc (fO (fnR g0)) n0 (nthL [[Sh.i IntKind.i64 (Int.ofNat 47), Sh.i IntKind.i64 (Int.ofNat 0)]]))) (Sh.sl 2 (A.toN (A.ofN n0)) (A.snoc (fO (fnR g0)) n0 (nthL [[Sh.i IntKind.i64 (Int.ofNat 47), Sh.i IntKind.i64 (Int.ofNat 0)]]))), Eqn.sh (Sh.sl 8 (A.toN (A.ofN m0)) (A.snoc (fE (fnR h0)) m0 (nthL [[Sh.i IntKind.i64 (Int.ofNat 47), Sh.i IntKind.i64 (Int.ofNat 0), Sh.i IntKind.i64 (Int.ofNat 0), Sh.i IntKind.i64 (Int.ofNat 0), Sh.i IntKind.i64 (Int.ofNat 0), Sh.i IntKind.i64 (Int.ofNat 0), Sh.i IntKind.i64 (Int.ofNat 0), Sh.i IntKind.i64 (Int.ofNat 0)]]))) (Sh.sl 8 (A.toN (A.ofN m0)) (A.snoc (fE (fnR h0)) m0 (nthL [[Sh.i IntKind.i64 (Int.ofNat 47), Sh.i IntKind.i64 (Int.ofNat 0), Sh.i IntKind.i64 (Int.ofNat 0), Sh.i IntKind.i64 (Int.ofNat 0), Sh.i IntKind.i64 (Int.ofNat 0), Sh.i IntKind.i64 (Int.ofNat 0), Sh.i IntKind.i64 (Int.ofNat 0), Sh.i IntKind.i64 (Int.ofNat 0)]])))] (Tree.need (A.upTo (A.ofN m0) (A.addN m0 1)) (Tree.need (A.upTo (A.ofN n0) (A.addN n0 1)) (Tree.need (A.upTo (A.ofN n0) (A.addN n0 1)) (Tree.must [Eqn.sh (Sh.sl 2 n0 (fnR g0)) (Sh.sl 2 n0 (fnR g0)), Eqn.sh (Sh.sl 8 m0 (fnR h0)) (Sh.sl 8 m0 (fnR h0)), Eqn.sh (Sh.sl 2 n1 (fnR g1)) (Sh.sl 2 n1 (fnR g1)), Eqn.sh (Sh.sl 8 m1 (fnR h1)) (Sh.sl 8 m1 (fnR h1)), Eqn.int x x, Eqn.int y y, Eqn.sh (Sh.sl 1 k (fnR q)) (Sh.sl 1 k (fnR q)), Eqn.bool true true, Eqn.sh (Sh.sl 2 n0 (fnR g0)) (Sh.sl 2 n0 (fnR g0)), Eqn.sh (Sh.sl 8 m0 (fnR h0)) (Sh.sl 8 m0 (fnR h0)), Eqn.sh (Sh.sl 2 n1 (fnR g1)) (Sh.sl 2 n1 (fnR g1)), Eqn.sh (Sh.sl 8 m1 (fnR h1)) (Sh.sl 8 m1 (fnR h1)), Eqn.sh (Sh.sl 1 k (fnR q)) (Sh.sl 1 k (fnR q)), Eqn.nat (A.addN n0 1) (A.addN n0 1), Eqn.fun_ (A.snoc (fO (fnR g0)) n0 (nthL [[Sh.i IntKind.i64 (Int.ofNat 47), Sh.i IntKind.i64 (Int.ofNat 0)]])) (A.snoc (fO (fnR g0)) n0 (nthL [[Sh.i IntKind.i64 (Int.ofNat 47), Sh.i IntKind.i64 (Int.ofNat 0)]])), Eqn.nat (A.addN m0 1) (A.addN m0 1), Eqn.fun_ (A.snoc (fE (fnR h0)) m0 (nthL [[Sh.i IntKind.i64 (Int.ofNat 47), Sh.i IntKind.i64 (Int.ofNat 0), Sh.i IntKind.i64 (Int.ofNat 0), Sh.i IntKind.i64 (Int.ofNat 0), Sh.i IntKind.i64 (Int.ofNat 0), Sh.i IntKind.i64 (Int.ofNat 0), Sh.i IntKind.i64 (Int.ofNat 0), Sh.i IntKind.i64 (Int.ofNat 0)]])) (A.snoc (fE (fnR h0)) m0 (nthL [[Sh.i IntKind.i64 (Int.ofNat 47), Sh.i IntKind.i64 (Int.ofNat 0), Sh.i IntKind.i64 (Int.ofNat 0), Sh.i IntKind.i64 (Int.ofNat 0), Sh.i IntKind.i64 (Int.ofNat 0), Sh.i IntKind.i64 (Int.ofNat 0), Sh.i IntKind.i64 (Int.ofNat 0), Sh.i IntKind.i64 (Int.ofNat 0)]])), Eqn.sh (Sh.sl 2 (A.toN (A.ofN n0)) (A.snoc (fO (fnR g0)) n0 (nthL [[Sh.i IntKind.i64 (Int.ofNat 47), Sh.i IntKind.i64 (Int.ofNat 0)]]))) (Sh.sl 2 (A.toN (A.ofN n0)) (A.snoc (fO (fnR g0)) n0 (nthL [[Sh.i IntKind.i64 (Int.ofNat 47), Sh.i IntKind.i64 (Int.ofNat 0)]]))), Eqn.sh (Sh.sl 8 (A.toN (A.ofN m0)) (A.snoc (fE (fnR h0)) m0 (nthL [[Sh.i IntKind.i64 (Int.ofNat 47), Sh.i IntKind.i64 (Int.ofNat 0), Sh.i IntKind.i64 (Int.ofNat 0), Sh.i IntKind.i64 (Int.ofNat 0), Sh.i IntKind.i64 (Int.ofNat 0), Sh.i IntKind.i64 (Int.ofNat 0), Sh.i IntKind.i64 (Int.ofNat 0), Sh.i IntKind.i64 (Int.ofNat 0)]]))) (Sh.sl 8 (A.toN (A.ofN m0)) (A.snoc (fE (fnR h0)) m0 (nthL [[Sh.i IntKind.i64 (Int.ofNat 47), Sh.i IntKind.i64 (Int.ofNat 0), Sh.i IntKind.i64 (Int.ofNat 0), Sh.i IntKind.i64 (Int.ofNat 0), Sh.i IntKind.i64 (Int.ofNat 0), Sh.i IntKind.i64 (Int.ofNat 0), Sh.i IntKind.i64 (Int.ofNat 0), Sh.i IntKind.i64 (Int.ofNat 0)]])))] (Tree.need (A.upTo (A.ofN n0) (A.addN n0 1)) (Tree.need (A.upTo (A.ofN m0) (A.addN m0 1)) (Tree.need (A.upTo (A.ofN m0) (A.addN m0 1)) (Tree.need (A.upTo (A.ofN n0) (A.addN n0 1)) (Tree.must [Eqn.sh (Sh.sl 2 n0 (fnR g0)) (Sh.sl 2 n0 (fnR g0)), Eqn.sh (Sh.sl 8 m0 (fnR h0)) (Sh.sl 8 m0 (fnR h0)), Eqn.sh (Sh.sl 2 n1 (fnR g1)) (Sh.sl 2 n1 (fnR g1)), Eqn.sh (Sh.sl 8 m1 (fnR h1)) (Sh.sl 8 m1 (fnR h1)), Eqn.int x x, Eqn.int y y, Eqn.sh (Sh.sl 1 k (fnR q)) (Sh.sl 1 k (fnR q)), Eqn.bool true true, Eqn.sh (Sh.sl 2 n0 (fnR g0)) (Sh.sl 2 n0 (fnR g0)), Eqn.sh (Sh.sl 8 m0 (fnR h0)) (Sh.sl 8 m0 (fnR h0)), Eqn.sh (Sh.sl 2 n1 (fnR g1)) (Sh.sl 2 n1 (fnR g1)), Eqn.sh (Sh.sl 8 m1 (fnR h1)) (Sh.sl 8 m1 (fnR h1)), Eqn.sh (Sh.sl 1 k (fnR q)) (Sh.sl 1 k (fnR q)), Eqn.nat (A.addN n0 1) (A.addN n0 1), Eqn.fun_ (A.snoc (fO (fnR g0)) n0 (nthL [[Sh.i IntKind.i64 (Int.ofNat 47), Sh.i IntKind.i64 (Int.ofNat 0)]])) (A.snoc (fO (fnR g0)) n0 (nthL [[Sh.i IntKind.i64 (Int.ofNat 47), Sh.i IntKind.i64 (Int.ofNat 0)]])), Eqn.nat (A.addN m0 1) (A.addN m0 1), Eqn.fun_ (A.snoc (fE (fnR h0)) m0 (nthL [[Sh.i IntKind.i64 (Int.ofNat 47), Sh.i IntKind.i64 (Int.ofNat 0), Sh.i IntKind.i64 (Int.ofNat 0), Sh.i IntKind.i64 (Int.ofNat 0), Sh.i IntKind.i64 (Int.ofNat 0), Sh.i IntKind.i64 (Int.ofNat 0), Sh.i IntKind.i64 (Int.ofNat 0), Sh.i IntKind.i64 (Int.ofNat 0)]])) (A.snoc (fE (fnR h0)) m0 (nthL [[Sh.i IntKind.i64 (Int.ofNat 47), Sh.i IntKind.i64 (Int.ofNat 0), Sh.i IntKind.i64 (Int.ofNat 0), Sh.i IntKind.i64 (Int.ofNat 0), Sh.i IntKind.i64 (Int.ofNat 0), Sh.i IntKind.i64 (Int.ofNat 0), Sh.i IntKind.i64 (Int.ofNat 0), Sh.i IntKind.i64 (Int.ofNat 0)]])), Eqn.sh (Sh.sl 2 (A.toN (A.ofN n0)) (A.snoc (fO (fnR g0)) n0 (nthL [[Sh.i IntKind.i64 (Int.ofNat 47), Sh.i IntKind.i64 (Int.ofNat 0)]]))) (Sh.sl 2 (A.toN (A.ofN n0)) (A.snoc (fO (fnR g0)) n0 (nthL [[Sh.i IntKind.i64 (Int.ofNat 47), Sh.i IntKind.i64 (Int.ofNat 0)]]))), Eqn.sh (Sh.sl 8 (A.toN (A.ofN m0)) (A.snoc (fE (fnR h0)) m0 (nthL [[Sh.i IntKind.i64 (Int.ofNat 47), Sh.i IntKind.i64 (Int.ofNat 0), Sh.i IntKind.i64 (Int.ofNat 0), Sh.i IntKind.i64 (Int.ofNat 0), Sh.i IntKind.i64 (Int.ofNat 0), Sh.i IntKind.i64 (Int.ofNat 0), Sh.i IntKind.i64 (Int.ofNat 0), Sh.i IntKind.i64 (Int.ofNat 0)]]))) (Sh.sl 8 (A.toN (A.ofN m0)) (A.snoc (fE (fnR h0)) m0 (nthL [[Sh.i IntKind.i64 (Int.ofNat 47), Sh.i IntKind.i64 (Int.ofNat 0), Sh.i IntKind.i64 (Int.ofNat 0), Sh.i IntKind.i64 (Int.ofNat 0), Sh.i IntKind.i64 (Int.ofNat 0), Sh.i IntKind.i64 (Int.ofNat 0), Sh.i IntKind.i64 (Int.ofNat 0), Sh.i IntKind.i64 (Int.ofNat 0)]])))] (Tree.must [Eqn.sh (Sh.sl 2 n0 (fnR g0)) (Sh.sl 2 n0 (fnR g0)), Eqn.sh (Sh.sl 8 m0 (fnR h0)) (Sh.sl 8 m0 (fnR h0)), Eqn.sh (Sh.sl 2 n1 (fnR g1)) (Sh.sl 2 n1 (fnR g1)), Eqn.sh (Sh.sl 8 m1 (fnR h1)) (Sh.sl 8 m1 (fnR h1)), Eqn.int x x, Eqn.int y y, Eqn.sh (Sh.sl 1 k (fnR q)) (Sh.sl 1 k (fnR q)), Eqn.bool true true, Eqn.sh (Sh.sl 2 n0 (fnR g0)) (Sh.sl 2 n0 (fnR g0)), Eqn.sh (Sh.sl 8 m0 (fnR h0)) (Sh.sl 8 m0 (fnR h0)), Eqn.sh (Sh.sl 2 n1 (fnR g1)) (Sh.sl 2 n1 (fnR g1)), Eqn.sh (Sh.sl 8 m1 (fnR h1)) (Sh.sl 8 m1 (fnR h1)), Eqn.sh (Sh.sl 1 k (fnR q)) (Sh.sl 1 k (fnR q)), Eqn.nat (A.addN n0 1) (A.addN n0 1), Eqn.fun_ (A.snoc (fO (fnR g0)) n0 (nthL [[Sh.i IntKind.i64 (Int.ofNat 47), Sh.i IntKind.i64 (Int.ofNat 0)]])) (A.snoc (fO (fnR g0)) n0 (nthL [[Sh.i IntKind.i64 (Int.ofNat 47), Sh.i IntKind.i64 (Int.ofNat 0)]])), Eqn.nat (A.addN m0 1) (A.addN m0 1), Eqn.fun_ (A.snoc (fE (fnR h0)) m0 (nthL [[Sh.i IntKind.i64 (Int.ofNat 47), Sh.i IntKind.i64 (Int.ofNat 0), Sh.i IntKind.i64 (Int.ofNat 0), Sh.i IntKind.i64 (Int.ofNat 0), Sh.i IntKind.i64 (Int.ofNat 0), Sh.i IntKind.i64 (Int.ofNat 0), Sh.i IntKind.i64 (Int.ofNat 0), Sh.i IntKind.i64 (Int.ofNat 0)]])) (A.snoc (fE (fnR h0)) m0 (nthL [[Sh.i IntKind.i64 (Int.ofNat 47), Sh.i IntKind.i64 (Int.ofNat 0), Sh.i IntKind.i64 (Int.ofNat 0), Sh.i IntKind.i64 (Int.ofNat 0), Sh.i IntKind.i64 (Int.ofNat 0), Sh.i IntKind.i64 (Int.ofNat 0), Sh.i IntKind.i64 (Int.ofNat 0), Sh.i IntKind.i64 (Int.ofNat 0)]])), Eqn.sh (Sh.sl 2 (A.toN (A.ofN n0)) (A.snoc (fO (fnR g0)) n0 (nthL [[Sh.i IntKind.i64 (Int.ofNat 47), Sh.i IntKind.i64 (Int.ofNat 0)]]))) (Sh.sl 2 (A.toN (A.ofN n0)) (A.snoc (fO (fnR g0)) n0 (nthL [[Sh.i IntKind.i64 (Int.ofNat 47), Sh.i IntKind.i64 (Int.ofNat 0)]]))), Eqn.sh (Sh.sl 8 (A.toN (A.ofN m0)) (A.snoc (fE (fnR h0)) m0 (nthL [[Sh.i IntKind.i64 (Int.ofNat 47), Sh.i IntKind.i64 (Int.ofNat 0), Sh.i IntKind.i64 (Int.ofNat 0), Sh.i IntKind.i64 (Int.ofNat 0), Sh.i IntKind.i64 (Int.ofNat 0), Sh.i IntKind.i64 (Int.ofNat 0), Sh.i IntKind.i64 (Int.ofNat 0), Sh.i IntKind.i64 (Int.ofNat 0)]]))) (Sh.sl 8 (A.toN (A.ofN m0)) (A.snoc (fE (fnR h0)) m0 (nthL [[Sh.i IntKind.i64 (Int.ofNat 47), Sh.i IntKind.i64 (Int.ofNat 0), Sh.i IntKind.i64 (Int.ofNat 0), Sh.i IntKind.i64 (Int.ofNat 0), Sh.i IntKind.i64 (Int.ofNat 0), Sh.i IntKind.i64 (Int.ofNat 0), Sh.i IntKind.i64 (Int.ofNat 0), Sh.i IntKind.i64 (Int.ofNat 0)]])))] (Tree.must [Eqn.sh (Sh.sl 2 n0 (fnR g0)) (Sh.sl 2 n0 (fnR g0)), Eqn.sh (Sh.sl 8 m0 (fnR h0)) (Sh.sl 8 m0 (fnR h0)), Eqn.sh (Sh.sl 2 n1 (fnR g1)) (Sh.sl 2 n1 (fnR g1)), Eqn.sh (Sh.sl 8 m1 (fnR h1)) (Sh.sl 8 m1 (fnR h1)), Eqn.int x x, Eqn.int y y, Eqn.sh (Sh.sl 1 k (fnR q)) (Sh.sl 1 k (fnR q)), Eqn.bool true true, Eqn.sh (Sh.sl 2 n0 (fnR g0)) (Sh.sl 2 n0 (fnR g0)), Eqn.sh (Sh.sl 8 m0 (fnR h0)) (Sh.sl 8 m0 (fnR h0)), Eqn.sh (Sh.sl 2 n1 (fnR g1)) (Sh.sl 2 n1 (fnR g1)), Eqn.sh (Sh.sl 8 m1 (fnR h1)) (Sh.sl 8 m1 (fnR h1)), Eqn.sh (Sh.sl 1 k (fnR q)) (Sh.sl 1 k (fnR q)), Eqn.nat (A.addN n0 1) (A.addN n0 1), Eqn.fun_ (A.snoc (fO (fnR g0)) n0 (nthL [[Sh.i IntKind.i64 (Int.ofNat 47), Sh.i IntKind.i64 (Int.ofNat 0)]])) (A.snoc (fO (fnR g0)) n0 (nthL [[Sh.i IntKind.i64 (Int.ofNat 47), Sh.i IntKind.i64 (Int.ofNat 0)]])), Eqn.nat (A.addN m0 1) (A.addN m0 1), Eqn.fun_ (A.snoc (fE (fnR h0)) m0 (nthL [[Sh.i IntKind.i64 (Int.ofNat 47), Sh.i IntKind.i64 (Int.ofNat 0), Sh.i IntKind.i64 (Int.ofNat 0), Sh.i IntKind.i64 (Int.ofNat 0), Sh.i IntKind.i64 (Int.ofNat 0), Sh.i IntKind.i64 (Int.ofNat 0), Sh.i IntKind.i64 (Int.ofNat 0), Sh.i IntKind.i64 (Int.ofNat 0)]])) (A.snoc (fE (fnR h0)) m0 (nthL [[Sh.i IntKind.i64 (Int.ofNat 47), Sh.i IntKind.i64 (Int.ofNat 0), Sh.i IntKind.i64 (Int.ofNat 0), Sh.i IntKind.i64 (Int.ofNat 0), Sh.i IntKind.i64 (Int.ofNat 0), Sh.i IntKind.i64 (Int.ofNat 0), Sh.i IntKind.i64 (Int.ofNat 0), Sh.i IntKind.i64 (Int.ofNat 0)]])), Eqn.sh (Sh.sl 2 (A.toN (A.ofN n0)) (A.snoc (fO (fnR g0)) n0 (nthL [[Sh.i IntKind.i64 (Int.ofNat 47), Sh.i IntKind.i64 (Int.ofNat 0)]]))) (Sh.sl 2 (A.toN (A.ofN n0)) (A.snoc (fO (fnR g0)) n0 (nthL [[Sh.i IntKind.i64 (Int.ofNat 47), Sh.i IntKind.i64 (Int.ofNat 0)]]))), Eqn.sh (Sh.sl 8 (A.toN (A.ofN m0)) (A.snoc (fE (fnR h0)) m0 (nthL [[Sh.i IntKind.i64 (Int.ofNat 47), Sh.i IntKind.i64 (Int.ofNat 0), Sh.i IntKind.i64 (Int.ofNat 0), Sh.i IntKind.i64 (Int.ofNat 0), Sh.i IntKind.i64 (Int.ofNat 0), Sh.i IntKind.i64 (Int.ofNat 0), Sh.i IntKind.i64 (Int.ofNat 0), Sh.i IntKind.i64 (Int.ofNat 0)]]))) (Sh.sl 8 (A.toN (A.ofN m0)) (A.snoc (fE (fnR h0)) m0 (nthL [[Sh.i IntKind.i64 (Int.ofNat 47), Sh.i IntKind.i64 (Int.ofNat 0), Sh.i IntKind.i64 (Int.ofNat 0), Sh.i IntKind.i64 (Int.ofNat 0), Sh.i IntKind.i64 (Int.ofNat 0), Sh.i IntKind.i64 (Int.ofNat 0), Sh.i IntKind.i64 (Int.ofNat 0), Sh.i IntKind.i64 (Int.ofNat 0)]])))] (Tree.need (roomB (A.toN (A.ofN n0)) 16) (Tree.need (roomB (upN x (A.toN (A.ofN m0))) 64) (Tree.need (okB Oj n0 (fnR g0)) (Tree.need (okB Ev (upN x m0) (fnR h0)) (Tree.need (roomB n0 16) (Tree.need (roomB (upN x m0) 64) (Tree.need (okB Oj (A.toN (A.ofN n0)) ((C5 A W spec3 stopAll).A.snoc (fO (fnR g0)) n0 (nthL (chunks 2 1 [Sh.i IntKind.i64 47, Sh.i IntKind.i64 0])))) (Tree.need (okB Oj n0 (fO (fnR g0))) (Tree.need (okB Ev (upN x (A.toN (A.ofN m0))) ((C5 A W spec3 stopAll).A.snoc (fE (fnR h0)) m0 (nthL (chunks 8 1 [Sh.i IntKind.i64 47, Sh.i IntKind.i64 0, Sh.i IntKind.i64 0, Sh.i IntKind.i64 0, Sh.i IntKind.i64 0, Sh.i IntKind.i64 0, Sh.i IntKind.i64 0, Sh.i IntKind.i64 0])))) (Tree.need (okB Ev (upN x m0) (fE (fnR h0))) (Tree.need (okB Ev (A.toN (A.ofN m0)) ((C5 A W spec3 stopAll).A.snoc (fE (fnR h0)) m0 (nthL (chunks 8 1 [Sh.i IntKind.i64 47, Sh.i IntKind.i64 0, Sh.i IntKind.i64 0, Sh.i IntKind.i64 0, Sh.i IntKind.i64 0, Sh.i IntKind.i64 0, Sh.i IntKind.i64 0, Sh.i IntKind.i64 0])))) (Tree.need (roomB (A.toN (A.ofN n0)) 16) (Tree.need (roomB (A.toN (A.ofN m0)) 64) (Tree.need (okB Oj n0 (fnR g0)) (Tree.need (okB Ev m0 (fnR h0)) (Tree.need (roomB n0 16) (Tree.need (roomB m0 64) (Tree.need (okB Oj (A.toN (A.ofN n0)) ((C5 A W spec3 stopAll).A.snoc (fO (fnR g0)) n0 (nthL (chunks 2 1 [Sh.i IntKind.i64 47, Sh.i IntKind.i64 0])))) (Tree.need (okB Oj n0 (fO (fnR g0))) (Tree.need (okB Ev (len (keptF (fun (x : Nat) (e : Ev) => !e.tx == y) (rwAt ((C5 A W spec3 stopAll).A.snoc (fE (fnR h0)) m0 (nthL (chunks 8 1 [Sh.i IntKind.i64 47, Sh.i IntKind.i64 0, Sh.i IntKind.i64 0, Sh.i IntKind.i64 0, Sh.i IntKind.i64 0, Sh.i IntKind.i64 0, Sh.i IntKind.i64 0, Sh.i IntKind.i64 0])))) (A.toN (A.ofN m0)))) (fnR (nth (keptF (fun (x : Nat) (e : Ev) => !e.tx == y) (rwAt ((C5 A W spec3 stopAll).A.snoc (fE (fnR h0)) m0 (nthL (chunks 8 1 [Sh.i IntKind.i64 47, Sh.i IntKind.i64 0, Sh.i IntKind.i64 0, Sh.i IntKind.i64 0, Sh.i IntKind.i64 0, Sh.i IntKind.i64 0, Sh.i IntKind.i64 0, Sh.i IntKind.i64 0])))) ((C5 A W spec3 stopAll).A.toN ((C5 A W spec3 stopAll).A.ofN m0)))))) (Tree.need (okB Ev (len (keptF (kp19 [y] false) (rwAt (fnR h0)) m0)) (fnR (nth (keptF (kp19 [y] false) (rwAt (fnR h0)) m0)))) (Tree.leaf (Fe2.at_ 0 [Eqn.sh (Sh.sl 2 (A.addN n0 1) (A.snoc (fO (fnR g0)) n0 (nthL [[Sh.i IntKind.i64 (Int.ofNat 47), Sh.i IntKind.i64 (Int.ofNat 0)]]))) (Sh.sl 2 N gm), Eqn.sh (Sh.sl 8 (A.addN m0 1) (A.snoc (fE (fnR h0)) m0 (nthL [[Sh.i IntKind.i64 (Int.ofNat 47), Sh.i IntKind.i64 (Int.ofNat 0), Sh.i IntKind.i64 (Int.ofNat 0), Sh.i IntKind.i64 (Int.ofNat 0), Sh.i IntKind.i64 (Int.ofNat 0), Sh.i IntKind.i64 (Int.ofNat 0), Sh.i IntKind.i64 (Int.ofNat 0), Sh.i IntKind.i64 (Int.ofNat 0)]]))) (Sh.sl 8 M hm), Eqn.bool (sameHB (A.toN (A.ofN n0)) (upN x (A.toN (A.ofN m0))) ((C5 A W spec3 stopAll).A.snoc (fO (fnR g0)) n0 (nthL (chunks 2 1 [Sh.i IntKind.i64 47, Sh.i IntKind.i64 0]))) ((C5 A W spec3 stopAll).A.snoc (fE (fnR h0)) m0 (nthL (chunks 8 1 [Sh.i IntKind.i64 47, Sh.i IntKind.i64 0, Sh.i IntKind.i64 0, Sh.i IntKind.i64 0, Sh.i IntKind.i64 0, Sh.i IntKind.i64 0, Sh.i IntKind.i64 0, Sh.i IntKind.i64 0]))) n0 (upN x m0) (fO (fnR g0)) (fE (fnR h0))) true, Eqn.bool (sameHB (A.toN (A.ofN n0)) (len (keptF (fun (x : Nat) (e : Ev) => !e.tx == y) (rwAt ((C5 A W spec3 stopAll).A.snoc (fE (fnR h0)) m0 (nthL (chunks 8 1 [Sh.i IntKind.i64 47, Sh.i IntKind.i64 0, Sh.i IntKind.i64 0, Sh.i IntKind.i64 0, Sh.i IntKind.i64 0, Sh.i IntKind.i64 0, Sh.i IntKind.i64 0, Sh.i IntKind.i64 0])))) (A.toN (A.ofN m0)))) ((C5 A W spec3 stopAll).A.snoc (fO (fnR g0)) n0 (nthL (chunks 2 1 [Sh.i IntKind.i64 47, Sh.i IntKind.i64 0]))) (fnR (nth (keptF (fun (x : Nat) (e : Ev) => !e.tx == y) (rwAt ((C5 A W spec3 stopAll).A.snoc (fE (fnR h0)) m0 (nthL (chunks 8 1 [Sh.i IntKind.i64 47, Sh.i IntKind.i64 0, Sh.i IntKind.i64 0, Sh.i IntKind.i64 0, Sh.i IntKind.i64 0, Sh.i IntKind.i64 0, Sh.i IntKind.i64 0, Sh.i IntKind.i64 0])))) ((C5 A W spec3 stopAll).A.toN ((C5 A W spec3 stopAll).A.ofN m0))))) n0 (len (keptF (kp19 [y] false) (rwAt (fnR h0)) m0)) (fO (fnR g0)) (fnR (nth (keptF (kp19 [y] false) (rwAt (fnR h0)) m0)))) true, Eqn.sh (Sh.sl 2 (A.toN (A.ofN n0)) (A.snoc (fO (fnR g0)) n0 (nthL [[Sh.i IntKind.i64 (Int.ofNat 47), Sh.i IntKind.i64 (Int.ofNat 0)]]))) (Sh.sl 2 n0 gm), Eqn.sh (Sh.sl 8 (A.toN (A.ofN m0)) (A.snoc (fE (fnR h0)) m0 (nthL [[Sh.i IntKind.i64 (Int.ofNat 47), Sh.i IntKind.i64 (Int.ofNat 0), Sh.i IntKind.i64 (Int.ofNat 0), Sh.i IntKind.i64 (Int.ofNat 0), Sh.i IntKind.i64 (Int.ofNat 0), Sh.i IntKind.i64 (Int.ofNat 0), Sh.i IntKind.i64 (Int.ofNat 0), Sh.i IntKind.i64 (Int.ofNat 0)]]))) (Sh.sl 8 m0 hm), Eqn.sh (Sh.sl 2 n0 (fnR g0)) (Sh.sl 2 n0 (fnR g0)), Eqn.sh (Sh.sl 8 m0 (fnR h0)) (Sh.sl 8 m0 (fnR h0)), Eqn.sh (Sh.sl 2 n1 (fnR g1)) (Sh.sl 2 n1 (fnR g1)), Eqn.sh (Sh.sl 8 m1 (fnR h1)) (Sh.sl 8 m1 (fnR h1)), Eqn.sh (Sh.sl 1 k (fnR q)) (Sh.sl 1 k (fnR q)), Eqn.sh (Sh.sl 2 (A.toN (A.ofN n0)) (A.snoc (fO (fnR g0)) n0 (nthL [[Sh.i IntKind.i64 (Int.ofNat 47), Sh.i IntKind.i64 (Int.ofNat 0)]]))) (Sh.sl 2 n0 gm), Eqn.sh (Sh.sl 8 (A.toN (A.ofN m0)) (A.snoc (fE (fnR h0)) m0 (nthL [[Sh.i IntKind.i64 (Int.ofNat 47), Sh.i IntKind.i64 (Int.ofNat 0), Sh.i IntKind.i64 (Int.ofNat 0), Sh.i IntKind.i64 (Int.ofNat 0), Sh.i IntKind.i64 (Int.ofNat 0), Sh.i IntKind.i64 (Int.ofNat 0), Sh.i IntKind.i64 (Int.ofNat 0), Sh.i IntKind.i64 (Int.ofNat 0)]]))) (Sh.sl 8 m0 hm)]))))))))))))))))))))))))))))))))))))))))))))))) := by kernel_rfl
theorem a17 (A : Prim) (W : Wd) (n0 m0 n1 m1 k N M : Nat) (g0 g1 go : Nat → Oj) (h0 h1 he : Nat → Ev) (q : Nat → Int) (i : Int) (a c : Nat) (ga gc : Nat → List Sh) : runTo (C5 A W spec3 stopAll) noHold 300 400 3 td17 (L17 n0 m0 n1 m1 k N M g0 g1 go h0 h1 he q (fnR go) (fnR he)) [] [⟨38, td10, LK n0 m0 n1 m1 k N M g0 g1 go h0 h1 he q i a c ga gc, fr17 n0 m0 n1 m1 k N M g0 g1 go h0 h1 he q⟩] = Tree.need (roomB n0 16) (Tree.need (roomB 0 64) (Tree.leaf (Fe2.at_ 0 [Eqn.sh (Sh.sl 8 m0 (fnR he)) (Sh.sl 8 m0 (fnR he)), Eqn.int (A.ofN m0) (Int.ofNat m0), Eqn.int (Int.ofNat 0) i, Eqn.sh (Sh.sl 2 n0 (fnR g0)) (Sh.sl 2 n0 (fnR g0)), Eqn.sh (Sh.sl 8 m0 (fnR h0)) (Sh.sl 8 m0 (fnR h0)), Eqn.sh (Sh.sl 2 n1 (fnR g1)) (Sh.sl 2 n1 (fnR g1)), Eqn.sh (Sh.sl 8 m1 (fnR h1)) (Sh.sl 8 m1 (fnR h1)), Eqn.sh (Sh.sl 1 k (fnR q)) (Sh.sl 1 k (fnR q)), Eqn.sh (Sh.sl 2 n0 (fnR go)) (Sh.sl 2 n0 (fnR go)), Eqn.sh (Sh.sl 8 m0 (fnR he)) (Sh.sl 8 m0 (fnR he)), Eqn.nat n0 n0, Eqn.get n0 (fnR go) (fnR go), Eqn.nat 0 c, Eqn.get 0 (fun (x : Nat) => []) gc, Eqn.nat a 0, Eqn.sh (Sh.sl 2 N (fnR go)) (Sh.sl 2 N (fnR go)), Eqn.sh (Sh.sl 8 M (fnR he)) (Sh.sl 8 M (fnR he)), Eqn.bool true true, Eqn.bool true true]))) := by kernel_rfl
theorem bK (A : Prim) (W : Wd) (n0 m0 n1 m1 k N M : Nat) (g0 g1 go : Nat → Oj) (h0 h1 he : Nat → Ev) (q : Nat → Int) (i : Int) (a c : Nat) (ga gc : Nat → List Sh) (e : Ev) (j : Int) (a' c' b a2 : Nat) (ga' gc' gb : Nat → List Sh) : runTo (C5 A W spec3 stopAll) noHold 300 400 38 tb10 (LK n0 m0 n1 m1 k N M g0 g1 go h0 h1 he q i a c ga gc) (fr17 n0 m0 n1 m1 k N M g0 g1 go h0 h1 he q) [⟨18, td10, LI n0 m0 n1 m1 k N M g0 g1 go h0 h1 he q e j a' c' ga' gc', frI n0 m0 n1 m1 k N M g0 g1 go h0 h1 he q i⟩, ⟨3, td3, L3 n0 m0 n1 m1 k N M g0 g1 go h0 h1 he q 0 a2 b ga' gb, []⟩] = Tree.node (A.lt i (Int.ofNat m0)) (Tree.need (A.inB i m0) (Tree.need (A.room (A.addN a 1) 8) (Tree.leaf (Fe2.at_ 0 [Eqn.int (he (A.toN i)).tx e.tx, Eqn.int (Int.ofNat 0) j, Eqn.sh (Sh.sl 2 n0 (fnR g0)) (Sh.sl 2 n0 (fnR g0)), Eqn.sh (Sh.sl 8 m0 (fnR h0)) (Sh.sl 8 m0 (fnR h0)), Eqn.sh (Sh.sl 2 n1 (fnR g1)) (Sh.sl 2 n1 (fnR g1)), Eqn.sh (Sh.sl 8 m1 (fnR h1)) (Sh.sl 8 m1 (fnR h1)), Eqn.sh (Sh.sl 1 k (fnR q)) (Sh.sl 1 k (fnR q)), Eqn.sh (Sh.sl 2 n0 (fnR go)) (Sh.sl 2 n0 (fnR go)), Eqn.sh (Sh.sl 8 m0 (fnR he)) (Sh.sl 8 m0 (fnR he)), Eqn.nat n0 n0, Eqn.get n0 (fnR go) (fnR go), Eqn.nat c c', Eqn.get c gc gc', Eqn.nat (A.addN a 1) a', Eqn.get (A.addN a 1) (A.snoc ga a (nthL [[Sh.i IntKind.i64 (he (A.toN i)).tx]])) ga', Eqn.int (he (A.toN i)).kind e.kind, Eqn.int (he (A.toN i)).tx e.tx, Eqn.int (he (A.toN i)).thread e.thread, Eqn.int (he (A.toN i)).obj e.obj, Eqn.int (he (A.toN i)).op e.op, Eqn.int (he (A.toN i)).key e.key, Eqn.int (he (A.toN i)).val e.val, Eqn.int (he (A.toN i)).ret e.ret, Eqn.sh (Sh.sl 8 m0 (fnR he)) (Sh.sl 8 m0 (fnR he)), Eqn.int (Int.ofNat m0) (Int.ofNat m0), Eqn.int i i, Eqn.sh (Sh.sl 2 N (fnR go)) (Sh.sl 2 N (fnR go)), Eqn.sh (Sh.sl 8 M (fnR he)) (Sh.sl 8 M (fnR he)), Eqn.bool true true, Eqn.bool true true])))) (Tree.need (okB Oj n0 (fnR g0)) (Tree.need (okB Ev m0 (fnR h0)) (Tree.need (okB Int k (fnR q)) (Tree.need (roomB n0 16) (Tree.need (roomB m0 64) (Tree.need (okB Oj n0 (fnR go)) (Tree.need (okB Oj n0 (fO (fnR g0))) (Tree.need (okB Ev c gc) (Tree.need (okB Ev (len (keptF (kp19 (lst Int k (fnR q)) true) (rwAt (fnR h0)) m0)) (fnR (nth (keptF (kp19 (lst Int k (fnR q)) true) (rwAt (fnR h0)) m0)))) (Tree.leaf (Fe2.at_ 1 [Eqn.sh (Sh.sl 2 N (fnR go)) (Sh.sl 2 N (fnR go)), Eqn.sh (Sh.sl 8 M (fnR he)) (Sh.sl 8 M (fnR he)), Eqn.bool true true, Eqn.bool true true, Eqn.bool (sameHB n0 c (fnR go) gc n0 (len (keptF (kp19 (lst Int k (fnR q)) true) (rwAt (fnR h0)) m0)) (fO (fnR g0)) (fnR (nth (keptF (kp19 (lst Int k (fnR q)) true) (rwAt (fnR h0)) m0)))) true, Eqn.int (Int.ofNat 0) (Int.ofNat 0), Eqn.sh (Sh.sl 2 n0 (fnR g0)) (Sh.sl 2 n0 (fnR g0)), Eqn.sh (Sh.sl 8 m0 (fnR h0)) (Sh.sl 8 m0 (fnR h0)), Eqn.sh (Sh.sl 2 n1 (fnR g1)) (Sh.sl 2 n1 (fnR g1)), Eqn.sh (Sh.sl 8 m1 (fnR h1)) (Sh.sl 8 m1 (fnR h1)), Eqn.sh (Sh.sl 2 n0 (fnR go)) (Sh.sl 2 n0 (fnR go)), Eqn.sh (Sh.sl 8 m0 (fnR he)) (Sh.sl 8 m0 (fnR he)), Eqn.nat b 0, Eqn.nat a a2, Eqn.get a ga ga']))))))))))) := by kernel_rfl
theorem bI (A : Prim) (W : Wd) (n0 m0 n1 m1 k N M : Nat) (g0 g1 go : Nat → Oj) (h0 h1 he : Nat → Ev) (q : Nat → Int) (i : Int) (a c : Nat) (ga gc : Nat → List Sh) (e : Ev) (j j' i' : Int) (c' : Nat) (gc' : Nat → List Sh) : runTo (C5 A W spec3 stopAll) noHold 300 400 18 tb10 (LI n0 m0 n1 m1 k N M g0 g1 go h0 h1 he q e j a c ga gc) (frI n0 m0 n1 m1 k N M g0 g1 go h0 h1 he q i) [⟨38, td10, LK n0 m0 n1 m1 k N M g0 g1 go h0 h1 he q i' a c' ga gc', fr17 n0 m0 n1 m1 k N M g0 g1 go h0 h1 he q⟩, ⟨18, td10, LI n0 m0 n1 m1 k N M g0 g1 go h0 h1 he q e j' a c ga gc, frI n0 m0 n1 m1 k N M g0 g1 go h0 h1 he q i⟩] = Tree.node (A.lt j (A.ofN k)) (Tree.need (A.inB j k) (Tree.node (A.eq (q (A.toN j)) e.tx) (Tree.need (A.room (A.addN c 1) 64) (Tree.leaf (Fe2.at_ 0 [Eqn.sh (Sh.sl 8 m0 (fnR he)) (Sh.sl 8 m0 (fnR he)), Eqn.int (Int.ofNat m0) (Int.ofNat m0), Eqn.int (A.add IntKind.i64 i (Int.ofNat 1)) i', Eqn.sh (Sh.sl 2 n0 (fnR g0)) (Sh.sl 2 n0 (fnR g0)), Eqn.sh (Sh.sl 8 m0 (fnR h0)) (Sh.sl 8 m0 (fnR h0)), Eqn.sh (Sh.sl 2 n1 (fnR g1)) (Sh.sl 2 n1 (fnR g1)), Eqn.sh (Sh.sl 8 m1 (fnR h1)) (Sh.sl 8 m1 (fnR h1)), Eqn.sh (Sh.sl 1 k (fnR q)) (Sh.sl 1 k (fnR q)), Eqn.sh (Sh.sl 2 n0 (fnR go)) (Sh.sl 2 n0 (fnR go)), Eqn.sh (Sh.sl 8 m0 (fnR he)) (Sh.sl 8 m0 (fnR he)), Eqn.nat n0 n0, Eqn.get n0 (fnR go) (fnR go), Eqn.nat (A.addN c 1) c', Eqn.get (A.addN c 1) (A.snoc gc c (nthL [[Sh.i IntKind.i64 e.kind, Sh.i IntKind.i64 e.tx, Sh.i IntKind.i64 e.thread, Sh.i IntKind.i64 e.obj, Sh.i IntKind.i64 e.op, Sh.i IntKind.i64 e.key, Sh.i IntKind.i64 e.val, Sh.i IntKind.i64 e.ret]])) gc', Eqn.nat a a, Eqn.get a ga ga, Eqn.sh (Sh.sl 2 N (fnR go)) (Sh.sl 2 N (fnR go)), Eqn.sh (Sh.sl 8 M (fnR he)) (Sh.sl 8 M (fnR he)), Eqn.bool true true, Eqn.bool true true]))) (Tree.leaf (Fe2.at_ 1 [Eqn.int e.tx e.tx, Eqn.int (A.add IntKind.i64 j (Int.ofNat 1)) j', Eqn.sh (Sh.sl 2 n0 (fnR g0)) (Sh.sl 2 n0 (fnR g0)), Eqn.sh (Sh.sl 8 m0 (fnR h0)) (Sh.sl 8 m0 (fnR h0)), Eqn.sh (Sh.sl 2 n1 (fnR g1)) (Sh.sl 2 n1 (fnR g1)), Eqn.sh (Sh.sl 8 m1 (fnR h1)) (Sh.sl 8 m1 (fnR h1)), Eqn.sh (Sh.sl 1 k (fnR q)) (Sh.sl 1 k (fnR q)), Eqn.sh (Sh.sl 2 n0 (fnR go)) (Sh.sl 2 n0 (fnR go)), Eqn.sh (Sh.sl 8 m0 (fnR he)) (Sh.sl 8 m0 (fnR he)), Eqn.nat n0 n0, Eqn.get n0 (fnR go) (fnR go), Eqn.nat c c, Eqn.get c gc gc, Eqn.nat a a, Eqn.get a ga ga, Eqn.int e.kind e.kind, Eqn.int e.tx e.tx, Eqn.int e.thread e.thread, Eqn.int e.obj e.obj, Eqn.int e.op e.op, Eqn.int e.key e.key, Eqn.int e.val e.val, Eqn.int e.ret e.ret, Eqn.sh (Sh.sl 8 m0 (fnR he)) (Sh.sl 8 m0 (fnR he)), Eqn.int (Int.ofNat m0) (Int.ofNat m0), Eqn.int i i, Eqn.sh (Sh.sl 2 N (fnR go)) (Sh.sl 2 N (fnR go)), Eqn.sh (Sh.sl 8 M (fnR he)) (Sh.sl 8 M (fnR he)), Eqn.bool true true, Eqn.bool true true])))) (Tree.leaf (Fe2.at_ 0 [Eqn.sh (Sh.sl 8 m0 (fnR he)) (Sh.sl 8 m0 (fnR he)), Eqn.int (Int.ofNat m0) (Int.ofNat m0), Eqn.int (A.add IntKind.i64 i (Int.ofNat 1)) i', Eqn.sh (Sh.sl 2 n0 (fnR g0)) (Sh.sl 2 n0 (fnR g0)), Eqn.sh (Sh.sl 8 m0 (fnR h0)) (Sh.sl 8 m0 (fnR h0)), Eqn.sh (Sh.sl 2 n1 (fnR g1)) (Sh.sl 2 n1 (fnR g1)), Eqn.sh (Sh.sl 8 m1 (fnR h1)) (Sh.sl 8 m1 (fnR h1)), Eqn.sh (Sh.sl 1 k (fnR q)) (Sh.sl 1 k (fnR q)), Eqn.sh (Sh.sl 2 n0 (fnR go)) (Sh.sl 2 n0 (fnR go)), Eqn.sh (Sh.sl 8 m0 (fnR he)) (Sh.sl 8 m0 (fnR he)), Eqn.nat n0 n0, Eqn.get n0 (fnR go) (fnR go), Eqn.nat c c', Eqn.get c gc gc', Eqn.nat a a, Eqn.get a ga ga, Eqn.sh (Sh.sl 2 N (fnR go)) (Sh.sl 2 N (fnR go)), Eqn.sh (Sh.sl 8 M (fnR he)) (Sh.sl 8 M (fnR he)), Eqn.bool true true, Eqn.bool true true])) := by kernel_rfl
theorem b3 (A : Prim) (W : Wd) (n0 m0 n1 m1 k N M : Nat) (g0 g1 go : Nat → Oj) (h0 h1 he : Nat → Ev) (q : Nat → Int) (i i' : Int) (a b b' : Nat) (ga gb gb' : Nat → List Sh) : runTo (C5 A W spec3 stopAll) noHold 300 400 3 tb3 (L3 n0 m0 n1 m1 k N M g0 g1 go h0 h1 he q i a b ga gb) [] [⟨3, td3, L3 n0 m0 n1 m1 k N M g0 g1 go h0 h1 he q i' a b' ga gb', []⟩] = Tree.node (A.lt i (A.ofN m0)) (Tree.need (A.inB i m0) (Tree.need (A.room (A.addN b 1) 8) (Tree.leaf (Fe2.at_ 0 [Eqn.sh (Sh.sl 2 N (fnR go)) (Sh.sl 2 N (fnR go)), Eqn.sh (Sh.sl 8 M (fnR he)) (Sh.sl 8 M (fnR he)), Eqn.bool true true, Eqn.bool true true, Eqn.bool true true, Eqn.int (A.add IntKind.i64 i (Int.ofNat 1)) i', Eqn.sh (Sh.sl 2 n0 (fnR g0)) (Sh.sl 2 n0 (fnR g0)), Eqn.sh (Sh.sl 8 m0 (fnR h0)) (Sh.sl 8 m0 (fnR h0)), Eqn.sh (Sh.sl 2 n1 (fnR g1)) (Sh.sl 2 n1 (fnR g1)), Eqn.sh (Sh.sl 8 m1 (fnR h1)) (Sh.sl 8 m1 (fnR h1)), Eqn.sh (Sh.sl 2 n0 (fnR go)) (Sh.sl 2 n0 (fnR go)), Eqn.sh (Sh.sl 8 m0 (fnR he)) (Sh.sl 8 m0 (fnR he)), Eqn.nat (A.addN b 1) b', Eqn.get (A.addN b 1) (A.snoc gb b (nthL [[Sh.i IntKind.i64 (h0 (A.toN i)).tx]])) gb', Eqn.nat a a, Eqn.get a ga ga])))) (Tree.need (okB Oj n0 (fnR go)) (Tree.need (okB Oj n0 (fnR g0)) (Tree.need (okB Ev m0 (fnR he)) (Tree.need (okB Ev m0 (fnR h0)) (Tree.node (sameHB n0 m0 (fnR go) (fnR he) n0 m0 (fnR g0) (fnR h0)) (Tree.need (A.inB (A.ofN n0) N) (Tree.node (A.eq (go (A.toN (A.ofN n0))).kind (Int.ofNat 47)) (Tree.need (A.inB (A.ofN m0) M) (Tree.node true (Tree.node true (Tree.node true (Tree.need (okB Int a ga) (Tree.need (okB Int b gb) (Tree.node (sameL (lst Int a ga) (lst Int b gb)) (Tree.node (A.eq (he (A.toN (A.ofN m0))).kind (Int.ofNat 47)) (Tree.need (okB Oj n0 (fnR go)) (Tree.need (okB Oj n1 (fnR g1)) (Tree.need (okB Ev m0 (fnR he)) (Tree.need (okB Ev m1 (fnR h1)) (Tree.need (okB Oj n0 (fnR g0)) (Tree.need (okB Oj n1 (fnR g1)) (Tree.need (okB Ev m0 (fnR h0)) (Tree.need (okB Ev m1 (fnR h1)) (Tree.node (A.beq (subHB n0 m0 (fnR go) (fnR he) n1 m1 (fnR g1) (fnR h1)) (subHB n0 m0 (fnR g0) (fnR h0) n1 m1 (fnR g1) (fnR h1))) (Tree.need (okB Oj n1 (fnR g1)) (Tree.need (okB Oj n0 (fnR go)) (Tree.need (okB Ev m1 (fnR h1)) (Tree.need (okB Ev m0 (fnR he)) (Tree.need (okB Oj n1 (fnR g1)) (Tree.need (okB Oj n0 (fnR g0)) (Tree.need (okB Ev m1 (fnR h1)) (Tree.need (okB Ev m0 (fnR h0)) (Tree.leaf (Fe2.ret (Sh.b (A.beq (subHB n1 m1 (fnR g1) (fnR h1) n0 m0 (fnR go) (fnR he)) (subHB n1 m1 (fnR g1) (fnR h1) n0 m0 (fnR g0) (fnR h0)))))))))))))) (Tree.leaf (Fe2.ret (Sh.b false)))))))))))) (Tree.leaf (Fe2.ret (Sh.b false)))) (Tree.leaf (Fe2.ret (Sh.b false)))))) (Tree.leaf (Fe2.ret (Sh.b false)))) (Tree.leaf (Fe2.ret (Sh.b false)))) (Tree.leaf (Fe2.ret (Sh.b false))))) (Tree.node true (Tree.node true (Tree.node true (Tree.need (okB Int a ga) (Tree.need (okB Int b gb) (Tree.node (sameL (lst Int a ga) (lst Int b gb)) (Tree.leaf (Fe2.ret (Sh.b false))) (Tree.leaf (Fe2.ret (Sh.b false)))))) (Tree.leaf (Fe2.ret (Sh.b false)))) (Tree.leaf (Fe2.ret (Sh.b false)))) (Tree.leaf (Fe2.ret (Sh.b false)))))) (Tree.node true (Tree.node true (Tree.node true (Tree.need (okB Int a ga) (Tree.need (okB Int b gb) (Tree.node (sameL (lst Int a ga) (lst Int b gb)) (Tree.leaf (Fe2.ret (Sh.b false))) (Tree.leaf (Fe2.ret (Sh.b false)))))) (Tree.leaf (Fe2.ret (Sh.b false)))) (Tree.leaf (Fe2.ret (Sh.b false)))) (Tree.leaf (Fe2.ret (Sh.b false))))))))) := by kernel_rfl
end Go.Proofs
namespace Go.Pl
open Go Go.Sx
theorem subB_congr {p p' : Nat → Ev} : ∀ (k i : Nat) (q q' : Nat → Ev) (r : Nat), (∀ j, j < k → p (i + j) = p' (i + j)) → (∀ j, j < r → q j = q' j) → subB p k i q r = subB p' k i q' r
  | 0, _, _, _, _, _, _ => rfl
  | k + 1, i, q, q', r, h1, h2 => by
    have hp : p i = p' i := h1 0 (by omega)
    have h1' : ∀ j, j < k → p (i + 1 + j) = p' (i + 1 + j) := fun j hj => by
      have := h1 (j + 1) (by omega)
      rwa [show i + (j + 1) = i + 1 + j by omega] at this
    simp only [subB]
    by_cases hr : 0 < r
    · rw [h2 0 hr, hp]
      cases (decide (0 < r) && evEq (q' 0) (p' i)) with
      | true => simp only [cond_true]; exact subB_congr k (i + 1) _ _ _ h1' fun j hj => h2 (1 + j) (by omega)
      | false => simp only [cond_false]; exact subB_congr k (i + 1) _ _ _ h1' h2
    · have e : decide (0 < r) = false := decide_eq_false hr
      rw [e]
      simp only [Bool.false_and, cond_false]
      exact subB_congr k (i + 1) _ _ _ h1' h2
theorem rwAt_fnR {α : Type} [Row α] (o : Nat → α) : rwAt (fnR o) = o := funext fun i => rowAt_put o i
theorem lst_pt {α : Type} [Row α] {n : Nat} {o p : Nat → α} (h : ∀ j, j < n → o j = p j) : lst α n (fnR o) = lst α n (fnR p) := lst_congr fun i hi => by simp only [fnR, h i hi]
theorem keptF_congr {P : Nat → Ev → Bool} {p p' : Nat → Ev} : ∀ {m : Nat}, (∀ j, j < m → p j = p' j) → keptF P p m = keptF P p' m
  | 0, _ => rfl
  | m + 1, h => by
    simp only [keptF]
    rw [keptF_congr (m := m) fun j hj => h j (by omega), h m (by omega)]
theorem keptF_ext {P Q : Nat → Ev → Bool} {p : Nat → Ev} (h : ∀ i e, P i e = Q i e) : ∀ {m : Nat}, keptF P p m = keptF Q p m
  | 0 => rfl
  | m + 1 => by
    simp only [keptF]
    rw [keptF_ext h (m := m), h]
theorem sameHB_true {n m n' m' : Nat} {g h g' h' : Nat → List Sh} (h1 : lst Oj n g = lst Oj n' g') (h2 : lst Ev m h = lst Ev m' h') : sameHB n m g h n' m' g' h' = true := by
  unfold sameHB
  rw [sameL_true h1, sameL_true h2]; rfl
def txf (p : Nat → Ev) (j : Nat) : Int := (p j).tx
theorem lst_kept (l : List Ev) : lst Ev (len l) (fnR (nth l)) = l := lst_nth l
theorem okB_kept (l : List Ev) : okB Ev (len l) (fnR (nth l)) = true := okB_put _ _
theorem room_le {n b : Nat} (h : n ≤ 100000) (hb : b ≤ 1000) : roomB n b = true := by
  show decide (n * b ≤ 140737488355328 ∧ n ≤ maxLen) = true
  rw [maxLen_eq]
  have : n * b ≤ 100000 * 1000 := Nat.mul_le_mul h hb
  exact decide_eq_true ⟨by omega, by omega⟩
theorem proom_le {n b : Nat} (h : n ≤ 100000) (hb : b ≤ 1000) : prim.room n b = true := room_le h hb
end Go.Pl
namespace Go.Proofs
open Go Go.Sx Go.Pl
theorem O3s : ∀ g F, spec3 g = some F → FnOK Tryd.prog (gls5 W5) g F := fun g F h => by
  unfold spec3 at h
  split at h
  · cases h; exact O8
  · cases h; exact O9p
  · cases h; exact O10
  · cases h; exact O11
  · cases h; exact O12p
  · cases h; exact O13
  · cases h; exact O14
  · cases h; exact O15
  · cases h; exact O16
  · cases h; exact O19
  · cases h; exact O20
  · cases h; exact O21p
  · cases h; exact O22p
  · cases h; exact O37
  · cases h
theorem fok3 (stop : Nat → List Nat → Bool) : FnsOK Tryd.prog (C5 prim W5 spec3 stop) := C5.fok O3s fun g h => by
  unfold spec3 at h
  split at h
  all_goals first | (cases h; done) | kernel_rfl
structure In3 (n0 m0 N M : Nat) (g0 go : Nat → Oj) (h0 he : Nat → Ev) : Prop where
  hn : n0 ≤ 100
  hm : m0 ≤ 600
  hN : N = n0 + 1
  hM : M = m0 + 1
  o : ∀ j, j < n0 → go j = g0 j
  oz : (go n0).kind = 47
  e : ∀ j, j < m0 → he j = h0 j
  ez : (he m0).kind = 47
section
variable {H0 : Mem} {w0 : World} {n0 m0 n1 m1 k N M : Nat} {g0 g1 go : Nat → Oj} {h0 h1 he : Nat → Ev} {q : Nat → Int} {φ : Sh → Prop}
theorem loop3 (I : In3 n0 m0 N M g0 go h0 he) (hφ : φ (.b true)) : ∀ rm (i : Nat), i + rm = m0 →
    GoesS Tryd.prog (C5 prim W5 spec3 stopAll) (K0 H0 w0) 3 td3 (L3 n0 m0 n1 m1 k N M g0 g1 go h0 h1 he q (i : Int) m0 i (fnR (txf he)) (fnR (txf h0))) [] emp φ
  | rm, i, hi => by
    have hm := I.hm
    have hn := I.hn
    have hN := I.hN
    have hM := I.hM
    refine goesS_into (fn := Tryd.f3) (tb := tb3) (by kernel_rfl) (by kernel_rfl) ?_
    refine goesS_runToM (C5.ok _ _) (fok3 _) (hold := noHold) (m := 300) (n := 400) (ts := [⟨3, td3, L3 n0 m0 n1 m1 k N M g0 g1 go h0 h1 he q ((i + 1 : Nat) : Int) m0 (i + 1) (fnR (txf he)) (fnR (txf h0)), []⟩]) ?_
    rw [b3 prim W5 n0 m0 n1 m1 k N M g0 g1 go h0 h1 he q i (i + 1 : Nat) m0 i (i + 1) (fnR (txf he)) (fnR (txf h0)) (fnR (txf h0)), meetsE_eq]
    refine ⟨fun h => ?_, fun h => ?_⟩
    · have hlt : i < m0 := by simp [prim_lt, prim_ofN] at h; omega
      match rm, hi with
      | 0, hi => omega
      | rm + 1, hi =>
        refine ⟨?_, proom_le (n := i + 1) (by omega) (by omega), ⟨rfl, rfl, rfl, rfl, rfl, ?_, rfl, rfl, rfl, rfl, rfl, rfl, rfl, ?_, rfl, fun _ _ => rfl, trivial⟩, _, rfl, loop3 I hφ rm (i + 1) (by omega)⟩
        · simp [prim_inB]; omega
        · show IntKind.i64.wrap ((i : Int) + 1) = ((i + 1 : Nat) : Int)
          rw [wrap_id (by omega) (by omega)]; rfl
        · exact snoc_row (o := txf h0) rfl
    · have hge : i = m0 := by simp [prim_lt, prim_ofN] at h; omega
      have eO : lst Oj n0 (fnR go) = lst Oj n0 (fnR g0) := lst_pt I.o
      have eE : lst Ev m0 (fnR he) = lst Ev m0 (fnR h0) := lst_pt I.e
      have sub1 : subHB n0 m0 (fnR go) (fnR he) n1 m1 (fnR g1) (fnR h1) = subHB n0 m0 (fnR g0) (fnR h0) n1 m1 (fnR g1) (fnR h1) := by
        unfold subHB
        rw [eO, rwAt_fnR, rwAt_fnR, rwAt_fnR, subB_congr m1 0 he h0 m0 (fun _ _ => rfl) I.e]
      have sub2 : subHB n1 m1 (fnR g1) (fnR h1) n0 m0 (fnR go) (fnR he) = subHB n1 m1 (fnR g1) (fnR h1) n0 m0 (fnR g0) (fnR h0) := by
        unfold subHB
        rw [eO, rwAt_fnR, rwAt_fnR, rwAt_fnR, subB_congr (p := he) (p' := h0) m0 0 h1 h1 m1 (fun j hj => I.e _ (by omega)) (fun _ _ => rfl)]
      have still : sameHB n0 m0 (fnR go) (fnR he) n0 m0 (fnR g0) (fnR h0) = true := sameHB_true eO eE
      have asked : sameL (lst Int m0 (fnR (txf he))) (lst Int i (fnR (txf h0))) = true := by
        subst hge
        exact sameL_true (lst_pt fun j hj => by unfold txf; rw [I.e j hj])
      have k1 : prim.eq (go (prim.toN (prim.ofN n0))).kind 47 = true := by
        have : (go n0).kind = 47 := I.oz
        show ((go n0).kind == 47) = true
        rw [this]; rfl
      have k2 : prim.eq (he (prim.toN (prim.ofN m0))).kind 47 = true := by
        have : (he m0).kind = 47 := I.ez
        show ((he m0).kind == 47) = true
        rw [this]; rfl
      have in1 : prim.inB (prim.ofN n0) N = true := by simp [prim_inB, prim_ofN]; omega
      have in2 : prim.inB (prim.ofN m0) M = true := by simp [prim_inB, prim_ofN]; omega
      have no : ∀ {b : Bool} {T : Prop}, b = true → (b = false → T) := fun h1 h2 => by rw [h1] at h2; cases h2
      have beq1 : prim.beq (subHB n0 m0 (fnR go) (fnR he) n1 m1 (fnR g1) (fnR h1)) (subHB n0 m0 (fnR g0) (fnR h0) n1 m1 (fnR g1) (fnR h1)) = true := by rw [sub1, prim_beq]; simp
      have beq2 : prim.beq (subHB n1 m1 (fnR g1) (fnR h1) n0 m0 (fnR go) (fnR he)) (subHB n1 m1 (fnR g1) (fnR h1) n0 m0 (fnR g0) (fnR h0)) = true := by rw [sub2, prim_beq]; simp
      have fin : φ (.b (prim.beq (subHB n1 m1 (fnR g1) (fnR h1) n0 m0 (fnR go) (fnR he)) (subHB n1 m1 (fnR g1) (fnR h1) n0 m0 (fnR g0) (fnR h0)))) := by rw [beq2]; exact hφ
      have b (n : Nat) {α : Type} [Row α] (o : Nat → α) : okB α n (fnR o) = true := okB_put o n
      exact ⟨b _ _, b _ _, b _ _, b _ _, fun _ => ⟨in1, fun _ => ⟨in2, fun _ => ⟨fun _ => ⟨fun _ => ⟨b _ _, b _ _, fun _ => ⟨fun _ => ⟨b _ _, b _ _, b _ _, b _ _, b _ _, b _ _, b _ _, b _ _, fun _ => ⟨b _ _, b _ _, b _ _, b _ _, b _ _, b _ _, b _ _, b _ _, fin⟩, no beq1⟩, no k2⟩, no asked⟩, no rfl⟩, no rfl⟩, no rfl⟩, no k1⟩, no still⟩

/-- What the law keeps. -/
theorem loopI (hr : k ≤ 100000) (hm : m0 ≤ 600) {i : Nat} (hi : i < m0)
    (next : GoesS Tryd.prog (C5 prim W5 spec3 stopAll) (K0 H0 w0) 38 td10 (LK n0 m0 n1 m1 k N M g0 g1 go h0 h1 he q (i + 1 : Nat) (i + 1) (keptF (kp19 (lst Int k (fnR q)) true) he (i + 1)).length (fnR (txf he)) (fnR (nth (keptF (kp19 (lst Int k (fnR q)) true) he (i + 1))))) (fr17 n0 m0 n1 m1 k N M g0 g1 go h0 h1 he q) emp φ) :
    ∀ rj (j : Nat), j + rj = k → (∀ x, x < j → q x ≠ (he i).tx) →
    GoesS Tryd.prog (C5 prim W5 spec3 stopAll) (K0 H0 w0) 18 td10 (LI n0 m0 n1 m1 k N M g0 g1 go h0 h1 he q (he i) (j : Int) (i + 1) (keptF (kp19 (lst Int k (fnR q)) true) he i).length (fnR (txf he)) (fnR (nth (keptF (kp19 (lst Int k (fnR q)) true) he i)))) (frI n0 m0 n1 m1 k N M g0 g1 go h0 h1 he q (i : Int)) emp φ
  | rj, j, hj, hno => by
    have hle := keptF_le (kp19 (lst Int k (fnR q)) true) he i
    have hmem : ∀ b, hasB (lst Int k (fnR q)) (he i).tx = b → (kp19 (lst Int k (fnR q)) true i (he i)) = b := fun b hb => by
      unfold kp19; rw [hb]; cases b <;> rfl
    have hkT : hasB (lst Int k (fnR q)) (he i).tx = true → keptF (kp19 (lst Int k (fnR q)) true) he (i + 1) = keptF (kp19 (lst Int k (fnR q)) true) he i ++ [he i] := fun h => by
      simp only [keptF, hmem true h, cond_true]
    have hkF : hasB (lst Int k (fnR q)) (he i).tx = false → keptF (kp19 (lst Int k (fnR q)) true) he (i + 1) = keptF (kp19 (lst Int k (fnR q)) true) he i := fun h => by
      simp only [keptF, hmem false h, cond_false]
    generalize hKP : keptF (kp19 (lst Int k (fnR q)) true) he i = KP at *
    generalize hKN : keptF (kp19 (lst Int k (fnR q)) true) he (i + 1) = KN at *
    have hwi : IntKind.i64.wrap ((i : Int) + 1) = ((i + 1 : Nat) : Int) := by rw [wrap_id (by omega) (by omega)]; rfl
    refine goesS_into (fn := Tryd.f18) (tb := tb10) (by kernel_rfl) (by kernel_rfl) ?_
    refine goesS_runToM (C5.ok _ _) (fok3 _) (hold := noHold) (m := 300) (n := 400) (ts := [⟨38, td10, LK n0 m0 n1 m1 k N M g0 g1 go h0 h1 he q ((i + 1 : Nat) : Int) (i + 1) KN.length (fnR (txf he)) (fnR (nth KN)), fr17 n0 m0 n1 m1 k N M g0 g1 go h0 h1 he q⟩, ⟨18, td10, LI n0 m0 n1 m1 k N M g0 g1 go h0 h1 he q (he i) ((j + 1 : Nat) : Int) (i + 1) KP.length (fnR (txf he)) (fnR (nth KP)), frI n0 m0 n1 m1 k N M g0 g1 go h0 h1 he q (i : Int)⟩]) ?_
    rw [bI prim W5 n0 m0 n1 m1 k N M g0 g1 go h0 h1 he q i (i + 1) KP.length (fnR (txf he)) (fnR (nth KP)) (he i) j (j + 1 : Nat) (i + 1 : Nat) KN.length (fnR (nth KN)), meetsE_eq]
    refine ⟨fun h => ?_, fun h => ?_⟩
    · have hlt : j < k := by simp [prim_lt, prim_ofN] at h; omega
      refine ⟨by simp [prim_inB]; omega, fun h2 => ?_, fun h2 => ?_⟩
      · have hq : q j = (he i).tx := by simpa [prim_eq, prim_toN] using h2
        have hin : hasB (lst Int k (fnR q)) (he i).tx = true := decide_eq_true (by
          rw [lst_put]; exact List.mem_map.2 ⟨j, List.mem_range.2 hlt, hq⟩)
        have e1 := hkT hin
        refine ⟨proom_le (n := KP.length + 1) (by omega) (by omega), ⟨rfl, rfl, hwi, rfl, rfl, rfl, rfl, rfl, rfl, rfl, rfl, fun _ _ => rfl, ?_, ?_, rfl, fun _ _ => rfl, rfl, rfl, rfl, rfl, trivial⟩, _, rfl, next⟩
        · show KP.length + 1 = KN.length
          rw [e1]; simp
        · show ∀ x, x < KP.length + 1 → _ = _
          rw [e1]; exact snoc_nth _ _ rfl
      · have hq : q j ≠ (he i).tx := by simpa [prim_eq, prim_toN] using h2
        match rj, hj with
        | 0, hj => omega
        | rj + 1, hj =>
          have hwj : IntKind.i64.wrap ((j : Int) + 1) = ((j + 1 : Nat) : Int) := by rw [wrap_id (by omega) (by omega)]; rfl
          have rec_ := loopI hr hm hi (by rw [hKN]; exact next) rj (j + 1) (by omega) fun x hx => by
            by_cases e : x = j
            · subst e; exact hq
            · exact hno x (by omega)
          rw [hKP] at rec_
          refine ⟨⟨rfl, hwj, rfl, rfl, rfl, rfl, rfl, rfl, rfl, rfl, fun _ _ => rfl, rfl, fun _ _ => rfl, rfl, fun _ _ => rfl, rfl, rfl, rfl, rfl, rfl, rfl, rfl, rfl, rfl, rfl, rfl, rfl, rfl, rfl, rfl, trivial⟩, _, rfl, rec_⟩
    · have hge : j = k := by simp [prim_lt, prim_ofN] at h; omega
      subst hge
      have hin : hasB (lst Int j (fnR q)) (he i).tx = false := decide_eq_false (by
        rw [lst_put]
        intro hm
        obtain ⟨x, h1, h2⟩ := List.mem_map.1 hm
        exact hno x (List.mem_range.1 h1) h2)
      have e1 := hkF hin
      subst e1
      exact ⟨⟨rfl, rfl, hwi, rfl, rfl, rfl, rfl, rfl, rfl, rfl, rfl, fun _ _ => rfl, rfl, fun _ _ => rfl, rfl, fun _ _ => rfl, rfl, rfl, rfl, rfl, trivial⟩, _, rfl, next⟩
theorem loopK (I : In3 n0 m0 N M g0 go h0 he) (hr : k ≤ 100000) (hφ : φ (.b true)) : ∀ rm (i : Nat), i + rm = m0 →
    GoesS Tryd.prog (C5 prim W5 spec3 stopAll) (K0 H0 w0) 38 td10 (LK n0 m0 n1 m1 k N M g0 g1 go h0 h1 he q (i : Int) i (keptF (kp19 (lst Int k (fnR q)) true) he i).length (fnR (txf he)) (fnR (nth (keptF (kp19 (lst Int k (fnR q)) true) he i)))) (fr17 n0 m0 n1 m1 k N M g0 g1 go h0 h1 he q) emp φ
  | rm, i, hi => by
    have hm := I.hm
    have hn := I.hn
    refine goesS_into (fn := Tryd.f38) (tb := tb10) (by kernel_rfl) (by kernel_rfl) ?_
    refine goesS_runToM (C5.ok _ _) (fok3 _) (hold := noHold) (m := 300) (n := 400) (ts := [⟨18, td10, LI n0 m0 n1 m1 k N M g0 g1 go h0 h1 he q (he i) ((0 : Nat) : Int) (i + 1) (keptF (kp19 (lst Int k (fnR q)) true) he i).length (fnR (txf he)) (fnR (nth (keptF (kp19 (lst Int k (fnR q)) true) he i))), frI n0 m0 n1 m1 k N M g0 g1 go h0 h1 he q (i : Int)⟩, ⟨3, td3, L3 n0 m0 n1 m1 k N M g0 g1 go h0 h1 he q 0 i 0 (fnR (txf he)) (fnR (txf h0)), []⟩]) ?_
    rw [bK prim W5 n0 m0 n1 m1 k N M g0 g1 go h0 h1 he q i i (keptF (kp19 (lst Int k (fnR q)) true) he i).length (fnR (txf he)) (fnR (nth (keptF (kp19 (lst Int k (fnR q)) true) he i))) (he i) (0 : Nat) (i + 1) (keptF (kp19 (lst Int k (fnR q)) true) he i).length 0 i (fnR (txf he)) (fnR (nth (keptF (kp19 (lst Int k (fnR q)) true) he i))) (fnR (txf h0)), meetsE_eq]
    refine ⟨fun h => ?_, fun h => ?_⟩
    · have hlt : i < m0 := by simp [prim_lt] at h; omega
      match rm, hi with
      | 0, hi => omega
      | rm + 1, hi =>
        refine ⟨by simp [prim_inB]; omega, proom_le (n := i + 1) (by omega) (by omega), ⟨rfl, rfl, rfl, rfl, rfl, rfl, rfl, rfl, rfl, rfl, fun _ _ => rfl, rfl, fun _ _ => rfl, rfl, ?_, rfl, rfl, rfl, rfl, rfl, rfl, rfl, rfl, rfl, rfl, rfl, rfl, rfl, rfl, rfl, trivial⟩, _, rfl, loopI hr hm hlt (loopK I hr hφ rm (i + 1) (by omega)) k 0 (by omega) fun x hx => by omega⟩
        exact snoc_row (o := txf he) rfl
    · have hge : i = m0 := by simp [prim_lt] at h; omega
      subst hge
      have b (n : Nat) {α : Type} [Row α] (o : Nat → α) : okB α n (fnR o) = true := okB_put o n
      have only : sameHB n0 (keptF (kp19 (lst Int k (fnR q)) true) he i).length (fnR go) (fnR (nth (keptF (kp19 (lst Int k (fnR q)) true) he i))) n0 (len (keptF (kp19 (lst Int k (fnR q)) true) (rwAt (fnR h0)) i)) (fO (fnR g0)) (fnR (nth (keptF (kp19 (lst Int k (fnR q)) true) (rwAt (fnR h0)) i))) = true := by
        refine sameHB_true ?_ ?_
        · rw [fO_fnR]; exact lst_pt I.o
        · rw [lst_kept, lst_nth, rwAt_fnR]
          exact keptF_congr I.e
      exact ⟨b _ _, b _ _, b _ _, room_le (by omega) (by omega), room_le (by omega) (by omega), b _ _, by rw [fO_fnR]; exact b _ _, b _ _, b _ _, ⟨rfl, rfl, rfl, rfl, only, rfl, rfl, rfl, rfl, rfl, rfl, rfl, rfl, rfl, fun _ _ => rfl, trivial⟩, _, rfl, loop3 (k := k) (q := q) I hφ i 0 (by omega)⟩

/-- Behind what has been asked of Prefix and Without. -/
theorem go17 (I : In3 n0 m0 N M g0 go h0 he) (hr : k ≤ 100000) (hφ : φ (.b true)) : GoesS Tryd.prog (C5 prim W5 spec3 stopAll) (K0 H0 w0) 3 td17 (L17 n0 m0 n1 m1 k N M g0 g1 go h0 h1 he q (fnR go) (fnR he)) [] emp φ := by
  have hm := I.hm
  have hn := I.hn
  refine goesS_runToM (C5.ok _ _) (fok3 _) (hold := noHold) (m := 300) (n := 400) (ts := [⟨38, td10, LK n0 m0 n1 m1 k N M g0 g1 go h0 h1 he q ((0 : Nat) : Int) 0 (keptF (kp19 (lst Int k (fnR q)) true) he 0).length (fnR (txf he)) (fnR (nth (keptF (kp19 (lst Int k (fnR q)) true) he 0))), fr17 n0 m0 n1 m1 k N M g0 g1 go h0 h1 he q⟩]) ?_
  rw [a17 prim W5 n0 m0 n1 m1 k N M g0 g1 go h0 h1 he q (0 : Nat) 0 (keptF (kp19 (lst Int k (fnR q)) true) he 0).length (fnR (txf he)) (fnR (nth (keptF (kp19 (lst Int k (fnR q)) true) he 0))), meetsE_eq]
  exact ⟨room_le (by omega) (by omega), room_le (by omega) (by omega), ⟨rfl, rfl, rfl, rfl, rfl, rfl, rfl, rfl, rfl, rfl, rfl, fun _ _ => rfl, rfl, fun j hj => by omega, rfl, rfl, rfl, rfl, rfl, trivial⟩, _, rfl, loopK I hr hφ m0 0 (by omega)⟩
end
theorem tmOf_p {n : Nat} {l l' : List (Nat × SV)} (h : l.length = l'.length) (hk : ∀ (i : Nat) (a b : Nat × SV), l[i]? = some a → l'[i]? = some b → a.1 = b.1 ∧ pS a.2 b.2) : pL (tmOf n l) (tmOf n l') := by
  unfold tmOf
  have : ∀ (l l' : List (Nat × SV)) (t t' : List SV), l.length = l'.length → (∀ (i : Nat) (a b : Nat × SV), l[i]? = some a → l'[i]? = some b → a.1 = b.1 ∧ pS a.2 b.2) → pL t t' → pL (l.foldl (fun t p => t.set p.1 p.2) t) (l'.foldl (fun t p => t.set p.1 p.2) t') := by
    intro l
    induction l with
    | nil => intro l' t t' h _ ht; cases l' with
      | nil => exact ht
      | cons _ _ => simp at h
    | cons x l ih =>
      intro l' t t' h hk ht
      cases l' with
      | nil => simp at h
      | cons y l' =>
        obtain ⟨e1, e2⟩ := hk 0 x y rfl rfl
        refine ih l' _ _ (by simpa using h) (fun i a b h1 h2 => hk (i + 1) a b h1 h2) ?_
        show pL (t.set x.1 x.2) (t'.set y.1 y.2)
        rw [e1]
        exact pL.set e2 _ ht
  exact this l l' _ _ h hk pL.rfl'
/-- The lists with one more behind them. -/
def gmO (n : Nat) (g : Nat → Oj) : Nat → List Sh := prim.snoc (fO (fnR g)) n (nthL [[.i .i64 47, .i .i64 0]])
def gmE (n : Nat) (h : Nat → Ev) : Nat → List Sh := prim.snoc (fE (fnR h)) n (nthL [[.i .i64 47, .i .i64 0, .i .i64 0, .i .i64 0, .i .i64 0, .i .i64 0, .i .i64 0, .i .i64 0]])
def upO (n : Nat) (g : Nat → Oj) (j : Nat) : Oj := if j < n then g j else ⟨47, 0⟩
def upE (n : Nat) (h : Nat → Ev) (j : Nat) : Ev := if j < n then h j else ⟨47, 0, 0, 0, 0, 0, 0, 0⟩
theorem gmO_at {n : Nat} {g : Nat → Oj} : ∀ j, j < n + 1 → gmO n g j = fnR (upO n g) j := fun j hj => by
  unfold gmO
  rw [prim_snoc, fO_fnR]
  simp only [fnR, upO]
  split
  · rfl
  · have : j - n = 0 := by omega
    rw [this]; rfl
theorem gmE_at {n : Nat} {h : Nat → Ev} : ∀ j, j < n + 1 → gmE n h j = fnR (upE n h) j := fun j hj => by
  unfold gmE
  rw [prim_snoc, fE_fnR]
  simp only [fnR, upE]
  split
  · rfl
  · have : j - n = 0 := by omega
    rw [this]; rfl
section
variable {H0 : Mem} {w0 : World} {n0 m0 n1 m1 k : Nat} {g0 g1 : Nat → Oj} {h0 h1 : Nat → Ev} {q : Nat → Int} {φ : Sh → Prop}
theorem in3_up (hn : n0 ≤ 100) (hm : m0 ≤ 600) : In3 n0 m0 (n0 + 1) (m0 + 1) g0 (upO n0 g0) h0 (upE m0 h0) :=
  ⟨hn, hm, rfl, rfl, fun j hj => by simp [upO, hj], by simp [upO], fun j hj => by simp [upE, hj], by simp [upE]⟩
theorem go17m (hn : n0 ≤ 100) (hm : m0 ≤ 600) (hr : k ≤ 100000) (hφ : φ (.b true)) : GoesS Tryd.prog (C5 prim W5 spec3 stopAll) (K0 H0 w0) 3 td17 (L17 n0 m0 n1 m1 k (n0 + 1) (m0 + 1) g0 g1 (upO n0 g0) h0 h1 (upE m0 h0) q (gmO n0 g0) (gmE m0 h0)) [] emp φ := by
  have s1 : pS (.sh (.sl 2 (n0 + 1) (gmO n0 g0))) (.sh (.sl 2 (n0 + 1) (fnR (upO n0 g0)))) := pS.sl gmO_at
  have s2 : pS (.sh (.sl 8 (m0 + 1) (gmE m0 h0))) (.sh (.sl 8 (m0 + 1) (fnR (upE m0 h0)))) := pS.sl gmE_at
  have s3 : pS (.sh (.sl 2 n0 (gmO n0 g0))) (.sh (.sl 2 n0 (fnR (upO n0 g0)))) := pS.sl fun j hj => gmO_at j (by omega)
  have s4 : pS (.sh (.sl 8 m0 (gmE m0 h0))) (.sh (.sl 8 m0 (fnR (upE m0 h0)))) := pS.sl fun j hj => gmE_at j (by omega)
  have g := go17 (H0 := H0) (w0 := w0) (n1 := n1) (m1 := m1) (g1 := g1) (h1 := h1) (q := q) (in3_up (g0 := g0) (h0 := h0) hn hm) hr hφ
  refine goesS_weakP ?_ ?_ g
  rotate_left
  · exact trivial
  refine ⟨?_, ?_, rfl, rfl, rfl⟩
  · refine tmOf_p rfl fun i a b h1 h2 => ?_
    match i, h1, h2 with
    | 0, h1, h2 => cases h1; cases h2; exact ⟨rfl, pS.rfl'⟩
    | 1, h1, h2 => cases h1; cases h2; exact ⟨rfl, pS.rfl'⟩
    | 2, h1, h2 => cases h1; cases h2; exact ⟨rfl, pS.rfl'⟩
    | 3, h1, h2 => cases h1; cases h2; exact ⟨rfl, s1⟩
    | 4, h1, h2 => cases h1; cases h2; exact ⟨rfl, s2⟩
    | 5, h1, h2 => cases h1; cases h2; exact ⟨rfl, pS.rfl'⟩
    | 6, h1, h2 => cases h1; cases h2; exact ⟨rfl, pS.rfl'⟩
    | 7, h1, h2 => cases h1; cases h2; exact ⟨rfl, pS.rfl'⟩
    | 8, h1, h2 => cases h1; cases h2; exact ⟨rfl, pS.rfl'⟩
    | 9, h1, h2 => cases h1; cases h2; exact ⟨rfl, pS.agg ⟨s3, s4, trivial⟩⟩
    | 10, h1, h2 => cases h1; cases h2; exact ⟨rfl, pS.rfl'⟩
    | i + 11, h1, h2 => cases h1
  · exact ⟨rfl, pB.rfl', rfl, pB.rfl', rfl, pB.rfl', rfl, ⟨rfl, s3, s4, trivial⟩, rfl, pB.rfl', trivial⟩
end
end Go.Proofs
namespace Go.Sx
def matchU (g : Nat) (td : List It) (c : Core) (stk : List Fr) : Nat → List Tgt → Tree Fe2
  | _, [] => .fail
  | k, t :: r => bif g == t.g && itsEq td t.td && sameStk stk t.stk then match app2 (qC (t.rn c stk) c t.c) (qStk c.hp (t.rn c stk) stk t.stk) with
      | some l => .leaf (.at_ k l)
      | none => matchU g td c stk (k + 1) r
    else matchU g td c stk (k + 1) r
def toFeU (ts : List Tgt) : OutS → Tree Fe2
  | .fin v c => match finish c v with
    | some s => .leaf (.ret s)
    | none => .fail
  | .stop g td c stk => matchU g td c stk 0 ts
def runU (C : Ctx) (hold : Nat → Bool) (m n g : Nat) (td : List It) (c : Core) (stk : List Fr) (ts : List Tgt) : Tree Fe2 := (runS C hold m n g td c stk).bind (toFeU ts)
section
variable {P : Program} {C : Ctx} {K : Kx} {H0 : Mem} {w0 : World}
theorem matchU_ok {R : Hp → Prop} {φ : Sh → Prop} {ts : List Tgt} {g : Nat} {td : List It} {c : Core} {stk : List Fr} : ∀ {r : List Tgt} {k : Nat}, (∀ j, r[j]? = ts[k + j]?) → (matchU g td c stk k r).All (Fe2OK P C K ts R φ) → GoesS P C K g td c stk R φ
  | [], _, _, h => h.elim
  | t :: r, k, hk, h => by
    have hr : ∀ j, r[j]? = ts[k + 1 + j]? := fun j => by have := hk (j + 1); simp only [List.getElem?_cons_succ] at this; rw [this]; congr 1; omega
    unfold matchU at h
    cases hb : (g == t.g && itsEq td t.td && sameStk stk t.stk) <;> simp only [hb, cond_true, cond_false] at h
    · exact matchU_ok hr h
    · simp only [Bool.and_eq_true, beq_iff_eq] at hb
      obtain ⟨⟨h1, h2⟩, h3⟩ := hb
      split at h
      · rename_i l hl
        obtain ⟨a, b, q1, q2, rfl⟩ := app2_some hl
        obtain ⟨hl, t', ht, hg⟩ := h
        have := hk 0
        simp only [List.getElem?_cons_zero, Nat.add_zero] at this
        rw [← this] at ht
        cases ht
        have h2 := itsEq_ok h2
        subst h1 h2
        exact goesS_weak (t.rn c stk) (qC_ok q1 (Eqn.all_app hl).1) (qStk_ok q2 (Eqn.all_app hl).2) hg
      · exact matchU_ok hr h
theorem goesS_runU (hC : CtxOK P C) (hF : FnsOK P C) {hold : Nat → Bool} {m n g : Nat} {td : List It} {c : Core} {stk : List Fr} {ts : List Tgt} {R : Hp → Prop} {φ : Sh → Prop}
    (h : (runU C hold m n g td c stk ts).All (Fe2OK P C (K0 H0 w0) ts R φ)) : GoesS P C (K0 H0 w0) g td c stk R φ := by
  refine goesS_run hC hF (hold := hold) (m := m) (n := n) ((Tree.All_bind h).mono fun o ho => ?_)
  cases o with
  | fin v c =>
    simp only [toFeU] at ho
    split at ho
    · rename_i s hs
      exact ⟨s, hs, ho⟩
    · exact ho.elim
  | stop g td c stk => exact matchU_ok (k := 0) (fun j => by simp) ho
end
/-! A run that pauses at given places. -/
def runQ (C : Ctx) (pause : Nat → List It → Bool) (hold : Nat → Bool) (m : Nat) : Nat → Nat → List It → Core → List Fr → Tree OutS
  | 0, g, td, c, stk => .leaf (.stop g td c stk)
  | n + 1, g, td, c, stk => match C.fns.get g with
    | none => .fail
    | some fn => bif pause g td || holdB hold fn td c then .leaf (.stop g td c stk) else match pushOf C fn td c with
      | some r => runQ C pause hold m n r.1 [.code []] { c with tm := r.2.2 ++ List.replicate (r.2.1.ntmps - r.2.2.length) .any } ({ g, td, tm := c.tm } :: stk)
      | none => (stepR C (callWith C (run C m false)) true g fn td c).bind fun s => match s with
        | .go td c => runQ C pause hold m n g td c stk
        | .halt td c => .leaf (.stop g td c stk)
        | .done v c => match stk with
          | [] => .leaf (.fin v c)
          | f :: stk => match popOf C f v c with
            | some r => runQ C pause hold m n f.g r.1 r.2 stk
            | none => .fail
section
variable {P : Program} {C : Ctx} {K : Kx} {H H' H'' H0 : Mem} {E E' E'' E1 : Env} {w w' w'' w0 : World}
theorem goesS_runQ (hC : CtxOK P C) (hF : FnsOK P C) {pause : Nat → List It → Bool} {hold : Nat → Bool} {m : Nat} {R : Hp → Prop} {φ : Sh → Prop} : ∀ {n g : Nat} {td : List It} {c : Core} {stk : List Fr}, (runQ C pause hold m n g td c stk).All (OutSOK P C (K0 H0 w0) R φ) → GoesS P C (K0 H0 w0) g td c stk R φ
  | 0, g, td, c, stk, h => h
  | n + 1, g, td, c, stk, h => by
    intro H E w a items ms cs fn hfn st hi hs hx
    simp only [runQ, hfn] at h
    cases hhold : (pause g td || holdB hold fn td c) <;> simp only [hhold, cond_true, cond_false] at h
    rotate_left
    · exact h H E w a items ms cs fn hfn st hi hs hx
    split at h
    · -- a call is entered
      rename_i r hr
      unfold pushOf at hr
      split at hr
      · rename_i p i rest k
        split at hr
        · rename_i rid ops dr hcode
          split at hr
          · rename_i o ho
            split at hr
            · rename_i hwant
              split at hr
              · rename_i kk hop
                split at hr
                · rename_i f hcal
                  split at hr
                  · rename_i g2 caps hev
                    split at hr
                    · cases hr
                    · rename_i hspec
                      split at hr
                      · rename_i fn2 hfn2
                        cases hb : (Nat.ble (kk.args.toList.map (evL c.tm) ++ caps).length fn2.ntmps && fn2.body.isSome) <;> simp only [hb, cond_true, cond_false] at hr
                        · cases hr
                        cases hr
                        simp only [Bool.and_eq_true] at hb
                        obtain ⟨body2, hbody2⟩ := Option.isSome_iff_exists.1 hb.2
                        have ih := goesS_runQ hC hF h
                        have hP2 := hC.fn g2 fn2 hfn2
                        cases hi with
                        | reg p l id ops2 hc hk =>
                          rw [hc] at hcode
                          cases hcode
                          rename_i k'
                          have df := den_ev (H := H) (E := E) st.den f
                          rw [hev] at df
                          obtain ⟨vs, ef, hvs⟩ := df
                          have hargs := (den_map st.den kk.args.toList).append hvs
                          have ho' : ops[i]? = some o := by simpa [opAt] using ho
                          have hw' := wantOf_spec (ops := ops) st.den o
                          rw [hwant] at hw'
                          have hent := hF.en g2 (.inr (by rw [hfn2]; rfl))
                          have hrun : (execOp a.eval o).run P w = .ok (.enter g2 (kk.args.map a.eval ++ vs)) w := by
                            simp only [execOp, hop, resolve, hcal]
                            simp [Deferred.ofValue, ef, invoke, callFunc_run hent]
                          have hg := stepG_op (P := P) (b := base g) (k := k') (cs := ms ++ cs) (w := w) (rest := rest) ho' hw'
                          have henter : step P (lone ((base g).at a (.inRegion ops (i :: rest) :: k')) (ms ++ cs) w) = .next (lone (Frame.enter P g2 (kk.args.map a.eval ++ vs) .normal) ((base g).at a (.inRegion ops (i :: rest) :: k') :: (ms ++ cs)) w) :=
                            step_lone_go (by rw [hg]; simp [stepG.apply, hrun, Frame.at])
                          rw [enter_base hP2 hbody2] at henter
                          have hl := hargs.length
                          have hlen : (kk.args.map a.eval ++ vs).size = (kk.args.toList.map (evL c.tm) ++ caps).length := by
                            rw [← hl]; simp
                          have st2 : St C (K0 H0 w0) H E w { c with tm := (kk.args.toList.map (evL c.tm) ++ caps) ++ List.replicate (fn2.ntmps - (kk.args.toList.map (evL c.tm) ++ caps).length) .any } { tmps := (kk.args.map a.eval ++ vs) ++ Array.replicate (fn2.ntmps - (kk.args.map a.eval ++ vs).size) undef, defers := [] } := by
                            refine ⟨?_, st.hp, st.wok, st.free, st.gl, rfl⟩
                            have : ((kk.args.map a.eval ++ vs) ++ Array.replicate (fn2.ntmps - (kk.args.map a.eval ++ vs).size) undef).toList = (kk.args.toList.map a.eval ++ vs.toList) ++ List.replicate (fn2.ntmps - (kk.args.toList.map (evL c.tm) ++ caps).length) undef := by
                              rw [hlen]; simp
                            simp only [this]
                            exact hargs.append (DenL.any _ _ (by simp))
                          have hit2 : ItOK (bodyOf fn2) [.code []] [.code body2] := by
                            have := ItOK.code (body := bodyOf fn2) [] ItOK.nil
                            have he : codeAt (bodyOf fn2) [] = body2 := by simp [codeAt, bodyOf, hbody2]
                            rwa [he] at this
                          have hs2 : StkOK C H E ({ g, td := .reg p (i :: rest) :: k, tm := c.tm } :: stk) ((base g).at a (.inRegion ops (i :: rest) :: k') :: ms) :=
                            ⟨⟨fn, a, _, hfn, st.den, st.defers, .reg p (i :: rest) _ ops hc hk, rfl⟩, hs⟩
                          obtain ⟨a', w', v, s, H', todo, fn0, q1, q2, q3⟩ := ih H E w _ _ (_ :: ms) cs fn2 hfn2 st2 hit2 hs2 hx
                          exact ⟨a', w', v, s, H', todo, fn0, q1, .head henter q2, q3⟩
                      · cases hr
                  · cases hr
                · cases hr
              · cases hr
            · cases hr
          · cases hr
        · cases hr
      · cases hr
    · have hK := call_hyp (K := reK H E w c.hp) hC hF (run_ok hC hF m)
      obtain ⟨sig, h1, h2⟩ := stepR_ok hC hF hK (Tree.All_bind h) st.re hi (base g) (ms ++ cs)
      cases sig with
      | go td' c' =>
        obtain ⟨a', w', H', E', items', q1, q2, q3, q4⟩ := h2
        obtain ⟨a2, w2, v, s, H2, todo, fn0, r1, r2, r3⟩ := goesS_runQ hC hF h1 H' E' w' a' items' ms cs fn hfn (st.un q2) q4 (hs.le q3.Hle q3.Ele) (hx.keep st q2 q3)
        exact ⟨a2, w2, v, s, H2, todo, fn0, r1, q1.trans r2, r3⟩
      | halt td' c' =>
        obtain ⟨a', w', H', E', items', q1, q2, q3, q4⟩ := h2
        obtain ⟨a2, w2, v, s, H2, todo, fn0, r1, r2, r3⟩ := h1 H' E' w' a' items' ms cs fn hfn (st.un q2) q4 (hs.le q3.Hle q3.Ele) (hx.keep st q2 q3)
        exact ⟨a2, w2, v, s, H2, todo, fn0, r1, q1.trans r2, r3⟩
      | done sv c' =>
        obtain ⟨a', w', H', E', v, todo, q1, q2, q3, q4, q5⟩ := h2
        cases stk with
        | nil =>
          cases ms with
          | cons _ _ => exact hs.elim
          | nil =>
            obtain ⟨s, e1, e2⟩ := h1
            obtain ⟨H2, r⟩ := finish_ok (st.un q2) e1 q4
            exact ⟨a', w', v, s, H2, todo, fn, hfn, q1, q2.defers, e2, r, q5⟩
        | cons f stk =>
          cases ms with
          | nil => exact hs.elim
          | cons mf ms =>
            simp only at h1
            split at h1
            · rename_i r hr
              unfold popOf at hr
              split at hr
              · rename_i fnf hfnf
                split at hr
                · rename_i p i rest k htd
                  split at hr
                  · rename_i rid ops dr hcode
                    cases hr
                    obtain ⟨⟨fn3, a3, items3, g1, g2, g3, g4, g5⟩, hs'⟩ := hs.le q3.Hle q3.Ele
                    rw [hfnf] at g1; cases g1
                    rw [htd] at g4
                    cases g4 with
                    | reg p l id ops2 hc hk =>
                      rw [hc] at hcode
                      cases hcode
                      rename_i k'
                      subst g5
                      have hleave : step P (lone { (base g).at a' todo with mode := .returning } ((base f.g).at a3 (.inRegion ops (i :: rest) :: k') :: (ms ++ cs)) w') = .next (lone ((base f.g).at (a3.put ((opAt ops.toList i).bind (·.dst)) v) (.inRegion ops rest :: k')) (ms ++ cs) w') := by
                        rw [step_leave_returned (v := v) ⟨rfl, q2.defers, rfl, fn, hC.fn g fn hfn, q5⟩, Frame.finish_at]
                        simp [opAt]
                      have st3 : St C (K0 H0 w0) H' E' w' { c' with tm := putS f.tm ((opAt ops.toList i).bind (·.dst)) sv } (a3.put ((opAt ops.toList i).bind (·.dst)) v) :=
                        ⟨den_put (c := { c' with tm := f.tm }) g2 _ q4, (st.un q2).hp, (st.un q2).wok, q2.free, q2.gl, by rw [put_defers]; exact g3⟩
                      obtain ⟨a2, w2, v2, s, H2, todo2, fn0, r1, r2, r3⟩ := goesS_runQ hC hF h1 H' E' w' _ _ ms cs fnf hfnf st3 (.reg p rest _ ops hc hk) hs' (hx.keep st q2 q3)
                      exact ⟨a2, w2, v2, s, H2, todo2, fn0, r1, (q1.trans (.one hleave)).trans r2, r3⟩
                  · cases hr
                · cases hr
              · cases hr
            · exact h1.elim
def runV (C : Ctx) (pause : Nat → List It → Bool) (m n g : Nat) (td : List It) (c : Core) (stk : List Fr) (ts : List Tgt) : Tree Fe2 := (runQ C pause (fun _ => false) m n g td c stk).bind (toFeU ts)
theorem goesS_runV (hC : CtxOK P C) (hF : FnsOK P C) {pause : Nat → List It → Bool} {m n g : Nat} {td : List It} {c : Core} {stk : List Fr} {ts : List Tgt} {φ : Sh → Prop} {R : Hp → Prop}
    (h : (runV C pause m n g td c stk ts).All (Fe2OK P C (K0 H0 w0) ts R φ)) : GoesS P C (K0 H0 w0) g td c stk R φ := by
  refine goesS_runQ hC hF (pause := pause) (hold := fun _ => false) (m := m) (n := n) ((Tree.All_bind h).mono fun o ho => ?_)
  cases o with
  | fin v c =>
    simp only [toFeU] at ho
    split at ho
    · rename_i s hs
      exact ⟨s, hs, ho⟩
    · exact ho.elim
  | stop g td c stk => exact matchU_ok (k := 0) (fun j => by simp) ho
end
end Go.Sx
namespace Go.Pl
open Go Go.Sx Go.Proofs
def keepN (x : Int) : Nat → Ev → Bool := fun _ e => !(e.tx == x)
/-- What the functions below answer, as things of which nothing is known while a law is run. -/
structure Lb5 where
  km : (Nat → Ev → Bool) → Nat → (Nat → Ev) → Nat
  kp : (Nat → Ev → Bool) → Nat → (Nat → Ev) → Nat → Ev
  sub : Nat → Nat → (Nat → List Sh) → (Nat → List Sh) → Nat → Nat → (Nat → List Sh) → (Nat → List Sh) → Bool
  same : Nat → Nat → (Nat → List Sh) → (Nat → List Sh) → Nat → Nat → (Nat → List Sh) → (Nat → List Sh) → Bool
  un : Int → Nat → Nat
  dl : Nat → (Nat → Ev) → Int → Int → Nat
  dp : Nat → (Nat → Ev) → Int → Int → Nat → Ev
  k : Nat → (Nat → Ev) → Int
  e : Nat → (Nat → Ev) → Nat
  bk : Nat → Nat → (Nat → List Sh) → (Nat → List Sh) → Int
  be : Nat → Nat → (Nat → List Sh) → (Nat → List Sh) → Nat
  sp : (Nat → Ev) → Nat → Nat
def L5 : Lb5 where
  km P m p := len (keptF P p m)
  kp P m p := nth (keptF P p m)
  sub := subHB
  same := sameHB
  un := upN
  dl m p x k := len (dropE m p x k)
  dp m p x k := nth (dropE m p x k)
  k := takeK
  e := takeE
  bk := badPos
  be := badNo
  sp := spN
end Go.Pl
namespace Go.Proofs
open Go Go.Sx Go.Pl
def G15 (L : Lb5) : List Sh → Tree Sh
  | [.agg [.sl 2 n g, .sl 8 m h], .i .i64 x] => .need (okB Ev m h) (.need (roomB n 16) (.need (roomB m 64) (.leaf (.agg [.os 31 2 n g, .os 34 8 (L.km (keepN x) m (rwAt h)) (fnR (L.kp (keepN x) m (rwAt h)))]))))
  | _ => .fail
def G17 (L : Lb5) : List Sh → Tree Sh
  | [.agg [.sl 2 n g, .sl 8 m h], cl] => match keepP cl with
    | some P => .need (okB Ev m h) (.need (roomB n 16) (.need (roomB m 64) (.leaf (.agg [.os 31 2 n g, .os 34 8 (L.km P m (rwAt h)) (fnR (L.kp P m (rwAt h)))]))))
    | none => .fail
  | _ => .fail
def G12 (L : Lb5) : List Sh → Tree Sh
  | [.agg [.sl 2 n g, .sl 8 m h], .agg [.sl 2 n' g', .sl 8 m' h']] => .need (okB Oj n g) (.need (okB Oj n' g') (.need (okB Ev m h) (.need (okB Ev m' h') (.leaf (.b (L.same n m g h n' m' g' h'))))))
  | _ => .fail
def G21 (L : Lb5) : List Sh → Tree Sh
  | [.agg [.sl 2 n g, .sl 8 m h], .agg [.sl 2 n' g', .sl 8 m' h']] => .need (okB Oj n g) (.need (okB Oj n' g') (.need (okB Ev m h) (.need (okB Ev m' h') (.leaf (.b (L.sub n m g h n' m' g' h'))))))
  | _ => .fail
def G13 (L : Lb5) : List Sh → Tree Sh
  | [.agg [.sl 2 n g, .sl 8 m h], .i .i64 x] => .need (roomB n 16) (.need (roomB (L.un x m) 64) (.leaf (.agg [.os 31 2 n g, .os 34 8 (L.un x m) h])))
  | _ => .fail
def G23 (L : Lb5) : List Sh → Tree Sh
  | [.agg [.sl 2 n g, .sl 8 m h], .i .i64 x, .i .i64 k] => .need (okB Oj n g) (.need (okB Ev m h) (.need (retsB m h) (.node (bigB n m) (.leaf (.tup [.agg [.sl 0 0 fun _ => [], .sl 0 0 fun _ => []], .er 2 125])) (.node (goodB n m g h)
      (.node (takeB m (rwAt h)) (.node (txB m (rwAt h) x) (.node (deedB m (rwAt h) x k) (.leaf (.tup [.agg [.os 31 2 n (fO g), .os 34 8 (L.dl m (rwAt h) x k) (fnR (L.dp m (rwAt h) x k))], .v .nilIface])) (.leaf (.tup [.agg [.sl 0 0 fun _ => [], .sl 0 0 fun _ => []], .er 1 125])))
        (.leaf (.tup [.agg [.sl 0 0 fun _ => [], .sl 0 0 fun _ => []], .er 0 125]))) (.leaf (.tup [.agg [.sl 0 0 fun _ => [], .sl 0 0 fun _ => []], .ifc 81 (.pt [.i .i64 (L.k m (rwAt h)), .er (L.e m (rwAt h)) 125])])))
      (.leaf (.tup [.agg [.sl 0 0 fun _ => [], .sl 0 0 fun _ => []], .ifc 81 (.pt [.i .i64 (L.bk n m g h), .er (L.be n m g h) 125])]))))))
  | _ => .fail
def spec4 (L : Lb5) : Nat → Option (List Sh → Tree Sh)
  | 8 => some F8
  | 9 => some F9p
  | 12 => some (G12 L)
  | 13 => some (G13 L)
  | 15 => some (G15 L)
  | 17 => some (G17 L)
  | 21 => some (G21 L)
  | 23 => some (G23 L)
  | _ => none
/-- A history, as cells. -/
def hS (n m : Nat) (o : Nat → Oj) (p : Nat → Ev) : List SV := [.sh (.sl 2 n (fnR o)), .sh (.sl 8 m (fnR p))]
def natsEq : List Nat → List Nat → Bool
  | [], [] => true
  | x :: l, y :: r => Nat.beq x y && natsEq l r
  | _, _ => false
/-- A run stops where one of these pieces of code comes next. -/
def pauseAt (f : Nat) (ps : List (List Nat)) (g : Nat) (td : List It) : Bool := Nat.beq g f && match td with
  | .code r :: _ => ps.any (natsEq r)
  | _ => false
def td4a : List It := [It.code [0, 0, 1, 1, 1, 1, 1, 1, 1], It.code [1, 0, 1, 1, 1, 1, 1, 1, 1], It.code [1, 1, 1, 1, 1, 1, 1, 1]]
def td4b : List It := [It.code [0, 1, 1, 1, 1, 1, 1, 1, 1], It.code [1, 1, 1, 1, 1, 1, 1, 1, 1]]
def td4 : List It := [It.code [0, 1, 0, 1, 1, 1, 1, 1, 1, 1, 1, 1, 1, 1, 1, 1, 1, 1], It.inBlock 0, It.code [1, 1, 1, 1, 1, 1, 1, 1, 1, 1, 1, 1, 1, 1, 1, 1]]
def tb4 : List It := It.code [0, 0, 1, 0, 1, 1, 1, 1, 1, 1, 1, 1, 1, 1, 1, 1, 1, 1, 1] :: td4
def p4a : Nat → List It → Bool := pauseAt 4 [[0, 0, 1, 1, 1, 1, 1, 1, 1]]
def p4b : Nat → List It → Bool := pauseAt 4 [[0, 1, 1, 1, 1, 1, 1, 1, 1]]
/-- Ahead of the first Sub: a prefix (M events), without a transaction (W1), both (Q1); without a deed. -/
def L4 (n m M W1 Q1 : Nat) (o : Nat → Oj) (p fw fq : Nat → Ev) (a b : Int) (err : SV) (dc : List SV) (ds : List (Nat × SB)) : Core :=
  { tm := tmOf 152 [(5, .ptr 0 0), (7, .ptr 1 0), (8, .ptr 2 0), (12, .ptr 3 0), (13, .ptr 4 0), (14, .ptr 5 0), (15, .ptr 6 0), (16, err)],
    hp := [(0, .box (hS n m o p) 25), (1, .box [.sym .i64 a] 3), (2, .box [.sym .i64 b] 3), (3, .box (hS n M o p) 25), (4, .box [.gs 7, .gs 8] 25), (5, .box [.gs 9, .gs 10] 25), (6, .box dc 25),
      (7, .own 31 2 n (fnR o)), (8, .own 34 8 W1 (fnR fw)), (9, .own 31 2 n (fnR o)), (10, .own 34 8 Q1 (fnR fq))] ++ ds, nx := 13, lim := L0, tc := [] }
def nS : List SV := [.sh (.sl 0 0 fun _ => []), .sh (.sl 0 0 fun _ => [])]
def L4n (n m M W1 Q1 D1 : Nat) (o : Nat → Oj) (p fw fq fd : Nat → Ev) (a b : Int) : Core := L4 n m M W1 Q1 o p fw fq a b .nili [.gs 11, .gs 12] [(11, .own 31 2 n (fnR o)), (12, .own 34 8 D1 (fnR fd))]
def L4s (n m M W1 Q1 : Nat) (o : Nat → Oj) (p fw fq : Nat → Ev) (a b : Int) (s : Sh) : Core := L4 n m M W1 Q1 o p fw fq a b (.sh s) nS []
/-- Behind the Subs. -/
def L10 (n m M W1 : Nat) (o : Nat → Oj) (p fw : Nat → Ev) (a b : Int) : Core :=
  { tm := tmOf 152 [(5, .ptr 0 0), (7, .ptr 1 0), (8, .ptr 2 0), (12, .ptr 3 0), (13, .ptr 4 0)],
    hp := [(0, .box (hS n m o p) 25), (1, .box [.sym .i64 a] 3), (2, .box [.sym .i64 b] 3), (3, .box (hS n M o p) 25), (4, .box (hS n W1 o fw) 25)], nx := 5, lim := L0, tc := [] }
def LH4 (n M : Nat) (o : Nat → Oj) (p : Nat → Ev) (a : Int) (S : Bool) (K : Nat) (q : Nat → Ev) (y i : Int) : Core :=
  { tm := tmOf 152 [(7, .shp 1 1 (fun _ => [.i .i64 a]) 0 0), (12, .ptr 3 0), (20, .test S), (21, .ptr 4 0), (22, .sym .i64 y), (23, .sym .i64 i)],
    hp := [(3, .box (hS n M o p) 25), (4, .box [.gs 5, .gs 6] 25), (5, .own 31 2 n (fnR o)), (6, .own 34 8 K (fnR q))], nx := 7, lim := L0, tc := [] }

theorem a4 (A : Prim) (W : Wd) (L : Lb5) (n m : Nat) (o : Nat → Oj) (p : Nat → Ev) (k a b d : Int) (M W1 Q1 D1 : Nat) (fw fq fd : Nat → Ev) (s : Sh) : runV (C5 A W (spec4 L) stopAll) p4a 300 800 4 [.code []] (start0 152 [.agg [.sl 2 n (fnR o), .sl 8 m (fnR p)], .i .i64 k, .i .i64 a, .i .i64 b, .i .i64 d] L0) [] [⟨4, td4a, L4n n m M W1 Q1 D1 o p fw fq fd a b, []⟩, ⟨4, td4a, L4s n m M W1 Q1 o p fw fq a b s, []⟩] = Tree.node (A.nt (smallB n m)) (Tree.leaf (Fe2.ret (Sh.b true))) (Tree.node (A.nt true) (Tree.leaf (Fe2.ret (Sh.b true))) (Tree.need (roomB n 16) (Tree.need (roomB (L.un k m) 64) (Tree.need (okB Ev m (fnR p)) (Tree.need (roomB n 16) (Tree.need (roomB m 64) (Tree.need (okB Ev (L.un k m) (fnR p)) (Tree.need (roomB n 16) (Tree.need (roomB (L.un k m) 64) (Tree.need (okB Oj n (fnR o)) (Tree.need (okB Ev m (fnR p)) (Tree.need (retsB m (fnR p)) (Tree.node (bigB n m) (Tree.leaf (Fe2.at_ 1 [Eqn.sh (Sh.er 2 125) s, Eqn.sh (Sh.sl 2 n (fnR o)) (Sh.sl 2 n (fnR o)), Eqn.sh (Sh.sl 8 m (fnR p)) (Sh.sl 8 m (fnR p)), Eqn.int a a, Eqn.int b b, Eqn.sh (Sh.sl 2 n (fnR o)) (Sh.sl 2 n (fnR o)), Eqn.sh (Sh.sl 8 (L.un k m) (fnR p)) (Sh.sl 8 M (fnR p)), Eqn.sh (Sh.sl 0 0 fun (x : Nat) => []) (Sh.sl 0 0 fun (x : Nat) => []), Eqn.sh (Sh.sl 0 0 fun (x : Nat) => []) (Sh.sl 0 0 fun (x : Nat) => []), Eqn.nat n n, Eqn.get n (fnR o) (fnR o), Eqn.nat (L.km (keepN a) m (rwAt (fnR p))) W1, Eqn.get (L.km (keepN a) m (rwAt (fnR p))) (fnR (L.kp (keepN a) m (rwAt (fnR p)))) (fnR fw), Eqn.nat n n, Eqn.get n (fnR o) (fnR o), Eqn.nat (L.km (keepN a) (L.un k m) (rwAt (fnR p))) Q1, Eqn.get (L.km (keepN a) (L.un k m) (rwAt (fnR p))) (fnR (L.kp (keepN a) (L.un k m) (rwAt (fnR p)))) (fnR fq)])) (Tree.node (goodB n m (fnR o) (fnR p)) (Tree.node (takeB m (rwAt (fnR p))) (Tree.node (txB m (rwAt (fnR p)) a) (Tree.node (deedB m (rwAt (fnR p)) a d) (Tree.leaf (Fe2.at_ 0 [Eqn.sh (Sh.sl 2 n (fnR o)) (Sh.sl 2 n (fnR o)), Eqn.sh (Sh.sl 8 m (fnR p)) (Sh.sl 8 m (fnR p)), Eqn.int a a, Eqn.int b b, Eqn.sh (Sh.sl 2 n (fnR o)) (Sh.sl 2 n (fnR o)), Eqn.sh (Sh.sl 8 (L.un k m) (fnR p)) (Sh.sl 8 M (fnR p)), Eqn.nat n n, Eqn.get n (fnR o) (fnR o), Eqn.nat (L.km (keepN a) m (rwAt (fnR p))) W1, Eqn.get (L.km (keepN a) m (rwAt (fnR p))) (fnR (L.kp (keepN a) m (rwAt (fnR p)))) (fnR fw), Eqn.nat n n, Eqn.get n (fnR o) (fnR o), Eqn.nat (L.km (keepN a) (L.un k m) (rwAt (fnR p))) Q1, Eqn.get (L.km (keepN a) (L.un k m) (rwAt (fnR p))) (fnR (L.kp (keepN a) (L.un k m) (rwAt (fnR p)))) (fnR fq), Eqn.nat n n, Eqn.get n (fO (fnR o)) (fnR o), Eqn.nat (L.dl m (rwAt (fnR p)) a d) D1, Eqn.get (L.dl m (rwAt (fnR p)) a d) (fnR (L.dp m (rwAt (fnR p)) a d)) (fnR fd)])) (Tree.leaf (Fe2.at_ 1 [Eqn.sh (Sh.er 1 125) s, Eqn.sh (Sh.sl 2 n (fnR o)) (Sh.sl 2 n (fnR o)), Eqn.sh (Sh.sl 8 m (fnR p)) (Sh.sl 8 m (fnR p)), Eqn.int a a, Eqn.int b b, Eqn.sh (Sh.sl 2 n (fnR o)) (Sh.sl 2 n (fnR o)), Eqn.sh (Sh.sl 8 (L.un k m) (fnR p)) (Sh.sl 8 M (fnR p)), Eqn.sh (Sh.sl 0 0 fun (x : Nat) => []) (Sh.sl 0 0 fun (x : Nat) => []), Eqn.sh (Sh.sl 0 0 fun (x : Nat) => []) (Sh.sl 0 0 fun (x : Nat) => []), Eqn.nat n n, Eqn.get n (fnR o) (fnR o), Eqn.nat (L.km (keepN a) m (rwAt (fnR p))) W1, Eqn.get (L.km (keepN a) m (rwAt (fnR p))) (fnR (L.kp (keepN a) m (rwAt (fnR p)))) (fnR fw), Eqn.nat n n, Eqn.get n (fnR o) (fnR o), Eqn.nat (L.km (keepN a) (L.un k m) (rwAt (fnR p))) Q1, Eqn.get (L.km (keepN a) (L.un k m) (rwAt (fnR p))) (fnR (L.kp (keepN a) (L.un k m) (rwAt (fnR p)))) (fnR fq)]))) (Tree.leaf (Fe2.at_ 1 [Eqn.sh (Sh.er 0 125) s, Eqn.sh (Sh.sl 2 n (fnR o)) (Sh.sl 2 n (fnR o)), Eqn.sh (Sh.sl 8 m (fnR p)) (Sh.sl 8 m (fnR p)), Eqn.int a a, Eqn.int b b, Eqn.sh (Sh.sl 2 n (fnR o)) (Sh.sl 2 n (fnR o)), Eqn.sh (Sh.sl 8 (L.un k m) (fnR p)) (Sh.sl 8 M (fnR p)), Eqn.sh (Sh.sl 0 0 fun (x : Nat) => []) (Sh.sl 0 0 fun (x : Nat) => []), Eqn.sh (Sh.sl 0 0 fun (x : Nat) => []) (Sh.sl 0 0 fun (x : Nat) => []), Eqn.nat n n, Eqn.get n (fnR o) (fnR o), Eqn.nat (L.km (keepN a) m (rwAt (fnR p))) W1, Eqn.get (L.km (keepN a) m (rwAt (fnR p))) (fnR (L.kp (keepN a) m (rwAt (fnR p)))) (fnR fw), Eqn.nat n n, Eqn.get n (fnR o) (fnR o), Eqn.nat (L.km (keepN a) (L.un k m) (rwAt (fnR p))) Q1, Eqn.get (L.km (keepN a) (L.un k m) (rwAt (fnR p))) (fnR (L.kp (keepN a) (L.un k m) (rwAt (fnR p)))) (fnR fq)]))) (Tree.leaf (Fe2.at_ 1 [Eqn.sh (Sh.ifc 81 (Sh.pt [Sh.i IntKind.i64 (L.k m (rwAt (fnR p))), Sh.er (L.e m (rwAt (fnR p))) 125])) s, Eqn.sh (Sh.sl 2 n (fnR o)) (Sh.sl 2 n (fnR o)), Eqn.sh (Sh.sl 8 m (fnR p)) (Sh.sl 8 m (fnR p)), Eqn.int a a, Eqn.int b b, Eqn.sh (Sh.sl 2 n (fnR o)) (Sh.sl 2 n (fnR o)), Eqn.sh (Sh.sl 8 (L.un k m) (fnR p)) (Sh.sl 8 M (fnR p)), Eqn.sh (Sh.sl 0 0 fun (x : Nat) => []) (Sh.sl 0 0 fun (x : Nat) => []), Eqn.sh (Sh.sl 0 0 fun (x : Nat) => []) (Sh.sl 0 0 fun (x : Nat) => []), Eqn.nat n n, Eqn.get n (fnR o) (fnR o), Eqn.nat (L.km (keepN a) m (rwAt (fnR p))) W1, Eqn.get (L.km (keepN a) m (rwAt (fnR p))) (fnR (L.kp (keepN a) m (rwAt (fnR p)))) (fnR fw), Eqn.nat n n, Eqn.get n (fnR o) (fnR o), Eqn.nat (L.km (keepN a) (L.un k m) (rwAt (fnR p))) Q1, Eqn.get (L.km (keepN a) (L.un k m) (rwAt (fnR p))) (fnR (L.kp (keepN a) (L.un k m) (rwAt (fnR p)))) (fnR fq)]))) (Tree.leaf (Fe2.at_ 1 [Eqn.sh (Sh.ifc 81 (Sh.pt [Sh.i IntKind.i64 (L.bk n m (fnR o) (fnR p)), Sh.er (L.be n m (fnR o) (fnR p)) 125])) s, Eqn.sh (Sh.sl 2 n (fnR o)) (Sh.sl 2 n (fnR o)), Eqn.sh (Sh.sl 8 m (fnR p)) (Sh.sl 8 m (fnR p)), Eqn.int a a, Eqn.int b b, Eqn.sh (Sh.sl 2 n (fnR o)) (Sh.sl 2 n (fnR o)), Eqn.sh (Sh.sl 8 (L.un k m) (fnR p)) (Sh.sl 8 M (fnR p)), Eqn.sh (Sh.sl 0 0 fun (x : Nat) => []) (Sh.sl 0 0 fun (x : Nat) => []), Eqn.sh (Sh.sl 0 0 fun (x : Nat) => []) (Sh.sl 0 0 fun (x : Nat) => []), Eqn.nat n n, Eqn.get n (fnR o) (fnR o), Eqn.nat (L.km (keepN a) m (rwAt (fnR p))) W1, Eqn.get (L.km (keepN a) m (rwAt (fnR p))) (fnR (L.kp (keepN a) m (rwAt (fnR p)))) (fnR fw), Eqn.nat n n, Eqn.get n (fnR o) (fnR o), Eqn.nat (L.km (keepN a) (L.un k m) (rwAt (fnR p))) Q1, Eqn.get (L.km (keepN a) (L.un k m) (rwAt (fnR p))) (fnR (L.kp (keepN a) (L.un k m) (rwAt (fnR p)))) (fnR fq)])))))))))))))))) := by kernel_rfl
theorem a4n (A : Prim) (W : Wd) (L : Lb5) (n m M W1 Q1 : Nat) (o : Nat → Oj) (p fw fq : Nat → Ev) (a b : Int) (D1 W2 : Nat) (fd g : Nat → Ev) : runV (C5 A W (spec4 L) stopAll) p4b 300 800 4 td4a (L4n n m M W1 Q1 D1 o p fw fq fd a b) [] [⟨4, td4b, L10 n m M W2 o p g a b, []⟩] = Tree.need (okB Oj n (fnR o)) (Tree.need (okB Oj n (fnR o)) (Tree.need (okB Ev M (fnR p)) (Tree.need (okB Ev m (fnR p)) (Tree.node (A.nt (L.sub n M (fnR o) (fnR p) n m (fnR o) (fnR p))) (Tree.leaf (Fe2.ret (Sh.b false))) (Tree.need (okB Oj n (fnR o)) (Tree.need (okB Oj n (fnR o)) (Tree.need (okB Ev W1 (fnR fw)) (Tree.need (okB Ev m (fnR p)) (Tree.node (A.nt (L.sub n W1 (fnR o) (fnR fw) n m (fnR o) (fnR p))) (Tree.leaf (Fe2.ret (Sh.b false))) (Tree.need (okB Oj n (fnR o)) (Tree.need (okB Oj n (fnR o)) (Tree.need (okB Ev Q1 (fnR fq)) (Tree.need (okB Ev M (fnR p)) (Tree.node (A.nt (L.sub n Q1 (fnR o) (fnR fq) n M (fnR o) (fnR p))) (Tree.leaf (Fe2.ret (Sh.b false))) (Tree.need (okB Oj n (fnR o)) (Tree.need (okB Oj n (fnR o)) (Tree.need (okB Ev Q1 (fnR fq)) (Tree.need (okB Ev m (fnR p)) (Tree.node (A.nt (L.sub n Q1 (fnR o) (fnR fq) n m (fnR o) (fnR p))) (Tree.leaf (Fe2.ret (Sh.b false))) (Tree.need (okB Oj n (fnR o)) (Tree.need (okB Oj n (fnR o)) (Tree.need (okB Ev D1 (fnR fd)) (Tree.need (okB Ev m (fnR p)) (Tree.node (A.nt (L.sub n D1 (fnR o) (fnR fd) n m (fnR o) (fnR p))) (Tree.leaf (Fe2.ret (Sh.b false))) (Tree.need (okB Oj n (fnR o)) (Tree.need (okB Oj n (fnR o)) (Tree.need (okB Ev m (fnR p)) (Tree.need (okB Ev m (fnR p)) (Tree.node (A.nt (L.sub n m (fnR o) (fnR p) n m (fnR o) (fnR p))) (Tree.leaf (Fe2.ret (Sh.b false))) (Tree.leaf (Fe2.at_ 0 [Eqn.sh (Sh.sl 2 n (fnR o)) (Sh.sl 2 n (fnR o)), Eqn.sh (Sh.sl 8 m (fnR p)) (Sh.sl 8 m (fnR p)), Eqn.int a a, Eqn.int b b, Eqn.sh (Sh.sl 2 n (fnR o)) (Sh.sl 2 n (fnR o)), Eqn.sh (Sh.sl 8 M (fnR p)) (Sh.sl 8 M (fnR p)), Eqn.sh (Sh.sl 2 n (fnR o)) (Sh.sl 2 n (fnR o)), Eqn.sh (Sh.sl 8 W1 (fnR fw)) (Sh.sl 8 W2 (fnR g))]))))))))))))))))))))))))))))))) := by kernel_rfl
theorem a4e (A : Prim) (W : Wd) (L : Lb5) (n m M W1 Q1 : Nat) (o : Nat → Oj) (p fw fq : Nat → Ev) (a b : Int) (e W2 : Nat) (g : Nat → Ev) : runV (C5 A W (spec4 L) stopAll) p4b 300 800 4 td4a (L4s n m M W1 Q1 o p fw fq a b (.er e 125)) [] [⟨4, td4b, L10 n m M W2 o p g a b, []⟩] = Tree.need (okB Oj n (fnR o)) (Tree.need (okB Oj n (fnR o)) (Tree.need (okB Ev M (fnR p)) (Tree.need (okB Ev m (fnR p)) (Tree.node (A.nt (L.sub n M (fnR o) (fnR p) n m (fnR o) (fnR p))) (Tree.leaf (Fe2.ret (Sh.b false))) (Tree.need (okB Oj n (fnR o)) (Tree.need (okB Oj n (fnR o)) (Tree.need (okB Ev W1 (fnR fw)) (Tree.need (okB Ev m (fnR p)) (Tree.node (A.nt (L.sub n W1 (fnR o) (fnR fw) n m (fnR o) (fnR p))) (Tree.leaf (Fe2.ret (Sh.b false))) (Tree.need (okB Oj n (fnR o)) (Tree.need (okB Oj n (fnR o)) (Tree.need (okB Ev Q1 (fnR fq)) (Tree.need (okB Ev M (fnR p)) (Tree.node (A.nt (L.sub n Q1 (fnR o) (fnR fq) n M (fnR o) (fnR p))) (Tree.leaf (Fe2.ret (Sh.b false))) (Tree.need (okB Oj n (fnR o)) (Tree.need (okB Oj n (fnR o)) (Tree.need (okB Ev Q1 (fnR fq)) (Tree.need (okB Ev m (fnR p)) (Tree.node (A.nt (L.sub n Q1 (fnR o) (fnR fq) n m (fnR o) (fnR p))) (Tree.leaf (Fe2.ret (Sh.b false))) (Tree.need (okB Oj n (fnR o)) (Tree.need (okB Oj n (fnR o)) (Tree.need (okB Ev m (fnR p)) (Tree.need (okB Ev m (fnR p)) (Tree.node (A.nt (L.sub n m (fnR o) (fnR p) n m (fnR o) (fnR p))) (Tree.leaf (Fe2.ret (Sh.b false))) (Tree.leaf (Fe2.at_ 0 [Eqn.sh (Sh.sl 2 n (fnR o)) (Sh.sl 2 n (fnR o)), Eqn.sh (Sh.sl 8 m (fnR p)) (Sh.sl 8 m (fnR p)), Eqn.int a a, Eqn.int b b, Eqn.sh (Sh.sl 2 n (fnR o)) (Sh.sl 2 n (fnR o)), Eqn.sh (Sh.sl 8 M (fnR p)) (Sh.sl 8 M (fnR p)), Eqn.sh (Sh.sl 2 n (fnR o)) (Sh.sl 2 n (fnR o)), Eqn.sh (Sh.sl 8 W1 (fnR fw)) (Sh.sl 8 W2 (fnR g))])))))))))))))))))))))))))) := by kernel_rfl
theorem a4i (A : Prim) (W : Wd) (L : Lb5) (n m M W1 Q1 : Nat) (o : Nat → Oj) (p fw fq : Nat → Ev) (a b : Int) (k1 : Int) (e W2 : Nat) (g : Nat → Ev) : runV (C5 A W (spec4 L) stopAll) p4b 300 800 4 td4a (L4s n m M W1 Q1 o p fw fq a b (.ifc 81 (.pt [.i .i64 k1, .er e 125]))) [] [⟨4, td4b, L10 n m M W2 o p g a b, []⟩] = Tree.need (okB Oj n (fnR o)) (Tree.need (okB Oj n (fnR o)) (Tree.need (okB Ev M (fnR p)) (Tree.need (okB Ev m (fnR p)) (Tree.node (A.nt (L.sub n M (fnR o) (fnR p) n m (fnR o) (fnR p))) (Tree.leaf (Fe2.ret (Sh.b false))) (Tree.need (okB Oj n (fnR o)) (Tree.need (okB Oj n (fnR o)) (Tree.need (okB Ev W1 (fnR fw)) (Tree.need (okB Ev m (fnR p)) (Tree.node (A.nt (L.sub n W1 (fnR o) (fnR fw) n m (fnR o) (fnR p))) (Tree.leaf (Fe2.ret (Sh.b false))) (Tree.need (okB Oj n (fnR o)) (Tree.need (okB Oj n (fnR o)) (Tree.need (okB Ev Q1 (fnR fq)) (Tree.need (okB Ev M (fnR p)) (Tree.node (A.nt (L.sub n Q1 (fnR o) (fnR fq) n M (fnR o) (fnR p))) (Tree.leaf (Fe2.ret (Sh.b false))) (Tree.need (okB Oj n (fnR o)) (Tree.need (okB Oj n (fnR o)) (Tree.need (okB Ev Q1 (fnR fq)) (Tree.need (okB Ev m (fnR p)) (Tree.node (A.nt (L.sub n Q1 (fnR o) (fnR fq) n m (fnR o) (fnR p))) (Tree.leaf (Fe2.ret (Sh.b false))) (Tree.need (okB Oj n (fnR o)) (Tree.need (okB Oj n (fnR o)) (Tree.need (okB Ev m (fnR p)) (Tree.need (okB Ev m (fnR p)) (Tree.node (A.nt (L.sub n m (fnR o) (fnR p) n m (fnR o) (fnR p))) (Tree.leaf (Fe2.ret (Sh.b false))) (Tree.leaf (Fe2.at_ 0 [Eqn.sh (Sh.sl 2 n (fnR o)) (Sh.sl 2 n (fnR o)), Eqn.sh (Sh.sl 8 m (fnR p)) (Sh.sl 8 m (fnR p)), Eqn.int a a, Eqn.int b b, Eqn.sh (Sh.sl 2 n (fnR o)) (Sh.sl 2 n (fnR o)), Eqn.sh (Sh.sl 8 M (fnR p)) (Sh.sl 8 M (fnR p)), Eqn.sh (Sh.sl 2 n (fnR o)) (Sh.sl 2 n (fnR o)), Eqn.sh (Sh.sl 8 W1 (fnR fw)) (Sh.sl 8 W2 (fnR g))])))))))))))))))))))))))))) := by kernel_rfl
theorem a4h (A : Prim) (W : Wd) (L : Lb5) (n m M W1 : Nat) (o : Nat → Oj) (p fw : Nat → Ev) (a b : Int) (K : Nat) (r : Nat → Ev) (S : Bool) (y i : Int) : runU (C5 A W (spec4 L) stopAll) noHold 300 800 4 td4b (L10 n m M W1 o p fw a b) [] [⟨4, td4, LH4 n M o p a S K r y i, []⟩] = Tree.need (okB Ev m (fnR p)) (Tree.need (roomB n 16) (Tree.need (roomB m 64) (Tree.need (okB Ev (L.km (keepN a) m (rwAt (fnR p))) (fnR (L.kp (keepN a) m (rwAt (fnR p))))) (Tree.need (roomB n 16) (Tree.need (roomB (L.km (keepN a) m (rwAt (fnR p))) 64) (Tree.need (okB Ev (L.km (keepN a) m (rwAt (fnR p))) (fnR (L.kp (keepN a) m (rwAt (fnR p))))) (Tree.need (roomB n 16) (Tree.need (roomB (L.km (keepN a) m (rwAt (fnR p))) 64) (Tree.must [Eqn.sh (Sh.sl 2 n (fnR o)) (Sh.sl 2 n (fnR o)), Eqn.sh (Sh.sl 8 m (fnR p)) (Sh.sl 8 m (fnR p)), Eqn.int a a, Eqn.int b b, Eqn.sh (Sh.sl 2 n (fnR o)) (Sh.sl 2 n (fnR o)), Eqn.sh (Sh.sl 8 M (fnR p)) (Sh.sl 8 M (fnR p)), Eqn.sh (Sh.sl 2 n (fnR o)) (Sh.sl 2 n (fnR o)), Eqn.sh (Sh.sl 8 W1 (fnR fw)) (Sh.sl 8 W1 (fnR fw)), Eqn.nat n n, Eqn.fun_ (fnR o) (fnR o), Eqn.nat (L.km (keepN a) m (rwAt (fnR p))) (L.km (keepN a) m (rwAt (fnR p))), Eqn.fun_ (fnR (L.kp (keepN a) m (rwAt (fnR p)))) (fnR (L.kp (keepN a) m (rwAt (fnR p)))), Eqn.nat n n, Eqn.fun_ (fnR o) (fnR o), Eqn.nat (L.km (keepN b) (L.km (keepN a) m (rwAt (fnR p))) (rwAt (fnR (L.kp (keepN a) m (rwAt (fnR p)))))) (L.km (keepN b) (L.km (keepN a) m (rwAt (fnR p))) (rwAt (fnR (L.kp (keepN a) m (rwAt (fnR p)))))), Eqn.fun_ (fnR (L.kp (keepN b) (L.km (keepN a) m (rwAt (fnR p))) (rwAt (fnR (L.kp (keepN a) m (rwAt (fnR p))))))) (fnR (L.kp (keepN b) (L.km (keepN a) m (rwAt (fnR p))) (rwAt (fnR (L.kp (keepN a) m (rwAt (fnR p)))))))] (Tree.need (okB Ev m (fnR p)) (Tree.need (roomB n 16) (Tree.need (roomB m 64) (Tree.need (okB Ev (L.km (keepN a) m (rwAt (fnR p))) (fnR (L.kp (keepN a) m (rwAt (fnR p))))) (Tree.need (roomB n 16) (Tree.need (roomB (L.km (keepN a) m (rwAt (fnR p))) 64) (Tree.must [Eqn.sh (Sh.sl 2 n (fnR o)) (Sh.sl 2 n (fnR o)), Eqn.sh (Sh.sl 8 m (fnR p)) (Sh.sl 8 m (fnR p)), Eqn.int a a, Eqn.int b b, Eqn.sh (Sh.sl 2 n (fnR o)) (Sh.sl 2 n (fnR o)), Eqn.sh (Sh.sl 8 M (fnR p)) (Sh.sl 8 M (fnR p)), Eqn.sh (Sh.sl 2 n (fnR o)) (Sh.sl 2 n (fnR o)), Eqn.sh (Sh.sl 8 W1 (fnR fw)) (Sh.sl 8 W1 (fnR fw)), Eqn.nat n n, Eqn.fun_ (fnR o) (fnR o), Eqn.nat (L.km (keepN a) m (rwAt (fnR p))) (L.km (keepN a) m (rwAt (fnR p))), Eqn.fun_ (fnR (L.kp (keepN a) m (rwAt (fnR p)))) (fnR (L.kp (keepN a) m (rwAt (fnR p)))), Eqn.nat n n, Eqn.fun_ (fnR o) (fnR o), Eqn.nat (L.km (keepN b) (L.km (keepN a) m (rwAt (fnR p))) (rwAt (fnR (L.kp (keepN a) m (rwAt (fnR p)))))) (L.km (keepN b) (L.km (keepN a) m (rwAt (fnR p))) (rwAt (fnR (L.kp (keepN a) m (rwAt (fnR p)))))), Eqn.fun_ (fnR (L.kp (keepN b) (L.km (keepN a) m (rwAt (fnR p))) (rwAt (fnR (L.kp (keepN a) m (rwAt (fnR p))))))) (fnR (L.kp (keepN b) (L.km (keepN a) m (rwAt (fnR p))) (rwAt (fnR (L.kp (keepN a) m (rwAt (fnR p)))))))] (Tree.need (okB Ev m (fnR p)) (Tree.need (roomB n 16) (Tree.need (roomB m 64) (Tree.need (okB Ev (L.km (keepN b) m (rwAt (fnR p))) (fnR (L.kp (keepN b) m (rwAt (fnR p))))) (Tree.need (roomB n 16) (Tree.need (roomB (L.km (keepN b) m (rwAt (fnR p))) 64) (Tree.need (okB Ev (L.km (keepN b) m (rwAt (fnR p))) (fnR (L.kp (keepN b) m (rwAt (fnR p))))) (Tree.need (roomB n 16) (Tree.need (roomB (L.km (keepN b) m (rwAt (fnR p))) 64) (Tree.must [Eqn.sh (Sh.sl 2 n (fnR o)) (Sh.sl 2 n (fnR o)), Eqn.sh (Sh.sl 8 m (fnR p)) (Sh.sl 8 m (fnR p)), Eqn.int a a, Eqn.int b b, Eqn.sh (Sh.sl 2 n (fnR o)) (Sh.sl 2 n (fnR o)), Eqn.sh (Sh.sl 8 M (fnR p)) (Sh.sl 8 M (fnR p)), Eqn.sh (Sh.sl 2 n (fnR o)) (Sh.sl 2 n (fnR o)), Eqn.sh (Sh.sl 8 W1 (fnR fw)) (Sh.sl 8 W1 (fnR fw)), Eqn.nat n n, Eqn.fun_ (fnR o) (fnR o), Eqn.nat (L.km (keepN a) m (rwAt (fnR p))) (L.km (keepN a) m (rwAt (fnR p))), Eqn.fun_ (fnR (L.kp (keepN a) m (rwAt (fnR p)))) (fnR (L.kp (keepN a) m (rwAt (fnR p)))), Eqn.nat n n, Eqn.fun_ (fnR o) (fnR o), Eqn.nat (L.km (keepN b) (L.km (keepN a) m (rwAt (fnR p))) (rwAt (fnR (L.kp (keepN a) m (rwAt (fnR p)))))) (L.km (keepN b) (L.km (keepN a) m (rwAt (fnR p))) (rwAt (fnR (L.kp (keepN a) m (rwAt (fnR p)))))), Eqn.fun_ (fnR (L.kp (keepN b) (L.km (keepN a) m (rwAt (fnR p))) (rwAt (fnR (L.kp (keepN a) m (rwAt (fnR p))))))) (fnR (L.kp (keepN b) (L.km (keepN a) m (rwAt (fnR p))) (rwAt (fnR (L.kp (keepN a) m (rwAt (fnR p))))))), Eqn.nat n n, Eqn.fun_ (fnR o) (fnR o), Eqn.nat (L.km (keepN b) m (rwAt (fnR p))) (L.km (keepN b) m (rwAt (fnR p))), Eqn.fun_ (fnR (L.kp (keepN b) m (rwAt (fnR p)))) (fnR (L.kp (keepN b) m (rwAt (fnR p)))), Eqn.nat n n, Eqn.fun_ (fnR o) (fnR o), Eqn.nat (L.km (keepN a) (L.km (keepN b) m (rwAt (fnR p))) (rwAt (fnR (L.kp (keepN b) m (rwAt (fnR p)))))) (L.km (keepN a) (L.km (keepN b) m (rwAt (fnR p))) (rwAt (fnR (L.kp (keepN b) m (rwAt (fnR p)))))), Eqn.fun_ (fnR (L.kp (keepN a) (L.km (keepN b) m (rwAt (fnR p))) (rwAt (fnR (L.kp (keepN b) m (rwAt (fnR p))))))) (fnR (L.kp (keepN a) (L.km (keepN b) m (rwAt (fnR p))) (rwAt (fnR (L.kp (keepN b) m (rwAt (fnR p)))))))] (Tree.need (okB Ev m (fnR p)) (Tree.need (roomB n 16) (Tree.need (roomB m 64) (Tree.need (okB Ev (L.km (keepN b) m (rwAt (fnR p))) (fnR (L.kp (keepN b) m (rwAt (fnR p))))) (Tree.need (roomB n 16) (Tree.need (roomB (L.km (keepN b) m (rwAt (fnR p))) 64) (Tree.must [Eqn.sh (Sh.sl 2 n (fnR o)) (Sh.sl 2 n (fnR o)), Eqn.sh (Sh.sl 8 m (fnR p)) (Sh.sl 8 m (fnR p)), Eqn.int a a, Eqn.int b b, Eqn.sh (Sh.sl 2 n (fnR o)) (Sh.sl 2 n (fnR o)), Eqn.sh (Sh.sl 8 M (fnR p)) (Sh.sl 8 M (fnR p)), Eqn.sh (Sh.sl 2 n (fnR o)) (Sh.sl 2 n (fnR o)), Eqn.sh (Sh.sl 8 W1 (fnR fw)) (Sh.sl 8 W1 (fnR fw)), Eqn.nat n n, Eqn.fun_ (fnR o) (fnR o), Eqn.nat (L.km (keepN a) m (rwAt (fnR p))) (L.km (keepN a) m (rwAt (fnR p))), Eqn.fun_ (fnR (L.kp (keepN a) m (rwAt (fnR p)))) (fnR (L.kp (keepN a) m (rwAt (fnR p)))), Eqn.nat n n, Eqn.fun_ (fnR o) (fnR o), Eqn.nat (L.km (keepN b) (L.km (keepN a) m (rwAt (fnR p))) (rwAt (fnR (L.kp (keepN a) m (rwAt (fnR p)))))) (L.km (keepN b) (L.km (keepN a) m (rwAt (fnR p))) (rwAt (fnR (L.kp (keepN a) m (rwAt (fnR p)))))), Eqn.fun_ (fnR (L.kp (keepN b) (L.km (keepN a) m (rwAt (fnR p))) (rwAt (fnR (L.kp (keepN a) m (rwAt (fnR p))))))) (fnR (L.kp (keepN b) (L.km (keepN a) m (rwAt (fnR p))) (rwAt (fnR (L.kp (keepN a) m (rwAt (fnR p))))))), Eqn.nat n n, Eqn.fun_ (fnR o) (fnR o), Eqn.nat (L.km (keepN b) m (rwAt (fnR p))) (L.km (keepN b) m (rwAt (fnR p))), Eqn.fun_ (fnR (L.kp (keepN b) m (rwAt (fnR p)))) (fnR (L.kp (keepN b) m (rwAt (fnR p)))), Eqn.nat n n, Eqn.fun_ (fnR o) (fnR o), Eqn.nat (L.km (keepN a) (L.km (keepN b) m (rwAt (fnR p))) (rwAt (fnR (L.kp (keepN b) m (rwAt (fnR p)))))) (L.km (keepN a) (L.km (keepN b) m (rwAt (fnR p))) (rwAt (fnR (L.kp (keepN b) m (rwAt (fnR p)))))), Eqn.fun_ (fnR (L.kp (keepN a) (L.km (keepN b) m (rwAt (fnR p))) (rwAt (fnR (L.kp (keepN b) m (rwAt (fnR p))))))) (fnR (L.kp (keepN a) (L.km (keepN b) m (rwAt (fnR p))) (rwAt (fnR (L.kp (keepN b) m (rwAt (fnR p)))))))] (Tree.need (okB Ev m (fnR p)) (Tree.need (roomB n 16) (Tree.need (roomB m 64) (Tree.need (okB Oj n (fnR o)) (Tree.need (okB Oj n (fnR o)) (Tree.need (okB Ev (L.km (keepN b) (L.km (keepN a) m (rwAt (fnR p))) (rwAt (fnR (L.kp (keepN a) m (rwAt (fnR p)))))) (fnR (L.kp (keepN b) (L.km (keepN a) m (rwAt (fnR p))) (rwAt (fnR (L.kp (keepN a) m (rwAt (fnR p)))))))) (Tree.need (okB Ev (L.km (keepN a) (L.km (keepN b) m (rwAt (fnR p))) (rwAt (fnR (L.kp (keepN b) m (rwAt (fnR p)))))) (fnR (L.kp (keepN a) (L.km (keepN b) m (rwAt (fnR p))) (rwAt (fnR (L.kp (keepN b) m (rwAt (fnR p)))))))) (Tree.node (L.same n (L.km (keepN b) (L.km (keepN a) m (rwAt (fnR p))) (rwAt (fnR (L.kp (keepN a) m (rwAt (fnR p)))))) (fnR o) (fnR (L.kp (keepN b) (L.km (keepN a) m (rwAt (fnR p))) (rwAt (fnR (L.kp (keepN a) m (rwAt (fnR p))))))) n (L.km (keepN a) (L.km (keepN b) m (rwAt (fnR p))) (rwAt (fnR (L.kp (keepN b) m (rwAt (fnR p)))))) (fnR o) (fnR (L.kp (keepN a) (L.km (keepN b) m (rwAt (fnR p))) (rwAt (fnR (L.kp (keepN b) m (rwAt (fnR p)))))))) (Tree.need (okB Oj n (fnR o)) (Tree.need (okB Oj n (fnR o)) (Tree.need (okB Ev (L.km (keepN b) (L.km (keepN a) m (rwAt (fnR p))) (rwAt (fnR (L.kp (keepN a) m (rwAt (fnR p)))))) (fnR (L.kp (keepN b) (L.km (keepN a) m (rwAt (fnR p))) (rwAt (fnR (L.kp (keepN a) m (rwAt (fnR p)))))))) (Tree.need (okB Ev (L.km (keepA a b) m (rwAt (fnR p))) (fnR (L.kp (keepA a b) m (rwAt (fnR p))))) (Tree.need (okB Oj n (fnR o)) (Tree.need (okB Oj n (fnR o)) (Tree.need (okB Ev W1 (fnR fw)) (Tree.need (okB Ev M (fnR p)) (Tree.node (L.sub n W1 (fnR o) (fnR fw) n M (fnR o) (fnR p)) (Tree.need (okB Oj n (fnR o)) (Tree.need (okB Oj n (fnR o)) (Tree.need (okB Ev M (fnR p)) (Tree.need (okB Ev W1 (fnR fw)) (Tree.node (L.sub n M (fnR o) (fnR p) n W1 (fnR o) (fnR fw)) (Tree.need (okB Oj n (fnR o)) (Tree.need (okB Oj n (fnR o)) (Tree.need (okB Ev W1 (fnR fw)) (Tree.need (okB Ev M (fnR p)) (Tree.node (A.nt (L.same n W1 (fnR o) (fnR fw) n M (fnR o) (fnR p))) (Tree.leaf (Fe2.ret (Sh.b false))) (Tree.need (okB Ev m (fnR p)) (Tree.need (roomB n 16) (Tree.need (roomB m 64) (Tree.leaf (Fe2.at_ 0 [Eqn.sh (Sh.pt [Sh.i IntKind.i64 a]) (Sh.pt [Sh.i IntKind.i64 a]), Eqn.nat 1 1, Eqn.bool true true, Eqn.bool (L.same n (L.km (keepN b) (L.km (keepN a) m (rwAt (fnR p))) (rwAt (fnR (L.kp (keepN a) m (rwAt (fnR p)))))) (fnR o) (fnR (L.kp (keepN b) (L.km (keepN a) m (rwAt (fnR p))) (rwAt (fnR (L.kp (keepN a) m (rwAt (fnR p))))))) n (L.km (keepA a b) m (rwAt (fnR p))) (fnR o) (fnR (L.kp (keepA a b) m (rwAt (fnR p))))) S, Eqn.int (Int.ofNat 0) y, Eqn.int (Int.ofNat 0) i, Eqn.sh (Sh.sl 2 n (fnR o)) (Sh.sl 2 n (fnR o)), Eqn.sh (Sh.sl 8 M (fnR p)) (Sh.sl 8 M (fnR p)), Eqn.nat n n, Eqn.get n (fnR o) (fnR o), Eqn.nat (L.km (keepB a) m (rwAt (fnR p))) K, Eqn.get (L.km (keepB a) m (rwAt (fnR p))) (fnR (L.kp (keepB a) m (rwAt (fnR p)))) (fnR r)])))))))))) (Tree.need (okB Ev m (fnR p)) (Tree.need (roomB n 16) (Tree.need (roomB m 64) (Tree.leaf (Fe2.at_ 0 [Eqn.sh (Sh.pt [Sh.i IntKind.i64 a]) (Sh.pt [Sh.i IntKind.i64 a]), Eqn.nat 1 1, Eqn.bool true true, Eqn.bool (L.same n (L.km (keepN b) (L.km (keepN a) m (rwAt (fnR p))) (rwAt (fnR (L.kp (keepN a) m (rwAt (fnR p)))))) (fnR o) (fnR (L.kp (keepN b) (L.km (keepN a) m (rwAt (fnR p))) (rwAt (fnR (L.kp (keepN a) m (rwAt (fnR p))))))) n (L.km (keepA a b) m (rwAt (fnR p))) (fnR o) (fnR (L.kp (keepA a b) m (rwAt (fnR p))))) S, Eqn.int (Int.ofNat 0) y, Eqn.int (Int.ofNat 0) i, Eqn.sh (Sh.sl 2 n (fnR o)) (Sh.sl 2 n (fnR o)), Eqn.sh (Sh.sl 8 M (fnR p)) (Sh.sl 8 M (fnR p)), Eqn.nat n n, Eqn.get n (fnR o) (fnR o), Eqn.nat (L.km (keepB a) m (rwAt (fnR p))) K, Eqn.get (L.km (keepB a) m (rwAt (fnR p))) (fnR (L.kp (keepB a) m (rwAt (fnR p)))) (fnR r)])))))))))) (Tree.need (okB Ev m (fnR p)) (Tree.need (roomB n 16) (Tree.need (roomB m 64) (Tree.leaf (Fe2.at_ 0 [Eqn.sh (Sh.pt [Sh.i IntKind.i64 a]) (Sh.pt [Sh.i IntKind.i64 a]), Eqn.nat 1 1, Eqn.bool true true, Eqn.bool (L.same n (L.km (keepN b) (L.km (keepN a) m (rwAt (fnR p))) (rwAt (fnR (L.kp (keepN a) m (rwAt (fnR p)))))) (fnR o) (fnR (L.kp (keepN b) (L.km (keepN a) m (rwAt (fnR p))) (rwAt (fnR (L.kp (keepN a) m (rwAt (fnR p))))))) n (L.km (keepA a b) m (rwAt (fnR p))) (fnR o) (fnR (L.kp (keepA a b) m (rwAt (fnR p))))) S, Eqn.int (Int.ofNat 0) y, Eqn.int (Int.ofNat 0) i, Eqn.sh (Sh.sl 2 n (fnR o)) (Sh.sl 2 n (fnR o)), Eqn.sh (Sh.sl 8 M (fnR p)) (Sh.sl 8 M (fnR p)), Eqn.nat n n, Eqn.get n (fnR o) (fnR o), Eqn.nat (L.km (keepB a) m (rwAt (fnR p))) K, Eqn.get (L.km (keepB a) m (rwAt (fnR p))) (fnR (L.kp (keepB a) m (rwAt (fnR p)))) (fnR r)])))))))))))))) (Tree.need (okB Oj n (fnR o)) (Tree.need (okB Oj n (fnR o)) (Tree.need (okB Ev W1 (fnR fw)) (Tree.need (okB Ev M (fnR p)) (Tree.node (L.sub n W1 (fnR o) (fnR fw) n M (fnR o) (fnR p)) (Tree.need (okB Oj n (fnR o)) (Tree.need (okB Oj n (fnR o)) (Tree.need (okB Ev M (fnR p)) (Tree.need (okB Ev W1 (fnR fw)) (Tree.node (L.sub n M (fnR o) (fnR p) n W1 (fnR o) (fnR fw)) (Tree.need (okB Oj n (fnR o)) (Tree.need (okB Oj n (fnR o)) (Tree.need (okB Ev W1 (fnR fw)) (Tree.need (okB Ev M (fnR p)) (Tree.node (A.nt (L.same n W1 (fnR o) (fnR fw) n M (fnR o) (fnR p))) (Tree.leaf (Fe2.ret (Sh.b false))) (Tree.need (okB Ev m (fnR p)) (Tree.need (roomB n 16) (Tree.need (roomB m 64) (Tree.leaf (Fe2.at_ 0 [Eqn.sh (Sh.pt [Sh.i IntKind.i64 a]) (Sh.pt [Sh.i IntKind.i64 a]), Eqn.nat 1 1, Eqn.bool true true, Eqn.bool false S, Eqn.int (Int.ofNat 0) y, Eqn.int (Int.ofNat 0) i, Eqn.sh (Sh.sl 2 n (fnR o)) (Sh.sl 2 n (fnR o)), Eqn.sh (Sh.sl 8 M (fnR p)) (Sh.sl 8 M (fnR p)), Eqn.nat n n, Eqn.get n (fnR o) (fnR o), Eqn.nat (L.km (keepB a) m (rwAt (fnR p))) K, Eqn.get (L.km (keepB a) m (rwAt (fnR p))) (fnR (L.kp (keepB a) m (rwAt (fnR p)))) (fnR r)])))))))))) (Tree.need (okB Ev m (fnR p)) (Tree.need (roomB n 16) (Tree.need (roomB m 64) (Tree.leaf (Fe2.at_ 0 [Eqn.sh (Sh.pt [Sh.i IntKind.i64 a]) (Sh.pt [Sh.i IntKind.i64 a]), Eqn.nat 1 1, Eqn.bool true true, Eqn.bool false S, Eqn.int (Int.ofNat 0) y, Eqn.int (Int.ofNat 0) i, Eqn.sh (Sh.sl 2 n (fnR o)) (Sh.sl 2 n (fnR o)), Eqn.sh (Sh.sl 8 M (fnR p)) (Sh.sl 8 M (fnR p)), Eqn.nat n n, Eqn.get n (fnR o) (fnR o), Eqn.nat (L.km (keepB a) m (rwAt (fnR p))) K, Eqn.get (L.km (keepB a) m (rwAt (fnR p))) (fnR (L.kp (keepB a) m (rwAt (fnR p)))) (fnR r)])))))))))) (Tree.need (okB Ev m (fnR p)) (Tree.need (roomB n 16) (Tree.need (roomB m 64) (Tree.leaf (Fe2.at_ 0 [Eqn.sh (Sh.pt [Sh.i IntKind.i64 a]) (Sh.pt [Sh.i IntKind.i64 a]), Eqn.nat 1 1, Eqn.bool true true, Eqn.bool false S, Eqn.int (Int.ofNat 0) y, Eqn.int (Int.ofNat 0) i, Eqn.sh (Sh.sl 2 n (fnR o)) (Sh.sl 2 n (fnR o)), Eqn.sh (Sh.sl 8 M (fnR p)) (Sh.sl 8 M (fnR p)), Eqn.nat n n, Eqn.get n (fnR o) (fnR o), Eqn.nat (L.km (keepB a) m (rwAt (fnR p))) K, Eqn.get (L.km (keepB a) m (rwAt (fnR p))) (fnR (L.kp (keepB a) m (rwAt (fnR p)))) (fnR r)]))))))))))))))))))))))))))))))))))))))))))))))))))) := by kernel_rfl
theorem b4 (A : Prim) (W : Wd) (L : Lb5) (n M K : Nat) (o : Nat → Oj) (p r : Nat → Ev) (a : Int) (S : Bool) (y i y1 y2 i' : Int) : runU (C5 A W (spec4 L) stopAll) noHold 300 800 4 tb4 (LH4 n M o p a S K r y i) [] [⟨4, td4, LH4 n M o p a S K r y1 i', []⟩] = Tree.node (A.lt i (A.ofN M)) (Tree.need (A.inB i M) (Tree.node (A.eq (p (A.toN i)).tx a) (Tree.leaf (Fe2.at_ 0 [Eqn.nat 1 1, Eqn.fun_ (fun (x : Nat) => [Sh.i IntKind.i64 a]) fun (x : Nat) => [Sh.i IntKind.i64 a], Eqn.nat 0 0, Eqn.bool S S, Eqn.int (A.add IntKind.i64 y (Int.ofNat 1)) y1, Eqn.int (A.add IntKind.i64 i (Int.ofNat 1)) i', Eqn.sh (Sh.sl 2 n (fnR o)) (Sh.sl 2 n (fnR o)), Eqn.sh (Sh.sl 8 M (fnR p)) (Sh.sl 8 M (fnR p)), Eqn.nat n n, Eqn.get n (fnR o) (fnR o), Eqn.nat K K, Eqn.get K (fnR r) (fnR r)])) (Tree.leaf (Fe2.at_ 0 [Eqn.nat 1 1, Eqn.fun_ (fun (x : Nat) => [Sh.i IntKind.i64 a]) fun (x : Nat) => [Sh.i IntKind.i64 a], Eqn.nat 0 0, Eqn.bool S S, Eqn.int y y1, Eqn.int (A.add IntKind.i64 i (Int.ofNat 1)) i', Eqn.sh (Sh.sl 2 n (fnR o)) (Sh.sl 2 n (fnR o)), Eqn.sh (Sh.sl 8 M (fnR p)) (Sh.sl 8 M (fnR p)), Eqn.nat n n, Eqn.get n (fnR o) (fnR o), Eqn.nat K K, Eqn.get K (fnR r) (fnR r)])))) (Tree.node S (Tree.need (roomB n 16) (Tree.need (roomB (L.un y K) 64) (Tree.need (okB Ev M (fnR p)) (Tree.need (roomB n 16) (Tree.need (roomB M 64) (Tree.need (okB Oj n (fnR o)) (Tree.need (okB Oj n (fnR o)) (Tree.need (okB Ev (L.un y K) (fnR r)) (Tree.need (okB Ev (L.km (keepB a) M (rwAt (fnR p))) (fnR (L.kp (keepB a) M (rwAt (fnR p))))) (Tree.leaf (Fe2.ret (Sh.b (L.same n (L.un y K) (fnR o) (fnR r) n (L.km (keepB a) M (rwAt (fnR p))) (fnR o) (fnR (L.kp (keepB a) M (rwAt (fnR p))))))))))))))))) (Tree.leaf (Fe2.ret (Sh.b false)))) := by kernel_rfl
end Go.Proofs
namespace Go.Proofs
open Go Go.Sx Go.Pl
def F3 : List Sh → Tree Sh
  | [.agg [.sl 2 n0 g0, .sl 8 m0 h0], .agg [.sl 2 n1 g1, .sl 8 m1 h1], .i .i64 _, .i .i64 _, .sl 1 k q] => .need (okB Oj n0 g0) (.need (okB Ev m0 h0) (.need (okB Oj n1 g1) (.need (okB Ev m1 h1) (.need (okB Int k q) (.leaf (.b true))))))
  | _ => .fail
theorem okB_gmO {n m : Nat} {g : Nat → Oj} (h : m ≤ n + 1) : okB Oj m (gmO n g) = true := okB_of (o := upO n g) fun j hj => gmO_at j (by omega)
theorem okB_gmE {n m : Nat} {g : Nat → Ev} (h : m ≤ n + 1) : okB Ev m (gmE n g) = true := okB_of (o := upE n g) fun j hj => gmE_at j (by omega)
theorem rw_gmE {n : Nat} {h : Nat → Ev} {j : Nat} (hj : j < n) : rwAt (gmE n h) j = h j := by
  rw [rwAt, gmE_at j (by omega)]
  simp [fnR, Row.get_put, upE, hj]
theorem upN_le (x : Int) (m : Nat) : upN x m ≤ m := by unfold upN; omega
theorem pre3 {n0 m0 : Nat} {g0 : Nat → Oj} {h0 : Nat → Ev} {x : Int} : sameHB n0 (upN x m0) (gmO n0 g0) (gmE m0 h0) n0 (upN x m0) (fO (fnR g0)) (fE (fnR h0)) = true := by
  have := upN_le x m0
  refine sameHB_true (lst_congr fun j hj => ?_) (lst_congr fun j hj => ?_)
  · rw [gmO_at j (by omega), fO_fnR]
    simp [fnR, upO, hj]
  · rw [gmE_at j (by omega), fE_fnR]
    have : j < m0 := by omega
    simp [fnR, upE, this]
theorem wit3 {n0 m0 : Nat} {g0 : Nat → Oj} {h0 : Nat → Ev} {y : Int} : sameHB n0 (len (keptF (fun _ e => !(e.tx == y)) (rwAt (gmE m0 h0)) m0)) (gmO n0 g0) (fnR (nth (keptF (fun _ e => !(e.tx == y)) (rwAt (gmE m0 h0)) m0))) n0 (len (keptF (kp19 [y] false) (rwAt (fnR h0)) m0)) (fO (fnR g0)) (fnR (nth (keptF (kp19 [y] false) (rwAt (fnR h0)) m0))) = true := by
  refine sameHB_true (lst_congr fun j hj => ?_) ?_
  · rw [gmO_at j (by omega), fO_fnR]
    simp [fnR, upO, hj]
  · rw [lst_kept, lst_kept, rwAt_fnR, keptF_congr (p := rwAt (gmE m0 h0)) (p' := h0) fun j hj => rw_gmE hj]
    refine keptF_ext fun i e => ?_
    unfold kp19 hasB
    by_cases h : e.tx = y <;> simp [h]
theorem O3 : FnOK Tryd.prog (gls5 W5) 3 F3 := by
  refine fnOK_S (C := C5 prim W5 spec3 stopAll) (C5.ok _ _) (fn := Tryd.f3) (by kernel_rfl) (by kernel_rfl) fun H w shs args φ hrep h => ?_
  have hn : Tryd.f3.ntmps = 159 := by kernel_rfl
  unfold F3 at h
  split at h
  · rename_i n0 g0 m0 h0 n1 g1 m1 h1 x y k q
    obtain ⟨q1, q2, q3, q4, q5, hφ⟩ := h
    have hφ : φ (.b true) := hφ
    match args, hrep with
    | [v0, v1, v2, v3, v4], ⟨r0, r1, r2, r3, r4, _⟩ =>
      rw [hn]
      refine ⟨[.agg [.sl 2 n0 (fnR (rwAt (α := Oj) g0)), .sl 8 m0 (fnR (rwAt (α := Ev) h0))], .agg [.sl 2 n1 (fnR (rwAt (α := Oj) g1)), .sl 8 m1 (fnR (rwAt (α := Ev) h1))], .i .i64 x, .i .i64 y, .sl 1 k (fnR (rwAt (α := Int) q))], ⟨rep_agg_rows2 r0 q1 q2, rep_agg_rows2 r1 q3 q4, r2, r3, rep_rows r4 q5, trivial⟩, L0, ?_⟩
      generalize rwAt (α := Oj) g0 = g0
      generalize rwAt (α := Ev) h0 = h0
      generalize rwAt (α := Oj) g1 = g1
      generalize rwAt (α := Ev) h1 = h1
      generalize rwAt (α := Int) q = q
      refine goesS_runToM (C5.ok _ _) (fok3 _) (hold := hold17) (m := 300) (n := 400) (ts := [⟨3, td17, L17 n0 m0 n1 m1 k (n0 + 1) (m0 + 1) g0 g1 (upO n0 g0) h0 h1 (upE m0 h0) q (gmO n0 g0) (gmE m0 h0), []⟩]) ?_
      rw [a3 prim W5 n0 m0 n1 m1 k (n0 + 1) (m0 + 1) g0 g1 (upO n0 g0) h0 h1 (upE m0 h0) q x y (gmO n0 g0) (gmE m0 h0), meetsE_eq]
      refine ⟨fun _ => hφ, fun c1 => ⟨fun _ => hφ, fun _ => ⟨fun _ => hφ, fun c3 => ⟨fun _ => hφ, fun _ => ?_⟩⟩⟩⟩
      have c1 : smallB n0 m0 = true := by simpa [prim_nt] using c1
      simp [smallB] at c1
      have c3 : k ≤ 50 := by simp [prim_lt, prim_ofN] at c3; omega
      obtain ⟨s1, s2⟩ := c1
      have hup := upN_le x m0
      have last := go17m (H0 := H) (w0 := w) (n1 := n1) (m1 := m1) (g0 := g0) (h0 := h0) (g1 := g1) (h1 := h1) (q := q) s1 s2 (k := k) (by omega) hφ
      have up (a b : Nat) (h : a ≤ b) : prim.upTo (prim.ofN a) b = true := by simp [prim_upTo, prim_ofN]; omega
      repeat' (first
        | exact trivial
        | exact last
        | exact okB_put _ _
        | exact pre3
        | exact wit3
        | exact okB_gmO (by omega)
        | exact okB_gmE (by omega)
        | exact room_le (by omega) (by omega)
        | exact up _ _ (by omega)
        | exact rfl
        | refine And.intro ?_ ?_
        | refine Exists.intro _ (And.intro rfl ?_))
      all_goals first
        | exact up n0 (n0 + 1) (by omega)
        | exact up m0 (m0 + 1) (by omega)
        | exact room_le (n := n0) (by omega) (by omega)
        | exact room_le (n := m0) (by omega) (by omega)
        | exact room_le (n := upN x m0) (by omega) (by omega)
        | exact proom_le (n := n0 + 1) (by omega) (by omega)
        | exact proom_le (n := m0 + 1) (by omega) (by omega)
        | exact okB_gmO (n := n0) (m := n0) (by omega)
        | exact okB_gmE (n := m0) (m := m0) (by omega)
        | exact okB_gmE (n := m0) (m := upN x m0) (by omega)
  · exact h.elim
end Go.Proofs
namespace Go.Pl
open Go Go.Sx Go.Proofs
def evs (m : Nat) (p : Nat → Ev) : List Ev := (List.range m).map p
theorem lst_evs (m : Nat) (p : Nat → Ev) : lst Ev m (fnR p) = evs m p := lst_put p m
theorem evs_succ (m : Nat) (p : Nat → Ev) : evs (m + 1) p = evs m p ++ [p m] := by simp [evs, List.range_succ]
theorem evs_nth (l : List Ev) : evs (len l) (nth l) = l := range_nth l
theorem evs_len (m : Nat) (p : Nat → Ev) : (evs m p).length = m := by simp [evs]
theorem keptF_filter {K : Ev → Bool} {P : Nat → Ev → Bool} (h : ∀ i e, P i e = K e) (p : Nat → Ev) : ∀ m, keptF P p m = (evs m p).filter K
  | 0 => rfl
  | m + 1 => by
    simp only [keptF, evs_succ, List.filter_append, ← keptF_filter h p m, h]
    cases hk : K (p m) <;> simp [hk]
theorem keptF_sub (P : Nat → Ev → Bool) (p : Nat → Ev) : ∀ m, (keptF P p m).Sublist (evs m p)
  | 0 => List.Sublist.refl _
  | m + 1 => by
    simp only [keptF, evs_succ]
    cases P m (p m)
    · exact (keptF_sub P p m).trans (List.sublist_append_left _ _)
    · exact (keptF_sub P p m).append (List.Sublist.refl _)
theorem evs_pre {M m : Nat} (h : M ≤ m) (p : Nat → Ev) : evs m p = evs M p ++ (List.range (m - M)).map fun j => p (M + j) := by
  unfold evs
  rw [show m = M + (m - M) by omega, List.range_add, List.map_append, List.map_map]
  simp only [Nat.add_sub_cancel_left]
  rfl
theorem evs_sub {M m : Nat} (h : M ≤ m) (p : Nat → Ev) : (evs M p).Sublist (evs m p) := by
  rw [evs_pre h]; exact List.sublist_append_left _ _
theorem evs_cons (r : Nat) (q : Nat → Ev) : (List.range (r + 1)).map q = q 0 :: (List.range r).map (dropG 1 q) := by
  rw [List.range_succ_eq_map, List.map_cons, List.map_map]
  congr 1
  refine List.map_congr_left fun i _ => ?_
  show q (i + 1) = q (1 + i)
  rw [Nat.add_comm]
theorem subB_iff (p : Nat → Ev) : ∀ k i q r, subB p k i q r = true ↔ ((List.range r).map q).Sublist ((List.range k).map fun j => p (i + j))
  | 0, i, q, r => by
    simp only [subB]
    cases r with
    | zero => simp
    | succ r => simp [List.range_succ_eq_map]
  | k + 1, i, q, r => by
    have e : (List.range (k + 1)).map (fun j => p (i + j)) = p i :: (List.range k).map (fun j => p (i + 1 + j)) := by
      rw [List.range_succ_eq_map, List.map_cons, List.map_map]
      congr 1
      refine List.map_congr_left fun j _ => ?_
      show p (i + (j + 1)) = _
      congr 1; omega
    rw [e]
    simp only [subB]
    cases r with
    | zero => simp [subB_none]
    | succ r =>
      rw [evs_cons]
      by_cases h : q 0 = p i
      · have hb : (decide (0 < r + 1) && evEq (q 0) (p i)) = true := by simp [evEq, h]
        rw [hb]
        simp only [cond_true, Nat.add_sub_cancel]
        rw [subB_iff p k (i + 1) (dropG 1 q) r, h, List.cons_sublist_cons]
      · have hb : (decide (0 < r + 1) && evEq (q 0) (p i)) = false := by simp [evEq, h]
        rw [hb]
        simp only [cond_false]
        rw [subB_iff p k (i + 1) q (r + 1), evs_cons, List.sublist_cons_iff]
        refine ⟨fun h => .inl h, fun h' => ?_⟩
        rcases h' with h' | ⟨r', h1, h2⟩
        · exact h'
        · exact (h (List.cons.inj h1).1).elim
theorem subHB_iff {n m n' m' : Nat} {o o' : Nat → Oj} {p p' : Nat → Ev} : subHB n m (fnR o) (fnR p) n' m' (fnR o') (fnR p') = true ↔ lst Oj n (fnR o) = lst Oj n' (fnR o') ∧ (evs m p).Sublist (evs m' p') := by
  unfold subHB
  rw [Bool.and_eq_true, rwAt_fnR, rwAt_fnR, subB_iff]
  simp only [Nat.zero_add]
  exact and_congr (by simp [sameL]) Iff.rfl
theorem subHB_true {n m m' : Nat} {o : Nat → Oj} {p p' : Nat → Ev} (h : (evs m p).Sublist (evs m' p')) : subHB n m (fnR o) (fnR p) n m' (fnR o) (fnR p') = true := subHB_iff.2 ⟨rfl, h⟩
theorem sameHB_evs {n m m' : Nat} {o : Nat → Oj} {p p' : Nat → Ev} (h : evs m p = evs m' p') : sameHB n m (fnR o) (fnR p) n m' (fnR o) (fnR p') = true :=
  sameHB_true rfl (by rw [lst_evs, lst_evs, h])
/-- With it, how many events of a transaction there are. -/
def cntF (p : Nat → Ev) (a : Int) (i : Nat) : Nat := (keptF (keepB a) p i).length
end Go.Pl
namespace Go.Proofs
open Go Go.Sx Go.Pl
theorem goesS_runUM {P : Program} {C : Ctx} {H0 : Mem} {w0 : World} (hC : CtxOK P C) (hF : FnsOK P C) {hold : Nat → Bool} {m n g : Nat} {td : List It} {c : Core} {stk : List Fr} {ts : List Tgt} {R : Hp → Prop} {φ : Sh → Prop}
    (h : MeetsE (Fe2OK P C (K0 H0 w0) ts R φ) (runU C hold m n g td c stk ts)) : GoesS P C (K0 H0 w0) g td c stk R φ := by
  rw [meetsE_eq] at h
  exact goesS_runU hC hF h
theorem goesS_runVM {P : Program} {C : Ctx} {H0 : Mem} {w0 : World} (hC : CtxOK P C) (hF : FnsOK P C) {pause : Nat → List It → Bool} {m n g : Nat} {td : List It} {c : Core} {stk : List Fr} {ts : List Tgt} {R : Hp → Prop} {φ : Sh → Prop}
    (h : MeetsE (Fe2OK P C (K0 H0 w0) ts R φ) (runV C pause m n g td c stk ts)) : GoesS P C (K0 H0 w0) g td c stk R φ := by
  rw [meetsE_eq] at h
  exact goesS_runV hC hF h
theorem O15g : FnOK Tryd.prog (gls5 W5) 15 (G15 L5) := O15
theorem O17g : FnOK Tryd.prog (gls5 W5) 17 (G17 L5) := O17
theorem O12g : FnOK Tryd.prog (gls5 W5) 12 (G12 L5) := O12p
theorem O21g : FnOK Tryd.prog (gls5 W5) 21 (G21 L5) := O21p
theorem O13g : FnOK Tryd.prog (gls5 W5) 13 (G13 L5) := O13
theorem O23g : FnOK Tryd.prog (gls5 W5) 23 (G23 L5) := O23
theorem O4s : ∀ g F, spec4 L5 g = some F → FnOK Tryd.prog (gls5 W5) g F := fun g F h => by
  unfold spec4 at h
  split at h
  · cases h; exact O8
  · cases h; exact O9p
  · cases h; exact O12g
  · cases h; exact O13g
  · cases h; exact O15g
  · cases h; exact O17g
  · cases h; exact O21g
  · cases h; exact O23g
  · cases h
theorem fok4 (stop : Nat → List Nat → Bool) : FnsOK Tryd.prog (C5 prim W5 (spec4 L5) stop) := C5.fok O4s fun g h => by
  unfold spec4 at h
  split at h
  all_goals first | (cases h; done) | kernel_rfl
section
variable {H0 : Mem} {w0 : World} {n m M : Nat} {o : Nat → Oj} {p : Nat → Ev} {a b : Int} {φ : Sh → Prop}
theorem cnt_le (p : Nat → Ev) (a : Int) (i : Nat) : cntF p a i ≤ i := keptF_le _ _ _
theorem loop4 (hn : n ≤ 100) (hm : m ≤ 600) (hM : M ≤ m) (hφ : φ (.b true)) : ∀ rm (i : Nat), i + rm = M →
    GoesS Tryd.prog (C5 prim W5 (spec4 L5) stopAll) (K0 H0 w0) 4 td4 (LH4 n M o p a true (len (keptF (keepB a) p m)) (nth (keptF (keepB a) p m)) ((cntF p a i : Nat) : Int) (i : Int)) [] emp φ
  | rm, i, hi => by
    refine goesS_into (fn := Tryd.f4) (tb := tb4) (by kernel_rfl) (by kernel_rfl) ?_
    refine goesS_runUM (C5.ok _ _) (fok4 _) (hold := noHold) (m := 300) (n := 800) (ts := [⟨4, td4, LH4 n M o p a true (len (keptF (keepB a) p m)) (nth (keptF (keepB a) p m)) ((cntF p a (i + 1) : Nat) : Int) ((i + 1 : Nat) : Int), []⟩]) ?_
    rw [b4 prim W5 L5 n M (len (keptF (keepB a) p m)) o p (nth (keptF (keepB a) p m)) a true (cntF p a i : Nat) i (cntF p a (i + 1) : Nat) 0 (i + 1 : Nat), meetsE_eq]
    have hc := cnt_le p a i
    have hk := keptF_le (keepB a) p m
    have hwi : IntKind.i64.wrap ((i : Int) + 1) = ((i + 1 : Nat) : Int) := by rw [wrap_id (by omega) (by omega)]; rfl
    have hwc : IntKind.i64.wrap ((cntF p a i : Int) + 1) = ((cntF p a i + 1 : Nat) : Int) := by rw [wrap_id (by omega) (by omega)]; rfl
    refine ⟨fun h => ?_, fun h => ?_⟩
    · have hlt : i < M := by simp [prim_lt, prim_ofN] at h; omega
      match rm, hi with
      | 0, hi => omega
      | rm + 1, hi =>
        have next := loop4 hn hm hM hφ rm (i + 1) (by omega)
        refine ⟨by simp [prim_inB]; omega, fun h2 => ?_, fun h2 => ?_⟩
        · have h2 : (p i).tx = a := by simpa [prim_eq, prim_toN] using h2
          have e : cntF p a (i + 1) = cntF p a i + 1 := by simp [cntF, keptF, keepB, h2]
          rw [← e] at hwc
          refine ⟨?_, _, rfl, next⟩
          repeat' (first | exact trivial | exact rfl | exact hwi | exact hwc | exact fun _ _ => rfl | refine And.intro ?_ ?_)
        · have h2 : (p i).tx ≠ a := by simpa [prim_eq, prim_toN] using h2
          have h3 : ((p i).tx == a) = false := by simpa using h2
          have e : ((cntF p a i : Nat) : Int) = (cntF p a (i + 1) : Nat) := by simp [cntF, keptF, keepB, h3]
          refine ⟨?_, _, rfl, next⟩
          repeat' (first | exact trivial | exact rfl | exact hwi | exact e | exact fun _ _ => rfl | refine And.intro ?_ ?_)
    · have hge : i = M := by simp [prim_lt, prim_ofN] at h; omega
      subst hge
      have hL : keptF (keepB a) p m = keptF (keepB a) p i ++ ((List.range (m - i)).map fun j => p (i + j)).filter fun e => e.tx == a := by
        have f := fun m => keptF_filter (P := keepB a) (K := fun e => e.tx == a) (fun _ _ => rfl) p m
        rw [f m, f i, evs_pre hM, List.filter_append]
      have hup : upN (cntF p a i : Int) (len (keptF (keepB a) p m)) = cntF p a i := by
        have : cntF p a i ≤ len (keptF (keepB a) p m) := by rw [hL, len_eq, List.length_append]; exact Nat.le_add_right _ _
        unfold upN; omega
      have hup2 := upN_le (cntF p a i : Int) (len (keptF (keepB a) p m))
      have last : L5.same n (L5.un (cntF p a i : Int) (len (keptF (keepB a) p m))) (fnR o) (fnR (nth (keptF (keepB a) p m))) n (L5.km (keepB a) i (rwAt (fnR p))) (fnR o) (fnR (L5.kp (keepB a) i (rwAt (fnR p)))) = true := by
        show sameHB _ _ _ _ _ _ _ _ = true
        rw [rwAt_fnR]
        refine sameHB_evs ?_
        show evs (upN _ _) _ = evs (len _) (nth _)
        rw [hup, evs_nth]
        have h3 : evs (len (keptF (keepB a) p m)) (nth (keptF (keepB a) p m)) = keptF (keepB a) p m := evs_nth _
        have h4 : cntF p a i ≤ len (keptF (keepB a) p m) := by omega
        rw [evs_pre h4] at h3
        have h5 := congrArg (List.take (cntF p a i)) h3
        rw [List.take_left' (evs_len _ _)] at h5
        rw [h5, hL]
        exact List.take_left' rfl
      have r1 : roomB (L5.un (cntF p a i : Int) (len (keptF (keepB a) p m))) 64 = true := room_le (by show upN _ _ ≤ _; omega) (by omega)
      exact ⟨fun _ => ⟨room_le (by omega) (by omega), r1, okB_put _ _, room_le (by omega) (by omega), room_le (by omega) (by omega), okB_put _ _, okB_put _ _, okB_put _ _, okB_put _ _, by show φ (.b _); rw [last]; exact hφ⟩, fun h => by cases h⟩
theorem no {b : Bool} {T : Prop} (h : b = true) : b = false → T := fun h2 => by rw [h] at h2; cases h2
theorem nno {b : Bool} {T : Prop} (h : b = true) : prim.nt b = true → T := fun h2 => by rw [h] at h2; cases h2
theorem keptF_evs (P : Nat → Ev → Bool) (p : Nat → Ev) (m : Nat) : evs (L5.km P m p) (L5.kp P m p) = keptF P p m := evs_nth _
theorem km_le (P : Nat → Ev → Bool) (p : Nat → Ev) (m : Nat) : L5.km P m p ≤ m := keptF_le P p m
theorem kept_both (a b : Int) (p : Nat → Ev) (m : Nat) : evs (L5.km (keepN b) (L5.km (keepN a) m p) (L5.kp (keepN a) m p)) (L5.kp (keepN b) (L5.km (keepN a) m p) (L5.kp (keepN a) m p)) = (evs m p).filter fun e => !(e.tx == a) && !(e.tx == b) := by
  have f := fun (a : Int) p m => keptF_filter (P := keepN a) (K := fun e => !(e.tx == a)) (fun _ _ => rfl) p m
  rw [keptF_evs, f, keptF_evs, f, List.filter_filter]
  congr 1
  funext e
  exact Bool.and_comm _ _
theorem go10 {W1 : Nat} {fw : Nat → Ev} (hn : n ≤ 100) (hm : m ≤ 600) (hM : M ≤ m) (hφ : φ (.b true)) :
    GoesS Tryd.prog (C5 prim W5 (spec4 L5) stopAll) (K0 H0 w0) 4 td4b (L10 n m M W1 o p fw a b) [] emp φ := by
  have next := loop4 (H0 := H0) (w0 := w0) (o := o) (p := p) (a := a) hn hm hM hφ M 0 (by omega)
  refine goesS_runUM (C5.ok _ _) (fok4 _) (hold := noHold) (m := 300) (n := 800) (ts := [⟨4, td4, LH4 n M o p a true (len (keptF (keepB a) p m)) (nth (keptF (keepB a) p m)) ((cntF p a 0 : Nat) : Int) ((0 : Nat) : Int), []⟩]) ?_
  rw [a4h prim W5 L5 n m M W1 o p fw a b, meetsE_eq]
  simp only [rwAt_fnR]
  have same1 : L5.same n (L5.km (keepN b) (L5.km (keepN a) m p) (L5.kp (keepN a) m p)) (fnR o) (fnR (L5.kp (keepN b) (L5.km (keepN a) m p) (L5.kp (keepN a) m p))) n (L5.km (keepN a) (L5.km (keepN b) m p) (L5.kp (keepN b) m p)) (fnR o) (fnR (L5.kp (keepN a) (L5.km (keepN b) m p) (L5.kp (keepN b) m p))) = true := by
    refine sameHB_evs ?_
    rw [kept_both, kept_both]
    congr 1
    funext e
    exact Bool.and_comm _ _
  have same2 : L5.same n (L5.km (keepN b) (L5.km (keepN a) m p) (L5.kp (keepN a) m p)) (fnR o) (fnR (L5.kp (keepN b) (L5.km (keepN a) m p) (L5.kp (keepN a) m p))) n (L5.km (keepA a b) m p) (fnR o) (fnR (L5.kp (keepA a b) m p)) = true := by
    refine sameHB_evs ?_
    rw [kept_both, keptF_evs, keptF_filter (P := keepA a b) (K := fun e => !(e.tx == a) && !(e.tx == b)) (fun _ _ => rfl)]
  have anti : L5.sub n W1 (fnR o) (fnR fw) n M (fnR o) (fnR p) = true → L5.sub n M (fnR o) (fnR p) n W1 (fnR o) (fnR fw) = true → L5.same n W1 (fnR o) (fnR fw) n M (fnR o) (fnR p) = true := fun h1 h2 =>
    sameHB_evs ((subHB_iff.1 h1).2.eq_of_length_le (subHB_iff.1 h2).2.length_le)
  have k1 := km_le (keepN a) p m
  have k2 := km_le (keepN b) p m
  have q1 : roomB (L5.km (keepN a) m p) 64 = true := room_le (by omega) (by omega)
  have q2 : roomB (L5.km (keepN b) m p) 64 = true := room_le (by omega) (by omega)
  have q3 : roomB n 16 = true := room_le (by omega) (by omega)
  have q4 : roomB m 64 = true := room_le (by omega) (by omega)
  have fin : ∃ t : Tgt, ([⟨4, td4, LH4 n M o p a true (len (keptF (keepB a) p m)) (nth (keptF (keepB a) p m)) ((cntF p a 0 : Nat) : Int) ((0 : Nat) : Int), []⟩] : List Tgt)[0]? = some t ∧ GoesS Tryd.prog (C5 prim W5 (spec4 L5) stopAll) (K0 H0 w0) t.g t.td t.c t.stk emp φ := ⟨_, rfl, next⟩
  generalize L5.same n (L5.km (keepN b) (L5.km (keepN a) m p) (L5.kp (keepN a) m p)) (fnR o) (fnR (L5.kp (keepN b) (L5.km (keepN a) m p) (L5.kp (keepN a) m p))) n (L5.km (keepN a) (L5.km (keepN b) m p) (L5.kp (keepN b) m p)) (fnR o) (fnR (L5.kp (keepN a) (L5.km (keepN b) m p) (L5.kp (keepN b) m p))) = S1 at same1 ⊢
  generalize L5.same n (L5.km (keepN b) (L5.km (keepN a) m p) (L5.kp (keepN a) m p)) (fnR o) (fnR (L5.kp (keepN b) (L5.km (keepN a) m p) (L5.kp (keepN a) m p))) n (L5.km (keepA a b) m p) (fnR o) (fnR (L5.kp (keepA a b) m p)) = S2 at same2 ⊢
  generalize L5.sub n W1 (fnR o) (fnR fw) n M (fnR o) (fnR p) = S3 at anti ⊢
  generalize L5.sub n M (fnR o) (fnR p) n W1 (fnR o) (fnR fw) = S4 at anti ⊢
  generalize L5.same n W1 (fnR o) (fnR fw) n M (fnR o) (fnR p) = S5 at anti ⊢
  repeat' (first
    | exact trivial
    | exact okB_put _ _
    | assumption
    | exact no same1
    | exact nno (anti (by assumption) (by assumption))
    | exact rfl
    | exact fun _ _ => rfl
    | (intro _)
    | refine And.intro ?_ ?_)
theorem go8n {W1 Q1 D1 : Nat} {fw fq fd : Nat → Ev} (hn : n ≤ 100) (hm : m ≤ 600) (hM : M ≤ m) (hφ : φ (.b true)) (e1 : evs W1 fw = keptF (keepN a) p m) (e2 : evs Q1 fq = keptF (keepN a) p M) (e3 : (evs D1 fd).Sublist (evs m p)) :
    GoesS Tryd.prog (C5 prim W5 (spec4 L5) stopAll) (K0 H0 w0) 4 td4a (L4n n m M W1 Q1 D1 o p fw fq fd a b) [] emp φ := by
  have next := go10 (H0 := H0) (w0 := w0) (o := o) (p := p) (a := a) (b := b) (W1 := W1) (fw := fw) hn hm hM hφ
  refine goesS_runVM (C5.ok _ _) (fok4 _) (pause := p4b) (m := 300) (n := 800) (ts := [⟨4, td4b, L10 n m M W1 o p fw a b, []⟩]) ?_
  rw [a4n prim W5 L5 n m M W1 Q1 o p fw fq a b D1 W1 fd fw, meetsE_eq]
  have fin : ∃ t : Tgt, ([⟨4, td4b, L10 n m M W1 o p fw a b, []⟩] : List Tgt)[0]? = some t ∧ GoesS Tryd.prog (C5 prim W5 (spec4 L5) stopAll) (K0 H0 w0) t.g t.td t.c t.stk emp φ := ⟨_, rfl, next⟩
  have s1 : L5.sub n M (fnR o) (fnR p) n m (fnR o) (fnR p) = true := subHB_true (evs_sub hM p)
  have s2 : L5.sub n W1 (fnR o) (fnR fw) n m (fnR o) (fnR p) = true := subHB_true (by rw [e1]; exact keptF_sub _ _ _)
  have s3 : L5.sub n Q1 (fnR o) (fnR fq) n M (fnR o) (fnR p) = true := subHB_true (by rw [e2]; exact keptF_sub _ _ _)
  have s4 : L5.sub n Q1 (fnR o) (fnR fq) n m (fnR o) (fnR p) = true := subHB_true (by rw [e2]; exact (keptF_sub _ _ _).trans (evs_sub hM p))
  have s5 : L5.sub n m (fnR o) (fnR p) n m (fnR o) (fnR p) = true := subHB_true (List.Sublist.refl _)
  have s6 : L5.sub n D1 (fnR o) (fnR fd) n m (fnR o) (fnR p) = true := subHB_true e3
  repeat' (first
    | exact trivial
    | exact okB_put _ _
    | assumption
    | exact nno s1 | exact nno s2 | exact nno s3 | exact nno s4 | exact nno s5 | exact nno s6
    | exact rfl
    | exact fun _ _ => rfl
    | (intro _)
    | refine And.intro ?_ ?_)
theorem go8e {W1 Q1 : Nat} {fw fq : Nat → Ev} {e : Nat} (hn : n ≤ 100) (hm : m ≤ 600) (hM : M ≤ m) (hφ : φ (.b true)) (e1 : evs W1 fw = keptF (keepN a) p m) (e2 : evs Q1 fq = keptF (keepN a) p M) :
    GoesS Tryd.prog (C5 prim W5 (spec4 L5) stopAll) (K0 H0 w0) 4 td4a (L4s n m M W1 Q1 o p fw fq a b (.er e 125)) [] emp φ := by
  have next := go10 (H0 := H0) (w0 := w0) (o := o) (p := p) (a := a) (b := b) (W1 := W1) (fw := fw) hn hm hM hφ
  refine goesS_runVM (C5.ok _ _) (fok4 _) (pause := p4b) (m := 300) (n := 800) (ts := [⟨4, td4b, L10 n m M W1 o p fw a b, []⟩]) ?_
  rw [a4e prim W5 L5 n m M W1 Q1 o p fw fq a b e W1 fw, meetsE_eq]
  have fin : ∃ t : Tgt, ([⟨4, td4b, L10 n m M W1 o p fw a b, []⟩] : List Tgt)[0]? = some t ∧ GoesS Tryd.prog (C5 prim W5 (spec4 L5) stopAll) (K0 H0 w0) t.g t.td t.c t.stk emp φ := ⟨_, rfl, next⟩
  have s1 : L5.sub n M (fnR o) (fnR p) n m (fnR o) (fnR p) = true := subHB_true (evs_sub hM p)
  have s2 : L5.sub n W1 (fnR o) (fnR fw) n m (fnR o) (fnR p) = true := subHB_true (by rw [e1]; exact keptF_sub _ _ _)
  have s3 : L5.sub n Q1 (fnR o) (fnR fq) n M (fnR o) (fnR p) = true := subHB_true (by rw [e2]; exact keptF_sub _ _ _)
  have s4 : L5.sub n Q1 (fnR o) (fnR fq) n m (fnR o) (fnR p) = true := subHB_true (by rw [e2]; exact (keptF_sub _ _ _).trans (evs_sub hM p))
  have s5 : L5.sub n m (fnR o) (fnR p) n m (fnR o) (fnR p) = true := subHB_true (List.Sublist.refl _)
  repeat' (first
    | exact trivial
    | exact okB_put _ _
    | assumption
    | exact nno s1 | exact nno s2 | exact nno s3 | exact nno s4 | exact nno s5
    | exact rfl
    | exact fun _ _ => rfl
    | (intro _)
    | refine And.intro ?_ ?_)
theorem go8i {W1 Q1 : Nat} {fw fq : Nat → Ev} {k1 : Int} {e : Nat} (hn : n ≤ 100) (hm : m ≤ 600) (hM : M ≤ m) (hφ : φ (.b true)) (e1 : evs W1 fw = keptF (keepN a) p m) (e2 : evs Q1 fq = keptF (keepN a) p M) :
    GoesS Tryd.prog (C5 prim W5 (spec4 L5) stopAll) (K0 H0 w0) 4 td4a (L4s n m M W1 Q1 o p fw fq a b (.ifc 81 (.pt [.i .i64 k1, .er e 125]))) [] emp φ := by
  have next := go10 (H0 := H0) (w0 := w0) (o := o) (p := p) (a := a) (b := b) (W1 := W1) (fw := fw) hn hm hM hφ
  refine goesS_runVM (C5.ok _ _) (fok4 _) (pause := p4b) (m := 300) (n := 800) (ts := [⟨4, td4b, L10 n m M W1 o p fw a b, []⟩]) ?_
  rw [a4i prim W5 L5 n m M W1 Q1 o p fw fq a b k1 e W1 fw, meetsE_eq]
  have fin : ∃ t : Tgt, ([⟨4, td4b, L10 n m M W1 o p fw a b, []⟩] : List Tgt)[0]? = some t ∧ GoesS Tryd.prog (C5 prim W5 (spec4 L5) stopAll) (K0 H0 w0) t.g t.td t.c t.stk emp φ := ⟨_, rfl, next⟩
  have s1 : L5.sub n M (fnR o) (fnR p) n m (fnR o) (fnR p) = true := subHB_true (evs_sub hM p)
  have s2 : L5.sub n W1 (fnR o) (fnR fw) n m (fnR o) (fnR p) = true := subHB_true (by rw [e1]; exact keptF_sub _ _ _)
  have s3 : L5.sub n Q1 (fnR o) (fnR fq) n M (fnR o) (fnR p) = true := subHB_true (by rw [e2]; exact keptF_sub _ _ _)
  have s4 : L5.sub n Q1 (fnR o) (fnR fq) n m (fnR o) (fnR p) = true := subHB_true (by rw [e2]; exact (keptF_sub _ _ _).trans (evs_sub hM p))
  have s5 : L5.sub n m (fnR o) (fnR p) n m (fnR o) (fnR p) = true := subHB_true (List.Sublist.refl _)
  repeat' (first
    | exact trivial
    | exact okB_put _ _
    | assumption
    | exact nno s1 | exact nno s2 | exact nno s3 | exact nno s4 | exact nno s5
    | exact rfl
    | exact fun _ _ => rfl
    | (intro _)
    | refine And.intro ?_ ?_)
end
def F4 : List Sh → Tree Sh
  | [.agg [.sl 2 n g, .sl 8 m h], .i .i64 _, .i .i64 _, .i .i64 _, .i .i64 _] => .need (okB Oj n g) (.need (okB Ev m h) (.need (retsB m h) (.leaf (.b true))))
  | _ => .fail
theorem O4 : FnOK Tryd.prog (gls5 W5) 4 F4 := by
  refine fnOK_S (C := C5 prim W5 (spec4 L5) stopAll) (C5.ok _ _) (fn := Tryd.f4) (by kernel_rfl) (by kernel_rfl) fun H w shs args φ hrep h => ?_
  have hn : Tryd.f4.ntmps = 152 := by kernel_rfl
  unfold F4 at h
  split at h
  · rename_i n g m h' k a b d
    obtain ⟨q1, q2, q3, hφ⟩ := h
    have hφ : φ (.b true) := hφ
    match args, hrep with
    | [v0, v1, v2, v3, v4], ⟨r0, r1, r2, r3, r4, _⟩ =>
      rw [hn]
      have hret : retsB m (fnR (rwAt (α := Ev) h')) = true := List.all_eq_true.2 fun i hi => by
        rw [rwAt_fnR]; exact List.all_eq_true.1 q3 i hi
      refine ⟨[.agg [.sl 2 n (fnR (rwAt (α := Oj) g)), .sl 8 m (fnR (rwAt (α := Ev) h'))], .i .i64 k, .i .i64 a, .i .i64 b, .i .i64 d], ⟨rep_agg_rows2 r0 q1 q2, r1, r2, r3, r4, trivial⟩, L0, ?_⟩
      generalize rwAt (α := Oj) g = o at *
      generalize rwAt (α := Ev) h' = p at *
      by_cases hs : n ≤ 100 ∧ m ≤ 600
      · obtain ⟨hn, hm⟩ := hs
        have hM := upN_le k m
        have k1 := km_le (keepN a) p m
        have k2 := km_le (keepN a) p (upN k m)
        let ts (s : Sh) : List Tgt := [⟨4, td4a, L4n n m (upN k m) (L5.km (keepN a) m p) (L5.km (keepN a) (upN k m) p) (L5.dl m p a d) o p (L5.kp (keepN a) m p) (L5.kp (keepN a) (upN k m) p) (L5.dp m p a d) a b, []⟩, ⟨4, td4a, L4s n m (upN k m) (L5.km (keepN a) m p) (L5.km (keepN a) (upN k m) p) o p (L5.kp (keepN a) m p) (L5.kp (keepN a) (upN k m) p) a b s, []⟩]
        have fin1 (s : Sh) : ∃ t : Tgt, (ts s)[0]? = some t ∧ GoesS Tryd.prog (C5 prim W5 (spec4 L5) stopAll) (K0 H w) t.g t.td t.c t.stk emp φ := ⟨_, rfl, go8n hn hm hM hφ (keptF_evs _ _ _) (keptF_evs _ _ _) (by
          show (evs (len (dropE m p a d)) (nth (dropE m p a d))).Sublist _
          rw [evs_nth]; exact keptF_sub _ _ _)⟩
        have fin2 (e : Nat) : ∃ t : Tgt, (ts (.er e 125))[1]? = some t ∧ GoesS Tryd.prog (C5 prim W5 (spec4 L5) stopAll) (K0 H w) t.g t.td t.c t.stk emp φ := ⟨_, rfl, go8e hn hm hM hφ (keptF_evs _ _ _) (keptF_evs _ _ _)⟩
        have fin3 (k1 : Int) (e : Nat) : ∃ t : Tgt, (ts (.ifc 81 (.pt [.i .i64 k1, .er e 125])))[1]? = some t ∧ GoesS Tryd.prog (C5 prim W5 (spec4 L5) stopAll) (K0 H w) t.g t.td t.c t.stk emp φ := ⟨_, rfl, go8i hn hm hM hφ (keptF_evs _ _ _) (keptF_evs _ _ _)⟩
        have hsm : smallB n m = true := by simp [smallB]; omega
        have main (s : Sh) (hb : bigB n m = true → s = .er 2 125) (hg : bigB n m = false → goodB n m (fnR o) (fnR p) = false → s = .ifc 81 (.pt [.i .i64 (L5.bk n m (fnR o) (fnR p)), .er (L5.be n m (fnR o) (fnR p)) 125]))
            (ht : bigB n m = false → goodB n m (fnR o) (fnR p) = true → takeB m p = false → s = .ifc 81 (.pt [.i .i64 (L5.k m p), .er (L5.e m p) 125]))
            (hx : bigB n m = false → goodB n m (fnR o) (fnR p) = true → takeB m p = true → txB m p a = false → s = .er 0 125)
            (hd : bigB n m = false → goodB n m (fnR o) (fnR p) = true → takeB m p = true → txB m p a = true → deedB m p a d = false → s = .er 1 125) (hs : ∃ t : Tgt, (ts s)[1]? = some t ∧ GoesS Tryd.prog (C5 prim W5 (spec4 L5) stopAll) (K0 H w) t.g t.td t.c t.stk emp φ) :
            GoesS Tryd.prog (C5 prim W5 (spec4 L5) stopAll) (K0 H w) 4 [.code []] (start0 152 [.agg [.sl 2 n (fnR o), .sl 8 m (fnR p)], .i .i64 k, .i .i64 a, .i .i64 b, .i .i64 d] L0) [] emp φ := by
          have fin1 := fin1 s
          refine goesS_runVM (C5.ok _ _) (fok4 _) (pause := p4a) (m := 300) (n := 800) (ts := ts s) ?_
          rw [a4 prim W5 L5 n m o p k a b d (upN k m) (L5.km (keepN a) m p) (L5.km (keepN a) (upN k m) p) (L5.dl m p a d) (L5.kp (keepN a) m p) (L5.kp (keepN a) (upN k m) p) (L5.dp m p a d) s, meetsE_eq]
          simp only [rwAt_fnR]
          have q1 : roomB (L5.un k m) 64 = true := room_le (by show upN k m ≤ _; omega) (by omega)
          have q3 : roomB n 16 = true := room_le (by omega) (by omega)
          have q4 : roomB m 64 = true := room_le (by omega) (by omega)
          refine ⟨nno hsm, fun _ => ⟨fun _ => hφ, fun _ => ⟨q3, q1, okB_put _ _, q3, q4, okB_put _ _, q3, q1, okB_put _ _, okB_put _ _, hret, fun h1 => ?_, fun h1 => ⟨fun h2 => ⟨fun h3 => ⟨fun h4 => ⟨fun h5 => ?_, fun h5 => ?_⟩, fun h4 => ?_⟩, fun h3 => ?_⟩, fun h2 => ?_⟩⟩⟩⟩
          all_goals refine ⟨?_, by first | exact fin1 | exact hs⟩
          all_goals repeat' (first
            | exact trivial
            | exact (hb h1).symm
            | exact (hg h1 h2).symm
            | exact (ht h1 h2 h3).symm
            | exact (hx h1 h2 h3 h4).symm
            | exact (hd h1 h2 h3 h4 h5).symm
            | exact rfl
            | exact fun _ _ => rfl
            | refine And.intro ?_ ?_)
        have bot {b : Bool} {T : Prop} (h1 : b = true) (h2 : b = false) : T := by rw [h1] at h2; cases h2
        cases h1 : bigB n m with
        | true => exact main (.er 2 125) (fun _ => rfl) (fun h => (bot h1 h)) (fun h => (bot h1 h)) (fun h => (bot h1 h)) (fun h => (bot h1 h)) (fin2 2)
        | false => cases h2 : goodB n m (fnR o) (fnR p) with
          | false => exact main _ (fun h => bot h h1) (fun _ _ => rfl) (fun _ h => bot h h2) (fun _ h => bot h h2) (fun _ h => bot h h2) (fin3 _ _)
          | true => cases h3 : takeB m p with
            | false => exact main _ (fun h => bot h h1) (fun _ h => bot h2 h) (fun _ _ _ => rfl) (fun _ _ h => bot h h3) (fun _ _ h => bot h h3) (fin3 _ _)
            | true => cases h4 : txB m p a with
              | false => exact main _ (fun h => bot h h1) (fun _ h => bot h2 h) (fun _ _ h => bot h3 h) (fun _ _ _ _ => rfl) (fun _ _ _ h => bot h h4) (fin2 0)
              | true => exact main _ (fun h => bot h h1) (fun _ h => bot h2 h) (fun _ _ h => bot h3 h) (fun _ _ _ h => bot h4 h) (fun _ _ _ _ _ => rfl) (fin2 1)
      · refine goesS_runVM (C5.ok _ _) (fok4 _) (pause := p4a) (m := 300) (n := 800) (ts := [⟨4, td4a, L4n n m 0 0 0 0 o p (nth []) (nth []) (nth []) a b, []⟩, ⟨4, td4a, L4s n m 0 0 0 o p (nth []) (nth []) a b (.b true), []⟩]) ?_
        rw [a4 prim W5 L5 n m o p k a b d 0 0 0 0 (nth []) (nth []) (nth []) (.b true), meetsE_eq]
        refine ⟨fun _ => hφ, fun h1 => ?_⟩
        have : smallB n m = true := by simpa [prim_nt] using h1
        simp [smallB] at this
        exact (hs this).elim
  · exact h.elim
end Go.Proofs
namespace Go.Sx
open Go.RowKit Go.ChangeShapes Go.WideShapes Go.Deep
/-- All of memory, as it stands. -/
def memOf (w : World) : Mem := fun b => w.heap[b]?
theorem memOf_on (w : World) : (memOf w).on w := fun _ _ h => h
theorem hcell_memOf {w : World} {a : Addr} {v : Value} (h : w.cell? a = some v) : hcell (memOf w) a.block a.off = some v ∧ a.spot = none := by
  unfold World.cell? at h
  unfold hcell memOf
  split at h
  · rename_i c t f hb
    rw [hb]
    cases hs : a.spot with
    | none => simp only [hs, Option.isSome_none, Bool.false_eq_true, if_false] at h; exact ⟨h, rfl⟩
    | some x => simp [hs] at h
  · cases h
section
variable {H : Type} {enc : TypeId × Value → H} {P : Program} {w : World} {base : Nat} {spare : Nat → Bool} {held : Bool}
/-- Are all the fields ints, one behind the other? -/
def flatB (P : Program) (fs : Array Field) (k : Nat) : Bool :=
  fs.size == k && (List.range k).all fun i => match fs[i]? with
    | some f => f.offset == i && (match P.underlying f.type with | some (.int .i64) => true | _ => false) && P.cellsOf f.type == 1
    | none => false
/-- The type of a row of so many ints. -/
def rowB (P : Program) (e k : Nat) : Bool :=
  match P.underlying e with
  | some (.int .i64) => k == 1 && P.cellsOf e == 1
  | some (.struct fs) => flatB P fs k && P.cellsOf e == k
  | _ => false
def int64 (n : Int) : Prop := (Lit.int .i64 n).wf = true
theorem flat_cells {e k fuel : Nat} {cs : List Value} {x : DataW H × List MemPlace} (hr : rowB P e k = true) (h : DataW.trod enc P w base spare held fuel e cs = some x) :
    ∃ ns : List Int, ns.length = k ∧ cs = ns.map (Value.int .i64) ∧ ∀ n ∈ ns, int64 n := by
  unfold rowB at hr
  split at hr
  · rename_i hu
    simp only [Bool.and_eq_true, beq_iff_eq] at hr
    obtain ⟨n, rfl, _, hw⟩ := DataW.trod_int hu h
    exact ⟨[n], hr.1.symm, rfl, fun m hm => by simp at hm; subst hm; exact hw⟩
  · rename_i fs hu
    simp only [Bool.and_eq_true, beq_iff_eq] at hr
    obtain ⟨hf, hc⟩ := hr
    unfold flatB at hf
    simp only [Bool.and_eq_true, beq_iff_eq] at hf
    obtain ⟨hk, hf⟩ := hf
    obtain ⟨xs, m, _, _, hlen, hxs, hel⟩ := DataW.trod_struct hu h
    rw [hc] at hlen
    have cell : ∀ i, i < k → ∃ n, cs[i]? = some (.int .i64 n) ∧ int64 n := fun i hi => by
      have q := List.all_eq_true.1 hf i (List.mem_range.2 hi)
      split at q
      · rename_i f hfi
        simp only [Bool.and_eq_true, beq_iff_eq] at q
        obtain ⟨⟨ho, ht⟩, h1⟩ := q
        have ht : P.underlying f.type = some (.int .i64) := by
          split at ht
          · assumption
          · cases ht
        have q2 := hel i f hfi
        rw [ho, h1] at q2
        have hxi : i < xs.length := by rw [hxs, hk]; exact hi
        rw [List.getElem?_eq_getElem hxi] at q2
        obtain ⟨n, e1, _, e3⟩ := DataW.trod_int ht q2
        refine ⟨n, ?_, e3⟩
        have : (List.take 1 (List.drop i cs))[0]? = some (.int .i64 n) := by rw [e1]; rfl
        simpa using this
      · cases q
    clear hel h hf
    have : ∀ (j : Nat) (l : List Value), l.length = j → (∀ i, i < j → ∃ n, l[i]? = some (.int .i64 n) ∧ int64 n) → ∃ ns : List Int, ns.length = j ∧ l = ns.map (Value.int .i64) ∧ ∀ n ∈ ns, int64 n := by
      intro j
      induction j with
      | zero => intro l hl _; exact ⟨[], rfl, by simpa using hl, fun _ h => by simp at h⟩
      | succ j ih =>
        intro l hl hc
        match l, hl with
        | v :: l, hl =>
          obtain ⟨ns, h1, h2, h3⟩ := ih l (by simpa using hl) fun i hi => by simpa using hc (i + 1) (by omega)
          obtain ⟨n, q1, q2⟩ := hc 0 (by omega)
          simp at q1
          subst q1
          exact ⟨n :: ns, by simp [h1], by simp [h2], fun m hm => by
            rcases List.mem_cons.1 hm with rfl | hm
            · exact q2
            · exact h3 m hm⟩
    exact this k cs hlen cell
  · cases hr
def shInts (ns : List Int) : List Sh := ns.map (Sh.i .i64)
theorem rep_ints {M : Mem} {ns : List Int} : Rep M (.agg (shInts ns)) (.agg (ns.map (Value.int .i64)).toArray) := by
  refine .agg _ _ (by simp [shInts]) fun j s v h1 h2 => ?_
  simp only [shInts, List.getElem?_map, Option.map_eq_some_iff] at h1
  obtain ⟨n, h3, rfl⟩ := h1
  simp [h3] at h2
  subst h2
  exact .i _ _
theorem cells?_at {w : World} {base : Nat} {a : Addr} {n : Nat} {cs : List Value} (h : w.cells? base a n = some cs) : cs.length = n ∧ ∀ j, j < n → w.cell? (a.add j) = cs[j]? := by
  unfold World.cells? at h
  split at h
  · have : ∀ (l : List Nat) (cs : List Value), l.mapM (fun i => w.cell? (a.add i)) = some cs → cs.length = l.length ∧ ∀ (j : Nat) (i : Nat), l[j]? = some i → w.cell? (a.add i) = cs[j]? := by
      intro l
      induction l with
      | nil => intro cs h; simp at h; subst h; exact ⟨rfl, fun j i e => by simp at e⟩
      | cons x l ih =>
        intro cs h
        rw [List.mapM_cons] at h
        simp only [Option.bind_eq_bind, Option.bind_eq_some_iff, Option.pure_def] at h
        obtain ⟨v, h1, vs, h2, h3⟩ := h
        cases h3
        obtain ⟨e1, e2⟩ := ih vs h2
        refine ⟨by simp [e1], fun j i e => ?_⟩
        match j, e with
        | 0, e => simp at e; subst e; simpa using h1
        | j + 1, e => simpa using e2 j i (by simpa using e)
    obtain ⟨e1, e2⟩ := this _ _ h
    rw [List.length_range] at e1
    exact ⟨e1, fun j hj => e2 j j (by simp [hj])⟩
  · cases h
theorem add_off (a : Addr) (n : Nat) : (a.add n).off = a.off + n ∧ (a.add n).block = a.block := by
  unfold Addr.add
  split
  · subst_vars; exact ⟨rfl, rfl⟩
  · exact ⟨rfl, rfl⟩
theorem add_add' (a : Addr) (i j : Nat) : (a.add i).add j = a.add (i + j) := by
  unfold Addr.add
  by_cases hi : i = 0 <;> by_cases hj : j = 0 <;> simp [hi, hj, Nat.add_assoc]
/-- A slice of rows of ints. -/
theorem rep_rowsl {t e k fuel : Nat} {cs : List Value} {x : DataW H × List MemPlace} (ht : P.underlying t = some (.slice e)) (hr : rowB P e k = true) (hk : P.cellsOf e = k) (h0 : 0 < k)
    (h : DataW.trod enc P w base spare held fuel t cs = some x) :
    ∃ v n g, cs = [v] ∧ Rep (memOf w) (.sl k n g) v ∧ ∀ i, i < n → ∃ ns : List Int, ns.length = k ∧ g i = shInts ns ∧ ∀ n ∈ ns, int64 n := by
  rcases open_slice ht h with ⟨rfl, _⟩ | ⟨a, len, cap, m, n, D, Pl, rfl, hb, hl, hcap, hm, _, hel⟩
  · exact ⟨_, 0, fun _ => [], rfl, .sl0 _ _ _ _ (Nat.zero_le _), fun i hi => by omega⟩
  have hlm : len ≤ m := by rw [hm]; split <;> omega
  rw [hk] at hel
  have row : ∀ i, i < len → ∃ ns : List Int, ns.length = k ∧ w.cells? base (a.add (i * k)) k = some (ns.map (Value.int .i64)) ∧ ∀ n ∈ ns, int64 n := fun i hi => by
    obtain ⟨cs', h1, h2⟩ := hel i (by omega)
    obtain ⟨ns, e1, rfl, e3⟩ := flat_cells hr h2
    exact ⟨ns, e1, h1, e3⟩
  by_cases hz : len = 0
  · subst hz
    exact ⟨_, 0, fun _ => [], rfl, .sl0 _ _ _ _ hcap, fun i hi => by omega⟩
  let N : Nat → List Int := fun i => if h : i < len then (row i h).choose else []
  have hN : ∀ i, i < len → (N i).length = k ∧ w.cells? base (a.add (i * k)) k = some ((N i).map (Value.int .i64)) ∧ ∀ n ∈ N i, int64 n := fun i hi => by
    simp only [N, dif_pos hi]
    exact (row i hi).choose_spec
  have cell : ∀ i j, i < len → j < k → w.cell? (a.add (i * k + j)) = ((N i).map (Value.int .i64))[j]? := fun i j hi hj => by
    have := (cells?_at (hN i hi).2.1).2 j hj
    rwa [add_add'] at this
  have hspot : a.spot = none := by
    have h1 := cell 0 0 (by omega) h0
    have : ∃ v, w.cell? a = some v := by
      have hl0 := (hN 0 (by omega)).1
      match hq : N 0 with
      | [] => rw [hq] at hl0; simp at hl0; omega
      | x :: r =>
        rw [hq] at h1
        simp [Addr.add] at h1
        exact ⟨_, h1⟩
    obtain ⟨v, hv⟩ := this
    exact (hcell_memOf hv).2
  obtain ⟨blk, off, spot⟩ := a
  simp only at hspot
  subst hspot
  refine ⟨_, len, fun i => shInts (N i), rfl, .sl _ _ _ blk off cap (fun i j => ((N i).map (Value.int .i64)).getD j .nilFunc) hl hcap (fun i hi => by simp [shInts, (hN i hi).1]) (fun i j hi hj => ?_) (fun i j hi hj => ?_) (fun i j s hi e => ?_), fun i hi => ⟨N i, (hN i hi).1, rfl, (hN i hi).2.2⟩⟩
  · have h1 := cell i j hi hj
    have hlt : j < ((N i).map (Value.int .i64)).length := by simpa [(hN i hi).1] using hj
    rw [List.getElem?_eq_getElem hlt] at h1
    have h2 := (hcell_memOf h1).1
    rw [(add_off _ _).1, (add_off _ _).2] at h2
    simp only [Nat.add_assoc] at h2 ⊢
    rw [h2, List.getD_eq_getElem?_getD, List.getElem?_eq_getElem hlt]; rfl
  · have hlt : j < (N i).length := by rw [(hN i hi).1]; exact hj
    simp [List.getD_eq_getElem?_getD, hlt]; rfl
  · simp only [shInts, List.getElem?_map, Option.map_eq_some_iff] at e
    obtain ⟨n, h3, rfl⟩ := e
    simp [List.getD_eq_getElem?_getD, h3]
    exact .i _ _
/-- A struct of two slices of rows of ints. -/
def pairB (P : Program) (t : Nat) (k0 k1 : Nat) : Bool :=
  match P.underlying t with
  | some (.struct fs) => fs.size == 2 && P.cellsOf t == 2 && (match fs[0]?, fs[1]? with
    | some f0, some f1 => f0.offset == 0 && f1.offset == 1 && P.cellsOf f0.type == 1 && P.cellsOf f1.type == 1 && (match P.underlying f0.type, P.underlying f1.type with
      | some (.slice e0), some (.slice e1) => rowB P e0 k0 && P.cellsOf e0 == k0 && rowB P e1 k1 && P.cellsOf e1 == k1
      | _, _ => false)
    | _, _ => false)
  | _ => false
theorem rep_pair {t k0 k1 : Nat} {v : Value} {d : DataW H} {ps : List MemPlace} (hp : pairB P t k0 k1 = true) (h00 : 0 < k0) (h01 : 0 < k1) {b0 : Nat} (hval : Value.okWide P w .any b0 t v) (hd : DataW.Trod enc P w base spare held t v d ps) :
    ∃ n0 g0 n1 g1, Rep (memOf w) (.agg [.sl k0 n0 g0, .sl k1 n1 g1]) v ∧ (∀ i, i < n0 → ∃ ns : List Int, ns.length = k0 ∧ g0 i = shInts ns ∧ ∀ n ∈ ns, int64 n) ∧ ∀ i, i < n1 → ∃ ns : List Int, ns.length = k1 ∧ g1 i = shInts ns ∧ ∀ n ∈ ns, int64 n := by
  unfold pairB at hp
  split at hp
  · rename_i fs hu
    unfold Value.okWide at hval
    rw [hu] at hval
    obtain ⟨cs, rfl, hsz, _⟩ := hval
    simp only [Bool.and_eq_true, beq_iff_eq] at hp
    obtain ⟨⟨h2, hc⟩, hp⟩ := hp
    split at hp
    · rename_i f0 f1 hf0 hf1
      simp only [Bool.and_eq_true, beq_iff_eq] at hp
      obtain ⟨⟨⟨⟨o0, o1⟩, c0⟩, c1⟩, hp⟩ := hp
      split at hp
      · rename_i e0 e1 hs0 hs1
        simp only [Bool.and_eq_true, beq_iff_eq] at hp
        obtain ⟨⟨⟨r0, q0⟩, r1⟩, q1⟩ := hp
        obtain ⟨fuel, hd⟩ := hd
        obtain ⟨xs, m, _, _, hlen, hxs, hel⟩ := DataW.trod_struct hu hd
        have a0 := hel 0 f0 hf0
        have a1 := hel 1 f1 hf1
        rw [o0, c0, List.getElem?_eq_getElem (by rw [hxs, h2]; decide)] at a0
        rw [o1, c1, List.getElem?_eq_getElem (by rw [hxs, h2]; decide)] at a1
        obtain ⟨v0, n0, g0, x0, y0, z0⟩ := rep_rowsl hs0 r0 q0 h00 a0
        obtain ⟨v1, n1, g1, x1, y1, z1⟩ := rep_rowsl hs1 r1 q1 h01 a1
        rw [hc] at hsz
        obtain ⟨l⟩ := cs
        match l, hsz with
        | [u0, u1], _ =>
          simp [Value.cells] at x0 x1
          subst x0 x1
          refine ⟨n0, g0, n1, g1, .agg _ _ rfl fun j s v e1 e2 => ?_, z0, z1⟩
          match j, e1, e2 with
          | 0, e1, e2 => simp at e1 e2; subst e1 e2; exact y0
          | 1, e1, e2 => simp at e1 e2; subst e1 e2; exact y1
          | j + 2, e1, _ => simp at e1
      · cases hp
    · cases hp
  · cases hp
/-- A slice of rows of ints, as an argument. -/
theorem rep_slice_arg {t e k : Nat} {v : Value} {d : DataW H} {ps : List MemPlace} (ht : P.underlying t = some (.slice e)) (hr : rowB P e k = true) (hk : P.cellsOf e = k) (h0 : 0 < k) {b0 : Nat} (hval : Value.okWide P w .any b0 t v) (hd : DataW.Trod enc P w base spare held t v d ps) :
    ∃ n g, Rep (memOf w) (.sl k n g) v ∧ ∀ i, i < n → ∃ ns : List Int, ns.length = k ∧ g i = shInts ns ∧ ∀ n ∈ ns, int64 n := by
  obtain ⟨fuel, hd⟩ := hd
  obtain ⟨u, n, g, h1, h2, h3⟩ := rep_rowsl ht hr hk h0 hd
  have : v = u := by
    unfold Value.okWide at hval
    rw [ht] at hval
    cases v <;> simp [Value.cells] at h1 <;> first | exact h1 | skip
    all_goals (unfold Cell.okWide at hval; simp [ht] at hval; try (simp [Cell.ok, ht] at hval))
  subst this
  exact ⟨n, g, h2, h3⟩
end
end Go.Sx
