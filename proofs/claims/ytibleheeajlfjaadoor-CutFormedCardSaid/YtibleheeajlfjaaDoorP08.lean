/-
  Chapter 5: an automaton takes a valid event; evaluated. The equations are written by program (gen2.py). Own work. Chapter 5: the automaton in plain terms, and how it lies in memory. Own work. Chapter 5: what a valid event does to the transaction that is looked at. Own work (written by program, mkau2.py). Chapter 5: from an automaton in memory to what the executor looks at, and back. Own work. Chapter 5: the blocks of an automaton that are looked at. Own work. Chapter 5: what the executor tells of an automaton's memory behind an event, as an automaton again. Own work. Chapter 5: the same, where no transaction was looked at; where one has begun. Own work. Chapter 5: the contract of Feed: a valid event is taken as the plain automaton takes it. Own work. Chapter 5: the events that find no transaction, and those that begin one. Own work (written by program, mkau8.py). Chapter 5: the contract of Feed. Own work. Chapter 5: the contract of Feed, whole; what holds of an automaton holds behind it. Own work.
-/
import Derived.Test.YtibleheeajlfjaaDoorP07
namespace Go.Pl
open Go Go.Sx
/-- A list of values of which few are known. -/
def tmO (n : Nat) (l : List (Nat × SV)) : List SV := l.foldl (fun t p => t.set p.1 p.2) (List.replicate n .any)
/-- A deed of a transaction. -/
structure De where
  obj : Int
  op : Int
  key : Int
  val : Int
  ret : Int
  got : Int
  here : Int
  back : Int
  deriving DecidableEq, Inhabited
def deR (e : De) : List Sh := [.i .i64 e.obj, .i .i64 e.op, .i .i64 e.key, .i .i64 e.val, .i .i64 e.ret, .i .i64 e.got, .i .i64 e.here, .i .i64 e.back]
instance : Row De where
  put := deR
  get l := match l with
    | [.i .i64 a, .i .i64 b, .i .i64 c, .i .i64 d, .i .i64 e, .i .i64 f, .i .i64 g, .i .i64 h] => some ⟨a, b, c, d, e, f, g, h⟩
    | _ => none
  put_get l a h := by
    split at h
    · cases h; rfl
    · cases h
  get_put a := rfl
  dft := ⟨0, 0, 0, 0, 0, 0, 0, 0⟩
def validB (e : Ev) : Bool := codeB e && fieldsB e && in64 e.ret
end Go.Pl
namespace Go.Proofs
open Go Go.Sx Go.Pl
/-- A valid event is taken for valid. -/
def F56v : List Sh → Tree Sh
  | [.agg l] => match evOf l with
    | some e => .need (validB e) (.leaf (.v .nilIface))
    | none => .fail
  | _ => .fail
def spec53 : Nat → Option (List Sh → Tree Sh)
  | 56 => some F56v
  | 57 => some F57
  | 67 => some F67
  | _ => none
/-- The memory of an automaton: its objects, how many it has taken, its transactions, by their numbers, by their threads. -/
def hpA (n m : Nat) (o : Nat → Oj) (many : Int) (gR : Nat → List Sh) (M1 M2 : Int → Option Value) (f1 f2 : List (Int × Bool × SV)) : List (Nat × SB) :=
  [(0, .box [.gs 6, .sym .i64 many, .gs 1, .mp 2, .mp 3] 87), (1, .own 88 1 m gR), (2, .fm .i64 M1 f1 [] none), (3, .fm .i64 M2 f2 [] none), (6, .own 31 2 n (fnR o))]
/-- A transaction that is looked at. -/
def hpR (a b c d x y z : Int) (k : Nat) (gd : Nat → List Sh) : List (Nat × SB) :=
  [(4, .box [.sym .i64 a, .sym .i64 b, .sym .i64 c, .sym .i64 d, .sym .i64 x, .sym .i64 y, .gs 5, .sym .i64 z] 90), (5, .own 72 8 k gd)]
/-- An event whose kind is known. -/
def evS (kind : Int) (e : Ev) : SV := .agg [.int .i64 kind, .sym .i64 e.tx, .sym .i64 e.thread, .sym .i64 e.obj, .sym .i64 e.op, .sym .i64 e.key, .sym .i64 e.val, .sym .i64 e.ret]
def LA (kind : Int) (e : Ev) (hp : List (Nat × SB)) : Core := { tm := tmO 168 [(0, .ptr 0 0), (1, evS kind e)], hp, nx := 7, lim := L0, tc := [] }
/-- How a transaction is behind an event: its record. -/
def toR (n m : Nat) (o : Nat → Oj) (gR : Nat → List Sh) (M1 M2 : Int → Option Value) (e : Ev) (many' a' b' c' d' x' y' z' : Int) (k' : Nat) (gd' : Nat → List Sh) (us : List (Int × Bool × SV)) : TgE :=
  ⟨[(0, .box [.gs 6, .sym .i64 many', .gs 1, .mp 2, .mp 3] 87), (1, .own 88 1 m gR), (2, .fm .i64 M1 [(e.tx, true, .ptr 4 0)] [] none), (3, .fm .i64 M2 [] us none), (6, .own 31 2 n (fnR o)),
    (4, .box [.sym .i64 a', .sym .i64 b', .sym .i64 c', .sym .i64 d', .sym .i64 x', .sym .i64 y', .gs 5, .sym .i64 z'] 90), (5, .own 72 8 k' gd')], [0, 4]⟩
/-- Nothing has been turned. -/
def toN (n m : Nat) (o : Nat → Oj) (many' : Int) (gR : Nat → List Sh) (M1 M2 : Int → Option Value) (f1 f2 : List (Int × Bool × SV)) : TgE := ⟨hpA n m o many' gR M1 M2 f1 f2, [0]⟩
/-- One that has begun. -/
def toB (n m : Nat) (o : Nat → Oj) (gR : Nat → List Sh) (M1 M2 : Int → Option Value) (e : Ev) (many' a' b' c' d' x' y' z' : Int) : TgE :=
  ⟨[(0, .box [.gs 6, .sym .i64 many', .gs 1, .mp 2, .mp 3] 87), (6, .own 31 2 n (fnR o)), (1, .ownx 88 1 m gR [.ptr 4 0]), (2, .fm .i64 M1 [(e.tx, false, .any)] [(e.tx, true, .ptr 4 0), (e.tx, true, .any)] none), (3, .fm .i64 M2 [(e.thread, false, .any)] [(e.thread, true, .ptr 4 0), (e.thread, true, .any)] none),
    (4, .box [.sym .i64 a', .sym .i64 b', .sym .i64 c', .sym .i64 d', .sym .i64 x', .sym .i64 y', .nils, .sym .i64 z'] 90)], [0]⟩

theorem f53_2 (A : Prim) (W : Wd) (n m : Nat) (o : Nat → Oj) (many : Int) (gR : Nat → List Sh) (M1 M2 : Int → Option Value) (e : Ev) (a b c d x y z : Int) (k : Nat) (dd : Nat → De) (many' a' b' c' d' x' y' z' : Int) (k' : Nat) (gd' : Nat → List Sh) : (run (C5 A W spec53 unroll) 700 true 53 [.code []] (LA 2 e (hpA n m o many gR M1 M2 [(e.tx, true, .ptr 4 0)] [] ++ hpR a b c d x y z k (fnR dd)))).bind (toEnd [toR n m o gR M1 M2 e many' a' b' c' d' x' y' z' k' gd' []]) = Tree.node (A.eq many (Int.ofNat 400)) (Tree.leaf (SV.sh (Sh.er 2 125), 0, [Eqn.int many many', Eqn.nat m m, Eqn.get m gR gR, Eqn.mp M1 M1, Eqn.int e.tx e.tx, Eqn.mp M2 M2, Eqn.nat n n, Eqn.get n (fnR o) (fnR o), Eqn.int a a', Eqn.int b b', Eqn.int c c', Eqn.int d d', Eqn.int x x', Eqn.int y y', Eqn.int z z', Eqn.nat k k', Eqn.get k (fnR dd) gd'])) (Tree.need (validB { kind := Int.ofNat 2, tx := e.tx, thread := e.thread, obj := e.obj, op := e.op, key := e.key, val := e.val, ret := e.ret }) (Tree.node (A.le (A.ofN n) e.obj) (Tree.leaf (SV.sh (Sh.er 3 125), 0, [Eqn.int many many', Eqn.nat m m, Eqn.get m gR gR, Eqn.mp M1 M1, Eqn.int e.tx e.tx, Eqn.mp M2 M2, Eqn.nat n n, Eqn.get n (fnR o) (fnR o), Eqn.int a a', Eqn.int b b', Eqn.int c c', Eqn.int d d', Eqn.int x x', Eqn.int y y', Eqn.int z z', Eqn.nat k k', Eqn.get k (fnR dd) gd'])) (Tree.need (A.inB e.obj n) (Tree.node (A.nt (A.eq (opOf e.op) (o (A.toN e.obj)).kind)) (Tree.leaf (SV.sh (Sh.er 4 125), 0, [Eqn.int many many', Eqn.nat m m, Eqn.get m gR gR, Eqn.mp M1 M1, Eqn.int e.tx e.tx, Eqn.mp M2 M2, Eqn.nat n n, Eqn.get n (fnR o) (fnR o), Eqn.int a a', Eqn.int b b', Eqn.int c c', Eqn.int d d', Eqn.int x x', Eqn.int y y', Eqn.int z z', Eqn.nat k k', Eqn.get k (fnR dd) gd'])) (Tree.need (A.eq e.tx e.tx) (Tree.must [Eqn.int e.tx e.tx, Eqn.int e.thread e.thread, Eqn.int e.obj e.obj, Eqn.int e.op e.op, Eqn.int e.key e.key, Eqn.int e.val e.val, Eqn.int e.ret e.ret, Eqn.int many many, Eqn.nat m m, Eqn.fun_ gR gR, Eqn.mp M1 M1, Eqn.int e.tx e.tx, Eqn.mp M2 M2, Eqn.nat n n, Eqn.fun_ (fnR o) (fnR o), Eqn.int a a, Eqn.int b b, Eqn.int c c, Eqn.int d d, Eqn.int x x, Eqn.int y y, Eqn.int z z, Eqn.nat k k, Eqn.fun_ (fnR dd) (fnR dd), Eqn.int e.tx e.tx, Eqn.int e.thread e.thread, Eqn.int e.obj e.obj, Eqn.int e.op e.op, Eqn.int e.key e.key, Eqn.int e.val e.val, Eqn.int e.ret e.ret] (Tree.must [Eqn.int e.tx e.tx, Eqn.int e.thread e.thread, Eqn.int e.obj e.obj, Eqn.int e.op e.op, Eqn.int e.key e.key, Eqn.int e.val e.val, Eqn.int e.ret e.ret, Eqn.int many many, Eqn.nat m m, Eqn.fun_ gR gR, Eqn.mp M1 M1, Eqn.int e.tx e.tx, Eqn.mp M2 M2, Eqn.nat n n, Eqn.fun_ (fnR o) (fnR o), Eqn.int a a, Eqn.int b b, Eqn.int c c, Eqn.int d d, Eqn.int x x, Eqn.int y y, Eqn.int z z, Eqn.nat k k, Eqn.fun_ (fnR dd) (fnR dd), Eqn.int e.tx e.tx, Eqn.int e.thread e.thread, Eqn.int e.obj e.obj, Eqn.int e.op e.op, Eqn.int e.key e.key, Eqn.int e.val e.val, Eqn.int e.ret e.ret] (Tree.node (A.eq z (Int.ofNat 1)) (Tree.need (A.room (A.addN k 1) 64) (Tree.need (A.room (A.addN k 1) 64) (Tree.must [Eqn.int e.tx e.tx, Eqn.int e.thread e.thread, Eqn.int e.obj e.obj, Eqn.int e.op e.op, Eqn.int e.key e.key, Eqn.int e.val e.val, Eqn.int e.ret e.ret, Eqn.int many many, Eqn.int many many, Eqn.nat m m, Eqn.fun_ gR gR, Eqn.mp M1 M1, Eqn.int e.tx e.tx, Eqn.mp M2 M2, Eqn.nat n n, Eqn.fun_ (fnR o) (fnR o), Eqn.int a a, Eqn.int b b, Eqn.int c c, Eqn.int d d, Eqn.int x x, Eqn.int y y, Eqn.int e.tx e.tx, Eqn.int e.thread e.thread, Eqn.int e.obj e.obj, Eqn.int e.op e.op, Eqn.int e.key e.key, Eqn.int e.val e.val, Eqn.int e.ret e.ret, Eqn.int e.tx e.tx, Eqn.int e.thread e.thread, Eqn.int e.obj e.obj, Eqn.int e.op e.op, Eqn.int e.key e.key, Eqn.int e.val e.val, Eqn.int e.ret e.ret, Eqn.int e.obj e.obj, Eqn.int e.op e.op, Eqn.int e.key e.key, Eqn.int e.val e.val, Eqn.int many many, Eqn.nat (A.addN k 1) (A.addN k 1), Eqn.fun_ (A.snoc (fnR dd) k (nthL [[Sh.i IntKind.i64 e.obj, Sh.i IntKind.i64 e.op, Sh.i IntKind.i64 e.key, Sh.i IntKind.i64 e.val, Sh.i IntKind.i64 (Int.ofNat 0), Sh.i IntKind.i64 (Int.ofNat 0), Sh.i IntKind.i64 many, Sh.i IntKind.i64 (Int.negSucc 0)]])) (A.snoc (fnR dd) k (nthL [[Sh.i IntKind.i64 e.obj, Sh.i IntKind.i64 e.op, Sh.i IntKind.i64 e.key, Sh.i IntKind.i64 e.val, Sh.i IntKind.i64 (Int.ofNat 0), Sh.i IntKind.i64 (Int.ofNat 0), Sh.i IntKind.i64 many, Sh.i IntKind.i64 (Int.negSucc 0)]]))] (Tree.leaf (SV.nili, 0, [Eqn.int (A.add IntKind.i64 many (Int.ofNat 1)) many', Eqn.nat m m, Eqn.get m gR gR, Eqn.mp M1 M1, Eqn.int e.tx e.tx, Eqn.mp M2 M2, Eqn.nat n n, Eqn.get n (fnR o) (fnR o), Eqn.int a a', Eqn.int b b', Eqn.int c c', Eqn.int d d', Eqn.int x x', Eqn.int y y', Eqn.int (Int.ofNat 2) z', Eqn.nat (A.addN k 1) k', Eqn.get (A.addN k 1) (A.snoc (fnR dd) k (nthL [[Sh.i IntKind.i64 e.obj, Sh.i IntKind.i64 e.op, Sh.i IntKind.i64 e.key, Sh.i IntKind.i64 e.val, Sh.i IntKind.i64 (Int.ofNat 0), Sh.i IntKind.i64 (Int.ofNat 0), Sh.i IntKind.i64 many, Sh.i IntKind.i64 (Int.negSucc 0)]])) gd']))))) (Tree.leaf (SV.sh (Sh.er 7 125), 0, [Eqn.int many many', Eqn.nat m m, Eqn.get m gR gR, Eqn.mp M1 M1, Eqn.int e.tx e.tx, Eqn.mp M2 M2, Eqn.nat n n, Eqn.get n (fnR o) (fnR o), Eqn.int a a', Eqn.int b b', Eqn.int c c', Eqn.int d d', Eqn.int x x', Eqn.int y y', Eqn.int z z', Eqn.nat k k', Eqn.get k (fnR dd) gd'])))))))))) := by kernel_rfl
theorem n53_2 (A : Prim) (W : Wd) (n m : Nat) (o : Nat → Oj) (many : Int) (gR : Nat → List Sh) (M1 M2 : Int → Option Value) (e : Ev) (many' : Int) : (run (C5 A W spec53 unroll) 700 true 53 [.code []] (LA 2 e (hpA n m o many gR M1 M2 [(e.tx, false, .any)] []))).bind (toEnd [toN n m o many' gR M1 M2 [(e.tx, false, .any)] []]) = Tree.node (A.eq many (Int.ofNat 400)) (Tree.leaf (SV.sh (Sh.er 2 125), 0, [Eqn.int many many', Eqn.nat m m, Eqn.get m gR gR, Eqn.mp M1 M1, Eqn.int e.tx e.tx, Eqn.mp M2 M2, Eqn.nat n n, Eqn.get n (fnR o) (fnR o)])) (Tree.need (validB { kind := Int.ofNat 2, tx := e.tx, thread := e.thread, obj := e.obj, op := e.op, key := e.key, val := e.val, ret := e.ret }) (Tree.node (A.le (A.ofN n) e.obj) (Tree.leaf (SV.sh (Sh.er 3 125), 0, [Eqn.int many many', Eqn.nat m m, Eqn.get m gR gR, Eqn.mp M1 M1, Eqn.int e.tx e.tx, Eqn.mp M2 M2, Eqn.nat n n, Eqn.get n (fnR o) (fnR o)])) (Tree.need (A.inB e.obj n) (Tree.node (A.nt (A.eq (opOf e.op) (o (A.toN e.obj)).kind)) (Tree.leaf (SV.sh (Sh.er 4 125), 0, [Eqn.int many many', Eqn.nat m m, Eqn.get m gR gR, Eqn.mp M1 M1, Eqn.int e.tx e.tx, Eqn.mp M2 M2, Eqn.nat n n, Eqn.get n (fnR o) (fnR o)])) (Tree.need (A.eq e.tx e.tx) (Tree.leaf (SV.sh (Sh.er 0 125), 0, [Eqn.int many many', Eqn.nat m m, Eqn.get m gR gR, Eqn.mp M1 M1, Eqn.int e.tx e.tx, Eqn.mp M2 M2, Eqn.nat n n, Eqn.get n (fnR o) (fnR o)]))))))) := by kernel_rfl
theorem f53_3 (A : Prim) (W : Wd) (n m : Nat) (o : Nat → Oj) (many : Int) (gR : Nat → List Sh) (M1 M2 : Int → Option Value) (e : Ev) (a b c d x y z : Int) (k : Nat) (dd : Nat → De) (many' a' b' c' d' x' y' z' : Int) (k' : Nat) (gd' : Nat → List Sh) : (run (C5 A W spec53 unroll) 700 true 53 [.code []] (LA 3 e (hpA n m o many gR M1 M2 [(e.tx, true, .ptr 4 0)] [] ++ hpR a b c d x y z k (fnR dd)))).bind (toEnd [toR n m o gR M1 M2 e many' a' b' c' d' x' y' z' k' gd' []]) = Tree.node (A.eq many (Int.ofNat 400)) (Tree.leaf (SV.sh (Sh.er 2 125), 0, [Eqn.int many many', Eqn.nat m m, Eqn.get m gR gR, Eqn.mp M1 M1, Eqn.int e.tx e.tx, Eqn.mp M2 M2, Eqn.nat n n, Eqn.get n (fnR o) (fnR o), Eqn.int a a', Eqn.int b b', Eqn.int c c', Eqn.int d d', Eqn.int x x', Eqn.int y y', Eqn.int z z', Eqn.nat k k', Eqn.get k (fnR dd) gd'])) (Tree.need (validB { kind := Int.ofNat 3, tx := e.tx, thread := e.thread, obj := e.obj, op := e.op, key := e.key, val := e.val, ret := e.ret }) (Tree.need (A.eq e.tx e.tx) (Tree.must [Eqn.int e.tx e.tx, Eqn.int e.thread e.thread, Eqn.int e.obj e.obj, Eqn.int e.op e.op, Eqn.int e.key e.key, Eqn.int e.val e.val, Eqn.int e.ret e.ret, Eqn.int many many, Eqn.nat m m, Eqn.fun_ gR gR, Eqn.mp M1 M1, Eqn.int e.tx e.tx, Eqn.mp M2 M2, Eqn.nat n n, Eqn.fun_ (fnR o) (fnR o), Eqn.int a a, Eqn.int b b, Eqn.int c c, Eqn.int d d, Eqn.int x x, Eqn.int y y, Eqn.int z z, Eqn.nat k k, Eqn.fun_ (fnR dd) (fnR dd), Eqn.int e.tx e.tx, Eqn.int e.thread e.thread, Eqn.int e.obj e.obj, Eqn.int e.op e.op, Eqn.int e.key e.key, Eqn.int e.val e.val, Eqn.int e.ret e.ret] (Tree.must [Eqn.int e.tx e.tx, Eqn.int e.thread e.thread, Eqn.int e.obj e.obj, Eqn.int e.op e.op, Eqn.int e.key e.key, Eqn.int e.val e.val, Eqn.int e.ret e.ret, Eqn.int many many, Eqn.nat m m, Eqn.fun_ gR gR, Eqn.mp M1 M1, Eqn.int e.tx e.tx, Eqn.mp M2 M2, Eqn.nat n n, Eqn.fun_ (fnR o) (fnR o), Eqn.int a a, Eqn.int b b, Eqn.int c c, Eqn.int d d, Eqn.int x x, Eqn.int y y, Eqn.int z z, Eqn.nat k k, Eqn.fun_ (fnR dd) (fnR dd), Eqn.int e.tx e.tx, Eqn.int e.thread e.thread, Eqn.int e.obj e.obj, Eqn.int e.op e.op, Eqn.int e.key e.key, Eqn.int e.val e.val, Eqn.int e.ret e.ret] (Tree.node (A.eq z (Int.ofNat 2)) (Tree.need (A.inB (A.sub IntKind.i64 (A.ofN k) (Int.ofNat 1)) k) (Tree.node (A.nt (fitsB (dd (A.toN (A.sub IntKind.i64 (A.ofN k) (Int.ofNat 1)))).op e.ret)) (Tree.leaf (SV.sh (Sh.er 10 125), 0, [Eqn.int many many', Eqn.nat m m, Eqn.get m gR gR, Eqn.mp M1 M1, Eqn.int e.tx e.tx, Eqn.mp M2 M2, Eqn.nat n n, Eqn.get n (fnR o) (fnR o), Eqn.int a a', Eqn.int b b', Eqn.int c c', Eqn.int d d', Eqn.int x x', Eqn.int y y', Eqn.int z z', Eqn.nat k k', Eqn.get k (fnR dd) gd'])) (Tree.leaf (SV.nili, 0, [Eqn.int (A.add IntKind.i64 many (Int.ofNat 1)) many', Eqn.nat m m, Eqn.get m gR gR, Eqn.mp M1 M1, Eqn.int e.tx e.tx, Eqn.mp M2 M2, Eqn.nat n n, Eqn.get n (fnR o) (fnR o), Eqn.int a a', Eqn.int b b', Eqn.int c c', Eqn.int d d', Eqn.int x x', Eqn.int y y', Eqn.int (Int.ofNat 1) z', Eqn.nat k k', Eqn.get k (A.upd (A.upd (A.upd (fnR dd) (A.toN (A.sub IntKind.i64 (A.ofN k) (Int.ofNat 1))) 4 [Sh.i IntKind.i64 e.ret]) (A.toN (A.sub IntKind.i64 (A.ofN k) (Int.ofNat 1))) 5 [Sh.i IntKind.i64 e.val]) (A.toN (A.sub IntKind.i64 (A.ofN k) (Int.ofNat 1))) 7 [Sh.i IntKind.i64 many]) gd'])))) (Tree.leaf (SV.sh (Sh.er 7 125), 0, [Eqn.int many many', Eqn.nat m m, Eqn.get m gR gR, Eqn.mp M1 M1, Eqn.int e.tx e.tx, Eqn.mp M2 M2, Eqn.nat n n, Eqn.get n (fnR o) (fnR o), Eqn.int a a', Eqn.int b b', Eqn.int c c', Eqn.int d d', Eqn.int x x', Eqn.int y y', Eqn.int z z', Eqn.nat k k', Eqn.get k (fnR dd) gd']))))))) := by kernel_rfl
theorem n53_3 (A : Prim) (W : Wd) (n m : Nat) (o : Nat → Oj) (many : Int) (gR : Nat → List Sh) (M1 M2 : Int → Option Value) (e : Ev) (many' : Int) : (run (C5 A W spec53 unroll) 700 true 53 [.code []] (LA 3 e (hpA n m o many gR M1 M2 [(e.tx, false, .any)] []))).bind (toEnd [toN n m o many' gR M1 M2 [(e.tx, false, .any)] []]) = Tree.node (A.eq many (Int.ofNat 400)) (Tree.leaf (SV.sh (Sh.er 2 125), 0, [Eqn.int many many', Eqn.nat m m, Eqn.get m gR gR, Eqn.mp M1 M1, Eqn.int e.tx e.tx, Eqn.mp M2 M2, Eqn.nat n n, Eqn.get n (fnR o) (fnR o)])) (Tree.need (validB { kind := Int.ofNat 3, tx := e.tx, thread := e.thread, obj := e.obj, op := e.op, key := e.key, val := e.val, ret := e.ret }) (Tree.need (A.eq e.tx e.tx) (Tree.leaf (SV.sh (Sh.er 0 125), 0, [Eqn.int many many', Eqn.nat m m, Eqn.get m gR gR, Eqn.mp M1 M1, Eqn.int e.tx e.tx, Eqn.mp M2 M2, Eqn.nat n n, Eqn.get n (fnR o) (fnR o)])))) := by kernel_rfl
theorem f53_4 (A : Prim) (W : Wd) (n m : Nat) (o : Nat → Oj) (many : Int) (gR : Nat → List Sh) (M1 M2 : Int → Option Value) (e : Ev) (a b c d x y z : Int) (k : Nat) (dd : Nat → De) (many' a' b' c' d' x' y' z' : Int) (k' : Nat) (gd' : Nat → List Sh) : (run (C5 A W spec53 unroll) 700 true 53 [.code []] (LA 4 e (hpA n m o many gR M1 M2 [(e.tx, true, .ptr 4 0)] [] ++ hpR a b c d x y z k (fnR dd)))).bind (toEnd [toR n m o gR M1 M2 e many' a' b' c' d' x' y' z' k' gd' []]) = Tree.node (A.eq many (Int.ofNat 400)) (Tree.leaf (SV.sh (Sh.er 2 125), 0, [Eqn.int many many', Eqn.nat m m, Eqn.get m gR gR, Eqn.mp M1 M1, Eqn.int e.tx e.tx, Eqn.mp M2 M2, Eqn.nat n n, Eqn.get n (fnR o) (fnR o), Eqn.int a a', Eqn.int b b', Eqn.int c c', Eqn.int d d', Eqn.int x x', Eqn.int y y', Eqn.int z z', Eqn.nat k k', Eqn.get k (fnR dd) gd'])) (Tree.need (validB { kind := Int.ofNat 4, tx := e.tx, thread := e.thread, obj := e.obj, op := e.op, key := e.key, val := e.val, ret := e.ret }) (Tree.need (A.eq e.tx e.tx) (Tree.must [Eqn.int e.tx e.tx, Eqn.int e.thread e.thread, Eqn.int e.obj e.obj, Eqn.int e.op e.op, Eqn.int e.key e.key, Eqn.int e.val e.val, Eqn.int e.ret e.ret, Eqn.int many many, Eqn.nat m m, Eqn.fun_ gR gR, Eqn.mp M1 M1, Eqn.int e.tx e.tx, Eqn.mp M2 M2, Eqn.nat n n, Eqn.fun_ (fnR o) (fnR o), Eqn.int a a, Eqn.int b b, Eqn.int c c, Eqn.int d d, Eqn.int x x, Eqn.int y y, Eqn.int z z, Eqn.nat k k, Eqn.fun_ (fnR dd) (fnR dd), Eqn.int e.tx e.tx, Eqn.int e.thread e.thread, Eqn.int e.obj e.obj, Eqn.int e.op e.op, Eqn.int e.key e.key, Eqn.int e.val e.val, Eqn.int e.ret e.ret] (Tree.must [Eqn.int e.tx e.tx, Eqn.int e.thread e.thread, Eqn.int e.obj e.obj, Eqn.int e.op e.op, Eqn.int e.key e.key, Eqn.int e.val e.val, Eqn.int e.ret e.ret, Eqn.int many many, Eqn.nat m m, Eqn.fun_ gR gR, Eqn.mp M1 M1, Eqn.int e.tx e.tx, Eqn.mp M2 M2, Eqn.nat n n, Eqn.fun_ (fnR o) (fnR o), Eqn.int a a, Eqn.int b b, Eqn.int c c, Eqn.int d d, Eqn.int x x, Eqn.int y y, Eqn.int z z, Eqn.nat k k, Eqn.fun_ (fnR dd) (fnR dd), Eqn.int e.tx e.tx, Eqn.int e.thread e.thread, Eqn.int e.obj e.obj, Eqn.int e.op e.op, Eqn.int e.key e.key, Eqn.int e.val e.val, Eqn.int e.ret e.ret] (Tree.node (A.eq z (Int.ofNat 1)) (Tree.leaf (SV.nili, 0, [Eqn.int (A.add IntKind.i64 many (Int.ofNat 1)) many', Eqn.nat m m, Eqn.get m gR gR, Eqn.mp M1 M1, Eqn.int e.tx e.tx, Eqn.mp M2 M2, Eqn.nat n n, Eqn.get n (fnR o) (fnR o), Eqn.int a a', Eqn.int b b', Eqn.int (Int.ofNat 2) c', Eqn.int d d', Eqn.int x x', Eqn.int many y', Eqn.int (Int.ofNat 3) z', Eqn.nat k k', Eqn.get k (fnR dd) gd'])) (Tree.leaf (SV.sh (Sh.er 7 125), 0, [Eqn.int many many', Eqn.nat m m, Eqn.get m gR gR, Eqn.mp M1 M1, Eqn.int e.tx e.tx, Eqn.mp M2 M2, Eqn.nat n n, Eqn.get n (fnR o) (fnR o), Eqn.int a a', Eqn.int b b', Eqn.int c c', Eqn.int d d', Eqn.int x x', Eqn.int y y', Eqn.int z z', Eqn.nat k k', Eqn.get k (fnR dd) gd']))))))) := by kernel_rfl
theorem n53_4 (A : Prim) (W : Wd) (n m : Nat) (o : Nat → Oj) (many : Int) (gR : Nat → List Sh) (M1 M2 : Int → Option Value) (e : Ev) (many' : Int) : (run (C5 A W spec53 unroll) 700 true 53 [.code []] (LA 4 e (hpA n m o many gR M1 M2 [(e.tx, false, .any)] []))).bind (toEnd [toN n m o many' gR M1 M2 [(e.tx, false, .any)] []]) = Tree.node (A.eq many (Int.ofNat 400)) (Tree.leaf (SV.sh (Sh.er 2 125), 0, [Eqn.int many many', Eqn.nat m m, Eqn.get m gR gR, Eqn.mp M1 M1, Eqn.int e.tx e.tx, Eqn.mp M2 M2, Eqn.nat n n, Eqn.get n (fnR o) (fnR o)])) (Tree.need (validB { kind := Int.ofNat 4, tx := e.tx, thread := e.thread, obj := e.obj, op := e.op, key := e.key, val := e.val, ret := e.ret }) (Tree.need (A.eq e.tx e.tx) (Tree.leaf (SV.sh (Sh.er 0 125), 0, [Eqn.int many many', Eqn.nat m m, Eqn.get m gR gR, Eqn.mp M1 M1, Eqn.int e.tx e.tx, Eqn.mp M2 M2, Eqn.nat n n, Eqn.get n (fnR o) (fnR o)])))) := by kernel_rfl
theorem f53_5 (A : Prim) (W : Wd) (n m : Nat) (o : Nat → Oj) (many : Int) (gR : Nat → List Sh) (M1 M2 : Int → Option Value) (e : Ev) (a b c d x y z : Int) (k : Nat) (dd : Nat → De) (many' a' b' c' d' x' y' z' : Int) (k' : Nat) (gd' : Nat → List Sh) : (run (C5 A W spec53 unroll) 700 true 53 [.code []] (LA 5 e (hpA n m o many gR M1 M2 [(e.tx, true, .ptr 4 0)] [] ++ hpR a b c d x y z k (fnR dd)))).bind (toEnd [toR n m o gR M1 M2 e many' a' b' c' d' x' y' z' k' gd' [], toR n m o gR M1 M2 e many' a' b' c' d' x' y' z' k' gd' [(b, false, .any)]]) = Tree.node (A.eq many (Int.ofNat 400)) (Tree.leaf (SV.sh (Sh.er 2 125), 0, [Eqn.int many many', Eqn.nat m m, Eqn.get m gR gR, Eqn.mp M1 M1, Eqn.int e.tx e.tx, Eqn.mp M2 M2, Eqn.nat n n, Eqn.get n (fnR o) (fnR o), Eqn.int a a', Eqn.int b b', Eqn.int c c', Eqn.int d d', Eqn.int x x', Eqn.int y y', Eqn.int z z', Eqn.nat k k', Eqn.get k (fnR dd) gd'])) (Tree.need (validB { kind := Int.ofNat 5, tx := e.tx, thread := e.thread, obj := e.obj, op := e.op, key := e.key, val := e.val, ret := e.ret }) (Tree.need (A.eq e.tx e.tx) (Tree.must [Eqn.int e.tx e.tx, Eqn.int e.thread e.thread, Eqn.int e.obj e.obj, Eqn.int e.op e.op, Eqn.int e.key e.key, Eqn.int e.val e.val, Eqn.int e.ret e.ret, Eqn.int many many, Eqn.nat m m, Eqn.fun_ gR gR, Eqn.mp M1 M1, Eqn.int e.tx e.tx, Eqn.mp M2 M2, Eqn.nat n n, Eqn.fun_ (fnR o) (fnR o), Eqn.int a a, Eqn.int b b, Eqn.int c c, Eqn.int d d, Eqn.int x x, Eqn.int y y, Eqn.int z z, Eqn.nat k k, Eqn.fun_ (fnR dd) (fnR dd), Eqn.int e.tx e.tx, Eqn.int e.thread e.thread, Eqn.int e.obj e.obj, Eqn.int e.op e.op, Eqn.int e.key e.key, Eqn.int e.val e.val, Eqn.int e.ret e.ret] (Tree.must [Eqn.int e.tx e.tx, Eqn.int e.thread e.thread, Eqn.int e.obj e.obj, Eqn.int e.op e.op, Eqn.int e.key e.key, Eqn.int e.val e.val, Eqn.int e.ret e.ret, Eqn.int many many, Eqn.nat m m, Eqn.fun_ gR gR, Eqn.mp M1 M1, Eqn.int e.tx e.tx, Eqn.mp M2 M2, Eqn.nat n n, Eqn.fun_ (fnR o) (fnR o), Eqn.int a a, Eqn.int b b, Eqn.int c c, Eqn.int d d, Eqn.int x x, Eqn.int y y, Eqn.int z z, Eqn.nat k k, Eqn.fun_ (fnR dd) (fnR dd), Eqn.int e.tx e.tx, Eqn.int e.thread e.thread, Eqn.int e.obj e.obj, Eqn.int e.op e.op, Eqn.int e.key e.key, Eqn.int e.val e.val, Eqn.int e.ret e.ret] (Tree.node (A.eq z (Int.ofNat 3)) (Tree.leaf (SV.nili, 1, [Eqn.int (A.add IntKind.i64 many (Int.ofNat 1)) many', Eqn.nat m m, Eqn.get m gR gR, Eqn.mp M1 M1, Eqn.int e.tx e.tx, Eqn.mp M2 M2, Eqn.int b b, Eqn.nat n n, Eqn.get n (fnR o) (fnR o), Eqn.int a a', Eqn.int b b', Eqn.int (Int.ofNat 3) c', Eqn.int d d', Eqn.int many x', Eqn.int y y', Eqn.int (Int.ofNat 5) z', Eqn.nat k k', Eqn.get k (fnR dd) gd'])) (Tree.leaf (SV.sh (Sh.er 7 125), 0, [Eqn.int many many', Eqn.nat m m, Eqn.get m gR gR, Eqn.mp M1 M1, Eqn.int e.tx e.tx, Eqn.mp M2 M2, Eqn.nat n n, Eqn.get n (fnR o) (fnR o), Eqn.int a a', Eqn.int b b', Eqn.int c c', Eqn.int d d', Eqn.int x x', Eqn.int y y', Eqn.int z z', Eqn.nat k k', Eqn.get k (fnR dd) gd']))))))) := by kernel_rfl
theorem n53_5 (A : Prim) (W : Wd) (n m : Nat) (o : Nat → Oj) (many : Int) (gR : Nat → List Sh) (M1 M2 : Int → Option Value) (e : Ev) (many' : Int) : (run (C5 A W spec53 unroll) 700 true 53 [.code []] (LA 5 e (hpA n m o many gR M1 M2 [(e.tx, false, .any)] []))).bind (toEnd [toN n m o many' gR M1 M2 [(e.tx, false, .any)] []]) = Tree.node (A.eq many (Int.ofNat 400)) (Tree.leaf (SV.sh (Sh.er 2 125), 0, [Eqn.int many many', Eqn.nat m m, Eqn.get m gR gR, Eqn.mp M1 M1, Eqn.int e.tx e.tx, Eqn.mp M2 M2, Eqn.nat n n, Eqn.get n (fnR o) (fnR o)])) (Tree.need (validB { kind := Int.ofNat 5, tx := e.tx, thread := e.thread, obj := e.obj, op := e.op, key := e.key, val := e.val, ret := e.ret }) (Tree.need (A.eq e.tx e.tx) (Tree.leaf (SV.sh (Sh.er 0 125), 0, [Eqn.int many many', Eqn.nat m m, Eqn.get m gR gR, Eqn.mp M1 M1, Eqn.int e.tx e.tx, Eqn.mp M2 M2, Eqn.nat n n, Eqn.get n (fnR o) (fnR o)])))) := by kernel_rfl
theorem f53_6 (A : Prim) (W : Wd) (n m : Nat) (o : Nat → Oj) (many : Int) (gR : Nat → List Sh) (M1 M2 : Int → Option Value) (e : Ev) (a b c d x y z : Int) (k : Nat) (dd : Nat → De) (many' a' b' c' d' x' y' z' : Int) (k' : Nat) (gd' : Nat → List Sh) : (run (C5 A W spec53 unroll) 700 true 53 [.code []] (LA 6 e (hpA n m o many gR M1 M2 [(e.tx, true, .ptr 4 0)] [] ++ hpR a b c d x y z k (fnR dd)))).bind (toEnd [toR n m o gR M1 M2 e many' a' b' c' d' x' y' z' k' gd' [], toR n m o gR M1 M2 e many' a' b' c' d' x' y' z' k' gd' [(b, false, .any)]]) = Tree.node (A.eq many (Int.ofNat 400)) (Tree.leaf (SV.sh (Sh.er 2 125), 0, [Eqn.int many many', Eqn.nat m m, Eqn.get m gR gR, Eqn.mp M1 M1, Eqn.int e.tx e.tx, Eqn.mp M2 M2, Eqn.nat n n, Eqn.get n (fnR o) (fnR o), Eqn.int a a', Eqn.int b b', Eqn.int c c', Eqn.int d d', Eqn.int x x', Eqn.int y y', Eqn.int z z', Eqn.nat k k', Eqn.get k (fnR dd) gd'])) (Tree.need (validB { kind := Int.ofNat 6, tx := e.tx, thread := e.thread, obj := e.obj, op := e.op, key := e.key, val := e.val, ret := e.ret }) (Tree.need (A.eq e.tx e.tx) (Tree.must [Eqn.int e.tx e.tx, Eqn.int e.thread e.thread, Eqn.int e.obj e.obj, Eqn.int e.op e.op, Eqn.int e.key e.key, Eqn.int e.val e.val, Eqn.int e.ret e.ret, Eqn.int many many, Eqn.nat m m, Eqn.fun_ gR gR, Eqn.mp M1 M1, Eqn.int e.tx e.tx, Eqn.mp M2 M2, Eqn.nat n n, Eqn.fun_ (fnR o) (fnR o), Eqn.int a a, Eqn.int b b, Eqn.int c c, Eqn.int d d, Eqn.int x x, Eqn.int y y, Eqn.int z z, Eqn.nat k k, Eqn.fun_ (fnR dd) (fnR dd), Eqn.int e.tx e.tx, Eqn.int e.thread e.thread, Eqn.int e.obj e.obj, Eqn.int e.op e.op, Eqn.int e.key e.key, Eqn.int e.val e.val, Eqn.int e.ret e.ret] (Tree.must [Eqn.int e.tx e.tx, Eqn.int e.thread e.thread, Eqn.int e.obj e.obj, Eqn.int e.op e.op, Eqn.int e.key e.key, Eqn.int e.val e.val, Eqn.int e.ret e.ret, Eqn.int many many, Eqn.nat m m, Eqn.fun_ gR gR, Eqn.mp M1 M1, Eqn.int e.tx e.tx, Eqn.mp M2 M2, Eqn.nat n n, Eqn.fun_ (fnR o) (fnR o), Eqn.int a a, Eqn.int b b, Eqn.int c c, Eqn.int d d, Eqn.int x x, Eqn.int y y, Eqn.int z z, Eqn.nat k k, Eqn.fun_ (fnR dd) (fnR dd), Eqn.int e.tx e.tx, Eqn.int e.thread e.thread, Eqn.int e.obj e.obj, Eqn.int e.op e.op, Eqn.int e.key e.key, Eqn.int e.val e.val, Eqn.int e.ret e.ret] (Tree.node (A.eq z (Int.ofNat 1)) (Tree.leaf (SV.nili, 1, [Eqn.int (A.add IntKind.i64 many (Int.ofNat 1)) many', Eqn.nat m m, Eqn.get m gR gR, Eqn.mp M1 M1, Eqn.int e.tx e.tx, Eqn.mp M2 M2, Eqn.int b b, Eqn.nat n n, Eqn.get n (fnR o) (fnR o), Eqn.int a a', Eqn.int b b', Eqn.int (Int.ofNat 4) c', Eqn.int d d', Eqn.int many x', Eqn.int y y', Eqn.int (Int.ofNat 5) z', Eqn.nat k k', Eqn.get k (fnR dd) gd'])) (Tree.node (A.eq z (Int.ofNat 2)) (Tree.leaf (SV.nili, 1, [Eqn.int (A.add IntKind.i64 many (Int.ofNat 1)) many', Eqn.nat m m, Eqn.get m gR gR, Eqn.mp M1 M1, Eqn.int e.tx e.tx, Eqn.mp M2 M2, Eqn.int b b, Eqn.nat n n, Eqn.get n (fnR o) (fnR o), Eqn.int a a', Eqn.int b b', Eqn.int (Int.ofNat 4) c', Eqn.int d d', Eqn.int many x', Eqn.int y y', Eqn.int (Int.ofNat 5) z', Eqn.nat k k', Eqn.get k (fnR dd) gd'])) (Tree.node (A.eq z (Int.ofNat 3)) (Tree.leaf (SV.nili, 1, [Eqn.int (A.add IntKind.i64 many (Int.ofNat 1)) many', Eqn.nat m m, Eqn.get m gR gR, Eqn.mp M1 M1, Eqn.int e.tx e.tx, Eqn.mp M2 M2, Eqn.int b b, Eqn.nat n n, Eqn.get n (fnR o) (fnR o), Eqn.int a a', Eqn.int b b', Eqn.int (Int.ofNat 4) c', Eqn.int d d', Eqn.int many x', Eqn.int y y', Eqn.int (Int.ofNat 5) z', Eqn.nat k k', Eqn.get k (fnR dd) gd'])) (Tree.node (A.eq z (Int.ofNat 4)) (Tree.leaf (SV.nili, 1, [Eqn.int (A.add IntKind.i64 many (Int.ofNat 1)) many', Eqn.nat m m, Eqn.get m gR gR, Eqn.mp M1 M1, Eqn.int e.tx e.tx, Eqn.mp M2 M2, Eqn.int b b, Eqn.nat n n, Eqn.get n (fnR o) (fnR o), Eqn.int a a', Eqn.int b b', Eqn.int (Int.ofNat 4) c', Eqn.int d d', Eqn.int many x', Eqn.int y y', Eqn.int (Int.ofNat 5) z', Eqn.nat k k', Eqn.get k (fnR dd) gd'])) (Tree.leaf (SV.sh (Sh.er 7 125), 0, [Eqn.int many many', Eqn.nat m m, Eqn.get m gR gR, Eqn.mp M1 M1, Eqn.int e.tx e.tx, Eqn.mp M2 M2, Eqn.nat n n, Eqn.get n (fnR o) (fnR o), Eqn.int a a', Eqn.int b b', Eqn.int c c', Eqn.int d d', Eqn.int x x', Eqn.int y y', Eqn.int z z', Eqn.nat k k', Eqn.get k (fnR dd) gd'])))))))))) := by kernel_rfl
theorem n53_6 (A : Prim) (W : Wd) (n m : Nat) (o : Nat → Oj) (many : Int) (gR : Nat → List Sh) (M1 M2 : Int → Option Value) (e : Ev) (many' : Int) : (run (C5 A W spec53 unroll) 700 true 53 [.code []] (LA 6 e (hpA n m o many gR M1 M2 [(e.tx, false, .any)] []))).bind (toEnd [toN n m o many' gR M1 M2 [(e.tx, false, .any)] []]) = Tree.node (A.eq many (Int.ofNat 400)) (Tree.leaf (SV.sh (Sh.er 2 125), 0, [Eqn.int many many', Eqn.nat m m, Eqn.get m gR gR, Eqn.mp M1 M1, Eqn.int e.tx e.tx, Eqn.mp M2 M2, Eqn.nat n n, Eqn.get n (fnR o) (fnR o)])) (Tree.need (validB { kind := Int.ofNat 6, tx := e.tx, thread := e.thread, obj := e.obj, op := e.op, key := e.key, val := e.val, ret := e.ret }) (Tree.need (A.eq e.tx e.tx) (Tree.leaf (SV.sh (Sh.er 0 125), 0, [Eqn.int many many', Eqn.nat m m, Eqn.get m gR gR, Eqn.mp M1 M1, Eqn.int e.tx e.tx, Eqn.mp M2 M2, Eqn.nat n n, Eqn.get n (fnR o) (fnR o)])))) := by kernel_rfl
theorem f53_7 (A : Prim) (W : Wd) (n m : Nat) (o : Nat → Oj) (many : Int) (gR : Nat → List Sh) (M1 M2 : Int → Option Value) (e : Ev) (a b c d x y z : Int) (k : Nat) (dd : Nat → De) (many' a' b' c' d' x' y' z' : Int) (k' : Nat) (gd' : Nat → List Sh) : (run (C5 A W spec53 unroll) 700 true 53 [.code []] (LA 7 e (hpA n m o many gR M1 M2 [(e.tx, true, .ptr 4 0)] [] ++ hpR a b c d x y z k (fnR dd)))).bind (toEnd [toR n m o gR M1 M2 e many' a' b' c' d' x' y' z' k' gd' []]) = Tree.node (A.eq many (Int.ofNat 400)) (Tree.leaf (SV.sh (Sh.er 2 125), 0, [Eqn.int many many', Eqn.nat m m, Eqn.get m gR gR, Eqn.mp M1 M1, Eqn.int e.tx e.tx, Eqn.mp M2 M2, Eqn.nat n n, Eqn.get n (fnR o) (fnR o), Eqn.int a a', Eqn.int b b', Eqn.int c c', Eqn.int d d', Eqn.int x x', Eqn.int y y', Eqn.int z z', Eqn.nat k k', Eqn.get k (fnR dd) gd'])) (Tree.need (validB { kind := Int.ofNat 7, tx := e.tx, thread := e.thread, obj := e.obj, op := e.op, key := e.key, val := e.val, ret := e.ret }) (Tree.need (A.eq e.tx e.tx) (Tree.must [Eqn.int e.tx e.tx, Eqn.int e.thread e.thread, Eqn.int e.obj e.obj, Eqn.int e.op e.op, Eqn.int e.key e.key, Eqn.int e.val e.val, Eqn.int e.ret e.ret, Eqn.int many many, Eqn.nat m m, Eqn.fun_ gR gR, Eqn.mp M1 M1, Eqn.int e.tx e.tx, Eqn.mp M2 M2, Eqn.nat n n, Eqn.fun_ (fnR o) (fnR o), Eqn.int a a, Eqn.int b b, Eqn.int c c, Eqn.int d d, Eqn.int x x, Eqn.int y y, Eqn.int z z, Eqn.nat k k, Eqn.fun_ (fnR dd) (fnR dd), Eqn.int e.tx e.tx, Eqn.int e.thread e.thread, Eqn.int e.obj e.obj, Eqn.int e.op e.op, Eqn.int e.key e.key, Eqn.int e.val e.val, Eqn.int e.ret e.ret] (Tree.must [Eqn.int e.tx e.tx, Eqn.int e.thread e.thread, Eqn.int e.obj e.obj, Eqn.int e.op e.op, Eqn.int e.key e.key, Eqn.int e.val e.val, Eqn.int e.ret e.ret, Eqn.int many many, Eqn.nat m m, Eqn.fun_ gR gR, Eqn.mp M1 M1, Eqn.int e.tx e.tx, Eqn.mp M2 M2, Eqn.nat n n, Eqn.fun_ (fnR o) (fnR o), Eqn.int a a, Eqn.int b b, Eqn.int c c, Eqn.int d d, Eqn.int x x, Eqn.int y y, Eqn.int z z, Eqn.nat k k, Eqn.fun_ (fnR dd) (fnR dd), Eqn.int e.tx e.tx, Eqn.int e.thread e.thread, Eqn.int e.obj e.obj, Eqn.int e.op e.op, Eqn.int e.key e.key, Eqn.int e.val e.val, Eqn.int e.ret e.ret] (Tree.node (A.eq z (Int.ofNat 1)) (Tree.leaf (SV.nili, 0, [Eqn.int (A.add IntKind.i64 many (Int.ofNat 1)) many', Eqn.nat m m, Eqn.get m gR gR, Eqn.mp M1 M1, Eqn.int e.tx e.tx, Eqn.mp M2 M2, Eqn.nat n n, Eqn.get n (fnR o) (fnR o), Eqn.int a a', Eqn.int b b', Eqn.int c c', Eqn.int d d', Eqn.int x x', Eqn.int y y', Eqn.int (Int.ofNat 4) z', Eqn.nat k k', Eqn.get k (fnR dd) gd'])) (Tree.leaf (SV.sh (Sh.er 7 125), 0, [Eqn.int many many', Eqn.nat m m, Eqn.get m gR gR, Eqn.mp M1 M1, Eqn.int e.tx e.tx, Eqn.mp M2 M2, Eqn.nat n n, Eqn.get n (fnR o) (fnR o), Eqn.int a a', Eqn.int b b', Eqn.int c c', Eqn.int d d', Eqn.int x x', Eqn.int y y', Eqn.int z z', Eqn.nat k k', Eqn.get k (fnR dd) gd']))))))) := by kernel_rfl
theorem n53_7 (A : Prim) (W : Wd) (n m : Nat) (o : Nat → Oj) (many : Int) (gR : Nat → List Sh) (M1 M2 : Int → Option Value) (e : Ev) (many' : Int) : (run (C5 A W spec53 unroll) 700 true 53 [.code []] (LA 7 e (hpA n m o many gR M1 M2 [(e.tx, false, .any)] []))).bind (toEnd [toN n m o many' gR M1 M2 [(e.tx, false, .any)] []]) = Tree.node (A.eq many (Int.ofNat 400)) (Tree.leaf (SV.sh (Sh.er 2 125), 0, [Eqn.int many many', Eqn.nat m m, Eqn.get m gR gR, Eqn.mp M1 M1, Eqn.int e.tx e.tx, Eqn.mp M2 M2, Eqn.nat n n, Eqn.get n (fnR o) (fnR o)])) (Tree.need (validB { kind := Int.ofNat 7, tx := e.tx, thread := e.thread, obj := e.obj, op := e.op, key := e.key, val := e.val, ret := e.ret }) (Tree.need (A.eq e.tx e.tx) (Tree.leaf (SV.sh (Sh.er 0 125), 0, [Eqn.int many many', Eqn.nat m m, Eqn.get m gR gR, Eqn.mp M1 M1, Eqn.int e.tx e.tx, Eqn.mp M2 M2, Eqn.nat n n, Eqn.get n (fnR o) (fnR o)])))) := by kernel_rfl
theorem b53_1 (A : Prim) (W : Wd) (n m : Nat) (o : Nat → Oj) (many : Int) (gR : Nat → List Sh) (M1 M2 : Int → Option Value) (e : Ev) (a b c d x y z : Int) (k : Nat) (dd : Nat → De) (many' a' b' c' d' x' y' z' : Int) (k' : Nat) (gd' : Nat → List Sh) : (run (C5 A W spec53 unroll) 700 true 53 [.code []] (LA 1 e (hpA n m o many gR M1 M2 [(e.tx, true, .ptr 4 0)] [] ++ hpR a b c d x y z k (fnR dd)))).bind (toEnd [toR n m o gR M1 M2 e many' a' b' c' d' x' y' z' k' gd' []]) = Tree.node (A.eq many (Int.ofNat 400)) (Tree.leaf (SV.sh (Sh.er 2 125), 0, [Eqn.int many many', Eqn.nat m m, Eqn.get m gR gR, Eqn.mp M1 M1, Eqn.int e.tx e.tx, Eqn.mp M2 M2, Eqn.nat n n, Eqn.get n (fnR o) (fnR o), Eqn.int a a', Eqn.int b b', Eqn.int c c', Eqn.int d d', Eqn.int x x', Eqn.int y y', Eqn.int z z', Eqn.nat k k', Eqn.get k (fnR dd) gd'])) (Tree.need (validB { kind := Int.ofNat 1, tx := e.tx, thread := e.thread, obj := e.obj, op := e.op, key := e.key, val := e.val, ret := e.ret }) (Tree.need (A.eq e.tx e.tx) (Tree.leaf (SV.sh (Sh.er 5 125), 0, [Eqn.int many many', Eqn.nat m m, Eqn.get m gR gR, Eqn.mp M1 M1, Eqn.int e.tx e.tx, Eqn.mp M2 M2, Eqn.nat n n, Eqn.get n (fnR o) (fnR o), Eqn.int a a', Eqn.int b b', Eqn.int c c', Eqn.int d d', Eqn.int x x', Eqn.int y y', Eqn.int z z', Eqn.nat k k', Eqn.get k (fnR dd) gd'])))) := by kernel_rfl
theorem b53_2 (A : Prim) (W : Wd) (n m : Nat) (o : Nat → Oj) (many : Int) (gR : Nat → List Sh) (M1 M2 : Int → Option Value) (e : Ev) (q : Nat) (many' : Int) : (run (C5 A W spec53 unroll) 700 true 53 [.code []] (LA 1 e (hpA n m o many gR M1 M2 [(e.tx, false, .any)] [(e.thread, true, .val (.pointer (some ⟨q, 0, none⟩)))]))).bind (toEnd [toN n m o many' gR M1 M2 [(e.tx, false, .any)] [(e.thread, true, .val (.pointer (some ⟨q, 0, none⟩)))]]) = Tree.node (A.eq many (Int.ofNat 400)) (Tree.leaf (SV.sh (Sh.er 2 125), 0, [Eqn.int many many', Eqn.nat m m, Eqn.get m gR gR, Eqn.mp M1 M1, Eqn.int e.tx e.tx, Eqn.mp M2 M2, Eqn.int e.thread e.thread, Eqn.val (Value.pointer (some { block := q, off := 0 })) (Value.pointer (some { block := q, off := 0 })), Eqn.nat n n, Eqn.get n (fnR o) (fnR o)])) (Tree.need (validB { kind := Int.ofNat 1, tx := e.tx, thread := e.thread, obj := e.obj, op := e.op, key := e.key, val := e.val, ret := e.ret }) (Tree.need (A.eq e.tx e.tx) (Tree.need (A.eq e.thread e.thread) (Tree.leaf (SV.sh (Sh.er 6 125), 0, [Eqn.int many many', Eqn.nat m m, Eqn.get m gR gR, Eqn.mp M1 M1, Eqn.int e.tx e.tx, Eqn.mp M2 M2, Eqn.int e.thread e.thread, Eqn.val (Value.pointer (some { block := q, off := 0 })) (Value.pointer (some { block := q, off := 0 })), Eqn.nat n n, Eqn.get n (fnR o) (fnR o)]))))) := by kernel_rfl
theorem b53_3 (A : Prim) (W : Wd) (n m : Nat) (o : Nat → Oj) (many : Int) (gR : Nat → List Sh) (M1 M2 : Int → Option Value) (e : Ev) (many' a' b' c' d' x' y' z' : Int) : (run (C5 A W spec53 unroll) 700 true 53 [.code []] (LA 1 e (hpA n m o many gR M1 M2 [(e.tx, false, .any)] [(e.thread, false, .any)]))).bind (toEnd [toB n m o gR M1 M2 e many' a' b' c' d' x' y' z']) = Tree.node (A.eq many (Int.ofNat 400)) Tree.fail (Tree.need (validB { kind := Int.ofNat 1, tx := e.tx, thread := e.thread, obj := e.obj, op := e.op, key := e.key, val := e.val, ret := e.ret }) (Tree.need (A.eq e.tx e.tx) (Tree.need (A.eq e.thread e.thread) (Tree.need (A.room (A.addN m 1) 8) (Tree.need (A.eq e.tx e.tx) (Tree.need (A.eq e.thread e.thread) (Tree.leaf (SV.nili, 0, [Eqn.int (A.add IntKind.i64 many (Int.ofNat 1)) many', Eqn.nat n n, Eqn.get n (fnR o) (fnR o), Eqn.nat m m, Eqn.get m gR gR, Eqn.mp M1 M1, Eqn.int e.tx e.tx, Eqn.int e.tx e.tx, Eqn.int e.tx e.tx, Eqn.mp M2 M2, Eqn.int e.thread e.thread, Eqn.int e.thread e.thread, Eqn.int e.thread e.thread, Eqn.int e.tx a', Eqn.int e.thread b', Eqn.int (Int.ofNat 1) c', Eqn.int many d', Eqn.int (Int.negSucc 0) x', Eqn.int (Int.negSucc 0) y', Eqn.int (Int.ofNat 1) z'])))))))) := by kernel_rfl
end Go.Proofs
namespace Go.Pl
open Go Go.Sx
/-- A transaction, and where it stands. -/
structure Rc where
  id : Int
  th : Int
  st : Int
  bg : Int
  en : Int
  tr : Int
  deeds : List De
  stand : Int
/-- An automaton: how many events it has taken, its transactions. -/
structure Au where
  many : Nat
  rs : List Rc
def Au.byIx (σ : Au) (k : Int) : Option Nat := σ.rs.findIdx? fun r => r.id == k
def Rc.live (r : Rc) : Bool := !(r.stand == 5)
def Au.buIx (σ : Au) (k : Int) : Option Nat := σ.rs.findIdx? fun r => r.th == k && r.live
/-- The last one of a list is turned. -/
def upLast {α : Type} (f : α → α) : List α → List α
  | [] => []
  | [x] => [f x]
  | x :: y :: l => x :: upLast f (y :: l)
/-- What an event does to its transaction; an error, or the transaction then. -/
def Rc.step (many : Nat) (e : Ev) (r : Rc) : Nat ⊕ Rc :=
  bif e.kind == 2 then bif r.stand == 1 then .inr { r with stand := 2, deeds := r.deeds ++ [⟨e.obj, e.op, e.key, e.val, 0, 0, many, -1⟩] } else .inl 7
  else bif e.kind == 3 then bif r.stand == 2 then bif fitsB (r.deeds.getLast?.getD Row.dft).op e.ret then .inr { r with stand := 1, deeds := upLast (fun d => { d with ret := e.ret, got := e.val, back := many }) r.deeds } else .inl 10 else .inl 7
  else bif e.kind == 4 then bif r.stand == 1 then .inr { r with stand := 3, tr := many, st := 2 } else .inl 7
  else bif e.kind == 7 then bif r.stand == 1 then .inr { r with stand := 4 } else .inl 7
  else bif e.kind == 5 then bif r.stand == 3 then .inr { r with stand := 5, en := many, st := 3 } else .inl 7
  else bif r.stand == 1 || r.stand == 2 || r.stand == 3 || r.stand == 4 then .inr { r with stand := 5, en := many, st := 4 } else .inl 7
/-- A valid event: the error, if any; what the automaton is then. -/
def Au.feed (σ : Au) (e : Ev) : Option Nat × Au :=
  match σ.byIx e.tx with
  | some i => bif e.kind == 1 then (some 5, σ) else match Rc.step σ.many e (σ.rs.getD i ⟨0, 0, 0, 0, 0, 0, [], 0⟩) with
    | .inl k => (some k, σ)
    | .inr r => (none, ⟨σ.many + 1, σ.rs.set i r⟩)
  | none => bif e.kind == 1 then (match σ.buIx e.thread with
    | some _ => (some 6, σ)
    | none => (none, ⟨σ.many + 1, σ.rs ++ [⟨e.tx, e.thread, 1, σ.many, -1, -1, [], 1⟩]⟩)) else (some 0, σ)
/-- What holds of an automaton. -/
structure Au.OK (σ : Au) : Prop where
  one : ∀ (i j : Nat) (r s : Rc), σ.rs[i]? = some r → σ.rs[j]? = some s → r.th = s.th → r.live = true → s.live = true → i = j
  deed : ∀ (i : Nat) (r : Rc), σ.rs[i]? = some r → r.stand = 2 → r.deeds ≠ []
  stands : ∀ (i : Nat) (r : Rc), σ.rs[i]? = some r → 1 ≤ r.stand ∧ r.stand ≤ 5
  len : σ.rs.length ≤ σ.many
  dl : ∀ (i : Nat) (r : Rc), σ.rs[i]? = some r → r.deeds.length ≤ σ.many
end Go.Pl
namespace Go.Sx
open Go.Pl
def ptrV (b : Nat) : Value := .pointer (some ⟨b, 0, none⟩)
/-- Where an automaton lies. -/
structure Lay where
  p : Nat
  v0 : Value
  v2 : Value
  b1 : Nat
  b2 : Nat
  R : Nat → Nat
  D : Nat → Value
inductive Tg where
  | au | tx | by_ | bu | ob
  | rc (i : Nat)
  | de (i : Nat)
  deriving DecidableEq
def Lay.blk (L : Lay) (n : Nat) : Tg → Option Nat
  | .au => some L.p
  | .tx => blkV L.v2
  | .by_ => some L.b1
  | .bu => some L.b2
  | .ob => blkV L.v0
  | .rc i => if i < n then some (L.R i) else none
  | .de i => if i < n then blkV (L.D i) else none
def rcCells (r : Rc) (d : Value) : Array Value := #[.int .i64 r.id, .int .i64 r.th, .int .i64 r.st, .int .i64 r.bg, .int .i64 r.en, .int .i64 r.tr, d, .int .i64 r.stand]
def deV (d : De) : List Value := [.int .i64 d.obj, .int .i64 d.op, .int .i64 d.key, .int .i64 d.val, .int .i64 d.ret, .int .i64 d.got, .int .i64 d.here, .int .i64 d.back]
/-- Memory holds an automaton. -/
structure AutoAt (H : Mem) (w : World) (n0 : Nat) (g0 : Nat → List Sh) (σ : Au) (L : Lay) : Prop where
  au : w.heap[L.p]? = some (.cells #[L.v0, .int .i64 σ.many, L.v2, .map (some L.b1), .map (some L.b2)] 87 (0, 0))
  ob : ∃ xs, w.ownsRow 0 31 2 L.v0 n0 xs ∧ RepRows H 2 n0 g0 xs
  tx : w.ownsRow 0 88 1 L.v2 σ.rs.length ((List.range σ.rs.length).map fun i => ptrV (L.R i))
  by_ : ∃ ms clk, w.heap[L.b1]? = some (.map ms clk) ∧ MapOK .i64 ms.toList clk fun k => (σ.byIx k).map fun i => ptrV (L.R i)
  bu : ∃ ms clk, w.heap[L.b2]? = some (.map ms clk) ∧ MapOK .i64 ms.toList clk fun k => (σ.buIx k).map fun i => ptrV (L.R i)
  rc : ∀ i r, σ.rs[i]? = some r → w.heap[L.R i]? = some (.cells (rcCells r (L.D i)) 90 (0, 0))
  de : ∀ i r, σ.rs[i]? = some r → w.ownsRow 0 72 8 (L.D i) r.deeds.length (r.deeds.flatMap deV)
  dis : ∀ s t b, L.blk σ.rs.length s = some b → L.blk σ.rs.length t = some b → s = t
  un : ∀ t b, L.blk σ.rs.length t = some b → H b = none
section
variable {H H' : Mem} {w w' : World} {n0 : Nat} {g0 : Nat → List Sh} {σ : Au} {L : Lay}
theorem owns_in {e st n : Nat} {v : Value} {xs : List Value} {b : Nat} (h : w.ownsRow 0 e st v n xs) (hb : blkV v = some b) : b < w.heap.size := by
  rcases h.2 with ⟨rfl, _⟩ | ⟨g, cap, cur, rfl, _, hg, _⟩
  · cases hb
  · cases hb
    exact (Array.getElem?_eq_some_iff.1 hg).1
theorem AutoAt.lt (h : AutoAt H w n0 g0 σ L) {t : Tg} {b : Nat} (hb : L.blk σ.rs.length t = some b) : b < w.heap.size := by
  cases t with
  | au => cases hb; exact (Array.getElem?_eq_some_iff.1 h.au).1
  | tx => exact owns_in h.tx hb
  | by_ => cases hb; obtain ⟨ms, clk, h1, _⟩ := h.by_; exact (Array.getElem?_eq_some_iff.1 h1).1
  | bu => cases hb; obtain ⟨ms, clk, h1, _⟩ := h.bu; exact (Array.getElem?_eq_some_iff.1 h1).1
  | ob => obtain ⟨xs, h1, _⟩ := h.ob; exact owns_in h1 hb
  | rc i =>
    simp only [Lay.blk] at hb
    split at hb
    · rename_i hi
      cases hb
      exact (Array.getElem?_eq_some_iff.1 (h.rc i _ (List.getElem?_eq_getElem hi))).1
    · cases hb
  | de i =>
    simp only [Lay.blk] at hb
    split at hb
    · rename_i hi
      exact owns_in (h.de i _ (List.getElem?_eq_getElem hi)) hb
    · cases hb
/-- It lies there still, where its blocks are as they were. -/
theorem AutoAt.keep (h : AutoAt H w n0 g0 σ L) (hH : H.le H') (hw : ∀ t b, L.blk σ.rs.length t = some b → w'.heap[b]? = w.heap[b]?) (hu : ∀ t b, L.blk σ.rs.length t = some b → H' b = none) : AutoAt H' w' n0 g0 σ L := by
  refine ⟨by rw [hw .au _ rfl]; exact h.au, (let ⟨xs, h1, h2⟩ := h.ob; ⟨xs, ownsRow_kept h1 fun b hb => hw .ob b hb, h2.le hH⟩), ownsRow_kept h.tx fun b hb => hw .tx b hb, ?_, ?_, fun i r hi => ?_, fun i r hi => ownsRow_kept (h.de i r hi) fun b hb => hw (.de i) b ?_, h.dis, hu⟩
  · obtain ⟨ms, clk, h1, h2⟩ := h.by_
    exact ⟨ms, clk, by rw [hw .by_ _ rfl]; exact h1, h2⟩
  · obtain ⟨ms, clk, h1, h2⟩ := h.bu
    exact ⟨ms, clk, by rw [hw .bu _ rfl]; exact h1, h2⟩
  · have hlt := (List.getElem?_eq_some_iff.1 hi).1
    rw [hw (.rc i) _ (by simp [Lay.blk, hlt])]
    exact h.rc i r hi
  · have hlt := (List.getElem?_eq_some_iff.1 hi).1
    simp [Lay.blk, hlt, hb]
end
end Go.Sx
namespace Go.Sx
open Go.Pl
def svE : Option Nat → SV
  | none => .nili
  | some k => .sh (.er k 125)
end Go.Sx
namespace Go.Pl
open Go Go.Sx
/-- The error; how many events then; the transaction then. -/
def Rc.out (many : Nat) (e : Ev) (r : Rc) : Option Nat × Nat × Rc :=
  match Rc.step many e r with
  | .inl k => (some k, many, r)
  | .inr r' => (none, many + 1, r')
theorem upLast_length {α : Type} (f : α → α) : ∀ l : List α, (upLast f l).length = l.length
  | [] => rfl
  | [_] => rfl
  | _ :: y :: l => by simp [upLast, upLast_length f (y :: l)]
theorem nth_last {α : Type} [Row α] {l : List α} (h : l ≠ []) : nth l (l.length - 1) = l.getLast?.getD Row.dft := by
  simp [nth, List.getLast?_eq_getElem?]
theorem upLast_nth {α : Type} [Row α] (f : α → α) : ∀ (l : List α) (i : Nat), i < l.length → nth (upLast f l) i = if i = l.length - 1 then f (nth l i) else nth l i
  | [], i, h => by simp at h
  | [x], i, h => by
    have : i = 0 := by simp at h; exact h
    subst this
    simp [upLast, nth]
  | x :: y :: l, 0, _ => by simp [upLast, nth]
  | x :: y :: l, i + 1, h => by
    have ih := upLast_nth f (y :: l) i (by simpa using h)
    have e1 : nth (upLast f (x :: y :: l)) (i + 1) = nth (upLast f (y :: l)) i := by simp [upLast, nth]
    have e2 : nth (x :: y :: l) (i + 1) = nth (y :: l) i := by simp [nth]
    rw [e1, ih, e2]
    by_cases q : i = (y :: l).length - 1
    · rw [if_pos q, if_pos (by simp at q ⊢; omega)]
    · rw [if_neg q, if_neg (by simp at q ⊢; omega)]
end Go.Pl
namespace Go.Proofs
open Go Go.Sx Go.Pl
theorem O56v : FnOK Tryd.prog (gls5 W5) 56 F56v := O56.mono fun H shs args φ hr h => by
  clear hr
  unfold F56v at h
  split at h
  · rename_i l
    split at h
    · rename_i e he
      obtain ⟨h1, h2⟩ := h
      unfold validB at h1
      simp only [Bool.and_eq_true] at h1
      show (match evOf l with | some e => _ | none => _ : Tree Sh).All φ
      rw [he]
      refine ⟨h1.2, fun _ => ?_, fun q => ?_⟩
      · refine ⟨fun _ => h2, fun q => ?_⟩
        rw [h1.1.2] at q; cases q
      · rw [h1.1.1] at q; cases q
    · exact h.elim
  · exact h.elim
theorem O53s : ∀ g F, spec53 g = some F → FnOK Tryd.prog (gls5 W5) g F := fun g F h => by
  unfold spec53 at h
  split at h
  · cases h; exact O56v
  · cases h; exact O57
  · cases h; exact O67
  · cases h
theorem fok53 (stop : Nat → List Nat → Bool) : FnsOK Tryd.prog (C5 prim W5 spec53 stop) := C5.fok O53s fun g h => by
  unfold spec53 at h
  split at h
  all_goals first | (cases h; done) | kernel_rfl
theorem eqT {a : Int} {k : Nat} (h : prim.eq a (Int.ofNat k) = true) : a = (k : Int) := by simpa [prim_eq] using h
theorem eqF {a : Int} {k : Nat} (h : prim.eq a (Int.ofNat k) = false) : a ≠ (k : Int) := by simpa [prim_eq] using h
theorem eqS (a : Int) : prim.eq a a = true := by simp [prim_eq]
theorem wrapM {many : Nat} (hm : many < 400) : prim.add .i64 (many : Int) 1 = ((many + 1 : Nat) : Int) := by
  rw [prim_add, wrap_id (by omega) (by omega)]; rfl
/-- The state that is told, of a record. -/
def toRc (n m : Nat) (o : Nat → Oj) (gR : Nat → List Sh) (M1 M2 : Int → Option Value) (e : Ev) (many : Nat) (r : Rc) (us : List (Int × Bool × SV)) : TgE :=
  toR n m o gR M1 M2 e many r.id r.th r.st r.bg r.en r.tr r.stand r.deeds.length (fnR (nth r.deeds)) us
def hpRc (r : Rc) : List (Nat × SB) := hpR r.id r.th r.st r.bg r.en r.tr r.stand r.deeds.length (fnR (nth r.deeds))
section
variable {n m : Nat} {o : Nat → Oj} {many : Nat} {gR : Nat → List Sh} {M1 M2 : Int → Option Value}
theorem rec53_4 (hm : many < 400) {e : Ev} (hk : e.kind = 4) (hv : validB e = true) (r : Rc) :
    MeetsN (EndOK [toRc n m o gR M1 M2 e (Rc.out many e r).2.1 (Rc.out many e r).2.2 []] (fun sv k => sv = svE (Rc.out many e r).1 ∧ k = 0)) ((run (C5 prim W5 spec53 unroll) 700 true 53 [.code []] (LA 4 e (hpA n m o many gR M1 M2 [(e.tx, true, .ptr 4 0)] [] ++ hpRc r))).bind (toEnd [toRc n m o gR M1 M2 e (Rc.out many e r).2.1 (Rc.out many e r).2.2 []])) := by
  obtain ⟨kind, tx, thread, obj, op, key, val, ret⟩ := e
  obtain ⟨id, th, st, bg, en, tr, deeds, stand⟩ := r
  have hk : kind = 4 := hk
  subst hk
  have hw := wrapM hm
  by_cases hs : stand = 1
  · have e1 : Rc.out many ⟨4, tx, thread, obj, op, key, val, ret⟩ ⟨id, th, st, bg, en, tr, deeds, stand⟩ = (none, many + 1, ⟨id, th, 2, bg, en, many, deeds, 3⟩) := by
      subst hs; rfl
    rw [e1]
    unfold toRc hpRc
    simp only
    rw [f53_4 prim W5 n m o many gR M1 M2 ⟨4, tx, thread, obj, op, key, val, ret⟩ id th st bg en tr stand deeds.length (nth deeds) (many + 1 : Nat) id th 2 bg en many 3 deeds.length (fnR (nth deeds)), meetsN_eq]
    repeat' (first
      | exact trivial
      | exact hv
      | exact hw
      | exact eqS _
      | exact rfl
      | exact fun _ _ => rfl
      | (intro q; replace q := eqT q; first | (exfalso; omega) | skip)
      | (intro q; replace q := eqF q; first | (exfalso; omega) | skip)
      | refine And.intro ?_ ?_)
  · have e1 : Rc.out many ⟨4, tx, thread, obj, op, key, val, ret⟩ ⟨id, th, st, bg, en, tr, deeds, stand⟩ = (some 7, many, ⟨id, th, st, bg, en, tr, deeds, stand⟩) := by
      have d1 : (stand == 1) = false := by rw [beq_eq_false_iff_ne]; omega
      simp only [Rc.out, Rc.step, d1, Bool.or_false]
      rfl
    rw [e1]
    unfold toRc hpRc
    simp only
    rw [f53_4 prim W5 n m o many gR M1 M2 ⟨4, tx, thread, obj, op, key, val, ret⟩ id th st bg en tr stand deeds.length (nth deeds) (many : Nat) id th st bg en tr stand deeds.length (fnR (nth deeds)), meetsN_eq]
    repeat' (first
      | exact trivial
      | exact hv
      | exact hw
      | exact eqS _
      | exact rfl
      | exact fun _ _ => rfl
      | (intro q; replace q := eqT q; first | (exfalso; omega) | skip)
      | (intro q; replace q := eqF q; first | (exfalso; omega) | skip)
      | refine And.intro ?_ ?_)
theorem rec53_7 (hm : many < 400) {e : Ev} (hk : e.kind = 7) (hv : validB e = true) (r : Rc) :
    MeetsN (EndOK [toRc n m o gR M1 M2 e (Rc.out many e r).2.1 (Rc.out many e r).2.2 []] (fun sv k => sv = svE (Rc.out many e r).1 ∧ k = 0)) ((run (C5 prim W5 spec53 unroll) 700 true 53 [.code []] (LA 7 e (hpA n m o many gR M1 M2 [(e.tx, true, .ptr 4 0)] [] ++ hpRc r))).bind (toEnd [toRc n m o gR M1 M2 e (Rc.out many e r).2.1 (Rc.out many e r).2.2 []])) := by
  obtain ⟨kind, tx, thread, obj, op, key, val, ret⟩ := e
  obtain ⟨id, th, st, bg, en, tr, deeds, stand⟩ := r
  have hk : kind = 7 := hk
  subst hk
  have hw := wrapM hm
  by_cases hs : stand = 1
  · have e1 : Rc.out many ⟨7, tx, thread, obj, op, key, val, ret⟩ ⟨id, th, st, bg, en, tr, deeds, stand⟩ = (none, many + 1, ⟨id, th, st, bg, en, tr, deeds, 4⟩) := by
      subst hs; rfl
    rw [e1]
    unfold toRc hpRc
    simp only
    rw [f53_7 prim W5 n m o many gR M1 M2 ⟨7, tx, thread, obj, op, key, val, ret⟩ id th st bg en tr stand deeds.length (nth deeds) (many + 1 : Nat) id th st bg en tr 4 deeds.length (fnR (nth deeds)), meetsN_eq]
    repeat' (first
      | exact trivial
      | exact hv
      | exact hw
      | exact eqS _
      | exact rfl
      | exact fun _ _ => rfl
      | (intro q; replace q := eqT q; first | (exfalso; omega) | skip)
      | (intro q; replace q := eqF q; first | (exfalso; omega) | skip)
      | refine And.intro ?_ ?_)
  · have e1 : Rc.out many ⟨7, tx, thread, obj, op, key, val, ret⟩ ⟨id, th, st, bg, en, tr, deeds, stand⟩ = (some 7, many, ⟨id, th, st, bg, en, tr, deeds, stand⟩) := by
      have d1 : (stand == 1) = false := by rw [beq_eq_false_iff_ne]; omega
      simp only [Rc.out, Rc.step, d1, Bool.or_false]
      rfl
    rw [e1]
    unfold toRc hpRc
    simp only
    rw [f53_7 prim W5 n m o many gR M1 M2 ⟨7, tx, thread, obj, op, key, val, ret⟩ id th st bg en tr stand deeds.length (nth deeds) (many : Nat) id th st bg en tr stand deeds.length (fnR (nth deeds)), meetsN_eq]
    repeat' (first
      | exact trivial
      | exact hv
      | exact hw
      | exact eqS _
      | exact rfl
      | exact fun _ _ => rfl
      | (intro q; replace q := eqT q; first | (exfalso; omega) | skip)
      | (intro q; replace q := eqF q; first | (exfalso; omega) | skip)
      | refine And.intro ?_ ?_)
theorem rec53_5 (hm : many < 400) {e : Ev} (hk : e.kind = 5) (hv : validB e = true) (r : Rc) :
    MeetsN (EndOK [toRc n m o gR M1 M2 e (Rc.out many e r).2.1 (Rc.out many e r).2.2 [], toRc n m o gR M1 M2 e (Rc.out many e r).2.1 (Rc.out many e r).2.2 [(r.th, false, .any)]] (fun sv k => sv = svE (Rc.out many e r).1 ∧ k = (bif (Rc.out many e r).1.isNone then 1 else 0))) ((run (C5 prim W5 spec53 unroll) 700 true 53 [.code []] (LA 5 e (hpA n m o many gR M1 M2 [(e.tx, true, .ptr 4 0)] [] ++ hpRc r))).bind (toEnd [toRc n m o gR M1 M2 e (Rc.out many e r).2.1 (Rc.out many e r).2.2 [], toRc n m o gR M1 M2 e (Rc.out many e r).2.1 (Rc.out many e r).2.2 [(r.th, false, .any)]])) := by
  obtain ⟨kind, tx, thread, obj, op, key, val, ret⟩ := e
  obtain ⟨id, th, st, bg, en, tr, deeds, stand⟩ := r
  have hk : kind = 5 := hk
  subst hk
  have hw := wrapM hm
  by_cases hs : stand = 3
  · have e1 : Rc.out many ⟨5, tx, thread, obj, op, key, val, ret⟩ ⟨id, th, st, bg, en, tr, deeds, stand⟩ = (none, many + 1, ⟨id, th, 3, bg, many, tr, deeds, 5⟩) := by
      subst hs; rfl
    rw [e1]
    unfold toRc hpRc
    simp only
    rw [f53_5 prim W5 n m o many gR M1 M2 ⟨5, tx, thread, obj, op, key, val, ret⟩ id th st bg en tr stand deeds.length (nth deeds) (many + 1 : Nat) id th 3 bg many tr 5 deeds.length (fnR (nth deeds)), meetsN_eq]
    repeat' (first
      | exact trivial
      | exact hv
      | exact hw
      | exact eqS _
      | exact rfl
      | exact fun _ _ => rfl
      | (intro q; replace q := eqT q; first | (exfalso; omega) | skip)
      | (intro q; replace q := eqF q; first | (exfalso; omega) | skip)
      | refine And.intro ?_ ?_)
  · have e1 : Rc.out many ⟨5, tx, thread, obj, op, key, val, ret⟩ ⟨id, th, st, bg, en, tr, deeds, stand⟩ = (some 7, many, ⟨id, th, st, bg, en, tr, deeds, stand⟩) := by
      have d3 : (stand == 3) = false := by rw [beq_eq_false_iff_ne]; omega
      simp only [Rc.out, Rc.step, d3, Bool.or_false]
      rfl
    rw [e1]
    unfold toRc hpRc
    simp only
    rw [f53_5 prim W5 n m o many gR M1 M2 ⟨5, tx, thread, obj, op, key, val, ret⟩ id th st bg en tr stand deeds.length (nth deeds) (many : Nat) id th st bg en tr stand deeds.length (fnR (nth deeds)), meetsN_eq]
    repeat' (first
      | exact trivial
      | exact hv
      | exact hw
      | exact eqS _
      | exact rfl
      | exact fun _ _ => rfl
      | (intro q; replace q := eqT q; first | (exfalso; omega) | skip)
      | (intro q; replace q := eqF q; first | (exfalso; omega) | skip)
      | refine And.intro ?_ ?_)
theorem rec53_6 (hm : many < 400) {e : Ev} (hk : e.kind = 6) (hv : validB e = true) (r : Rc) :
    MeetsN (EndOK [toRc n m o gR M1 M2 e (Rc.out many e r).2.1 (Rc.out many e r).2.2 [], toRc n m o gR M1 M2 e (Rc.out many e r).2.1 (Rc.out many e r).2.2 [(r.th, false, .any)]] (fun sv k => sv = svE (Rc.out many e r).1 ∧ k = (bif (Rc.out many e r).1.isNone then 1 else 0))) ((run (C5 prim W5 spec53 unroll) 700 true 53 [.code []] (LA 6 e (hpA n m o many gR M1 M2 [(e.tx, true, .ptr 4 0)] [] ++ hpRc r))).bind (toEnd [toRc n m o gR M1 M2 e (Rc.out many e r).2.1 (Rc.out many e r).2.2 [], toRc n m o gR M1 M2 e (Rc.out many e r).2.1 (Rc.out many e r).2.2 [(r.th, false, .any)]])) := by
  obtain ⟨kind, tx, thread, obj, op, key, val, ret⟩ := e
  obtain ⟨id, th, st, bg, en, tr, deeds, stand⟩ := r
  have hk : kind = 6 := hk
  subst hk
  have hw := wrapM hm
  by_cases hs : stand = 1 ∨ stand = 2 ∨ stand = 3 ∨ stand = 4
  · have e1 : Rc.out many ⟨6, tx, thread, obj, op, key, val, ret⟩ ⟨id, th, st, bg, en, tr, deeds, stand⟩ = (none, many + 1, ⟨id, th, 4, bg, many, tr, deeds, 5⟩) := by
      rcases hs with rfl | rfl | rfl | rfl <;> rfl
    rw [e1]
    unfold toRc hpRc
    simp only
    rw [f53_6 prim W5 n m o many gR M1 M2 ⟨6, tx, thread, obj, op, key, val, ret⟩ id th st bg en tr stand deeds.length (nth deeds) (many + 1 : Nat) id th 4 bg many tr 5 deeds.length (fnR (nth deeds)), meetsN_eq]
    repeat' (first
      | exact trivial
      | exact hv
      | exact hw
      | exact eqS _
      | exact rfl
      | exact fun _ _ => rfl
      | (intro q; replace q := eqT q; first | (exfalso; omega) | skip)
      | (intro q; replace q := eqF q; first | (exfalso; omega) | skip)
      | refine And.intro ?_ ?_)
  · have e1 : Rc.out many ⟨6, tx, thread, obj, op, key, val, ret⟩ ⟨id, th, st, bg, en, tr, deeds, stand⟩ = (some 7, many, ⟨id, th, st, bg, en, tr, deeds, stand⟩) := by
      have d1 : (stand == 1) = false := by rw [beq_eq_false_iff_ne]; omega
      have d2 : (stand == 2) = false := by rw [beq_eq_false_iff_ne]; omega
      have d3 : (stand == 3) = false := by rw [beq_eq_false_iff_ne]; omega
      have d4 : (stand == 4) = false := by rw [beq_eq_false_iff_ne]; omega
      simp only [Rc.out, Rc.step, d1, d2, d3, d4, Bool.or_false]
      rfl
    rw [e1]
    unfold toRc hpRc
    simp only
    rw [f53_6 prim W5 n m o many gR M1 M2 ⟨6, tx, thread, obj, op, key, val, ret⟩ id th st bg en tr stand deeds.length (nth deeds) (many : Nat) id th st bg en tr stand deeds.length (fnR (nth deeds)), meetsN_eq]
    repeat' (first
      | exact trivial
      | exact hv
      | exact hw
      | exact eqS _
      | exact rfl
      | exact fun _ _ => rfl
      | (intro q; replace q := eqT q; first | (exfalso; omega) | skip)
      | (intro q; replace q := eqF q; first | (exfalso; omega) | skip)
      | refine And.intro ?_ ?_)
theorem rec53_2 (hm : many < 400) {e : Ev} (hk : e.kind = 2) (hv : validB e = true) (r : Rc) (hl : r.deeds.length ≤ 1000) (h1 : 0 ≤ e.obj) (h2 : e.obj < n) (h3 : opOf e.op = (o e.obj.toNat).kind):
    MeetsN (EndOK [toRc n m o gR M1 M2 e (Rc.out many e r).2.1 (Rc.out many e r).2.2 []] (fun sv k => sv = svE (Rc.out many e r).1 ∧ k = 0)) ((run (C5 prim W5 spec53 unroll) 700 true 53 [.code []] (LA 2 e (hpA n m o many gR M1 M2 [(e.tx, true, .ptr 4 0)] [] ++ hpRc r))).bind (toEnd [toRc n m o gR M1 M2 e (Rc.out many e r).2.1 (Rc.out many e r).2.2 []])) := by
  obtain ⟨kind, tx, thread, obj, op, key, val, ret⟩ := e
  obtain ⟨id, th, st, bg, en, tr, deeds, stand⟩ := r
  have hk : kind = 2 := hk
  subst hk
  have hw := wrapM hm
  have hl : deeds.length ≤ 1000 := hl
  have h1 : 0 ≤ obj := h1
  have h2 : obj < n := h2
  have h3 : opOf op = (o obj.toNat).kind := h3
  have ho : prim.le (prim.ofN n) obj = true → False := fun q => by simp [prim_le, prim_ofN] at q; omega
  have hi : prim.inB obj n = true := by simp [prim_inB]; omega
  have hq : prim.nt (prim.eq (opOf op) (o (prim.toN obj)).kind) = true → False := fun q => by
    simp [prim_nt, prim_eq, prim_toN] at q; exact q h3
  have hroom : prim.room (prim.addN deeds.length 1) 64 = true := by
    show decide ((deeds.length + 1) * 64 ≤ 140737488355328 ∧ deeds.length + 1 ≤ maxLen) = true
    rw [maxLen_eq]; exact decide_eq_true ⟨by omega, by omega⟩
  have hsn : ∀ i, i < deeds.length + 1 → prim.snoc (fnR (nth deeds)) deeds.length (nthL [[.i .i64 obj, .i .i64 op, .i .i64 key, .i .i64 val, .i .i64 0, .i .i64 0, .i .i64 many, .i .i64 (-1)]]) i = fnR (nth (deeds ++ [(⟨obj, op, key, val, 0, 0, many, -1⟩ : De)])) i := snoc_nth (α := De) _ _ rfl
  have hlen : deeds.length + 1 = (deeds ++ [(⟨obj, op, key, val, 0, 0, many, -1⟩ : De)]).length := by simp
  by_cases hs : stand = 1
  · have e1 : Rc.out many ⟨2, tx, thread, obj, op, key, val, ret⟩ ⟨id, th, st, bg, en, tr, deeds, stand⟩ = (none, many + 1, ⟨id, th, st, bg, en, tr, deeds ++ [⟨obj, op, key, val, 0, 0, many, -1⟩], 2⟩) := by
      subst hs; rfl
    rw [e1]
    unfold toRc hpRc
    simp only
    rw [f53_2 prim W5 n m o many gR M1 M2 ⟨2, tx, thread, obj, op, key, val, ret⟩ id th st bg en tr stand deeds.length (nth deeds) (many + 1 : Nat) id th st bg en tr 2 (deeds ++ [(⟨obj, op, key, val, 0, 0, (many : Int), -1⟩ : De)]).length (fnR (nth (deeds ++ [(⟨obj, op, key, val, 0, 0, (many : Int), -1⟩ : De)]))), meetsN_eq]
    repeat' (first
      | exact trivial
      | exact hv
      | exact hw
      | exact hi
      | exact hroom
      | exact hlen
      | exact hsn
      | (intro q; exact (ho q).elim)
      | (intro q; exact (hq q).elim)
      | exact eqS _
      | exact rfl
      | exact fun _ _ => rfl
      | (intro q; replace q := eqT q; first | (exfalso; omega) | skip)
      | (intro q; replace q := eqF q; first | (exfalso; omega) | skip)
      | intro _
      | refine And.intro ?_ ?_)
  · have e1 : Rc.out many ⟨2, tx, thread, obj, op, key, val, ret⟩ ⟨id, th, st, bg, en, tr, deeds, stand⟩ = (some 7, many, ⟨id, th, st, bg, en, tr, deeds, stand⟩) := by
      have d1 : (stand == 1) = false := by rw [beq_eq_false_iff_ne]; omega
      simp only [Rc.out, Rc.step, d1]
      rfl
    rw [e1]
    unfold toRc hpRc
    simp only
    rw [f53_2 prim W5 n m o many gR M1 M2 ⟨2, tx, thread, obj, op, key, val, ret⟩ id th st bg en tr stand deeds.length (nth deeds) (many : Nat) id th st bg en tr stand deeds.length (fnR (nth deeds)), meetsN_eq]
    repeat' (first
      | exact trivial
      | exact hv
      | exact hw
      | exact hi
      | exact hroom
      | exact hlen
      | exact hsn
      | (intro q; exact (ho q).elim)
      | (intro q; exact (hq q).elim)
      | exact eqS _
      | exact rfl
      | exact fun _ _ => rfl
      | (intro q; replace q := eqT q; first | (exfalso; omega) | skip)
      | (intro q; replace q := eqF q; first | (exfalso; omega) | skip)
      | intro _
      | refine And.intro ?_ ?_)
theorem rec53_3 (hm : many < 400) {e : Ev} (hk : e.kind = 3) (hv : validB e = true) (r : Rc) (hl : r.deeds.length ≤ 1000) (hd : r.stand = 2 → r.deeds ≠ []):
    MeetsN (EndOK [toRc n m o gR M1 M2 e (Rc.out many e r).2.1 (Rc.out many e r).2.2 []] (fun sv k => sv = svE (Rc.out many e r).1 ∧ k = 0)) ((run (C5 prim W5 spec53 unroll) 700 true 53 [.code []] (LA 3 e (hpA n m o many gR M1 M2 [(e.tx, true, .ptr 4 0)] [] ++ hpRc r))).bind (toEnd [toRc n m o gR M1 M2 e (Rc.out many e r).2.1 (Rc.out many e r).2.2 []])) := by
  obtain ⟨kind, tx, thread, obj, op, key, val, ret⟩ := e
  obtain ⟨id, th, st, bg, en, tr, deeds, stand⟩ := r
  have hk : kind = 3 := hk
  subst hk
  have hw := wrapM hm
  have hl : deeds.length ≤ 1000 := hl
  have hd : stand = 2 → deeds ≠ [] := hd
  by_cases hs : stand = 2
  · have hd := hd hs
    have hpos : 0 < deeds.length := List.length_pos_iff.2 hd
    have hix : prim.toN (prim.sub .i64 (prim.ofN deeds.length) (Int.ofNat 1)) = deeds.length - 1 := by
      rw [prim_sub, prim_ofN, prim_toN, wrap_id (by simp only [Int.ofNat_eq_natCast]; omega) (by simp only [Int.ofNat_eq_natCast]; omega)]; simp only [Int.ofNat_eq_natCast]; omega
    have hi : prim.inB (prim.sub .i64 (prim.ofN deeds.length) (Int.ofNat 1)) deeds.length = true := by
      rw [prim_sub, prim_ofN, wrap_id (by simp only [Int.ofNat_eq_natCast]; omega) (by simp only [Int.ofNat_eq_natCast]; omega), prim_inB]; simp only [Int.ofNat_eq_natCast]; exact decide_eq_true ⟨by omega, by omega⟩
    have hlast : nth deeds (deeds.length - 1) = deeds.getLast?.getD Row.dft := nth_last hd
    by_cases hf : fitsB (deeds.getLast?.getD Row.dft).op ret = true
    · have hq : prim.nt (fitsB (nth deeds (prim.toN (prim.sub .i64 (prim.ofN deeds.length) (Int.ofNat 1)))).op ret) = true → False := fun q => by
        rw [hix, hlast, prim_nt, hf] at q; cases q
      have hlen : deeds.length = (upLast (fun d : De => { d with ret := ret, got := val, back := (many : Int) }) deeds).length := (upLast_length _ _).symm
      have hup : ∀ i, i < deeds.length → prim.upd (prim.upd (prim.upd (fnR (nth deeds)) (prim.toN (prim.sub .i64 (prim.ofN deeds.length) (Int.ofNat 1))) 4 [.i .i64 ret]) (prim.toN (prim.sub .i64 (prim.ofN deeds.length) (Int.ofNat 1))) 5 [.i .i64 val]) (prim.toN (prim.sub .i64 (prim.ofN deeds.length) (Int.ofNat 1))) 7 [.i .i64 many] i = fnR (nth (upLast (fun d : De => { d with ret := ret, got := val, back := (many : Int) }) deeds)) i := fun i hi => by
        rw [hix]
        simp only [fnR]
        rw [upLast_nth _ _ _ hi]
        by_cases q : i = deeds.length - 1
        · rw [if_pos q]
          subst q
          simp only [prim, if_true]
          rfl
        · rw [if_neg q]
          simp only [prim, if_neg q]
          rfl
      have e1 : Rc.out many ⟨3, tx, thread, obj, op, key, val, ret⟩ ⟨id, th, st, bg, en, tr, deeds, stand⟩ = (none, many + 1, ⟨id, th, st, bg, en, tr, upLast (fun d => { d with ret := ret, got := val, back := many }) deeds, 1⟩) := by
        subst hs
        simp only [Rc.out, Rc.step, hf]
        rfl
      rw [e1]
      unfold toRc hpRc
      simp only
      rw [f53_3 prim W5 n m o many gR M1 M2 ⟨3, tx, thread, obj, op, key, val, ret⟩ id th st bg en tr stand deeds.length (nth deeds) (many + 1 : Nat) id th st bg en tr 1 (upLast (fun d : De => { d with ret := ret, got := val, back := (many : Int) }) deeds).length (fnR (nth (upLast (fun d : De => { d with ret := ret, got := val, back := (many : Int) }) deeds))), meetsN_eq]
      repeat' (first
        | exact trivial
        | exact hv
        | exact hw
        | exact hi
        | exact hlen
        | exact hup
        | (intro q; exact (hq q).elim)
        | exact eqS _
        | exact rfl
        | exact fun _ _ => rfl
        | (intro q; replace q := eqT q; first | (exfalso; omega) | skip)
        | (intro q; replace q := eqF q; first | (exfalso; omega) | skip)
        | intro _
        | refine And.intro ?_ ?_)
    · have hf : fitsB (deeds.getLast?.getD Row.dft).op ret = false := by simpa using hf
      have hq : prim.nt (fitsB (nth deeds (prim.toN (prim.sub .i64 (prim.ofN deeds.length) (Int.ofNat 1)))).op ret) = false → False := fun q => by
        rw [hix, hlast, prim_nt, hf] at q; cases q
      have hlen := hl
      have hup := hl
      have e1 : Rc.out many ⟨3, tx, thread, obj, op, key, val, ret⟩ ⟨id, th, st, bg, en, tr, deeds, stand⟩ = (some 10, many, ⟨id, th, st, bg, en, tr, deeds, stand⟩) := by
        subst hs
        simp only [Rc.out, Rc.step, hf]
        rfl
      rw [e1]
      unfold toRc hpRc
      simp only
      rw [f53_3 prim W5 n m o many gR M1 M2 ⟨3, tx, thread, obj, op, key, val, ret⟩ id th st bg en tr stand deeds.length (nth deeds) (many : Nat) id th st bg en tr stand deeds.length (fnR (nth deeds)), meetsN_eq]
      repeat' (first
        | exact trivial
        | exact hv
        | exact hw
        | exact hi
        | exact hlen
        | exact hup
        | (intro q; exact (hq q).elim)
        | exact eqS _
        | exact rfl
        | exact fun _ _ => rfl
        | (intro q; replace q := eqT q; first | (exfalso; omega) | skip)
        | (intro q; replace q := eqF q; first | (exfalso; omega) | skip)
        | intro _
        | refine And.intro ?_ ?_)
  · have hi := hl
    have hlen := hl
    have hup := hl
    have hq := hl
    have e1 : Rc.out many ⟨3, tx, thread, obj, op, key, val, ret⟩ ⟨id, th, st, bg, en, tr, deeds, stand⟩ = (some 7, many, ⟨id, th, st, bg, en, tr, deeds, stand⟩) := by
      have d1 : (stand == 2) = false := by rw [beq_eq_false_iff_ne]; omega
      simp only [Rc.out, Rc.step, d1]
      rfl
    rw [e1]
    unfold toRc hpRc
    simp only
    rw [f53_3 prim W5 n m o many gR M1 M2 ⟨3, tx, thread, obj, op, key, val, ret⟩ id th st bg en tr stand deeds.length (nth deeds) (many : Nat) id th st bg en tr stand deeds.length (fnR (nth deeds)), meetsN_eq]
    repeat' (first
      | exact trivial
      | exact hv
      | exact hw
      | exact eqS _
      | exact rfl
      | exact fun _ _ => rfl
      | (intro q; replace q := eqT q; first | (exfalso; omega) | skip)
      | (intro q; replace q := eqF q; first | (exfalso; omega) | skip)
      | refine And.intro ?_ ?_)
end
end Go.Proofs
namespace Go.Sx
open Go.Pl
theorem deV_length (d : De) : (deV d).length = 8 := rfl
theorem flat_length : ∀ l : List De, (l.flatMap deV).length = l.length * 8
  | [] => rfl
  | d :: l => by simp [flat_length l, deV_length, Nat.add_mul]; omega
theorem flat_at : ∀ (l : List De) (i j : Nat), j < 8 → (l.flatMap deV)[i * 8 + j]? = (l[i]?).bind fun d => (deV d)[j]?
  | [], i, j, _ => by simp
  | d :: l, 0, j, hj => by
    simp only [List.flatMap_cons, Nat.zero_mul, Nat.zero_add, List.getElem?_cons_zero, Option.bind_some]
    rw [List.getElem?_append_left (by rw [deV_length]; exact hj)]
  | d :: l, i + 1, j, hj => by
    simp only [List.flatMap_cons, List.getElem?_cons_succ]
    rw [List.getElem?_append_right (by rw [deV_length]; omega), deV_length, show (i + 1) * 8 + j - 8 = i * 8 + j by omega]
    exact flat_at l i j hj
theorem deV_one (d : De) : ∀ u ∈ deV d, u.oneCell' = true := fun u hu => by
  simp [deV] at hu
  rcases hu with rfl | rfl | rfl | rfl | rfl | rfl | rfl | rfl <;> rfl
theorem deR_rep {H : Mem} (d : De) (j : Nat) (s : Sh) (v : Value) (h1 : (deR d)[j]? = some s) (h2 : (deV d)[j]? = some v) : Rep H s v := by
  match j, h1, h2 with
  | 0, h1, h2 => cases h1; cases h2; exact .i _ _
  | 1, h1, h2 => cases h1; cases h2; exact .i _ _
  | 2, h1, h2 => cases h1; cases h2; exact .i _ _
  | 3, h1, h2 => cases h1; cases h2; exact .i _ _
  | 4, h1, h2 => cases h1; cases h2; exact .i _ _
  | 5, h1, h2 => cases h1; cases h2; exact .i _ _
  | 6, h1, h2 => cases h1; cases h2; exact .i _ _
  | 7, h1, h2 => cases h1; cases h2; exact .i _ _
  | j + 8, h1, h2 => simp [deR] at h1
theorem nth_some {α : Type} [Row α] {l : List α} {i : Nat} (h : i < l.length) : l[i]? = some (nth l i) := by
  simp [nth, List.getD_eq_getElem?_getD, h]
theorem rows_deeds {H : Mem} (l : List De) : RepRows H 8 l.length (fnR (nth l)) (l.flatMap deV) := by
  refine ⟨flat_length l, fun i _ => rfl, fun u hu => ?_, fun i j s v hi h1 h2 => ?_⟩
  · obtain ⟨d, _, hd⟩ := List.mem_flatMap.1 hu
    exact deV_one d u hd
  · have hj : j < 8 := by
      have := (List.getElem?_eq_some_iff.1 h1).1
      exact this
    rw [flat_at l i j hj, nth_some hi] at h2
    exact deR_rep (nth l i) j s v h1 h2
/-- Rows of numbers are known value by value. -/
theorem rows_deeds_eq {H : Mem} {l : List De} {xs : List Value} (h : RepRows H 8 l.length (fnR (nth l)) xs) : xs = l.flatMap deV := by
  apply List.ext_getElem?
  intro q
  by_cases hq : q < l.length * 8
  · have hi : q / 8 < l.length := by omega
    have hj : q % 8 < 8 := by omega
    have e : q = q / 8 * 8 + q % 8 := by omega
    rw [e, flat_at l _ _ hj, nth_some hi]
    have hx : q / 8 * 8 + q % 8 < xs.length := by rw [h.1]; omega
    rw [List.getElem?_eq_getElem hx]
    simp only [Option.bind_some]
    have hs : ∃ s, (deR (nth l (q / 8)))[q % 8]? = some s := ⟨_, List.getElem?_eq_getElem (by exact hj)⟩
    obtain ⟨s, hs⟩ := hs
    have hr := h.2.2.2 (q / 8) (q % 8) s _ hi hs (List.getElem?_eq_getElem hx)
    generalize xs[q / 8 * 8 + q % 8] = v at hr
    generalize q % 8 = j at hs hj hr
    match j, hs, hj with
    | 0, hs, _ => cases hs; cases hr; rfl
    | 1, hs, _ => cases hs; cases hr; rfl
    | 2, hs, _ => cases hs; cases hr; rfl
    | 3, hs, _ => cases hs; cases hr; rfl
    | 4, hs, _ => cases hs; cases hr; rfl
    | 5, hs, _ => cases hs; cases hr; rfl
    | 6, hs, _ => cases hs; cases hr; rfl
    | 7, hs, _ => cases hs; cases hr; rfl
    | j + 8, _, hj => omega
  · rw [List.getElem?_eq_none (by rw [h.1]; omega), List.getElem?_eq_none (by rw [flat_length]; omega)]
/-- The transactions' pointers, as shapes. -/
def gPtr (R : Nat → Nat) : Nat → List Sh := fun j => [.v (ptrV (R j))]
theorem rows_ptr {H : Mem} (R : Nat → Nat) (n : Nat) : RepRows H 1 n (gPtr R) ((List.range n).map fun i => ptrV (R i)) := by
  refine ⟨by simp, fun i _ => rfl, fun u hu => ?_, fun i j s v hi h1 h2 => ?_⟩
  · obtain ⟨i, _, rfl⟩ := List.mem_map.1 hu
    rfl
  · have hj : j = 0 := by
      have := (List.getElem?_eq_some_iff.1 h1).1
      simp [gPtr] at this; exact this
    subst hj
    cases h1
    simp [hi] at h2
    subst h2
    exact .v _ rfl
theorem rows_ptr_eq {H : Mem} {R : Nat → Nat} {n : Nat} {xs : List Value} (h : RepRows H 1 n (gPtr R) xs) : xs = (List.range n).map fun i => ptrV (R i) := by
  apply List.ext_getElem?
  intro q
  by_cases hq : q < n
  · have hx : q < xs.length := by rw [h.1]; omega
    rw [List.getElem?_eq_getElem hx]
    have hr := h.2.2.2 q 0 _ xs[q] hq rfl (by rw [Nat.mul_one, Nat.add_zero]; exact List.getElem?_eq_getElem hx)
    generalize xs[q] = v at hr ⊢
    cases hr
    simp [hq]
  · rw [List.getElem?_eq_none (by rw [h.1]; omega), List.getElem?_eq_none (by simp; omega)]
section
variable {H H' : Mem} {E E' : Env} {w w' : World} {n0 : Nat} {g0 : Nat → List Sh} {σ σ' : Au} {L L' : Lay}
/-- The automaton behind a call that has looked at some of its blocks. -/
theorem auto_after (hA : AutoAt H w n0 g0 σ L) {own : Nat → Prop} {V : Tg → Prop} (hown : ∀ b, own b ↔ ∃ t, V t ∧ L.blk σ.rs.length t = some b) (hW : WOK ⟨w, own, H⟩ H' w') (hH : H.le H')
    (hV : V .au ∧ V .tx ∧ V .by_ ∧ V .bu ∧ V .ob) (hV2 : ∀ i, V (.rc i) ↔ V (.de i))
    (au : w'.heap[L'.p]? = some (.cells #[L'.v0, .int .i64 σ'.many, L'.v2, .map (some L'.b1), .map (some L'.b2)] 87 (0, 0))) (ob : ∃ xs, w'.ownsRow 0 31 2 L'.v0 n0 xs ∧ RepRows H' 2 n0 g0 xs)
    (tx : w'.ownsRow 0 88 1 L'.v2 σ'.rs.length ((List.range σ'.rs.length).map fun i => ptrV (L'.R i)))
    (by_ : ∃ ms clk, w'.heap[L'.b1]? = some (.map ms clk) ∧ MapOK .i64 ms.toList clk fun k => (σ'.byIx k).map fun i => ptrV (L'.R i))
    (bu : ∃ ms clk, w'.heap[L'.b2]? = some (.map ms clk) ∧ MapOK .i64 ms.toList clk fun k => (σ'.buIx k).map fun i => ptrV (L'.R i))
    (rcV : ∀ i r, σ'.rs[i]? = some r → V (.rc i) → w'.heap[L'.R i]? = some (.cells (rcCells r (L'.D i)) 90 (0, 0)) ∧ w'.ownsRow 0 72 8 (L'.D i) r.deeds.length (r.deeds.flatMap deV))
    (old : ∀ i r, σ'.rs[i]? = some r → ¬ V (.rc i) → σ.rs[i]? = some r ∧ L'.R i = L.R i ∧ L'.D i = L.D i)
    (newblk : ∀ t b, V t → L'.blk σ'.rs.length t = some b → H' b = none ∧ (w.heap.size ≤ b ∨ own b))
    (newdis : ∀ s t b, V s → V t → L'.blk σ'.rs.length s = some b → L'.blk σ'.rs.length t = some b → s = t) :
    AutoAt H' w' n0 g0 σ' L' ∧ ∀ t b, L'.blk σ'.rs.length t = some b → w.heap.size ≤ b ∨ ∃ t', L.blk σ.rs.length t' = some b := by
  have oldblk : ∀ t b, ¬ V t → L'.blk σ'.rs.length t = some b → L.blk σ.rs.length t = some b := fun t b hv hb => by
    cases t with
    | au => exact (hv hV.1).elim
    | tx => exact (hv hV.2.1).elim
    | by_ => exact (hv hV.2.2.1).elim
    | bu => exact (hv hV.2.2.2.1).elim
    | ob => exact (hv hV.2.2.2.2).elim
    | rc i =>
      simp only [Lay.blk] at hb ⊢
      split at hb
      · rename_i hi
        obtain ⟨o1, o2, o3⟩ := old i _ (List.getElem?_eq_getElem hi) hv
        rw [if_pos (List.getElem?_eq_some_iff.1 o1).1, ← o2]; exact hb
      · cases hb
    | de i =>
      simp only [Lay.blk] at hb ⊢
      split at hb
      · rename_i hi
        obtain ⟨o1, o2, o3⟩ := old i _ (List.getElem?_eq_getElem hi) fun q => hv ((hV2 i).1 q)
        rw [if_pos (List.getElem?_eq_some_iff.1 o1).1, ← o3]; exact hb
      · cases hb
  have notown : ∀ t b, ¬ V t → L.blk σ.rs.length t = some b → ¬ own b := fun t b hv hb ho => by
    obtain ⟨t', h1, h2⟩ := (hown b).1 ho
    have := hA.dis _ _ _ hb h2
    subst this
    exact hv h1
  have kept : ∀ t b, ¬ V t → L.blk σ.rs.length t = some b → w'.heap[b]? = w.heap[b]? := fun t b hv hb => hW.kept b (hA.lt hb) (notown t b hv hb)
  refine ⟨⟨au, ob, tx, by_, bu, fun i r hi => ?_, fun i r hi => ?_, fun s t b hs ht => ?_, fun t b hb => ?_⟩, fun t b hb => ?_⟩
  · by_cases hv : V (.rc i)
    · exact (rcV i r hi hv).1
    · obtain ⟨o1, o2, o3⟩ := old i r hi hv
      rw [o2, o3, kept (.rc i) _ hv (by simp [Lay.blk, (List.getElem?_eq_some_iff.1 o1).1])]
      exact hA.rc i r o1
  · by_cases hv : V (.rc i)
    · exact (rcV i r hi hv).2
    · obtain ⟨o1, o2, o3⟩ := old i r hi hv
      rw [o3]
      refine ownsRow_kept (hA.de i r o1) fun b hb => kept (.de i) b (fun q => hv ((hV2 i).2 q)) ?_
      simp [Lay.blk, (List.getElem?_eq_some_iff.1 o1).1, hb]
  · by_cases vs : V s <;> by_cases vt : V t
    · exact newdis s t b vs vt hs ht
    · exfalso
      have h1 := oldblk t b vt ht
      rcases (newblk s b vs hs).2 with q | q
      · have := hA.lt h1; omega
      · exact notown t b vt h1 q
    · exfalso
      have h1 := oldblk s b vs hs
      rcases (newblk t b vt ht).2 with q | q
      · have := hA.lt h1; omega
      · exact notown s b vs h1 q
    · exact hA.dis s t b (oldblk s b vs hs) (oldblk t b vt ht)
  · by_cases hv : V t
    · exact (newblk t b hv hb).1
    · have h1 := oldblk t b hv hb
      cases hx : H' b with
      | none => rfl
      | some o =>
        rcases hW.fresh b (by rw [hx]; simp) with q | q | q
        · exact (q (hA.un t b h1)).elim
        · have := hA.lt h1
          have q : w.heap.size ≤ b := q
          omega
        · exact (notown t b hv h1 q).elim
  · by_cases hv : V t
    · rcases (newblk t b hv hb).2 with q | q
      · exact .inl q
      · obtain ⟨t', _, h2⟩ := (hown b).1 q
        exact .inr ⟨t', h2⟩
    · exact .inr ⟨t, oldblk t b hv hb⟩
end
end Go.Sx
namespace Go.Sx
open Go.Pl Go.Proofs
def mBy (σ : Au) (L : Lay) : Int → Option Value := fun k => (σ.byIx k).map fun i => ptrV (L.R i)
def mBu (σ : Au) (L : Lay) : Int → Option Value := fun k => (σ.buIx k).map fun i => ptrV (L.R i)
/-- The ids of what is looked at. -/
def envA (L : Lay) (i : Option Nat) : Env := fun id => match id with
  | 0 => some (ptrV L.p)
  | 1 => some L.v2
  | 2 => some (.map (some L.b1))
  | 3 => some (.map (some L.b2))
  | 4 => i.map fun i => ptrV (L.R i)
  | 5 => i.map fun i => L.D i
  | 6 => some L.v0
  | _ => none
/-- What is looked at. -/
def Vw (i : Option Nat) : Tg → Prop
  | .rc j => i = some j
  | .de j => i = some j
  | _ => True
def tgOf (i : Nat) : Nat → Tg
  | 0 => .au
  | 1 => .tx
  | 2 => .by_
  | 3 => .bu
  | 4 => .rc i
  | 5 => .de i
  | _ => .ob
def tgNo : Tg → Nat
  | .au => 0
  | .tx => 1
  | .by_ => 2
  | .bu => 3
  | .rc _ => 4
  | .de _ => 5
  | .ob => 6
theorem tgNo_of {i a : Nat} (h : a < 7) : tgNo (tgOf i a) = a := by
  match a, h with
  | 0, _ | 1, _ | 2, _ | 3, _ | 4, _ | 5, _ | 6, _ => rfl
  | a + 7, h => omega
theorem tgOf_inj {i a b : Nat} (ha : a < 7) (hb : b < 7) (h : tgOf i a = tgOf i b) : a = b := by
  rw [← tgNo_of (i := i) ha, ← tgNo_of (i := i) hb, h]
section
variable {H H' : Mem} {E E' : Env} {w w' : World} {n : Nat} {o : Nat → Oj} {σ σ' : Au} {L L' : Lay}
def hpAL (n : Nat) (o : Nat → Oj) (σ : Au) (L : Lay) (f1 f2 : List (Int × Bool × SV)) : List (Nat × SB) := hpA n σ.rs.length o σ.many (gPtr L.R) (mBy σ L) (mBu σ L) f1 f2
/-- The four first entries. -/
theorem ents4 (hA : AutoAt H w n (fnR o) σ L) (i : Option Nat) {own : Nat → Prop} (hown : ∀ t b, Vw i t → L.blk σ.rs.length t = some b → own b) {f1 f2 : List (Int × Bool × SV)} {v1 v2 : List (Int × Option Value)} (h1 : DenF H (envA L i) f1 v1) (h2 : DenF H (envA L i) f2 v2)
    (m1 : ∀ k u, (k, u) ∈ v1 → mBy σ L k = u) (m2 : ∀ k u, (k, u) ∈ v2 → mBu σ L k = u) : ∀ id sb, look? (hpAL n o σ L f1 f2) id = some sb → Ent ⟨w, own, H⟩ H (envA L i) w id sb ∧ (id < 4 ∨ id = 6) ∧ ∀ b, obk (envA L i) id sb = some b → L.blk σ.rs.length (tgOf 0 id) = some b := by
  intro id sb hl
  have mine : ∀ t b, Vw i t → L.blk σ.rs.length t = some b → Mine ⟨w, own, H⟩ H b := fun t b hv hb => ⟨hA.un t b hb, .inr (hown t b hv hb)⟩
  match id, hl with
  | 0, hl =>
    cases hl
    exact ⟨⟨L.p, _, rfl, hA.au, ⟨⟨rfl, (let ⟨_, h1, _⟩ := hA.ob; owns_slice h1)⟩, rfl, ⟨rfl, owns_slice hA.tx⟩, ⟨_, rfl, rfl⟩, ⟨_, rfl, rfl⟩, trivial⟩, mine .au _ trivial rfl⟩, by decide, fun b hb => hb⟩
  | 1, hl =>
    cases hl
    exact ⟨⟨L.v2, _, rfl, hA.tx, rows_ptr _ _, fun b hb => mine .tx b trivial hb⟩, by decide, fun b hb => hb⟩
  | 2, hl =>
    cases hl
    obtain ⟨ms, clk, a1, a2⟩ := hA.by_
    exact ⟨⟨L.b1, ms, clk, v1, [], rfl, a1, h1, trivial, m1, a2, trivial, mine .by_ _ trivial rfl⟩, by decide, fun b hb => hb⟩
  | 3, hl =>
    cases hl
    obtain ⟨ms, clk, a1, a2⟩ := hA.bu
    exact ⟨⟨L.b2, ms, clk, v2, [], rfl, a1, h2, trivial, m2, a2, trivial, mine .bu _ trivial rfl⟩, by decide, fun b hb => hb⟩
  | 6, hl =>
    cases hl
    obtain ⟨xs, a1, a2⟩ := hA.ob
    exact ⟨⟨L.v0, xs, rfl, a1, a2, fun b hb => mine .ob b trivial hb⟩, by decide, fun b hb => hb⟩
  | 4, hl => simp [hpAL, hpA, look?] at hl
  | 5, hl => simp [hpAL, hpA, look?] at hl
  | id + 7, hl => simp [hpAL, hpA, look?] at hl
theorem look_app4 {n : Nat} {o : Nat → Oj} {σ : Au} {L : Lay} {f1 f2 : List (Int × Bool × SV)} {r : Rc} {id : Nat} {sb : SB} (h : look? (hpAL n o σ L f1 f2 ++ hpRc r) id = some sb) :
    look? (hpAL n o σ L f1 f2) id = some sb ∨ (id = 4 ∧ sb = .box [.sym .i64 r.id, .sym .i64 r.th, .sym .i64 r.st, .sym .i64 r.bg, .sym .i64 r.en, .sym .i64 r.tr, .gs 5, .sym .i64 r.stand] 90) ∨ (id = 5 ∧ sb = .own 72 8 r.deeds.length (fnR (nth r.deeds))) := by
  match id, h with
  | 0, h => exact .inl h
  | 1, h => exact .inl h
  | 2, h => exact .inl h
  | 3, h => exact .inl h
  | 4, h => cases h; exact .inr (.inl ⟨rfl, rfl⟩)
  | 5, h => cases h; exact .inr (.inr ⟨rfl, rfl⟩)
  | 6, h => exact .inl h
  | id + 7, h => simp [hpAL, hpA, hpRc, hpR, look?] at h
theorem tg_lt4 {i j id : Nat} (h : id < 4 ∨ id = 6) : tgOf i id = tgOf j id := by
  match id, h with
  | 0, _ | 1, _ | 2, _ | 3, _ | 6, _ => rfl
  | 4, h => omega
  | 5, h => omega
  | id + 7, h => omega
/-- What the executor sees of an automaton, one of its transactions among it. -/
theorem view_rec (hA : AutoAt H w n (fnR o) σ L) {i : Nat} {r : Rc} (hi : σ.rs[i]? = some r) {own : Nat → Prop} (hown : ∀ t b, Vw (some i) t → L.blk σ.rs.length t = some b → own b) {f1 f2 : List (Int × Bool × SV)} {v1 v2 : List (Int × Option Value)}
    (h1 : DenF H (envA L (some i)) f1 v1) (h2 : DenF H (envA L (some i)) f2 v2) (m1 : ∀ k u, (k, u) ∈ v1 → mBy σ L k = u) (m2 : ∀ k u, (k, u) ∈ v2 → mBu σ L k = u) :
    HeapOK ⟨w, own, H⟩ H (envA L (some i)) w (hpAL n o σ L f1 f2 ++ hpRc r) := by
  have hlt := (List.getElem?_eq_some_iff.1 hi).1
  have key : ∀ id sb, look? (hpAL n o σ L f1 f2 ++ hpRc r) id = some sb → Ent ⟨w, own, H⟩ H (envA L (some i)) w id sb ∧ id < 7 ∧ ∀ b, obk (envA L (some i)) id sb = some b → L.blk σ.rs.length (tgOf i id) = some b := fun id sb hl => by
    rcases look_app4 hl with hl | ⟨rfl, rfl⟩ | ⟨rfl, rfl⟩
    · obtain ⟨a1, a2, a3⟩ := ents4 hA (some i) hown h1 h2 m1 m2 id sb hl
      exact ⟨a1, by omega, fun b hb => by rw [tg_lt4 (j := 0) a2]; exact a3 b hb⟩
    · have hb : L.blk σ.rs.length (.rc i) = some (L.R i) := by simp [Lay.blk, hlt]
      exact ⟨⟨L.R i, _, rfl, hA.rc i r hi, ⟨rfl, rfl, rfl, rfl, rfl, rfl, ⟨rfl, owns_slice (hA.de i r hi)⟩, rfl, trivial⟩, ⟨hA.un _ _ hb, .inr (hown (.rc i) _ rfl hb)⟩⟩, by decide, fun b hb' => by
        cases hb'; exact hb⟩
    · have hb : ∀ b, blkV (L.D i) = some b → L.blk σ.rs.length (.de i) = some b := fun b hb => by simp [Lay.blk, hlt, hb]
      exact ⟨⟨L.D i, _, rfl, hA.de i r hi, rows_deeds _, fun b hb' => ⟨hA.un _ _ (hb b hb'), .inr (hown (.de i) _ rfl (hb b hb'))⟩⟩, by decide, fun b hb' => hb b hb'⟩
  refine ⟨fun id sb hl => (key id sb hl).1, fun id id' sb sb' b l1 l2 o1 o2 => ?_⟩
  obtain ⟨_, a1, a2⟩ := key id sb l1
  obtain ⟨_, b1, b2⟩ := key id' sb' l2
  exact tgOf_inj a1 b1 (hA.dis _ _ _ (a2 b o1) (b2 b o2))
/-- What the executor sees of an automaton. -/
theorem view_none (hA : AutoAt H w n (fnR o) σ L) {own : Nat → Prop} (hown : ∀ t b, Vw none t → L.blk σ.rs.length t = some b → own b) {f1 f2 : List (Int × Bool × SV)} {v1 v2 : List (Int × Option Value)}
    (h1 : DenF H (envA L none) f1 v1) (h2 : DenF H (envA L none) f2 v2) (m1 : ∀ k u, (k, u) ∈ v1 → mBy σ L k = u) (m2 : ∀ k u, (k, u) ∈ v2 → mBu σ L k = u) :
    HeapOK ⟨w, own, H⟩ H (envA L none) w (hpAL n o σ L f1 f2) := by
  have key := ents4 hA none hown h1 h2 m1 m2
  refine ⟨fun id sb hl => (key id sb hl).1, fun id id' sb sb' b l1 l2 o1 o2 => ?_⟩
  obtain ⟨_, a1, a2⟩ := key id sb l1
  obtain ⟨_, b1, b2⟩ := key id' sb' l2
  exact tgOf_inj (i := 0) (by omega) (by omega) (hA.dis _ _ _ (a2 b o1) (b2 b o2))
/-- Whose they are. -/
theorem own_rec (hA : AutoAt H w n (fnR o) σ L) {i : Nat} {r : Rc} (hi : σ.rs[i]? = some r) {f1 f2 : List (Int × Bool × SV)} (b : Nat) :
    ownOf (envA L (some i)) (hpAL n o σ L f1 f2 ++ hpRc r) b ↔ ∃ t, Vw (some i) t ∧ L.blk σ.rs.length t = some b := by
  have hlt := (List.getElem?_eq_some_iff.1 hi).1
  constructor
  · rintro ⟨id, sb, hl, hb⟩
    match id, hl with
    | 0, hl => cases hl; exact ⟨.au, trivial, hb⟩
    | 1, hl => cases hl; exact ⟨.tx, trivial, hb⟩
    | 2, hl => cases hl; exact ⟨.by_, trivial, hb⟩
    | 3, hl => cases hl; exact ⟨.bu, trivial, hb⟩
    | 4, hl => cases hl; exact ⟨.rc i, rfl, by cases hb; simp [Lay.blk, hlt]⟩
    | 5, hl => cases hl; exact ⟨.de i, rfl, by simp only [Lay.blk, if_pos hlt]; exact hb⟩
    | 6, hl => cases hl; exact ⟨.ob, trivial, hb⟩
    | id + 7, hl => simp [hpAL, hpA, hpRc, hpR, look?] at hl
  · rintro ⟨t, hv, hb⟩
    cases t with
    | au => exact ⟨0, _, rfl, hb⟩
    | tx => exact ⟨1, _, rfl, hb⟩
    | by_ => exact ⟨2, _, rfl, hb⟩
    | bu => exact ⟨3, _, rfl, hb⟩
    | ob => exact ⟨6, _, rfl, hb⟩
    | rc j =>
      cases hv
      simp only [Lay.blk, if_pos hlt] at hb
      exact ⟨4, _, rfl, hb⟩
    | de j =>
      cases hv
      simp only [Lay.blk, if_pos hlt] at hb
      exact ⟨5, _, rfl, hb⟩
theorem own_none {f1 f2 : List (Int × Bool × SV)} (b : Nat) :
    ownOf (envA L none) (hpAL n o σ L f1 f2) b ↔ ∃ t, Vw none t ∧ L.blk σ.rs.length t = some b := by
  constructor
  · rintro ⟨id, sb, hl, hb⟩
    match id, hl with
    | 0, hl => cases hl; exact ⟨.au, trivial, hb⟩
    | 1, hl => cases hl; exact ⟨.tx, trivial, hb⟩
    | 2, hl => cases hl; exact ⟨.by_, trivial, hb⟩
    | 3, hl => cases hl; exact ⟨.bu, trivial, hb⟩
    | 4, hl => simp [hpAL, hpA, look?] at hl
    | 5, hl => simp [hpAL, hpA, look?] at hl
    | 6, hl => cases hl; exact ⟨.ob, trivial, hb⟩
    | id + 7, hl => simp [hpAL, hpA, look?] at hl
  · rintro ⟨t, hv, hb⟩
    cases t with
    | au => exact ⟨0, _, rfl, hb⟩
    | tx => exact ⟨1, _, rfl, hb⟩
    | by_ => exact ⟨2, _, rfl, hb⟩
    | bu => exact ⟨3, _, rfl, hb⟩
    | ob => exact ⟨6, _, rfl, hb⟩
    | rc j => cases hv
    | de j => cases hv
end
end Go.Sx
namespace Go.Sx
open Go.Pl Go.Proofs
section
variable {H H' : Mem} {E E' : Env} {w w' : World} {n : Nat} {o : Nat → Oj} {σ σ' : Au} {L L' : Lay}
theorem denF_nil {r : List (Int × Option Value)} (h : DenF H E [] r) : r = [] := by
  cases r with
  | nil => rfl
  | cons _ _ => exact h.elim
theorem denF_off {t : Int} {x : SV} {r : List (Int × Option Value)} (h : DenF H E [(t, false, x)] r) : r = [(t, none)] := by
  match r, h with
  | [(k, o)], ⟨h1, h2, _⟩ =>
    cases o with
    | none => rw [h1]
    | some v => exact h2.elim
  | [], h => exact h.elim
  | (_, _) :: _ :: _, ⟨_, _, h⟩ => exact h.elim
/-- The two maps behind an event of a transaction. -/
def usOK (σ σ' : Au) (us : List (Int × Bool × SV)) : Prop :=
  (us = [] ∧ ∀ k, σ'.buIx k = σ.buIx k) ∨ ∃ t x, us = [(t, false, x)] ∧ ∀ k, σ'.buIx k = if k = t then none else σ.buIx k
theorem after_rec {own : Nat → Prop} (hA : AutoAt H w n (fnR o) σ L) {i : Nat} {r0 : Rc} (hi : σ.rs[i]? = some r0) (hown : ∀ b, own b ↔ ∃ t, Vw (some i) t ∧ L.blk σ.rs.length t = some b)
    {e : Ev} {many' : Nat} {r : Rc} {us : List (Int × Bool × SV)} (hh : HeapOK ⟨w, own, H⟩ H' E' w' (toRc n σ.rs.length o (gPtr L.R) (mBy σ L) (mBu σ L) e many' r us).hp) (hW : WOK ⟨w, own, H⟩ H' w') (hH : H.le H')
    (h0 : E' 0 = some (ptrV L.p)) (h4 : E' 4 = some (ptrV (L.R i))) (hby : ∀ k, (⟨many', σ.rs.set i r⟩ : Au).byIx k = σ.byIx k) (hbu : usOK σ ⟨many', σ.rs.set i r⟩ us) :
    ∃ L', AutoAt H' w' n (fnR o) ⟨many', σ.rs.set i r⟩ L' ∧ L'.p = L.p ∧ ∀ t b, L'.blk (σ.rs.set i r).length t = some b → w.heap.size ≤ b ∨ ∃ t', L.blk σ.rs.length t' = some b := by
  have hlt := (List.getElem?_eq_some_iff.1 hi).1
  obtain ⟨p, ⟨cs⟩, p1, p2, p3, p4⟩ := hh.ent 0 _ rfl
  match cs, p3 with
  | [u0, u1, u2, u3, u4], ⟨d0, d1, d2, d3, d4, _⟩ =>
    have d1 : u1 = .int .i64 many' := d1
    obtain ⟨d0, _⟩ : E' 6 = some u0 ∧ _ := d0
    obtain ⟨d2, _⟩ : E' 1 = some u2 ∧ _ := d2
    obtain ⟨b1, d3, d3'⟩ := d3
    obtain ⟨b2, d4, d4'⟩ := d4
    subst d1 d3' d4'
    rw [h0] at p1
    have hp : L.p = p := by
      have := Option.some.inj p1
      simp [ptrV] at this; exact this
    subst hp
    have hob : ∃ xs, w'.ownsRow 0 31 2 u0 n xs ∧ RepRows H' 2 n (fnR o) xs := by
      obtain ⟨v, xs, x1, x2, x3, _⟩ := hh.ent 6 _ rfl
      rw [d0] at x1
      cases x1
      exact ⟨xs, x2, x3⟩
    obtain ⟨v2, xs, q1, q2, q3, q4⟩ := hh.ent 1 _ rfl
    rw [d2] at q1
    cases q1
    obtain rfl := rows_ptr_eq q3
    obtain ⟨b1', ms1, clk1, fv1, uv1, s1, s2, s3, s4, s5, s6, _, s7⟩ := hh.ent 2 _ rfl
    rw [d3] at s1
    cases s1
    obtain rfl := denF_nil s4
    obtain ⟨b2', ms2, clk2, fv2, uv2, t1, t2, t3, t4, t5, t6, _, t7⟩ := hh.ent 3 _ rfl
    rw [d4] at t1
    cases t1
    obtain ⟨pr, ⟨cr⟩, r1, r2, r3, r4⟩ := hh.ent 4 _ rfl
    rw [h4] at r1
    have hpr : L.R i = pr := by
      have := Option.some.inj r1
      simp [ptrV] at this; exact this
    subst hpr
    match cr, r3 with
    | [c0, c1, c2, c3, c4, c5, c6, c7], ⟨e0, e1, e2, e3, e4, e5, e6, e7, _⟩ =>
      have e0 : c0 = .int .i64 r.id := e0
      have e1 : c1 = .int .i64 r.th := e1
      have e2 : c2 = .int .i64 r.st := e2
      have e3 : c3 = .int .i64 r.bg := e3
      have e4 : c4 = .int .i64 r.en := e4
      have e5 : c5 = .int .i64 r.tr := e5
      have e7 : c7 = .int .i64 r.stand := e7
      obtain ⟨e6, _⟩ : E' 5 = some c6 ∧ _ := e6
      subst e0 e1 e2 e3 e4 e5 e7
      obtain ⟨vd, xd, g1, g2, g3, g4⟩ := hh.ent 5 _ rfl
      rw [e6] at g1
      cases g1
      obtain rfl := rows_deeds_eq g3
      let L' : Lay := ⟨L.p, u0, u2, b1, b2, L.R, fun j => if j = i then c6 else L.D j⟩
      have hlen : (σ.rs.set i r).length = σ.rs.length := by simp
      have hbl : ∀ t b, Vw (some i) t → L'.blk (σ.rs.set i r).length t = some b → ∃ id sb, id < 7 ∧ tgOf i id = t ∧ look? (toRc n σ.rs.length o (gPtr L.R) (mBy σ L) (mBu σ L) e many' r us).hp id = some sb ∧ obk E' id sb = some b := fun t b hv hb => by
        cases t with
        | au => exact ⟨0, _, by decide, rfl, rfl, by simp only [obk, h0]; exact hb⟩
        | tx => exact ⟨1, _, by decide, rfl, rfl, by simp only [obk, d2]; exact hb⟩
        | by_ => exact ⟨2, _, by decide, rfl, rfl, by simp only [obk, d3]; exact hb⟩
        | bu => exact ⟨3, _, by decide, rfl, rfl, by simp only [obk, d4]; exact hb⟩
        | ob => exact ⟨6, _, by decide, rfl, rfl, by simp only [obk, d0]; exact hb⟩
        | rc j =>
          cases hv
          refine ⟨4, _, by decide, rfl, rfl, ?_⟩
          simp only [Lay.blk, hlen, if_pos hlt] at hb
          simp only [obk, h4]; exact hb
        | de j =>
          cases hv
          refine ⟨5, _, by decide, rfl, rfl, ?_⟩
          simp only [Lay.blk, hlen, if_pos hlt, L'] at hb
          simp only [obk, e6]; simpa using hb
      have mk := auto_after (H' := H') (w' := w') (σ' := ⟨many', σ.rs.set i r⟩) (L' := L') hA hown hW hH ⟨trivial, trivial, trivial, trivial, trivial⟩ (fun _ => Iff.rfl) p2 hob (by rw [hlen]; exact q2)
        ⟨ms1, clk1, s2, by
          have : (fun k => ((⟨many', σ.rs.set i r⟩ : Au).byIx k).map fun i => ptrV (L'.R i)) = ovr (mBy σ L) [] := by
            funext k; rw [hby k]; rfl
          rw [this]; exact s6⟩
        ⟨ms2, clk2, t2, by
          have : (fun k => ((⟨many', σ.rs.set i r⟩ : Au).buIx k).map fun i => ptrV (L'.R i)) = ovr (mBu σ L) uv2 := by
            rcases hbu with ⟨rfl, hb⟩ | ⟨t, x, rfl, hb⟩
            · obtain rfl := denF_nil t4
              funext k; rw [hb k]; rfl
            · obtain rfl := denF_off t4
              funext k; rw [hb k]
              simp only [ovr]
              by_cases hk : k = t
              · simp [hk]
              · simp [hk, mBu, L']
          rw [this]; exact t6⟩
        (fun j rj hj hv => by
          cases hv
          have : rj = r := by
            simp [List.getElem?_set, hlt] at hj; exact hj.symm
          subst this
          simp only [L', if_true]
          exact ⟨r2, g2⟩)
        (fun j rj hj hv => by
          have hne : ¬ j = i := fun q => hv (by rw [q]; exact rfl)
          refine ⟨?_, rfl, if_neg hne⟩
          simpa [List.getElem?_set, Ne.symm hne] using hj)
        (fun t b hv hb => by
          obtain ⟨id, sb, _, _, a3, a4⟩ := hbl t b hv hb
          exact ⟨((hh.ent _ _ a3).lt a4).2.1, ((hh.ent _ _ a3).lt a4).2.2⟩)
        (fun s t b hs ht bs bt => by
          obtain ⟨id, sb, a1, a2, a3, a4⟩ := hbl s b hs bs
          obtain ⟨id', sb', b1, b2, b3, b4⟩ := hbl t b ht bt
          have := hh.dis _ _ _ _ _ a3 b3 a4 b4
          subst this
          rw [← a2, ← b2])
      exact ⟨L', mk.1, rfl, mk.2⟩
end
end Go.Sx
namespace Go.Sx
open Go.Pl Go.Proofs
section
variable {H H' : Mem} {E E' : Env} {w w' : World} {n : Nat} {o : Nat → Oj} {σ σ' : Au} {L L' : Lay}
theorem after_none {own : Nat → Prop} (hA : AutoAt H w n (fnR o) σ L) (hown : ∀ b, own b ↔ ∃ t, Vw none t ∧ L.blk σ.rs.length t = some b)
    {f1 f2 : List (Int × Bool × SV)} (hh : HeapOK ⟨w, own, H⟩ H' E' w' (toN n σ.rs.length o σ.many (gPtr L.R) (mBy σ L) (mBu σ L) f1 f2).hp) (hW : WOK ⟨w, own, H⟩ H' w') (hH : H.le H')
    (h0 : E' 0 = some (ptrV L.p)) :
    ∃ L', AutoAt H' w' n (fnR o) σ L' ∧ L'.p = L.p ∧ ∀ t b, L'.blk σ.rs.length t = some b → w.heap.size ≤ b ∨ ∃ t', L.blk σ.rs.length t' = some b := by
  obtain ⟨p, ⟨cs⟩, p1, p2, p3, p4⟩ := hh.ent 0 _ rfl
  match cs, p3 with
  | [u0, u1, u2, u3, u4], ⟨d0, d1, d2, d3, d4, _⟩ =>
    have d1 : u1 = .int .i64 σ.many := d1
    obtain ⟨d0, _⟩ : E' 6 = some u0 ∧ _ := d0
    obtain ⟨d2, _⟩ : E' 1 = some u2 ∧ _ := d2
    obtain ⟨b1, d3, d3'⟩ := d3
    obtain ⟨b2, d4, d4'⟩ := d4
    subst d1 d3' d4'
    rw [h0] at p1
    have hp : L.p = p := by
      have := Option.some.inj p1
      simp [ptrV] at this; exact this
    subst hp
    have hob : ∃ xs, w'.ownsRow 0 31 2 u0 n xs ∧ RepRows H' 2 n (fnR o) xs := by
      obtain ⟨v, xs, x1, x2, x3, _⟩ := hh.ent 6 _ rfl
      rw [d0] at x1
      cases x1
      exact ⟨xs, x2, x3⟩
    obtain ⟨v2, xs, q1, q2, q3, q4⟩ := hh.ent 1 _ rfl
    rw [d2] at q1
    cases q1
    obtain rfl := rows_ptr_eq q3
    obtain ⟨b1', ms1, clk1, fv1, uv1, s1, s2, s3, s4, s5, s6, _, s7⟩ := hh.ent 2 _ rfl
    rw [d3] at s1
    cases s1
    obtain rfl := denF_nil s4
    obtain ⟨b2', ms2, clk2, fv2, uv2, t1, t2, t3, t4, t5, t6, _, t7⟩ := hh.ent 3 _ rfl
    rw [d4] at t1
    cases t1
    obtain rfl := denF_nil t4
    let L' : Lay := ⟨L.p, u0, u2, b1, b2, L.R, L.D⟩
    have hbl : ∀ t b, Vw none t → L'.blk σ.rs.length t = some b → ∃ id sb, id < 7 ∧ tgOf 0 id = t ∧ look? (toN n σ.rs.length o σ.many (gPtr L.R) (mBy σ L) (mBu σ L) f1 f2).hp id = some sb ∧ obk E' id sb = some b := fun t b hv hb => by
      cases t with
      | au => exact ⟨0, _, by decide, rfl, rfl, by simp only [obk, h0]; exact hb⟩
      | tx => exact ⟨1, _, by decide, rfl, rfl, by simp only [obk, d2]; exact hb⟩
      | by_ => exact ⟨2, _, by decide, rfl, rfl, by simp only [obk, d3]; exact hb⟩
      | bu => exact ⟨3, _, by decide, rfl, rfl, by simp only [obk, d4]; exact hb⟩
      | ob => exact ⟨6, _, by decide, rfl, rfl, by simp only [obk, d0]; exact hb⟩
      | rc j => cases hv
      | de j => cases hv
    have mk := auto_after (H' := H') (w' := w') (σ' := σ) (L' := L') hA hown hW hH ⟨trivial, trivial, trivial, trivial, trivial⟩ (fun _ => Iff.rfl) p2 hob q2 ⟨ms1, clk1, s2, s6⟩ ⟨ms2, clk2, t2, t6⟩
      (fun j rj hj hv => by cases hv) (fun j rj hj hv => ⟨hj, rfl, rfl⟩)
      (fun t b hv hb => by
        obtain ⟨id, sb, _, _, a3, a4⟩ := hbl t b hv hb
        exact ⟨((hh.ent _ _ a3).lt a4).2.1, ((hh.ent _ _ a3).lt a4).2.2⟩)
      (fun s t b hs ht bs bt => by
        obtain ⟨id, sb, a1, a2, a3, a4⟩ := hbl s b hs bs
        obtain ⟨id', sb', b1, b2, b3, b4⟩ := hbl t b ht bt
        have := hh.dis _ _ _ _ _ a3 b3 a4 b4
        subst this
        rw [← a2, ← b2])
    exact ⟨L', mk.1, rfl, mk.2⟩
theorem denF_two {t : Int} {x y : SV} {r : List (Int × Option Value)} (h : DenF H E [(t, true, x), (t, true, y)] r) : ∃ u v, r = [(t, some u), (t, some v)] ∧ Den H E x u := by
  match r, h with
  | [(k, p), (k', q)], ⟨h1, h2, h3, h4, _⟩ =>
    cases p with
    | none => exact h2.elim
    | some u =>
      cases q with
      | none => exact h4.elim
      | some v => exact ⟨u, v, by rw [h1, h3], h2.1⟩
  | [], h => exact h.elim
  | [(_, _)], ⟨_, _, h⟩ => exact h.elim
  | (_, _) :: (_, _) :: _ :: _, ⟨_, _, _, _, h⟩ => exact h.elim
theorem findIdx_lt {α : Type} {p : α → Bool} {l : List α} {i : Nat} (h : l.findIdx? p = some i) : i < l.length := by
  rw [List.findIdx?_eq_some_iff_findIdx_eq] at h
  exact h.1
theorem after_new {own : Nat → Prop} (hA : AutoAt H w n (fnR o) σ L) (hown : ∀ b, own b ↔ ∃ t, Vw none t ∧ L.blk σ.rs.length t = some b)
    {e : Ev} {many' : Nat} {r : Rc} (hd : r.deeds = []) (hh : HeapOK ⟨w, own, H⟩ H' E' w' (toB n σ.rs.length o (gPtr L.R) (mBy σ L) (mBu σ L) e many' r.id r.th r.st r.bg r.en r.tr r.stand).hp) (hW : WOK ⟨w, own, H⟩ H' w') (hH : H.le H')
    (h0 : E' 0 = some (ptrV L.p)) (hby : ∀ k, (⟨many', σ.rs ++ [r]⟩ : Au).byIx k = if k = e.tx then some σ.rs.length else σ.byIx k) (hbu : ∀ k, (⟨many', σ.rs ++ [r]⟩ : Au).buIx k = if k = e.thread then some σ.rs.length else σ.buIx k) :
    ∃ L', AutoAt H' w' n (fnR o) ⟨many', σ.rs ++ [r]⟩ L' ∧ L'.p = L.p ∧ ∀ t b, L'.blk (σ.rs ++ [r]).length t = some b → w.heap.size ≤ b ∨ ∃ t', L.blk σ.rs.length t' = some b := by
  obtain ⟨p, ⟨cs⟩, p1, p2, p3, p4⟩ := hh.ent 0 _ rfl
  match cs, p3 with
  | [u0, u1, u2, u3, u4], ⟨d0, d1, d2, d3, d4, _⟩ =>
    have d1 : u1 = .int .i64 many' := d1
    obtain ⟨d0, _⟩ : E' 6 = some u0 ∧ _ := d0
    obtain ⟨d2, _⟩ : E' 1 = some u2 ∧ _ := d2
    obtain ⟨b1, d3, d3'⟩ := d3
    obtain ⟨b2, d4, d4'⟩ := d4
    subst d1 d3' d4'
    rw [h0] at p1
    have hp : L.p = p := by
      have := Option.some.inj p1
      simp [ptrV] at this; exact this
    subst hp
    obtain ⟨pr, ⟨cr⟩, r1, r2, r3, r4⟩ := hh.ent 4 _ rfl
    have den4 : ∀ {u : Value}, Den H' E' (.ptr 4 0) u → u = ptrV pr := fun {u} h => by
      obtain ⟨b, h1, h2⟩ := h
      rw [r1] at h1
      cases h1
      exact h2
    have hob : ∃ xs, w'.ownsRow 0 31 2 u0 n xs ∧ RepRows H' 2 n (fnR o) xs := by
      obtain ⟨v, xs, x1, x2, x3, _⟩ := hh.ent 6 _ rfl
      rw [d0] at x1
      cases x1
      exact ⟨xs, x2, x3⟩
    obtain ⟨v2, xs, ys, q1, q2, q3, q5, _, _, q4⟩ := hh.ent 1 _ rfl
    rw [d2] at q1
    cases q1
    obtain rfl := rows_ptr_eq q3
    match ys, q5 with
    | [y], ⟨q5, _⟩ =>
    obtain rfl := den4 q5
    obtain ⟨b1', ms1, clk1, fv1, uv1, s1, s2, s3, s4, s5, s6, _, s7⟩ := hh.ent 2 _ rfl
    rw [d3] at s1
    cases s1
    obtain ⟨x1, x2, rfl, x3⟩ := denF_two s4
    obtain rfl := den4 x3
    obtain ⟨b2', ms2, clk2, fv2, uv2, t1, t2, t3, t4, t5, t6, _, t7⟩ := hh.ent 3 _ rfl
    rw [d4] at t1
    cases t1
    obtain ⟨y1, y2, rfl, y3⟩ := denF_two t4
    obtain rfl := den4 y3
    match cr, r3 with
    | [c0, c1, c2, c3, c4, c5, c6, c7], ⟨e0, e1, e2, e3, e4, e5, e6, e7, _⟩ =>
      have e0 : c0 = .int .i64 r.id := e0
      have e1 : c1 = .int .i64 r.th := e1
      have e2 : c2 = .int .i64 r.st := e2
      have e3 : c3 = .int .i64 r.bg := e3
      have e4 : c4 = .int .i64 r.en := e4
      have e5 : c5 = .int .i64 r.tr := e5
      have e6 : c6 = .slice none 0 0 := e6
      have e7 : c7 = .int .i64 r.stand := e7
      subst e0 e1 e2 e3 e4 e5 e6 e7
      let L' : Lay := ⟨L.p, u0, u2, b1, b2, fun j => if j = σ.rs.length then pr else L.R j, fun j => if j = σ.rs.length then .slice none 0 0 else L.D j⟩
      have hlen : (σ.rs ++ [r]).length = σ.rs.length + 1 := by simp
      have hown' : ∀ b, own b ↔ ∃ t, Vw (some σ.rs.length) t ∧ L.blk σ.rs.length t = some b := fun b => by
        rw [hown b]
        constructor
        · rintro ⟨t, h1, h2⟩
          refine ⟨t, ?_, h2⟩
          cases t with
          | rc j => cases h1
          | de j => cases h1
          | _ => trivial
        · rintro ⟨t, h1, h2⟩
          refine ⟨t, ?_, h2⟩
          cases t with
          | rc j => cases h1; simp [Lay.blk] at h2
          | de j => cases h1; simp [Lay.blk] at h2
          | _ => trivial
      have hbl : ∀ t b, Vw (some σ.rs.length) t → L'.blk (σ.rs ++ [r]).length t = some b → ∃ id sb, id < 7 ∧ tgOf σ.rs.length id = t ∧ look? (toB n σ.rs.length o (gPtr L.R) (mBy σ L) (mBu σ L) e many' r.id r.th r.st r.bg r.en r.tr r.stand).hp id = some sb ∧ obk E' id sb = some b := fun t b hv hb => by
        cases t with
        | au => exact ⟨0, _, by decide, rfl, rfl, by simp only [obk, h0]; exact hb⟩
        | tx => exact ⟨1, _, by decide, rfl, rfl, by simp only [obk, d2]; exact hb⟩
        | by_ => exact ⟨2, _, by decide, rfl, rfl, by simp only [obk, d3]; exact hb⟩
        | bu => exact ⟨3, _, by decide, rfl, rfl, by simp only [obk, d4]; exact hb⟩
        | ob => exact ⟨6, _, by decide, rfl, rfl, by simp only [obk, d0]; exact hb⟩
        | rc j =>
          cases hv
          refine ⟨4, _, by decide, rfl, rfl, ?_⟩
          simp [Lay.blk, L'] at hb
          simp only [obk, r1]; rw [← hb]; rfl
        | de j =>
          cases hv
          simp [Lay.blk, L', blkV] at hb
      have hR : ∀ j, j < σ.rs.length → L'.R j = L.R j := fun j hj => if_neg (by omega)
      have hmap : ∀ (f : Option Nat), (∀ j, f = some j → j < σ.rs.length) → (f.map fun i => ptrV (L'.R i)) = f.map fun i => ptrV (L.R i) := fun f hf => by
        cases f with
        | none => rfl
        | some j => simp [hR j (hf j rfl)]
      have mk := auto_after (H' := H') (w' := w') (σ' := ⟨many', σ.rs ++ [r]⟩) (L' := L') hA hown' hW hH ⟨trivial, trivial, trivial, trivial, trivial⟩ (fun _ => Iff.rfl) p2 hob
        (by
          have e : (List.range (σ.rs ++ [r]).length).map (fun i => ptrV (L'.R i)) = (List.range σ.rs.length).map (fun i => ptrV (L.R i)) ++ [ptrV pr] := by
            rw [hlen, List.range_succ, List.map_append]
            congr 1
            · exact List.map_congr_left fun i hi => by rw [hR i (List.mem_range.1 hi)]
            · simp [L']
          rw [e, hlen]; exact q2)
        ⟨ms1, clk1, s2, by
          have : (fun k => ((⟨many', σ.rs ++ [r]⟩ : Au).byIx k).map fun i => ptrV (L'.R i)) = ovr (mBy σ L) [(e.tx, some (ptrV pr)), (e.tx, some x2)] := by
            funext k
            rw [hby k]
            simp only [ovr]
            by_cases hk : k = e.tx
            · simp [hk, L']
            · rw [if_neg hk, if_neg hk, if_neg hk]
              exact hmap _ fun j hj => findIdx_lt hj
          rw [this]; exact s6⟩
        ⟨ms2, clk2, t2, by
          have : (fun k => ((⟨many', σ.rs ++ [r]⟩ : Au).buIx k).map fun i => ptrV (L'.R i)) = ovr (mBu σ L) [(e.thread, some (ptrV pr)), (e.thread, some y2)] := by
            funext k
            rw [hbu k]
            simp only [ovr]
            by_cases hk : k = e.thread
            · simp [hk, L']
            · rw [if_neg hk, if_neg hk, if_neg hk]
              exact hmap _ fun j hj => findIdx_lt hj
          rw [this]; exact t6⟩
        (fun j rj hj hv => by
          cases hv
          have : rj = r := by simpa using hj.symm
          subst this
          simp only [L', if_true]
          refine ⟨r2, ?_⟩
          rw [hd]
          exact owns_nil _ _ _)
        (fun j rj hj hv => by
          have hne : ¬ j = σ.rs.length := fun q => hv (by rw [q]; exact rfl)
          have hj2 := (List.getElem?_eq_some_iff.1 hj).1
          rw [hlen] at hj2
          refine ⟨?_, if_neg hne, if_neg hne⟩
          rwa [List.getElem?_append_left (by omega)] at hj)
        (fun t b hv hb => by
          obtain ⟨id, sb, _, _, a3, a4⟩ := hbl t b hv hb
          exact ⟨((hh.ent _ _ a3).lt a4).2.1, ((hh.ent _ _ a3).lt a4).2.2⟩)
        (fun s t b hs ht bs bt => by
          obtain ⟨id, sb, a1, a2, a3, a4⟩ := hbl s b hs bs
          obtain ⟨id', sb', b1, b2, b3, b4⟩ := hbl t b ht bt
          have := hh.dis _ _ _ _ _ a3 b3 a4 b4
          subst this
          rw [← a2, ← b2])
      exact ⟨L', mk.1, rfl, mk.2⟩
end
end Go.Sx
namespace Go.Pl
open Go Go.Sx
theorem findIdx_set {α : Type} {p : α → Bool} {x : α} : ∀ {l : List α} {i : Nat} {y : α}, l[i]? = some y → p x = p y → (l.set i x).findIdx? p = l.findIdx? p
  | [], _, _, h, _ => by simp at h
  | a :: l, 0, y, h, hp => by
    simp at h
    subst h
    simp [List.findIdx?_cons, hp]
  | a :: l, i + 1, y, h, hp => by
    simp only [List.set_cons_succ, List.findIdx?_cons]
    rw [findIdx_set (l := l) (by simpa using h) hp]
theorem findIdx_at {α : Type} {p : α → Bool} : ∀ {l : List α} {i : Nat}, l.findIdx? p = some i → ∃ y, l[i]? = some y ∧ p y = true
  | [], _, h => by simp at h
  | a :: l, i, h => by
    rw [List.findIdx?_cons] at h
    cases ha : p a with
    | true => rw [ha] at h; simp at h; subst h; exact ⟨a, rfl, ha⟩
    | false =>
      rw [ha] at h
      simp at h
      obtain ⟨j, hj, rfl⟩ := h
      obtain ⟨y, h1, h2⟩ := findIdx_at hj
      exact ⟨y, by simpa using h1, h2⟩
theorem findIdx_no {α : Type} {p : α → Bool} {l : List α} (h : ∀ (i : Nat) (y : α), l[i]? = some y → p y = false) : l.findIdx? p = none := by
  rw [List.findIdx?_eq_none_iff]
  intro x hx
  obtain ⟨i, hi, rfl⟩ := List.getElem_of_mem hx
  exact h i _ (List.getElem?_eq_getElem hi)
theorem findIdx_snoc {α : Type} {p : α → Bool} {x : α} : ∀ {l : List α}, (l ++ [x]).findIdx? p = match l.findIdx? p with | some i => some i | none => if p x then some l.length else none
  | [] => by simp [List.findIdx?_cons]
  | a :: l => by
    simp only [List.cons_append, List.findIdx?_cons]
    cases ha : p a with
    | true => simp
    | false =>
      simp only [Bool.false_eq_true, if_false]
      rw [findIdx_snoc (l := l)]
      cases l.findIdx? p with
      | some i => rfl
      | none =>
        cases hx : p x <;> simp
theorem bif_P {α : Type} {P : α → Prop} {c : Bool} {a b : α} (ha : P a) (hb : P b) : P (bif c then a else b) := by
  cases c
  · exact hb
  · exact ha
/-- What an event leaves of a transaction. -/
theorem step_keep {many : Nat} {e : Ev} {r r' : Rc} (h : Rc.step many e r = .inr r') : r'.id = r.id ∧ r'.th = r.th := by
  have : (fun x : Nat ⊕ Rc => ∀ r', x = .inr r' → r'.id = r.id ∧ r'.th = r.th) (Rc.step many e r) := by
    unfold Rc.step
    repeat' (refine bif_P (P := fun x : Nat ⊕ Rc => ∀ r', x = .inr r' → r'.id = r.id ∧ r'.th = r.th) ?_ ?_)
    all_goals
      intro r' h
      first
        | (cases h; done)
        | (cases h; exact ⟨rfl, rfl⟩)
  exact this r' h
/-- The events that end a transaction, and the others. -/
theorem step_live {many : Nat} {e : Ev} {r r' : Rc} (h : Rc.step many e r = .inr r') (hk : 2 ≤ e.kind ∧ e.kind ≤ 7) (hs : 1 ≤ r.stand ∧ r.stand ≤ 5) : r.live = true ∧ (1 ≤ r'.stand ∧ r'.stand ≤ 5) ∧ (r'.live = true ↔ ¬ (e.kind = 5 ∨ e.kind = 6)) := by
  unfold Rc.step at h
  unfold Rc.live
  by_cases k2 : e.kind = 2
  · simp only [k2, beq_self_eq_true, cond_true] at h
    by_cases q : r.stand = 1
    · simp only [q, beq_self_eq_true, cond_true] at h; cases h; simp [q]; omega
    · have : (r.stand == 1) = false := by simpa using q
      rw [this] at h; cases h
  by_cases k3 : e.kind = 3
  · simp only [k3, show ((3 : Int) == 2) = false from rfl, beq_self_eq_true, cond_true, cond_false] at h
    by_cases q : r.stand = 2
    · simp only [q, beq_self_eq_true, cond_true] at h
      cases f : fitsB (r.deeds.getLast?.getD Row.dft).op e.ret <;> simp only [f, cond_true, cond_false] at h <;> cases h
      simp [q]; omega
    · have : (r.stand == 2) = false := by simpa using q
      rw [this] at h; cases h
  by_cases k4 : e.kind = 4
  · simp only [k4, show ((4 : Int) == 2) = false from rfl, show ((4 : Int) == 3) = false from rfl, beq_self_eq_true, cond_true, cond_false] at h
    by_cases q : r.stand = 1
    · simp only [q, beq_self_eq_true, cond_true] at h; cases h; simp [q]; omega
    · have : (r.stand == 1) = false := by simpa using q
      rw [this] at h; cases h
  by_cases k7 : e.kind = 7
  · simp only [k7, show ((7 : Int) == 2) = false from rfl, show ((7 : Int) == 3) = false from rfl, show ((7 : Int) == 4) = false from rfl, beq_self_eq_true, cond_true, cond_false] at h
    by_cases q : r.stand = 1
    · simp only [q, beq_self_eq_true, cond_true] at h; cases h; simp [q]; omega
    · have : (r.stand == 1) = false := by simpa using q
      rw [this] at h; cases h
  by_cases k5 : e.kind = 5
  · simp only [k5, show ((5 : Int) == 2) = false from rfl, show ((5 : Int) == 3) = false from rfl, show ((5 : Int) == 4) = false from rfl, show ((5 : Int) == 7) = false from rfl, beq_self_eq_true, cond_true, cond_false] at h
    by_cases q : r.stand = 3
    · simp only [q, beq_self_eq_true, cond_true] at h; cases h; simp [q]; omega
    · have : (r.stand == 3) = false := by simpa using q
      rw [this] at h; cases h
  have k6 : e.kind = 6 := by omega
  simp only [k6, show ((6 : Int) == 2) = false from rfl, show ((6 : Int) == 3) = false from rfl, show ((6 : Int) == 4) = false from rfl, show ((6 : Int) == 7) = false from rfl, show ((6 : Int) == 5) = false from rfl, cond_false] at h
  by_cases q : r.stand = 5
  · rw [q] at h; cases h
  · have : (r.stand == 1 || r.stand == 2 || r.stand == 3 || r.stand == 4) = true := by
      simp; omega
    rw [this] at h
    cases h
    simp [q]; omega
end Go.Pl
namespace Go.Proofs
open Go Go.Sx Go.Pl
section
variable {n m : Nat} {o : Nat → Oj} {many : Nat} {gR : Nat → List Sh} {M1 M2 : Int → Option Value}
theorem none53_2 (hm : many < 400) {e : Ev} (h1 : 0 ≤ e.obj) (h2 : e.obj < n) (h3 : opOf e.op = (o e.obj.toNat).kind) (hk : e.kind = 2) (hv : validB e = true) :
    MeetsN (EndOK [toN n m o many gR M1 M2 [(e.tx, false, .any)] []] (fun sv k => sv = svE (some 0) ∧ k = 0)) ((run (C5 prim W5 spec53 unroll) 700 true 53 [.code []] (LA 2 e (hpA n m o many gR M1 M2 [(e.tx, false, .any)] []))).bind (toEnd [toN n m o many gR M1 M2 [(e.tx, false, .any)] []])) := by
  obtain ⟨kind, tx, thread, obj, op, key, val, ret⟩ := e
  have hk : kind = 2 := hk
  subst hk
  have hw := hm
  have hroom := hm
  have h1 : 0 ≤ obj := h1
  have h2 : obj < n := h2
  have h3 : opOf op = (o obj.toNat).kind := h3
  have ho : prim.le (prim.ofN n) obj = true → False := fun q => by simp [prim_le, prim_ofN] at q; omega
  have hi : prim.inB obj n = true := by simp [prim_inB]; omega
  have hq : prim.nt (prim.eq (opOf op) (o (prim.toN obj)).kind) = true → False := fun q => by
    simp [prim_nt, prim_eq, prim_toN] at q; exact q h3
  rw [n53_2 prim W5 n m o many gR M1 M2 ⟨2, tx, thread, obj, op, key, val, ret⟩ many, meetsN_eq]
  repeat' (first
    | exact trivial
    | exact hv
    | exact hw
    | exact hi
    | exact hroom
    | exact eqS _
    | exact rfl
    | exact fun _ _ => rfl
    | (intro q; exact (ho q).elim)
    | (intro q; exact (hq q).elim)
    | (intro q; replace q := eqT q; first | (exfalso; omega) | skip)
    | (intro q; replace q := eqF q; first | (exfalso; omega) | skip)
    | intro _
    | refine And.intro ?_ ?_)
theorem none53_3 (hm : many < 400) {e : Ev}  (hk : e.kind = 3) (hv : validB e = true) :
    MeetsN (EndOK [toN n m o many gR M1 M2 [(e.tx, false, .any)] []] (fun sv k => sv = svE (some 0) ∧ k = 0)) ((run (C5 prim W5 spec53 unroll) 700 true 53 [.code []] (LA 3 e (hpA n m o many gR M1 M2 [(e.tx, false, .any)] []))).bind (toEnd [toN n m o many gR M1 M2 [(e.tx, false, .any)] []])) := by
  obtain ⟨kind, tx, thread, obj, op, key, val, ret⟩ := e
  have hk : kind = 3 := hk
  subst hk
  have hw := hm
  have hroom := hm
  have ho := hm
  have hi := hm
  have hq := hm
  rw [n53_3 prim W5 n m o many gR M1 M2 ⟨3, tx, thread, obj, op, key, val, ret⟩ many, meetsN_eq]
  repeat' (first
    | exact trivial
    | exact hv
    | exact hw
    | exact hi
    | exact hroom
    | exact eqS _
    | exact rfl
    | exact fun _ _ => rfl
    | (intro q; exact (ho q).elim)
    | (intro q; exact (hq q).elim)
    | (intro q; replace q := eqT q; first | (exfalso; omega) | skip)
    | (intro q; replace q := eqF q; first | (exfalso; omega) | skip)
    | intro _
    | refine And.intro ?_ ?_)
theorem none53_4 (hm : many < 400) {e : Ev}  (hk : e.kind = 4) (hv : validB e = true) :
    MeetsN (EndOK [toN n m o many gR M1 M2 [(e.tx, false, .any)] []] (fun sv k => sv = svE (some 0) ∧ k = 0)) ((run (C5 prim W5 spec53 unroll) 700 true 53 [.code []] (LA 4 e (hpA n m o many gR M1 M2 [(e.tx, false, .any)] []))).bind (toEnd [toN n m o many gR M1 M2 [(e.tx, false, .any)] []])) := by
  obtain ⟨kind, tx, thread, obj, op, key, val, ret⟩ := e
  have hk : kind = 4 := hk
  subst hk
  have hw := hm
  have hroom := hm
  have ho := hm
  have hi := hm
  have hq := hm
  rw [n53_4 prim W5 n m o many gR M1 M2 ⟨4, tx, thread, obj, op, key, val, ret⟩ many, meetsN_eq]
  repeat' (first
    | exact trivial
    | exact hv
    | exact hw
    | exact hi
    | exact hroom
    | exact eqS _
    | exact rfl
    | exact fun _ _ => rfl
    | (intro q; exact (ho q).elim)
    | (intro q; exact (hq q).elim)
    | (intro q; replace q := eqT q; first | (exfalso; omega) | skip)
    | (intro q; replace q := eqF q; first | (exfalso; omega) | skip)
    | intro _
    | refine And.intro ?_ ?_)
theorem none53_5 (hm : many < 400) {e : Ev}  (hk : e.kind = 5) (hv : validB e = true) :
    MeetsN (EndOK [toN n m o many gR M1 M2 [(e.tx, false, .any)] []] (fun sv k => sv = svE (some 0) ∧ k = 0)) ((run (C5 prim W5 spec53 unroll) 700 true 53 [.code []] (LA 5 e (hpA n m o many gR M1 M2 [(e.tx, false, .any)] []))).bind (toEnd [toN n m o many gR M1 M2 [(e.tx, false, .any)] []])) := by
  obtain ⟨kind, tx, thread, obj, op, key, val, ret⟩ := e
  have hk : kind = 5 := hk
  subst hk
  have hw := hm
  have hroom := hm
  have ho := hm
  have hi := hm
  have hq := hm
  rw [n53_5 prim W5 n m o many gR M1 M2 ⟨5, tx, thread, obj, op, key, val, ret⟩ many, meetsN_eq]
  repeat' (first
    | exact trivial
    | exact hv
    | exact hw
    | exact hi
    | exact hroom
    | exact eqS _
    | exact rfl
    | exact fun _ _ => rfl
    | (intro q; exact (ho q).elim)
    | (intro q; exact (hq q).elim)
    | (intro q; replace q := eqT q; first | (exfalso; omega) | skip)
    | (intro q; replace q := eqF q; first | (exfalso; omega) | skip)
    | intro _
    | refine And.intro ?_ ?_)
theorem none53_6 (hm : many < 400) {e : Ev}  (hk : e.kind = 6) (hv : validB e = true) :
    MeetsN (EndOK [toN n m o many gR M1 M2 [(e.tx, false, .any)] []] (fun sv k => sv = svE (some 0) ∧ k = 0)) ((run (C5 prim W5 spec53 unroll) 700 true 53 [.code []] (LA 6 e (hpA n m o many gR M1 M2 [(e.tx, false, .any)] []))).bind (toEnd [toN n m o many gR M1 M2 [(e.tx, false, .any)] []])) := by
  obtain ⟨kind, tx, thread, obj, op, key, val, ret⟩ := e
  have hk : kind = 6 := hk
  subst hk
  have hw := hm
  have hroom := hm
  have ho := hm
  have hi := hm
  have hq := hm
  rw [n53_6 prim W5 n m o many gR M1 M2 ⟨6, tx, thread, obj, op, key, val, ret⟩ many, meetsN_eq]
  repeat' (first
    | exact trivial
    | exact hv
    | exact hw
    | exact hi
    | exact hroom
    | exact eqS _
    | exact rfl
    | exact fun _ _ => rfl
    | (intro q; exact (ho q).elim)
    | (intro q; exact (hq q).elim)
    | (intro q; replace q := eqT q; first | (exfalso; omega) | skip)
    | (intro q; replace q := eqF q; first | (exfalso; omega) | skip)
    | intro _
    | refine And.intro ?_ ?_)
theorem none53_7 (hm : many < 400) {e : Ev}  (hk : e.kind = 7) (hv : validB e = true) :
    MeetsN (EndOK [toN n m o many gR M1 M2 [(e.tx, false, .any)] []] (fun sv k => sv = svE (some 0) ∧ k = 0)) ((run (C5 prim W5 spec53 unroll) 700 true 53 [.code []] (LA 7 e (hpA n m o many gR M1 M2 [(e.tx, false, .any)] []))).bind (toEnd [toN n m o many gR M1 M2 [(e.tx, false, .any)] []])) := by
  obtain ⟨kind, tx, thread, obj, op, key, val, ret⟩ := e
  have hk : kind = 7 := hk
  subst hk
  have hw := hm
  have hroom := hm
  have ho := hm
  have hi := hm
  have hq := hm
  rw [n53_7 prim W5 n m o many gR M1 M2 ⟨7, tx, thread, obj, op, key, val, ret⟩ many, meetsN_eq]
  repeat' (first
    | exact trivial
    | exact hv
    | exact hw
    | exact hi
    | exact hroom
    | exact eqS _
    | exact rfl
    | exact fun _ _ => rfl
    | (intro q; exact (ho q).elim)
    | (intro q; exact (hq q).elim)
    | (intro q; replace q := eqT q; first | (exfalso; omega) | skip)
    | (intro q; replace q := eqF q; first | (exfalso; omega) | skip)
    | intro _
    | refine And.intro ?_ ?_)
theorem again53 (hm : many < 400) {e : Ev} (hk : e.kind = 1) (hv : validB e = true) (r : Rc) :
    MeetsN (EndOK [toRc n m o gR M1 M2 e many r []] (fun sv k => sv = svE (some 5) ∧ k = 0)) ((run (C5 prim W5 spec53 unroll) 700 true 53 [.code []] (LA 1 e (hpA n m o many gR M1 M2 [(e.tx, true, .ptr 4 0)] [] ++ hpRc r))).bind (toEnd [toRc n m o gR M1 M2 e many r []])) := by
  obtain ⟨kind, tx, thread, obj, op, key, val, ret⟩ := e
  obtain ⟨id, th, st, bg, en, tr, deeds, stand⟩ := r
  have hk : kind = 1 := hk
  subst hk
  have hw := hm
  have hroom := hm
  have ho := hm
  have hi := hm
  have hq := hm
  unfold toRc hpRc
  simp only
  rw [b53_1 prim W5 n m o many gR M1 M2 ⟨1, tx, thread, obj, op, key, val, ret⟩ id th st bg en tr stand deeds.length (nth deeds) many id th st bg en tr stand deeds.length (fnR (nth deeds)), meetsN_eq]
  repeat' (first
    | exact trivial
    | exact hv
    | exact hw
    | exact hi
    | exact hroom
    | exact eqS _
    | exact rfl
    | exact fun _ _ => rfl
    | (intro q; exact (ho q).elim)
    | (intro q; exact (hq q).elim)
    | (intro q; replace q := eqT q; first | (exfalso; omega) | skip)
    | (intro q; replace q := eqF q; first | (exfalso; omega) | skip)
    | intro _
    | refine And.intro ?_ ?_)
theorem busy53 (hm : many < 400) {e : Ev} (hk : e.kind = 1) (hv : validB e = true) (q : Nat) :
    MeetsN (EndOK [toN n m o many gR M1 M2 [(e.tx, false, .any)] [(e.thread, true, .val (.pointer (some ⟨q, 0, none⟩)))]] (fun sv k => sv = svE (some 6) ∧ k = 0)) ((run (C5 prim W5 spec53 unroll) 700 true 53 [.code []] (LA 1 e (hpA n m o many gR M1 M2 [(e.tx, false, .any)] [(e.thread, true, .val (.pointer (some ⟨q, 0, none⟩)))]))).bind (toEnd [toN n m o many gR M1 M2 [(e.tx, false, .any)] [(e.thread, true, .val (.pointer (some ⟨q, 0, none⟩)))]])) := by
  obtain ⟨kind, tx, thread, obj, op, key, val, ret⟩ := e
  have hk : kind = 1 := hk
  subst hk
  have hw := hm
  have hroom := hm
  have ho := hm
  have hi := hm
  have hq := hm
  rw [b53_2 prim W5 n m o many gR M1 M2 ⟨1, tx, thread, obj, op, key, val, ret⟩ q many, meetsN_eq]
  repeat' (first
    | exact trivial
    | exact hv
    | exact hw
    | exact hi
    | exact hroom
    | exact eqS _
    | exact rfl
    | exact fun _ _ => rfl
    | (intro q; exact (ho q).elim)
    | (intro q; exact (hq q).elim)
    | (intro q; replace q := eqT q; first | (exfalso; omega) | skip)
    | (intro q; replace q := eqF q; first | (exfalso; omega) | skip)
    | intro _
    | refine And.intro ?_ ?_)
theorem begin53 (hm : many < 400) (hl : m ≤ 1000) {e : Ev} (hk : e.kind = 1) (hv : validB e = true) :
    MeetsN (EndOK [toB n m o gR M1 M2 e (many + 1 : Nat) e.tx e.thread 1 many (-1) (-1) 1] (fun sv k => sv = svE none ∧ k = 0)) ((run (C5 prim W5 spec53 unroll) 700 true 53 [.code []] (LA 1 e (hpA n m o many gR M1 M2 [(e.tx, false, .any)] [(e.thread, false, .any)]))).bind (toEnd [toB n m o gR M1 M2 e (many + 1 : Nat) e.tx e.thread 1 many (-1) (-1) 1])) := by
  obtain ⟨kind, tx, thread, obj, op, key, val, ret⟩ := e
  have hk : kind = 1 := hk
  subst hk
  have hw := wrapM hm
  have hroom : prim.room (prim.addN m 1) 8 = true := by
    show decide ((m + 1) * 8 ≤ 140737488355328 ∧ m + 1 ≤ maxLen) = true
    rw [maxLen_eq]; exact decide_eq_true ⟨by omega, by omega⟩
  have ho := hm
  have hi := hm
  have hq := hm
  rw [b53_3 prim W5 n m o many gR M1 M2 ⟨1, tx, thread, obj, op, key, val, ret⟩ (many + 1 : Nat) tx thread 1 many (-1) (-1) 1, meetsN_eq]
  repeat' (first
    | exact trivial
    | exact hv
    | exact hw
    | exact hi
    | exact hroom
    | exact eqS _
    | exact rfl
    | exact fun _ _ => rfl
    | (intro q; exact (ho q).elim)
    | (intro q; exact (hq q).elim)
    | (intro q; replace q := eqT q; first | (exfalso; omega) | skip)
    | (intro q; replace q := eqF q; first | (exfalso; omega) | skip)
    | intro _
    | refine And.intro ?_ ?_)
end
end Go.Proofs
namespace Go.Proofs
open Go Go.Sx Go.Pl
/-- An error or none, as a value. -/
def ErrIs (H : Mem) : Option Nat → Value → Prop
  | none, v => v = .nilIface
  | some k, v => Rep H (.er k 125) v
theorem svE_den {H : Mem} {E : Env} {x : Option Nat} {v : Value} (h : Den H E (svE x) v) : ErrIs H x v := by
  cases x with
  | none => exact h
  | some k => exact h
def ownA (L : Lay) (k : Nat) : Nat → Prop := fun b => ∃ t, L.blk k t = some b
/-- What Feed leaves. -/
def FeedPost (H : Mem) (w : World) (n : Nat) (o : Nat → Oj) (σ : Au) (L : Lay) (x : Option Nat) (σ' : Au) (en : Ending) (w' : World) : Prop :=
  ∃ v H' L', en = .returned v ∧ ErrIs H' x v ∧ AutoAt H' w' n (fnR o) σ' L' ∧ L'.p = L.p ∧ (∀ t b, L'.blk σ'.rs.length t = some b → w.heap.size ≤ b ∨ ownA L σ.rs.length b) ∧ H.le H' ∧ WOK ⟨w, ownA L σ.rs.length, H⟩ H' w'
theorem wok_mono {w w' : World} {H H' : Mem} {own own' : Nat → Prop} (h : WOK ⟨w, own, H⟩ H' w') (ho : ∀ b, own b → own' b) : WOK ⟨w, own', H⟩ H' w' :=
  ⟨h.os, h.tape, h.output, h.size, fun b hb hn => h.kept b hb fun q => hn (ho b q), h.on, h.le, fun b hb => by
    rcases h.fresh b hb with q | q | q
    · exact .inl q
    · exact .inr (.inl q)
    · exact .inr (.inr (ho b q))⟩
def evV (e : Ev) : Value := .agg #[.int .i64 e.kind, .int .i64 e.tx, .int .i64 e.thread, .int .i64 e.obj, .int .i64 e.op, .int .i64 e.key, .int .i64 e.val, .int .i64 e.ret]
@[irreducible] def DenI (H : Mem) (E : Env) (l : List SV) (vs : List Value) : Prop := DenL H E l vs
theorem denI_eq {H : Mem} {E : Env} {l : List SV} {vs : List Value} : DenI H E l vs = DenL H E l vs := by unfold DenI; rfl
theorem calls_endI {P : Program} {C : Ctx} {H : Mem} {E : Env} {w : World} (hC : CtxOK P C) (hF : FnsOK P C) {n g : Nat} {fn : Func} {c : Core} {args : Array Value} {ts : List TgE} {φ : SV → Nat → Prop} (hfn : C.fns.get g = some fn) (hb : fn.body.isSome = true)
    (hd : DenI H E c.tm (args ++ Array.replicate (fn.ntmps - args.size) undef).toList) (hh : HeapOK ⟨w, ownOf E c.hp, H⟩ H E w c.hp) (hon : H.on w) (hfree : Free E c) (hg : GlobOK C.gls H)
    (h : MeetsN (EndOK ts φ) ((run C n true g [.code []] c).bind (toEnd ts))) :
    Calls P g args w fun e w' => ∃ v sv k t H' E1 E', e = .returned v ∧ φ sv k ∧ ts[k]? = some t ∧ Den H' E1 sv v ∧ HeapOK ⟨w, ownOf E c.hp, H⟩ H' E' w' t.hp ∧ WOK ⟨w, ownOf E c.hp, H⟩ H' w' ∧ H.le H' ∧ ∀ i ∈ t.keep, ∀ u, E i = some u → E' i = some u := by
  rw [denI_eq] at hd
  exact calls_end hC hF hfn hb hd hh hon hfree hg h
theorem arr_rep (a b u : Value) (k : Nat) : (#[a, b] ++ Array.replicate k u).toList = [a, b] ++ List.replicate k u := by simp
theorem tm_den {H : Mem} {E : Env} {L : Lay} {e : Ev} {kind : Int} {hp : List (Nat × SB)} (hk : e.kind = kind) (h0 : E 0 = some (ptrV L.p)) : DenI H E (LA kind e hp).tm (#[ptrV L.p, evV e] ++ Array.replicate (Tryd.f53.ntmps - #[ptrV L.p, evV e].size) undef).toList := by
  have hn : Tryd.f53.ntmps = 168 := by kernel_rfl
  rw [denI_eq, hn, arr_rep]
  have e1 : (LA kind e hp).tm = [.ptr 0 0, evS kind e] ++ List.replicate 166 .any := rfl
  have e3 : 168 - #[ptrV L.p, evV e].size = 166 := rfl
  rw [e1, e3]
  refine DenL.append ⟨⟨L.p, by rw [h0]; rfl, rfl⟩, ⟨_, rfl, ⟨by rw [← hk]; rfl, rfl, rfl, rfl, rfl, rfl, rfl, rfl, trivial⟩⟩, trivial⟩ (DenL.any _ _ ?_)
  rw [List.length_replicate]
theorem envA_free {L : Lay} {i : Option Nat} {c : Core} (h : c.nx = 7) : Free (envA L i) c := fun id h1 _ => by
  rw [h] at h1
  match id, h1 with
  | id + 7, _ => rfl
section
variable {H : Mem} {w : World} {n : Nat} {o : Nat → Oj} {σ : Au} {L : Lay} {e : Ev}
/-- Where a transaction is found. -/
theorem feed_rec (hA : AutoAt H w n (fnR o) σ L) (hon : H.on w) (hg : GlobOK (gls5 W5) H) {i : Nat} {r : Rc} (hi : σ.rs[i]? = some r) (hby : σ.byIx e.tx = some i) {kind : Int} (hk : e.kind = kind) {ts : List TgE} {φ : SV → Nat → Prop}
    (hrun : MeetsN (EndOK ts φ) ((run (C5 prim W5 spec53 unroll) 700 true 53 [.code []] (LA kind e (hpA n σ.rs.length o σ.many (gPtr L.R) (mBy σ L) (mBu σ L) [(e.tx, true, .ptr 4 0)] [] ++ hpRc r))).bind (toEnd ts)))
    {x : Option Nat} {many' : Nat} {r' : Rc} (hid : r'.id = r.id)
    (hts : ∀ sv k t, φ sv k → ts[k]? = some t → sv = svE x ∧ ∃ us, t = toRc n σ.rs.length o (gPtr L.R) (mBy σ L) (mBu σ L) e many' r' us ∧ usOK σ ⟨many', σ.rs.set i r'⟩ us) :
    Calls Tryd.prog 53 #[ptrV L.p, evV e] w (FeedPost H w n o σ L x ⟨many', σ.rs.set i r'⟩) := by
  have hown := own_rec (f1 := [(e.tx, true, .ptr 4 0)]) (f2 := []) hA hi
  have hview := view_rec (own := ownOf (envA L (some i)) (hpAL n o σ L [(e.tx, true, .ptr 4 0)] [] ++ hpRc r)) hA hi (fun t b h1 h2 => (hown b).2 ⟨t, h1, h2⟩) (f1 := [(e.tx, true, .ptr 4 0)]) (f2 := []) (v1 := [(e.tx, some (ptrV (L.R i)))]) (v2 := [])
    ⟨rfl, ⟨⟨L.R i, rfl, rfl⟩, rfl⟩, trivial⟩ trivial (fun k u hm => by
      simp at hm
      obtain ⟨rfl, rfl⟩ := hm
      simp [mBy, hby]) (fun k u hm => by simp at hm)
  have hd := tm_den (H := H) (E := envA L (some i)) (L := L) (hp := hpA n σ.rs.length o σ.many (gPtr L.R) (mBy σ L) (mBu σ L) [(e.tx, true, .ptr 4 0)] [] ++ hpRc r) hk rfl
  refine (calls_endI (args := #[ptrV L.p, evV e]) (fn := Tryd.f53) (c := LA kind e (hpA n σ.rs.length o σ.many (gPtr L.R) (mBy σ L) (mBu σ L) [(e.tx, true, .ptr 4 0)] [] ++ hpRc r)) (C5.ok _ _) (fok53 _) (by kernel_rfl) (by kernel_rfl) hd hview hon (envA_free rfl) hg hrun).mono fun en w' ⟨v, sv, k, t, H', E1, E', h1, h2, h3, h4, h5, h6, h7, h8⟩ => ?_
  obtain ⟨hsv, us, rfl, hus⟩ := hts sv k t h2 h3
  subst hsv
  obtain ⟨L', a1, a2, a3⟩ := after_rec hA hi hown h5 h6 h7 (h8 0 (by simp [toRc, toR]) _ rfl) (h8 4 (by simp [toRc, toR]) _ rfl)
    (fun k => findIdx_set hi (by simp [hid])) hus
  exact ⟨v, H', L', h1, svE_den h4, a1, a2, a3, h7, wok_mono h6 fun b hb => by
    obtain ⟨t, _, q⟩ := (hown b).1 hb
    exact ⟨t, q⟩⟩
/-- Where none is. -/
theorem feed_none (hA : AutoAt H w n (fnR o) σ L) (hon : H.on w) (hg : GlobOK (gls5 W5) H) (hby : σ.byIx e.tx = none) {kind : Int} (hk : e.kind = kind) {f2 : List (Int × Bool × SV)} {v2 : List (Int × Option Value)} (d2 : DenF H (envA L none) f2 v2) (m2 : ∀ k u, (k, u) ∈ v2 → mBu σ L k = u) {x : Option Nat}
    (hrun : MeetsN (EndOK [toN n σ.rs.length o σ.many (gPtr L.R) (mBy σ L) (mBu σ L) [(e.tx, false, .any)] f2] (fun sv k => sv = svE x ∧ k = 0)) ((run (C5 prim W5 spec53 unroll) 700 true 53 [.code []] (LA kind e (hpA n σ.rs.length o σ.many (gPtr L.R) (mBy σ L) (mBu σ L) [(e.tx, false, .any)] f2))).bind (toEnd [toN n σ.rs.length o σ.many (gPtr L.R) (mBy σ L) (mBu σ L) [(e.tx, false, .any)] f2]))) :
    Calls Tryd.prog 53 #[ptrV L.p, evV e] w (FeedPost H w n o σ L x σ) := by
  have hown := own_none (n := n) (o := o) (σ := σ) (L := L) (f1 := [(e.tx, false, .any)]) (f2 := f2)
  have hview := view_none (own := ownOf (envA L none) (hpAL n o σ L [(e.tx, false, .any)] f2)) hA (fun t b h1 h2 => (hown b).2 ⟨t, h1, h2⟩) (f1 := [(e.tx, false, .any)]) (f2 := f2) (v1 := [(e.tx, none)]) (v2 := v2)
    ⟨rfl, trivial, trivial⟩ d2 (fun k u hm => by
      simp at hm
      obtain ⟨rfl, rfl⟩ := hm
      simp [mBy, hby]) m2
  have hd := tm_den (H := H) (E := envA L none) (L := L) (hp := hpA n σ.rs.length o σ.many (gPtr L.R) (mBy σ L) (mBu σ L) [(e.tx, false, .any)] f2) hk rfl
  refine (calls_endI (args := #[ptrV L.p, evV e]) (fn := Tryd.f53) (c := LA kind e (hpA n σ.rs.length o σ.many (gPtr L.R) (mBy σ L) (mBu σ L) [(e.tx, false, .any)] f2)) (C5.ok _ _) (fok53 _) (by kernel_rfl) (by kernel_rfl) hd hview hon (envA_free rfl) hg hrun).mono fun en w' ⟨v, sv, k, t, H', E1, E', h1, h2, h3, h4, h5, h6, h7, h8⟩ => ?_
  obtain ⟨rfl, rfl⟩ := h2
  cases h3
  obtain ⟨L', a1, a2, a3⟩ := after_none hA hown h5 h6 h7 (h8 0 (by simp [toN]) _ rfl)
  exact ⟨v, H', L', h1, svE_den h4, a1, a2, a3, h7, wok_mono h6 fun b hb => by
    obtain ⟨t, _, q⟩ := (hown b).1 hb
    exact ⟨t, q⟩⟩
theorem feed_new (hA : AutoAt H w n (fnR o) σ L) (hon : H.on w) (hg : GlobOK (gls5 W5) H) (hm : σ.many < 400) (hl : σ.rs.length ≤ 1000) (hby : σ.byIx e.tx = none) (hbu : σ.buIx e.thread = none) (hk : e.kind = 1) (hv : validB e = true) :
    Calls Tryd.prog 53 #[ptrV L.p, evV e] w (FeedPost H w n o σ L none ⟨σ.many + 1, σ.rs ++ [⟨e.tx, e.thread, 1, σ.many, -1, -1, [], 1⟩]⟩) := by
  have hown := own_none (n := n) (o := o) (σ := σ) (L := L) (f1 := [(e.tx, false, .any)]) (f2 := [(e.thread, false, .any)])
  have hview := view_none (own := ownOf (envA L none) (hpAL n o σ L [(e.tx, false, .any)] [(e.thread, false, .any)])) hA (fun t b h1 h2 => (hown b).2 ⟨t, h1, h2⟩) (f1 := [(e.tx, false, .any)]) (f2 := [(e.thread, false, .any)]) (v1 := [(e.tx, none)]) (v2 := [(e.thread, none)])
    ⟨rfl, trivial, trivial⟩ ⟨rfl, trivial, trivial⟩ (fun k u hm => by
      simp at hm
      obtain ⟨rfl, rfl⟩ := hm
      simp [mBy, hby]) (fun k u hm => by
      simp at hm
      obtain ⟨rfl, rfl⟩ := hm
      simp [mBu, hbu])
  have hd := tm_den (H := H) (E := envA L none) (L := L) (hp := hpA n σ.rs.length o σ.many (gPtr L.R) (mBy σ L) (mBu σ L) [(e.tx, false, .any)] [(e.thread, false, .any)]) hk rfl
  refine (calls_endI (args := #[ptrV L.p, evV e]) (fn := Tryd.f53) (c := LA 1 e (hpA n σ.rs.length o σ.many (gPtr L.R) (mBy σ L) (mBu σ L) [(e.tx, false, .any)] [(e.thread, false, .any)])) (C5.ok _ _) (fok53 _) (by kernel_rfl) (by kernel_rfl) hd hview hon (envA_free rfl) hg (begin53 hm hl hk hv)).mono fun en w' ⟨v, sv, k, t, H', E1, E', h1, h2, h3, h4, h5, h6, h7, h8⟩ => ?_
  obtain ⟨rfl, rfl⟩ := h2
  cases h3
  obtain ⟨L', a1, a2, a3⟩ := after_new (r := ⟨e.tx, e.thread, 1, σ.many, -1, -1, [], 1⟩) hA hown rfl h5 h6 h7 (h8 0 (by simp [toB]) _ rfl)
    (fun k => by
      show (σ.rs ++ [_]).findIdx? _ = _
      rw [findIdx_snoc]
      by_cases q : k = e.tx
      · subst q
        rw [if_pos rfl, show σ.rs.findIdx? (fun r => r.id == e.tx) = none from hby]
        simp
      · rw [if_neg q]
        unfold Au.byIx
        cases σ.rs.findIdx? fun r => r.id == k with
        | some j => rfl
        | none => simp; exact fun h => (q h.symm).elim)
    (fun k => by
      show (σ.rs ++ [_]).findIdx? _ = _
      rw [findIdx_snoc]
      by_cases q : k = e.thread
      · subst q
        rw [if_pos rfl, show σ.rs.findIdx? (fun r => r.th == e.thread && r.live) = none from hbu]
        simp [Rc.live]
      · rw [if_neg q]
        unfold Au.buIx
        cases σ.rs.findIdx? fun r => r.th == k && r.live with
        | some j => rfl
        | none => simp; exact fun h => (q h.symm).elim)
  exact ⟨v, H', L', h1, svE_den h4, a1, a2, a3, h7, wok_mono h6 fun b hb => by
    obtain ⟨t, _, q⟩ := (hown b).1 hb
    exact ⟨t, q⟩⟩
end
end Go.Proofs
namespace Go.Pl
open Go Go.Sx
theorem set_same {α : Type} {l : List α} {i : Nat} {x : α} (h : l[i]? = some x) : l.set i x = l := by
  apply List.ext_getElem?
  intro j
  rw [List.getElem?_set]
  by_cases q : i = j
  · subst q
    rw [if_pos rfl, if_pos (List.getElem?_eq_some_iff.1 h).1, h]
  · rw [if_neg q]
theorem out_keep (many : Nat) (e : Ev) (r : Rc) : (Rc.out many e r).2.2.id = r.id := by
  unfold Rc.out
  cases h : Rc.step many e r with
  | inl k => rfl
  | inr r' => exact (step_keep h).1
/-- Behind an event of a transaction. -/
theorem feed_some {σ : Au} {e : Ev} {i : Nat} {r : Rc} (hi : σ.rs[i]? = some r) (hby : σ.byIx e.tx = some i) (hk : ¬ e.kind = 1) : σ.feed e = ((Rc.out σ.many e r).1, ⟨(Rc.out σ.many e r).2.1, σ.rs.set i (Rc.out σ.many e r).2.2⟩) := by
  have h1 : (e.kind == 1) = false := by simpa using hk
  have hr : σ.rs.getD i ⟨0, 0, 0, 0, 0, 0, [], 0⟩ = r := by rw [List.getD_eq_getElem?_getD, hi]; rfl
  unfold Au.feed
  rw [hby]
  simp only [h1, cond_false, hr]
  unfold Rc.out
  cases h : Rc.step σ.many e r with
  | inl k => simp only [set_same hi]
  | inr r' => rfl
theorem valid_kind {e : Ev} (h : validB e = true) : 1 ≤ e.kind ∧ e.kind ≤ 7 := by
  unfold validB at h
  simp only [Bool.and_eq_true] at h
  have := of_decide_eq_true h.1.1
  exact this.1
end Go.Pl
namespace Go.Proofs
open Go Go.Sx Go.Pl
theorem us_keep {σ : Au} {i : Nat} {r : Rc} {e : Ev} (hi : σ.rs[i]? = some r) (hs : 1 ≤ r.stand ∧ r.stand ≤ 5) (hk : 2 ≤ e.kind ∧ e.kind ≤ 7) (hn : ¬ (e.kind = 5 ∨ e.kind = 6) ∨ (Rc.out σ.many e r).1.isNone = false) : usOK σ ⟨(Rc.out σ.many e r).2.1, σ.rs.set i (Rc.out σ.many e r).2.2⟩ [] := by
  refine .inl ⟨rfl, fun k => ?_⟩
  unfold Rc.out at hn ⊢
  cases h : Rc.step σ.many e r with
  | inl x => simp only [set_same hi]
  | inr r' =>
    rw [h] at hn
    have hn : ¬ (e.kind = 5 ∨ e.kind = 6) := by simpa using hn
    obtain ⟨l1, l2, l3⟩ := step_live h hk hs
    exact findIdx_set hi (by rw [(step_keep h).2, l1, l3.2 hn])
theorem us_end {σ : Au} (hI : σ.OK) {i : Nat} {r : Rc} {e : Ev} (hi : σ.rs[i]? = some r) (hk : e.kind = 5 ∨ e.kind = 6) (hn : (Rc.out σ.many e r).1.isNone = true) : usOK σ ⟨(Rc.out σ.many e r).2.1, σ.rs.set i (Rc.out σ.many e r).2.2⟩ [(r.th, false, .any)] := by
  refine .inr ⟨r.th, .any, rfl, fun k => ?_⟩
  unfold Rc.out at hn ⊢
  cases h : Rc.step σ.many e r with
  | inl x => rw [h] at hn; cases hn
  | inr r' =>
    obtain ⟨l1, l2, l3⟩ := step_live h (by omega) (hI.stands i r hi)
    have hl : r'.live = false := by
      cases q : r'.live with
      | false => rfl
      | true => exact (l3.1 q hk).elim
    have ht := (step_keep h).2
    have hlt := (List.getElem?_eq_some_iff.1 hi).1
    by_cases q : k = r.th
    · rw [if_pos q]
      subst q
      refine findIdx_no fun j y hj => ?_
      rw [List.getElem?_set] at hj
      by_cases e1 : i = j
      · rw [if_pos e1, if_pos (by omega)] at hj
        cases hj
        rw [hl, Bool.and_false]
      · rw [if_neg e1] at hj
        cases h1 : (y.th == r.th && y.live) with
        | false => rfl
        | true =>
          simp only [Bool.and_eq_true, beq_iff_eq] at h1
          exact (e1 (hI.one i j r y hi hj h1.1.symm l1 h1.2)).elim
    · rw [if_neg q]
      refine findIdx_set hi ?_
      rw [ht]
      have : (r.th == k) = false := by simpa using fun h : r.th = k => q h.symm
      rw [this]; rfl
section
variable {H : Mem} {w : World} {n : Nat} {o : Nat → Oj} {σ : Au} {L : Lay} {e : Ev}
theorem ts1 {t0 t : TgE} {k : Nat} (h : [t0][k]? = some t) (hk : k = 0) : t = t0 := by
  subst hk; cases h; rfl
/-- The contract of Feed. -/
theorem feed_ok (hA : AutoAt H w n (fnR o) σ L) (hI : σ.OK) (hon : H.on w) (hg : GlobOK (gls5 W5) H) (hm : σ.many < 400) (hv : validB e = true) (hob : e.kind = 2 → 0 ≤ e.obj ∧ e.obj < n ∧ opOf e.op = (o e.obj.toNat).kind) :
    Calls Tryd.prog 53 #[ptrV L.p, evV e] w (FeedPost H w n o σ L (σ.feed e).1 (σ.feed e).2) := by
  have hkd := valid_kind hv
  have hlen := hI.len
  cases hby : σ.byIx e.tx with
  | some i =>
    obtain ⟨r, hi, hp⟩ := findIdx_at hby
    have hdl := hI.dl i r hi
    by_cases k1 : e.kind = 1
    · have e1 : σ.feed e = (some 5, σ) := by
        unfold Au.feed
        rw [hby]
        simp only [k1]
        rfl
      rw [e1]
      have := feed_rec hA hon hg hi hby k1 (again53 (n := n) (o := o) hm k1 hv r) (x := some 5) (many' := σ.many) (r' := r) rfl fun sv k t h1 h2 => ⟨h1.1, [], ts1 h2 h1.2, .inl ⟨rfl, fun k => by rw [set_same hi]⟩⟩
      rw [set_same hi] at this
      exact this
    · rw [feed_some hi hby k1]
      have hst := hI.stands i r hi
      by_cases k2 : e.kind = 2
      · obtain ⟨h1, h2, h3⟩ := hob k2
        exact feed_rec hA hon hg hi hby k2 (rec53_2 hm k2 hv r (by omega) h1 h2 h3) (out_keep _ _ _) fun sv k t h1 h2 => ⟨h1.1, [], ts1 h2 h1.2, us_keep hi hst (by omega) (.inl (by omega))⟩
      by_cases k3 : e.kind = 3
      · exact feed_rec hA hon hg hi hby k3 (rec53_3 hm k3 hv r (by omega) (hI.deed i r hi)) (out_keep _ _ _) fun sv k t h1 h2 => ⟨h1.1, [], ts1 h2 h1.2, us_keep hi hst (by omega) (.inl (by omega))⟩
      by_cases k4 : e.kind = 4
      · exact feed_rec hA hon hg hi hby k4 (rec53_4 hm k4 hv r) (out_keep _ _ _) fun sv k t h1 h2 => ⟨h1.1, [], ts1 h2 h1.2, us_keep hi hst (by omega) (.inl (by omega))⟩
      by_cases k7 : e.kind = 7
      · exact feed_rec hA hon hg hi hby k7 (rec53_7 hm k7 hv r) (out_keep _ _ _) fun sv k t h1 h2 => ⟨h1.1, [], ts1 h2 h1.2, us_keep hi hst (by omega) (.inl (by omega))⟩
      have fin : ∀ (sv : SV) (k : Nat) (t : TgE), (sv = svE (Rc.out σ.many e r).1 ∧ k = bif (Rc.out σ.many e r).1.isNone then 1 else 0) →
          [toRc n σ.rs.length o (gPtr L.R) (mBy σ L) (mBu σ L) e (Rc.out σ.many e r).2.1 (Rc.out σ.many e r).2.2 [], toRc n σ.rs.length o (gPtr L.R) (mBy σ L) (mBu σ L) e (Rc.out σ.many e r).2.1 (Rc.out σ.many e r).2.2 [(r.th, false, .any)]][k]? = some t →
          sv = svE (Rc.out σ.many e r).1 ∧ ∃ us, t = toRc n σ.rs.length o (gPtr L.R) (mBy σ L) (mBu σ L) e (Rc.out σ.many e r).2.1 (Rc.out σ.many e r).2.2 us ∧ usOK σ ⟨(Rc.out σ.many e r).2.1, σ.rs.set i (Rc.out σ.many e r).2.2⟩ us := fun sv k t h1 h2 => by
        obtain ⟨a, rfl⟩ := h1
        refine ⟨a, ?_⟩
        cases hn : (Rc.out σ.many e r).1.isNone with
        | true =>
          rw [hn] at h2
          cases h2
          exact ⟨_, rfl, us_end hI hi (by omega) hn⟩
        | false =>
          rw [hn] at h2
          cases h2
          exact ⟨_, rfl, us_keep hi hst (by omega) (.inr hn)⟩
      by_cases k5 : e.kind = 5
      · exact feed_rec hA hon hg hi hby k5 (rec53_5 hm k5 hv r) (out_keep _ _ _) fin
      have k6 : e.kind = 6 := by omega
      exact feed_rec hA hon hg hi hby k6 (rec53_6 hm k6 hv r) (out_keep _ _ _) fin
  | none =>
    by_cases k1 : e.kind = 1
    · have hb : (e.kind == 1) = true := by simpa using k1
      cases hbu : σ.buIx e.thread with
      | some j =>
        have e1 : σ.feed e = (some 6, σ) := by
          unfold Au.feed
          rw [hby]
          simp only [hb, cond_true, hbu]
        rw [e1]
        exact feed_none hA hon hg hby k1 (f2 := [(e.thread, true, .val (.pointer (some ⟨L.R j, 0, none⟩)))]) (v2 := [(e.thread, some (ptrV (L.R j)))]) ⟨rfl, ⟨⟨rfl, rfl⟩, rfl⟩, trivial⟩ (fun k u hm => by
          simp at hm
          obtain ⟨rfl, rfl⟩ := hm
          simp [mBu, hbu]) (busy53 hm k1 hv (L.R j))
      | none =>
        have e1 : σ.feed e = (none, ⟨σ.many + 1, σ.rs ++ [⟨e.tx, e.thread, 1, σ.many, -1, -1, [], 1⟩]⟩) := by
          unfold Au.feed
          rw [hby]
          simp only [hb, cond_true, hbu]
        rw [e1]
        exact feed_new hA hon hg hm (by omega) hby hbu k1 hv
    · have hb : (e.kind == 1) = false := by simpa using k1
      have e1 : σ.feed e = (some 0, σ) := by
        unfold Au.feed
        rw [hby]
        simp only [hb, cond_false]
      rw [e1]
      have go : ∀ kd : Int, e.kind = kd → MeetsN (EndOK [toN n σ.rs.length o σ.many (gPtr L.R) (mBy σ L) (mBu σ L) [(e.tx, false, .any)] []] (fun sv k => sv = svE (some 0) ∧ k = 0)) ((run (C5 prim W5 spec53 unroll) 700 true 53 [.code []] (LA kd e (hpA n σ.rs.length o σ.many (gPtr L.R) (mBy σ L) (mBu σ L) [(e.tx, false, .any)] []))).bind (toEnd [toN n σ.rs.length o σ.many (gPtr L.R) (mBy σ L) (mBu σ L) [(e.tx, false, .any)] []])) →
          Calls Tryd.prog 53 #[ptrV L.p, evV e] w (FeedPost H w n o σ L (some 0) σ) := fun kd hk hr => feed_none hA hon hg hby hk (f2 := []) (v2 := []) trivial (fun k u hm => by simp at hm) hr
      by_cases k2 : e.kind = 2
      · obtain ⟨h1, h2, h3⟩ := hob k2
        exact go 2 k2 (none53_2 hm h1 h2 h3 k2 hv)
      by_cases k3 : e.kind = 3
      · exact go 3 k3 (none53_3 hm k3 hv)
      by_cases k4 : e.kind = 4
      · exact go 4 k4 (none53_4 hm k4 hv)
      by_cases k5 : e.kind = 5
      · exact go 5 k5 (none53_5 hm k5 hv)
      by_cases k6 : e.kind = 6
      · exact go 6 k6 (none53_6 hm k6 hv)
      have k7 : e.kind = 7 := by omega
      exact go 7 k7 (none53_7 hm k7 hv)
end
end Go.Proofs
