/-
  Chapter 5: the law's example: its transactions; evaluated. The equations are written by program (gen2.py). Own work. Chapter 5: summaries at the law's example: its transactions, and that it is well-formed. Own work. Chapter 5: the two Subs, small, same event; evaluated. The equations are written by program (gen2.py). Own work. Chapter 5: summaries: the two Subs, small, same event. Own work. Chapter 5: the law's example; evaluated. The equations are written by program (gen2.py). Own work.
-/
import Derived.Test.YtibleheeajlfjaaDoorM07
namespace Go.Pl
open Go Go.Sx
def ob0 : List Oj := [⟨1, 0⟩, ⟨3, 0⟩]
def ev0 : List Ev := [⟨1, 1, 0, 0, 0, 0, 0, 0⟩, ⟨1, 2, 1, 0, 0, 0, 0, 0⟩, ⟨2, 1, 0, 0, 2, 0, 0, 0⟩, ⟨3, 1, 0, 0, 0, 0, 0, 1⟩]
end Go.Pl
namespace Go.Proofs
open Go Go.Sx Go.Pl
def spec32 : Nat → Option (List Sh → Tree Sh)
  | 51 => some F51n
  | 56 => some F56
  | 57 => some F57
  | _ => none
noncomputable def C32 : Ctx := { C5 prim W5 spec32 unroll with fmaps := fun t => bif Nat.beq t 85 then some (.i64, [0, 1, 2]) else none, lits := true }

theorem w32  :
    Tree.way (runTo C32 noHold 600 3000 32 [.code []] (start0 16 [.agg [.sl 2 2 (fnR (nth ob0)), .sl 8 4 (fnR (nth ev0))]] L0) [] []) [] =
      some
  ([Eqn.sh (Sh.sl 2 2 (fnR (nth ob0))) (Sh.sl 2 2 (fnR (nth ob0))),
      Eqn.sh (Sh.sl 8 4 (fnR (nth ev0))) (Sh.sl 8 4 (fnR (nth ev0))),
      Eqn.sh (Sh.sl 2 2 (fnR (nth ob0))) (Sh.sl 2 2 (fnR (nth ob0))),
      Eqn.sh (Sh.sl 8 4 (fnR (nth ev0))) (Sh.sl 8 4 (fnR (nth ev0))), Eqn.nat 2 2,
      Eqn.fun_ (prim.snoc (nthL []) 0 (fnR (nth ob0))) (prim.snoc (nthL []) 0 (fnR (nth ob0))),
      Eqn.mp (fun (_x : Int) => none) fun (_x : Int) => none, Eqn.int (Int.ofNat 0) (Int.ofNat 0),
      Eqn.int (Int.ofNat 1) (Int.ofNat 1), Eqn.int (Int.ofNat 2) (Int.ofNat 2), Eqn.int (nth ev0 1).tx (nth ev0 1).tx,
      Eqn.int (nth ev0 1).tx (nth ev0 1).tx, Eqn.int (nth ev0 0).tx (nth ev0 0).tx,
      Eqn.int (nth ev0 0).tx (nth ev0 0).tx, Eqn.int (nth ev0 1).tx (nth ev0 1).tx,
      Eqn.mp (fun (_x : Int) => none) fun (_x : Int) => none, Eqn.int (Int.ofNat 0) (Int.ofNat 0),
      Eqn.int (Int.ofNat 1) (Int.ofNat 1), Eqn.int (Int.ofNat 2) (Int.ofNat 2),
      Eqn.int (nth ev0 1).thread (nth ev0 1).thread, Eqn.int (nth ev0 1).thread (nth ev0 1).thread,
      Eqn.int (nth ev0 0).thread (nth ev0 0).thread, Eqn.int (nth ev0 0).thread (nth ev0 0).thread,
      Eqn.int (nth ev0 1).thread (nth ev0 1).thread, Eqn.sh (Sh.sl 2 2 (fnR (nth ob0))) (Sh.sl 2 2 (fnR (nth ob0))),
      Eqn.sh (Sh.sl 8 4 (fnR (nth ev0))) (Sh.sl 8 4 (fnR (nth ev0))),
      Eqn.sh (Sh.sl 2 2 (fnR (nth ob0))) (Sh.sl 2 2 (fnR (nth ob0))),
      Eqn.sh (Sh.sl 8 4 (fnR (nth ev0))) (Sh.sl 8 4 (fnR (nth ev0))), Eqn.nat 2 2,
      Eqn.fun_ (prim.snoc (nthL []) 0 (fnR (nth ob0))) (prim.snoc (nthL []) 0 (fnR (nth ob0))),
      Eqn.mp (fun (_x : Int) => none) fun (_x : Int) => none, Eqn.int (Int.ofNat 0) (Int.ofNat 0),
      Eqn.int (Int.ofNat 1) (Int.ofNat 1), Eqn.int (Int.ofNat 2) (Int.ofNat 2), Eqn.int (nth ev0 1).tx (nth ev0 1).tx,
      Eqn.int (nth ev0 1).tx (nth ev0 1).tx, Eqn.int (nth ev0 0).tx (nth ev0 0).tx,
      Eqn.int (nth ev0 0).tx (nth ev0 0).tx, Eqn.int (nth ev0 1).tx (nth ev0 1).tx,
      Eqn.mp (fun (_x : Int) => none) fun (_x : Int) => none, Eqn.int (Int.ofNat 0) (Int.ofNat 0),
      Eqn.int (Int.ofNat 1) (Int.ofNat 1), Eqn.int (Int.ofNat 2) (Int.ofNat 2),
      Eqn.int (nth ev0 1).thread (nth ev0 1).thread, Eqn.int (nth ev0 1).thread (nth ev0 1).thread,
      Eqn.int (nth ev0 0).thread (nth ev0 0).thread, Eqn.int (nth ev0 0).thread (nth ev0 0).thread,
      Eqn.int (nth ev0 1).thread (nth ev0 1).thread, Eqn.sh (Sh.sl 2 2 (fnR (nth ob0))) (Sh.sl 2 2 (fnR (nth ob0))),
      Eqn.sh (Sh.sl 8 4 (fnR (nth ev0))) (Sh.sl 8 4 (fnR (nth ev0))),
      Eqn.sh (Sh.sl 2 2 (fnR (nth ob0))) (Sh.sl 2 2 (fnR (nth ob0))),
      Eqn.sh (Sh.sl 8 4 (fnR (nth ev0))) (Sh.sl 8 4 (fnR (nth ev0))), Eqn.nat 2 2,
      Eqn.fun_ (prim.snoc (nthL []) 0 (fnR (nth ob0))) (prim.snoc (nthL []) 0 (fnR (nth ob0))),
      Eqn.mp (fun (_x : Int) => none) fun (_x : Int) => none, Eqn.int (Int.ofNat 0) (Int.ofNat 0),
      Eqn.int (Int.ofNat 1) (Int.ofNat 1), Eqn.int (Int.ofNat 2) (Int.ofNat 2), Eqn.int (nth ev0 1).tx (nth ev0 1).tx,
      Eqn.int (nth ev0 1).tx (nth ev0 1).tx, Eqn.int (nth ev0 0).tx (nth ev0 0).tx,
      Eqn.int (nth ev0 0).tx (nth ev0 0).tx, Eqn.int (nth ev0 1).tx (nth ev0 1).tx,
      Eqn.mp (fun (_x : Int) => none) fun (_x : Int) => none, Eqn.int (Int.ofNat 0) (Int.ofNat 0),
      Eqn.int (Int.ofNat 1) (Int.ofNat 1), Eqn.int (Int.ofNat 2) (Int.ofNat 2),
      Eqn.int (nth ev0 1).thread (nth ev0 1).thread, Eqn.int (nth ev0 1).thread (nth ev0 1).thread,
      Eqn.int (nth ev0 0).thread (nth ev0 0).thread, Eqn.int (nth ev0 0).thread (nth ev0 0).thread,
      Eqn.int (nth ev0 1).thread (nth ev0 1).thread, Eqn.sh (Sh.sl 2 2 (fnR (nth ob0))) (Sh.sl 2 2 (fnR (nth ob0))),
      Eqn.sh (Sh.sl 8 4 (fnR (nth ev0))) (Sh.sl 8 4 (fnR (nth ev0))),
      Eqn.sh (Sh.sl 2 2 (fnR (nth ob0))) (Sh.sl 2 2 (fnR (nth ob0))),
      Eqn.sh (Sh.sl 8 4 (fnR (nth ev0))) (Sh.sl 8 4 (fnR (nth ev0))), Eqn.nat 2 2,
      Eqn.fun_ (prim.snoc (nthL []) 0 (fnR (nth ob0))) (prim.snoc (nthL []) 0 (fnR (nth ob0))),
      Eqn.mp (fun (_x : Int) => none) fun (_x : Int) => none, Eqn.int (Int.ofNat 0) (Int.ofNat 0),
      Eqn.int (Int.ofNat 1) (Int.ofNat 1), Eqn.int (Int.ofNat 2) (Int.ofNat 2), Eqn.int (nth ev0 1).tx (nth ev0 1).tx,
      Eqn.int (nth ev0 1).tx (nth ev0 1).tx, Eqn.int (nth ev0 0).tx (nth ev0 0).tx,
      Eqn.int (nth ev0 0).tx (nth ev0 0).tx, Eqn.int (nth ev0 1).tx (nth ev0 1).tx,
      Eqn.mp (fun (_x : Int) => none) fun (_x : Int) => none, Eqn.int (Int.ofNat 0) (Int.ofNat 0),
      Eqn.int (Int.ofNat 1) (Int.ofNat 1), Eqn.int (Int.ofNat 2) (Int.ofNat 2),
      Eqn.int (nth ev0 1).thread (nth ev0 1).thread, Eqn.int (nth ev0 1).thread (nth ev0 1).thread,
      Eqn.int (nth ev0 0).thread (nth ev0 0).thread, Eqn.int (nth ev0 0).thread (nth ev0 0).thread,
      Eqn.int (nth ev0 1).thread (nth ev0 1).thread, Eqn.sh (Sh.sl 2 2 (fnR (nth ob0))) (Sh.sl 2 2 (fnR (nth ob0))),
      Eqn.sh (Sh.sl 8 4 (fnR (nth ev0))) (Sh.sl 8 4 (fnR (nth ev0))),
      Eqn.sh (Sh.sl 2 2 (fnR (nth ob0))) (Sh.sl 2 2 (fnR (nth ob0))),
      Eqn.sh (Sh.sl 8 4 (fnR (nth ev0))) (Sh.sl 8 4 (fnR (nth ev0))), Eqn.nat 2 2,
      Eqn.fun_ (prim.snoc (nthL []) 0 (fnR (nth ob0))) (prim.snoc (nthL []) 0 (fnR (nth ob0))),
      Eqn.mp (fun (_x : Int) => none) fun (_x : Int) => none, Eqn.int (Int.ofNat 0) (Int.ofNat 0),
      Eqn.int (Int.ofNat 1) (Int.ofNat 1), Eqn.int (Int.ofNat 2) (Int.ofNat 2), Eqn.int (nth ev0 1).tx (nth ev0 1).tx,
      Eqn.int (nth ev0 1).tx (nth ev0 1).tx, Eqn.int (nth ev0 0).tx (nth ev0 0).tx,
      Eqn.int (nth ev0 0).tx (nth ev0 0).tx, Eqn.int (nth ev0 1).tx (nth ev0 1).tx,
      Eqn.mp (fun (_x : Int) => none) fun (_x : Int) => none, Eqn.int (Int.ofNat 0) (Int.ofNat 0),
      Eqn.int (Int.ofNat 1) (Int.ofNat 1), Eqn.int (Int.ofNat 2) (Int.ofNat 2),
      Eqn.int (nth ev0 1).thread (nth ev0 1).thread, Eqn.int (nth ev0 1).thread (nth ev0 1).thread,
      Eqn.int (nth ev0 0).thread (nth ev0 0).thread, Eqn.int (nth ev0 0).thread (nth ev0 0).thread,
      Eqn.int (nth ev0 1).thread (nth ev0 1).thread, Eqn.sh (Sh.sl 2 2 (fnR (nth ob0))) (Sh.sl 2 2 (fnR (nth ob0))),
      Eqn.sh (Sh.sl 8 4 (fnR (nth ev0))) (Sh.sl 8 4 (fnR (nth ev0))),
      Eqn.sh (Sh.sl 2 2 (fnR (nth ob0))) (Sh.sl 2 2 (fnR (nth ob0))),
      Eqn.sh (Sh.sl 8 4 (fnR (nth ev0))) (Sh.sl 8 4 (fnR (nth ev0))), Eqn.nat 2 2,
      Eqn.fun_ (prim.snoc (nthL []) 0 (fnR (nth ob0))) (prim.snoc (nthL []) 0 (fnR (nth ob0))),
      Eqn.mp (fun (_x : Int) => none) fun (_x : Int) => none, Eqn.int (Int.ofNat 0) (Int.ofNat 0),
      Eqn.int (Int.ofNat 1) (Int.ofNat 1), Eqn.int (Int.ofNat 2) (Int.ofNat 2), Eqn.int (nth ev0 1).tx (nth ev0 1).tx,
      Eqn.int (nth ev0 1).tx (nth ev0 1).tx, Eqn.int (nth ev0 0).tx (nth ev0 0).tx,
      Eqn.int (nth ev0 0).tx (nth ev0 0).tx, Eqn.int (nth ev0 1).tx (nth ev0 1).tx,
      Eqn.mp (fun (_x : Int) => none) fun (_x : Int) => none, Eqn.int (Int.ofNat 0) (Int.ofNat 0),
      Eqn.int (Int.ofNat 1) (Int.ofNat 1), Eqn.int (Int.ofNat 2) (Int.ofNat 2),
      Eqn.int (nth ev0 1).thread (nth ev0 1).thread, Eqn.int (nth ev0 1).thread (nth ev0 1).thread,
      Eqn.int (nth ev0 0).thread (nth ev0 0).thread, Eqn.int (nth ev0 0).thread (nth ev0 0).thread,
      Eqn.int (nth ev0 1).thread (nth ev0 1).thread, Eqn.sh (Sh.sl 2 2 (fnR (nth ob0))) (Sh.sl 2 2 (fnR (nth ob0))),
      Eqn.sh (Sh.sl 8 4 (fnR (nth ev0))) (Sh.sl 8 4 (fnR (nth ev0))),
      Eqn.sh (Sh.sl 2 2 (fnR (nth ob0))) (Sh.sl 2 2 (fnR (nth ob0))),
      Eqn.sh (Sh.sl 8 4 (fnR (nth ev0))) (Sh.sl 8 4 (fnR (nth ev0))), Eqn.nat 2 2,
      Eqn.fun_ (prim.snoc (nthL []) 0 (fnR (nth ob0))) (prim.snoc (nthL []) 0 (fnR (nth ob0))),
      Eqn.mp (fun (_x : Int) => none) fun (_x : Int) => none, Eqn.int (Int.ofNat 0) (Int.ofNat 0),
      Eqn.int (Int.ofNat 1) (Int.ofNat 1), Eqn.int (Int.ofNat 2) (Int.ofNat 2), Eqn.int (nth ev0 1).tx (nth ev0 1).tx,
      Eqn.int (nth ev0 1).tx (nth ev0 1).tx, Eqn.int (nth ev0 0).tx (nth ev0 0).tx,
      Eqn.int (nth ev0 0).tx (nth ev0 0).tx, Eqn.int (nth ev0 1).tx (nth ev0 1).tx,
      Eqn.mp (fun (_x : Int) => none) fun (_x : Int) => none, Eqn.int (Int.ofNat 0) (Int.ofNat 0),
      Eqn.int (Int.ofNat 1) (Int.ofNat 1), Eqn.int (Int.ofNat 2) (Int.ofNat 2),
      Eqn.int (nth ev0 1).thread (nth ev0 1).thread, Eqn.int (nth ev0 1).thread (nth ev0 1).thread,
      Eqn.int (nth ev0 0).thread (nth ev0 0).thread, Eqn.int (nth ev0 0).thread (nth ev0 0).thread,
      Eqn.int (nth ev0 1).thread (nth ev0 1).thread, Eqn.sh (Sh.sl 2 2 (fnR (nth ob0))) (Sh.sl 2 2 (fnR (nth ob0))),
      Eqn.sh (Sh.sl 8 4 (fnR (nth ev0))) (Sh.sl 8 4 (fnR (nth ev0))),
      Eqn.sh (Sh.sl 2 2 (fnR (nth ob0))) (Sh.sl 2 2 (fnR (nth ob0))),
      Eqn.sh (Sh.sl 8 4 (fnR (nth ev0))) (Sh.sl 8 4 (fnR (nth ev0))), Eqn.nat 2 2,
      Eqn.fun_ (prim.snoc (nthL []) 0 (fnR (nth ob0))) (prim.snoc (nthL []) 0 (fnR (nth ob0))),
      Eqn.mp (fun (_x : Int) => none) fun (_x : Int) => none, Eqn.int (Int.ofNat 0) (Int.ofNat 0),
      Eqn.int (Int.ofNat 1) (Int.ofNat 1), Eqn.int (Int.ofNat 2) (Int.ofNat 2), Eqn.int (nth ev0 1).tx (nth ev0 1).tx,
      Eqn.int (nth ev0 1).tx (nth ev0 1).tx, Eqn.int (nth ev0 0).tx (nth ev0 0).tx,
      Eqn.int (nth ev0 0).tx (nth ev0 0).tx, Eqn.int (nth ev0 1).tx (nth ev0 1).tx,
      Eqn.mp (fun (_x : Int) => none) fun (_x : Int) => none, Eqn.int (Int.ofNat 0) (Int.ofNat 0),
      Eqn.int (Int.ofNat 1) (Int.ofNat 1), Eqn.int (Int.ofNat 2) (Int.ofNat 2),
      Eqn.int (nth ev0 1).thread (nth ev0 1).thread, Eqn.int (nth ev0 1).thread (nth ev0 1).thread,
      Eqn.int (nth ev0 0).thread (nth ev0 0).thread, Eqn.int (nth ev0 0).thread (nth ev0 0).thread,
      Eqn.int (nth ev0 1).thread (nth ev0 1).thread, Eqn.sh (Sh.sl 2 2 (fnR (nth ob0))) (Sh.sl 2 2 (fnR (nth ob0))),
      Eqn.sh (Sh.sl 8 4 (fnR (nth ev0))) (Sh.sl 8 4 (fnR (nth ev0))),
      Eqn.sh (Sh.sl 2 2 (fnR (nth ob0))) (Sh.sl 2 2 (fnR (nth ob0))),
      Eqn.sh (Sh.sl 8 4 (fnR (nth ev0))) (Sh.sl 8 4 (fnR (nth ev0))), Eqn.nat 2 2,
      Eqn.fun_ (prim.snoc (nthL []) 0 (fnR (nth ob0))) (prim.snoc (nthL []) 0 (fnR (nth ob0))),
      Eqn.mp (fun (_x : Int) => none) fun (_x : Int) => none, Eqn.int (Int.ofNat 0) (Int.ofNat 0),
      Eqn.int (Int.ofNat 1) (Int.ofNat 1), Eqn.int (Int.ofNat 2) (Int.ofNat 2), Eqn.int (nth ev0 1).tx (nth ev0 1).tx,
      Eqn.int (nth ev0 1).tx (nth ev0 1).tx, Eqn.int (nth ev0 0).tx (nth ev0 0).tx,
      Eqn.int (nth ev0 0).tx (nth ev0 0).tx, Eqn.int (nth ev0 1).tx (nth ev0 1).tx,
      Eqn.mp (fun (_x : Int) => none) fun (_x : Int) => none, Eqn.int (Int.ofNat 0) (Int.ofNat 0),
      Eqn.int (Int.ofNat 1) (Int.ofNat 1), Eqn.int (Int.ofNat 2) (Int.ofNat 2),
      Eqn.int (nth ev0 1).thread (nth ev0 1).thread, Eqn.int (nth ev0 1).thread (nth ev0 1).thread,
      Eqn.int (nth ev0 0).thread (nth ev0 0).thread, Eqn.int (nth ev0 0).thread (nth ev0 0).thread,
      Eqn.int (nth ev0 1).thread (nth ev0 1).thread],
    Fe2.ret
      (Sh.tup
        [Sh.os 61 7 2
            (nthL
              [[Sh.i IntKind.i64 (nth ev0 0).tx, Sh.i IntKind.i64 (nth ev0 0).thread, Sh.i IntKind.i64 (Int.ofNat 1),
                  Sh.i IntKind.i64 (Int.ofNat 0), Sh.i IntKind.i64 (Int.negSucc 0), Sh.i IntKind.i64 (Int.negSucc 0),
                  Sh.sl 8 1
                    (nthL
                      [[Sh.i IntKind.i64 (nth ev0 2).obj, Sh.i IntKind.i64 (nth ev0 2).op,
                          Sh.i IntKind.i64 (nth ev0 2).key, Sh.i IntKind.i64 (nth ev0 2).val,
                          Sh.i IntKind.i64 (nth ev0 3).ret, Sh.i IntKind.i64 (nth ev0 3).val,
                          Sh.i IntKind.i64 (Int.ofNat 2), Sh.i IntKind.i64 (Int.ofNat 3)]])],
                [Sh.i IntKind.i64 (nth ev0 1).tx, Sh.i IntKind.i64 (nth ev0 1).thread, Sh.i IntKind.i64 (Int.ofNat 1),
                  Sh.i IntKind.i64 (Int.ofNat 1), Sh.i IntKind.i64 (Int.negSucc 0), Sh.i IntKind.i64 (Int.negSucc 0),
                  Sh.sl 8 0 (nthL [])]]),
          Sh.v Value.nilIface])) := by kernel_rfl
theorem w34  :
    Tree.way (runTo C32 noHold 600 3000 34 [.code []] (start0 11 [.agg [.sl 2 2 (fnR (nth ob0)), .sl 8 4 (fnR (nth ev0))]] L0) [] []) [] =
      some
  ([Eqn.sh (Sh.sl 2 2 (fnR (nth ob0))) (Sh.sl 2 2 (fnR (nth ob0))),
      Eqn.sh (Sh.sl 8 4 (fnR (nth ev0))) (Sh.sl 8 4 (fnR (nth ev0))),
      Eqn.sh (Sh.sl 2 2 (fnR (nth ob0))) (Sh.sl 2 2 (fnR (nth ob0))),
      Eqn.sh (Sh.sl 8 4 (fnR (nth ev0))) (Sh.sl 8 4 (fnR (nth ev0))), Eqn.nat 2 2,
      Eqn.fun_ (prim.snoc (nthL []) 0 (fnR (nth ob0))) (prim.snoc (nthL []) 0 (fnR (nth ob0))),
      Eqn.mp (fun (_x : Int) => none) fun (_x : Int) => none, Eqn.int (Int.ofNat 0) (Int.ofNat 0),
      Eqn.int (Int.ofNat 1) (Int.ofNat 1), Eqn.int (Int.ofNat 2) (Int.ofNat 2), Eqn.int (nth ev0 1).tx (nth ev0 1).tx,
      Eqn.int (nth ev0 1).tx (nth ev0 1).tx, Eqn.int (nth ev0 0).tx (nth ev0 0).tx,
      Eqn.int (nth ev0 0).tx (nth ev0 0).tx, Eqn.int (nth ev0 1).tx (nth ev0 1).tx,
      Eqn.mp (fun (_x : Int) => none) fun (_x : Int) => none, Eqn.int (Int.ofNat 0) (Int.ofNat 0),
      Eqn.int (Int.ofNat 1) (Int.ofNat 1), Eqn.int (Int.ofNat 2) (Int.ofNat 2),
      Eqn.int (nth ev0 1).thread (nth ev0 1).thread, Eqn.int (nth ev0 1).thread (nth ev0 1).thread,
      Eqn.int (nth ev0 0).thread (nth ev0 0).thread, Eqn.int (nth ev0 0).thread (nth ev0 0).thread,
      Eqn.int (nth ev0 1).thread (nth ev0 1).thread, Eqn.sh (Sh.sl 2 2 (fnR (nth ob0))) (Sh.sl 2 2 (fnR (nth ob0))),
      Eqn.sh (Sh.sl 8 4 (fnR (nth ev0))) (Sh.sl 8 4 (fnR (nth ev0))),
      Eqn.sh (Sh.sl 2 2 (fnR (nth ob0))) (Sh.sl 2 2 (fnR (nth ob0))),
      Eqn.sh (Sh.sl 8 4 (fnR (nth ev0))) (Sh.sl 8 4 (fnR (nth ev0))), Eqn.nat 2 2,
      Eqn.fun_ (prim.snoc (nthL []) 0 (fnR (nth ob0))) (prim.snoc (nthL []) 0 (fnR (nth ob0))),
      Eqn.mp (fun (_x : Int) => none) fun (_x : Int) => none, Eqn.int (Int.ofNat 0) (Int.ofNat 0),
      Eqn.int (Int.ofNat 1) (Int.ofNat 1), Eqn.int (Int.ofNat 2) (Int.ofNat 2), Eqn.int (nth ev0 1).tx (nth ev0 1).tx,
      Eqn.int (nth ev0 1).tx (nth ev0 1).tx, Eqn.int (nth ev0 0).tx (nth ev0 0).tx,
      Eqn.int (nth ev0 0).tx (nth ev0 0).tx, Eqn.int (nth ev0 1).tx (nth ev0 1).tx,
      Eqn.mp (fun (_x : Int) => none) fun (_x : Int) => none, Eqn.int (Int.ofNat 0) (Int.ofNat 0),
      Eqn.int (Int.ofNat 1) (Int.ofNat 1), Eqn.int (Int.ofNat 2) (Int.ofNat 2),
      Eqn.int (nth ev0 1).thread (nth ev0 1).thread, Eqn.int (nth ev0 1).thread (nth ev0 1).thread,
      Eqn.int (nth ev0 0).thread (nth ev0 0).thread, Eqn.int (nth ev0 0).thread (nth ev0 0).thread,
      Eqn.int (nth ev0 1).thread (nth ev0 1).thread, Eqn.sh (Sh.sl 2 2 (fnR (nth ob0))) (Sh.sl 2 2 (fnR (nth ob0))),
      Eqn.sh (Sh.sl 8 4 (fnR (nth ev0))) (Sh.sl 8 4 (fnR (nth ev0))),
      Eqn.sh (Sh.sl 2 2 (fnR (nth ob0))) (Sh.sl 2 2 (fnR (nth ob0))),
      Eqn.sh (Sh.sl 8 4 (fnR (nth ev0))) (Sh.sl 8 4 (fnR (nth ev0))), Eqn.nat 2 2,
      Eqn.fun_ (prim.snoc (nthL []) 0 (fnR (nth ob0))) (prim.snoc (nthL []) 0 (fnR (nth ob0))),
      Eqn.mp (fun (_x : Int) => none) fun (_x : Int) => none, Eqn.int (Int.ofNat 0) (Int.ofNat 0),
      Eqn.int (Int.ofNat 1) (Int.ofNat 1), Eqn.int (Int.ofNat 2) (Int.ofNat 2), Eqn.int (nth ev0 1).tx (nth ev0 1).tx,
      Eqn.int (nth ev0 1).tx (nth ev0 1).tx, Eqn.int (nth ev0 0).tx (nth ev0 0).tx,
      Eqn.int (nth ev0 0).tx (nth ev0 0).tx, Eqn.int (nth ev0 1).tx (nth ev0 1).tx,
      Eqn.mp (fun (_x : Int) => none) fun (_x : Int) => none, Eqn.int (Int.ofNat 0) (Int.ofNat 0),
      Eqn.int (Int.ofNat 1) (Int.ofNat 1), Eqn.int (Int.ofNat 2) (Int.ofNat 2),
      Eqn.int (nth ev0 1).thread (nth ev0 1).thread, Eqn.int (nth ev0 1).thread (nth ev0 1).thread,
      Eqn.int (nth ev0 0).thread (nth ev0 0).thread, Eqn.int (nth ev0 0).thread (nth ev0 0).thread,
      Eqn.int (nth ev0 1).thread (nth ev0 1).thread, Eqn.sh (Sh.sl 2 2 (fnR (nth ob0))) (Sh.sl 2 2 (fnR (nth ob0))),
      Eqn.sh (Sh.sl 8 4 (fnR (nth ev0))) (Sh.sl 8 4 (fnR (nth ev0))),
      Eqn.sh (Sh.sl 2 2 (fnR (nth ob0))) (Sh.sl 2 2 (fnR (nth ob0))),
      Eqn.sh (Sh.sl 8 4 (fnR (nth ev0))) (Sh.sl 8 4 (fnR (nth ev0))), Eqn.nat 2 2,
      Eqn.fun_ (prim.snoc (nthL []) 0 (fnR (nth ob0))) (prim.snoc (nthL []) 0 (fnR (nth ob0))),
      Eqn.mp (fun (_x : Int) => none) fun (_x : Int) => none, Eqn.int (Int.ofNat 0) (Int.ofNat 0),
      Eqn.int (Int.ofNat 1) (Int.ofNat 1), Eqn.int (Int.ofNat 2) (Int.ofNat 2), Eqn.int (nth ev0 1).tx (nth ev0 1).tx,
      Eqn.int (nth ev0 1).tx (nth ev0 1).tx, Eqn.int (nth ev0 0).tx (nth ev0 0).tx,
      Eqn.int (nth ev0 0).tx (nth ev0 0).tx, Eqn.int (nth ev0 1).tx (nth ev0 1).tx,
      Eqn.mp (fun (_x : Int) => none) fun (_x : Int) => none, Eqn.int (Int.ofNat 0) (Int.ofNat 0),
      Eqn.int (Int.ofNat 1) (Int.ofNat 1), Eqn.int (Int.ofNat 2) (Int.ofNat 2),
      Eqn.int (nth ev0 1).thread (nth ev0 1).thread, Eqn.int (nth ev0 1).thread (nth ev0 1).thread,
      Eqn.int (nth ev0 0).thread (nth ev0 0).thread, Eqn.int (nth ev0 0).thread (nth ev0 0).thread,
      Eqn.int (nth ev0 1).thread (nth ev0 1).thread, Eqn.sh (Sh.sl 2 2 (fnR (nth ob0))) (Sh.sl 2 2 (fnR (nth ob0))),
      Eqn.sh (Sh.sl 8 4 (fnR (nth ev0))) (Sh.sl 8 4 (fnR (nth ev0))),
      Eqn.sh (Sh.sl 2 2 (fnR (nth ob0))) (Sh.sl 2 2 (fnR (nth ob0))),
      Eqn.sh (Sh.sl 8 4 (fnR (nth ev0))) (Sh.sl 8 4 (fnR (nth ev0))), Eqn.nat 2 2,
      Eqn.fun_ (prim.snoc (nthL []) 0 (fnR (nth ob0))) (prim.snoc (nthL []) 0 (fnR (nth ob0))),
      Eqn.mp (fun (_x : Int) => none) fun (_x : Int) => none, Eqn.int (Int.ofNat 0) (Int.ofNat 0),
      Eqn.int (Int.ofNat 1) (Int.ofNat 1), Eqn.int (Int.ofNat 2) (Int.ofNat 2), Eqn.int (nth ev0 1).tx (nth ev0 1).tx,
      Eqn.int (nth ev0 1).tx (nth ev0 1).tx, Eqn.int (nth ev0 0).tx (nth ev0 0).tx,
      Eqn.int (nth ev0 0).tx (nth ev0 0).tx, Eqn.int (nth ev0 1).tx (nth ev0 1).tx,
      Eqn.mp (fun (_x : Int) => none) fun (_x : Int) => none, Eqn.int (Int.ofNat 0) (Int.ofNat 0),
      Eqn.int (Int.ofNat 1) (Int.ofNat 1), Eqn.int (Int.ofNat 2) (Int.ofNat 2),
      Eqn.int (nth ev0 1).thread (nth ev0 1).thread, Eqn.int (nth ev0 1).thread (nth ev0 1).thread,
      Eqn.int (nth ev0 0).thread (nth ev0 0).thread, Eqn.int (nth ev0 0).thread (nth ev0 0).thread,
      Eqn.int (nth ev0 1).thread (nth ev0 1).thread],
    Fe2.ret (Sh.v Value.nilIface)) := by kernel_rfl
end Go.Proofs
namespace Go.Pl
open Go Go.Sx
/-- The example's transactions. -/
def txs0 : List (List Sh) :=
  [[.i .i64 1, .i .i64 0, .i .i64 1, .i .i64 0, .i .i64 (-1), .i .i64 (-1), .sl 8 1 (nthL [[.i .i64 0, .i .i64 2, .i .i64 0, .i .i64 0, .i .i64 1, .i .i64 0, .i .i64 2, .i .i64 3]])],
   [.i .i64 2, .i .i64 1, .i .i64 1, .i .i64 1, .i .i64 (-1), .i .i64 (-1), .sl 8 0 (nthL [])]]
def exB (n m : Nat) (g h : Nat → List Sh) : Bool := okB Oj n g && okB Ev m h && decide (lst Oj n g = ob0) && decide (lst Ev m h = ev0)
end Go.Pl
namespace Go.Proofs
open Go Go.Sx Go.Pl
theorem rep_rows_eq {α : Type} [Row α] {H : Mem} {st n : Nat} {g : Nat → List Sh} {v : Value} {l : List α} (h : Rep H (.sl st n g) v) (hg : okB α n g = true) (hl : lst α n g = l) : Rep H (.sl st l.length (fnR (nth l))) v := by
  have hn : l.length = n := by rw [← hl]; simp
  subst hl
  rw [lst_length]
  refine rep_sl_congr h fun j hj => ?_
  rw [okB_at hg j hj]
  simp only [fnR, nth_lst hj]
theorem rep_ex {H : Mem} {n m : Nat} {g h : Nat → List Sh} {v : Value} (hv : Rep H (.agg [.sl 2 n g, .sl 8 m h]) v) (hk : exB n m g h = true) : Rep H (.agg [.sl 2 2 (fnR (nth ob0)), .sl 8 4 (fnR (nth ev0))]) v := by
  unfold exB at hk
  simp only [Bool.and_eq_true, decide_eq_true_eq] at hk
  obtain ⟨⟨⟨h1, h2⟩, h3⟩, h4⟩ := hk
  exact rep_agg2n hv (fun u hu => rep_rows_eq hu h1 h3) (fun u hu => rep_rows_eq hu h2 h4)
theorem O32s : ∀ g F, spec32 g = some F → FnOK Tryd.prog (gls5 W5) g F := fun g F h => by
  unfold spec32 at h
  split at h
  · cases h; exact O51n
  · cases h; exact O56
  · cases h; exact O57
  · cases h
theorem C32ok : CtxOK Tryd.prog C32 := by
  have h := C5.ok spec32 unroll
  exact ⟨h.1, h.2, h.3, h.4, h.5, h.6⟩
theorem C32f : FnsOK Tryd.prog C32 := by
  have h := C5.fok (stop := unroll) O32s fun g h => by
    unfold spec32 at h
    split at h
    all_goals first | (cases h; done) | kernel_rfl
  exact ⟨h.1, h.2⟩
/-- All, not to be unfolded. -/
@[irreducible] def MeetsE (ψ : Fe2 → Prop) (t : Tree Fe2) : Prop := t.All ψ
theorem meetsE_eq (ψ : Fe2 → Prop) (t : Tree Fe2) : MeetsE ψ t = t.All ψ := by unfold MeetsE; rfl
theorem goesS_runToM {P : Program} {C : Ctx} {H0 : Mem} {w0 : World} (hC : CtxOK P C) (hF : FnsOK P C) {hold : Nat → Bool} {m n g : Nat} {td : List It} {c : Core} {stk : List Fr} {ts : List Tgt} {R : Hp → Prop} {φ : Sh → Prop}
    (h : MeetsE (Fe2OK P C (K0 H0 w0) ts R φ) (runTo C hold m n g td c stk ts)) : GoesS P C (K0 H0 w0) g td c stk R φ := by
  rw [meetsE_eq] at h
  exact goesS_runTo hC hF h
/-- One way, and nothing but equations of a thing with itself. -/
theorem way_fin {P : Program} {C : Ctx} {K : Kx} {R : Hp → Prop} {φ : Sh → Prop} {t : Tree Fe2} {q : List Eqn} {s : Sh} (h : t.way [] = some (q, .ret s)) (hq : Eqn.all q) (hs : φ s) : MeetsE (Fe2OK P C K [] R φ) t := by
  rw [meetsE_eq]
  exact (Tree.way_ok h hq hs).1
def F32c : List Sh → Tree Sh
  | [.agg [.sl 2 n g, .sl 8 m h]] => .need (exB n m g h) (.leaf (.tup [.os 61 7 2 (nthL txs0), .v .nilIface]))
  | _ => .fail
set_option maxRecDepth 100000 in
theorem O32c : FnOK Tryd.prog (gls5 W5) 32 F32c := by
  refine fnOK_S (C := C32) C32ok (fn := Tryd.f32) (by kernel_rfl) (by kernel_rfl) fun H w shs args φ hrep h => ?_
  have hn : Tryd.f32.ntmps = 16 := by kernel_rfl
  unfold F32c at h
  split at h
  · obtain ⟨h1, h2⟩ := h
    match args, hrep with
    | [v], ⟨hv, _⟩ =>
      refine ⟨[.agg [.sl 2 2 (fnR (nth ob0)), .sl 8 4 (fnR (nth ev0))]], ⟨rep_ex hv h1, trivial⟩, L0, ?_⟩
      refine goesS_runToM C32ok C32f (hold := noHold) (m := 600) (n := 3000) (ts := []) ?_
      rw [hn]
      refine way_fin w32 ?_ h2
      repeat' (first | exact trivial | refine ⟨rfl, ?_⟩)
  · exact h.elim
def F34c : List Sh → Tree Sh
  | [.agg [.sl 2 n g, .sl 8 m h]] => .need (exB n m g h) (.leaf (.v .nilIface))
  | _ => .fail
set_option maxRecDepth 100000 in
theorem O34c : FnOK Tryd.prog (gls5 W5) 34 F34c := by
  refine fnOK_S (C := C32) C32ok (fn := Tryd.f34) (by kernel_rfl) (by kernel_rfl) fun H w shs args φ hrep h => ?_
  have hn : Tryd.f34.ntmps = 11 := by kernel_rfl
  unfold F34c at h
  split at h
  · obtain ⟨h1, h2⟩ := h
    match args, hrep with
    | [v], ⟨hv, _⟩ =>
      refine ⟨[.agg [.sl 2 2 (fnR (nth ob0)), .sl 8 4 (fnR (nth ev0))]], ⟨rep_ex hv h1, trivial⟩, L0, ?_⟩
      refine goesS_runToM C32ok C32f (hold := noHold) (m := 600) (n := 3000) (ts := []) ?_
      rw [hn]
      refine way_fin w34 ?_ h2
      repeat' (first | exact trivial | refine ⟨rfl, ?_⟩)
  · exact h.elim
end Go.Proofs
namespace Go.Pl
open Go Go.Sx
def evEq (a b : Ev) : Bool := decide (a = b)
def dropG (c : Nat) (p : Nat → Ev) : Nat → Ev := fun j => p (c + j)
end Go.Pl
namespace Go.Proofs
open Go Go.Sx Go.Pl
def F43 : List Sh → Tree Sh
  | [.agg [.i .i64 a, .i .i64 b, .i .i64 c, .i .i64 d, .i .i64 e, .i .i64 f, .i .i64 g, .i .i64 h], .agg [.i .i64 a', .i .i64 b', .i .i64 c', .i .i64 d', .i .i64 e', .i .i64 f', .i .i64 g', .i .i64 h']] => .leaf (.b (evEq ⟨a, b, c, d, e, f, g, h⟩ ⟨a', b', c', d', e', f', g', h'⟩))
  | _ => .fail
def spec22 : Nat → Option (List Sh → Tree Sh)
  | 35 => some F35
  | 42 => some F42
  | 43 => some F43
  | _ => none
def LO21 (r m' : Nat) (q p' : Nat → Ev) (i : Int) : Core :=
  { tm := rep [.any] 4 ++ [.any, .sh (.sl 8 r (fnR q))] ++ rep [.any] 11 ++ [.sh (.sl 8 m' (fnR p')), .sym .i64 (m' : Int), .sym .i64 i] ++ rep [.any] 19, hp := [], nx := 0, lim := L0, tc := [] }
def LO22 (n m n' m' : Nat) (g g' : Nat → List Sh) (p p' : Nat → Ev) (k i : Int) : Core :=
  { tm := [.any, .any, .ptr 0 0, .ptr 1 0, .any, .sym .i64 k, .sym .i64 i] ++ rep [.any] 38,
    hp := [(0, .box [.sh (.sl 2 n g), .sh (.sl 8 m (fnR p))] 25), (1, .box [.sh (.sl 2 n' g'), .sh (.sl 8 m' (fnR p'))] 25)], nx := 2, lim := L0, tc := [] }
def td21 : List It := [It.code [0, 1, 0, 1, 1, 1], It.inBlock 0, It.code [1, 1, 1, 1]]
def tb21 : List It := [It.code [0, 0, 1, 0, 1, 1, 1], It.code [0, 1, 0, 1, 1, 1], It.inBlock 0, It.code [1, 1, 1, 1]]

theorem a9 (A : Prim) (W : Wd) (n m : Nat) (g h : Nat → List Sh) :
    runF (C5 A W noSpec stopAll) 300 9 [.code []] (start0 13 [.agg [.sl 2 n g, .sl 8 m h]] L0) =
      Tree.node (A.le (A.ofN n) (Int.ofNat 100)) (Tree.leaf (Fin.ret (Sh.b (A.le (A.ofN m) (Int.ofNat 600)))))
  (Tree.leaf (Fin.ret (Sh.b false))) := by kernel_rfl
theorem a43 (A : Prim) (W : Wd) (a b : Ev) :
    runF (C5 A W noSpec stopAll) 300 43 [.code []] (start0 61 [.agg (evR a), .agg (evR b)] L0) =
      Tree.node (A.eq a.kind b.kind)
  (Tree.node (A.eq a.tx b.tx)
    (Tree.node (A.eq a.thread b.thread)
      (Tree.node (A.eq a.obj b.obj)
        (Tree.node (A.eq a.op b.op)
          (Tree.node (A.eq a.key b.key)
            (Tree.node (A.eq a.val b.val) (Tree.leaf (Fin.ret (Sh.b (A.eq a.ret b.ret))))
              (Tree.leaf (Fin.ret (Sh.b false))))
            (Tree.leaf (Fin.ret (Sh.b false))))
          (Tree.leaf (Fin.ret (Sh.b false))))
        (Tree.leaf (Fin.ret (Sh.b false))))
      (Tree.leaf (Fin.ret (Sh.b false))))
    (Tree.leaf (Fin.ret (Sh.b false))))
  (Tree.leaf (Fin.ret (Sh.b false))) := by kernel_rfl
theorem a21 (A : Prim) (W : Wd) (n m n' m' : Nat) (g g' : Nat → List Sh) (p p' q : Nat → Ev) (r : Nat) (i' : Int) :
    runTo (C5 A W spec22 stopAll) noHold 300 200 21 [.code []] (start0 39 [.agg [.sl 2 n g, .sl 8 m (fnR p)], .agg [.sl 2 n' g', .sl 8 m' (fnR p')]] L0) [] [⟨21, td21, LO21 r m' q p' i', []⟩] =
      Tree.need (okB Oj n g)
  (Tree.need (okB Oj n' g')
    (Tree.node (A.nt (sameL (lst Oj n g) (lst Oj n' g'))) (Tree.leaf (Fe2.ret (Sh.b false)))
      (Tree.leaf
        (Fe2.at_ 0
          [Eqn.sh (Sh.sl 8 m (fnR p)) (Sh.sl 8 r (fnR q)), Eqn.sh (Sh.sl 8 m' (fnR p')) (Sh.sl 8 m' (fnR p')),
            Eqn.int (A.ofN m') (Int.ofNat m'), Eqn.int (Int.ofNat 0) i'])))) := by kernel_rfl
theorem b21 (A : Prim) (W : Wd) (r m' : Nat) (q p' : Nat → Ev) (i : Int) (r' : Nat) (q' : Nat → Ev) (i' : Int) :
    runTo (C5 A W spec22 stopAll) noHold 300 200 21 tb21 (LO21 r m' q p' i) [] [⟨21, td21, LO21 r' m' q' p' i', []⟩] =
      Tree.node (A.lt i (Int.ofNat m'))
  (Tree.need (A.inB i m')
    (Tree.node (A.lt (Int.ofNat 0) (A.ofN r))
      (Tree.need (A.inB (Int.ofNat 0) r)
        (Tree.node
          (A.ite (A.eq (q 0).kind (p' (A.toN i)).kind)
            (A.ite (A.eq (q 0).tx (p' (A.toN i)).tx)
              (A.ite (A.eq (q 0).thread (p' (A.toN i)).thread)
                (A.ite (A.eq (q 0).obj (p' (A.toN i)).obj)
                  (A.ite (A.eq (q 0).op (p' (A.toN i)).op)
                    (A.ite (A.eq (q 0).key (p' (A.toN i)).key)
                      (A.ite (A.eq (q 0).val (p' (A.toN i)).val) (A.ite (A.eq (q 0).ret (p' (A.toN i)).ret) true false)
                        false)
                      false)
                    false)
                  false)
                false)
              false)
            false)
          (Tree.need (A.upTo (Int.ofNat 1) r)
            (Tree.leaf
              (Fe2.at_ 0
                [Eqn.sh (Sh.sl 8 (A.subN r 1) fun (j : Nat) => fnR q (A.addN 1 j)) (Sh.sl 8 r' (fnR q')),
                  Eqn.sh (Sh.sl 8 m' (fnR p')) (Sh.sl 8 m' (fnR p')), Eqn.int (Int.ofNat m') (Int.ofNat m'),
                  Eqn.int (A.add IntKind.i64 i (Int.ofNat 1)) i'])))
          (Tree.leaf
            (Fe2.at_ 0
              [Eqn.sh (Sh.sl 8 r (fnR q)) (Sh.sl 8 r' (fnR q')), Eqn.sh (Sh.sl 8 m' (fnR p')) (Sh.sl 8 m' (fnR p')),
                Eqn.int (Int.ofNat m') (Int.ofNat m'), Eqn.int (A.add IntKind.i64 i (Int.ofNat 1)) i']))))
      (Tree.leaf
        (Fe2.at_ 0
          [Eqn.sh (Sh.sl 8 r (fnR q)) (Sh.sl 8 r' (fnR q')), Eqn.sh (Sh.sl 8 m' (fnR p')) (Sh.sl 8 m' (fnR p')),
            Eqn.int (Int.ofNat m') (Int.ofNat m'), Eqn.int (A.add IntKind.i64 i (Int.ofNat 1)) i']))))
  (Tree.leaf (Fe2.ret (Sh.b (A.eq (A.ofN r) (Int.ofNat 0))))) := by kernel_rfl
theorem a22 (A : Prim) (W : Wd) (n m n' m' : Nat) (g g' : Nat → List Sh) (p p' : Nat → Ev) (k' i' : Int) :
    runTo (C5 A W spec22 stopAll) noHold 300 200 22 [.code []] (start0 45 [.agg [.sl 2 n g, .sl 8 m (fnR p)], .agg [.sl 2 n' g', .sl 8 m' (fnR p')]] L0) [] [⟨22, td21, LO22 n m n' m' g g' p p' k' i', []⟩] =
      Tree.need (okB Oj n g)
  (Tree.need (okB Oj n' g')
    (Tree.node (A.nt (sameL (lst Oj n g) (lst Oj n' g'))) (Tree.leaf (Fe2.ret (Sh.b false)))
      (Tree.leaf
        (Fe2.at_ 0
          [Eqn.int (Int.ofNat 0) k', Eqn.int (Int.ofNat 0) i', Eqn.sh (Sh.sl 2 n g) (Sh.sl 2 n g),
            Eqn.sh (Sh.sl 8 m (fnR p)) (Sh.sl 8 m (fnR p)), Eqn.sh (Sh.sl 2 n' g') (Sh.sl 2 n' g'),
            Eqn.sh (Sh.sl 8 m' (fnR p')) (Sh.sl 8 m' (fnR p'))])))) := by kernel_rfl
theorem b22 (A : Prim) (W : Wd) (n m n' m' : Nat) (g g' : Nat → List Sh) (p p' : Nat → Ev) (k i k' i' : Int) :
    runTo (C5 A W spec22 stopAll) noHold 300 200 22 tb21 (LO22 n m n' m' g g' p p' k i) [] [⟨22, td21, LO22 n m n' m' g g' p p' k' i', []⟩] =
      Tree.node (A.lt i (A.ofN m'))
  (Tree.node (A.lt k (A.ofN m))
    (Tree.need (A.inB k m)
      (Tree.need (A.inB i m')
        (Tree.node
          (evEq
            { kind := (p (A.toN k)).kind, tx := (p (A.toN k)).tx, thread := (p (A.toN k)).thread,
              obj := (p (A.toN k)).obj, op := (p (A.toN k)).op, key := (p (A.toN k)).key, val := (p (A.toN k)).val,
              ret := (p (A.toN k)).ret }
            { kind := (p' (A.toN i)).kind, tx := (p' (A.toN i)).tx, thread := (p' (A.toN i)).thread,
              obj := (p' (A.toN i)).obj, op := (p' (A.toN i)).op, key := (p' (A.toN i)).key, val := (p' (A.toN i)).val,
              ret := (p' (A.toN i)).ret })
          (Tree.leaf
            (Fe2.at_ 0
              [Eqn.int (A.add IntKind.i64 k (Int.ofNat 1)) k', Eqn.int (A.add IntKind.i64 i (Int.ofNat 1)) i',
                Eqn.sh (Sh.sl 2 n g) (Sh.sl 2 n g), Eqn.sh (Sh.sl 8 m (fnR p)) (Sh.sl 8 m (fnR p)),
                Eqn.sh (Sh.sl 2 n' g') (Sh.sl 2 n' g'), Eqn.sh (Sh.sl 8 m' (fnR p')) (Sh.sl 8 m' (fnR p'))]))
          (Tree.leaf
            (Fe2.at_ 0
              [Eqn.int k k', Eqn.int (A.add IntKind.i64 i (Int.ofNat 1)) i', Eqn.sh (Sh.sl 2 n g) (Sh.sl 2 n g),
                Eqn.sh (Sh.sl 8 m (fnR p)) (Sh.sl 8 m (fnR p)), Eqn.sh (Sh.sl 2 n' g') (Sh.sl 2 n' g'),
                Eqn.sh (Sh.sl 8 m' (fnR p')) (Sh.sl 8 m' (fnR p'))])))))
    (Tree.leaf (Fe2.ret (Sh.b (A.eq k (A.ofN m))))))
  (Tree.leaf (Fe2.ret (Sh.b (A.eq k (A.ofN m))))) := by kernel_rfl
end Go.Proofs
namespace Go.Pl
open Go Go.Sx
/-- What remains of the first behind the second, is it nothing? -/
def subB (p' : Nat → Ev) : Nat → Nat → (Nat → Ev) → Nat → Bool
  | 0, _, _, r => Nat.beq r 0
  | k + 1, i, q, r => bif decide (0 < r) && evEq (q 0) (p' i) then subB p' k (i + 1) (dropG 1 q) (r - 1) else subB p' k (i + 1) q r
theorem subB_none (p' : Nat → Ev) : ∀ k i q, subB p' k i q 0 = true
  | 0, _, _ => rfl
  | k + 1, i, q => by simp only [subB]; exact subB_none p' k (i + 1) q
theorem dropG_drop (c : Nat) (p : Nat → Ev) : dropG 1 (dropG c p) = dropG (c + 1) p := by
  funext j; simp only [dropG, Nat.add_assoc]
theorem dropG_zero (p : Nat → Ev) : dropG 0 p = p := by funext j; simp only [dropG, Nat.zero_add]
theorem evEq_fields (a b : Ev) : evEq a b = (bif a.kind == b.kind then bif a.tx == b.tx then bif a.thread == b.thread then bif a.obj == b.obj then bif a.op == b.op then bif a.key == b.key then bif a.val == b.val then bif a.ret == b.ret then true else false else false else false else false else false else false else false else false) := by
  obtain ⟨a1, a2, a3, a4, a5, a6, a7, a8⟩ := a
  obtain ⟨b1, b2, b3, b4, b5, b6, b7, b8⟩ := b
  unfold evEq
  by_cases h1 : a1 = b1 <;> by_cases h2 : a2 = b2 <;> by_cases h3 : a3 = b3 <;> by_cases h4 : a4 = b4 <;> by_cases h5 : a5 = b5 <;> by_cases h6 : a6 = b6 <;> by_cases h7 : a7 = b7 <;> by_cases h8 : a8 = b8 <;> simp [h1, h2, h3, h4, h5, h6, h7, h8]
end Go.Pl
namespace Go.Proofs
open Go Go.Sx Go.Pl
def F9 : List Sh → Tree Sh
  | [.agg [.sl 2 n _, .sl 8 m _]] => .leaf (.b (decide (n ≤ 100) && decide (m ≤ 600)))
  | _ => .fail
theorem O9 : FnOK Tryd.prog (gls5 W5) 9 F9 := by
  refine fnOK_run (C := C5 prim W5 noSpec stopAll) (C5.ok _ _) (fok0 _) (n := 300) (L := L0) (fn := Tryd.f9) (by kernel_rfl) (by kernel_rfl) fun H w shs args φ hrep h => ?_
  have hn : Tryd.f9.ntmps = 13 := by kernel_rfl
  unfold F9 at h
  split at h
  · rename_i n g m h'
    refine ⟨_, hrep, ?_⟩
    rw [hn, a9 prim W5 n m g h']
    have h : φ (.b (decide (n ≤ 100) && decide (m ≤ 600))) := h
    have e1 : prim.le (prim.ofN n) (Int.ofNat 100) = decide (n ≤ 100) := by rw [prim_le, prim_ofN]; exact decide_eq_decide.2 (by simp only [Int.ofNat_eq_natCast]; omega)
    have e2 : prim.le (prim.ofN m) (Int.ofNat 600) = decide (m ≤ 600) := by rw [prim_le, prim_ofN]; exact decide_eq_decide.2 (by simp only [Int.ofNat_eq_natCast]; omega)
    rw [e1, e2]
    refine ⟨fun q => ?_, fun q => ?_⟩
    · rw [q, Bool.true_and] at h; exact h
    · rw [q, Bool.false_and] at h; exact h
  · exact h.elim
theorem O43 : FnOK Tryd.prog (gls5 W5) 43 F43 := by
  refine fnOK_run (C := C5 prim W5 noSpec stopAll) (C5.ok _ _) (fok0 _) (n := 300) (L := L0) (fn := Tryd.f43) (by kernel_rfl) (by kernel_rfl) fun H w shs args φ hrep h => ?_
  have hn : Tryd.f43.ntmps = 61 := by kernel_rfl
  unfold F43 at h
  split at h
  · rename_i a b c d e f g k a' b' c' d' e' f' g' k'
    refine ⟨[.agg (evR ⟨a, b, c, d, e, f, g, k⟩), .agg (evR ⟨a', b', c', d', e', f', g', k'⟩)], hrep, ?_⟩
    rw [hn, a43 prim W5 ⟨a, b, c, d, e, f, g, k⟩ ⟨a', b', c', d', e', f', g', k'⟩]
    have h : φ (.b (evEq ⟨a, b, c, d, e, f, g, k⟩ ⟨a', b', c', d', e', f', g', k'⟩)) := h
    rw [evEq_fields] at h
    simp only [prim_eq, Tree.All, FinOK]
    refine ⟨fun q1 => ⟨fun q2 => ⟨fun q3 => ⟨fun q4 => ⟨fun q5 => ⟨fun q6 => ⟨fun q7 => ?_, fun q7 => ?_⟩, fun q6 => ?_⟩, fun q5 => ?_⟩, fun q4 => ?_⟩, fun q3 => ?_⟩, fun q2 => ?_⟩, fun q1 => ?_⟩
    · simp only [q1, q2, q3, q4, q5, q6, q7, cond_true] at h
      cases hh : (k == k') <;> simp only [hh, cond_true, cond_false] at h <;> exact h
    · simpa only [q1, q2, q3, q4, q5, q6, q7, cond_true, cond_false] using h
    · simpa only [q1, q2, q3, q4, q5, q6, cond_true, cond_false] using h
    · simpa only [q1, q2, q3, q4, q5, cond_true, cond_false] using h
    · simpa only [q1, q2, q3, q4, cond_true, cond_false] using h
    · simpa only [q1, q2, q3, cond_true, cond_false] using h
    · simpa only [q1, q2, cond_true, cond_false] using h
    · simpa only [q1, cond_false] using h
  · exact h.elim
theorem O22s : ∀ g F, spec22 g = some F → FnOK Tryd.prog (gls5 W5) g F := fun g F h => by
  unfold spec22 at h
  split at h
  · cases h; exact O35
  · cases h; exact O42
  · cases h; exact O43
  · cases h
theorem fok22 (stop : Nat → List Nat → Bool) : FnsOK Tryd.prog (C5 prim W5 spec22 stop) := C5.fok O22s fun g h => by
  unfold spec22 at h
  split at h
  all_goals first | (cases h; done) | kernel_rfl
theorem loop21 {H0 : Mem} {w0 : World} {m' : Nat} {p' : Nat → Ev} {φ : Sh → Prop} (hm : m' ≤ maxLen) :
    ∀ rm i r q, i + rm = m' → φ (.b (subB p' rm i q r)) → GoesS Tryd.prog (C5 prim W5 spec22 stopAll) (K0 H0 w0) 21 td21 (LO21 r m' q p' (i : Int)) [] emp φ
  | rm, i, r, q, hi, hφ => by
    have hm' := hm
    rw [maxLen_eq] at hm'
    refine goesS_into (fn := Tryd.f21) (tb := tb21) (by kernel_rfl) (by kernel_rfl) ?_
    by_cases hc : 0 < r ∧ q 0 = p' i
    · refine goesS_runTo (C5.ok _ _) (fok22 _) (hold := noHold) (m := 300) (n := 200) (ts := [⟨21, td21, LO21 (r - 1) m' (dropG 1 q) p' ((i + 1 : Nat) : Int), []⟩]) ?_
      rw [b21 prim W5 r m' q p' i (r - 1) (dropG 1 q) ((i + 1 : Nat) : Int)]
      simp only [prim_lt, prim_ofN, prim_inB, prim_toN, prim_eq, prim_nt, prim_ite, prim_add, prim_upTo, prim_subN, prim_addN, one_eq, Tree.All, Fe2OK, Int.toNat_natCast]
      rw [← evEq_fields]
      have h0 : evEq (q 0) (p' i) = true := decide_eq_true hc.2
      refine ⟨fun h => ?_, fun h => ?_⟩
      · have hlt : i < m' := by simp at h; omega
        match rm, hi, hφ with
        | 0, hi, _ => omega
        | rm + 1, hi, hφ =>
          have hφ : φ (.b (subB p' rm (i + 1) (dropG 1 q) (r - 1))) := by
            simpa only [subB, h0, hc.1, decide_true, Bool.and_true, cond_true] using hφ
          refine ⟨by simp; omega, fun _ => ⟨by simp; omega, fun _ => ⟨by simp; omega, ⟨?_, rfl, rfl, ?_, trivial⟩, _, rfl, loop21 hm rm (i + 1) (r - 1) (dropG 1 q) (by omega) hφ⟩, fun e => ?_⟩, fun e => ?_⟩
          · rfl
          · simp only [Eqn.ok]; rw [wrap_id (by omega) (by omega)]; rfl
          · rw [h0] at e; cases e
          · simp at e; omega
      · have : i = m' := by simp at h; omega
        have : rm = 0 := by omega
        subst this
        have e : Nat.beq r 0 = ((r : Int) == Int.ofNat 0) := by
          cases r with
          | zero => rfl
          | succ r => rfl
        simp only [subB, e] at hφ
        exact hφ
    · refine goesS_runTo (C5.ok _ _) (fok22 _) (hold := noHold) (m := 300) (n := 200) (ts := [⟨21, td21, LO21 r m' q p' ((i + 1 : Nat) : Int), []⟩]) ?_
      rw [b21 prim W5 r m' q p' i r q ((i + 1 : Nat) : Int)]
      simp only [prim_lt, prim_ofN, prim_inB, prim_toN, prim_eq, prim_nt, prim_ite, prim_add, prim_upTo, prim_subN, prim_addN, one_eq, Tree.All, Fe2OK, Int.toNat_natCast]
      rw [← evEq_fields]
      refine ⟨fun h => ?_, fun h => ?_⟩
      · have hlt : i < m' := by simp at h; omega
        match rm, hi, hφ with
        | 0, hi, _ => omega
        | rm + 1, hi, hφ =>
          have h0 : (decide (0 < r) && evEq (q 0) (p' i)) = false := by
            unfold evEq
            rw [← Bool.decide_and]
            exact decide_eq_false hc
          have hφ : φ (.b (subB p' rm (i + 1) q r)) := by
            simpa only [subB, h0, cond_false] using hφ
          have hw : IntKind.i64.wrap ((i : Int) + 1) = ((i + 1 : Nat) : Int) := by rw [wrap_id (by omega) (by omega)]; rfl
          refine ⟨by simp; omega, fun e1 => ⟨by simp at e1 ⊢; omega, fun e2 => ?_, fun _ => ⟨⟨rfl, rfl, rfl, hw, trivial⟩, _, rfl, loop21 hm rm (i + 1) r q (by omega) hφ⟩⟩, fun _ => ⟨⟨rfl, rfl, rfl, hw, trivial⟩, _, rfl, loop21 hm rm (i + 1) r q (by omega) hφ⟩⟩
          have : 0 < r := by simp at e1; omega
          exact (hc ⟨this, of_decide_eq_true e2⟩).elim
      · have : i = m' := by simp at h; omega
        have : rm = 0 := by omega
        subst this
        have e : Nat.beq r 0 = ((r : Int) == Int.ofNat 0) := by
          cases r with
          | zero => rfl
          | succ r => rfl
        simp only [subB, e] at hφ
        exact hφ
theorem rep_agg_len {H : Mem} {n m : Nat} {g h : Nat → List Sh} {v : Value} (hv : Rep H (.agg [.sl 2 n g, .sl 8 m h]) v) : n ≤ maxLen ∧ m ≤ maxLen := by
  cases hv with
  | agg _ vs h1 h2 =>
    have e0 : vs[0]? = some (vs[0]'(by rw [h1]; simp)) := Array.getElem?_eq_getElem _
    have e1 : vs[1]? = some (vs[1]'(by rw [h1]; simp)) := Array.getElem?_eq_getElem _
    exact ⟨rep_len (h2 0 _ _ rfl e0), rep_len (h2 1 _ _ rfl e1)⟩
def F21 : List Sh → Tree Sh
  | [.agg [.sl 2 n g, .sl 8 m h], .agg [.sl 2 n' g', .sl 8 m' h']] => .need (okB Oj n g) (.need (okB Oj n' g') (.need (okB Ev m h) (.need (okB Ev m' h') (.leaf (.b (sameL (lst Oj n g) (lst Oj n' g') && subB (rwAt h') m' 0 (rwAt h) m))))))
  | _ => .fail
theorem O21 : FnOK Tryd.prog (gls5 W5) 21 F21 := by
  refine fnOK_S (C := C5 prim W5 spec22 stopAll) (C5.ok _ _) (fn := Tryd.f21) (by kernel_rfl) (by kernel_rfl) fun H w shs args φ hrep h => ?_
  have hn : Tryd.f21.ntmps = 39 := by kernel_rfl
  unfold F21 at h
  split at h
  · rename_i n g m h' n' g' m' h''
    obtain ⟨h1, h2, h3, h4, h5⟩ := h
    match args, hrep with
    | [v, u], ⟨hv, hu, _⟩ =>
      refine ⟨[.agg [.sl 2 n g, .sl 8 m (fnR (rwAt (α := Ev) h'))], .agg [.sl 2 n' g', .sl 8 m' (fnR (rwAt (α := Ev) h''))]], ⟨rep_agg_rows hv h3, rep_agg_rows hu h4, trivial⟩, L0, ?_⟩
      refine goesS_runTo (C5.ok _ _) (fok22 _) (hold := noHold) (m := 300) (n := 200) (ts := [⟨21, td21, LO21 m m' (rwAt h') (rwAt h'') ((0 : Nat) : Int), []⟩]) ?_
      rw [hn, a21 prim W5 n m n' m' g g' (rwAt h') (rwAt h'') (rwAt h') m ((0 : Nat) : Int)]
      refine ⟨h1, h2, fun q => ?_, fun q => ⟨⟨rfl, rfl, rfl, rfl, trivial⟩, _, rfl, loop21 (rep_agg_len hu).2 m' 0 m _ (by omega) ?_⟩⟩
      · have e : sameL (lst Oj n g) (lst Oj n' g') = false := by simpa [prim_nt] using q
        rw [e, Bool.false_and] at h5; exact h5
      · have e : sameL (lst Oj n g) (lst Oj n' g') = true := by simpa [prim_nt] using q
        rw [e, Bool.true_and] at h5; exact h5
  · exact h.elim
theorem loop22 {H0 : Mem} {w0 : World} {n m n' m' : Nat} {g g' : Nat → List Sh} {p p' : Nat → Ev} {φ : Sh → Prop} (hm : m ≤ maxLen) (hm' : m' ≤ maxLen) :
    ∀ rm i c, i + rm = m' → c ≤ m → φ (.b (subB p' rm i (dropG c p) (m - c))) → GoesS Tryd.prog (C5 prim W5 spec22 stopAll) (K0 H0 w0) 22 td21 (LO22 n m n' m' g g' p p' (c : Int) (i : Int)) [] emp φ
  | rm, i, c, hi, hc, hφ => by
    have hm1 := hm
    have hm2 := hm'
    rw [maxLen_eq] at hm1 hm2
    refine goesS_into (fn := Tryd.f22) (tb := tb21) (by kernel_rfl) (by kernel_rfl) ?_
    have hx : (((c : Int) == (m : Int)) : Bool) = Nat.beq (m - c) 0 := by
      have : Nat.beq (m - c) 0 = decide (m - c = 0) := by cases m - c <;> rfl
      rw [this, Bool.eq_iff_iff]
      simp; omega
    by_cases he : c < m ∧ evEq (p c) (p' i) = true
    · refine goesS_runTo (C5.ok _ _) (fok22 _) (hold := noHold) (m := 300) (n := 200) (ts := [⟨22, td21, LO22 n m n' m' g g' p p' ((c + 1 : Nat) : Int) ((i + 1 : Nat) : Int), []⟩]) ?_
      rw [b22 prim W5 n m n' m' g g' p p' c i ((c + 1 : Nat) : Int) ((i + 1 : Nat) : Int)]
      simp only [prim_lt, prim_ofN, prim_inB, prim_toN, prim_eq, prim_add, one_eq, Tree.All, Fe2OK, Int.toNat_natCast]
      refine ⟨fun h => ⟨fun h2 => ?_, fun h2 => ?_⟩, fun h => ?_⟩
      · have hlt : i < m' := by simp at h; omega
        match rm, hi, hφ with
        | 0, hi, _ => omega
        | rm + 1, hi, hφ =>
          have h0 : (decide (0 < m - c) && evEq (dropG c p 0) (p' i)) = true := by
            rw [show dropG c p 0 = p c from rfl, he.2, Bool.and_true]; simp; omega
          have hφ : φ (.b (subB p' rm (i + 1) (dropG (c + 1) p) (m - (c + 1)))) := by
            simp only [subB, h0, cond_true, dropG_drop] at hφ
            rwa [show m - (c + 1) = m - c - 1 by omega]
          refine ⟨by simp; omega, by simp; omega, fun _ => ⟨⟨?_, ?_, rfl, rfl, rfl, rfl, trivial⟩, _, rfl, loop22 hm hm' rm (i + 1) (c + 1) (by omega) (by omega) hφ⟩, fun e => ?_⟩
          · simp only [Eqn.ok]; rw [wrap_id (by omega) (by omega)]; rfl
          · simp only [Eqn.ok]; rw [wrap_id (by omega) (by omega)]; rfl
          · have e : evEq (p c) (p' i) = false := e
            rw [he.2] at e; cases e
      · simp at h2; omega
      · have : i = m' := by simp at h; omega
        have : rm = 0 := by omega
        subst this
        rw [hx]; exact hφ
    · refine goesS_runTo (C5.ok _ _) (fok22 _) (hold := noHold) (m := 300) (n := 200) (ts := [⟨22, td21, LO22 n m n' m' g g' p p' (c : Int) ((i + 1 : Nat) : Int), []⟩]) ?_
      rw [b22 prim W5 n m n' m' g g' p p' c i c ((i + 1 : Nat) : Int)]
      simp only [prim_lt, prim_ofN, prim_inB, prim_toN, prim_eq, prim_add, one_eq, Tree.All, Fe2OK, Int.toNat_natCast]
      refine ⟨fun h => ⟨fun h2 => ?_, fun h2 => ?_⟩, fun h => ?_⟩
      · have hlt : i < m' := by simp at h; omega
        have hcm : c < m := by simp at h2; omega
        match rm, hi, hφ with
        | 0, hi, _ => omega
        | rm + 1, hi, hφ =>
          have h1 : evEq (p c) (p' i) = false := by
            cases e : evEq (p c) (p' i) with
            | false => rfl
            | true => exact (he ⟨hcm, e⟩).elim
          have h0 : (decide (0 < m - c) && evEq (dropG c p 0) (p' i)) = false := by
            rw [show dropG c p 0 = p c from rfl, h1, Bool.and_false]
          have hφ : φ (.b (subB p' rm (i + 1) (dropG c p) (m - c))) := by
            simpa only [subB, h0, cond_false] using hφ
          refine ⟨by simp; omega, by simp; omega, fun e => ?_, fun _ => ⟨⟨rfl, ?_, rfl, rfl, rfl, rfl, trivial⟩, _, rfl, loop22 hm hm' rm (i + 1) c (by omega) hc hφ⟩⟩
          · have e : evEq (p c) (p' i) = true := e
            rw [h1] at e; cases e
          · simp only [Eqn.ok]; rw [wrap_id (by omega) (by omega)]; rfl
      · have : c = m := by simp at h2; omega
        subst this
        rw [hx, Nat.sub_self]
        rw [Nat.sub_self, subB_none] at hφ
        exact hφ
      · have : i = m' := by simp at h; omega
        have : rm = 0 := by omega
        subst this
        rw [hx]; exact hφ
def F22 : List Sh → Tree Sh := F21
theorem O22 : FnOK Tryd.prog (gls5 W5) 22 F22 := by
  refine fnOK_S (C := C5 prim W5 spec22 stopAll) (C5.ok _ _) (fn := Tryd.f22) (by kernel_rfl) (by kernel_rfl) fun H w shs args φ hrep h => ?_
  have hn : Tryd.f22.ntmps = 45 := by kernel_rfl
  unfold F22 F21 at h
  split at h
  · rename_i n g m h' n' g' m' h''
    obtain ⟨h1, h2, h3, h4, h5⟩ := h
    match args, hrep with
    | [v, u], ⟨hv, hu, _⟩ =>
      refine ⟨[.agg [.sl 2 n g, .sl 8 m (fnR (rwAt (α := Ev) h'))], .agg [.sl 2 n' g', .sl 8 m' (fnR (rwAt (α := Ev) h''))]], ⟨rep_agg_rows hv h3, rep_agg_rows hu h4, trivial⟩, L0, ?_⟩
      refine goesS_runTo (C5.ok _ _) (fok22 _) (hold := noHold) (m := 300) (n := 200) (ts := [⟨22, td21, LO22 n m n' m' g g' (rwAt h') (rwAt h'') ((0 : Nat) : Int) ((0 : Nat) : Int), []⟩]) ?_
      rw [hn, a22 prim W5 n m n' m' g g' (rwAt h') (rwAt h'') ((0 : Nat) : Int) ((0 : Nat) : Int)]
      refine ⟨h1, h2, fun q => ?_, fun q => ⟨⟨rfl, rfl, rfl, rfl, rfl, rfl, trivial⟩, _, rfl, loop22 (rep_agg_len hv).2 (rep_agg_len hu).2 m' 0 0 (by omega) (by omega) ?_⟩⟩
      · have e : sameL (lst Oj n g) (lst Oj n' g') = false := by simpa [prim_nt] using q
        rw [e, Bool.false_and] at h5; exact h5
      · have e : sameL (lst Oj n g) (lst Oj n' g') = true := by simpa [prim_nt] using q
        rw [e, Bool.true_and] at h5
        rw [dropG_zero]; exact h5
  · exact h.elim
end Go.Proofs
namespace Go.Proofs
open Go Go.Sx Go.Pl
def spec8 : Nat → Option (List Sh → Tree Sh)
  | 32 => some F32c
  | 34 => some F34c
  | _ => none
noncomputable def C8 : Ctx := { C5 prim W5 spec8 unroll with lits := true }

theorem w8  :
    Tree.way (runTo C8 noHold 600 3000 8 [.code []] (start0 84 [] L0) [] []) [] =
      some
  ([Eqn.sh
        (Sh.sl 2 1
          (nthL
            [[Sh.i IntKind.i64 (Int.ofNat 1), Sh.i IntKind.i64 (Int.ofNat 0)],
              [Sh.i IntKind.i64 (Int.ofNat 3), Sh.i IntKind.i64 (Int.ofNat 0)]]))
        (Sh.sl 2 1
          (nthL
            [[Sh.i IntKind.i64 (Int.ofNat 1), Sh.i IntKind.i64 (Int.ofNat 0)],
              [Sh.i IntKind.i64 (Int.ofNat 3), Sh.i IntKind.i64 (Int.ofNat 0)]])),
      Eqn.nat 2 2,
      Eqn.fun_
        (nthL
          [[Sh.i IntKind.i64 (Int.ofNat 1), Sh.i IntKind.i64 (Int.ofNat 0)],
            [Sh.i IntKind.i64 (Int.ofNat 3), Sh.i IntKind.i64 (Int.ofNat 0)]])
        (nthL
          [[Sh.i IntKind.i64 (Int.ofNat 1), Sh.i IntKind.i64 (Int.ofNat 0)],
            [Sh.i IntKind.i64 (Int.ofNat 3), Sh.i IntKind.i64 (Int.ofNat 0)]]),
      Eqn.nat 4 4,
      Eqn.fun_
        (nthL
          [[Sh.i IntKind.i64 (Int.ofNat 1), Sh.i IntKind.i64 (Int.ofNat 1), Sh.i IntKind.i64 (Int.ofNat 0),
              Sh.i IntKind.i64 (Int.ofNat 0), Sh.i IntKind.i64 (Int.ofNat 0), Sh.i IntKind.i64 (Int.ofNat 0),
              Sh.i IntKind.i64 (Int.ofNat 0), Sh.i IntKind.i64 (Int.ofNat 0)],
            [Sh.i IntKind.i64 (Int.ofNat 1), Sh.i IntKind.i64 (Int.ofNat 2), Sh.i IntKind.i64 (Int.ofNat 1),
              Sh.i IntKind.i64 (Int.ofNat 0), Sh.i IntKind.i64 (Int.ofNat 0), Sh.i IntKind.i64 (Int.ofNat 0),
              Sh.i IntKind.i64 (Int.ofNat 0), Sh.i IntKind.i64 (Int.ofNat 0)],
            [Sh.i IntKind.i64 (Int.ofNat 2), Sh.i IntKind.i64 (Int.ofNat 1), Sh.i IntKind.i64 (Int.ofNat 0),
              Sh.i IntKind.i64 (Int.ofNat 0), Sh.i IntKind.i64 (Int.ofNat 2), Sh.i IntKind.i64 (Int.ofNat 0),
              Sh.i IntKind.i64 (Int.ofNat 0), Sh.i IntKind.i64 (Int.ofNat 0)],
            [Sh.i IntKind.i64 (Int.ofNat 3), Sh.i IntKind.i64 (Int.ofNat 1), Sh.i IntKind.i64 (Int.ofNat 0),
              Sh.i IntKind.i64 (Int.ofNat 0), Sh.i IntKind.i64 (Int.ofNat 0), Sh.i IntKind.i64 (Int.ofNat 0),
              Sh.i IntKind.i64 (Int.ofNat 0), Sh.i IntKind.i64 (Int.ofNat 1)]])
        (nthL
          [[Sh.i IntKind.i64 (Int.ofNat 1), Sh.i IntKind.i64 (Int.ofNat 1), Sh.i IntKind.i64 (Int.ofNat 0),
              Sh.i IntKind.i64 (Int.ofNat 0), Sh.i IntKind.i64 (Int.ofNat 0), Sh.i IntKind.i64 (Int.ofNat 0),
              Sh.i IntKind.i64 (Int.ofNat 0), Sh.i IntKind.i64 (Int.ofNat 0)],
            [Sh.i IntKind.i64 (Int.ofNat 1), Sh.i IntKind.i64 (Int.ofNat 2), Sh.i IntKind.i64 (Int.ofNat 1),
              Sh.i IntKind.i64 (Int.ofNat 0), Sh.i IntKind.i64 (Int.ofNat 0), Sh.i IntKind.i64 (Int.ofNat 0),
              Sh.i IntKind.i64 (Int.ofNat 0), Sh.i IntKind.i64 (Int.ofNat 0)],
            [Sh.i IntKind.i64 (Int.ofNat 2), Sh.i IntKind.i64 (Int.ofNat 1), Sh.i IntKind.i64 (Int.ofNat 0),
              Sh.i IntKind.i64 (Int.ofNat 0), Sh.i IntKind.i64 (Int.ofNat 2), Sh.i IntKind.i64 (Int.ofNat 0),
              Sh.i IntKind.i64 (Int.ofNat 0), Sh.i IntKind.i64 (Int.ofNat 0)],
            [Sh.i IntKind.i64 (Int.ofNat 3), Sh.i IntKind.i64 (Int.ofNat 1), Sh.i IntKind.i64 (Int.ofNat 0),
              Sh.i IntKind.i64 (Int.ofNat 0), Sh.i IntKind.i64 (Int.ofNat 0), Sh.i IntKind.i64 (Int.ofNat 0),
              Sh.i IntKind.i64 (Int.ofNat 0), Sh.i IntKind.i64 (Int.ofNat 1)]]),
      Eqn.sh
        (Sh.sl 8 2
          (nthL
            [[Sh.i IntKind.i64 (Int.ofNat 1), Sh.i IntKind.i64 (Int.ofNat 1), Sh.i IntKind.i64 (Int.ofNat 0),
                Sh.i IntKind.i64 (Int.ofNat 0), Sh.i IntKind.i64 (Int.ofNat 0), Sh.i IntKind.i64 (Int.ofNat 0),
                Sh.i IntKind.i64 (Int.ofNat 0), Sh.i IntKind.i64 (Int.ofNat 0)],
              [Sh.i IntKind.i64 (Int.ofNat 1), Sh.i IntKind.i64 (Int.ofNat 2), Sh.i IntKind.i64 (Int.ofNat 1),
                Sh.i IntKind.i64 (Int.ofNat 0), Sh.i IntKind.i64 (Int.ofNat 0), Sh.i IntKind.i64 (Int.ofNat 0),
                Sh.i IntKind.i64 (Int.ofNat 0), Sh.i IntKind.i64 (Int.ofNat 0)],
              [Sh.i IntKind.i64 (Int.ofNat 2), Sh.i IntKind.i64 (Int.ofNat 1), Sh.i IntKind.i64 (Int.ofNat 0),
                Sh.i IntKind.i64 (Int.ofNat 0), Sh.i IntKind.i64 (Int.ofNat 2), Sh.i IntKind.i64 (Int.ofNat 0),
                Sh.i IntKind.i64 (Int.ofNat 0), Sh.i IntKind.i64 (Int.ofNat 0)],
              [Sh.i IntKind.i64 (Int.ofNat 3), Sh.i IntKind.i64 (Int.ofNat 1), Sh.i IntKind.i64 (Int.ofNat 0),
                Sh.i IntKind.i64 (Int.ofNat 0), Sh.i IntKind.i64 (Int.ofNat 0), Sh.i IntKind.i64 (Int.ofNat 0),
                Sh.i IntKind.i64 (Int.ofNat 0), Sh.i IntKind.i64 (Int.ofNat 1)]]))
        (Sh.sl 8 2
          (nthL
            [[Sh.i IntKind.i64 (Int.ofNat 1), Sh.i IntKind.i64 (Int.ofNat 1), Sh.i IntKind.i64 (Int.ofNat 0),
                Sh.i IntKind.i64 (Int.ofNat 0), Sh.i IntKind.i64 (Int.ofNat 0), Sh.i IntKind.i64 (Int.ofNat 0),
                Sh.i IntKind.i64 (Int.ofNat 0), Sh.i IntKind.i64 (Int.ofNat 0)],
              [Sh.i IntKind.i64 (Int.ofNat 1), Sh.i IntKind.i64 (Int.ofNat 2), Sh.i IntKind.i64 (Int.ofNat 1),
                Sh.i IntKind.i64 (Int.ofNat 0), Sh.i IntKind.i64 (Int.ofNat 0), Sh.i IntKind.i64 (Int.ofNat 0),
                Sh.i IntKind.i64 (Int.ofNat 0), Sh.i IntKind.i64 (Int.ofNat 0)],
              [Sh.i IntKind.i64 (Int.ofNat 2), Sh.i IntKind.i64 (Int.ofNat 1), Sh.i IntKind.i64 (Int.ofNat 0),
                Sh.i IntKind.i64 (Int.ofNat 0), Sh.i IntKind.i64 (Int.ofNat 2), Sh.i IntKind.i64 (Int.ofNat 0),
                Sh.i IntKind.i64 (Int.ofNat 0), Sh.i IntKind.i64 (Int.ofNat 0)],
              [Sh.i IntKind.i64 (Int.ofNat 3), Sh.i IntKind.i64 (Int.ofNat 1), Sh.i IntKind.i64 (Int.ofNat 0),
                Sh.i IntKind.i64 (Int.ofNat 0), Sh.i IntKind.i64 (Int.ofNat 0), Sh.i IntKind.i64 (Int.ofNat 0),
                Sh.i IntKind.i64 (Int.ofNat 0), Sh.i IntKind.i64 (Int.ofNat 1)]])),
      Eqn.sh
        (Sh.sl 8 2
          (nthL
            [[Sh.i IntKind.i64 (Int.ofNat 1), Sh.i IntKind.i64 (Int.ofNat 1), Sh.i IntKind.i64 (Int.ofNat 0),
                Sh.i IntKind.i64 (Int.ofNat 0), Sh.i IntKind.i64 (Int.ofNat 0), Sh.i IntKind.i64 (Int.ofNat 0),
                Sh.i IntKind.i64 (Int.ofNat 0), Sh.i IntKind.i64 (Int.ofNat 0)],
              [Sh.i IntKind.i64 (Int.ofNat 1), Sh.i IntKind.i64 (Int.ofNat 2), Sh.i IntKind.i64 (Int.ofNat 1),
                Sh.i IntKind.i64 (Int.ofNat 0), Sh.i IntKind.i64 (Int.ofNat 0), Sh.i IntKind.i64 (Int.ofNat 0),
                Sh.i IntKind.i64 (Int.ofNat 0), Sh.i IntKind.i64 (Int.ofNat 0)],
              [Sh.i IntKind.i64 (Int.ofNat 2), Sh.i IntKind.i64 (Int.ofNat 1), Sh.i IntKind.i64 (Int.ofNat 0),
                Sh.i IntKind.i64 (Int.ofNat 0), Sh.i IntKind.i64 (Int.ofNat 2), Sh.i IntKind.i64 (Int.ofNat 0),
                Sh.i IntKind.i64 (Int.ofNat 0), Sh.i IntKind.i64 (Int.ofNat 0)],
              [Sh.i IntKind.i64 (Int.ofNat 3), Sh.i IntKind.i64 (Int.ofNat 1), Sh.i IntKind.i64 (Int.ofNat 0),
                Sh.i IntKind.i64 (Int.ofNat 0), Sh.i IntKind.i64 (Int.ofNat 0), Sh.i IntKind.i64 (Int.ofNat 0),
                Sh.i IntKind.i64 (Int.ofNat 0), Sh.i IntKind.i64 (Int.ofNat 1)]]))
        (Sh.sl 8 2
          (nthL
            [[Sh.i IntKind.i64 (Int.ofNat 1), Sh.i IntKind.i64 (Int.ofNat 1), Sh.i IntKind.i64 (Int.ofNat 0),
                Sh.i IntKind.i64 (Int.ofNat 0), Sh.i IntKind.i64 (Int.ofNat 0), Sh.i IntKind.i64 (Int.ofNat 0),
                Sh.i IntKind.i64 (Int.ofNat 0), Sh.i IntKind.i64 (Int.ofNat 0)],
              [Sh.i IntKind.i64 (Int.ofNat 1), Sh.i IntKind.i64 (Int.ofNat 2), Sh.i IntKind.i64 (Int.ofNat 1),
                Sh.i IntKind.i64 (Int.ofNat 0), Sh.i IntKind.i64 (Int.ofNat 0), Sh.i IntKind.i64 (Int.ofNat 0),
                Sh.i IntKind.i64 (Int.ofNat 0), Sh.i IntKind.i64 (Int.ofNat 0)],
              [Sh.i IntKind.i64 (Int.ofNat 2), Sh.i IntKind.i64 (Int.ofNat 1), Sh.i IntKind.i64 (Int.ofNat 0),
                Sh.i IntKind.i64 (Int.ofNat 0), Sh.i IntKind.i64 (Int.ofNat 2), Sh.i IntKind.i64 (Int.ofNat 0),
                Sh.i IntKind.i64 (Int.ofNat 0), Sh.i IntKind.i64 (Int.ofNat 0)],
              [Sh.i IntKind.i64 (Int.ofNat 3), Sh.i IntKind.i64 (Int.ofNat 1), Sh.i IntKind.i64 (Int.ofNat 0),
                Sh.i IntKind.i64 (Int.ofNat 0), Sh.i IntKind.i64 (Int.ofNat 0), Sh.i IntKind.i64 (Int.ofNat 0),
                Sh.i IntKind.i64 (Int.ofNat 0), Sh.i IntKind.i64 (Int.ofNat 1)]])),
      Eqn.nat 2 2,
      Eqn.fun_
        (prim.snoc (nthL []) 0
          (nthL
            [[Sh.i IntKind.i64 (Int.ofNat 1), Sh.i IntKind.i64 (Int.ofNat 1), Sh.i IntKind.i64 (Int.ofNat 0),
                Sh.i IntKind.i64 (Int.ofNat 0), Sh.i IntKind.i64 (Int.ofNat 0), Sh.i IntKind.i64 (Int.ofNat 0),
                Sh.i IntKind.i64 (Int.ofNat 0), Sh.i IntKind.i64 (Int.ofNat 0)],
              [Sh.i IntKind.i64 (Int.ofNat 1), Sh.i IntKind.i64 (Int.ofNat 2), Sh.i IntKind.i64 (Int.ofNat 1),
                Sh.i IntKind.i64 (Int.ofNat 0), Sh.i IntKind.i64 (Int.ofNat 0), Sh.i IntKind.i64 (Int.ofNat 0),
                Sh.i IntKind.i64 (Int.ofNat 0), Sh.i IntKind.i64 (Int.ofNat 0)],
              [Sh.i IntKind.i64 (Int.ofNat 2), Sh.i IntKind.i64 (Int.ofNat 1), Sh.i IntKind.i64 (Int.ofNat 0),
                Sh.i IntKind.i64 (Int.ofNat 0), Sh.i IntKind.i64 (Int.ofNat 2), Sh.i IntKind.i64 (Int.ofNat 0),
                Sh.i IntKind.i64 (Int.ofNat 0), Sh.i IntKind.i64 (Int.ofNat 0)],
              [Sh.i IntKind.i64 (Int.ofNat 3), Sh.i IntKind.i64 (Int.ofNat 1), Sh.i IntKind.i64 (Int.ofNat 0),
                Sh.i IntKind.i64 (Int.ofNat 0), Sh.i IntKind.i64 (Int.ofNat 0), Sh.i IntKind.i64 (Int.ofNat 0),
                Sh.i IntKind.i64 (Int.ofNat 0), Sh.i IntKind.i64 (Int.ofNat 1)]]))
        (prim.snoc (nthL []) 0
          (nthL
            [[Sh.i IntKind.i64 (Int.ofNat 1), Sh.i IntKind.i64 (Int.ofNat 1), Sh.i IntKind.i64 (Int.ofNat 0),
                Sh.i IntKind.i64 (Int.ofNat 0), Sh.i IntKind.i64 (Int.ofNat 0), Sh.i IntKind.i64 (Int.ofNat 0),
                Sh.i IntKind.i64 (Int.ofNat 0), Sh.i IntKind.i64 (Int.ofNat 0)],
              [Sh.i IntKind.i64 (Int.ofNat 1), Sh.i IntKind.i64 (Int.ofNat 2), Sh.i IntKind.i64 (Int.ofNat 1),
                Sh.i IntKind.i64 (Int.ofNat 0), Sh.i IntKind.i64 (Int.ofNat 0), Sh.i IntKind.i64 (Int.ofNat 0),
                Sh.i IntKind.i64 (Int.ofNat 0), Sh.i IntKind.i64 (Int.ofNat 0)],
              [Sh.i IntKind.i64 (Int.ofNat 2), Sh.i IntKind.i64 (Int.ofNat 1), Sh.i IntKind.i64 (Int.ofNat 0),
                Sh.i IntKind.i64 (Int.ofNat 0), Sh.i IntKind.i64 (Int.ofNat 2), Sh.i IntKind.i64 (Int.ofNat 0),
                Sh.i IntKind.i64 (Int.ofNat 0), Sh.i IntKind.i64 (Int.ofNat 0)],
              [Sh.i IntKind.i64 (Int.ofNat 3), Sh.i IntKind.i64 (Int.ofNat 1), Sh.i IntKind.i64 (Int.ofNat 0),
                Sh.i IntKind.i64 (Int.ofNat 0), Sh.i IntKind.i64 (Int.ofNat 0), Sh.i IntKind.i64 (Int.ofNat 0),
                Sh.i IntKind.i64 (Int.ofNat 0), Sh.i IntKind.i64 (Int.ofNat 1)]])),
      Eqn.nat 2 2, Eqn.fun_ (nthL txs0) (nthL txs0),
      Eqn.sh
        (Sh.sl 8 1
          (nthL
            [[Sh.i IntKind.i64 (Int.ofNat 0), Sh.i IntKind.i64 (Int.ofNat 2), Sh.i IntKind.i64 (Int.ofNat 0),
                Sh.i IntKind.i64 (Int.ofNat 0), Sh.i IntKind.i64 (Int.ofNat 1), Sh.i IntKind.i64 (Int.ofNat 0),
                Sh.i IntKind.i64 (Int.ofNat 2), Sh.i IntKind.i64 (Int.ofNat 3)]]))
        (Sh.sl 8 1
          (nthL
            [[Sh.i IntKind.i64 (Int.ofNat 0), Sh.i IntKind.i64 (Int.ofNat 2), Sh.i IntKind.i64 (Int.ofNat 0),
                Sh.i IntKind.i64 (Int.ofNat 0), Sh.i IntKind.i64 (Int.ofNat 1), Sh.i IntKind.i64 (Int.ofNat 0),
                Sh.i IntKind.i64 (Int.ofNat 2), Sh.i IntKind.i64 (Int.ofNat 3)]])),
      Eqn.nat 2 2,
      Eqn.fun_
        (prim.snoc (nthL []) 0
          (nthL
            [[Sh.i IntKind.i64 (Int.ofNat 1), Sh.i IntKind.i64 (Int.ofNat 0)],
              [Sh.i IntKind.i64 (Int.ofNat 3), Sh.i IntKind.i64 (Int.ofNat 0)]]))
        (prim.snoc (nthL []) 0
          (nthL
            [[Sh.i IntKind.i64 (Int.ofNat 1), Sh.i IntKind.i64 (Int.ofNat 0)],
              [Sh.i IntKind.i64 (Int.ofNat 3), Sh.i IntKind.i64 (Int.ofNat 0)]])),
      Eqn.nat 2 2, Eqn.fun_ (nthL txs0) (nthL txs0),
      Eqn.sh
        (Sh.sl 8 1
          (nthL
            [[Sh.i IntKind.i64 (Int.ofNat 0), Sh.i IntKind.i64 (Int.ofNat 2), Sh.i IntKind.i64 (Int.ofNat 0),
                Sh.i IntKind.i64 (Int.ofNat 0), Sh.i IntKind.i64 (Int.ofNat 1), Sh.i IntKind.i64 (Int.ofNat 0),
                Sh.i IntKind.i64 (Int.ofNat 2), Sh.i IntKind.i64 (Int.ofNat 3)]]))
        (Sh.sl 8 1
          (nthL
            [[Sh.i IntKind.i64 (Int.ofNat 0), Sh.i IntKind.i64 (Int.ofNat 2), Sh.i IntKind.i64 (Int.ofNat 0),
                Sh.i IntKind.i64 (Int.ofNat 0), Sh.i IntKind.i64 (Int.ofNat 1), Sh.i IntKind.i64 (Int.ofNat 0),
                Sh.i IntKind.i64 (Int.ofNat 2), Sh.i IntKind.i64 (Int.ofNat 3)]])),
      Eqn.sh (Sh.sl 8 0 (nthL [])) (Sh.sl 8 0 (nthL [])),
      Eqn.sh
        (Sh.sl 2 1
          (nthL
            [[Sh.i IntKind.i64 (Int.ofNat 1), Sh.i IntKind.i64 (Int.ofNat 0)],
              [Sh.i IntKind.i64 (Int.ofNat 3), Sh.i IntKind.i64 (Int.ofNat 0)]]))
        (Sh.sl 2 1
          (nthL
            [[Sh.i IntKind.i64 (Int.ofNat 1), Sh.i IntKind.i64 (Int.ofNat 0)],
              [Sh.i IntKind.i64 (Int.ofNat 3), Sh.i IntKind.i64 (Int.ofNat 0)]])),
      Eqn.sh
        (Sh.sl 2 1
          (nthL
            [[Sh.i IntKind.i64 (Int.ofNat 1), Sh.i IntKind.i64 (Int.ofNat 0)],
              [Sh.i IntKind.i64 (Int.ofNat 3), Sh.i IntKind.i64 (Int.ofNat 0)]]))
        (Sh.sl 2 1
          (nthL
            [[Sh.i IntKind.i64 (Int.ofNat 1), Sh.i IntKind.i64 (Int.ofNat 0)],
              [Sh.i IntKind.i64 (Int.ofNat 3), Sh.i IntKind.i64 (Int.ofNat 0)]])),
      Eqn.nat 1 1,
      Eqn.fun_
        (prim.snoc (nthL []) 0
          (nthL
            [[Sh.i IntKind.i64 (Int.ofNat 1), Sh.i IntKind.i64 (Int.ofNat 0)],
              [Sh.i IntKind.i64 (Int.ofNat 3), Sh.i IntKind.i64 (Int.ofNat 0)]]))
        (prim.snoc (nthL []) 0
          (nthL
            [[Sh.i IntKind.i64 (Int.ofNat 1), Sh.i IntKind.i64 (Int.ofNat 0)],
              [Sh.i IntKind.i64 (Int.ofNat 3), Sh.i IntKind.i64 (Int.ofNat 0)]])),
      Eqn.nat 4 4,
      Eqn.fun_
        (prim.snoc (nthL []) 0
          (nthL
            [[Sh.i IntKind.i64 (Int.ofNat 1), Sh.i IntKind.i64 (Int.ofNat 1), Sh.i IntKind.i64 (Int.ofNat 0),
                Sh.i IntKind.i64 (Int.ofNat 0), Sh.i IntKind.i64 (Int.ofNat 0), Sh.i IntKind.i64 (Int.ofNat 0),
                Sh.i IntKind.i64 (Int.ofNat 0), Sh.i IntKind.i64 (Int.ofNat 0)],
              [Sh.i IntKind.i64 (Int.ofNat 1), Sh.i IntKind.i64 (Int.ofNat 2), Sh.i IntKind.i64 (Int.ofNat 1),
                Sh.i IntKind.i64 (Int.ofNat 0), Sh.i IntKind.i64 (Int.ofNat 0), Sh.i IntKind.i64 (Int.ofNat 0),
                Sh.i IntKind.i64 (Int.ofNat 0), Sh.i IntKind.i64 (Int.ofNat 0)],
              [Sh.i IntKind.i64 (Int.ofNat 2), Sh.i IntKind.i64 (Int.ofNat 1), Sh.i IntKind.i64 (Int.ofNat 0),
                Sh.i IntKind.i64 (Int.ofNat 0), Sh.i IntKind.i64 (Int.ofNat 2), Sh.i IntKind.i64 (Int.ofNat 0),
                Sh.i IntKind.i64 (Int.ofNat 0), Sh.i IntKind.i64 (Int.ofNat 0)],
              [Sh.i IntKind.i64 (Int.ofNat 3), Sh.i IntKind.i64 (Int.ofNat 1), Sh.i IntKind.i64 (Int.ofNat 0),
                Sh.i IntKind.i64 (Int.ofNat 0), Sh.i IntKind.i64 (Int.ofNat 0), Sh.i IntKind.i64 (Int.ofNat 0),
                Sh.i IntKind.i64 (Int.ofNat 0), Sh.i IntKind.i64 (Int.ofNat 1)]]))
        (prim.snoc (nthL []) 0
          (nthL
            [[Sh.i IntKind.i64 (Int.ofNat 1), Sh.i IntKind.i64 (Int.ofNat 1), Sh.i IntKind.i64 (Int.ofNat 0),
                Sh.i IntKind.i64 (Int.ofNat 0), Sh.i IntKind.i64 (Int.ofNat 0), Sh.i IntKind.i64 (Int.ofNat 0),
                Sh.i IntKind.i64 (Int.ofNat 0), Sh.i IntKind.i64 (Int.ofNat 0)],
              [Sh.i IntKind.i64 (Int.ofNat 1), Sh.i IntKind.i64 (Int.ofNat 2), Sh.i IntKind.i64 (Int.ofNat 1),
                Sh.i IntKind.i64 (Int.ofNat 0), Sh.i IntKind.i64 (Int.ofNat 0), Sh.i IntKind.i64 (Int.ofNat 0),
                Sh.i IntKind.i64 (Int.ofNat 0), Sh.i IntKind.i64 (Int.ofNat 0)],
              [Sh.i IntKind.i64 (Int.ofNat 2), Sh.i IntKind.i64 (Int.ofNat 1), Sh.i IntKind.i64 (Int.ofNat 0),
                Sh.i IntKind.i64 (Int.ofNat 0), Sh.i IntKind.i64 (Int.ofNat 2), Sh.i IntKind.i64 (Int.ofNat 0),
                Sh.i IntKind.i64 (Int.ofNat 0), Sh.i IntKind.i64 (Int.ofNat 0)],
              [Sh.i IntKind.i64 (Int.ofNat 3), Sh.i IntKind.i64 (Int.ofNat 1), Sh.i IntKind.i64 (Int.ofNat 0),
                Sh.i IntKind.i64 (Int.ofNat 0), Sh.i IntKind.i64 (Int.ofNat 0), Sh.i IntKind.i64 (Int.ofNat 0),
                Sh.i IntKind.i64 (Int.ofNat 0), Sh.i IntKind.i64 (Int.ofNat 1)]])),
      Eqn.sh
        (Sh.sl 2 1
          (nthL
            [[Sh.i IntKind.i64 (Int.ofNat 1), Sh.i IntKind.i64 (Int.ofNat 0)],
              [Sh.i IntKind.i64 (Int.ofNat 3), Sh.i IntKind.i64 (Int.ofNat 0)]]))
        (Sh.sl 2 1
          (nthL
            [[Sh.i IntKind.i64 (Int.ofNat 1), Sh.i IntKind.i64 (Int.ofNat 0)],
              [Sh.i IntKind.i64 (Int.ofNat 3), Sh.i IntKind.i64 (Int.ofNat 0)]])),
      Eqn.nat 2 2,
      Eqn.fun_
        (nthL
          [[Sh.i IntKind.i64 (Int.ofNat 1), Sh.i IntKind.i64 (Int.ofNat 0)],
            [Sh.i IntKind.i64 (Int.ofNat 3), Sh.i IntKind.i64 (Int.ofNat 0)]])
        (nthL
          [[Sh.i IntKind.i64 (Int.ofNat 1), Sh.i IntKind.i64 (Int.ofNat 0)],
            [Sh.i IntKind.i64 (Int.ofNat 3), Sh.i IntKind.i64 (Int.ofNat 0)]]),
      Eqn.nat 4 4,
      Eqn.fun_
        (nthL
          [[Sh.i IntKind.i64 (Int.ofNat 1), Sh.i IntKind.i64 (Int.ofNat 1), Sh.i IntKind.i64 (Int.ofNat 0),
              Sh.i IntKind.i64 (Int.ofNat 0), Sh.i IntKind.i64 (Int.ofNat 0), Sh.i IntKind.i64 (Int.ofNat 0),
              Sh.i IntKind.i64 (Int.ofNat 0), Sh.i IntKind.i64 (Int.ofNat 0)],
            [Sh.i IntKind.i64 (Int.ofNat 1), Sh.i IntKind.i64 (Int.ofNat 2), Sh.i IntKind.i64 (Int.ofNat 1),
              Sh.i IntKind.i64 (Int.ofNat 0), Sh.i IntKind.i64 (Int.ofNat 0), Sh.i IntKind.i64 (Int.ofNat 0),
              Sh.i IntKind.i64 (Int.ofNat 0), Sh.i IntKind.i64 (Int.ofNat 0)],
            [Sh.i IntKind.i64 (Int.ofNat 2), Sh.i IntKind.i64 (Int.ofNat 1), Sh.i IntKind.i64 (Int.ofNat 0),
              Sh.i IntKind.i64 (Int.ofNat 0), Sh.i IntKind.i64 (Int.ofNat 2), Sh.i IntKind.i64 (Int.ofNat 0),
              Sh.i IntKind.i64 (Int.ofNat 0), Sh.i IntKind.i64 (Int.ofNat 0)],
            [Sh.i IntKind.i64 (Int.ofNat 3), Sh.i IntKind.i64 (Int.ofNat 1), Sh.i IntKind.i64 (Int.ofNat 0),
              Sh.i IntKind.i64 (Int.ofNat 0), Sh.i IntKind.i64 (Int.ofNat 0), Sh.i IntKind.i64 (Int.ofNat 0),
              Sh.i IntKind.i64 (Int.ofNat 0), Sh.i IntKind.i64 (Int.ofNat 1)]])
        (nthL
          [[Sh.i IntKind.i64 (Int.ofNat 1), Sh.i IntKind.i64 (Int.ofNat 1), Sh.i IntKind.i64 (Int.ofNat 0),
              Sh.i IntKind.i64 (Int.ofNat 0), Sh.i IntKind.i64 (Int.ofNat 0), Sh.i IntKind.i64 (Int.ofNat 0),
              Sh.i IntKind.i64 (Int.ofNat 0), Sh.i IntKind.i64 (Int.ofNat 0)],
            [Sh.i IntKind.i64 (Int.ofNat 1), Sh.i IntKind.i64 (Int.ofNat 2), Sh.i IntKind.i64 (Int.ofNat 1),
              Sh.i IntKind.i64 (Int.ofNat 0), Sh.i IntKind.i64 (Int.ofNat 0), Sh.i IntKind.i64 (Int.ofNat 0),
              Sh.i IntKind.i64 (Int.ofNat 0), Sh.i IntKind.i64 (Int.ofNat 0)],
            [Sh.i IntKind.i64 (Int.ofNat 2), Sh.i IntKind.i64 (Int.ofNat 1), Sh.i IntKind.i64 (Int.ofNat 0),
              Sh.i IntKind.i64 (Int.ofNat 0), Sh.i IntKind.i64 (Int.ofNat 2), Sh.i IntKind.i64 (Int.ofNat 0),
              Sh.i IntKind.i64 (Int.ofNat 0), Sh.i IntKind.i64 (Int.ofNat 0)],
            [Sh.i IntKind.i64 (Int.ofNat 3), Sh.i IntKind.i64 (Int.ofNat 1), Sh.i IntKind.i64 (Int.ofNat 0),
              Sh.i IntKind.i64 (Int.ofNat 0), Sh.i IntKind.i64 (Int.ofNat 0), Sh.i IntKind.i64 (Int.ofNat 0),
              Sh.i IntKind.i64 (Int.ofNat 0), Sh.i IntKind.i64 (Int.ofNat 1)]]),
      Eqn.sh
        (Sh.sl 8 2
          (nthL
            [[Sh.i IntKind.i64 (Int.ofNat 1), Sh.i IntKind.i64 (Int.ofNat 1), Sh.i IntKind.i64 (Int.ofNat 0),
                Sh.i IntKind.i64 (Int.ofNat 0), Sh.i IntKind.i64 (Int.ofNat 0), Sh.i IntKind.i64 (Int.ofNat 0),
                Sh.i IntKind.i64 (Int.ofNat 0), Sh.i IntKind.i64 (Int.ofNat 0)],
              [Sh.i IntKind.i64 (Int.ofNat 1), Sh.i IntKind.i64 (Int.ofNat 2), Sh.i IntKind.i64 (Int.ofNat 1),
                Sh.i IntKind.i64 (Int.ofNat 0), Sh.i IntKind.i64 (Int.ofNat 0), Sh.i IntKind.i64 (Int.ofNat 0),
                Sh.i IntKind.i64 (Int.ofNat 0), Sh.i IntKind.i64 (Int.ofNat 0)],
              [Sh.i IntKind.i64 (Int.ofNat 2), Sh.i IntKind.i64 (Int.ofNat 1), Sh.i IntKind.i64 (Int.ofNat 0),
                Sh.i IntKind.i64 (Int.ofNat 0), Sh.i IntKind.i64 (Int.ofNat 2), Sh.i IntKind.i64 (Int.ofNat 0),
                Sh.i IntKind.i64 (Int.ofNat 0), Sh.i IntKind.i64 (Int.ofNat 0)],
              [Sh.i IntKind.i64 (Int.ofNat 3), Sh.i IntKind.i64 (Int.ofNat 1), Sh.i IntKind.i64 (Int.ofNat 0),
                Sh.i IntKind.i64 (Int.ofNat 0), Sh.i IntKind.i64 (Int.ofNat 0), Sh.i IntKind.i64 (Int.ofNat 0),
                Sh.i IntKind.i64 (Int.ofNat 0), Sh.i IntKind.i64 (Int.ofNat 1)]]))
        (Sh.sl 8 2
          (nthL
            [[Sh.i IntKind.i64 (Int.ofNat 1), Sh.i IntKind.i64 (Int.ofNat 1), Sh.i IntKind.i64 (Int.ofNat 0),
                Sh.i IntKind.i64 (Int.ofNat 0), Sh.i IntKind.i64 (Int.ofNat 0), Sh.i IntKind.i64 (Int.ofNat 0),
                Sh.i IntKind.i64 (Int.ofNat 0), Sh.i IntKind.i64 (Int.ofNat 0)],
              [Sh.i IntKind.i64 (Int.ofNat 1), Sh.i IntKind.i64 (Int.ofNat 2), Sh.i IntKind.i64 (Int.ofNat 1),
                Sh.i IntKind.i64 (Int.ofNat 0), Sh.i IntKind.i64 (Int.ofNat 0), Sh.i IntKind.i64 (Int.ofNat 0),
                Sh.i IntKind.i64 (Int.ofNat 0), Sh.i IntKind.i64 (Int.ofNat 0)],
              [Sh.i IntKind.i64 (Int.ofNat 2), Sh.i IntKind.i64 (Int.ofNat 1), Sh.i IntKind.i64 (Int.ofNat 0),
                Sh.i IntKind.i64 (Int.ofNat 0), Sh.i IntKind.i64 (Int.ofNat 2), Sh.i IntKind.i64 (Int.ofNat 0),
                Sh.i IntKind.i64 (Int.ofNat 0), Sh.i IntKind.i64 (Int.ofNat 0)],
              [Sh.i IntKind.i64 (Int.ofNat 3), Sh.i IntKind.i64 (Int.ofNat 1), Sh.i IntKind.i64 (Int.ofNat 0),
                Sh.i IntKind.i64 (Int.ofNat 0), Sh.i IntKind.i64 (Int.ofNat 0), Sh.i IntKind.i64 (Int.ofNat 0),
                Sh.i IntKind.i64 (Int.ofNat 0), Sh.i IntKind.i64 (Int.ofNat 1)]])),
      Eqn.sh
        (Sh.sl 8 2
          (nthL
            [[Sh.i IntKind.i64 (Int.ofNat 1), Sh.i IntKind.i64 (Int.ofNat 1), Sh.i IntKind.i64 (Int.ofNat 0),
                Sh.i IntKind.i64 (Int.ofNat 0), Sh.i IntKind.i64 (Int.ofNat 0), Sh.i IntKind.i64 (Int.ofNat 0),
                Sh.i IntKind.i64 (Int.ofNat 0), Sh.i IntKind.i64 (Int.ofNat 0)],
              [Sh.i IntKind.i64 (Int.ofNat 1), Sh.i IntKind.i64 (Int.ofNat 2), Sh.i IntKind.i64 (Int.ofNat 1),
                Sh.i IntKind.i64 (Int.ofNat 0), Sh.i IntKind.i64 (Int.ofNat 0), Sh.i IntKind.i64 (Int.ofNat 0),
                Sh.i IntKind.i64 (Int.ofNat 0), Sh.i IntKind.i64 (Int.ofNat 0)],
              [Sh.i IntKind.i64 (Int.ofNat 2), Sh.i IntKind.i64 (Int.ofNat 1), Sh.i IntKind.i64 (Int.ofNat 0),
                Sh.i IntKind.i64 (Int.ofNat 0), Sh.i IntKind.i64 (Int.ofNat 2), Sh.i IntKind.i64 (Int.ofNat 0),
                Sh.i IntKind.i64 (Int.ofNat 0), Sh.i IntKind.i64 (Int.ofNat 0)],
              [Sh.i IntKind.i64 (Int.ofNat 3), Sh.i IntKind.i64 (Int.ofNat 1), Sh.i IntKind.i64 (Int.ofNat 0),
                Sh.i IntKind.i64 (Int.ofNat 0), Sh.i IntKind.i64 (Int.ofNat 0), Sh.i IntKind.i64 (Int.ofNat 0),
                Sh.i IntKind.i64 (Int.ofNat 0), Sh.i IntKind.i64 (Int.ofNat 1)]]))
        (Sh.sl 8 2
          (nthL
            [[Sh.i IntKind.i64 (Int.ofNat 1), Sh.i IntKind.i64 (Int.ofNat 1), Sh.i IntKind.i64 (Int.ofNat 0),
                Sh.i IntKind.i64 (Int.ofNat 0), Sh.i IntKind.i64 (Int.ofNat 0), Sh.i IntKind.i64 (Int.ofNat 0),
                Sh.i IntKind.i64 (Int.ofNat 0), Sh.i IntKind.i64 (Int.ofNat 0)],
              [Sh.i IntKind.i64 (Int.ofNat 1), Sh.i IntKind.i64 (Int.ofNat 2), Sh.i IntKind.i64 (Int.ofNat 1),
                Sh.i IntKind.i64 (Int.ofNat 0), Sh.i IntKind.i64 (Int.ofNat 0), Sh.i IntKind.i64 (Int.ofNat 0),
                Sh.i IntKind.i64 (Int.ofNat 0), Sh.i IntKind.i64 (Int.ofNat 0)],
              [Sh.i IntKind.i64 (Int.ofNat 2), Sh.i IntKind.i64 (Int.ofNat 1), Sh.i IntKind.i64 (Int.ofNat 0),
                Sh.i IntKind.i64 (Int.ofNat 0), Sh.i IntKind.i64 (Int.ofNat 2), Sh.i IntKind.i64 (Int.ofNat 0),
                Sh.i IntKind.i64 (Int.ofNat 0), Sh.i IntKind.i64 (Int.ofNat 0)],
              [Sh.i IntKind.i64 (Int.ofNat 3), Sh.i IntKind.i64 (Int.ofNat 1), Sh.i IntKind.i64 (Int.ofNat 0),
                Sh.i IntKind.i64 (Int.ofNat 0), Sh.i IntKind.i64 (Int.ofNat 0), Sh.i IntKind.i64 (Int.ofNat 0),
                Sh.i IntKind.i64 (Int.ofNat 0), Sh.i IntKind.i64 (Int.ofNat 1)]])),
      Eqn.nat 2 2,
      Eqn.fun_
        (prim.snoc (nthL []) 0
          (nthL
            [[Sh.i IntKind.i64 (Int.ofNat 1), Sh.i IntKind.i64 (Int.ofNat 1), Sh.i IntKind.i64 (Int.ofNat 0),
                Sh.i IntKind.i64 (Int.ofNat 0), Sh.i IntKind.i64 (Int.ofNat 0), Sh.i IntKind.i64 (Int.ofNat 0),
                Sh.i IntKind.i64 (Int.ofNat 0), Sh.i IntKind.i64 (Int.ofNat 0)],
              [Sh.i IntKind.i64 (Int.ofNat 1), Sh.i IntKind.i64 (Int.ofNat 2), Sh.i IntKind.i64 (Int.ofNat 1),
                Sh.i IntKind.i64 (Int.ofNat 0), Sh.i IntKind.i64 (Int.ofNat 0), Sh.i IntKind.i64 (Int.ofNat 0),
                Sh.i IntKind.i64 (Int.ofNat 0), Sh.i IntKind.i64 (Int.ofNat 0)],
              [Sh.i IntKind.i64 (Int.ofNat 2), Sh.i IntKind.i64 (Int.ofNat 1), Sh.i IntKind.i64 (Int.ofNat 0),
                Sh.i IntKind.i64 (Int.ofNat 0), Sh.i IntKind.i64 (Int.ofNat 2), Sh.i IntKind.i64 (Int.ofNat 0),
                Sh.i IntKind.i64 (Int.ofNat 0), Sh.i IntKind.i64 (Int.ofNat 0)],
              [Sh.i IntKind.i64 (Int.ofNat 3), Sh.i IntKind.i64 (Int.ofNat 1), Sh.i IntKind.i64 (Int.ofNat 0),
                Sh.i IntKind.i64 (Int.ofNat 0), Sh.i IntKind.i64 (Int.ofNat 0), Sh.i IntKind.i64 (Int.ofNat 0),
                Sh.i IntKind.i64 (Int.ofNat 0), Sh.i IntKind.i64 (Int.ofNat 1)]]))
        (prim.snoc (nthL []) 0
          (nthL
            [[Sh.i IntKind.i64 (Int.ofNat 1), Sh.i IntKind.i64 (Int.ofNat 1), Sh.i IntKind.i64 (Int.ofNat 0),
                Sh.i IntKind.i64 (Int.ofNat 0), Sh.i IntKind.i64 (Int.ofNat 0), Sh.i IntKind.i64 (Int.ofNat 0),
                Sh.i IntKind.i64 (Int.ofNat 0), Sh.i IntKind.i64 (Int.ofNat 0)],
              [Sh.i IntKind.i64 (Int.ofNat 1), Sh.i IntKind.i64 (Int.ofNat 2), Sh.i IntKind.i64 (Int.ofNat 1),
                Sh.i IntKind.i64 (Int.ofNat 0), Sh.i IntKind.i64 (Int.ofNat 0), Sh.i IntKind.i64 (Int.ofNat 0),
                Sh.i IntKind.i64 (Int.ofNat 0), Sh.i IntKind.i64 (Int.ofNat 0)],
              [Sh.i IntKind.i64 (Int.ofNat 2), Sh.i IntKind.i64 (Int.ofNat 1), Sh.i IntKind.i64 (Int.ofNat 0),
                Sh.i IntKind.i64 (Int.ofNat 0), Sh.i IntKind.i64 (Int.ofNat 2), Sh.i IntKind.i64 (Int.ofNat 0),
                Sh.i IntKind.i64 (Int.ofNat 0), Sh.i IntKind.i64 (Int.ofNat 0)],
              [Sh.i IntKind.i64 (Int.ofNat 3), Sh.i IntKind.i64 (Int.ofNat 1), Sh.i IntKind.i64 (Int.ofNat 0),
                Sh.i IntKind.i64 (Int.ofNat 0), Sh.i IntKind.i64 (Int.ofNat 0), Sh.i IntKind.i64 (Int.ofNat 0),
                Sh.i IntKind.i64 (Int.ofNat 0), Sh.i IntKind.i64 (Int.ofNat 1)]])),
      Eqn.nat 2 2, Eqn.fun_ (nthL txs0) (nthL txs0),
      Eqn.sh
        (Sh.sl 8 1
          (nthL
            [[Sh.i IntKind.i64 (Int.ofNat 0), Sh.i IntKind.i64 (Int.ofNat 2), Sh.i IntKind.i64 (Int.ofNat 0),
                Sh.i IntKind.i64 (Int.ofNat 0), Sh.i IntKind.i64 (Int.ofNat 1), Sh.i IntKind.i64 (Int.ofNat 0),
                Sh.i IntKind.i64 (Int.ofNat 2), Sh.i IntKind.i64 (Int.ofNat 3)]]))
        (Sh.sl 8 1
          (nthL
            [[Sh.i IntKind.i64 (Int.ofNat 0), Sh.i IntKind.i64 (Int.ofNat 2), Sh.i IntKind.i64 (Int.ofNat 0),
                Sh.i IntKind.i64 (Int.ofNat 0), Sh.i IntKind.i64 (Int.ofNat 1), Sh.i IntKind.i64 (Int.ofNat 0),
                Sh.i IntKind.i64 (Int.ofNat 2), Sh.i IntKind.i64 (Int.ofNat 3)]])),
      Eqn.nat 2 2,
      Eqn.fun_
        (prim.snoc (nthL []) 0
          (nthL
            [[Sh.i IntKind.i64 (Int.ofNat 1), Sh.i IntKind.i64 (Int.ofNat 0)],
              [Sh.i IntKind.i64 (Int.ofNat 3), Sh.i IntKind.i64 (Int.ofNat 0)]]))
        (prim.snoc (nthL []) 0
          (nthL
            [[Sh.i IntKind.i64 (Int.ofNat 1), Sh.i IntKind.i64 (Int.ofNat 0)],
              [Sh.i IntKind.i64 (Int.ofNat 3), Sh.i IntKind.i64 (Int.ofNat 0)]])),
      Eqn.nat 2 2, Eqn.fun_ (nthL txs0) (nthL txs0),
      Eqn.sh
        (Sh.sl 8 1
          (nthL
            [[Sh.i IntKind.i64 (Int.ofNat 0), Sh.i IntKind.i64 (Int.ofNat 2), Sh.i IntKind.i64 (Int.ofNat 0),
                Sh.i IntKind.i64 (Int.ofNat 0), Sh.i IntKind.i64 (Int.ofNat 1), Sh.i IntKind.i64 (Int.ofNat 0),
                Sh.i IntKind.i64 (Int.ofNat 2), Sh.i IntKind.i64 (Int.ofNat 3)]]))
        (Sh.sl 8 1
          (nthL
            [[Sh.i IntKind.i64 (Int.ofNat 0), Sh.i IntKind.i64 (Int.ofNat 2), Sh.i IntKind.i64 (Int.ofNat 0),
                Sh.i IntKind.i64 (Int.ofNat 0), Sh.i IntKind.i64 (Int.ofNat 1), Sh.i IntKind.i64 (Int.ofNat 0),
                Sh.i IntKind.i64 (Int.ofNat 2), Sh.i IntKind.i64 (Int.ofNat 3)]])),
      Eqn.sh (Sh.sl 8 0 (nthL [])) (Sh.sl 8 0 (nthL [])),
      Eqn.sh
        (Sh.sl 2 1
          (nthL
            [[Sh.i IntKind.i64 (Int.ofNat 1), Sh.i IntKind.i64 (Int.ofNat 0)],
              [Sh.i IntKind.i64 (Int.ofNat 3), Sh.i IntKind.i64 (Int.ofNat 0)]]))
        (Sh.sl 2 1
          (nthL
            [[Sh.i IntKind.i64 (Int.ofNat 1), Sh.i IntKind.i64 (Int.ofNat 0)],
              [Sh.i IntKind.i64 (Int.ofNat 3), Sh.i IntKind.i64 (Int.ofNat 0)]])),
      Eqn.sh
        (Sh.sl 2 1
          (nthL
            [[Sh.i IntKind.i64 (Int.ofNat 1), Sh.i IntKind.i64 (Int.ofNat 0)],
              [Sh.i IntKind.i64 (Int.ofNat 3), Sh.i IntKind.i64 (Int.ofNat 0)]]))
        (Sh.sl 2 1
          (nthL
            [[Sh.i IntKind.i64 (Int.ofNat 1), Sh.i IntKind.i64 (Int.ofNat 0)],
              [Sh.i IntKind.i64 (Int.ofNat 3), Sh.i IntKind.i64 (Int.ofNat 0)]])),
      Eqn.nat 1 1,
      Eqn.fun_
        (prim.snoc (nthL []) 0
          (nthL
            [[Sh.i IntKind.i64 (Int.ofNat 1), Sh.i IntKind.i64 (Int.ofNat 0)],
              [Sh.i IntKind.i64 (Int.ofNat 3), Sh.i IntKind.i64 (Int.ofNat 0)]]))
        (prim.snoc (nthL []) 0
          (nthL
            [[Sh.i IntKind.i64 (Int.ofNat 1), Sh.i IntKind.i64 (Int.ofNat 0)],
              [Sh.i IntKind.i64 (Int.ofNat 3), Sh.i IntKind.i64 (Int.ofNat 0)]])),
      Eqn.nat 4 4,
      Eqn.fun_
        (prim.snoc (nthL []) 0
          (nthL
            [[Sh.i IntKind.i64 (Int.ofNat 1), Sh.i IntKind.i64 (Int.ofNat 1), Sh.i IntKind.i64 (Int.ofNat 0),
                Sh.i IntKind.i64 (Int.ofNat 0), Sh.i IntKind.i64 (Int.ofNat 0), Sh.i IntKind.i64 (Int.ofNat 0),
                Sh.i IntKind.i64 (Int.ofNat 0), Sh.i IntKind.i64 (Int.ofNat 0)],
              [Sh.i IntKind.i64 (Int.ofNat 1), Sh.i IntKind.i64 (Int.ofNat 2), Sh.i IntKind.i64 (Int.ofNat 1),
                Sh.i IntKind.i64 (Int.ofNat 0), Sh.i IntKind.i64 (Int.ofNat 0), Sh.i IntKind.i64 (Int.ofNat 0),
                Sh.i IntKind.i64 (Int.ofNat 0), Sh.i IntKind.i64 (Int.ofNat 0)],
              [Sh.i IntKind.i64 (Int.ofNat 2), Sh.i IntKind.i64 (Int.ofNat 1), Sh.i IntKind.i64 (Int.ofNat 0),
                Sh.i IntKind.i64 (Int.ofNat 0), Sh.i IntKind.i64 (Int.ofNat 2), Sh.i IntKind.i64 (Int.ofNat 0),
                Sh.i IntKind.i64 (Int.ofNat 0), Sh.i IntKind.i64 (Int.ofNat 0)],
              [Sh.i IntKind.i64 (Int.ofNat 3), Sh.i IntKind.i64 (Int.ofNat 1), Sh.i IntKind.i64 (Int.ofNat 0),
                Sh.i IntKind.i64 (Int.ofNat 0), Sh.i IntKind.i64 (Int.ofNat 0), Sh.i IntKind.i64 (Int.ofNat 0),
                Sh.i IntKind.i64 (Int.ofNat 0), Sh.i IntKind.i64 (Int.ofNat 1)]]))
        (prim.snoc (nthL []) 0
          (nthL
            [[Sh.i IntKind.i64 (Int.ofNat 1), Sh.i IntKind.i64 (Int.ofNat 1), Sh.i IntKind.i64 (Int.ofNat 0),
                Sh.i IntKind.i64 (Int.ofNat 0), Sh.i IntKind.i64 (Int.ofNat 0), Sh.i IntKind.i64 (Int.ofNat 0),
                Sh.i IntKind.i64 (Int.ofNat 0), Sh.i IntKind.i64 (Int.ofNat 0)],
              [Sh.i IntKind.i64 (Int.ofNat 1), Sh.i IntKind.i64 (Int.ofNat 2), Sh.i IntKind.i64 (Int.ofNat 1),
                Sh.i IntKind.i64 (Int.ofNat 0), Sh.i IntKind.i64 (Int.ofNat 0), Sh.i IntKind.i64 (Int.ofNat 0),
                Sh.i IntKind.i64 (Int.ofNat 0), Sh.i IntKind.i64 (Int.ofNat 0)],
              [Sh.i IntKind.i64 (Int.ofNat 2), Sh.i IntKind.i64 (Int.ofNat 1), Sh.i IntKind.i64 (Int.ofNat 0),
                Sh.i IntKind.i64 (Int.ofNat 0), Sh.i IntKind.i64 (Int.ofNat 2), Sh.i IntKind.i64 (Int.ofNat 0),
                Sh.i IntKind.i64 (Int.ofNat 0), Sh.i IntKind.i64 (Int.ofNat 0)],
              [Sh.i IntKind.i64 (Int.ofNat 3), Sh.i IntKind.i64 (Int.ofNat 1), Sh.i IntKind.i64 (Int.ofNat 0),
                Sh.i IntKind.i64 (Int.ofNat 0), Sh.i IntKind.i64 (Int.ofNat 0), Sh.i IntKind.i64 (Int.ofNat 0),
                Sh.i IntKind.i64 (Int.ofNat 0), Sh.i IntKind.i64 (Int.ofNat 1)]])),
      Eqn.nat 2 2,
      Eqn.fun_
        (nthL
          [[Sh.i IntKind.i64 (Int.ofNat 1), Sh.i IntKind.i64 (Int.ofNat 0)],
            [Sh.i IntKind.i64 (Int.ofNat 3), Sh.i IntKind.i64 (Int.ofNat 0)]])
        (nthL
          [[Sh.i IntKind.i64 (Int.ofNat 1), Sh.i IntKind.i64 (Int.ofNat 0)],
            [Sh.i IntKind.i64 (Int.ofNat 3), Sh.i IntKind.i64 (Int.ofNat 0)]]),
      Eqn.nat 4 4,
      Eqn.fun_
        (nthL
          [[Sh.i IntKind.i64 (Int.ofNat 1), Sh.i IntKind.i64 (Int.ofNat 1), Sh.i IntKind.i64 (Int.ofNat 0),
              Sh.i IntKind.i64 (Int.ofNat 0), Sh.i IntKind.i64 (Int.ofNat 0), Sh.i IntKind.i64 (Int.ofNat 0),
              Sh.i IntKind.i64 (Int.ofNat 0), Sh.i IntKind.i64 (Int.ofNat 0)],
            [Sh.i IntKind.i64 (Int.ofNat 1), Sh.i IntKind.i64 (Int.ofNat 2), Sh.i IntKind.i64 (Int.ofNat 1),
              Sh.i IntKind.i64 (Int.ofNat 0), Sh.i IntKind.i64 (Int.ofNat 0), Sh.i IntKind.i64 (Int.ofNat 0),
              Sh.i IntKind.i64 (Int.ofNat 0), Sh.i IntKind.i64 (Int.ofNat 0)],
            [Sh.i IntKind.i64 (Int.ofNat 2), Sh.i IntKind.i64 (Int.ofNat 1), Sh.i IntKind.i64 (Int.ofNat 0),
              Sh.i IntKind.i64 (Int.ofNat 0), Sh.i IntKind.i64 (Int.ofNat 2), Sh.i IntKind.i64 (Int.ofNat 0),
              Sh.i IntKind.i64 (Int.ofNat 0), Sh.i IntKind.i64 (Int.ofNat 0)],
            [Sh.i IntKind.i64 (Int.ofNat 3), Sh.i IntKind.i64 (Int.ofNat 1), Sh.i IntKind.i64 (Int.ofNat 0),
              Sh.i IntKind.i64 (Int.ofNat 0), Sh.i IntKind.i64 (Int.ofNat 0), Sh.i IntKind.i64 (Int.ofNat 0),
              Sh.i IntKind.i64 (Int.ofNat 0), Sh.i IntKind.i64 (Int.ofNat 1)]])
        (nthL
          [[Sh.i IntKind.i64 (Int.ofNat 1), Sh.i IntKind.i64 (Int.ofNat 1), Sh.i IntKind.i64 (Int.ofNat 0),
              Sh.i IntKind.i64 (Int.ofNat 0), Sh.i IntKind.i64 (Int.ofNat 0), Sh.i IntKind.i64 (Int.ofNat 0),
              Sh.i IntKind.i64 (Int.ofNat 0), Sh.i IntKind.i64 (Int.ofNat 0)],
            [Sh.i IntKind.i64 (Int.ofNat 1), Sh.i IntKind.i64 (Int.ofNat 2), Sh.i IntKind.i64 (Int.ofNat 1),
              Sh.i IntKind.i64 (Int.ofNat 0), Sh.i IntKind.i64 (Int.ofNat 0), Sh.i IntKind.i64 (Int.ofNat 0),
              Sh.i IntKind.i64 (Int.ofNat 0), Sh.i IntKind.i64 (Int.ofNat 0)],
            [Sh.i IntKind.i64 (Int.ofNat 2), Sh.i IntKind.i64 (Int.ofNat 1), Sh.i IntKind.i64 (Int.ofNat 0),
              Sh.i IntKind.i64 (Int.ofNat 0), Sh.i IntKind.i64 (Int.ofNat 2), Sh.i IntKind.i64 (Int.ofNat 0),
              Sh.i IntKind.i64 (Int.ofNat 0), Sh.i IntKind.i64 (Int.ofNat 0)],
            [Sh.i IntKind.i64 (Int.ofNat 3), Sh.i IntKind.i64 (Int.ofNat 1), Sh.i IntKind.i64 (Int.ofNat 0),
              Sh.i IntKind.i64 (Int.ofNat 0), Sh.i IntKind.i64 (Int.ofNat 0), Sh.i IntKind.i64 (Int.ofNat 0),
              Sh.i IntKind.i64 (Int.ofNat 0), Sh.i IntKind.i64 (Int.ofNat 1)]]),
      Eqn.sh
        (Sh.sl 8 2
          (nthL
            [[Sh.i IntKind.i64 (Int.ofNat 1), Sh.i IntKind.i64 (Int.ofNat 1), Sh.i IntKind.i64 (Int.ofNat 0),
                Sh.i IntKind.i64 (Int.ofNat 0), Sh.i IntKind.i64 (Int.ofNat 0), Sh.i IntKind.i64 (Int.ofNat 0),
                Sh.i IntKind.i64 (Int.ofNat 0), Sh.i IntKind.i64 (Int.ofNat 0)],
              [Sh.i IntKind.i64 (Int.ofNat 1), Sh.i IntKind.i64 (Int.ofNat 2), Sh.i IntKind.i64 (Int.ofNat 1),
                Sh.i IntKind.i64 (Int.ofNat 0), Sh.i IntKind.i64 (Int.ofNat 0), Sh.i IntKind.i64 (Int.ofNat 0),
                Sh.i IntKind.i64 (Int.ofNat 0), Sh.i IntKind.i64 (Int.ofNat 0)],
              [Sh.i IntKind.i64 (Int.ofNat 2), Sh.i IntKind.i64 (Int.ofNat 1), Sh.i IntKind.i64 (Int.ofNat 0),
                Sh.i IntKind.i64 (Int.ofNat 0), Sh.i IntKind.i64 (Int.ofNat 2), Sh.i IntKind.i64 (Int.ofNat 0),
                Sh.i IntKind.i64 (Int.ofNat 0), Sh.i IntKind.i64 (Int.ofNat 0)],
              [Sh.i IntKind.i64 (Int.ofNat 3), Sh.i IntKind.i64 (Int.ofNat 1), Sh.i IntKind.i64 (Int.ofNat 0),
                Sh.i IntKind.i64 (Int.ofNat 0), Sh.i IntKind.i64 (Int.ofNat 0), Sh.i IntKind.i64 (Int.ofNat 0),
                Sh.i IntKind.i64 (Int.ofNat 0), Sh.i IntKind.i64 (Int.ofNat 1)]]))
        (Sh.sl 8 2
          (nthL
            [[Sh.i IntKind.i64 (Int.ofNat 1), Sh.i IntKind.i64 (Int.ofNat 1), Sh.i IntKind.i64 (Int.ofNat 0),
                Sh.i IntKind.i64 (Int.ofNat 0), Sh.i IntKind.i64 (Int.ofNat 0), Sh.i IntKind.i64 (Int.ofNat 0),
                Sh.i IntKind.i64 (Int.ofNat 0), Sh.i IntKind.i64 (Int.ofNat 0)],
              [Sh.i IntKind.i64 (Int.ofNat 1), Sh.i IntKind.i64 (Int.ofNat 2), Sh.i IntKind.i64 (Int.ofNat 1),
                Sh.i IntKind.i64 (Int.ofNat 0), Sh.i IntKind.i64 (Int.ofNat 0), Sh.i IntKind.i64 (Int.ofNat 0),
                Sh.i IntKind.i64 (Int.ofNat 0), Sh.i IntKind.i64 (Int.ofNat 0)],
              [Sh.i IntKind.i64 (Int.ofNat 2), Sh.i IntKind.i64 (Int.ofNat 1), Sh.i IntKind.i64 (Int.ofNat 0),
                Sh.i IntKind.i64 (Int.ofNat 0), Sh.i IntKind.i64 (Int.ofNat 2), Sh.i IntKind.i64 (Int.ofNat 0),
                Sh.i IntKind.i64 (Int.ofNat 0), Sh.i IntKind.i64 (Int.ofNat 0)],
              [Sh.i IntKind.i64 (Int.ofNat 3), Sh.i IntKind.i64 (Int.ofNat 1), Sh.i IntKind.i64 (Int.ofNat 0),
                Sh.i IntKind.i64 (Int.ofNat 0), Sh.i IntKind.i64 (Int.ofNat 0), Sh.i IntKind.i64 (Int.ofNat 0),
                Sh.i IntKind.i64 (Int.ofNat 0), Sh.i IntKind.i64 (Int.ofNat 1)]])),
      Eqn.sh
        (Sh.sl 8 2
          (nthL
            [[Sh.i IntKind.i64 (Int.ofNat 1), Sh.i IntKind.i64 (Int.ofNat 1), Sh.i IntKind.i64 (Int.ofNat 0),
                Sh.i IntKind.i64 (Int.ofNat 0), Sh.i IntKind.i64 (Int.ofNat 0), Sh.i IntKind.i64 (Int.ofNat 0),
                Sh.i IntKind.i64 (Int.ofNat 0), Sh.i IntKind.i64 (Int.ofNat 0)],
              [Sh.i IntKind.i64 (Int.ofNat 1), Sh.i IntKind.i64 (Int.ofNat 2), Sh.i IntKind.i64 (Int.ofNat 1),
                Sh.i IntKind.i64 (Int.ofNat 0), Sh.i IntKind.i64 (Int.ofNat 0), Sh.i IntKind.i64 (Int.ofNat 0),
                Sh.i IntKind.i64 (Int.ofNat 0), Sh.i IntKind.i64 (Int.ofNat 0)],
              [Sh.i IntKind.i64 (Int.ofNat 2), Sh.i IntKind.i64 (Int.ofNat 1), Sh.i IntKind.i64 (Int.ofNat 0),
                Sh.i IntKind.i64 (Int.ofNat 0), Sh.i IntKind.i64 (Int.ofNat 2), Sh.i IntKind.i64 (Int.ofNat 0),
                Sh.i IntKind.i64 (Int.ofNat 0), Sh.i IntKind.i64 (Int.ofNat 0)],
              [Sh.i IntKind.i64 (Int.ofNat 3), Sh.i IntKind.i64 (Int.ofNat 1), Sh.i IntKind.i64 (Int.ofNat 0),
                Sh.i IntKind.i64 (Int.ofNat 0), Sh.i IntKind.i64 (Int.ofNat 0), Sh.i IntKind.i64 (Int.ofNat 0),
                Sh.i IntKind.i64 (Int.ofNat 0), Sh.i IntKind.i64 (Int.ofNat 1)]]))
        (Sh.sl 8 2
          (nthL
            [[Sh.i IntKind.i64 (Int.ofNat 1), Sh.i IntKind.i64 (Int.ofNat 1), Sh.i IntKind.i64 (Int.ofNat 0),
                Sh.i IntKind.i64 (Int.ofNat 0), Sh.i IntKind.i64 (Int.ofNat 0), Sh.i IntKind.i64 (Int.ofNat 0),
                Sh.i IntKind.i64 (Int.ofNat 0), Sh.i IntKind.i64 (Int.ofNat 0)],
              [Sh.i IntKind.i64 (Int.ofNat 1), Sh.i IntKind.i64 (Int.ofNat 2), Sh.i IntKind.i64 (Int.ofNat 1),
                Sh.i IntKind.i64 (Int.ofNat 0), Sh.i IntKind.i64 (Int.ofNat 0), Sh.i IntKind.i64 (Int.ofNat 0),
                Sh.i IntKind.i64 (Int.ofNat 0), Sh.i IntKind.i64 (Int.ofNat 0)],
              [Sh.i IntKind.i64 (Int.ofNat 2), Sh.i IntKind.i64 (Int.ofNat 1), Sh.i IntKind.i64 (Int.ofNat 0),
                Sh.i IntKind.i64 (Int.ofNat 0), Sh.i IntKind.i64 (Int.ofNat 2), Sh.i IntKind.i64 (Int.ofNat 0),
                Sh.i IntKind.i64 (Int.ofNat 0), Sh.i IntKind.i64 (Int.ofNat 0)],
              [Sh.i IntKind.i64 (Int.ofNat 3), Sh.i IntKind.i64 (Int.ofNat 1), Sh.i IntKind.i64 (Int.ofNat 0),
                Sh.i IntKind.i64 (Int.ofNat 0), Sh.i IntKind.i64 (Int.ofNat 0), Sh.i IntKind.i64 (Int.ofNat 0),
                Sh.i IntKind.i64 (Int.ofNat 0), Sh.i IntKind.i64 (Int.ofNat 1)]])),
      Eqn.nat 2 2,
      Eqn.fun_
        (prim.snoc (nthL []) 0
          (nthL
            [[Sh.i IntKind.i64 (Int.ofNat 1), Sh.i IntKind.i64 (Int.ofNat 1), Sh.i IntKind.i64 (Int.ofNat 0),
                Sh.i IntKind.i64 (Int.ofNat 0), Sh.i IntKind.i64 (Int.ofNat 0), Sh.i IntKind.i64 (Int.ofNat 0),
                Sh.i IntKind.i64 (Int.ofNat 0), Sh.i IntKind.i64 (Int.ofNat 0)],
              [Sh.i IntKind.i64 (Int.ofNat 1), Sh.i IntKind.i64 (Int.ofNat 2), Sh.i IntKind.i64 (Int.ofNat 1),
                Sh.i IntKind.i64 (Int.ofNat 0), Sh.i IntKind.i64 (Int.ofNat 0), Sh.i IntKind.i64 (Int.ofNat 0),
                Sh.i IntKind.i64 (Int.ofNat 0), Sh.i IntKind.i64 (Int.ofNat 0)],
              [Sh.i IntKind.i64 (Int.ofNat 2), Sh.i IntKind.i64 (Int.ofNat 1), Sh.i IntKind.i64 (Int.ofNat 0),
                Sh.i IntKind.i64 (Int.ofNat 0), Sh.i IntKind.i64 (Int.ofNat 2), Sh.i IntKind.i64 (Int.ofNat 0),
                Sh.i IntKind.i64 (Int.ofNat 0), Sh.i IntKind.i64 (Int.ofNat 0)],
              [Sh.i IntKind.i64 (Int.ofNat 3), Sh.i IntKind.i64 (Int.ofNat 1), Sh.i IntKind.i64 (Int.ofNat 0),
                Sh.i IntKind.i64 (Int.ofNat 0), Sh.i IntKind.i64 (Int.ofNat 0), Sh.i IntKind.i64 (Int.ofNat 0),
                Sh.i IntKind.i64 (Int.ofNat 0), Sh.i IntKind.i64 (Int.ofNat 1)]]))
        (prim.snoc (nthL []) 0
          (nthL
            [[Sh.i IntKind.i64 (Int.ofNat 1), Sh.i IntKind.i64 (Int.ofNat 1), Sh.i IntKind.i64 (Int.ofNat 0),
                Sh.i IntKind.i64 (Int.ofNat 0), Sh.i IntKind.i64 (Int.ofNat 0), Sh.i IntKind.i64 (Int.ofNat 0),
                Sh.i IntKind.i64 (Int.ofNat 0), Sh.i IntKind.i64 (Int.ofNat 0)],
              [Sh.i IntKind.i64 (Int.ofNat 1), Sh.i IntKind.i64 (Int.ofNat 2), Sh.i IntKind.i64 (Int.ofNat 1),
                Sh.i IntKind.i64 (Int.ofNat 0), Sh.i IntKind.i64 (Int.ofNat 0), Sh.i IntKind.i64 (Int.ofNat 0),
                Sh.i IntKind.i64 (Int.ofNat 0), Sh.i IntKind.i64 (Int.ofNat 0)],
              [Sh.i IntKind.i64 (Int.ofNat 2), Sh.i IntKind.i64 (Int.ofNat 1), Sh.i IntKind.i64 (Int.ofNat 0),
                Sh.i IntKind.i64 (Int.ofNat 0), Sh.i IntKind.i64 (Int.ofNat 2), Sh.i IntKind.i64 (Int.ofNat 0),
                Sh.i IntKind.i64 (Int.ofNat 0), Sh.i IntKind.i64 (Int.ofNat 0)],
              [Sh.i IntKind.i64 (Int.ofNat 3), Sh.i IntKind.i64 (Int.ofNat 1), Sh.i IntKind.i64 (Int.ofNat 0),
                Sh.i IntKind.i64 (Int.ofNat 0), Sh.i IntKind.i64 (Int.ofNat 0), Sh.i IntKind.i64 (Int.ofNat 0),
                Sh.i IntKind.i64 (Int.ofNat 0), Sh.i IntKind.i64 (Int.ofNat 1)]])),
      Eqn.nat 2 2, Eqn.fun_ (nthL txs0) (nthL txs0),
      Eqn.sh
        (Sh.sl 8 1
          (nthL
            [[Sh.i IntKind.i64 (Int.ofNat 0), Sh.i IntKind.i64 (Int.ofNat 2), Sh.i IntKind.i64 (Int.ofNat 0),
                Sh.i IntKind.i64 (Int.ofNat 0), Sh.i IntKind.i64 (Int.ofNat 1), Sh.i IntKind.i64 (Int.ofNat 0),
                Sh.i IntKind.i64 (Int.ofNat 2), Sh.i IntKind.i64 (Int.ofNat 3)]]))
        (Sh.sl 8 1
          (nthL
            [[Sh.i IntKind.i64 (Int.ofNat 0), Sh.i IntKind.i64 (Int.ofNat 2), Sh.i IntKind.i64 (Int.ofNat 0),
                Sh.i IntKind.i64 (Int.ofNat 0), Sh.i IntKind.i64 (Int.ofNat 1), Sh.i IntKind.i64 (Int.ofNat 0),
                Sh.i IntKind.i64 (Int.ofNat 2), Sh.i IntKind.i64 (Int.ofNat 3)]])),
      Eqn.nat 2 2,
      Eqn.fun_
        (prim.snoc (nthL []) 0
          (nthL
            [[Sh.i IntKind.i64 (Int.ofNat 1), Sh.i IntKind.i64 (Int.ofNat 0)],
              [Sh.i IntKind.i64 (Int.ofNat 3), Sh.i IntKind.i64 (Int.ofNat 0)]]))
        (prim.snoc (nthL []) 0
          (nthL
            [[Sh.i IntKind.i64 (Int.ofNat 1), Sh.i IntKind.i64 (Int.ofNat 0)],
              [Sh.i IntKind.i64 (Int.ofNat 3), Sh.i IntKind.i64 (Int.ofNat 0)]])),
      Eqn.nat 2 2,
      Eqn.fun_
        (nthL
          [[Sh.i IntKind.i64 (Int.ofNat 1), Sh.i IntKind.i64 (Int.ofNat 0)],
            [Sh.i IntKind.i64 (Int.ofNat 3), Sh.i IntKind.i64 (Int.ofNat 0)]])
        (nthL
          [[Sh.i IntKind.i64 (Int.ofNat 1), Sh.i IntKind.i64 (Int.ofNat 0)],
            [Sh.i IntKind.i64 (Int.ofNat 3), Sh.i IntKind.i64 (Int.ofNat 0)]]),
      Eqn.nat 4 4,
      Eqn.fun_
        (nthL
          [[Sh.i IntKind.i64 (Int.ofNat 1), Sh.i IntKind.i64 (Int.ofNat 1), Sh.i IntKind.i64 (Int.ofNat 0),
              Sh.i IntKind.i64 (Int.ofNat 0), Sh.i IntKind.i64 (Int.ofNat 0), Sh.i IntKind.i64 (Int.ofNat 0),
              Sh.i IntKind.i64 (Int.ofNat 0), Sh.i IntKind.i64 (Int.ofNat 0)],
            [Sh.i IntKind.i64 (Int.ofNat 1), Sh.i IntKind.i64 (Int.ofNat 2), Sh.i IntKind.i64 (Int.ofNat 1),
              Sh.i IntKind.i64 (Int.ofNat 0), Sh.i IntKind.i64 (Int.ofNat 0), Sh.i IntKind.i64 (Int.ofNat 0),
              Sh.i IntKind.i64 (Int.ofNat 0), Sh.i IntKind.i64 (Int.ofNat 0)],
            [Sh.i IntKind.i64 (Int.ofNat 2), Sh.i IntKind.i64 (Int.ofNat 1), Sh.i IntKind.i64 (Int.ofNat 0),
              Sh.i IntKind.i64 (Int.ofNat 0), Sh.i IntKind.i64 (Int.ofNat 2), Sh.i IntKind.i64 (Int.ofNat 0),
              Sh.i IntKind.i64 (Int.ofNat 0), Sh.i IntKind.i64 (Int.ofNat 0)],
            [Sh.i IntKind.i64 (Int.ofNat 3), Sh.i IntKind.i64 (Int.ofNat 1), Sh.i IntKind.i64 (Int.ofNat 0),
              Sh.i IntKind.i64 (Int.ofNat 0), Sh.i IntKind.i64 (Int.ofNat 0), Sh.i IntKind.i64 (Int.ofNat 0),
              Sh.i IntKind.i64 (Int.ofNat 0), Sh.i IntKind.i64 (Int.ofNat 1)]])
        (nthL
          [[Sh.i IntKind.i64 (Int.ofNat 1), Sh.i IntKind.i64 (Int.ofNat 1), Sh.i IntKind.i64 (Int.ofNat 0),
              Sh.i IntKind.i64 (Int.ofNat 0), Sh.i IntKind.i64 (Int.ofNat 0), Sh.i IntKind.i64 (Int.ofNat 0),
              Sh.i IntKind.i64 (Int.ofNat 0), Sh.i IntKind.i64 (Int.ofNat 0)],
            [Sh.i IntKind.i64 (Int.ofNat 1), Sh.i IntKind.i64 (Int.ofNat 2), Sh.i IntKind.i64 (Int.ofNat 1),
              Sh.i IntKind.i64 (Int.ofNat 0), Sh.i IntKind.i64 (Int.ofNat 0), Sh.i IntKind.i64 (Int.ofNat 0),
              Sh.i IntKind.i64 (Int.ofNat 0), Sh.i IntKind.i64 (Int.ofNat 0)],
            [Sh.i IntKind.i64 (Int.ofNat 2), Sh.i IntKind.i64 (Int.ofNat 1), Sh.i IntKind.i64 (Int.ofNat 0),
              Sh.i IntKind.i64 (Int.ofNat 0), Sh.i IntKind.i64 (Int.ofNat 2), Sh.i IntKind.i64 (Int.ofNat 0),
              Sh.i IntKind.i64 (Int.ofNat 0), Sh.i IntKind.i64 (Int.ofNat 0)],
            [Sh.i IntKind.i64 (Int.ofNat 3), Sh.i IntKind.i64 (Int.ofNat 1), Sh.i IntKind.i64 (Int.ofNat 0),
              Sh.i IntKind.i64 (Int.ofNat 0), Sh.i IntKind.i64 (Int.ofNat 0), Sh.i IntKind.i64 (Int.ofNat 0),
              Sh.i IntKind.i64 (Int.ofNat 0), Sh.i IntKind.i64 (Int.ofNat 1)]]),
      Eqn.sh
        (Sh.sl 8 2
          (nthL
            [[Sh.i IntKind.i64 (Int.ofNat 1), Sh.i IntKind.i64 (Int.ofNat 1), Sh.i IntKind.i64 (Int.ofNat 0),
                Sh.i IntKind.i64 (Int.ofNat 0), Sh.i IntKind.i64 (Int.ofNat 0), Sh.i IntKind.i64 (Int.ofNat 0),
                Sh.i IntKind.i64 (Int.ofNat 0), Sh.i IntKind.i64 (Int.ofNat 0)],
              [Sh.i IntKind.i64 (Int.ofNat 1), Sh.i IntKind.i64 (Int.ofNat 2), Sh.i IntKind.i64 (Int.ofNat 1),
                Sh.i IntKind.i64 (Int.ofNat 0), Sh.i IntKind.i64 (Int.ofNat 0), Sh.i IntKind.i64 (Int.ofNat 0),
                Sh.i IntKind.i64 (Int.ofNat 0), Sh.i IntKind.i64 (Int.ofNat 0)],
              [Sh.i IntKind.i64 (Int.ofNat 2), Sh.i IntKind.i64 (Int.ofNat 1), Sh.i IntKind.i64 (Int.ofNat 0),
                Sh.i IntKind.i64 (Int.ofNat 0), Sh.i IntKind.i64 (Int.ofNat 2), Sh.i IntKind.i64 (Int.ofNat 0),
                Sh.i IntKind.i64 (Int.ofNat 0), Sh.i IntKind.i64 (Int.ofNat 0)],
              [Sh.i IntKind.i64 (Int.ofNat 3), Sh.i IntKind.i64 (Int.ofNat 1), Sh.i IntKind.i64 (Int.ofNat 0),
                Sh.i IntKind.i64 (Int.ofNat 0), Sh.i IntKind.i64 (Int.ofNat 0), Sh.i IntKind.i64 (Int.ofNat 0),
                Sh.i IntKind.i64 (Int.ofNat 0), Sh.i IntKind.i64 (Int.ofNat 1)]]))
        (Sh.sl 8 2
          (nthL
            [[Sh.i IntKind.i64 (Int.ofNat 1), Sh.i IntKind.i64 (Int.ofNat 1), Sh.i IntKind.i64 (Int.ofNat 0),
                Sh.i IntKind.i64 (Int.ofNat 0), Sh.i IntKind.i64 (Int.ofNat 0), Sh.i IntKind.i64 (Int.ofNat 0),
                Sh.i IntKind.i64 (Int.ofNat 0), Sh.i IntKind.i64 (Int.ofNat 0)],
              [Sh.i IntKind.i64 (Int.ofNat 1), Sh.i IntKind.i64 (Int.ofNat 2), Sh.i IntKind.i64 (Int.ofNat 1),
                Sh.i IntKind.i64 (Int.ofNat 0), Sh.i IntKind.i64 (Int.ofNat 0), Sh.i IntKind.i64 (Int.ofNat 0),
                Sh.i IntKind.i64 (Int.ofNat 0), Sh.i IntKind.i64 (Int.ofNat 0)],
              [Sh.i IntKind.i64 (Int.ofNat 2), Sh.i IntKind.i64 (Int.ofNat 1), Sh.i IntKind.i64 (Int.ofNat 0),
                Sh.i IntKind.i64 (Int.ofNat 0), Sh.i IntKind.i64 (Int.ofNat 2), Sh.i IntKind.i64 (Int.ofNat 0),
                Sh.i IntKind.i64 (Int.ofNat 0), Sh.i IntKind.i64 (Int.ofNat 0)],
              [Sh.i IntKind.i64 (Int.ofNat 3), Sh.i IntKind.i64 (Int.ofNat 1), Sh.i IntKind.i64 (Int.ofNat 0),
                Sh.i IntKind.i64 (Int.ofNat 0), Sh.i IntKind.i64 (Int.ofNat 0), Sh.i IntKind.i64 (Int.ofNat 0),
                Sh.i IntKind.i64 (Int.ofNat 0), Sh.i IntKind.i64 (Int.ofNat 1)]])),
      Eqn.sh
        (Sh.sl 8 2
          (nthL
            [[Sh.i IntKind.i64 (Int.ofNat 1), Sh.i IntKind.i64 (Int.ofNat 1), Sh.i IntKind.i64 (Int.ofNat 0),
                Sh.i IntKind.i64 (Int.ofNat 0), Sh.i IntKind.i64 (Int.ofNat 0), Sh.i IntKind.i64 (Int.ofNat 0),
                Sh.i IntKind.i64 (Int.ofNat 0), Sh.i IntKind.i64 (Int.ofNat 0)],
              [Sh.i IntKind.i64 (Int.ofNat 1), Sh.i IntKind.i64 (Int.ofNat 2), Sh.i IntKind.i64 (Int.ofNat 1),
                Sh.i IntKind.i64 (Int.ofNat 0), Sh.i IntKind.i64 (Int.ofNat 0), Sh.i IntKind.i64 (Int.ofNat 0),
                Sh.i IntKind.i64 (Int.ofNat 0), Sh.i IntKind.i64 (Int.ofNat 0)],
              [Sh.i IntKind.i64 (Int.ofNat 2), Sh.i IntKind.i64 (Int.ofNat 1), Sh.i IntKind.i64 (Int.ofNat 0),
                Sh.i IntKind.i64 (Int.ofNat 0), Sh.i IntKind.i64 (Int.ofNat 2), Sh.i IntKind.i64 (Int.ofNat 0),
                Sh.i IntKind.i64 (Int.ofNat 0), Sh.i IntKind.i64 (Int.ofNat 0)],
              [Sh.i IntKind.i64 (Int.ofNat 3), Sh.i IntKind.i64 (Int.ofNat 1), Sh.i IntKind.i64 (Int.ofNat 0),
                Sh.i IntKind.i64 (Int.ofNat 0), Sh.i IntKind.i64 (Int.ofNat 0), Sh.i IntKind.i64 (Int.ofNat 0),
                Sh.i IntKind.i64 (Int.ofNat 0), Sh.i IntKind.i64 (Int.ofNat 1)]]))
        (Sh.sl 8 2
          (nthL
            [[Sh.i IntKind.i64 (Int.ofNat 1), Sh.i IntKind.i64 (Int.ofNat 1), Sh.i IntKind.i64 (Int.ofNat 0),
                Sh.i IntKind.i64 (Int.ofNat 0), Sh.i IntKind.i64 (Int.ofNat 0), Sh.i IntKind.i64 (Int.ofNat 0),
                Sh.i IntKind.i64 (Int.ofNat 0), Sh.i IntKind.i64 (Int.ofNat 0)],
              [Sh.i IntKind.i64 (Int.ofNat 1), Sh.i IntKind.i64 (Int.ofNat 2), Sh.i IntKind.i64 (Int.ofNat 1),
                Sh.i IntKind.i64 (Int.ofNat 0), Sh.i IntKind.i64 (Int.ofNat 0), Sh.i IntKind.i64 (Int.ofNat 0),
                Sh.i IntKind.i64 (Int.ofNat 0), Sh.i IntKind.i64 (Int.ofNat 0)],
              [Sh.i IntKind.i64 (Int.ofNat 2), Sh.i IntKind.i64 (Int.ofNat 1), Sh.i IntKind.i64 (Int.ofNat 0),
                Sh.i IntKind.i64 (Int.ofNat 0), Sh.i IntKind.i64 (Int.ofNat 2), Sh.i IntKind.i64 (Int.ofNat 0),
                Sh.i IntKind.i64 (Int.ofNat 0), Sh.i IntKind.i64 (Int.ofNat 0)],
              [Sh.i IntKind.i64 (Int.ofNat 3), Sh.i IntKind.i64 (Int.ofNat 1), Sh.i IntKind.i64 (Int.ofNat 0),
                Sh.i IntKind.i64 (Int.ofNat 0), Sh.i IntKind.i64 (Int.ofNat 0), Sh.i IntKind.i64 (Int.ofNat 0),
                Sh.i IntKind.i64 (Int.ofNat 0), Sh.i IntKind.i64 (Int.ofNat 1)]])),
      Eqn.nat 2 2,
      Eqn.fun_
        (prim.snoc (nthL []) 0
          (nthL
            [[Sh.i IntKind.i64 (Int.ofNat 1), Sh.i IntKind.i64 (Int.ofNat 1), Sh.i IntKind.i64 (Int.ofNat 0),
                Sh.i IntKind.i64 (Int.ofNat 0), Sh.i IntKind.i64 (Int.ofNat 0), Sh.i IntKind.i64 (Int.ofNat 0),
                Sh.i IntKind.i64 (Int.ofNat 0), Sh.i IntKind.i64 (Int.ofNat 0)],
              [Sh.i IntKind.i64 (Int.ofNat 1), Sh.i IntKind.i64 (Int.ofNat 2), Sh.i IntKind.i64 (Int.ofNat 1),
                Sh.i IntKind.i64 (Int.ofNat 0), Sh.i IntKind.i64 (Int.ofNat 0), Sh.i IntKind.i64 (Int.ofNat 0),
                Sh.i IntKind.i64 (Int.ofNat 0), Sh.i IntKind.i64 (Int.ofNat 0)],
              [Sh.i IntKind.i64 (Int.ofNat 2), Sh.i IntKind.i64 (Int.ofNat 1), Sh.i IntKind.i64 (Int.ofNat 0),
                Sh.i IntKind.i64 (Int.ofNat 0), Sh.i IntKind.i64 (Int.ofNat 2), Sh.i IntKind.i64 (Int.ofNat 0),
                Sh.i IntKind.i64 (Int.ofNat 0), Sh.i IntKind.i64 (Int.ofNat 0)],
              [Sh.i IntKind.i64 (Int.ofNat 3), Sh.i IntKind.i64 (Int.ofNat 1), Sh.i IntKind.i64 (Int.ofNat 0),
                Sh.i IntKind.i64 (Int.ofNat 0), Sh.i IntKind.i64 (Int.ofNat 0), Sh.i IntKind.i64 (Int.ofNat 0),
                Sh.i IntKind.i64 (Int.ofNat 0), Sh.i IntKind.i64 (Int.ofNat 1)]]))
        (prim.snoc (nthL []) 0
          (nthL
            [[Sh.i IntKind.i64 (Int.ofNat 1), Sh.i IntKind.i64 (Int.ofNat 1), Sh.i IntKind.i64 (Int.ofNat 0),
                Sh.i IntKind.i64 (Int.ofNat 0), Sh.i IntKind.i64 (Int.ofNat 0), Sh.i IntKind.i64 (Int.ofNat 0),
                Sh.i IntKind.i64 (Int.ofNat 0), Sh.i IntKind.i64 (Int.ofNat 0)],
              [Sh.i IntKind.i64 (Int.ofNat 1), Sh.i IntKind.i64 (Int.ofNat 2), Sh.i IntKind.i64 (Int.ofNat 1),
                Sh.i IntKind.i64 (Int.ofNat 0), Sh.i IntKind.i64 (Int.ofNat 0), Sh.i IntKind.i64 (Int.ofNat 0),
                Sh.i IntKind.i64 (Int.ofNat 0), Sh.i IntKind.i64 (Int.ofNat 0)],
              [Sh.i IntKind.i64 (Int.ofNat 2), Sh.i IntKind.i64 (Int.ofNat 1), Sh.i IntKind.i64 (Int.ofNat 0),
                Sh.i IntKind.i64 (Int.ofNat 0), Sh.i IntKind.i64 (Int.ofNat 2), Sh.i IntKind.i64 (Int.ofNat 0),
                Sh.i IntKind.i64 (Int.ofNat 0), Sh.i IntKind.i64 (Int.ofNat 0)],
              [Sh.i IntKind.i64 (Int.ofNat 3), Sh.i IntKind.i64 (Int.ofNat 1), Sh.i IntKind.i64 (Int.ofNat 0),
                Sh.i IntKind.i64 (Int.ofNat 0), Sh.i IntKind.i64 (Int.ofNat 0), Sh.i IntKind.i64 (Int.ofNat 0),
                Sh.i IntKind.i64 (Int.ofNat 0), Sh.i IntKind.i64 (Int.ofNat 1)]])),
      Eqn.nat 2 2, Eqn.fun_ (nthL txs0) (nthL txs0),
      Eqn.sh
        (Sh.sl 8 1
          (nthL
            [[Sh.i IntKind.i64 (Int.ofNat 0), Sh.i IntKind.i64 (Int.ofNat 2), Sh.i IntKind.i64 (Int.ofNat 0),
                Sh.i IntKind.i64 (Int.ofNat 0), Sh.i IntKind.i64 (Int.ofNat 1), Sh.i IntKind.i64 (Int.ofNat 0),
                Sh.i IntKind.i64 (Int.ofNat 2), Sh.i IntKind.i64 (Int.ofNat 3)]]))
        (Sh.sl 8 1
          (nthL
            [[Sh.i IntKind.i64 (Int.ofNat 0), Sh.i IntKind.i64 (Int.ofNat 2), Sh.i IntKind.i64 (Int.ofNat 0),
                Sh.i IntKind.i64 (Int.ofNat 0), Sh.i IntKind.i64 (Int.ofNat 1), Sh.i IntKind.i64 (Int.ofNat 0),
                Sh.i IntKind.i64 (Int.ofNat 2), Sh.i IntKind.i64 (Int.ofNat 3)]])),
      Eqn.nat 2 2,
      Eqn.fun_
        (prim.snoc (nthL []) 0
          (nthL
            [[Sh.i IntKind.i64 (Int.ofNat 1), Sh.i IntKind.i64 (Int.ofNat 0)],
              [Sh.i IntKind.i64 (Int.ofNat 3), Sh.i IntKind.i64 (Int.ofNat 0)]]))
        (prim.snoc (nthL []) 0
          (nthL
            [[Sh.i IntKind.i64 (Int.ofNat 1), Sh.i IntKind.i64 (Int.ofNat 0)],
              [Sh.i IntKind.i64 (Int.ofNat 3), Sh.i IntKind.i64 (Int.ofNat 0)]])),
      Eqn.nat 4 4,
      Eqn.fun_
        (nthL
          [[Sh.i IntKind.i64 (Int.ofNat 1), Sh.i IntKind.i64 (Int.ofNat 1), Sh.i IntKind.i64 (Int.ofNat 0),
              Sh.i IntKind.i64 (Int.ofNat 0), Sh.i IntKind.i64 (Int.ofNat 0), Sh.i IntKind.i64 (Int.ofNat 0),
              Sh.i IntKind.i64 (Int.ofNat 0), Sh.i IntKind.i64 (Int.ofNat 0)],
            [Sh.i IntKind.i64 (Int.ofNat 1), Sh.i IntKind.i64 (Int.ofNat 2), Sh.i IntKind.i64 (Int.ofNat 1),
              Sh.i IntKind.i64 (Int.ofNat 0), Sh.i IntKind.i64 (Int.ofNat 0), Sh.i IntKind.i64 (Int.ofNat 0),
              Sh.i IntKind.i64 (Int.ofNat 0), Sh.i IntKind.i64 (Int.ofNat 0)],
            [Sh.i IntKind.i64 (Int.ofNat 2), Sh.i IntKind.i64 (Int.ofNat 1), Sh.i IntKind.i64 (Int.ofNat 0),
              Sh.i IntKind.i64 (Int.ofNat 0), Sh.i IntKind.i64 (Int.ofNat 2), Sh.i IntKind.i64 (Int.ofNat 0),
              Sh.i IntKind.i64 (Int.ofNat 0), Sh.i IntKind.i64 (Int.ofNat 0)],
            [Sh.i IntKind.i64 (Int.ofNat 3), Sh.i IntKind.i64 (Int.ofNat 1), Sh.i IntKind.i64 (Int.ofNat 0),
              Sh.i IntKind.i64 (Int.ofNat 0), Sh.i IntKind.i64 (Int.ofNat 0), Sh.i IntKind.i64 (Int.ofNat 0),
              Sh.i IntKind.i64 (Int.ofNat 0), Sh.i IntKind.i64 (Int.ofNat 1)]])
        (nthL
          [[Sh.i IntKind.i64 (Int.ofNat 1), Sh.i IntKind.i64 (Int.ofNat 1), Sh.i IntKind.i64 (Int.ofNat 0),
              Sh.i IntKind.i64 (Int.ofNat 0), Sh.i IntKind.i64 (Int.ofNat 0), Sh.i IntKind.i64 (Int.ofNat 0),
              Sh.i IntKind.i64 (Int.ofNat 0), Sh.i IntKind.i64 (Int.ofNat 0)],
            [Sh.i IntKind.i64 (Int.ofNat 1), Sh.i IntKind.i64 (Int.ofNat 2), Sh.i IntKind.i64 (Int.ofNat 1),
              Sh.i IntKind.i64 (Int.ofNat 0), Sh.i IntKind.i64 (Int.ofNat 0), Sh.i IntKind.i64 (Int.ofNat 0),
              Sh.i IntKind.i64 (Int.ofNat 0), Sh.i IntKind.i64 (Int.ofNat 0)],
            [Sh.i IntKind.i64 (Int.ofNat 2), Sh.i IntKind.i64 (Int.ofNat 1), Sh.i IntKind.i64 (Int.ofNat 0),
              Sh.i IntKind.i64 (Int.ofNat 0), Sh.i IntKind.i64 (Int.ofNat 2), Sh.i IntKind.i64 (Int.ofNat 0),
              Sh.i IntKind.i64 (Int.ofNat 0), Sh.i IntKind.i64 (Int.ofNat 0)],
            [Sh.i IntKind.i64 (Int.ofNat 3), Sh.i IntKind.i64 (Int.ofNat 1), Sh.i IntKind.i64 (Int.ofNat 0),
              Sh.i IntKind.i64 (Int.ofNat 0), Sh.i IntKind.i64 (Int.ofNat 0), Sh.i IntKind.i64 (Int.ofNat 0),
              Sh.i IntKind.i64 (Int.ofNat 0), Sh.i IntKind.i64 (Int.ofNat 1)]]),
      Eqn.sh
        (Sh.sl 8 2
          (nthL
            [[Sh.i IntKind.i64 (Int.ofNat 1), Sh.i IntKind.i64 (Int.ofNat 1), Sh.i IntKind.i64 (Int.ofNat 0),
                Sh.i IntKind.i64 (Int.ofNat 0), Sh.i IntKind.i64 (Int.ofNat 0), Sh.i IntKind.i64 (Int.ofNat 0),
                Sh.i IntKind.i64 (Int.ofNat 0), Sh.i IntKind.i64 (Int.ofNat 0)],
              [Sh.i IntKind.i64 (Int.ofNat 1), Sh.i IntKind.i64 (Int.ofNat 2), Sh.i IntKind.i64 (Int.ofNat 1),
                Sh.i IntKind.i64 (Int.ofNat 0), Sh.i IntKind.i64 (Int.ofNat 0), Sh.i IntKind.i64 (Int.ofNat 0),
                Sh.i IntKind.i64 (Int.ofNat 0), Sh.i IntKind.i64 (Int.ofNat 0)],
              [Sh.i IntKind.i64 (Int.ofNat 2), Sh.i IntKind.i64 (Int.ofNat 1), Sh.i IntKind.i64 (Int.ofNat 0),
                Sh.i IntKind.i64 (Int.ofNat 0), Sh.i IntKind.i64 (Int.ofNat 2), Sh.i IntKind.i64 (Int.ofNat 0),
                Sh.i IntKind.i64 (Int.ofNat 0), Sh.i IntKind.i64 (Int.ofNat 0)],
              [Sh.i IntKind.i64 (Int.ofNat 3), Sh.i IntKind.i64 (Int.ofNat 1), Sh.i IntKind.i64 (Int.ofNat 0),
                Sh.i IntKind.i64 (Int.ofNat 0), Sh.i IntKind.i64 (Int.ofNat 0), Sh.i IntKind.i64 (Int.ofNat 0),
                Sh.i IntKind.i64 (Int.ofNat 0), Sh.i IntKind.i64 (Int.ofNat 1)]]))
        (Sh.sl 8 2
          (nthL
            [[Sh.i IntKind.i64 (Int.ofNat 1), Sh.i IntKind.i64 (Int.ofNat 1), Sh.i IntKind.i64 (Int.ofNat 0),
                Sh.i IntKind.i64 (Int.ofNat 0), Sh.i IntKind.i64 (Int.ofNat 0), Sh.i IntKind.i64 (Int.ofNat 0),
                Sh.i IntKind.i64 (Int.ofNat 0), Sh.i IntKind.i64 (Int.ofNat 0)],
              [Sh.i IntKind.i64 (Int.ofNat 1), Sh.i IntKind.i64 (Int.ofNat 2), Sh.i IntKind.i64 (Int.ofNat 1),
                Sh.i IntKind.i64 (Int.ofNat 0), Sh.i IntKind.i64 (Int.ofNat 0), Sh.i IntKind.i64 (Int.ofNat 0),
                Sh.i IntKind.i64 (Int.ofNat 0), Sh.i IntKind.i64 (Int.ofNat 0)],
              [Sh.i IntKind.i64 (Int.ofNat 2), Sh.i IntKind.i64 (Int.ofNat 1), Sh.i IntKind.i64 (Int.ofNat 0),
                Sh.i IntKind.i64 (Int.ofNat 0), Sh.i IntKind.i64 (Int.ofNat 2), Sh.i IntKind.i64 (Int.ofNat 0),
                Sh.i IntKind.i64 (Int.ofNat 0), Sh.i IntKind.i64 (Int.ofNat 0)],
              [Sh.i IntKind.i64 (Int.ofNat 3), Sh.i IntKind.i64 (Int.ofNat 1), Sh.i IntKind.i64 (Int.ofNat 0),
                Sh.i IntKind.i64 (Int.ofNat 0), Sh.i IntKind.i64 (Int.ofNat 0), Sh.i IntKind.i64 (Int.ofNat 0),
                Sh.i IntKind.i64 (Int.ofNat 0), Sh.i IntKind.i64 (Int.ofNat 1)]])),
      Eqn.sh
        (Sh.sl 8 2
          (nthL
            [[Sh.i IntKind.i64 (Int.ofNat 1), Sh.i IntKind.i64 (Int.ofNat 1), Sh.i IntKind.i64 (Int.ofNat 0),
                Sh.i IntKind.i64 (Int.ofNat 0), Sh.i IntKind.i64 (Int.ofNat 0), Sh.i IntKind.i64 (Int.ofNat 0),
                Sh.i IntKind.i64 (Int.ofNat 0), Sh.i IntKind.i64 (Int.ofNat 0)],
              [Sh.i IntKind.i64 (Int.ofNat 1), Sh.i IntKind.i64 (Int.ofNat 2), Sh.i IntKind.i64 (Int.ofNat 1),
                Sh.i IntKind.i64 (Int.ofNat 0), Sh.i IntKind.i64 (Int.ofNat 0), Sh.i IntKind.i64 (Int.ofNat 0),
                Sh.i IntKind.i64 (Int.ofNat 0), Sh.i IntKind.i64 (Int.ofNat 0)],
              [Sh.i IntKind.i64 (Int.ofNat 2), Sh.i IntKind.i64 (Int.ofNat 1), Sh.i IntKind.i64 (Int.ofNat 0),
                Sh.i IntKind.i64 (Int.ofNat 0), Sh.i IntKind.i64 (Int.ofNat 2), Sh.i IntKind.i64 (Int.ofNat 0),
                Sh.i IntKind.i64 (Int.ofNat 0), Sh.i IntKind.i64 (Int.ofNat 0)],
              [Sh.i IntKind.i64 (Int.ofNat 3), Sh.i IntKind.i64 (Int.ofNat 1), Sh.i IntKind.i64 (Int.ofNat 0),
                Sh.i IntKind.i64 (Int.ofNat 0), Sh.i IntKind.i64 (Int.ofNat 0), Sh.i IntKind.i64 (Int.ofNat 0),
                Sh.i IntKind.i64 (Int.ofNat 0), Sh.i IntKind.i64 (Int.ofNat 1)]]))
        (Sh.sl 8 2
          (nthL
            [[Sh.i IntKind.i64 (Int.ofNat 1), Sh.i IntKind.i64 (Int.ofNat 1), Sh.i IntKind.i64 (Int.ofNat 0),
                Sh.i IntKind.i64 (Int.ofNat 0), Sh.i IntKind.i64 (Int.ofNat 0), Sh.i IntKind.i64 (Int.ofNat 0),
                Sh.i IntKind.i64 (Int.ofNat 0), Sh.i IntKind.i64 (Int.ofNat 0)],
              [Sh.i IntKind.i64 (Int.ofNat 1), Sh.i IntKind.i64 (Int.ofNat 2), Sh.i IntKind.i64 (Int.ofNat 1),
                Sh.i IntKind.i64 (Int.ofNat 0), Sh.i IntKind.i64 (Int.ofNat 0), Sh.i IntKind.i64 (Int.ofNat 0),
                Sh.i IntKind.i64 (Int.ofNat 0), Sh.i IntKind.i64 (Int.ofNat 0)],
              [Sh.i IntKind.i64 (Int.ofNat 2), Sh.i IntKind.i64 (Int.ofNat 1), Sh.i IntKind.i64 (Int.ofNat 0),
                Sh.i IntKind.i64 (Int.ofNat 0), Sh.i IntKind.i64 (Int.ofNat 2), Sh.i IntKind.i64 (Int.ofNat 0),
                Sh.i IntKind.i64 (Int.ofNat 0), Sh.i IntKind.i64 (Int.ofNat 0)],
              [Sh.i IntKind.i64 (Int.ofNat 3), Sh.i IntKind.i64 (Int.ofNat 1), Sh.i IntKind.i64 (Int.ofNat 0),
                Sh.i IntKind.i64 (Int.ofNat 0), Sh.i IntKind.i64 (Int.ofNat 0), Sh.i IntKind.i64 (Int.ofNat 0),
                Sh.i IntKind.i64 (Int.ofNat 0), Sh.i IntKind.i64 (Int.ofNat 1)]])),
      Eqn.nat 2 2,
      Eqn.fun_
        (prim.snoc (nthL []) 0
          (nthL
            [[Sh.i IntKind.i64 (Int.ofNat 1), Sh.i IntKind.i64 (Int.ofNat 1), Sh.i IntKind.i64 (Int.ofNat 0),
                Sh.i IntKind.i64 (Int.ofNat 0), Sh.i IntKind.i64 (Int.ofNat 0), Sh.i IntKind.i64 (Int.ofNat 0),
                Sh.i IntKind.i64 (Int.ofNat 0), Sh.i IntKind.i64 (Int.ofNat 0)],
              [Sh.i IntKind.i64 (Int.ofNat 1), Sh.i IntKind.i64 (Int.ofNat 2), Sh.i IntKind.i64 (Int.ofNat 1),
                Sh.i IntKind.i64 (Int.ofNat 0), Sh.i IntKind.i64 (Int.ofNat 0), Sh.i IntKind.i64 (Int.ofNat 0),
                Sh.i IntKind.i64 (Int.ofNat 0), Sh.i IntKind.i64 (Int.ofNat 0)],
              [Sh.i IntKind.i64 (Int.ofNat 2), Sh.i IntKind.i64 (Int.ofNat 1), Sh.i IntKind.i64 (Int.ofNat 0),
                Sh.i IntKind.i64 (Int.ofNat 0), Sh.i IntKind.i64 (Int.ofNat 2), Sh.i IntKind.i64 (Int.ofNat 0),
                Sh.i IntKind.i64 (Int.ofNat 0), Sh.i IntKind.i64 (Int.ofNat 0)],
              [Sh.i IntKind.i64 (Int.ofNat 3), Sh.i IntKind.i64 (Int.ofNat 1), Sh.i IntKind.i64 (Int.ofNat 0),
                Sh.i IntKind.i64 (Int.ofNat 0), Sh.i IntKind.i64 (Int.ofNat 0), Sh.i IntKind.i64 (Int.ofNat 0),
                Sh.i IntKind.i64 (Int.ofNat 0), Sh.i IntKind.i64 (Int.ofNat 1)]]))
        (prim.snoc (nthL []) 0
          (nthL
            [[Sh.i IntKind.i64 (Int.ofNat 1), Sh.i IntKind.i64 (Int.ofNat 1), Sh.i IntKind.i64 (Int.ofNat 0),
                Sh.i IntKind.i64 (Int.ofNat 0), Sh.i IntKind.i64 (Int.ofNat 0), Sh.i IntKind.i64 (Int.ofNat 0),
                Sh.i IntKind.i64 (Int.ofNat 0), Sh.i IntKind.i64 (Int.ofNat 0)],
              [Sh.i IntKind.i64 (Int.ofNat 1), Sh.i IntKind.i64 (Int.ofNat 2), Sh.i IntKind.i64 (Int.ofNat 1),
                Sh.i IntKind.i64 (Int.ofNat 0), Sh.i IntKind.i64 (Int.ofNat 0), Sh.i IntKind.i64 (Int.ofNat 0),
                Sh.i IntKind.i64 (Int.ofNat 0), Sh.i IntKind.i64 (Int.ofNat 0)],
              [Sh.i IntKind.i64 (Int.ofNat 2), Sh.i IntKind.i64 (Int.ofNat 1), Sh.i IntKind.i64 (Int.ofNat 0),
                Sh.i IntKind.i64 (Int.ofNat 0), Sh.i IntKind.i64 (Int.ofNat 2), Sh.i IntKind.i64 (Int.ofNat 0),
                Sh.i IntKind.i64 (Int.ofNat 0), Sh.i IntKind.i64 (Int.ofNat 0)],
              [Sh.i IntKind.i64 (Int.ofNat 3), Sh.i IntKind.i64 (Int.ofNat 1), Sh.i IntKind.i64 (Int.ofNat 0),
                Sh.i IntKind.i64 (Int.ofNat 0), Sh.i IntKind.i64 (Int.ofNat 0), Sh.i IntKind.i64 (Int.ofNat 0),
                Sh.i IntKind.i64 (Int.ofNat 0), Sh.i IntKind.i64 (Int.ofNat 1)]])),
      Eqn.nat 4 4,
      Eqn.fun_
        (nthL
          [[Sh.i IntKind.i64 (Int.ofNat 1), Sh.i IntKind.i64 (Int.ofNat 1), Sh.i IntKind.i64 (Int.ofNat 0),
              Sh.i IntKind.i64 (Int.ofNat 0), Sh.i IntKind.i64 (Int.ofNat 0), Sh.i IntKind.i64 (Int.ofNat 0),
              Sh.i IntKind.i64 (Int.ofNat 0), Sh.i IntKind.i64 (Int.ofNat 0)],
            [Sh.i IntKind.i64 (Int.ofNat 1), Sh.i IntKind.i64 (Int.ofNat 2), Sh.i IntKind.i64 (Int.ofNat 1),
              Sh.i IntKind.i64 (Int.ofNat 0), Sh.i IntKind.i64 (Int.ofNat 0), Sh.i IntKind.i64 (Int.ofNat 0),
              Sh.i IntKind.i64 (Int.ofNat 0), Sh.i IntKind.i64 (Int.ofNat 0)],
            [Sh.i IntKind.i64 (Int.ofNat 2), Sh.i IntKind.i64 (Int.ofNat 1), Sh.i IntKind.i64 (Int.ofNat 0),
              Sh.i IntKind.i64 (Int.ofNat 0), Sh.i IntKind.i64 (Int.ofNat 2), Sh.i IntKind.i64 (Int.ofNat 0),
              Sh.i IntKind.i64 (Int.ofNat 0), Sh.i IntKind.i64 (Int.ofNat 0)],
            [Sh.i IntKind.i64 (Int.ofNat 3), Sh.i IntKind.i64 (Int.ofNat 1), Sh.i IntKind.i64 (Int.ofNat 0),
              Sh.i IntKind.i64 (Int.ofNat 0), Sh.i IntKind.i64 (Int.ofNat 0), Sh.i IntKind.i64 (Int.ofNat 0),
              Sh.i IntKind.i64 (Int.ofNat 0), Sh.i IntKind.i64 (Int.ofNat 1)]])
        (nthL
          [[Sh.i IntKind.i64 (Int.ofNat 1), Sh.i IntKind.i64 (Int.ofNat 1), Sh.i IntKind.i64 (Int.ofNat 0),
              Sh.i IntKind.i64 (Int.ofNat 0), Sh.i IntKind.i64 (Int.ofNat 0), Sh.i IntKind.i64 (Int.ofNat 0),
              Sh.i IntKind.i64 (Int.ofNat 0), Sh.i IntKind.i64 (Int.ofNat 0)],
            [Sh.i IntKind.i64 (Int.ofNat 1), Sh.i IntKind.i64 (Int.ofNat 2), Sh.i IntKind.i64 (Int.ofNat 1),
              Sh.i IntKind.i64 (Int.ofNat 0), Sh.i IntKind.i64 (Int.ofNat 0), Sh.i IntKind.i64 (Int.ofNat 0),
              Sh.i IntKind.i64 (Int.ofNat 0), Sh.i IntKind.i64 (Int.ofNat 0)],
            [Sh.i IntKind.i64 (Int.ofNat 2), Sh.i IntKind.i64 (Int.ofNat 1), Sh.i IntKind.i64 (Int.ofNat 0),
              Sh.i IntKind.i64 (Int.ofNat 0), Sh.i IntKind.i64 (Int.ofNat 2), Sh.i IntKind.i64 (Int.ofNat 0),
              Sh.i IntKind.i64 (Int.ofNat 0), Sh.i IntKind.i64 (Int.ofNat 0)],
            [Sh.i IntKind.i64 (Int.ofNat 3), Sh.i IntKind.i64 (Int.ofNat 1), Sh.i IntKind.i64 (Int.ofNat 0),
              Sh.i IntKind.i64 (Int.ofNat 0), Sh.i IntKind.i64 (Int.ofNat 0), Sh.i IntKind.i64 (Int.ofNat 0),
              Sh.i IntKind.i64 (Int.ofNat 0), Sh.i IntKind.i64 (Int.ofNat 1)]]),
      Eqn.sh
        (Sh.sl 8 2
          (nthL
            [[Sh.i IntKind.i64 (Int.ofNat 1), Sh.i IntKind.i64 (Int.ofNat 1), Sh.i IntKind.i64 (Int.ofNat 0),
                Sh.i IntKind.i64 (Int.ofNat 0), Sh.i IntKind.i64 (Int.ofNat 0), Sh.i IntKind.i64 (Int.ofNat 0),
                Sh.i IntKind.i64 (Int.ofNat 0), Sh.i IntKind.i64 (Int.ofNat 0)],
              [Sh.i IntKind.i64 (Int.ofNat 1), Sh.i IntKind.i64 (Int.ofNat 2), Sh.i IntKind.i64 (Int.ofNat 1),
                Sh.i IntKind.i64 (Int.ofNat 0), Sh.i IntKind.i64 (Int.ofNat 0), Sh.i IntKind.i64 (Int.ofNat 0),
                Sh.i IntKind.i64 (Int.ofNat 0), Sh.i IntKind.i64 (Int.ofNat 0)],
              [Sh.i IntKind.i64 (Int.ofNat 2), Sh.i IntKind.i64 (Int.ofNat 1), Sh.i IntKind.i64 (Int.ofNat 0),
                Sh.i IntKind.i64 (Int.ofNat 0), Sh.i IntKind.i64 (Int.ofNat 2), Sh.i IntKind.i64 (Int.ofNat 0),
                Sh.i IntKind.i64 (Int.ofNat 0), Sh.i IntKind.i64 (Int.ofNat 0)],
              [Sh.i IntKind.i64 (Int.ofNat 3), Sh.i IntKind.i64 (Int.ofNat 1), Sh.i IntKind.i64 (Int.ofNat 0),
                Sh.i IntKind.i64 (Int.ofNat 0), Sh.i IntKind.i64 (Int.ofNat 0), Sh.i IntKind.i64 (Int.ofNat 0),
                Sh.i IntKind.i64 (Int.ofNat 0), Sh.i IntKind.i64 (Int.ofNat 1)]]))
        (Sh.sl 8 2
          (nthL
            [[Sh.i IntKind.i64 (Int.ofNat 1), Sh.i IntKind.i64 (Int.ofNat 1), Sh.i IntKind.i64 (Int.ofNat 0),
                Sh.i IntKind.i64 (Int.ofNat 0), Sh.i IntKind.i64 (Int.ofNat 0), Sh.i IntKind.i64 (Int.ofNat 0),
                Sh.i IntKind.i64 (Int.ofNat 0), Sh.i IntKind.i64 (Int.ofNat 0)],
              [Sh.i IntKind.i64 (Int.ofNat 1), Sh.i IntKind.i64 (Int.ofNat 2), Sh.i IntKind.i64 (Int.ofNat 1),
                Sh.i IntKind.i64 (Int.ofNat 0), Sh.i IntKind.i64 (Int.ofNat 0), Sh.i IntKind.i64 (Int.ofNat 0),
                Sh.i IntKind.i64 (Int.ofNat 0), Sh.i IntKind.i64 (Int.ofNat 0)],
              [Sh.i IntKind.i64 (Int.ofNat 2), Sh.i IntKind.i64 (Int.ofNat 1), Sh.i IntKind.i64 (Int.ofNat 0),
                Sh.i IntKind.i64 (Int.ofNat 0), Sh.i IntKind.i64 (Int.ofNat 2), Sh.i IntKind.i64 (Int.ofNat 0),
                Sh.i IntKind.i64 (Int.ofNat 0), Sh.i IntKind.i64 (Int.ofNat 0)],
              [Sh.i IntKind.i64 (Int.ofNat 3), Sh.i IntKind.i64 (Int.ofNat 1), Sh.i IntKind.i64 (Int.ofNat 0),
                Sh.i IntKind.i64 (Int.ofNat 0), Sh.i IntKind.i64 (Int.ofNat 0), Sh.i IntKind.i64 (Int.ofNat 0),
                Sh.i IntKind.i64 (Int.ofNat 0), Sh.i IntKind.i64 (Int.ofNat 1)]])),
      Eqn.sh
        (Sh.sl 8 2
          (nthL
            [[Sh.i IntKind.i64 (Int.ofNat 1), Sh.i IntKind.i64 (Int.ofNat 1), Sh.i IntKind.i64 (Int.ofNat 0),
                Sh.i IntKind.i64 (Int.ofNat 0), Sh.i IntKind.i64 (Int.ofNat 0), Sh.i IntKind.i64 (Int.ofNat 0),
                Sh.i IntKind.i64 (Int.ofNat 0), Sh.i IntKind.i64 (Int.ofNat 0)],
              [Sh.i IntKind.i64 (Int.ofNat 1), Sh.i IntKind.i64 (Int.ofNat 2), Sh.i IntKind.i64 (Int.ofNat 1),
                Sh.i IntKind.i64 (Int.ofNat 0), Sh.i IntKind.i64 (Int.ofNat 0), Sh.i IntKind.i64 (Int.ofNat 0),
                Sh.i IntKind.i64 (Int.ofNat 0), Sh.i IntKind.i64 (Int.ofNat 0)],
              [Sh.i IntKind.i64 (Int.ofNat 2), Sh.i IntKind.i64 (Int.ofNat 1), Sh.i IntKind.i64 (Int.ofNat 0),
                Sh.i IntKind.i64 (Int.ofNat 0), Sh.i IntKind.i64 (Int.ofNat 2), Sh.i IntKind.i64 (Int.ofNat 0),
                Sh.i IntKind.i64 (Int.ofNat 0), Sh.i IntKind.i64 (Int.ofNat 0)],
              [Sh.i IntKind.i64 (Int.ofNat 3), Sh.i IntKind.i64 (Int.ofNat 1), Sh.i IntKind.i64 (Int.ofNat 0),
                Sh.i IntKind.i64 (Int.ofNat 0), Sh.i IntKind.i64 (Int.ofNat 0), Sh.i IntKind.i64 (Int.ofNat 0),
                Sh.i IntKind.i64 (Int.ofNat 0), Sh.i IntKind.i64 (Int.ofNat 1)]]))
        (Sh.sl 8 2
          (nthL
            [[Sh.i IntKind.i64 (Int.ofNat 1), Sh.i IntKind.i64 (Int.ofNat 1), Sh.i IntKind.i64 (Int.ofNat 0),
                Sh.i IntKind.i64 (Int.ofNat 0), Sh.i IntKind.i64 (Int.ofNat 0), Sh.i IntKind.i64 (Int.ofNat 0),
                Sh.i IntKind.i64 (Int.ofNat 0), Sh.i IntKind.i64 (Int.ofNat 0)],
              [Sh.i IntKind.i64 (Int.ofNat 1), Sh.i IntKind.i64 (Int.ofNat 2), Sh.i IntKind.i64 (Int.ofNat 1),
                Sh.i IntKind.i64 (Int.ofNat 0), Sh.i IntKind.i64 (Int.ofNat 0), Sh.i IntKind.i64 (Int.ofNat 0),
                Sh.i IntKind.i64 (Int.ofNat 0), Sh.i IntKind.i64 (Int.ofNat 0)],
              [Sh.i IntKind.i64 (Int.ofNat 2), Sh.i IntKind.i64 (Int.ofNat 1), Sh.i IntKind.i64 (Int.ofNat 0),
                Sh.i IntKind.i64 (Int.ofNat 0), Sh.i IntKind.i64 (Int.ofNat 2), Sh.i IntKind.i64 (Int.ofNat 0),
                Sh.i IntKind.i64 (Int.ofNat 0), Sh.i IntKind.i64 (Int.ofNat 0)],
              [Sh.i IntKind.i64 (Int.ofNat 3), Sh.i IntKind.i64 (Int.ofNat 1), Sh.i IntKind.i64 (Int.ofNat 0),
                Sh.i IntKind.i64 (Int.ofNat 0), Sh.i IntKind.i64 (Int.ofNat 0), Sh.i IntKind.i64 (Int.ofNat 0),
                Sh.i IntKind.i64 (Int.ofNat 0), Sh.i IntKind.i64 (Int.ofNat 1)]])),
      Eqn.nat 2 2,
      Eqn.fun_
        (prim.snoc (nthL []) 0
          (nthL
            [[Sh.i IntKind.i64 (Int.ofNat 1), Sh.i IntKind.i64 (Int.ofNat 1), Sh.i IntKind.i64 (Int.ofNat 0),
                Sh.i IntKind.i64 (Int.ofNat 0), Sh.i IntKind.i64 (Int.ofNat 0), Sh.i IntKind.i64 (Int.ofNat 0),
                Sh.i IntKind.i64 (Int.ofNat 0), Sh.i IntKind.i64 (Int.ofNat 0)],
              [Sh.i IntKind.i64 (Int.ofNat 1), Sh.i IntKind.i64 (Int.ofNat 2), Sh.i IntKind.i64 (Int.ofNat 1),
                Sh.i IntKind.i64 (Int.ofNat 0), Sh.i IntKind.i64 (Int.ofNat 0), Sh.i IntKind.i64 (Int.ofNat 0),
                Sh.i IntKind.i64 (Int.ofNat 0), Sh.i IntKind.i64 (Int.ofNat 0)],
              [Sh.i IntKind.i64 (Int.ofNat 2), Sh.i IntKind.i64 (Int.ofNat 1), Sh.i IntKind.i64 (Int.ofNat 0),
                Sh.i IntKind.i64 (Int.ofNat 0), Sh.i IntKind.i64 (Int.ofNat 2), Sh.i IntKind.i64 (Int.ofNat 0),
                Sh.i IntKind.i64 (Int.ofNat 0), Sh.i IntKind.i64 (Int.ofNat 0)],
              [Sh.i IntKind.i64 (Int.ofNat 3), Sh.i IntKind.i64 (Int.ofNat 1), Sh.i IntKind.i64 (Int.ofNat 0),
                Sh.i IntKind.i64 (Int.ofNat 0), Sh.i IntKind.i64 (Int.ofNat 0), Sh.i IntKind.i64 (Int.ofNat 0),
                Sh.i IntKind.i64 (Int.ofNat 0), Sh.i IntKind.i64 (Int.ofNat 1)]]))
        (prim.snoc (nthL []) 0
          (nthL
            [[Sh.i IntKind.i64 (Int.ofNat 1), Sh.i IntKind.i64 (Int.ofNat 1), Sh.i IntKind.i64 (Int.ofNat 0),
                Sh.i IntKind.i64 (Int.ofNat 0), Sh.i IntKind.i64 (Int.ofNat 0), Sh.i IntKind.i64 (Int.ofNat 0),
                Sh.i IntKind.i64 (Int.ofNat 0), Sh.i IntKind.i64 (Int.ofNat 0)],
              [Sh.i IntKind.i64 (Int.ofNat 1), Sh.i IntKind.i64 (Int.ofNat 2), Sh.i IntKind.i64 (Int.ofNat 1),
                Sh.i IntKind.i64 (Int.ofNat 0), Sh.i IntKind.i64 (Int.ofNat 0), Sh.i IntKind.i64 (Int.ofNat 0),
                Sh.i IntKind.i64 (Int.ofNat 0), Sh.i IntKind.i64 (Int.ofNat 0)],
              [Sh.i IntKind.i64 (Int.ofNat 2), Sh.i IntKind.i64 (Int.ofNat 1), Sh.i IntKind.i64 (Int.ofNat 0),
                Sh.i IntKind.i64 (Int.ofNat 0), Sh.i IntKind.i64 (Int.ofNat 2), Sh.i IntKind.i64 (Int.ofNat 0),
                Sh.i IntKind.i64 (Int.ofNat 0), Sh.i IntKind.i64 (Int.ofNat 0)],
              [Sh.i IntKind.i64 (Int.ofNat 3), Sh.i IntKind.i64 (Int.ofNat 1), Sh.i IntKind.i64 (Int.ofNat 0),
                Sh.i IntKind.i64 (Int.ofNat 0), Sh.i IntKind.i64 (Int.ofNat 0), Sh.i IntKind.i64 (Int.ofNat 0),
                Sh.i IntKind.i64 (Int.ofNat 0), Sh.i IntKind.i64 (Int.ofNat 1)]])),
      Eqn.sh
        (Sh.sl 8 2
          (nthL
            [[Sh.i IntKind.i64 (Int.ofNat 1), Sh.i IntKind.i64 (Int.ofNat 1), Sh.i IntKind.i64 (Int.ofNat 0),
                Sh.i IntKind.i64 (Int.ofNat 0), Sh.i IntKind.i64 (Int.ofNat 0), Sh.i IntKind.i64 (Int.ofNat 0),
                Sh.i IntKind.i64 (Int.ofNat 0), Sh.i IntKind.i64 (Int.ofNat 0)],
              [Sh.i IntKind.i64 (Int.ofNat 1), Sh.i IntKind.i64 (Int.ofNat 2), Sh.i IntKind.i64 (Int.ofNat 1),
                Sh.i IntKind.i64 (Int.ofNat 0), Sh.i IntKind.i64 (Int.ofNat 0), Sh.i IntKind.i64 (Int.ofNat 0),
                Sh.i IntKind.i64 (Int.ofNat 0), Sh.i IntKind.i64 (Int.ofNat 0)],
              [Sh.i IntKind.i64 (Int.ofNat 2), Sh.i IntKind.i64 (Int.ofNat 1), Sh.i IntKind.i64 (Int.ofNat 0),
                Sh.i IntKind.i64 (Int.ofNat 0), Sh.i IntKind.i64 (Int.ofNat 2), Sh.i IntKind.i64 (Int.ofNat 0),
                Sh.i IntKind.i64 (Int.ofNat 0), Sh.i IntKind.i64 (Int.ofNat 0)],
              [Sh.i IntKind.i64 (Int.ofNat 3), Sh.i IntKind.i64 (Int.ofNat 1), Sh.i IntKind.i64 (Int.ofNat 0),
                Sh.i IntKind.i64 (Int.ofNat 0), Sh.i IntKind.i64 (Int.ofNat 0), Sh.i IntKind.i64 (Int.ofNat 0),
                Sh.i IntKind.i64 (Int.ofNat 0), Sh.i IntKind.i64 (Int.ofNat 1)]]))
        (Sh.sl 8 2
          (nthL
            [[Sh.i IntKind.i64 (Int.ofNat 1), Sh.i IntKind.i64 (Int.ofNat 1), Sh.i IntKind.i64 (Int.ofNat 0),
                Sh.i IntKind.i64 (Int.ofNat 0), Sh.i IntKind.i64 (Int.ofNat 0), Sh.i IntKind.i64 (Int.ofNat 0),
                Sh.i IntKind.i64 (Int.ofNat 0), Sh.i IntKind.i64 (Int.ofNat 0)],
              [Sh.i IntKind.i64 (Int.ofNat 1), Sh.i IntKind.i64 (Int.ofNat 2), Sh.i IntKind.i64 (Int.ofNat 1),
                Sh.i IntKind.i64 (Int.ofNat 0), Sh.i IntKind.i64 (Int.ofNat 0), Sh.i IntKind.i64 (Int.ofNat 0),
                Sh.i IntKind.i64 (Int.ofNat 0), Sh.i IntKind.i64 (Int.ofNat 0)],
              [Sh.i IntKind.i64 (Int.ofNat 2), Sh.i IntKind.i64 (Int.ofNat 1), Sh.i IntKind.i64 (Int.ofNat 0),
                Sh.i IntKind.i64 (Int.ofNat 0), Sh.i IntKind.i64 (Int.ofNat 2), Sh.i IntKind.i64 (Int.ofNat 0),
                Sh.i IntKind.i64 (Int.ofNat 0), Sh.i IntKind.i64 (Int.ofNat 0)],
              [Sh.i IntKind.i64 (Int.ofNat 3), Sh.i IntKind.i64 (Int.ofNat 1), Sh.i IntKind.i64 (Int.ofNat 0),
                Sh.i IntKind.i64 (Int.ofNat 0), Sh.i IntKind.i64 (Int.ofNat 0), Sh.i IntKind.i64 (Int.ofNat 0),
                Sh.i IntKind.i64 (Int.ofNat 0), Sh.i IntKind.i64 (Int.ofNat 1)]])),
      Eqn.nat 4 4,
      Eqn.fun_
        (nthL
          [[Sh.i IntKind.i64 (Int.ofNat 1), Sh.i IntKind.i64 (Int.ofNat 1), Sh.i IntKind.i64 (Int.ofNat 0),
              Sh.i IntKind.i64 (Int.ofNat 0), Sh.i IntKind.i64 (Int.ofNat 0), Sh.i IntKind.i64 (Int.ofNat 0),
              Sh.i IntKind.i64 (Int.ofNat 0), Sh.i IntKind.i64 (Int.ofNat 0)],
            [Sh.i IntKind.i64 (Int.ofNat 1), Sh.i IntKind.i64 (Int.ofNat 2), Sh.i IntKind.i64 (Int.ofNat 1),
              Sh.i IntKind.i64 (Int.ofNat 0), Sh.i IntKind.i64 (Int.ofNat 0), Sh.i IntKind.i64 (Int.ofNat 0),
              Sh.i IntKind.i64 (Int.ofNat 0), Sh.i IntKind.i64 (Int.ofNat 0)],
            [Sh.i IntKind.i64 (Int.ofNat 2), Sh.i IntKind.i64 (Int.ofNat 1), Sh.i IntKind.i64 (Int.ofNat 0),
              Sh.i IntKind.i64 (Int.ofNat 0), Sh.i IntKind.i64 (Int.ofNat 2), Sh.i IntKind.i64 (Int.ofNat 0),
              Sh.i IntKind.i64 (Int.ofNat 0), Sh.i IntKind.i64 (Int.ofNat 0)],
            [Sh.i IntKind.i64 (Int.ofNat 3), Sh.i IntKind.i64 (Int.ofNat 1), Sh.i IntKind.i64 (Int.ofNat 0),
              Sh.i IntKind.i64 (Int.ofNat 0), Sh.i IntKind.i64 (Int.ofNat 0), Sh.i IntKind.i64 (Int.ofNat 0),
              Sh.i IntKind.i64 (Int.ofNat 0), Sh.i IntKind.i64 (Int.ofNat 1)]])
        (nthL
          [[Sh.i IntKind.i64 (Int.ofNat 1), Sh.i IntKind.i64 (Int.ofNat 1), Sh.i IntKind.i64 (Int.ofNat 0),
              Sh.i IntKind.i64 (Int.ofNat 0), Sh.i IntKind.i64 (Int.ofNat 0), Sh.i IntKind.i64 (Int.ofNat 0),
              Sh.i IntKind.i64 (Int.ofNat 0), Sh.i IntKind.i64 (Int.ofNat 0)],
            [Sh.i IntKind.i64 (Int.ofNat 1), Sh.i IntKind.i64 (Int.ofNat 2), Sh.i IntKind.i64 (Int.ofNat 1),
              Sh.i IntKind.i64 (Int.ofNat 0), Sh.i IntKind.i64 (Int.ofNat 0), Sh.i IntKind.i64 (Int.ofNat 0),
              Sh.i IntKind.i64 (Int.ofNat 0), Sh.i IntKind.i64 (Int.ofNat 0)],
            [Sh.i IntKind.i64 (Int.ofNat 2), Sh.i IntKind.i64 (Int.ofNat 1), Sh.i IntKind.i64 (Int.ofNat 0),
              Sh.i IntKind.i64 (Int.ofNat 0), Sh.i IntKind.i64 (Int.ofNat 2), Sh.i IntKind.i64 (Int.ofNat 0),
              Sh.i IntKind.i64 (Int.ofNat 0), Sh.i IntKind.i64 (Int.ofNat 0)],
            [Sh.i IntKind.i64 (Int.ofNat 3), Sh.i IntKind.i64 (Int.ofNat 1), Sh.i IntKind.i64 (Int.ofNat 0),
              Sh.i IntKind.i64 (Int.ofNat 0), Sh.i IntKind.i64 (Int.ofNat 0), Sh.i IntKind.i64 (Int.ofNat 0),
              Sh.i IntKind.i64 (Int.ofNat 0), Sh.i IntKind.i64 (Int.ofNat 1)]]),
      Eqn.sh
        (Sh.sl 8 2
          (nthL
            [[Sh.i IntKind.i64 (Int.ofNat 1), Sh.i IntKind.i64 (Int.ofNat 1), Sh.i IntKind.i64 (Int.ofNat 0),
                Sh.i IntKind.i64 (Int.ofNat 0), Sh.i IntKind.i64 (Int.ofNat 0), Sh.i IntKind.i64 (Int.ofNat 0),
                Sh.i IntKind.i64 (Int.ofNat 0), Sh.i IntKind.i64 (Int.ofNat 0)],
              [Sh.i IntKind.i64 (Int.ofNat 1), Sh.i IntKind.i64 (Int.ofNat 2), Sh.i IntKind.i64 (Int.ofNat 1),
                Sh.i IntKind.i64 (Int.ofNat 0), Sh.i IntKind.i64 (Int.ofNat 0), Sh.i IntKind.i64 (Int.ofNat 0),
                Sh.i IntKind.i64 (Int.ofNat 0), Sh.i IntKind.i64 (Int.ofNat 0)],
              [Sh.i IntKind.i64 (Int.ofNat 2), Sh.i IntKind.i64 (Int.ofNat 1), Sh.i IntKind.i64 (Int.ofNat 0),
                Sh.i IntKind.i64 (Int.ofNat 0), Sh.i IntKind.i64 (Int.ofNat 2), Sh.i IntKind.i64 (Int.ofNat 0),
                Sh.i IntKind.i64 (Int.ofNat 0), Sh.i IntKind.i64 (Int.ofNat 0)],
              [Sh.i IntKind.i64 (Int.ofNat 3), Sh.i IntKind.i64 (Int.ofNat 1), Sh.i IntKind.i64 (Int.ofNat 0),
                Sh.i IntKind.i64 (Int.ofNat 0), Sh.i IntKind.i64 (Int.ofNat 0), Sh.i IntKind.i64 (Int.ofNat 0),
                Sh.i IntKind.i64 (Int.ofNat 0), Sh.i IntKind.i64 (Int.ofNat 1)]]))
        (Sh.sl 8 2
          (nthL
            [[Sh.i IntKind.i64 (Int.ofNat 1), Sh.i IntKind.i64 (Int.ofNat 1), Sh.i IntKind.i64 (Int.ofNat 0),
                Sh.i IntKind.i64 (Int.ofNat 0), Sh.i IntKind.i64 (Int.ofNat 0), Sh.i IntKind.i64 (Int.ofNat 0),
                Sh.i IntKind.i64 (Int.ofNat 0), Sh.i IntKind.i64 (Int.ofNat 0)],
              [Sh.i IntKind.i64 (Int.ofNat 1), Sh.i IntKind.i64 (Int.ofNat 2), Sh.i IntKind.i64 (Int.ofNat 1),
                Sh.i IntKind.i64 (Int.ofNat 0), Sh.i IntKind.i64 (Int.ofNat 0), Sh.i IntKind.i64 (Int.ofNat 0),
                Sh.i IntKind.i64 (Int.ofNat 0), Sh.i IntKind.i64 (Int.ofNat 0)],
              [Sh.i IntKind.i64 (Int.ofNat 2), Sh.i IntKind.i64 (Int.ofNat 1), Sh.i IntKind.i64 (Int.ofNat 0),
                Sh.i IntKind.i64 (Int.ofNat 0), Sh.i IntKind.i64 (Int.ofNat 2), Sh.i IntKind.i64 (Int.ofNat 0),
                Sh.i IntKind.i64 (Int.ofNat 0), Sh.i IntKind.i64 (Int.ofNat 0)],
              [Sh.i IntKind.i64 (Int.ofNat 3), Sh.i IntKind.i64 (Int.ofNat 1), Sh.i IntKind.i64 (Int.ofNat 0),
                Sh.i IntKind.i64 (Int.ofNat 0), Sh.i IntKind.i64 (Int.ofNat 0), Sh.i IntKind.i64 (Int.ofNat 0),
                Sh.i IntKind.i64 (Int.ofNat 0), Sh.i IntKind.i64 (Int.ofNat 1)]])),
      Eqn.sh
        (Sh.sl 8 2
          (nthL
            [[Sh.i IntKind.i64 (Int.ofNat 1), Sh.i IntKind.i64 (Int.ofNat 1), Sh.i IntKind.i64 (Int.ofNat 0),
                Sh.i IntKind.i64 (Int.ofNat 0), Sh.i IntKind.i64 (Int.ofNat 0), Sh.i IntKind.i64 (Int.ofNat 0),
                Sh.i IntKind.i64 (Int.ofNat 0), Sh.i IntKind.i64 (Int.ofNat 0)],
              [Sh.i IntKind.i64 (Int.ofNat 1), Sh.i IntKind.i64 (Int.ofNat 2), Sh.i IntKind.i64 (Int.ofNat 1),
                Sh.i IntKind.i64 (Int.ofNat 0), Sh.i IntKind.i64 (Int.ofNat 0), Sh.i IntKind.i64 (Int.ofNat 0),
                Sh.i IntKind.i64 (Int.ofNat 0), Sh.i IntKind.i64 (Int.ofNat 0)],
              [Sh.i IntKind.i64 (Int.ofNat 2), Sh.i IntKind.i64 (Int.ofNat 1), Sh.i IntKind.i64 (Int.ofNat 0),
                Sh.i IntKind.i64 (Int.ofNat 0), Sh.i IntKind.i64 (Int.ofNat 2), Sh.i IntKind.i64 (Int.ofNat 0),
                Sh.i IntKind.i64 (Int.ofNat 0), Sh.i IntKind.i64 (Int.ofNat 0)],
              [Sh.i IntKind.i64 (Int.ofNat 3), Sh.i IntKind.i64 (Int.ofNat 1), Sh.i IntKind.i64 (Int.ofNat 0),
                Sh.i IntKind.i64 (Int.ofNat 0), Sh.i IntKind.i64 (Int.ofNat 0), Sh.i IntKind.i64 (Int.ofNat 0),
                Sh.i IntKind.i64 (Int.ofNat 0), Sh.i IntKind.i64 (Int.ofNat 1)]]))
        (Sh.sl 8 2
          (nthL
            [[Sh.i IntKind.i64 (Int.ofNat 1), Sh.i IntKind.i64 (Int.ofNat 1), Sh.i IntKind.i64 (Int.ofNat 0),
                Sh.i IntKind.i64 (Int.ofNat 0), Sh.i IntKind.i64 (Int.ofNat 0), Sh.i IntKind.i64 (Int.ofNat 0),
                Sh.i IntKind.i64 (Int.ofNat 0), Sh.i IntKind.i64 (Int.ofNat 0)],
              [Sh.i IntKind.i64 (Int.ofNat 1), Sh.i IntKind.i64 (Int.ofNat 2), Sh.i IntKind.i64 (Int.ofNat 1),
                Sh.i IntKind.i64 (Int.ofNat 0), Sh.i IntKind.i64 (Int.ofNat 0), Sh.i IntKind.i64 (Int.ofNat 0),
                Sh.i IntKind.i64 (Int.ofNat 0), Sh.i IntKind.i64 (Int.ofNat 0)],
              [Sh.i IntKind.i64 (Int.ofNat 2), Sh.i IntKind.i64 (Int.ofNat 1), Sh.i IntKind.i64 (Int.ofNat 0),
                Sh.i IntKind.i64 (Int.ofNat 0), Sh.i IntKind.i64 (Int.ofNat 2), Sh.i IntKind.i64 (Int.ofNat 0),
                Sh.i IntKind.i64 (Int.ofNat 0), Sh.i IntKind.i64 (Int.ofNat 0)],
              [Sh.i IntKind.i64 (Int.ofNat 3), Sh.i IntKind.i64 (Int.ofNat 1), Sh.i IntKind.i64 (Int.ofNat 0),
                Sh.i IntKind.i64 (Int.ofNat 0), Sh.i IntKind.i64 (Int.ofNat 0), Sh.i IntKind.i64 (Int.ofNat 0),
                Sh.i IntKind.i64 (Int.ofNat 0), Sh.i IntKind.i64 (Int.ofNat 1)]])),
      Eqn.nat 2 2,
      Eqn.fun_
        (prim.snoc (nthL []) 0
          (nthL
            [[Sh.i IntKind.i64 (Int.ofNat 1), Sh.i IntKind.i64 (Int.ofNat 1), Sh.i IntKind.i64 (Int.ofNat 0),
                Sh.i IntKind.i64 (Int.ofNat 0), Sh.i IntKind.i64 (Int.ofNat 0), Sh.i IntKind.i64 (Int.ofNat 0),
                Sh.i IntKind.i64 (Int.ofNat 0), Sh.i IntKind.i64 (Int.ofNat 0)],
              [Sh.i IntKind.i64 (Int.ofNat 1), Sh.i IntKind.i64 (Int.ofNat 2), Sh.i IntKind.i64 (Int.ofNat 1),
                Sh.i IntKind.i64 (Int.ofNat 0), Sh.i IntKind.i64 (Int.ofNat 0), Sh.i IntKind.i64 (Int.ofNat 0),
                Sh.i IntKind.i64 (Int.ofNat 0), Sh.i IntKind.i64 (Int.ofNat 0)],
              [Sh.i IntKind.i64 (Int.ofNat 2), Sh.i IntKind.i64 (Int.ofNat 1), Sh.i IntKind.i64 (Int.ofNat 0),
                Sh.i IntKind.i64 (Int.ofNat 0), Sh.i IntKind.i64 (Int.ofNat 2), Sh.i IntKind.i64 (Int.ofNat 0),
                Sh.i IntKind.i64 (Int.ofNat 0), Sh.i IntKind.i64 (Int.ofNat 0)],
              [Sh.i IntKind.i64 (Int.ofNat 3), Sh.i IntKind.i64 (Int.ofNat 1), Sh.i IntKind.i64 (Int.ofNat 0),
                Sh.i IntKind.i64 (Int.ofNat 0), Sh.i IntKind.i64 (Int.ofNat 0), Sh.i IntKind.i64 (Int.ofNat 0),
                Sh.i IntKind.i64 (Int.ofNat 0), Sh.i IntKind.i64 (Int.ofNat 1)]]))
        (prim.snoc (nthL []) 0
          (nthL
            [[Sh.i IntKind.i64 (Int.ofNat 1), Sh.i IntKind.i64 (Int.ofNat 1), Sh.i IntKind.i64 (Int.ofNat 0),
                Sh.i IntKind.i64 (Int.ofNat 0), Sh.i IntKind.i64 (Int.ofNat 0), Sh.i IntKind.i64 (Int.ofNat 0),
                Sh.i IntKind.i64 (Int.ofNat 0), Sh.i IntKind.i64 (Int.ofNat 0)],
              [Sh.i IntKind.i64 (Int.ofNat 1), Sh.i IntKind.i64 (Int.ofNat 2), Sh.i IntKind.i64 (Int.ofNat 1),
                Sh.i IntKind.i64 (Int.ofNat 0), Sh.i IntKind.i64 (Int.ofNat 0), Sh.i IntKind.i64 (Int.ofNat 0),
                Sh.i IntKind.i64 (Int.ofNat 0), Sh.i IntKind.i64 (Int.ofNat 0)],
              [Sh.i IntKind.i64 (Int.ofNat 2), Sh.i IntKind.i64 (Int.ofNat 1), Sh.i IntKind.i64 (Int.ofNat 0),
                Sh.i IntKind.i64 (Int.ofNat 0), Sh.i IntKind.i64 (Int.ofNat 2), Sh.i IntKind.i64 (Int.ofNat 0),
                Sh.i IntKind.i64 (Int.ofNat 0), Sh.i IntKind.i64 (Int.ofNat 0)],
              [Sh.i IntKind.i64 (Int.ofNat 3), Sh.i IntKind.i64 (Int.ofNat 1), Sh.i IntKind.i64 (Int.ofNat 0),
                Sh.i IntKind.i64 (Int.ofNat 0), Sh.i IntKind.i64 (Int.ofNat 0), Sh.i IntKind.i64 (Int.ofNat 0),
                Sh.i IntKind.i64 (Int.ofNat 0), Sh.i IntKind.i64 (Int.ofNat 1)]])),
      Eqn.sh
        (Sh.sl 8 2
          (nthL
            [[Sh.i IntKind.i64 (Int.ofNat 1), Sh.i IntKind.i64 (Int.ofNat 1), Sh.i IntKind.i64 (Int.ofNat 0),
                Sh.i IntKind.i64 (Int.ofNat 0), Sh.i IntKind.i64 (Int.ofNat 0), Sh.i IntKind.i64 (Int.ofNat 0),
                Sh.i IntKind.i64 (Int.ofNat 0), Sh.i IntKind.i64 (Int.ofNat 0)],
              [Sh.i IntKind.i64 (Int.ofNat 1), Sh.i IntKind.i64 (Int.ofNat 2), Sh.i IntKind.i64 (Int.ofNat 1),
                Sh.i IntKind.i64 (Int.ofNat 0), Sh.i IntKind.i64 (Int.ofNat 0), Sh.i IntKind.i64 (Int.ofNat 0),
                Sh.i IntKind.i64 (Int.ofNat 0), Sh.i IntKind.i64 (Int.ofNat 0)],
              [Sh.i IntKind.i64 (Int.ofNat 2), Sh.i IntKind.i64 (Int.ofNat 1), Sh.i IntKind.i64 (Int.ofNat 0),
                Sh.i IntKind.i64 (Int.ofNat 0), Sh.i IntKind.i64 (Int.ofNat 2), Sh.i IntKind.i64 (Int.ofNat 0),
                Sh.i IntKind.i64 (Int.ofNat 0), Sh.i IntKind.i64 (Int.ofNat 0)],
              [Sh.i IntKind.i64 (Int.ofNat 3), Sh.i IntKind.i64 (Int.ofNat 1), Sh.i IntKind.i64 (Int.ofNat 0),
                Sh.i IntKind.i64 (Int.ofNat 0), Sh.i IntKind.i64 (Int.ofNat 0), Sh.i IntKind.i64 (Int.ofNat 0),
                Sh.i IntKind.i64 (Int.ofNat 0), Sh.i IntKind.i64 (Int.ofNat 1)]]))
        (Sh.sl 8 2
          (nthL
            [[Sh.i IntKind.i64 (Int.ofNat 1), Sh.i IntKind.i64 (Int.ofNat 1), Sh.i IntKind.i64 (Int.ofNat 0),
                Sh.i IntKind.i64 (Int.ofNat 0), Sh.i IntKind.i64 (Int.ofNat 0), Sh.i IntKind.i64 (Int.ofNat 0),
                Sh.i IntKind.i64 (Int.ofNat 0), Sh.i IntKind.i64 (Int.ofNat 0)],
              [Sh.i IntKind.i64 (Int.ofNat 1), Sh.i IntKind.i64 (Int.ofNat 2), Sh.i IntKind.i64 (Int.ofNat 1),
                Sh.i IntKind.i64 (Int.ofNat 0), Sh.i IntKind.i64 (Int.ofNat 0), Sh.i IntKind.i64 (Int.ofNat 0),
                Sh.i IntKind.i64 (Int.ofNat 0), Sh.i IntKind.i64 (Int.ofNat 0)],
              [Sh.i IntKind.i64 (Int.ofNat 2), Sh.i IntKind.i64 (Int.ofNat 1), Sh.i IntKind.i64 (Int.ofNat 0),
                Sh.i IntKind.i64 (Int.ofNat 0), Sh.i IntKind.i64 (Int.ofNat 2), Sh.i IntKind.i64 (Int.ofNat 0),
                Sh.i IntKind.i64 (Int.ofNat 0), Sh.i IntKind.i64 (Int.ofNat 0)],
              [Sh.i IntKind.i64 (Int.ofNat 3), Sh.i IntKind.i64 (Int.ofNat 1), Sh.i IntKind.i64 (Int.ofNat 0),
                Sh.i IntKind.i64 (Int.ofNat 0), Sh.i IntKind.i64 (Int.ofNat 0), Sh.i IntKind.i64 (Int.ofNat 0),
                Sh.i IntKind.i64 (Int.ofNat 0), Sh.i IntKind.i64 (Int.ofNat 1)]])),
      Eqn.nat 4 4,
      Eqn.fun_
        (nthL
          [[Sh.i IntKind.i64 (Int.ofNat 1), Sh.i IntKind.i64 (Int.ofNat 1), Sh.i IntKind.i64 (Int.ofNat 0),
              Sh.i IntKind.i64 (Int.ofNat 0), Sh.i IntKind.i64 (Int.ofNat 0), Sh.i IntKind.i64 (Int.ofNat 0),
              Sh.i IntKind.i64 (Int.ofNat 0), Sh.i IntKind.i64 (Int.ofNat 0)],
            [Sh.i IntKind.i64 (Int.ofNat 1), Sh.i IntKind.i64 (Int.ofNat 2), Sh.i IntKind.i64 (Int.ofNat 1),
              Sh.i IntKind.i64 (Int.ofNat 0), Sh.i IntKind.i64 (Int.ofNat 0), Sh.i IntKind.i64 (Int.ofNat 0),
              Sh.i IntKind.i64 (Int.ofNat 0), Sh.i IntKind.i64 (Int.ofNat 0)],
            [Sh.i IntKind.i64 (Int.ofNat 2), Sh.i IntKind.i64 (Int.ofNat 1), Sh.i IntKind.i64 (Int.ofNat 0),
              Sh.i IntKind.i64 (Int.ofNat 0), Sh.i IntKind.i64 (Int.ofNat 2), Sh.i IntKind.i64 (Int.ofNat 0),
              Sh.i IntKind.i64 (Int.ofNat 0), Sh.i IntKind.i64 (Int.ofNat 0)],
            [Sh.i IntKind.i64 (Int.ofNat 3), Sh.i IntKind.i64 (Int.ofNat 1), Sh.i IntKind.i64 (Int.ofNat 0),
              Sh.i IntKind.i64 (Int.ofNat 0), Sh.i IntKind.i64 (Int.ofNat 0), Sh.i IntKind.i64 (Int.ofNat 0),
              Sh.i IntKind.i64 (Int.ofNat 0), Sh.i IntKind.i64 (Int.ofNat 1)]])
        (nthL
          [[Sh.i IntKind.i64 (Int.ofNat 1), Sh.i IntKind.i64 (Int.ofNat 1), Sh.i IntKind.i64 (Int.ofNat 0),
              Sh.i IntKind.i64 (Int.ofNat 0), Sh.i IntKind.i64 (Int.ofNat 0), Sh.i IntKind.i64 (Int.ofNat 0),
              Sh.i IntKind.i64 (Int.ofNat 0), Sh.i IntKind.i64 (Int.ofNat 0)],
            [Sh.i IntKind.i64 (Int.ofNat 1), Sh.i IntKind.i64 (Int.ofNat 2), Sh.i IntKind.i64 (Int.ofNat 1),
              Sh.i IntKind.i64 (Int.ofNat 0), Sh.i IntKind.i64 (Int.ofNat 0), Sh.i IntKind.i64 (Int.ofNat 0),
              Sh.i IntKind.i64 (Int.ofNat 0), Sh.i IntKind.i64 (Int.ofNat 0)],
            [Sh.i IntKind.i64 (Int.ofNat 2), Sh.i IntKind.i64 (Int.ofNat 1), Sh.i IntKind.i64 (Int.ofNat 0),
              Sh.i IntKind.i64 (Int.ofNat 0), Sh.i IntKind.i64 (Int.ofNat 2), Sh.i IntKind.i64 (Int.ofNat 0),
              Sh.i IntKind.i64 (Int.ofNat 0), Sh.i IntKind.i64 (Int.ofNat 0)],
            [Sh.i IntKind.i64 (Int.ofNat 3), Sh.i IntKind.i64 (Int.ofNat 1), Sh.i IntKind.i64 (Int.ofNat 0),
              Sh.i IntKind.i64 (Int.ofNat 0), Sh.i IntKind.i64 (Int.ofNat 0), Sh.i IntKind.i64 (Int.ofNat 0),
              Sh.i IntKind.i64 (Int.ofNat 0), Sh.i IntKind.i64 (Int.ofNat 1)]]),
      Eqn.sh
        (Sh.sl 8 2
          (nthL
            [[Sh.i IntKind.i64 (Int.ofNat 1), Sh.i IntKind.i64 (Int.ofNat 1), Sh.i IntKind.i64 (Int.ofNat 0),
                Sh.i IntKind.i64 (Int.ofNat 0), Sh.i IntKind.i64 (Int.ofNat 0), Sh.i IntKind.i64 (Int.ofNat 0),
                Sh.i IntKind.i64 (Int.ofNat 0), Sh.i IntKind.i64 (Int.ofNat 0)],
              [Sh.i IntKind.i64 (Int.ofNat 1), Sh.i IntKind.i64 (Int.ofNat 2), Sh.i IntKind.i64 (Int.ofNat 1),
                Sh.i IntKind.i64 (Int.ofNat 0), Sh.i IntKind.i64 (Int.ofNat 0), Sh.i IntKind.i64 (Int.ofNat 0),
                Sh.i IntKind.i64 (Int.ofNat 0), Sh.i IntKind.i64 (Int.ofNat 0)],
              [Sh.i IntKind.i64 (Int.ofNat 2), Sh.i IntKind.i64 (Int.ofNat 1), Sh.i IntKind.i64 (Int.ofNat 0),
                Sh.i IntKind.i64 (Int.ofNat 0), Sh.i IntKind.i64 (Int.ofNat 2), Sh.i IntKind.i64 (Int.ofNat 0),
                Sh.i IntKind.i64 (Int.ofNat 0), Sh.i IntKind.i64 (Int.ofNat 0)],
              [Sh.i IntKind.i64 (Int.ofNat 3), Sh.i IntKind.i64 (Int.ofNat 1), Sh.i IntKind.i64 (Int.ofNat 0),
                Sh.i IntKind.i64 (Int.ofNat 0), Sh.i IntKind.i64 (Int.ofNat 0), Sh.i IntKind.i64 (Int.ofNat 0),
                Sh.i IntKind.i64 (Int.ofNat 0), Sh.i IntKind.i64 (Int.ofNat 1)]]))
        (Sh.sl 8 2
          (nthL
            [[Sh.i IntKind.i64 (Int.ofNat 1), Sh.i IntKind.i64 (Int.ofNat 1), Sh.i IntKind.i64 (Int.ofNat 0),
                Sh.i IntKind.i64 (Int.ofNat 0), Sh.i IntKind.i64 (Int.ofNat 0), Sh.i IntKind.i64 (Int.ofNat 0),
                Sh.i IntKind.i64 (Int.ofNat 0), Sh.i IntKind.i64 (Int.ofNat 0)],
              [Sh.i IntKind.i64 (Int.ofNat 1), Sh.i IntKind.i64 (Int.ofNat 2), Sh.i IntKind.i64 (Int.ofNat 1),
                Sh.i IntKind.i64 (Int.ofNat 0), Sh.i IntKind.i64 (Int.ofNat 0), Sh.i IntKind.i64 (Int.ofNat 0),
                Sh.i IntKind.i64 (Int.ofNat 0), Sh.i IntKind.i64 (Int.ofNat 0)],
              [Sh.i IntKind.i64 (Int.ofNat 2), Sh.i IntKind.i64 (Int.ofNat 1), Sh.i IntKind.i64 (Int.ofNat 0),
                Sh.i IntKind.i64 (Int.ofNat 0), Sh.i IntKind.i64 (Int.ofNat 2), Sh.i IntKind.i64 (Int.ofNat 0),
                Sh.i IntKind.i64 (Int.ofNat 0), Sh.i IntKind.i64 (Int.ofNat 0)],
              [Sh.i IntKind.i64 (Int.ofNat 3), Sh.i IntKind.i64 (Int.ofNat 1), Sh.i IntKind.i64 (Int.ofNat 0),
                Sh.i IntKind.i64 (Int.ofNat 0), Sh.i IntKind.i64 (Int.ofNat 0), Sh.i IntKind.i64 (Int.ofNat 0),
                Sh.i IntKind.i64 (Int.ofNat 0), Sh.i IntKind.i64 (Int.ofNat 1)]])),
      Eqn.sh
        (Sh.sl 8 2
          (nthL
            [[Sh.i IntKind.i64 (Int.ofNat 1), Sh.i IntKind.i64 (Int.ofNat 1), Sh.i IntKind.i64 (Int.ofNat 0),
                Sh.i IntKind.i64 (Int.ofNat 0), Sh.i IntKind.i64 (Int.ofNat 0), Sh.i IntKind.i64 (Int.ofNat 0),
                Sh.i IntKind.i64 (Int.ofNat 0), Sh.i IntKind.i64 (Int.ofNat 0)],
              [Sh.i IntKind.i64 (Int.ofNat 1), Sh.i IntKind.i64 (Int.ofNat 2), Sh.i IntKind.i64 (Int.ofNat 1),
                Sh.i IntKind.i64 (Int.ofNat 0), Sh.i IntKind.i64 (Int.ofNat 0), Sh.i IntKind.i64 (Int.ofNat 0),
                Sh.i IntKind.i64 (Int.ofNat 0), Sh.i IntKind.i64 (Int.ofNat 0)],
              [Sh.i IntKind.i64 (Int.ofNat 2), Sh.i IntKind.i64 (Int.ofNat 1), Sh.i IntKind.i64 (Int.ofNat 0),
                Sh.i IntKind.i64 (Int.ofNat 0), Sh.i IntKind.i64 (Int.ofNat 2), Sh.i IntKind.i64 (Int.ofNat 0),
                Sh.i IntKind.i64 (Int.ofNat 0), Sh.i IntKind.i64 (Int.ofNat 0)],
              [Sh.i IntKind.i64 (Int.ofNat 3), Sh.i IntKind.i64 (Int.ofNat 1), Sh.i IntKind.i64 (Int.ofNat 0),
                Sh.i IntKind.i64 (Int.ofNat 0), Sh.i IntKind.i64 (Int.ofNat 0), Sh.i IntKind.i64 (Int.ofNat 0),
                Sh.i IntKind.i64 (Int.ofNat 0), Sh.i IntKind.i64 (Int.ofNat 1)]]))
        (Sh.sl 8 2
          (nthL
            [[Sh.i IntKind.i64 (Int.ofNat 1), Sh.i IntKind.i64 (Int.ofNat 1), Sh.i IntKind.i64 (Int.ofNat 0),
                Sh.i IntKind.i64 (Int.ofNat 0), Sh.i IntKind.i64 (Int.ofNat 0), Sh.i IntKind.i64 (Int.ofNat 0),
                Sh.i IntKind.i64 (Int.ofNat 0), Sh.i IntKind.i64 (Int.ofNat 0)],
              [Sh.i IntKind.i64 (Int.ofNat 1), Sh.i IntKind.i64 (Int.ofNat 2), Sh.i IntKind.i64 (Int.ofNat 1),
                Sh.i IntKind.i64 (Int.ofNat 0), Sh.i IntKind.i64 (Int.ofNat 0), Sh.i IntKind.i64 (Int.ofNat 0),
                Sh.i IntKind.i64 (Int.ofNat 0), Sh.i IntKind.i64 (Int.ofNat 0)],
              [Sh.i IntKind.i64 (Int.ofNat 2), Sh.i IntKind.i64 (Int.ofNat 1), Sh.i IntKind.i64 (Int.ofNat 0),
                Sh.i IntKind.i64 (Int.ofNat 0), Sh.i IntKind.i64 (Int.ofNat 2), Sh.i IntKind.i64 (Int.ofNat 0),
                Sh.i IntKind.i64 (Int.ofNat 0), Sh.i IntKind.i64 (Int.ofNat 0)],
              [Sh.i IntKind.i64 (Int.ofNat 3), Sh.i IntKind.i64 (Int.ofNat 1), Sh.i IntKind.i64 (Int.ofNat 0),
                Sh.i IntKind.i64 (Int.ofNat 0), Sh.i IntKind.i64 (Int.ofNat 0), Sh.i IntKind.i64 (Int.ofNat 0),
                Sh.i IntKind.i64 (Int.ofNat 0), Sh.i IntKind.i64 (Int.ofNat 1)]])),
      Eqn.nat 2 2,
      Eqn.fun_
        (prim.snoc (nthL []) 0
          (nthL
            [[Sh.i IntKind.i64 (Int.ofNat 1), Sh.i IntKind.i64 (Int.ofNat 1), Sh.i IntKind.i64 (Int.ofNat 0),
                Sh.i IntKind.i64 (Int.ofNat 0), Sh.i IntKind.i64 (Int.ofNat 0), Sh.i IntKind.i64 (Int.ofNat 0),
                Sh.i IntKind.i64 (Int.ofNat 0), Sh.i IntKind.i64 (Int.ofNat 0)],
              [Sh.i IntKind.i64 (Int.ofNat 1), Sh.i IntKind.i64 (Int.ofNat 2), Sh.i IntKind.i64 (Int.ofNat 1),
                Sh.i IntKind.i64 (Int.ofNat 0), Sh.i IntKind.i64 (Int.ofNat 0), Sh.i IntKind.i64 (Int.ofNat 0),
                Sh.i IntKind.i64 (Int.ofNat 0), Sh.i IntKind.i64 (Int.ofNat 0)],
              [Sh.i IntKind.i64 (Int.ofNat 2), Sh.i IntKind.i64 (Int.ofNat 1), Sh.i IntKind.i64 (Int.ofNat 0),
                Sh.i IntKind.i64 (Int.ofNat 0), Sh.i IntKind.i64 (Int.ofNat 2), Sh.i IntKind.i64 (Int.ofNat 0),
                Sh.i IntKind.i64 (Int.ofNat 0), Sh.i IntKind.i64 (Int.ofNat 0)],
              [Sh.i IntKind.i64 (Int.ofNat 3), Sh.i IntKind.i64 (Int.ofNat 1), Sh.i IntKind.i64 (Int.ofNat 0),
                Sh.i IntKind.i64 (Int.ofNat 0), Sh.i IntKind.i64 (Int.ofNat 0), Sh.i IntKind.i64 (Int.ofNat 0),
                Sh.i IntKind.i64 (Int.ofNat 0), Sh.i IntKind.i64 (Int.ofNat 1)]]))
        (prim.snoc (nthL []) 0
          (nthL
            [[Sh.i IntKind.i64 (Int.ofNat 1), Sh.i IntKind.i64 (Int.ofNat 1), Sh.i IntKind.i64 (Int.ofNat 0),
                Sh.i IntKind.i64 (Int.ofNat 0), Sh.i IntKind.i64 (Int.ofNat 0), Sh.i IntKind.i64 (Int.ofNat 0),
                Sh.i IntKind.i64 (Int.ofNat 0), Sh.i IntKind.i64 (Int.ofNat 0)],
              [Sh.i IntKind.i64 (Int.ofNat 1), Sh.i IntKind.i64 (Int.ofNat 2), Sh.i IntKind.i64 (Int.ofNat 1),
                Sh.i IntKind.i64 (Int.ofNat 0), Sh.i IntKind.i64 (Int.ofNat 0), Sh.i IntKind.i64 (Int.ofNat 0),
                Sh.i IntKind.i64 (Int.ofNat 0), Sh.i IntKind.i64 (Int.ofNat 0)],
              [Sh.i IntKind.i64 (Int.ofNat 2), Sh.i IntKind.i64 (Int.ofNat 1), Sh.i IntKind.i64 (Int.ofNat 0),
                Sh.i IntKind.i64 (Int.ofNat 0), Sh.i IntKind.i64 (Int.ofNat 2), Sh.i IntKind.i64 (Int.ofNat 0),
                Sh.i IntKind.i64 (Int.ofNat 0), Sh.i IntKind.i64 (Int.ofNat 0)],
              [Sh.i IntKind.i64 (Int.ofNat 3), Sh.i IntKind.i64 (Int.ofNat 1), Sh.i IntKind.i64 (Int.ofNat 0),
                Sh.i IntKind.i64 (Int.ofNat 0), Sh.i IntKind.i64 (Int.ofNat 0), Sh.i IntKind.i64 (Int.ofNat 0),
                Sh.i IntKind.i64 (Int.ofNat 0), Sh.i IntKind.i64 (Int.ofNat 1)]]))],
    Fe2.ret (Sh.b true)) := by kernel_rfl
end Go.Proofs
