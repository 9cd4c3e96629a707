/-
  Chapters 6 and 7: an operation on the document's state; evaluated. Chapters 6 and 7: an operation on the document's state: the evaluated trees as lemmas, Chapters 6 and 7: an operation on the document's state: the faults, a key's place. Chapters 6 and 7: a key's place in the document's map; summaries that know the code. Chapters 6 and 7: an operation on the document's state. Chapters 6 and 7: an operation on the document's store; evaluated. Chapters 6 and 7: an operation on the document's store: the evaluated trees as lemmas, Chapters 6 and 7: an operation on the document's store.
-/
import Derived.Test.YtikaakiadiaeoaaGreatDoorQ09
namespace Go.Pl
open Go Go.Sx
def posK (l : List Int) (key : Int) : Nat := (l.takeWhile fun p => decide (p < key)).length
def hasK (l : List Int) (key : Int) : Bool := decide (posK l key < l.length) && (nth l (posK l key) == key)
def isL (l : List Int) (a : Nat) (g : Nat → List Sh) : Bool := okB Int a g && decide (lst Int a g = l ∧ l.length ≤ 1000000000)
def argC (kind num op k v : Int) : Int :=
 if kind = 0 ∨ ofOp op ≠ kind then 111
 else if (keyed op = false ∧ k ≠ 0) ∨ k < 0 ∨ 1000 < k ∨ (valued op = false ∧ v ≠ 0) ∨ v < -1000000000 ∨ 1000000000 < v then 110
 else if op = 3 ∧ (addW num v < -1000000000000000 ∨ 1000000000000000 < addW num v) then 110
 else 0
def isC (x y op k v c : Int) : Bool := decide (argC x y op k v = c)
def plB (n : Nat) (g : Nat → List Sh) : Bool := okB Int n g && roomB n 8
def intG (g : Nat → List Sh) : Nat → List Sh := fnR (rwAt (α := Int) g)
end Go.Pl
namespace Go.Proofs
open Go.Sx.Tree
open Go Go.Sx Go.Pl
def spec111 : Nat → Option (List Sh → Tree Sh)
 | 137 => some F66
 | 138 => some F67
 | 139 => some F68
 | _ => none
def td140 : List It := [It.code [0, 0, 1, 1], It.inBlock 0, It.code [1, 1, 1]]
def tb140 : List It := It.code [0, 0, 0, 1, 1] :: td140
def LO140 (x y : Int) (l r : List Int) (key i : Int) : Core := { tm := tmOf 38 [(1, .sym .i64 key), (2, .ptr 0 0), (6, .sym .i64 i)], hp := [(0, .box [.sym .i64 x, .sym .i64 y, .sh (.sl 1 (len l) (fnR (nth l))), .sh (.sl 1 (len r) (fnR (nth r)))] 76)], nx := 1, lim := L0, tc := [] }
def F111w (c : Int) : List Sh → Tree Sh
 | [.agg [.i .i64 x, .i .i64 y, s2, s3], t, u, w] => match slN 1 s2, slN 1 s3, icode t, icode u, icode w with
  | some (a, g), some (b, h), some op, some k, some v => .need (okB Int a g) (.need (okB Int b h) (.need (isC x y op k v c) (.leaf (.v (.int .i64 c)))))
  | _, _, _, _, _ => .fail
 | _ => .fail
def F140w (l : List Int) : List Sh → Tree Sh
 | [.agg [.i .i64 _, .i .i64 _, s2, s3], t] => match slN 1 s2, slN 1 s3, icode t with
  | some (a, g), some (b, h), some k => .need (isL l a g) (.need (okB Int b h) (.leaf (.tup [.i .i64 (Int.ofNat (posK l k)), .b (hasK l k)])))
  | _, _, _ => .fail
 | _ => .fail
def F13w : List Sh → Tree Sh
 | [.sl 1 n g] => .need (plB n g) (.leaf (.os 3 1 n (intG g)))
 | _ => .fail
def spec77 (c : Int) (l : List Int) : Nat → Option (List Sh → Tree Sh)
 | 111 => some (F111w c)
 | 140 => some (F140w l)
 | 13 => some F13w
 | _ => none
def rf4 (x y : Int) (l r : List Int) : Sh := .agg [.i .i64 x, .i .i64 y, .sl 1 (len l) (fnR (nth l)), .sl 1 (len r) (fnR (nth r))]
theorem a137_1 (A : Prim) (W : Wd) : runTo (C7 A W noSpec sAl) nH0 300 400 137 [.code []] (start0 15 [.v (.int .i64 1)] L0) [] [] = leaf (Fe2.ret (Sh.i .i64 (Int.ofNat 1))) := by kernel_rfl
theorem a137_2 (A : Prim) (W : Wd) : runTo (C7 A W noSpec sAl) nH0 300 400 137 [.code []] (start0 15 [.v (.int .i64 2)] L0) [] [] = leaf (Fe2.ret (Sh.i .i64 (Int.ofNat 1))) := by kernel_rfl
theorem a137_3 (A : Prim) (W : Wd) : runTo (C7 A W noSpec sAl) nH0 300 400 137 [.code []] (start0 15 [.v (.int .i64 3)] L0) [] [] = leaf (Fe2.ret (Sh.i .i64 (Int.ofNat 2))) := by kernel_rfl
theorem a137_4 (A : Prim) (W : Wd) : runTo (C7 A W noSpec sAl) nH0 300 400 137 [.code []] (start0 15 [.v (.int .i64 4)] L0) [] [] = leaf (Fe2.ret (Sh.i .i64 (Int.ofNat 2))) := by kernel_rfl
theorem a137_5 (A : Prim) (W : Wd) : runTo (C7 A W noSpec sAl) nH0 300 400 137 [.code []] (start0 15 [.v (.int .i64 5)] L0) [] [] = leaf (Fe2.ret (Sh.i .i64 (Int.ofNat 3))) := by kernel_rfl
theorem a137_6 (A : Prim) (W : Wd) : runTo (C7 A W noSpec sAl) nH0 300 400 137 [.code []] (start0 15 [.v (.int .i64 6)] L0) [] [] = leaf (Fe2.ret (Sh.i .i64 (Int.ofNat 3))) := by kernel_rfl
theorem a137_7 (A : Prim) (W : Wd) : runTo (C7 A W noSpec sAl) nH0 300 400 137 [.code []] (start0 15 [.v (.int .i64 7)] L0) [] [] = leaf (Fe2.ret (Sh.i .i64 (Int.ofNat 4))) := by kernel_rfl
theorem a137_8 (A : Prim) (W : Wd) : runTo (C7 A W noSpec sAl) nH0 300 400 137 [.code []] (start0 15 [.v (.int .i64 8)] L0) [] [] = leaf (Fe2.ret (Sh.i .i64 (Int.ofNat 4))) := by kernel_rfl
theorem a137_9 (A : Prim) (W : Wd) : runTo (C7 A W noSpec sAl) nH0 300 400 137 [.code []] (start0 15 [.v (.int .i64 9)] L0) [] [] = leaf (Fe2.ret (Sh.i .i64 (Int.ofNat 4))) := by kernel_rfl
theorem a137 (A : Prim) (W : Wd) (op : Int) : runTo (C7 A W noSpec sAl) nH0 300 400 137 [.code []] (start0 15 [.i .i64 op] L0) [] [] = node (A.lt op (Int.ofNat 1)) (leaf (Fe2.ret (Sh.i .i64 (Int.ofNat 0)))) (node (A.lt (Int.ofNat 9) op) (leaf (Fe2.ret (Sh.i .i64 (Int.ofNat 0)))) Tree.fail) := by kernel_rfl
theorem a138 (A : Prim) (W : Wd) (op : Int) : runTo (C7 A W noSpec sAl) nH0 300 400 138 [.code []] (start0 13 [.i .i64 op] L0) [] [] = node (A.eq op (Int.ofNat 7)) (leaf (Fe2.ret (Sh.b true))) (node (A.eq op (Int.ofNat 8)) (leaf (Fe2.ret (Sh.b true))) (leaf (Fe2.ret (Sh.b (A.eq op (Int.ofNat 9)))))) := by kernel_rfl
theorem a139 (A : Prim) (W : Wd) (op : Int) : runTo (C7 A W noSpec sAl) nH0 300 400 139 [.code []] (start0 17 [.i .i64 op] L0) [] [] = node (A.eq op (Int.ofNat 2)) (leaf (Fe2.ret (Sh.b true))) (node (A.eq op (Int.ofNat 3)) (leaf (Fe2.ret (Sh.b true))) (node (A.eq op (Int.ofNat 5)) (leaf (Fe2.ret (Sh.b true))) (leaf (Fe2.ret (Sh.b (A.eq op (Int.ofNat 7))))))) := by kernel_rfl
theorem a111 (A : Prim) (W : Wd) (x y op k v : Int) (l r : List Int) : runTo (C7 A W spec111 sAl) nH0 300 400 111 [.code []] (start0 67 [rf4 x y l r, .i .i64 op, .i .i64 k, .i .i64 v] L0) [] [] = node (A.eq x (Int.ofNat 0)) (leaf (Fe2.ret (Sh.i .i64 (Int.ofNat 111)))) (node (A.nt (A.eq (ofOp op) x)) (leaf (Fe2.ret (Sh.i .i64 (Int.ofNat 111)))) (node (A.nt (keyed op)) (node (A.nt (A.eq k (Int.ofNat 0))) (leaf (Fe2.ret (Sh.i .i64 (Int.ofNat 110)))) (node (A.lt k (Int.ofNat 0)) (leaf (Fe2.ret (Sh.i .i64 (Int.ofNat 110)))) (node (A.lt (Int.ofNat 1000) k) (leaf (Fe2.ret (Sh.i .i64 (Int.ofNat 110)))) (node (A.nt (valued op)) (node (A.nt (A.eq v (Int.ofNat 0))) (leaf (Fe2.ret (Sh.i .i64 (Int.ofNat 110)))) (node (A.lt v (Int.negSucc 999999999)) (leaf (Fe2.ret (Sh.i .i64 (Int.ofNat 110)))) (node (A.lt (Int.ofNat 1000000000) v) (leaf (Fe2.ret (Sh.i .i64 (Int.ofNat 110)))) (node (A.eq op (Int.ofNat 3)) (node (A.lt (A.add .i64 y v) (Int.negSucc 999999999999999)) (leaf (Fe2.ret (Sh.i .i64 (Int.ofNat 110)))) (node (A.lt (Int.ofNat 1000000000000000) (A.add .i64 y v)) (leaf (Fe2.ret (Sh.i .i64 (Int.ofNat 110)))) (leaf (Fe2.ret (Sh.i .i64 (Int.ofNat 0)))))) (leaf (Fe2.ret (Sh.i .i64 (Int.ofNat 0)))))))) (node (A.lt v (Int.negSucc 999999999)) (leaf (Fe2.ret (Sh.i .i64 (Int.ofNat 110)))) (node (A.lt (Int.ofNat 1000000000) v) (leaf (Fe2.ret (Sh.i .i64 (Int.ofNat 110)))) (node (A.eq op (Int.ofNat 3)) (node (A.lt (A.add .i64 y v) (Int.negSucc 999999999999999)) (leaf (Fe2.ret (Sh.i .i64 (Int.ofNat 110)))) (node (A.lt (Int.ofNat 1000000000000000) (A.add .i64 y v)) (leaf (Fe2.ret (Sh.i .i64 (Int.ofNat 110)))) (leaf (Fe2.ret (Sh.i .i64 (Int.ofNat 0)))))) (leaf (Fe2.ret (Sh.i .i64 (Int.ofNat 0))))))))))) (node (A.lt k (Int.ofNat 0)) (leaf (Fe2.ret (Sh.i .i64 (Int.ofNat 110)))) (node (A.lt (Int.ofNat 1000) k) (leaf (Fe2.ret (Sh.i .i64 (Int.ofNat 110)))) (node (A.nt (valued op)) (node (A.nt (A.eq v (Int.ofNat 0))) (leaf (Fe2.ret (Sh.i .i64 (Int.ofNat 110)))) (node (A.lt v (Int.negSucc 999999999)) (leaf (Fe2.ret (Sh.i .i64 (Int.ofNat 110)))) (node (A.lt (Int.ofNat 1000000000) v) (leaf (Fe2.ret (Sh.i .i64 (Int.ofNat 110)))) (node (A.eq op (Int.ofNat 3)) (node (A.lt (A.add .i64 y v) (Int.negSucc 999999999999999)) (leaf (Fe2.ret (Sh.i .i64 (Int.ofNat 110)))) (node (A.lt (Int.ofNat 1000000000000000) (A.add .i64 y v)) (leaf (Fe2.ret (Sh.i .i64 (Int.ofNat 110)))) (leaf (Fe2.ret (Sh.i .i64 (Int.ofNat 0)))))) (leaf (Fe2.ret (Sh.i .i64 (Int.ofNat 0)))))))) (node (A.lt v (Int.negSucc 999999999)) (leaf (Fe2.ret (Sh.i .i64 (Int.ofNat 110)))) (node (A.lt (Int.ofNat 1000000000) v) (leaf (Fe2.ret (Sh.i .i64 (Int.ofNat 110)))) (node (A.eq op (Int.ofNat 3)) (node (A.lt (A.add .i64 y v) (Int.negSucc 999999999999999)) (leaf (Fe2.ret (Sh.i .i64 (Int.ofNat 110)))) (node (A.lt (Int.ofNat 1000000000000000) (A.add .i64 y v)) (leaf (Fe2.ret (Sh.i .i64 (Int.ofNat 110)))) (leaf (Fe2.ret (Sh.i .i64 (Int.ofNat 0)))))) (leaf (Fe2.ret (Sh.i .i64 (Int.ofNat 0)))))))))))) := by kernel_rfl
theorem a140 (A : Prim) (W : Wd) (x y k i' : Int) (l r : List Int) : runTo (C7 A W noSpec sAl) nH0 300 400 140 [.code []] (start0 38 [rf4 x y l r, .i .i64 k] L0) [] [⟨140, td140, LO140 x y l r k i', []⟩] = leaf (Fe2.at_ 0 [Eqn.int k k, Eqn.int (Int.ofNat 0) i', Eqn.int x x, Eqn.int y y, Eqn.sh (Sh.sl 1 (len l) (fnR (nth l))) (Sh.sl 1 (len l) (fnR (nth l))), Eqn.sh (Sh.sl 1 (len r) (fnR (nth r))) (Sh.sl 1 (len r) (fnR (nth r)))]) := by kernel_rfl
theorem b140 (A : Prim) (W : Wd) (x y k i i' : Int) (l r : List Int) : runTo (C7 A W noSpec sAl) nH0 300 400 140 tb140 (LO140 x y l r k i) [] [⟨140, td140, LO140 x y l r k i', []⟩] = node (A.lt i (A.ofN (len l))) (need (A.inB i (len l)) (node (A.lt (nth l (A.toN i)) k) (leaf (Fe2.at_ 0 [Eqn.int k k, Eqn.int (A.add .i64 i (Int.ofNat 1)) i', Eqn.int x x, Eqn.int y y, Eqn.sh (Sh.sl 1 (len l) (fnR (nth l))) (Sh.sl 1 (len l) (fnR (nth l))), Eqn.sh (Sh.sl 1 (len r) (fnR (nth r))) (Sh.sl 1 (len r) (fnR (nth r)))])) (node (A.lt i (A.ofN (len l))) (need (A.inB i (len l)) (leaf (Fe2.ret (Sh.tup [Sh.i .i64 i, Sh.b (A.eq (nth l (A.toN i)) k)])))) (leaf (Fe2.ret (Sh.tup [Sh.i .i64 i, Sh.b false])))))) (node (A.lt i (A.ofN (len l))) (need (A.inB i (len l)) (leaf (Fe2.ret (Sh.tup [Sh.i .i64 i, Sh.b (A.eq (nth l (A.toN i)) k)])))) (leaf (Fe2.ret (Sh.tup [Sh.i .i64 i, Sh.b false])))) := by kernel_rfl
theorem e77_110 (A : Prim) (W : Wd) (x y op k v : Int) (l r : List Int) : runTo (C7 A W (spec77 110 l) sAl) nH0 300 400 77 [.code []] (start0 92 [rf4 x y l r, .i .i64 op, .i .i64 k, .i .i64 v] L0) [] [] = need (okB Int (len l) (fnR (nth l))) (need (okB Int (len r) (fnR (nth r))) (need (isC x y op k v (Int.ofNat 110)) (leaf (Fe2.ret (Sh.tup [Sh.agg [Sh.i .i64 (Int.ofNat 0), Sh.i .i64 (Int.ofNat 0), Sh.sl 0 0 fun (x : Nat) => [], Sh.sl 0 0 fun (x : Nat) => []], Sh.i .i64 (Int.ofNat 0), Sh.i .i64 (Int.ofNat 0), Sh.i .i64 (Int.ofNat 110)]))))) := by kernel_rfl
theorem e77_111 (A : Prim) (W : Wd) (x y op k v : Int) (l r : List Int) : runTo (C7 A W (spec77 111 l) sAl) nH0 300 400 77 [.code []] (start0 92 [rf4 x y l r, .i .i64 op, .i .i64 k, .i .i64 v] L0) [] [] = need (okB Int (len l) (fnR (nth l))) (need (okB Int (len r) (fnR (nth r))) (need (isC x y op k v (Int.ofNat 111)) (leaf (Fe2.ret (Sh.tup [Sh.agg [Sh.i .i64 (Int.ofNat 0), Sh.i .i64 (Int.ofNat 0), Sh.sl 0 0 fun (x : Nat) => [], Sh.sl 0 0 fun (x : Nat) => []], Sh.i .i64 (Int.ofNat 0), Sh.i .i64 (Int.ofNat 0), Sh.i .i64 (Int.ofNat 111)]))))) := by kernel_rfl
noncomputable def a77_1_e1 (x y k v : Int) (l r : List Int) : List Eqn := [Eqn.int x x, Eqn.int y y, Eqn.sh (Sh.sl 1 (len l) (fnR (nth l))) (Sh.sl 1 (len l) (fnR (nth l))), Eqn.sh (Sh.sl 1 (len r) (fnR (nth r))) (Sh.sl 1 (len r) (fnR (nth r))), Eqn.int k k, Eqn.int v v, Eqn.int x x, Eqn.int y y, Eqn.sh (Sh.sl 1 (len l) (fnR (nth l))) (Sh.sl 1 (len l) (fnR (nth l))), Eqn.sh (Sh.sl 1 (len r) (fnR (nth r))) (Sh.sl 1 (len r) (fnR (nth r))), Eqn.nat (len l) (len l), Eqn.fun_ (intG (fnR (nth l))) (intG (fnR (nth l))), Eqn.nat (len r) (len r), Eqn.fun_ (intG (fnR (nth r))) (intG (fnR (nth r))), Eqn.int x x, Eqn.int y y]
theorem a77_1 (A : Prim) (W : Wd) (x y k v : Int) (l r : List Int) : runTo (C7 A W (spec77 0 l) sAl) nH0 300 400 77 [.code []] (start0 92 [rf4 x y l r, .v (.int .i64 1), .i .i64 k, .i .i64 v] L0) [] [] = need (okB Int (len l) (fnR (nth l))) (need (okB Int (len r) (fnR (nth r))) (need (isC x y (Int.ofNat 1) k v (Int.ofNat 0)) (need (plB (len l) (fnR (nth l))) (need (plB (len r) (fnR (nth r))) (need (plB (len r) (fnR (nth r))) (must (a77_1_e1 x y k v l r) (need (plB (len l) (fnR (nth l))) (need (plB (len r) (fnR (nth r))) (must (a77_1_e1 x y k v l r) (leaf (Fe2.ret (Sh.tup [Sh.agg [Sh.i .i64 x, Sh.i .i64 y, Sh.os 3 1 (len l) (intG (fnR (nth l))), Sh.os 3 1 (len r) (intG (fnR (nth r)))], Sh.i .i64 (Int.ofNat 3), Sh.i .i64 y, Sh.i .i64 (Int.ofNat 0)])))))))))))) := by kernel_rfl
noncomputable def a77_2_e1 (x y k v : Int) (l r : List Int) : List Eqn := [Eqn.int x x, Eqn.int y y, Eqn.sh (Sh.sl 1 (len l) (fnR (nth l))) (Sh.sl 1 (len l) (fnR (nth l))), Eqn.sh (Sh.sl 1 (len r) (fnR (nth r))) (Sh.sl 1 (len r) (fnR (nth r))), Eqn.int k k, Eqn.int v v, Eqn.int x x, Eqn.int y y, Eqn.sh (Sh.sl 1 (len l) (fnR (nth l))) (Sh.sl 1 (len l) (fnR (nth l))), Eqn.sh (Sh.sl 1 (len r) (fnR (nth r))) (Sh.sl 1 (len r) (fnR (nth r))), Eqn.nat (len l) (len l), Eqn.fun_ (intG (fnR (nth l))) (intG (fnR (nth l))), Eqn.nat (len r) (len r), Eqn.fun_ (intG (fnR (nth r))) (intG (fnR (nth r))), Eqn.int x x, Eqn.int y y]
theorem a77_2 (A : Prim) (W : Wd) (x y k v : Int) (l r : List Int) : runTo (C7 A W (spec77 0 l) sAl) nH0 300 400 77 [.code []] (start0 92 [rf4 x y l r, .v (.int .i64 2), .i .i64 k, .i .i64 v] L0) [] [] = need (okB Int (len l) (fnR (nth l))) (need (okB Int (len r) (fnR (nth r))) (need (isC x y (Int.ofNat 2) k v (Int.ofNat 0)) (need (plB (len l) (fnR (nth l))) (need (plB (len r) (fnR (nth r))) (need (plB (len r) (fnR (nth r))) (must (a77_2_e1 x y k v l r) (need (plB (len l) (fnR (nth l))) (need (plB (len r) (fnR (nth r))) (must (a77_2_e1 x y k v l r) (leaf (Fe2.ret (Sh.tup [Sh.agg [Sh.i .i64 x, Sh.i .i64 v, Sh.os 3 1 (len l) (intG (fnR (nth l))), Sh.os 3 1 (len r) (intG (fnR (nth r)))], Sh.i .i64 (Int.ofNat 1), Sh.i .i64 (Int.ofNat 0), Sh.i .i64 (Int.ofNat 0)])))))))))))) := by kernel_rfl
noncomputable def a77_3_e1 (x y k v : Int) (l r : List Int) : List Eqn := [Eqn.int x x, Eqn.int y y, Eqn.sh (Sh.sl 1 (len l) (fnR (nth l))) (Sh.sl 1 (len l) (fnR (nth l))), Eqn.sh (Sh.sl 1 (len r) (fnR (nth r))) (Sh.sl 1 (len r) (fnR (nth r))), Eqn.int k k, Eqn.int v v, Eqn.int x x, Eqn.int y y, Eqn.sh (Sh.sl 1 (len l) (fnR (nth l))) (Sh.sl 1 (len l) (fnR (nth l))), Eqn.sh (Sh.sl 1 (len r) (fnR (nth r))) (Sh.sl 1 (len r) (fnR (nth r))), Eqn.nat (len l) (len l), Eqn.fun_ (intG (fnR (nth l))) (intG (fnR (nth l))), Eqn.nat (len r) (len r), Eqn.fun_ (intG (fnR (nth r))) (intG (fnR (nth r))), Eqn.int x x, Eqn.int y y]
theorem a77_3 (A : Prim) (W : Wd) (x y k v : Int) (l r : List Int) : runTo (C7 A W (spec77 0 l) sAl) nH0 300 400 77 [.code []] (start0 92 [rf4 x y l r, .v (.int .i64 3), .i .i64 k, .i .i64 v] L0) [] [] = need (okB Int (len l) (fnR (nth l))) (need (okB Int (len r) (fnR (nth r))) (need (isC x y (Int.ofNat 3) k v (Int.ofNat 0)) (need (plB (len l) (fnR (nth l))) (need (plB (len r) (fnR (nth r))) (need (plB (len r) (fnR (nth r))) (must (a77_3_e1 x y k v l r) (need (plB (len l) (fnR (nth l))) (need (plB (len r) (fnR (nth r))) (must (a77_3_e1 x y k v l r) (leaf (Fe2.ret (Sh.tup [Sh.agg [Sh.i .i64 x, Sh.i .i64 (A.add .i64 y v), Sh.os 3 1 (len l) (intG (fnR (nth l))), Sh.os 3 1 (len r) (intG (fnR (nth r)))], Sh.i .i64 (Int.ofNat 1), Sh.i .i64 (Int.ofNat 0), Sh.i .i64 (Int.ofNat 0)])))))))))))) := by kernel_rfl
noncomputable def a77_4_e1 (x y k v : Int) (l r : List Int) : List Eqn := [Eqn.int x x, Eqn.int y y, Eqn.sh (Sh.sl 1 (len l) (fnR (nth l))) (Sh.sl 1 (len l) (fnR (nth l))), Eqn.sh (Sh.sl 1 (len r) (fnR (nth r))) (Sh.sl 1 (len r) (fnR (nth r))), Eqn.int k k, Eqn.int v v, Eqn.int x x, Eqn.int y y, Eqn.sh (Sh.sl 1 (len l) (fnR (nth l))) (Sh.sl 1 (len l) (fnR (nth l))), Eqn.sh (Sh.sl 1 (len r) (fnR (nth r))) (Sh.sl 1 (len r) (fnR (nth r))), Eqn.nat (len l) (len l), Eqn.fun_ (intG (fnR (nth l))) (intG (fnR (nth l))), Eqn.nat (len r) (len r), Eqn.fun_ (intG (fnR (nth r))) (intG (fnR (nth r))), Eqn.int x x, Eqn.int y y]
theorem a77_4 (A : Prim) (W : Wd) (x y k v : Int) (l r : List Int) : runTo (C7 A W (spec77 0 l) sAl) nH0 300 400 77 [.code []] (start0 92 [rf4 x y l r, .v (.int .i64 4), .i .i64 k, .i .i64 v] L0) [] [] = need (okB Int (len l) (fnR (nth l))) (need (okB Int (len r) (fnR (nth r))) (need (isC x y (Int.ofNat 4) k v (Int.ofNat 0)) (need (plB (len l) (fnR (nth l))) (need (plB (len r) (fnR (nth r))) (need (plB (len r) (fnR (nth r))) (must (a77_4_e1 x y k v l r) (need (plB (len l) (fnR (nth l))) (need (plB (len r) (fnR (nth r))) (must (a77_4_e1 x y k v l r) (leaf (Fe2.ret (Sh.tup [Sh.agg [Sh.i .i64 x, Sh.i .i64 y, Sh.os 3 1 (len l) (intG (fnR (nth l))), Sh.os 3 1 (len r) (intG (fnR (nth r)))], Sh.i .i64 (Int.ofNat 3), Sh.i .i64 y, Sh.i .i64 (Int.ofNat 0)])))))))))))) := by kernel_rfl
noncomputable def a77_5_e1 (x y k v : Int) (l r : List Int) : List Eqn := [Eqn.int x x, Eqn.int y y, Eqn.sh (Sh.sl 1 (len l) (fnR (nth l))) (Sh.sl 1 (len l) (fnR (nth l))), Eqn.sh (Sh.sl 1 (len r) (fnR (nth r))) (Sh.sl 1 (len r) (fnR (nth r))), Eqn.int k k, Eqn.int v v, Eqn.int x x, Eqn.int y y, Eqn.sh (Sh.sl 1 (len l) (fnR (nth l))) (Sh.sl 1 (len l) (fnR (nth l))), Eqn.sh (Sh.sl 1 (len r) (fnR (nth r))) (Sh.sl 1 (len r) (fnR (nth r))), Eqn.nat (len l) (len l), Eqn.fun_ (intG (fnR (nth l))) (intG (fnR (nth l))), Eqn.nat (len r) (len r), Eqn.fun_ (intG (fnR (nth r))) (intG (fnR (nth r))), Eqn.int x x, Eqn.int y y]
theorem a77_5 (A : Prim) (W : Wd) (x y k v : Int) (l r : List Int) : runTo (C7 A W (spec77 0 l) sAl) nH0 300 400 77 [.code []] (start0 92 [rf4 x y l r, .v (.int .i64 5), .i .i64 k, .i .i64 v] L0) [] [] = need (okB Int (len l) (fnR (nth l))) (need (okB Int (len r) (fnR (nth r))) (need (isC x y (Int.ofNat 5) k v (Int.ofNat 0)) (need (plB (len l) (fnR (nth l))) (need (plB (len r) (fnR (nth r))) (need (plB (len r) (fnR (nth r))) (must (a77_5_e1 x y k v l r) (need (plB (len l) (fnR (nth l))) (need (plB (len r) (fnR (nth r))) (must (a77_5_e1 x y k v l r) (need (A.room (A.addN (len r) 1) 8) (leaf (Fe2.ret (Sh.tup [Sh.agg [Sh.i .i64 x, Sh.i .i64 y, Sh.os 3 1 (len l) (intG (fnR (nth l))), Sh.os 3 1 (A.addN (len r) 1) (A.snoc (intG (fnR (nth r))) (len r) (nthL [[Sh.i .i64 v]]))], Sh.i .i64 (Int.ofNat 1), Sh.i .i64 (Int.ofNat 0), Sh.i .i64 (Int.ofNat 0)]))))))))))))) := by kernel_rfl
noncomputable def a77_6_e1 (x y k v : Int) (l r : List Int) : List Eqn := [Eqn.int x x, Eqn.int y y, Eqn.sh (Sh.sl 1 (len l) (fnR (nth l))) (Sh.sl 1 (len l) (fnR (nth l))), Eqn.sh (Sh.sl 1 (len r) (fnR (nth r))) (Sh.sl 1 (len r) (fnR (nth r))), Eqn.int k k, Eqn.int v v, Eqn.int x x, Eqn.int y y, Eqn.sh (Sh.sl 1 (len l) (fnR (nth l))) (Sh.sl 1 (len l) (fnR (nth l))), Eqn.sh (Sh.sl 1 (len r) (fnR (nth r))) (Sh.sl 1 (len r) (fnR (nth r))), Eqn.nat (len l) (len l), Eqn.fun_ (intG (fnR (nth l))) (intG (fnR (nth l))), Eqn.nat (len r) (len r), Eqn.fun_ (intG (fnR (nth r))) (intG (fnR (nth r))), Eqn.int x x, Eqn.int y y]
theorem a77_6 (A : Prim) (W : Wd) (x y k v : Int) (l r : List Int) : runTo (C7 A W (spec77 0 l) sAl) nH0 300 400 77 [.code []] (start0 92 [rf4 x y l r, .v (.int .i64 6), .i .i64 k, .i .i64 v] L0) [] [] = need (okB Int (len l) (fnR (nth l))) (need (okB Int (len r) (fnR (nth r))) (need (isC x y (Int.ofNat 6) k v (Int.ofNat 0)) (need (plB (len l) (fnR (nth l))) (need (plB (len r) (fnR (nth r))) (need (plB (len r) (fnR (nth r))) (must (a77_6_e1 x y k v l r) (need (plB (len l) (fnR (nth l))) (need (plB (len r) (fnR (nth r))) (must (a77_6_e1 x y k v l r) (node (A.eq (A.ofN (len r)) (Int.ofNat 0)) (leaf (Fe2.ret (Sh.tup [Sh.agg [Sh.i .i64 x, Sh.i .i64 y, Sh.os 3 1 (len l) (intG (fnR (nth l))), Sh.os 3 1 (len r) (intG (fnR (nth r)))], Sh.i .i64 (Int.ofNat 2), Sh.i .i64 (Int.ofNat 0), Sh.i .i64 (Int.ofNat 0)]))) (need (A.upTo (Int.ofNat 1) (len r)) (need (plB (A.subN (len r) 1) fun (j : Nat) => fnR (nth r) (A.addN (Int.toNat 1) j)) (need (A.inB (Int.ofNat 0) (len r)) (leaf (Fe2.ret (Sh.tup [Sh.agg [Sh.i .i64 x, Sh.i .i64 y, Sh.os 3 1 (len l) (intG (fnR (nth l))), Sh.os 3 1 (A.subN (len r) 1) (intG fun (j : Nat) => fnR (nth r) (A.addN (Int.toNat 1) j))], Sh.i .i64 (Int.ofNat 3), Sh.i .i64 (nth r 0), Sh.i .i64 (Int.ofNat 0)])))))))))))))))) := by kernel_rfl
noncomputable def a77_7_e1 (A : Prim) (x y k v : Int) (l r : List Int) : List Eqn := [Eqn.int x x, Eqn.int y y, Eqn.sh (Sh.sl 1 (len l) (fnR (nth l))) (Sh.sl 1 (len l) (fnR (nth l))), Eqn.sh (Sh.sl 1 (len r) (fnR (nth r))) (Sh.sl 1 (len r) (fnR (nth r))), Eqn.int x x, Eqn.int y y, Eqn.int k k, Eqn.int v v, Eqn.int (Int.ofNat (posK l k)) (Int.ofNat (posK l k)), Eqn.bool (hasK l k) (hasK l k), Eqn.int x x, Eqn.int y y, Eqn.sh (Sh.sl 1 (len l) (fnR (nth l))) (Sh.sl 1 (len l) (fnR (nth l))), Eqn.sh (Sh.sl 1 (len r) (fnR (nth r))) (Sh.sl 1 (len r) (fnR (nth r))), Eqn.nat (len l) (len l), Eqn.fun_ (intG (fnR (nth l))) (intG (fnR (nth l))), Eqn.nat (len r) (len r), Eqn.fun_ (intG (fnR (nth r))) (intG (fnR (nth r))), Eqn.int x x, Eqn.int y y, Eqn.int x x, Eqn.int y y, Eqn.sh (Sh.sl 1 (len l) (fnR (nth l))) (Sh.sl 1 (len l) (fnR (nth l))), Eqn.sh (Sh.sl 1 (len r) (fnR (nth r))) (Sh.sl 1 (len r) (fnR (nth r))), Eqn.int x x, Eqn.int y y, Eqn.int k k, Eqn.nat (A.subN (len l) (A.toN (Int.ofNat (posK l k)))) (A.subN (len l) (A.toN (Int.ofNat (posK l k)))), Eqn.fun_ (intG fun (j : Nat) => fnR (nth l) (A.addN (A.toN (Int.ofNat (posK l k))) j)) (intG fun (j : Nat) => fnR (nth l) (A.addN (A.toN (Int.ofNat (posK l k))) j)), Eqn.nat (A.addN (A.addN (A.toN (Int.ofNat (posK l k))) 1) (A.subN (len l) (A.toN (Int.ofNat (posK l k))))) (A.addN (A.addN (A.toN (Int.ofNat (posK l k))) 1) (A.subN (len l) (A.toN (Int.ofNat (posK l k))))), Eqn.fun_ (A.snoc (A.snoc (intG (fnR (nth l))) (A.toN (Int.ofNat (posK l k))) (nthL [[Sh.i .i64 k]])) (A.addN (A.toN (Int.ofNat (posK l k))) 1) (intG fun (j : Nat) => fnR (nth l) (A.addN (A.toN (Int.ofNat (posK l k))) j))) (A.snoc (A.snoc (intG (fnR (nth l))) (A.toN (Int.ofNat (posK l k))) (nthL [[Sh.i .i64 k]])) (A.addN (A.toN (Int.ofNat (posK l k))) 1) (intG fun (j : Nat) => fnR (nth l) (A.addN (A.toN (Int.ofNat (posK l k))) j))), Eqn.int v v, Eqn.nat (A.subN (len r) (A.toN (Int.ofNat (posK l k)))) (A.subN (len r) (A.toN (Int.ofNat (posK l k)))), Eqn.fun_ (intG fun (j : Nat) => fnR (nth r) (A.addN (A.toN (Int.ofNat (posK l k))) j)) (intG fun (j : Nat) => fnR (nth r) (A.addN (A.toN (Int.ofNat (posK l k))) j)), Eqn.nat (A.addN (A.addN (A.toN (Int.ofNat (posK l k))) 1) (A.subN (len r) (A.toN (Int.ofNat (posK l k))))) (A.addN (A.addN (A.toN (Int.ofNat (posK l k))) 1) (A.subN (len r) (A.toN (Int.ofNat (posK l k))))), Eqn.fun_ (A.snoc (A.snoc (intG (fnR (nth r))) (A.toN (Int.ofNat (posK l k))) (nthL [[Sh.i .i64 v]])) (A.addN (A.toN (Int.ofNat (posK l k))) 1) (intG fun (j : Nat) => fnR (nth r) (A.addN (A.toN (Int.ofNat (posK l k))) j))) (A.snoc (A.snoc (intG (fnR (nth r))) (A.toN (Int.ofNat (posK l k))) (nthL [[Sh.i .i64 v]])) (A.addN (A.toN (Int.ofNat (posK l k))) 1) (intG fun (j : Nat) => fnR (nth r) (A.addN (A.toN (Int.ofNat (posK l k))) j)))]
noncomputable def a77_7_e2 (A : Prim) (x y k v : Int) (l r : List Int) : List Eqn := [Eqn.int x x, Eqn.int y y, Eqn.sh (Sh.sl 1 (len l) (fnR (nth l))) (Sh.sl 1 (len l) (fnR (nth l))), Eqn.sh (Sh.sl 1 (len r) (fnR (nth r))) (Sh.sl 1 (len r) (fnR (nth r))), Eqn.int x x, Eqn.int y y, Eqn.int k k, Eqn.int v v, Eqn.int (Int.ofNat (posK l k)) (Int.ofNat (posK l k)), Eqn.bool (hasK l k) (hasK l k), Eqn.int x x, Eqn.int y y, Eqn.sh (Sh.sl 1 (len l) (fnR (nth l))) (Sh.sl 1 (len l) (fnR (nth l))), Eqn.sh (Sh.sl 1 (len r) (fnR (nth r))) (Sh.sl 1 (len r) (fnR (nth r))), Eqn.nat (len l) (len l), Eqn.fun_ (intG (fnR (nth l))) (intG (fnR (nth l))), Eqn.nat (len r) (len r), Eqn.fun_ (intG (fnR (nth r))) (intG (fnR (nth r))), Eqn.int x x, Eqn.int y y, Eqn.int x x, Eqn.int y y, Eqn.sh (Sh.sl 1 (len l) (fnR (nth l))) (Sh.sl 1 (len l) (fnR (nth l))), Eqn.sh (Sh.sl 1 (len r) (fnR (nth r))) (Sh.sl 1 (len r) (fnR (nth r))), Eqn.int x x, Eqn.int y y, Eqn.int k k, Eqn.nat (A.subN (len l) (A.toN (Int.ofNat (posK l k)))) (A.subN (len l) (A.toN (Int.ofNat (posK l k)))), Eqn.fun_ (intG fun (j : Nat) => fnR (nth l) (A.addN (A.toN (Int.ofNat (posK l k))) j)) (intG fun (j : Nat) => fnR (nth l) (A.addN (A.toN (Int.ofNat (posK l k))) j)), Eqn.nat (A.addN (A.addN (A.toN (Int.ofNat (posK l k))) 1) (A.subN (len l) (A.toN (Int.ofNat (posK l k))))) (A.addN (A.addN (A.toN (Int.ofNat (posK l k))) 1) (A.subN (len l) (A.toN (Int.ofNat (posK l k))))), Eqn.fun_ (A.snoc (A.snoc (intG (fnR (nth l))) (A.toN (Int.ofNat (posK l k))) (nthL [[Sh.i .i64 k]])) (A.addN (A.toN (Int.ofNat (posK l k))) 1) (intG fun (j : Nat) => fnR (nth l) (A.addN (A.toN (Int.ofNat (posK l k))) j))) (A.snoc (A.snoc (intG (fnR (nth l))) (A.toN (Int.ofNat (posK l k))) (nthL [[Sh.i .i64 k]])) (A.addN (A.toN (Int.ofNat (posK l k))) 1) (intG fun (j : Nat) => fnR (nth l) (A.addN (A.toN (Int.ofNat (posK l k))) j)))]
noncomputable def a77_7_e3 (x y k v : Int) (l r : List Int) : List Eqn := [Eqn.int x x, Eqn.int y y, Eqn.sh (Sh.sl 1 (len l) (fnR (nth l))) (Sh.sl 1 (len l) (fnR (nth l))), Eqn.sh (Sh.sl 1 (len r) (fnR (nth r))) (Sh.sl 1 (len r) (fnR (nth r))), Eqn.int k k, Eqn.int v v, Eqn.int x x, Eqn.int y y, Eqn.sh (Sh.sl 1 (len l) (fnR (nth l))) (Sh.sl 1 (len l) (fnR (nth l))), Eqn.sh (Sh.sl 1 (len r) (fnR (nth r))) (Sh.sl 1 (len r) (fnR (nth r))), Eqn.nat (len l) (len l), Eqn.fun_ (intG (fnR (nth l))) (intG (fnR (nth l))), Eqn.nat (len r) (len r), Eqn.fun_ (intG (fnR (nth r))) (intG (fnR (nth r))), Eqn.int x x, Eqn.int y y]
theorem a77_7 (A : Prim) (W : Wd) (x y k v : Int) (l r : List Int) : runTo (C7 A W (spec77 0 l) sAl) nH0 300 400 77 [.code []] (start0 92 [rf4 x y l r, .v (.int .i64 7), .i .i64 k, .i .i64 v] L0) [] [] = need (okB Int (len l) (fnR (nth l))) (need (okB Int (len r) (fnR (nth r))) (need (isC x y (Int.ofNat 7) k v (Int.ofNat 0)) (need (plB (len l) (fnR (nth l))) (need (plB (len r) (fnR (nth r))) (need (plB (len r) (fnR (nth r))) (must (a77_7_e3 x y k v l r) (need (plB (len l) (fnR (nth l))) (need (plB (len r) (fnR (nth r))) (must (a77_7_e3 x y k v l r) (need (isL l (len l) (fnR (nth l))) (need (okB Int (len r) (fnR (nth r))) (node (hasK l k) (need (A.inB (Int.ofNat (posK l k)) (len r)) (leaf (Fe2.ret (Sh.tup [Sh.agg [Sh.i .i64 x, Sh.i .i64 y, Sh.os 3 1 (len l) (intG (fnR (nth l))), Sh.os 3 1 (len r) (A.upd (intG (fnR (nth r))) (A.toN (Int.ofNat (posK l k))) 0 [Sh.i .i64 v])], Sh.i .i64 (Int.ofNat 1), Sh.i .i64 (Int.ofNat 0), Sh.i .i64 (Int.ofNat 0)])))) (need (A.upTo (Int.ofNat (posK l k)) (len l)) (need (plB (A.toN (Int.ofNat (posK l k))) (fnR (nth l))) (need (A.room (A.addN (A.toN (Int.ofNat (posK l k))) 1) 8) (need (A.upTo (Int.ofNat (posK l k)) (len l)) (need (plB (A.subN (len l) (A.toN (Int.ofNat (posK l k)))) fun (j : Nat) => fnR (nth l) (A.addN (A.toN (Int.ofNat (posK l k))) j)) (need (A.room (A.addN (A.addN (A.toN (Int.ofNat (posK l k))) 1) (A.subN (len l) (A.toN (Int.ofNat (posK l k))))) 8) (need (A.upTo (Int.ofNat (posK l k)) (len l)) (need (A.room (A.addN (A.toN (Int.ofNat (posK l k))) 1) 8) (need (plB (A.subN (len l) (A.toN (Int.ofNat (posK l k)))) fun (j : Nat) => fnR (nth l) (A.addN (A.toN (Int.ofNat (posK l k))) j)) (need (A.room (A.addN (A.addN (A.toN (Int.ofNat (posK l k))) 1) (A.subN (len l) (A.toN (Int.ofNat (posK l k))))) 8) (must (a77_7_e2 A x y k v l r) (need (A.upTo (Int.ofNat (posK l k)) (len l)) (need (A.room (A.addN (A.toN (Int.ofNat (posK l k))) 1) 8) (need (plB (A.subN (len l) (A.toN (Int.ofNat (posK l k)))) fun (j : Nat) => fnR (nth l) (A.addN (A.toN (Int.ofNat (posK l k))) j)) (need (A.room (A.addN (A.addN (A.toN (Int.ofNat (posK l k))) 1) (A.subN (len l) (A.toN (Int.ofNat (posK l k))))) 8) (must (a77_7_e2 A x y k v l r) (need (plB (A.toN (Int.ofNat (posK l k))) (fnR (nth l))) (need (A.room (A.addN (A.toN (Int.ofNat (posK l k))) 1) 8) (need (A.upTo (Int.ofNat (posK l k)) (len l)) (need (plB (A.subN (len l) (A.toN (Int.ofNat (posK l k)))) fun (j : Nat) => fnR (nth l) (A.addN (A.toN (Int.ofNat (posK l k))) j)) (need (A.room (A.addN (A.addN (A.toN (Int.ofNat (posK l k))) 1) (A.subN (len l) (A.toN (Int.ofNat (posK l k))))) 8) (need (A.upTo (Int.ofNat (posK l k)) (len l)) (need (A.room (A.addN (A.toN (Int.ofNat (posK l k))) 1) 8) (need (plB (A.subN (len l) (A.toN (Int.ofNat (posK l k)))) fun (j : Nat) => fnR (nth l) (A.addN (A.toN (Int.ofNat (posK l k))) j)) (need (A.room (A.addN (A.addN (A.toN (Int.ofNat (posK l k))) 1) (A.subN (len l) (A.toN (Int.ofNat (posK l k))))) 8) (must (a77_7_e2 A x y k v l r) (need (A.upTo (Int.ofNat (posK l k)) (len l)) (need (plB (A.toN (Int.ofNat (posK l k))) (fnR (nth l))) (need (A.room (A.addN (A.toN (Int.ofNat (posK l k))) 1) 8) (need (plB (A.subN (len l) (A.toN (Int.ofNat (posK l k)))) fun (j : Nat) => fnR (nth l) (A.addN (A.toN (Int.ofNat (posK l k))) j)) (need (A.room (A.addN (A.addN (A.toN (Int.ofNat (posK l k))) 1) (A.subN (len l) (A.toN (Int.ofNat (posK l k))))) 8) (must (a77_7_e2 A x y k v l r) (need (A.upTo (Int.ofNat (posK l k)) (len l)) (need (plB (A.toN (Int.ofNat (posK l k))) (fnR (nth l))) (need (A.room (A.addN (A.toN (Int.ofNat (posK l k))) 1) 8) (need (plB (A.subN (len l) (A.toN (Int.ofNat (posK l k)))) fun (j : Nat) => fnR (nth l) (A.addN (A.toN (Int.ofNat (posK l k))) j)) (need (A.room (A.addN (A.addN (A.toN (Int.ofNat (posK l k))) 1) (A.subN (len l) (A.toN (Int.ofNat (posK l k))))) 8) (need (plB (A.toN (Int.ofNat (posK l k))) (fnR (nth l))) (need (A.room (A.addN (A.toN (Int.ofNat (posK l k))) 1) 8) (need (plB (A.subN (len l) (A.toN (Int.ofNat (posK l k)))) fun (j : Nat) => fnR (nth l) (A.addN (A.toN (Int.ofNat (posK l k))) j)) (need (A.room (A.addN (A.addN (A.toN (Int.ofNat (posK l k))) 1) (A.subN (len l) (A.toN (Int.ofNat (posK l k))))) 8) (must (a77_7_e2 A x y k v l r) (must (a77_7_e2 A x y k v l r) (must (a77_7_e2 A x y k v l r) (need (A.upTo (Int.ofNat (posK l k)) (len l)) (need (plB (A.toN (Int.ofNat (posK l k))) (fnR (nth l))) (need (A.room (A.addN (A.toN (Int.ofNat (posK l k))) 1) 8) (need (A.upTo (Int.ofNat (posK l k)) (len l)) (need (plB (A.subN (len l) (A.toN (Int.ofNat (posK l k)))) fun (j : Nat) => fnR (nth l) (A.addN (A.toN (Int.ofNat (posK l k))) j)) (need (A.room (A.addN (A.addN (A.toN (Int.ofNat (posK l k))) 1) (A.subN (len l) (A.toN (Int.ofNat (posK l k))))) 8) (need (A.upTo (Int.ofNat (posK l k)) (len l)) (need (A.room (A.addN (A.toN (Int.ofNat (posK l k))) 1) 8) (need (plB (A.subN (len l) (A.toN (Int.ofNat (posK l k)))) fun (j : Nat) => fnR (nth l) (A.addN (A.toN (Int.ofNat (posK l k))) j)) (need (A.room (A.addN (A.addN (A.toN (Int.ofNat (posK l k))) 1) (A.subN (len l) (A.toN (Int.ofNat (posK l k))))) 8) (must (a77_7_e2 A x y k v l r) (need (A.upTo (Int.ofNat (posK l k)) (len l)) (need (plB (A.toN (Int.ofNat (posK l k))) (fnR (nth l))) (need (A.room (A.addN (A.toN (Int.ofNat (posK l k))) 1) 8) (need (plB (A.subN (len l) (A.toN (Int.ofNat (posK l k)))) fun (j : Nat) => fnR (nth l) (A.addN (A.toN (Int.ofNat (posK l k))) j)) (need (A.room (A.addN (A.addN (A.toN (Int.ofNat (posK l k))) 1) (A.subN (len l) (A.toN (Int.ofNat (posK l k))))) 8) (must (a77_7_e2 A x y k v l r) (need (A.upTo (Int.ofNat (posK l k)) (len l)) (need (A.upTo (Int.ofNat (posK l k)) (len l)) (need (plB (A.toN (Int.ofNat (posK l k))) (fnR (nth l))) (need (A.room (A.addN (A.toN (Int.ofNat (posK l k))) 1) 8) (need (plB (A.subN (len l) (A.toN (Int.ofNat (posK l k)))) fun (j : Nat) => fnR (nth l) (A.addN (A.toN (Int.ofNat (posK l k))) j)) (need (A.room (A.addN (A.addN (A.toN (Int.ofNat (posK l k))) 1) (A.subN (len l) (A.toN (Int.ofNat (posK l k))))) 8) (must (a77_7_e2 A x y k v l r) (need (A.upTo (Int.ofNat (posK l k)) (len l)) (need (A.upTo (Int.ofNat (posK l k)) (len l)) (need (plB (A.toN (Int.ofNat (posK l k))) (fnR (nth l))) (need (A.room (A.addN (A.toN (Int.ofNat (posK l k))) 1) 8) (need (plB (A.subN (len l) (A.toN (Int.ofNat (posK l k)))) fun (j : Nat) => fnR (nth l) (A.addN (A.toN (Int.ofNat (posK l k))) j)) (need (A.room (A.addN (A.addN (A.toN (Int.ofNat (posK l k))) 1) (A.subN (len l) (A.toN (Int.ofNat (posK l k))))) 8) (need (plB (A.toN (Int.ofNat (posK l k))) (fnR (nth l))) (need (A.room (A.addN (A.toN (Int.ofNat (posK l k))) 1) 8) (need (plB (A.subN (len l) (A.toN (Int.ofNat (posK l k)))) fun (j : Nat) => fnR (nth l) (A.addN (A.toN (Int.ofNat (posK l k))) j)) (need (A.room (A.addN (A.addN (A.toN (Int.ofNat (posK l k))) 1) (A.subN (len l) (A.toN (Int.ofNat (posK l k))))) 8) (must (a77_7_e2 A x y k v l r) (need (A.upTo (Int.ofNat (posK l k)) (len l)) (need (plB (A.toN (Int.ofNat (posK l k))) (fnR (nth l))) (need (A.room (A.addN (A.toN (Int.ofNat (posK l k))) 1) 8) (need (plB (A.subN (len l) (A.toN (Int.ofNat (posK l k)))) fun (j : Nat) => fnR (nth l) (A.addN (A.toN (Int.ofNat (posK l k))) j)) (need (A.room (A.addN (A.addN (A.toN (Int.ofNat (posK l k))) 1) (A.subN (len l) (A.toN (Int.ofNat (posK l k))))) 8) (must (a77_7_e2 A x y k v l r) (must (a77_7_e2 A x y k v l r) (must (a77_7_e2 A x y k v l r) (need (A.upTo (Int.ofNat (posK l k)) (len r)) (need (plB (A.toN (Int.ofNat (posK l k))) (fnR (nth r))) (need (A.room (A.addN (A.toN (Int.ofNat (posK l k))) 1) 8) (need (A.upTo (Int.ofNat (posK l k)) (len r)) (need (plB (A.subN (len r) (A.toN (Int.ofNat (posK l k)))) fun (j : Nat) => fnR (nth r) (A.addN (A.toN (Int.ofNat (posK l k))) j)) (need (A.room (A.addN (A.addN (A.toN (Int.ofNat (posK l k))) 1) (A.subN (len r) (A.toN (Int.ofNat (posK l k))))) 8) (need (A.upTo (Int.ofNat (posK l k)) (len r)) (need (A.room (A.addN (A.toN (Int.ofNat (posK l k))) 1) 8) (need (plB (A.subN (len r) (A.toN (Int.ofNat (posK l k)))) fun (j : Nat) => fnR (nth r) (A.addN (A.toN (Int.ofNat (posK l k))) j)) (need (A.room (A.addN (A.addN (A.toN (Int.ofNat (posK l k))) 1) (A.subN (len r) (A.toN (Int.ofNat (posK l k))))) 8) (must (a77_7_e1 A x y k v l r) (need (A.upTo (Int.ofNat (posK l k)) (len r)) (need (A.room (A.addN (A.toN (Int.ofNat (posK l k))) 1) 8) (need (plB (A.subN (len r) (A.toN (Int.ofNat (posK l k)))) fun (j : Nat) => fnR (nth r) (A.addN (A.toN (Int.ofNat (posK l k))) j)) (need (A.room (A.addN (A.addN (A.toN (Int.ofNat (posK l k))) 1) (A.subN (len r) (A.toN (Int.ofNat (posK l k))))) 8) (must (a77_7_e1 A x y k v l r) (need (plB (A.toN (Int.ofNat (posK l k))) (fnR (nth r))) (need (A.room (A.addN (A.toN (Int.ofNat (posK l k))) 1) 8) (need (A.upTo (Int.ofNat (posK l k)) (len r)) (need (plB (A.subN (len r) (A.toN (Int.ofNat (posK l k)))) fun (j : Nat) => fnR (nth r) (A.addN (A.toN (Int.ofNat (posK l k))) j)) (need (A.room (A.addN (A.addN (A.toN (Int.ofNat (posK l k))) 1) (A.subN (len r) (A.toN (Int.ofNat (posK l k))))) 8) (need (A.upTo (Int.ofNat (posK l k)) (len r)) (need (A.room (A.addN (A.toN (Int.ofNat (posK l k))) 1) 8) (need (plB (A.subN (len r) (A.toN (Int.ofNat (posK l k)))) fun (j : Nat) => fnR (nth r) (A.addN (A.toN (Int.ofNat (posK l k))) j)) (need (A.room (A.addN (A.addN (A.toN (Int.ofNat (posK l k))) 1) (A.subN (len r) (A.toN (Int.ofNat (posK l k))))) 8) (must (a77_7_e1 A x y k v l r) (need (A.upTo (Int.ofNat (posK l k)) (len r)) (need (plB (A.toN (Int.ofNat (posK l k))) (fnR (nth r))) (need (A.room (A.addN (A.toN (Int.ofNat (posK l k))) 1) 8) (need (plB (A.subN (len r) (A.toN (Int.ofNat (posK l k)))) fun (j : Nat) => fnR (nth r) (A.addN (A.toN (Int.ofNat (posK l k))) j)) (need (A.room (A.addN (A.addN (A.toN (Int.ofNat (posK l k))) 1) (A.subN (len r) (A.toN (Int.ofNat (posK l k))))) 8) (must (a77_7_e1 A x y k v l r) (need (A.upTo (Int.ofNat (posK l k)) (len r)) (need (plB (A.toN (Int.ofNat (posK l k))) (fnR (nth r))) (need (A.room (A.addN (A.toN (Int.ofNat (posK l k))) 1) 8) (need (plB (A.subN (len r) (A.toN (Int.ofNat (posK l k)))) fun (j : Nat) => fnR (nth r) (A.addN (A.toN (Int.ofNat (posK l k))) j)) (need (A.room (A.addN (A.addN (A.toN (Int.ofNat (posK l k))) 1) (A.subN (len r) (A.toN (Int.ofNat (posK l k))))) 8) (need (plB (A.toN (Int.ofNat (posK l k))) (fnR (nth r))) (need (A.room (A.addN (A.toN (Int.ofNat (posK l k))) 1) 8) (need (plB (A.subN (len r) (A.toN (Int.ofNat (posK l k)))) fun (j : Nat) => fnR (nth r) (A.addN (A.toN (Int.ofNat (posK l k))) j)) (need (A.room (A.addN (A.addN (A.toN (Int.ofNat (posK l k))) 1) (A.subN (len r) (A.toN (Int.ofNat (posK l k))))) 8) (must (a77_7_e1 A x y k v l r) (must (a77_7_e1 A x y k v l r) (must (a77_7_e1 A x y k v l r) (need (A.upTo (Int.ofNat (posK l k)) (len r)) (need (plB (A.toN (Int.ofNat (posK l k))) (fnR (nth r))) (need (A.room (A.addN (A.toN (Int.ofNat (posK l k))) 1) 8) (need (A.upTo (Int.ofNat (posK l k)) (len r)) (need (plB (A.subN (len r) (A.toN (Int.ofNat (posK l k)))) fun (j : Nat) => fnR (nth r) (A.addN (A.toN (Int.ofNat (posK l k))) j)) (need (A.room (A.addN (A.addN (A.toN (Int.ofNat (posK l k))) 1) (A.subN (len r) (A.toN (Int.ofNat (posK l k))))) 8) (need (A.upTo (Int.ofNat (posK l k)) (len r)) (need (A.room (A.addN (A.toN (Int.ofNat (posK l k))) 1) 8) (need (plB (A.subN (len r) (A.toN (Int.ofNat (posK l k)))) fun (j : Nat) => fnR (nth r) (A.addN (A.toN (Int.ofNat (posK l k))) j)) (need (A.room (A.addN (A.addN (A.toN (Int.ofNat (posK l k))) 1) (A.subN (len r) (A.toN (Int.ofNat (posK l k))))) 8) (must (a77_7_e1 A x y k v l r) (need (A.upTo (Int.ofNat (posK l k)) (len r)) (need (plB (A.toN (Int.ofNat (posK l k))) (fnR (nth r))) (need (A.room (A.addN (A.toN (Int.ofNat (posK l k))) 1) 8) (need (plB (A.subN (len r) (A.toN (Int.ofNat (posK l k)))) fun (j : Nat) => fnR (nth r) (A.addN (A.toN (Int.ofNat (posK l k))) j)) (need (A.room (A.addN (A.addN (A.toN (Int.ofNat (posK l k))) 1) (A.subN (len r) (A.toN (Int.ofNat (posK l k))))) 8) (must (a77_7_e1 A x y k v l r) (need (A.upTo (Int.ofNat (posK l k)) (len r)) (need (A.upTo (Int.ofNat (posK l k)) (len r)) (need (plB (A.toN (Int.ofNat (posK l k))) (fnR (nth r))) (need (A.room (A.addN (A.toN (Int.ofNat (posK l k))) 1) 8) (need (plB (A.subN (len r) (A.toN (Int.ofNat (posK l k)))) fun (j : Nat) => fnR (nth r) (A.addN (A.toN (Int.ofNat (posK l k))) j)) (need (A.room (A.addN (A.addN (A.toN (Int.ofNat (posK l k))) 1) (A.subN (len r) (A.toN (Int.ofNat (posK l k))))) 8) (must (a77_7_e1 A x y k v l r) (need (A.upTo (Int.ofNat (posK l k)) (len r)) (need (A.upTo (Int.ofNat (posK l k)) (len r)) (need (plB (A.toN (Int.ofNat (posK l k))) (fnR (nth r))) (need (A.room (A.addN (A.toN (Int.ofNat (posK l k))) 1) 8) (need (plB (A.subN (len r) (A.toN (Int.ofNat (posK l k)))) fun (j : Nat) => fnR (nth r) (A.addN (A.toN (Int.ofNat (posK l k))) j)) (need (A.room (A.addN (A.addN (A.toN (Int.ofNat (posK l k))) 1) (A.subN (len r) (A.toN (Int.ofNat (posK l k))))) 8) (need (plB (A.toN (Int.ofNat (posK l k))) (fnR (nth r))) (need (A.room (A.addN (A.toN (Int.ofNat (posK l k))) 1) 8) (need (plB (A.subN (len r) (A.toN (Int.ofNat (posK l k)))) fun (j : Nat) => fnR (nth r) (A.addN (A.toN (Int.ofNat (posK l k))) j)) (need (A.room (A.addN (A.addN (A.toN (Int.ofNat (posK l k))) 1) (A.subN (len r) (A.toN (Int.ofNat (posK l k))))) 8) (must (a77_7_e1 A x y k v l r) (need (A.upTo (Int.ofNat (posK l k)) (len r)) (need (plB (A.toN (Int.ofNat (posK l k))) (fnR (nth r))) (need (A.room (A.addN (A.toN (Int.ofNat (posK l k))) 1) 8) (need (plB (A.subN (len r) (A.toN (Int.ofNat (posK l k)))) fun (j : Nat) => fnR (nth r) (A.addN (A.toN (Int.ofNat (posK l k))) j)) (need (A.room (A.addN (A.addN (A.toN (Int.ofNat (posK l k))) 1) (A.subN (len r) (A.toN (Int.ofNat (posK l k))))) 8) (must (a77_7_e1 A x y k v l r) (must (a77_7_e1 A x y k v l r) (must (a77_7_e1 A x y k v l r) (leaf (Fe2.ret (Sh.tup [Sh.agg [Sh.i .i64 x, Sh.i .i64 y, Sh.os 3 1 (A.addN (A.addN (A.toN (Int.ofNat (posK l k))) 1) (A.subN (len l) (A.toN (Int.ofNat (posK l k))))) (A.snoc (A.snoc (intG (fnR (nth l))) (A.toN (Int.ofNat (posK l k))) (nthL [[Sh.i .i64 k]])) (A.addN (A.toN (Int.ofNat (posK l k))) 1) (intG fun (j : Nat) => fnR (nth l) (A.addN (A.toN (Int.ofNat (posK l k))) j))), Sh.os 3 1 (A.addN (A.addN (A.toN (Int.ofNat (posK l k))) 1) (A.subN (len r) (A.toN (Int.ofNat (posK l k))))) (A.snoc (A.snoc (intG (fnR (nth r))) (A.toN (Int.ofNat (posK l k))) (nthL [[Sh.i .i64 v]])) (A.addN (A.toN (Int.ofNat (posK l k))) 1) (intG fun (j : Nat) => fnR (nth r) (A.addN (A.toN (Int.ofNat (posK l k))) j)))], Sh.i .i64 (Int.ofNat 1), Sh.i .i64 (Int.ofNat 0), Sh.i .i64 (Int.ofNat 0)]))))))))))))))))))))))))))))))))))))))))))))))))))))))))))))))))))))))))))))))))))))))))))))))))))))))))))))))))))))))))))))))))))))))))))))))))))))))))))))))))))))))))))))))))))))))))))))) := by kernel_rfl
noncomputable def a77_8_e1 (x y k v : Int) (l r : List Int) : List Eqn := [Eqn.int x x, Eqn.int y y, Eqn.sh (Sh.sl 1 (len l) (fnR (nth l))) (Sh.sl 1 (len l) (fnR (nth l))), Eqn.sh (Sh.sl 1 (len r) (fnR (nth r))) (Sh.sl 1 (len r) (fnR (nth r))), Eqn.int k k, Eqn.int v v, Eqn.int x x, Eqn.int y y, Eqn.sh (Sh.sl 1 (len l) (fnR (nth l))) (Sh.sl 1 (len l) (fnR (nth l))), Eqn.sh (Sh.sl 1 (len r) (fnR (nth r))) (Sh.sl 1 (len r) (fnR (nth r))), Eqn.nat (len l) (len l), Eqn.fun_ (intG (fnR (nth l))) (intG (fnR (nth l))), Eqn.nat (len r) (len r), Eqn.fun_ (intG (fnR (nth r))) (intG (fnR (nth r))), Eqn.int x x, Eqn.int y y]
theorem a77_8 (A : Prim) (W : Wd) (x y k v : Int) (l r : List Int) : runTo (C7 A W (spec77 0 l) sAl) nH0 300 400 77 [.code []] (start0 92 [rf4 x y l r, .v (.int .i64 8), .i .i64 k, .i .i64 v] L0) [] [] = need (okB Int (len l) (fnR (nth l))) (need (okB Int (len r) (fnR (nth r))) (need (isC x y (Int.ofNat 8) k v (Int.ofNat 0)) (need (plB (len l) (fnR (nth l))) (need (plB (len r) (fnR (nth r))) (need (plB (len r) (fnR (nth r))) (must (a77_8_e1 x y k v l r) (need (plB (len l) (fnR (nth l))) (need (plB (len r) (fnR (nth r))) (must (a77_8_e1 x y k v l r) (need (isL l (len l) (fnR (nth l))) (need (okB Int (len r) (fnR (nth r))) (node (A.nt (hasK l k)) (leaf (Fe2.ret (Sh.tup [Sh.agg [Sh.i .i64 x, Sh.i .i64 y, Sh.os 3 1 (len l) (intG (fnR (nth l))), Sh.os 3 1 (len r) (intG (fnR (nth r)))], Sh.i .i64 (Int.ofNat 2), Sh.i .i64 (Int.ofNat 0), Sh.i .i64 (Int.ofNat 0)]))) (need (A.inB (Int.ofNat (posK l k)) (len r)) (leaf (Fe2.ret (Sh.tup [Sh.agg [Sh.i .i64 x, Sh.i .i64 y, Sh.os 3 1 (len l) (intG (fnR (nth l))), Sh.os 3 1 (len r) (intG (fnR (nth r)))], Sh.i .i64 (Int.ofNat 3), Sh.i .i64 (nth r (A.toN (Int.ofNat (posK l k)))), Sh.i .i64 (Int.ofNat 0)])))))))))))))))) := by kernel_rfl
noncomputable def a77_9_e1 (A : Prim) (x y k v : Int) (l r : List Int) : List Eqn := [Eqn.int x x, Eqn.int y y, Eqn.sh (Sh.sl 1 (len l) (fnR (nth l))) (Sh.sl 1 (len l) (fnR (nth l))), Eqn.sh (Sh.sl 1 (len r) (fnR (nth r))) (Sh.sl 1 (len r) (fnR (nth r))), Eqn.int x x, Eqn.int y y, Eqn.int k k, Eqn.int v v, Eqn.int (Int.ofNat (posK l k)) (Int.ofNat (posK l k)), Eqn.bool (hasK l k) (hasK l k), Eqn.int x x, Eqn.int y y, Eqn.sh (Sh.sl 1 (len l) (fnR (nth l))) (Sh.sl 1 (len l) (fnR (nth l))), Eqn.sh (Sh.sl 1 (len r) (fnR (nth r))) (Sh.sl 1 (len r) (fnR (nth r))), Eqn.nat (len l) (len l), Eqn.fun_ (intG (fnR (nth l))) (intG (fnR (nth l))), Eqn.nat (len r) (len r), Eqn.fun_ (intG (fnR (nth r))) (intG (fnR (nth r))), Eqn.int x x, Eqn.int y y, Eqn.int x x, Eqn.int y y, Eqn.sh (Sh.sl 1 (len l) (fnR (nth l))) (Sh.sl 1 (len l) (fnR (nth l))), Eqn.sh (Sh.sl 1 (len r) (fnR (nth r))) (Sh.sl 1 (len r) (fnR (nth r))), Eqn.int x x, Eqn.int y y, Eqn.nat (A.subN (len l) (A.toN (A.add .i64 (Int.ofNat (posK l k)) (Int.ofNat 1)))) (A.subN (len l) (A.toN (A.add .i64 (Int.ofNat (posK l k)) (Int.ofNat 1)))), Eqn.fun_ (intG fun (j : Nat) => fnR (nth l) (A.addN (A.toN (A.add .i64 (Int.ofNat (posK l k)) 1)) j)) (intG fun (j : Nat) => fnR (nth l) (A.addN (A.toN (A.add .i64 (Int.ofNat (posK l k)) 1)) j)), Eqn.nat (A.addN (A.toN (Int.ofNat (posK l k))) (A.subN (len l) (A.toN (A.add .i64 (Int.ofNat (posK l k)) (Int.ofNat 1))))) (A.addN (A.toN (Int.ofNat (posK l k))) (A.subN (len l) (A.toN (A.add .i64 (Int.ofNat (posK l k)) (Int.ofNat 1))))), Eqn.fun_ (A.snoc (intG (fnR (nth l))) (A.toN (Int.ofNat (posK l k))) (intG fun (j : Nat) => fnR (nth l) (A.addN (A.toN (A.add .i64 (Int.ofNat (posK l k)) 1)) j))) (A.snoc (intG (fnR (nth l))) (A.toN (Int.ofNat (posK l k))) (intG fun (j : Nat) => fnR (nth l) (A.addN (A.toN (A.add .i64 (Int.ofNat (posK l k)) 1)) j))), Eqn.nat (A.subN (len r) (A.toN (A.add .i64 (Int.ofNat (posK l k)) (Int.ofNat 1)))) (A.subN (len r) (A.toN (A.add .i64 (Int.ofNat (posK l k)) (Int.ofNat 1)))), Eqn.fun_ (intG fun (j : Nat) => fnR (nth r) (A.addN (A.toN (A.add .i64 (Int.ofNat (posK l k)) 1)) j)) (intG fun (j : Nat) => fnR (nth r) (A.addN (A.toN (A.add .i64 (Int.ofNat (posK l k)) 1)) j)), Eqn.nat (A.addN (A.toN (Int.ofNat (posK l k))) (A.subN (len r) (A.toN (A.add .i64 (Int.ofNat (posK l k)) (Int.ofNat 1))))) (A.addN (A.toN (Int.ofNat (posK l k))) (A.subN (len r) (A.toN (A.add .i64 (Int.ofNat (posK l k)) (Int.ofNat 1))))), Eqn.fun_ (A.snoc (intG (fnR (nth r))) (A.toN (Int.ofNat (posK l k))) (intG fun (j : Nat) => fnR (nth r) (A.addN (A.toN (A.add .i64 (Int.ofNat (posK l k)) 1)) j))) (A.snoc (intG (fnR (nth r))) (A.toN (Int.ofNat (posK l k))) (intG fun (j : Nat) => fnR (nth r) (A.addN (A.toN (A.add .i64 (Int.ofNat (posK l k)) 1)) j)))]
noncomputable def a77_9_e2 (A : Prim) (x y k v : Int) (l r : List Int) : List Eqn := [Eqn.int x x, Eqn.int y y, Eqn.sh (Sh.sl 1 (len l) (fnR (nth l))) (Sh.sl 1 (len l) (fnR (nth l))), Eqn.sh (Sh.sl 1 (len r) (fnR (nth r))) (Sh.sl 1 (len r) (fnR (nth r))), Eqn.int x x, Eqn.int y y, Eqn.int k k, Eqn.int v v, Eqn.int (Int.ofNat (posK l k)) (Int.ofNat (posK l k)), Eqn.bool (hasK l k) (hasK l k), Eqn.int x x, Eqn.int y y, Eqn.sh (Sh.sl 1 (len l) (fnR (nth l))) (Sh.sl 1 (len l) (fnR (nth l))), Eqn.sh (Sh.sl 1 (len r) (fnR (nth r))) (Sh.sl 1 (len r) (fnR (nth r))), Eqn.nat (len l) (len l), Eqn.fun_ (intG (fnR (nth l))) (intG (fnR (nth l))), Eqn.nat (len r) (len r), Eqn.fun_ (intG (fnR (nth r))) (intG (fnR (nth r))), Eqn.int x x, Eqn.int y y, Eqn.int x x, Eqn.int y y, Eqn.sh (Sh.sl 1 (len l) (fnR (nth l))) (Sh.sl 1 (len l) (fnR (nth l))), Eqn.sh (Sh.sl 1 (len r) (fnR (nth r))) (Sh.sl 1 (len r) (fnR (nth r))), Eqn.int x x, Eqn.int y y, Eqn.nat (A.subN (len l) (A.toN (A.add .i64 (Int.ofNat (posK l k)) (Int.ofNat 1)))) (A.subN (len l) (A.toN (A.add .i64 (Int.ofNat (posK l k)) (Int.ofNat 1)))), Eqn.fun_ (intG fun (j : Nat) => fnR (nth l) (A.addN (A.toN (A.add .i64 (Int.ofNat (posK l k)) 1)) j)) (intG fun (j : Nat) => fnR (nth l) (A.addN (A.toN (A.add .i64 (Int.ofNat (posK l k)) 1)) j)), Eqn.nat (A.addN (A.toN (Int.ofNat (posK l k))) (A.subN (len l) (A.toN (A.add .i64 (Int.ofNat (posK l k)) (Int.ofNat 1))))) (A.addN (A.toN (Int.ofNat (posK l k))) (A.subN (len l) (A.toN (A.add .i64 (Int.ofNat (posK l k)) (Int.ofNat 1))))), Eqn.fun_ (A.snoc (intG (fnR (nth l))) (A.toN (Int.ofNat (posK l k))) (intG fun (j : Nat) => fnR (nth l) (A.addN (A.toN (A.add .i64 (Int.ofNat (posK l k)) 1)) j))) (A.snoc (intG (fnR (nth l))) (A.toN (Int.ofNat (posK l k))) (intG fun (j : Nat) => fnR (nth l) (A.addN (A.toN (A.add .i64 (Int.ofNat (posK l k)) 1)) j)))]
noncomputable def a77_9_e3 (x y k v : Int) (l r : List Int) : List Eqn := [Eqn.int x x, Eqn.int y y, Eqn.sh (Sh.sl 1 (len l) (fnR (nth l))) (Sh.sl 1 (len l) (fnR (nth l))), Eqn.sh (Sh.sl 1 (len r) (fnR (nth r))) (Sh.sl 1 (len r) (fnR (nth r))), Eqn.int k k, Eqn.int v v, Eqn.int x x, Eqn.int y y, Eqn.sh (Sh.sl 1 (len l) (fnR (nth l))) (Sh.sl 1 (len l) (fnR (nth l))), Eqn.sh (Sh.sl 1 (len r) (fnR (nth r))) (Sh.sl 1 (len r) (fnR (nth r))), Eqn.nat (len l) (len l), Eqn.fun_ (intG (fnR (nth l))) (intG (fnR (nth l))), Eqn.nat (len r) (len r), Eqn.fun_ (intG (fnR (nth r))) (intG (fnR (nth r))), Eqn.int x x, Eqn.int y y]
theorem a77_9 (A : Prim) (W : Wd) (x y k v : Int) (l r : List Int) : runTo (C7 A W (spec77 0 l) sAl) nH0 300 400 77 [.code []] (start0 92 [rf4 x y l r, .v (.int .i64 9), .i .i64 k, .i .i64 v] L0) [] [] = need (okB Int (len l) (fnR (nth l))) (need (okB Int (len r) (fnR (nth r))) (need (isC x y (Int.ofNat 9) k v (Int.ofNat 0)) (need (plB (len l) (fnR (nth l))) (need (plB (len r) (fnR (nth r))) (need (plB (len r) (fnR (nth r))) (must (a77_9_e3 x y k v l r) (need (plB (len l) (fnR (nth l))) (need (plB (len r) (fnR (nth r))) (must (a77_9_e3 x y k v l r) (need (isL l (len l) (fnR (nth l))) (need (okB Int (len r) (fnR (nth r))) (node (A.nt (hasK l k)) (leaf (Fe2.ret (Sh.tup [Sh.agg [Sh.i .i64 x, Sh.i .i64 y, Sh.os 3 1 (len l) (intG (fnR (nth l))), Sh.os 3 1 (len r) (intG (fnR (nth r)))], Sh.i .i64 (Int.ofNat 2), Sh.i .i64 (Int.ofNat 0), Sh.i .i64 (Int.ofNat 0)]))) (need (A.upTo (Int.ofNat (posK l k)) (len l)) (need (plB (A.toN (Int.ofNat (posK l k))) (fnR (nth l))) (need (A.upTo (A.add .i64 (Int.ofNat (posK l k)) (Int.ofNat 1)) (len l)) (need (plB (A.subN (len l) (A.toN (A.add .i64 (Int.ofNat (posK l k)) (Int.ofNat 1)))) fun (j : Nat) => fnR (nth l) (A.addN (A.toN (A.add .i64 (Int.ofNat (posK l k)) 1)) j)) (need (A.room (A.addN (A.toN (Int.ofNat (posK l k))) (A.subN (len l) (A.toN (A.add .i64 (Int.ofNat (posK l k)) (Int.ofNat 1))))) 8) (need (A.upTo (A.add .i64 (Int.ofNat (posK l k)) (Int.ofNat 1)) (len l)) (need (plB (A.toN (Int.ofNat (posK l k))) (fnR (nth l))) (need (plB (A.subN (len l) (A.toN (A.add .i64 (Int.ofNat (posK l k)) (Int.ofNat 1)))) fun (j : Nat) => fnR (nth l) (A.addN (A.toN (A.add .i64 (Int.ofNat (posK l k)) 1)) j)) (need (A.room (A.addN (A.toN (Int.ofNat (posK l k))) (A.subN (len l) (A.toN (A.add .i64 (Int.ofNat (posK l k)) (Int.ofNat 1))))) 8) (must (a77_9_e2 A x y k v l r) (need (A.upTo (A.add .i64 (Int.ofNat (posK l k)) (Int.ofNat 1)) (len l)) (need (A.upTo (Int.ofNat (posK l k)) (len l)) (need (plB (A.toN (Int.ofNat (posK l k))) (fnR (nth l))) (need (plB (A.subN (len l) (A.toN (A.add .i64 (Int.ofNat (posK l k)) (Int.ofNat 1)))) fun (j : Nat) => fnR (nth l) (A.addN (A.toN (A.add .i64 (Int.ofNat (posK l k)) 1)) j)) (need (A.room (A.addN (A.toN (Int.ofNat (posK l k))) (A.subN (len l) (A.toN (A.add .i64 (Int.ofNat (posK l k)) (Int.ofNat 1))))) 8) (must (a77_9_e2 A x y k v l r) (need (A.upTo (Int.ofNat (posK l k)) (len r)) (need (plB (A.toN (Int.ofNat (posK l k))) (fnR (nth r))) (need (A.upTo (A.add .i64 (Int.ofNat (posK l k)) (Int.ofNat 1)) (len r)) (need (plB (A.subN (len r) (A.toN (A.add .i64 (Int.ofNat (posK l k)) (Int.ofNat 1)))) fun (j : Nat) => fnR (nth r) (A.addN (A.toN (A.add .i64 (Int.ofNat (posK l k)) 1)) j)) (need (A.room (A.addN (A.toN (Int.ofNat (posK l k))) (A.subN (len r) (A.toN (A.add .i64 (Int.ofNat (posK l k)) (Int.ofNat 1))))) 8) (need (A.upTo (A.add .i64 (Int.ofNat (posK l k)) (Int.ofNat 1)) (len r)) (need (plB (A.toN (Int.ofNat (posK l k))) (fnR (nth r))) (need (plB (A.subN (len r) (A.toN (A.add .i64 (Int.ofNat (posK l k)) (Int.ofNat 1)))) fun (j : Nat) => fnR (nth r) (A.addN (A.toN (A.add .i64 (Int.ofNat (posK l k)) 1)) j)) (need (A.room (A.addN (A.toN (Int.ofNat (posK l k))) (A.subN (len r) (A.toN (A.add .i64 (Int.ofNat (posK l k)) (Int.ofNat 1))))) 8) (must (a77_9_e1 A x y k v l r) (need (A.upTo (A.add .i64 (Int.ofNat (posK l k)) (Int.ofNat 1)) (len r)) (need (A.upTo (Int.ofNat (posK l k)) (len r)) (need (plB (A.toN (Int.ofNat (posK l k))) (fnR (nth r))) (need (plB (A.subN (len r) (A.toN (A.add .i64 (Int.ofNat (posK l k)) (Int.ofNat 1)))) fun (j : Nat) => fnR (nth r) (A.addN (A.toN (A.add .i64 (Int.ofNat (posK l k)) 1)) j)) (need (A.room (A.addN (A.toN (Int.ofNat (posK l k))) (A.subN (len r) (A.toN (A.add .i64 (Int.ofNat (posK l k)) (Int.ofNat 1))))) 8) (must (a77_9_e1 A x y k v l r) (need (A.inB (Int.ofNat (posK l k)) (len r)) (leaf (Fe2.ret (Sh.tup [Sh.agg [Sh.i .i64 x, Sh.i .i64 y, Sh.os 3 1 (A.addN (A.toN (Int.ofNat (posK l k))) (A.subN (len l) (A.toN (A.add .i64 (Int.ofNat (posK l k)) (Int.ofNat 1))))) (A.snoc (intG (fnR (nth l))) (A.toN (Int.ofNat (posK l k))) (intG fun (j : Nat) => fnR (nth l) (A.addN (A.toN (A.add .i64 (Int.ofNat (posK l k)) 1)) j))), Sh.os 3 1 (A.addN (A.toN (Int.ofNat (posK l k))) (A.subN (len r) (A.toN (A.add .i64 (Int.ofNat (posK l k)) (Int.ofNat 1))))) (A.snoc (intG (fnR (nth r))) (A.toN (Int.ofNat (posK l k))) (intG fun (j : Nat) => fnR (nth r) (A.addN (A.toN (A.add .i64 (Int.ofNat (posK l k)) 1)) j)))], Sh.i .i64 (Int.ofNat 3), Sh.i .i64 (nth r (A.toN (Int.ofNat (posK l k)))), Sh.i .i64 (Int.ofNat 0)])))))))))))))))))))))))))))))))))))))))))))))))) := by kernel_rfl
end Go.Proofs
namespace Go.Proofs
open Go.Sx.Tree
open Go Go.Sx Go.Pl
theorem a77_1_e1_k (x y k v : Int) (l r : List Int) : Eqn.all (a77_1_e1 x y k v l r) := ⟨rfl, rfl, rfl, rfl, rfl, rfl, rfl, rfl, rfl, rfl, rfl, rfl, rfl, rfl, rfl, rfl, trivial⟩
theorem a77_2_e1_k (x y k v : Int) (l r : List Int) : Eqn.all (a77_2_e1 x y k v l r) := ⟨rfl, rfl, rfl, rfl, rfl, rfl, rfl, rfl, rfl, rfl, rfl, rfl, rfl, rfl, rfl, rfl, trivial⟩
theorem a77_3_e1_k (x y k v : Int) (l r : List Int) : Eqn.all (a77_3_e1 x y k v l r) := ⟨rfl, rfl, rfl, rfl, rfl, rfl, rfl, rfl, rfl, rfl, rfl, rfl, rfl, rfl, rfl, rfl, trivial⟩
theorem a77_4_e1_k (x y k v : Int) (l r : List Int) : Eqn.all (a77_4_e1 x y k v l r) := ⟨rfl, rfl, rfl, rfl, rfl, rfl, rfl, rfl, rfl, rfl, rfl, rfl, rfl, rfl, rfl, rfl, trivial⟩
theorem a77_5_e1_k (x y k v : Int) (l r : List Int) : Eqn.all (a77_5_e1 x y k v l r) := ⟨rfl, rfl, rfl, rfl, rfl, rfl, rfl, rfl, rfl, rfl, rfl, rfl, rfl, rfl, rfl, rfl, trivial⟩
theorem a77_6_e1_k (x y k v : Int) (l r : List Int) : Eqn.all (a77_6_e1 x y k v l r) := ⟨rfl, rfl, rfl, rfl, rfl, rfl, rfl, rfl, rfl, rfl, rfl, rfl, rfl, rfl, rfl, rfl, trivial⟩
theorem a77_7_e3_k (x y k v : Int) (l r : List Int) : Eqn.all (a77_7_e3 x y k v l r) := ⟨rfl, rfl, rfl, rfl, rfl, rfl, rfl, rfl, rfl, rfl, rfl, rfl, rfl, rfl, rfl, rfl, trivial⟩
theorem a77_7_e2_k (A : Prim) (x y k v : Int) (l r : List Int) : Eqn.all (a77_7_e2 A x y k v l r) := ⟨rfl, rfl, rfl, rfl, rfl, rfl, rfl, rfl, rfl, rfl, rfl, rfl, rfl, rfl, rfl, rfl, rfl, rfl, rfl, rfl, rfl, rfl, rfl, rfl, rfl, rfl, rfl, rfl, rfl, rfl, rfl, trivial⟩
theorem a77_7_e1_k (A : Prim) (x y k v : Int) (l r : List Int) : Eqn.all (a77_7_e1 A x y k v l r) := ⟨rfl, rfl, rfl, rfl, rfl, rfl, rfl, rfl, rfl, rfl, rfl, rfl, rfl, rfl, rfl, rfl, rfl, rfl, rfl, rfl, rfl, rfl, rfl, rfl, rfl, rfl, rfl, rfl, rfl, rfl, rfl, rfl, rfl, rfl, rfl, rfl, trivial⟩
theorem a77_8_e1_k (x y k v : Int) (l r : List Int) : Eqn.all (a77_8_e1 x y k v l r) := ⟨rfl, rfl, rfl, rfl, rfl, rfl, rfl, rfl, rfl, rfl, rfl, rfl, rfl, rfl, rfl, rfl, trivial⟩
theorem a77_9_e3_k (x y k v : Int) (l r : List Int) : Eqn.all (a77_9_e3 x y k v l r) := ⟨rfl, rfl, rfl, rfl, rfl, rfl, rfl, rfl, rfl, rfl, rfl, rfl, rfl, rfl, rfl, rfl, trivial⟩
theorem a77_9_e2_k (A : Prim) (x y k v : Int) (l r : List Int) : Eqn.all (a77_9_e2 A x y k v l r) := ⟨rfl, rfl, rfl, rfl, rfl, rfl, rfl, rfl, rfl, rfl, rfl, rfl, rfl, rfl, rfl, rfl, rfl, rfl, rfl, rfl, rfl, rfl, rfl, rfl, rfl, rfl, rfl, rfl, rfl, rfl, trivial⟩
theorem a77_9_e1_k (A : Prim) (x y k v : Int) (l r : List Int) : Eqn.all (a77_9_e1 A x y k v l r) := ⟨rfl, rfl, rfl, rfl, rfl, rfl, rfl, rfl, rfl, rfl, rfl, rfl, rfl, rfl, rfl, rfl, rfl, rfl, rfl, rfl, rfl, rfl, rfl, rfl, rfl, rfl, rfl, rfl, rfl, rfl, rfl, rfl, rfl, rfl, trivial⟩
theorem all_a111 (A : Prim) (W : Wd) (x y op k v : Int) (l r : List Int) {ψ : Fe2 → Prop} {c0 c1 c2 c3 c4 c5 c6 c7 c8 c9 c10 c11 c12 : Bool} (e0 : A.eq x (Int.ofNat 0) = c0) (e1 : A.nt (A.eq (ofOp op) x) = c1) (e2 : A.nt (keyed op) = c2) (e3 : A.nt (A.eq k (Int.ofNat 0)) = c3) (e4 : A.lt k (Int.ofNat 0) = c4) (e5 : A.lt (Int.ofNat 1000) k = c5) (e6 : A.nt (valued op) = c6) (e7 : A.nt (A.eq v (Int.ofNat 0)) = c7) (e8 : A.lt v (Int.negSucc 999999999) = c8) (e9 : A.lt (Int.ofNat 1000000000) v = c9) (e10 : A.eq op (Int.ofNat 3) = c10) (e11 : A.lt (A.add .i64 y v) (Int.negSucc 999999999999999) = c11) (e12 : A.lt (Int.ofNat 1000000000000000) (A.add .i64 y v) = c12) (y1 : c0 = true → ψ (Fe2.ret (Sh.i .i64 (Int.ofNat 111)))) (y2 : c0 = false → c1 = true → ψ (Fe2.ret (Sh.i .i64 (Int.ofNat 111)))) (y3 : c0 = false → c1 = false → c2 = true → c3 = true → ψ (Fe2.ret (Sh.i .i64 (Int.ofNat 110)))) (y4 : c0 = false → c1 = false → c2 = true → c3 = false → c4 = true → ψ (Fe2.ret (Sh.i .i64 (Int.ofNat 110)))) (y5 : c0 = false → c1 = false → c2 = true → c3 = false → c4 = false → c5 = true → ψ (Fe2.ret (Sh.i .i64 (Int.ofNat 110)))) (y6 : c0 = false → c1 = false → c2 = true → c3 = false → c4 = false → c5 = false → c6 = true → c7 = true → ψ (Fe2.ret (Sh.i .i64 (Int.ofNat 110)))) (y7 : c0 = false → c1 = false → c2 = true → c3 = false → c4 = false → c5 = false → c6 = true → c7 = false → c8 = true → ψ (Fe2.ret (Sh.i .i64 (Int.ofNat 110)))) (y8 : c0 = false → c1 = false → c2 = true → c3 = false → c4 = false → c5 = false → c6 = true → c7 = false → c8 = false → c9 = true → ψ (Fe2.ret (Sh.i .i64 (Int.ofNat 110)))) (y9 : c0 = false → c1 = false → c2 = true → c3 = false → c4 = false → c5 = false → c6 = true → c7 = false → c8 = false → c9 = false → c10 = true → c11 = true → ψ (Fe2.ret (Sh.i .i64 (Int.ofNat 110)))) (y10 : c0 = false → c1 = false → c2 = true → c3 = false → c4 = false → c5 = false → c6 = true → c7 = false → c8 = false → c9 = false → c10 = true → c11 = false → c12 = true → ψ (Fe2.ret (Sh.i .i64 (Int.ofNat 110)))) (y11 : c0 = false → c1 = false → c2 = true → c3 = false → c4 = false → c5 = false → c6 = true → c7 = false → c8 = false → c9 = false → c10 = true → c11 = false → c12 = false → ψ (Fe2.ret (Sh.i .i64 (Int.ofNat 0)))) (y12 : c0 = false → c1 = false → c2 = true → c3 = false → c4 = false → c5 = false → c6 = true → c7 = false → c8 = false → c9 = false → c10 = false → ψ (Fe2.ret (Sh.i .i64 (Int.ofNat 0)))) (y13 : c0 = false → c1 = false → c2 = true → c3 = false → c4 = false → c5 = false → c6 = false → c8 = true → ψ (Fe2.ret (Sh.i .i64 (Int.ofNat 110)))) (y14 : c0 = false → c1 = false → c2 = true → c3 = false → c4 = false → c5 = false → c6 = false → c8 = false → c9 = true → ψ (Fe2.ret (Sh.i .i64 (Int.ofNat 110)))) (y15 : c0 = false → c1 = false → c2 = true → c3 = false → c4 = false → c5 = false → c6 = false → c8 = false → c9 = false → c10 = true → c11 = true → ψ (Fe2.ret (Sh.i .i64 (Int.ofNat 110)))) (y16 : c0 = false → c1 = false → c2 = true → c3 = false → c4 = false → c5 = false → c6 = false → c8 = false → c9 = false → c10 = true → c11 = false → c12 = true → ψ (Fe2.ret (Sh.i .i64 (Int.ofNat 110)))) (y17 : c0 = false → c1 = false → c2 = true → c3 = false → c4 = false → c5 = false → c6 = false → c8 = false → c9 = false → c10 = true → c11 = false → c12 = false → ψ (Fe2.ret (Sh.i .i64 (Int.ofNat 0)))) (y18 : c0 = false → c1 = false → c2 = true → c3 = false → c4 = false → c5 = false → c6 = false → c8 = false → c9 = false → c10 = false → ψ (Fe2.ret (Sh.i .i64 (Int.ofNat 0)))) (y19 : c0 = false → c1 = false → c2 = false → c4 = true → ψ (Fe2.ret (Sh.i .i64 (Int.ofNat 110)))) (y20 : c0 = false → c1 = false → c2 = false → c4 = false → c5 = true → ψ (Fe2.ret (Sh.i .i64 (Int.ofNat 110)))) (y21 : c0 = false → c1 = false → c2 = false → c4 = false → c5 = false → c6 = true → c7 = true → ψ (Fe2.ret (Sh.i .i64 (Int.ofNat 110)))) (y22 : c0 = false → c1 = false → c2 = false → c4 = false → c5 = false → c6 = true → c7 = false → c8 = true → ψ (Fe2.ret (Sh.i .i64 (Int.ofNat 110)))) (y23 : c0 = false → c1 = false → c2 = false → c4 = false → c5 = false → c6 = true → c7 = false → c8 = false → c9 = true → ψ (Fe2.ret (Sh.i .i64 (Int.ofNat 110)))) (y24 : c0 = false → c1 = false → c2 = false → c4 = false → c5 = false → c6 = true → c7 = false → c8 = false → c9 = false → c10 = true → c11 = true → ψ (Fe2.ret (Sh.i .i64 (Int.ofNat 110)))) (y25 : c0 = false → c1 = false → c2 = false → c4 = false → c5 = false → c6 = true → c7 = false → c8 = false → c9 = false → c10 = true → c11 = false → c12 = true → ψ (Fe2.ret (Sh.i .i64 (Int.ofNat 110)))) (y26 : c0 = false → c1 = false → c2 = false → c4 = false → c5 = false → c6 = true → c7 = false → c8 = false → c9 = false → c10 = true → c11 = false → c12 = false → ψ (Fe2.ret (Sh.i .i64 (Int.ofNat 0)))) (y27 : c0 = false → c1 = false → c2 = false → c4 = false → c5 = false → c6 = true → c7 = false → c8 = false → c9 = false → c10 = false → ψ (Fe2.ret (Sh.i .i64 (Int.ofNat 0)))) (y28 : c0 = false → c1 = false → c2 = false → c4 = false → c5 = false → c6 = false → c8 = true → ψ (Fe2.ret (Sh.i .i64 (Int.ofNat 110)))) (y29 : c0 = false → c1 = false → c2 = false → c4 = false → c5 = false → c6 = false → c8 = false → c9 = true → ψ (Fe2.ret (Sh.i .i64 (Int.ofNat 110)))) (y30 : c0 = false → c1 = false → c2 = false → c4 = false → c5 = false → c6 = false → c8 = false → c9 = false → c10 = true → c11 = true → ψ (Fe2.ret (Sh.i .i64 (Int.ofNat 110)))) (y31 : c0 = false → c1 = false → c2 = false → c4 = false → c5 = false → c6 = false → c8 = false → c9 = false → c10 = true → c11 = false → c12 = true → ψ (Fe2.ret (Sh.i .i64 (Int.ofNat 110)))) (y32 : c0 = false → c1 = false → c2 = false → c4 = false → c5 = false → c6 = false → c8 = false → c9 = false → c10 = true → c11 = false → c12 = false → ψ (Fe2.ret (Sh.i .i64 (Int.ofNat 0)))) (y33 : c0 = false → c1 = false → c2 = false → c4 = false → c5 = false → c6 = false → c8 = false → c9 = false → c10 = false → ψ (Fe2.ret (Sh.i .i64 (Int.ofNat 0)))) : MeetsT ψ (runTo (C7 A W spec111 sAl) nH0 300 400 111 [.code []] (start0 67 [rf4 x y l r, .i .i64 op, .i .i64 k, .i .i64 v] L0) [] []) := by
 subst e0 e1 e2 e3 e4 e5 e6 e7 e8 e9 e10 e11 e12
 rw [a111 A W x y op k v l r, meetsT_eq]
 exact ⟨fun q0 => (y1 q0), fun q0 => ⟨fun q1 => (y2 q0 q1), fun q1 => ⟨fun q2 => ⟨fun q3 => (y3 q0 q1 q2 q3), fun q3 => ⟨fun q4 => (y4 q0 q1 q2 q3 q4), fun q4 => ⟨fun q5 => (y5 q0 q1 q2 q3 q4 q5), fun q5 => ⟨fun q6 => ⟨fun q7 => (y6 q0 q1 q2 q3 q4 q5 q6 q7), fun q7 => ⟨fun q8 => (y7 q0 q1 q2 q3 q4 q5 q6 q7 q8), fun q8 => ⟨fun q9 => (y8 q0 q1 q2 q3 q4 q5 q6 q7 q8 q9), fun q9 => ⟨fun q10 => ⟨fun q11 => (y9 q0 q1 q2 q3 q4 q5 q6 q7 q8 q9 q10 q11), fun q11 => ⟨fun q12 => (y10 q0 q1 q2 q3 q4 q5 q6 q7 q8 q9 q10 q11 q12), fun q12 => (y11 q0 q1 q2 q3 q4 q5 q6 q7 q8 q9 q10 q11 q12)⟩⟩, fun q10 => (y12 q0 q1 q2 q3 q4 q5 q6 q7 q8 q9 q10)⟩⟩⟩⟩, fun q6 => ⟨fun q7 => (y13 q0 q1 q2 q3 q4 q5 q6 q7), fun q7 => ⟨fun q8 => (y14 q0 q1 q2 q3 q4 q5 q6 q7 q8), fun q8 => ⟨fun q9 => ⟨fun q10 => (y15 q0 q1 q2 q3 q4 q5 q6 q7 q8 q9 q10), fun q10 => ⟨fun q11 => (y16 q0 q1 q2 q3 q4 q5 q6 q7 q8 q9 q10 q11), fun q11 => (y17 q0 q1 q2 q3 q4 q5 q6 q7 q8 q9 q10 q11)⟩⟩, fun q9 => (y18 q0 q1 q2 q3 q4 q5 q6 q7 q8 q9)⟩⟩⟩⟩⟩⟩⟩, fun q2 => ⟨fun q3 => (y19 q0 q1 q2 q3), fun q3 => ⟨fun q4 => (y20 q0 q1 q2 q3 q4), fun q4 => ⟨fun q5 => ⟨fun q6 => (y21 q0 q1 q2 q3 q4 q5 q6), fun q6 => ⟨fun q7 => (y22 q0 q1 q2 q3 q4 q5 q6 q7), fun q7 => ⟨fun q8 => (y23 q0 q1 q2 q3 q4 q5 q6 q7 q8), fun q8 => ⟨fun q9 => ⟨fun q10 => (y24 q0 q1 q2 q3 q4 q5 q6 q7 q8 q9 q10), fun q10 => ⟨fun q11 => (y25 q0 q1 q2 q3 q4 q5 q6 q7 q8 q9 q10 q11), fun q11 => (y26 q0 q1 q2 q3 q4 q5 q6 q7 q8 q9 q10 q11)⟩⟩, fun q9 => (y27 q0 q1 q2 q3 q4 q5 q6 q7 q8 q9)⟩⟩⟩⟩, fun q5 => ⟨fun q6 => (y28 q0 q1 q2 q3 q4 q5 q6), fun q6 => ⟨fun q7 => (y29 q0 q1 q2 q3 q4 q5 q6 q7), fun q7 => ⟨fun q8 => ⟨fun q9 => (y30 q0 q1 q2 q3 q4 q5 q6 q7 q8 q9), fun q9 => ⟨fun q10 => (y31 q0 q1 q2 q3 q4 q5 q6 q7 q8 q9 q10), fun q10 => (y32 q0 q1 q2 q3 q4 q5 q6 q7 q8 q9 q10)⟩⟩, fun q8 => (y33 q0 q1 q2 q3 q4 q5 q6 q7 q8)⟩⟩⟩⟩⟩⟩⟩⟩⟩
theorem all_a140 (A : Prim) (W : Wd) (x y k i' : Int) (l r : List Int) {ψ : Fe2 → Prop} (y1 : ψ (Fe2.at_ 0 [Eqn.int k k, Eqn.int (Int.ofNat 0) i', Eqn.int x x, Eqn.int y y, Eqn.sh (Sh.sl 1 (len l) (fnR (nth l))) (Sh.sl 1 (len l) (fnR (nth l))), Eqn.sh (Sh.sl 1 (len r) (fnR (nth r))) (Sh.sl 1 (len r) (fnR (nth r)))])) : MeetsT ψ (runTo (C7 A W noSpec sAl) nH0 300 400 140 [.code []] (start0 38 [rf4 x y l r, .i .i64 k] L0) [] [⟨140, td140, LO140 x y l r k i', []⟩]) := by
 rw [a140 A W x y k i' l r, meetsT_eq]
 exact (y1)
theorem all_b140 (A : Prim) (W : Wd) (x y k i i' : Int) (l r : List Int) {ψ : Fe2 → Prop} {c0 c1 : Bool} (e0 : A.lt i (A.ofN (len l)) = c0) (e1 : A.lt (nth l (A.toN i)) k = c1) (h1 : c0 = true → (A.inB i (len l)) = true) (h2 : c0 = false → c0 = true → (A.inB i (len l)) = true) (y1 : c0 = true → c1 = true → ψ (Fe2.at_ 0 [Eqn.int k k, Eqn.int (A.add .i64 i (Int.ofNat 1)) i', Eqn.int x x, Eqn.int y y, Eqn.sh (Sh.sl 1 (len l) (fnR (nth l))) (Sh.sl 1 (len l) (fnR (nth l))), Eqn.sh (Sh.sl 1 (len r) (fnR (nth r))) (Sh.sl 1 (len r) (fnR (nth r)))])) (y2 : c0 = true → c1 = false → c0 = true → ψ (Fe2.ret (Sh.tup [Sh.i .i64 i, Sh.b (A.eq (nth l (A.toN i)) k)]))) (y3 : c0 = true → c1 = false → c0 = false → ψ (Fe2.ret (Sh.tup [Sh.i .i64 i, Sh.b false]))) (y4 : c0 = false → c0 = true → ψ (Fe2.ret (Sh.tup [Sh.i .i64 i, Sh.b (A.eq (nth l (A.toN i)) k)]))) (y5 : c0 = false → c0 = false → ψ (Fe2.ret (Sh.tup [Sh.i .i64 i, Sh.b false]))) : MeetsT ψ (runTo (C7 A W noSpec sAl) nH0 300 400 140 tb140 (LO140 x y l r k i) [] [⟨140, td140, LO140 x y l r k i', []⟩]) := by
 subst e0 e1
 rw [b140 A W x y k i i' l r, meetsT_eq]
 exact ⟨fun q0 => ⟨(h1 q0), ⟨fun q1 => (y1 q0 q1), fun q1 => ⟨fun q2 => ⟨(h1 q0), (y2 q0 q1 q2)⟩, fun q2 => (y3 q0 q1 q2)⟩⟩⟩, fun q0 => ⟨fun q1 => ⟨(h2 q0 q1), (y4 q0 q1)⟩, fun q1 => (y5 q0 q1)⟩⟩
theorem all_e77_110 (A : Prim) (W : Wd) (x y op k v : Int) (l r : List Int) {ψ : Fe2 → Prop} (h1 : (okB Int (len l) (fnR (nth l))) = true) (h2 : (okB Int (len r) (fnR (nth r))) = true) (h3 : (isC x y op k v (Int.ofNat 110)) = true) (y1 : ψ (Fe2.ret (Sh.tup [Sh.agg [Sh.i .i64 (Int.ofNat 0), Sh.i .i64 (Int.ofNat 0), Sh.sl 0 0 fun (x : Nat) => [], Sh.sl 0 0 fun (x : Nat) => []], Sh.i .i64 (Int.ofNat 0), Sh.i .i64 (Int.ofNat 0), Sh.i .i64 (Int.ofNat 110)]))) : MeetsT ψ (runTo (C7 A W (spec77 110 l) sAl) nH0 300 400 77 [.code []] (start0 92 [rf4 x y l r, .i .i64 op, .i .i64 k, .i .i64 v] L0) [] []) := by
 rw [e77_110 A W x y op k v l r, meetsT_eq]
 exact ⟨(h1), ⟨(h2), ⟨(h3), (y1)⟩⟩⟩
theorem all_e77_111 (A : Prim) (W : Wd) (x y op k v : Int) (l r : List Int) {ψ : Fe2 → Prop} (h1 : (okB Int (len l) (fnR (nth l))) = true) (h2 : (okB Int (len r) (fnR (nth r))) = true) (h3 : (isC x y op k v (Int.ofNat 111)) = true) (y1 : ψ (Fe2.ret (Sh.tup [Sh.agg [Sh.i .i64 (Int.ofNat 0), Sh.i .i64 (Int.ofNat 0), Sh.sl 0 0 fun (x : Nat) => [], Sh.sl 0 0 fun (x : Nat) => []], Sh.i .i64 (Int.ofNat 0), Sh.i .i64 (Int.ofNat 0), Sh.i .i64 (Int.ofNat 111)]))) : MeetsT ψ (runTo (C7 A W (spec77 111 l) sAl) nH0 300 400 77 [.code []] (start0 92 [rf4 x y l r, .i .i64 op, .i .i64 k, .i .i64 v] L0) [] []) := by
 rw [e77_111 A W x y op k v l r, meetsT_eq]
 exact ⟨(h1), ⟨(h2), ⟨(h3), (y1)⟩⟩⟩
theorem all_a77_1 (A : Prim) (W : Wd) (x y k v : Int) (l r : List Int) {ψ : Fe2 → Prop} (h1 : (okB Int (len l) (fnR (nth l))) = true) (h2 : (okB Int (len r) (fnR (nth r))) = true) (h3 : (isC x y (Int.ofNat 1) k v (Int.ofNat 0)) = true) (h4 : (plB (len l) (fnR (nth l))) = true) (h5 : (plB (len r) (fnR (nth r))) = true) (y1 : ψ (Fe2.ret (Sh.tup [Sh.agg [Sh.i .i64 x, Sh.i .i64 y, Sh.os 3 1 (len l) (intG (fnR (nth l))), Sh.os 3 1 (len r) (intG (fnR (nth r)))], Sh.i .i64 (Int.ofNat 3), Sh.i .i64 y, Sh.i .i64 (Int.ofNat 0)]))) : MeetsT ψ (runTo (C7 A W (spec77 0 l) sAl) nH0 300 400 77 [.code []] (start0 92 [rf4 x y l r, .v (.int .i64 1), .i .i64 k, .i .i64 v] L0) [] []) := by
 rw [a77_1 A W x y k v l r, meetsT_eq]
 exact ⟨(h1), ⟨(h2), ⟨(h3), ⟨(h4), ⟨(h5), ⟨(h5), ⟨a77_1_e1_k x y k v l r, ⟨(h4), ⟨(h5), ⟨a77_1_e1_k x y k v l r, (y1)⟩⟩⟩⟩⟩⟩⟩⟩⟩⟩
theorem all_a77_2 (A : Prim) (W : Wd) (x y k v : Int) (l r : List Int) {ψ : Fe2 → Prop} (h1 : (okB Int (len l) (fnR (nth l))) = true) (h2 : (okB Int (len r) (fnR (nth r))) = true) (h3 : (isC x y (Int.ofNat 2) k v (Int.ofNat 0)) = true) (h4 : (plB (len l) (fnR (nth l))) = true) (h5 : (plB (len r) (fnR (nth r))) = true) (y1 : ψ (Fe2.ret (Sh.tup [Sh.agg [Sh.i .i64 x, Sh.i .i64 v, Sh.os 3 1 (len l) (intG (fnR (nth l))), Sh.os 3 1 (len r) (intG (fnR (nth r)))], Sh.i .i64 (Int.ofNat 1), Sh.i .i64 (Int.ofNat 0), Sh.i .i64 (Int.ofNat 0)]))) : MeetsT ψ (runTo (C7 A W (spec77 0 l) sAl) nH0 300 400 77 [.code []] (start0 92 [rf4 x y l r, .v (.int .i64 2), .i .i64 k, .i .i64 v] L0) [] []) := by
 rw [a77_2 A W x y k v l r, meetsT_eq]
 exact ⟨(h1), ⟨(h2), ⟨(h3), ⟨(h4), ⟨(h5), ⟨(h5), ⟨a77_2_e1_k x y k v l r, ⟨(h4), ⟨(h5), ⟨a77_2_e1_k x y k v l r, (y1)⟩⟩⟩⟩⟩⟩⟩⟩⟩⟩
theorem all_a77_3 (A : Prim) (W : Wd) (x y k v : Int) (l r : List Int) {ψ : Fe2 → Prop} (h1 : (okB Int (len l) (fnR (nth l))) = true) (h2 : (okB Int (len r) (fnR (nth r))) = true) (h3 : (isC x y (Int.ofNat 3) k v (Int.ofNat 0)) = true) (h4 : (plB (len l) (fnR (nth l))) = true) (h5 : (plB (len r) (fnR (nth r))) = true) (y1 : ψ (Fe2.ret (Sh.tup [Sh.agg [Sh.i .i64 x, Sh.i .i64 (A.add .i64 y v), Sh.os 3 1 (len l) (intG (fnR (nth l))), Sh.os 3 1 (len r) (intG (fnR (nth r)))], Sh.i .i64 (Int.ofNat 1), Sh.i .i64 (Int.ofNat 0), Sh.i .i64 (Int.ofNat 0)]))) : MeetsT ψ (runTo (C7 A W (spec77 0 l) sAl) nH0 300 400 77 [.code []] (start0 92 [rf4 x y l r, .v (.int .i64 3), .i .i64 k, .i .i64 v] L0) [] []) := by
 rw [a77_3 A W x y k v l r, meetsT_eq]
 exact ⟨(h1), ⟨(h2), ⟨(h3), ⟨(h4), ⟨(h5), ⟨(h5), ⟨a77_3_e1_k x y k v l r, ⟨(h4), ⟨(h5), ⟨a77_3_e1_k x y k v l r, (y1)⟩⟩⟩⟩⟩⟩⟩⟩⟩⟩
theorem all_a77_4 (A : Prim) (W : Wd) (x y k v : Int) (l r : List Int) {ψ : Fe2 → Prop} (h1 : (okB Int (len l) (fnR (nth l))) = true) (h2 : (okB Int (len r) (fnR (nth r))) = true) (h3 : (isC x y (Int.ofNat 4) k v (Int.ofNat 0)) = true) (h4 : (plB (len l) (fnR (nth l))) = true) (h5 : (plB (len r) (fnR (nth r))) = true) (y1 : ψ (Fe2.ret (Sh.tup [Sh.agg [Sh.i .i64 x, Sh.i .i64 y, Sh.os 3 1 (len l) (intG (fnR (nth l))), Sh.os 3 1 (len r) (intG (fnR (nth r)))], Sh.i .i64 (Int.ofNat 3), Sh.i .i64 y, Sh.i .i64 (Int.ofNat 0)]))) : MeetsT ψ (runTo (C7 A W (spec77 0 l) sAl) nH0 300 400 77 [.code []] (start0 92 [rf4 x y l r, .v (.int .i64 4), .i .i64 k, .i .i64 v] L0) [] []) := by
 rw [a77_4 A W x y k v l r, meetsT_eq]
 exact ⟨(h1), ⟨(h2), ⟨(h3), ⟨(h4), ⟨(h5), ⟨(h5), ⟨a77_4_e1_k x y k v l r, ⟨(h4), ⟨(h5), ⟨a77_4_e1_k x y k v l r, (y1)⟩⟩⟩⟩⟩⟩⟩⟩⟩⟩
theorem all_a77_5 (A : Prim) (W : Wd) (x y k v : Int) (l r : List Int) {ψ : Fe2 → Prop} (h1 : (okB Int (len l) (fnR (nth l))) = true) (h2 : (okB Int (len r) (fnR (nth r))) = true) (h3 : (isC x y (Int.ofNat 5) k v (Int.ofNat 0)) = true) (h4 : (plB (len l) (fnR (nth l))) = true) (h5 : (plB (len r) (fnR (nth r))) = true) (h6 : (A.room (A.addN (len r) 1) 8) = true) (y1 : ψ (Fe2.ret (Sh.tup [Sh.agg [Sh.i .i64 x, Sh.i .i64 y, Sh.os 3 1 (len l) (intG (fnR (nth l))), Sh.os 3 1 (A.addN (len r) 1) (A.snoc (intG (fnR (nth r))) (len r) (nthL [[Sh.i .i64 v]]))], Sh.i .i64 (Int.ofNat 1), Sh.i .i64 (Int.ofNat 0), Sh.i .i64 (Int.ofNat 0)]))) : MeetsT ψ (runTo (C7 A W (spec77 0 l) sAl) nH0 300 400 77 [.code []] (start0 92 [rf4 x y l r, .v (.int .i64 5), .i .i64 k, .i .i64 v] L0) [] []) := by
 rw [a77_5 A W x y k v l r, meetsT_eq]
 exact ⟨(h1), ⟨(h2), ⟨(h3), ⟨(h4), ⟨(h5), ⟨(h5), ⟨a77_5_e1_k x y k v l r, ⟨(h4), ⟨(h5), ⟨a77_5_e1_k x y k v l r, ⟨(h6), (y1)⟩⟩⟩⟩⟩⟩⟩⟩⟩⟩⟩
theorem all_a77_6 (A : Prim) (W : Wd) (x y k v : Int) (l r : List Int) {ψ : Fe2 → Prop} {c0 : Bool} (e0 : A.eq (A.ofN (len r)) (Int.ofNat 0) = c0) (h1 : (okB Int (len l) (fnR (nth l))) = true) (h2 : (okB Int (len r) (fnR (nth r))) = true) (h3 : (isC x y (Int.ofNat 6) k v (Int.ofNat 0)) = true) (h4 : (plB (len l) (fnR (nth l))) = true) (h5 : (plB (len r) (fnR (nth r))) = true) (h6 : c0 = false → (A.upTo (Int.ofNat 1) (len r)) = true) (h7 : c0 = false → (plB (A.subN (len r) 1) fun (j : Nat) => fnR (nth r) (A.addN (Int.toNat 1) j)) = true) (h8 : c0 = false → (A.inB (Int.ofNat 0) (len r)) = true) (y1 : c0 = true → ψ (Fe2.ret (Sh.tup [Sh.agg [Sh.i .i64 x, Sh.i .i64 y, Sh.os 3 1 (len l) (intG (fnR (nth l))), Sh.os 3 1 (len r) (intG (fnR (nth r)))], Sh.i .i64 (Int.ofNat 2), Sh.i .i64 (Int.ofNat 0), Sh.i .i64 (Int.ofNat 0)]))) (y2 : c0 = false → ψ (Fe2.ret (Sh.tup [Sh.agg [Sh.i .i64 x, Sh.i .i64 y, Sh.os 3 1 (len l) (intG (fnR (nth l))), Sh.os 3 1 (A.subN (len r) 1) (intG fun (j : Nat) => fnR (nth r) (A.addN (Int.toNat 1) j))], Sh.i .i64 (Int.ofNat 3), Sh.i .i64 (nth r 0), Sh.i .i64 (Int.ofNat 0)]))) : MeetsT ψ (runTo (C7 A W (spec77 0 l) sAl) nH0 300 400 77 [.code []] (start0 92 [rf4 x y l r, .v (.int .i64 6), .i .i64 k, .i .i64 v] L0) [] []) := by
 subst e0
 rw [a77_6 A W x y k v l r, meetsT_eq]
 exact ⟨(h1), ⟨(h2), ⟨(h3), ⟨(h4), ⟨(h5), ⟨(h5), ⟨a77_6_e1_k x y k v l r, ⟨(h4), ⟨(h5), ⟨a77_6_e1_k x y k v l r, ⟨fun q0 => (y1 q0), fun q0 => ⟨(h6 q0), ⟨(h7 q0), ⟨(h8 q0), (y2 q0)⟩⟩⟩⟩⟩⟩⟩⟩⟩⟩⟩⟩⟩⟩
theorem all_a77_7 (A : Prim) (W : Wd) (x y k v : Int) (l r : List Int) {ψ : Fe2 → Prop} {c0 : Bool} (e0 : hasK l k = c0) (h1 : (okB Int (len l) (fnR (nth l))) = true) (h2 : (okB Int (len r) (fnR (nth r))) = true) (h3 : (isC x y (Int.ofNat 7) k v (Int.ofNat 0)) = true) (h4 : (plB (len l) (fnR (nth l))) = true) (h5 : (plB (len r) (fnR (nth r))) = true) (h6 : (isL l (len l) (fnR (nth l))) = true) (h7 : c0 = true → (A.inB (Int.ofNat (posK l k)) (len r)) = true) (h8 : c0 = false → (A.upTo (Int.ofNat (posK l k)) (len l)) = true) (h9 : c0 = false → (plB (A.toN (Int.ofNat (posK l k))) (fnR (nth l))) = true) (h10 : c0 = false → (A.room (A.addN (A.toN (Int.ofNat (posK l k))) 1) 8) = true) (h11 : c0 = false → (plB (A.subN (len l) (A.toN (Int.ofNat (posK l k)))) fun (j : Nat) => fnR (nth l) (A.addN (A.toN (Int.ofNat (posK l k))) j)) = true) (h12 : c0 = false → (A.room (A.addN (A.addN (A.toN (Int.ofNat (posK l k))) 1) (A.subN (len l) (A.toN (Int.ofNat (posK l k))))) 8) = true) (h13 : c0 = false → (A.upTo (Int.ofNat (posK l k)) (len r)) = true) (h14 : c0 = false → (plB (A.toN (Int.ofNat (posK l k))) (fnR (nth r))) = true) (h15 : c0 = false → (plB (A.subN (len r) (A.toN (Int.ofNat (posK l k)))) fun (j : Nat) => fnR (nth r) (A.addN (A.toN (Int.ofNat (posK l k))) j)) = true) (h16 : c0 = false → (A.room (A.addN (A.addN (A.toN (Int.ofNat (posK l k))) 1) (A.subN (len r) (A.toN (Int.ofNat (posK l k))))) 8) = true) (y1 : c0 = true → ψ (Fe2.ret (Sh.tup [Sh.agg [Sh.i .i64 x, Sh.i .i64 y, Sh.os 3 1 (len l) (intG (fnR (nth l))), Sh.os 3 1 (len r) (A.upd (intG (fnR (nth r))) (A.toN (Int.ofNat (posK l k))) 0 [Sh.i .i64 v])], Sh.i .i64 (Int.ofNat 1), Sh.i .i64 (Int.ofNat 0), Sh.i .i64 (Int.ofNat 0)]))) (y2 : c0 = false → ψ (Fe2.ret (Sh.tup [Sh.agg [Sh.i .i64 x, Sh.i .i64 y, Sh.os 3 1 (A.addN (A.addN (A.toN (Int.ofNat (posK l k))) 1) (A.subN (len l) (A.toN (Int.ofNat (posK l k))))) (A.snoc (A.snoc (intG (fnR (nth l))) (A.toN (Int.ofNat (posK l k))) (nthL [[Sh.i .i64 k]])) (A.addN (A.toN (Int.ofNat (posK l k))) 1) (intG fun (j : Nat) => fnR (nth l) (A.addN (A.toN (Int.ofNat (posK l k))) j))), Sh.os 3 1 (A.addN (A.addN (A.toN (Int.ofNat (posK l k))) 1) (A.subN (len r) (A.toN (Int.ofNat (posK l k))))) (A.snoc (A.snoc (intG (fnR (nth r))) (A.toN (Int.ofNat (posK l k))) (nthL [[Sh.i .i64 v]])) (A.addN (A.toN (Int.ofNat (posK l k))) 1) (intG fun (j : Nat) => fnR (nth r) (A.addN (A.toN (Int.ofNat (posK l k))) j)))], Sh.i .i64 (Int.ofNat 1), Sh.i .i64 (Int.ofNat 0), Sh.i .i64 (Int.ofNat 0)]))) : MeetsT ψ (runTo (C7 A W (spec77 0 l) sAl) nH0 300 400 77 [.code []] (start0 92 [rf4 x y l r, .v (.int .i64 7), .i .i64 k, .i .i64 v] L0) [] []) := by
 subst e0
 rw [a77_7 A W x y k v l r, meetsT_eq]
 exact ⟨(h1), ⟨(h2), ⟨(h3), ⟨(h4), ⟨(h5), ⟨(h5), ⟨a77_7_e3_k x y k v l r, ⟨(h4), ⟨(h5), ⟨a77_7_e3_k x y k v l r, ⟨(h6), ⟨(h2), ⟨fun q0 => ⟨(h7 q0), (y1 q0)⟩, fun q0 => ⟨(h8 q0), ⟨(h9 q0), ⟨(h10 q0), ⟨(h8 q0), ⟨(h11 q0), ⟨(h12 q0), ⟨(h8 q0), ⟨(h10 q0), ⟨(h11 q0), ⟨(h12 q0), ⟨a77_7_e2_k A x y k v l r, ⟨(h8 q0), ⟨(h10 q0), ⟨(h11 q0), ⟨(h12 q0), ⟨a77_7_e2_k A x y k v l r, ⟨(h9 q0), ⟨(h10 q0), ⟨(h8 q0), ⟨(h11 q0), ⟨(h12 q0), ⟨(h8 q0), ⟨(h10 q0), ⟨(h11 q0), ⟨(h12 q0), ⟨a77_7_e2_k A x y k v l r, ⟨(h8 q0), ⟨(h9 q0), ⟨(h10 q0), ⟨(h11 q0), ⟨(h12 q0), ⟨a77_7_e2_k A x y k v l r, ⟨(h8 q0), ⟨(h9 q0), ⟨(h10 q0), ⟨(h11 q0), ⟨(h12 q0), ⟨(h9 q0), ⟨(h10 q0), ⟨(h11 q0), ⟨(h12 q0), ⟨a77_7_e2_k A x y k v l r, ⟨a77_7_e2_k A x y k v l r, ⟨a77_7_e2_k A x y k v l r, ⟨(h8 q0), ⟨(h9 q0), ⟨(h10 q0), ⟨(h8 q0), ⟨(h11 q0), ⟨(h12 q0), ⟨(h8 q0), ⟨(h10 q0), ⟨(h11 q0), ⟨(h12 q0), ⟨a77_7_e2_k A x y k v l r, ⟨(h8 q0), ⟨(h9 q0), ⟨(h10 q0), ⟨(h11 q0), ⟨(h12 q0), ⟨a77_7_e2_k A x y k v l r, ⟨(h8 q0), ⟨(h8 q0), ⟨(h9 q0), ⟨(h10 q0), ⟨(h11 q0), ⟨(h12 q0), ⟨a77_7_e2_k A x y k v l r, ⟨(h8 q0), ⟨(h8 q0), ⟨(h9 q0), ⟨(h10 q0), ⟨(h11 q0), ⟨(h12 q0), ⟨(h9 q0), ⟨(h10 q0), ⟨(h11 q0), ⟨(h12 q0), ⟨a77_7_e2_k A x y k v l r, ⟨(h8 q0), ⟨(h9 q0), ⟨(h10 q0), ⟨(h11 q0), ⟨(h12 q0), ⟨a77_7_e2_k A x y k v l r, ⟨a77_7_e2_k A x y k v l r, ⟨a77_7_e2_k A x y k v l r, ⟨(h13 q0), ⟨(h14 q0), ⟨(h10 q0), ⟨(h13 q0), ⟨(h15 q0), ⟨(h16 q0), ⟨(h13 q0), ⟨(h10 q0), ⟨(h15 q0), ⟨(h16 q0), ⟨a77_7_e1_k A x y k v l r, ⟨(h13 q0), ⟨(h10 q0), ⟨(h15 q0), ⟨(h16 q0), ⟨a77_7_e1_k A x y k v l r, ⟨(h14 q0), ⟨(h10 q0), ⟨(h13 q0), ⟨(h15 q0), ⟨(h16 q0), ⟨(h13 q0), ⟨(h10 q0), ⟨(h15 q0), ⟨(h16 q0), ⟨a77_7_e1_k A x y k v l r, ⟨(h13 q0), ⟨(h14 q0), ⟨(h10 q0), ⟨(h15 q0), ⟨(h16 q0), ⟨a77_7_e1_k A x y k v l r, ⟨(h13 q0), ⟨(h14 q0), ⟨(h10 q0), ⟨(h15 q0), ⟨(h16 q0), ⟨(h14 q0), ⟨(h10 q0), ⟨(h15 q0), ⟨(h16 q0), ⟨a77_7_e1_k A x y k v l r, ⟨a77_7_e1_k A x y k v l r, ⟨a77_7_e1_k A x y k v l r, ⟨(h13 q0), ⟨(h14 q0), ⟨(h10 q0), ⟨(h13 q0), ⟨(h15 q0), ⟨(h16 q0), ⟨(h13 q0), ⟨(h10 q0), ⟨(h15 q0), ⟨(h16 q0), ⟨a77_7_e1_k A x y k v l r, ⟨(h13 q0), ⟨(h14 q0), ⟨(h10 q0), ⟨(h15 q0), ⟨(h16 q0), ⟨a77_7_e1_k A x y k v l r, ⟨(h13 q0), ⟨(h13 q0), ⟨(h14 q0), ⟨(h10 q0), ⟨(h15 q0), ⟨(h16 q0), ⟨a77_7_e1_k A x y k v l r, ⟨(h13 q0), ⟨(h13 q0), ⟨(h14 q0), ⟨(h10 q0), ⟨(h15 q0), ⟨(h16 q0), ⟨(h14 q0), ⟨(h10 q0), ⟨(h15 q0), ⟨(h16 q0), ⟨a77_7_e1_k A x y k v l r, ⟨(h13 q0), ⟨(h14 q0), ⟨(h10 q0), ⟨(h15 q0), ⟨(h16 q0), ⟨a77_7_e1_k A x y k v l r, ⟨a77_7_e1_k A x y k v l r, ⟨a77_7_e1_k A x y k v l r, (y2 q0)⟩⟩⟩⟩⟩⟩⟩⟩⟩⟩⟩⟩⟩⟩⟩⟩⟩⟩⟩⟩⟩⟩⟩⟩⟩⟩⟩⟩⟩⟩⟩⟩⟩⟩⟩⟩⟩⟩⟩⟩⟩⟩⟩⟩⟩⟩⟩⟩⟩⟩⟩⟩⟩⟩⟩⟩⟩⟩⟩⟩⟩⟩⟩⟩⟩⟩⟩⟩⟩⟩⟩⟩⟩⟩⟩⟩⟩⟩⟩⟩⟩⟩⟩⟩⟩⟩⟩⟩⟩⟩⟩⟩⟩⟩⟩⟩⟩⟩⟩⟩⟩⟩⟩⟩⟩⟩⟩⟩⟩⟩⟩⟩⟩⟩⟩⟩⟩⟩⟩⟩⟩⟩⟩⟩⟩⟩⟩⟩⟩⟩⟩⟩⟩⟩⟩⟩⟩⟩⟩⟩⟩⟩⟩⟩⟩⟩⟩⟩⟩⟩⟩⟩⟩⟩⟩⟩⟩⟩⟩⟩⟩⟩⟩⟩⟩⟩⟩⟩⟩⟩⟩⟩⟩⟩⟩⟩⟩⟩⟩⟩⟩⟩⟩⟩⟩⟩⟩
theorem all_a77_8 (A : Prim) (W : Wd) (x y k v : Int) (l r : List Int) {ψ : Fe2 → Prop} {c0 : Bool} (e0 : A.nt (hasK l k) = c0) (h1 : (okB Int (len l) (fnR (nth l))) = true) (h2 : (okB Int (len r) (fnR (nth r))) = true) (h3 : (isC x y (Int.ofNat 8) k v (Int.ofNat 0)) = true) (h4 : (plB (len l) (fnR (nth l))) = true) (h5 : (plB (len r) (fnR (nth r))) = true) (h6 : (isL l (len l) (fnR (nth l))) = true) (h7 : c0 = false → (A.inB (Int.ofNat (posK l k)) (len r)) = true) (y1 : c0 = true → ψ (Fe2.ret (Sh.tup [Sh.agg [Sh.i .i64 x, Sh.i .i64 y, Sh.os 3 1 (len l) (intG (fnR (nth l))), Sh.os 3 1 (len r) (intG (fnR (nth r)))], Sh.i .i64 (Int.ofNat 2), Sh.i .i64 (Int.ofNat 0), Sh.i .i64 (Int.ofNat 0)]))) (y2 : c0 = false → ψ (Fe2.ret (Sh.tup [Sh.agg [Sh.i .i64 x, Sh.i .i64 y, Sh.os 3 1 (len l) (intG (fnR (nth l))), Sh.os 3 1 (len r) (intG (fnR (nth r)))], Sh.i .i64 (Int.ofNat 3), Sh.i .i64 (nth r (A.toN (Int.ofNat (posK l k)))), Sh.i .i64 (Int.ofNat 0)]))) : MeetsT ψ (runTo (C7 A W (spec77 0 l) sAl) nH0 300 400 77 [.code []] (start0 92 [rf4 x y l r, .v (.int .i64 8), .i .i64 k, .i .i64 v] L0) [] []) := by
 subst e0
 rw [a77_8 A W x y k v l r, meetsT_eq]
 exact ⟨(h1), ⟨(h2), ⟨(h3), ⟨(h4), ⟨(h5), ⟨(h5), ⟨a77_8_e1_k x y k v l r, ⟨(h4), ⟨(h5), ⟨a77_8_e1_k x y k v l r, ⟨(h6), ⟨(h2), ⟨fun q0 => (y1 q0), fun q0 => ⟨(h7 q0), (y2 q0)⟩⟩⟩⟩⟩⟩⟩⟩⟩⟩⟩⟩⟩⟩
theorem all_a77_9 (A : Prim) (W : Wd) (x y k v : Int) (l r : List Int) {ψ : Fe2 → Prop} {c0 : Bool} (e0 : A.nt (hasK l k) = c0) (h1 : (okB Int (len l) (fnR (nth l))) = true) (h2 : (okB Int (len r) (fnR (nth r))) = true) (h3 : (isC x y (Int.ofNat 9) k v (Int.ofNat 0)) = true) (h4 : (plB (len l) (fnR (nth l))) = true) (h5 : (plB (len r) (fnR (nth r))) = true) (h6 : (isL l (len l) (fnR (nth l))) = true) (h7 : c0 = false → (A.upTo (Int.ofNat (posK l k)) (len l)) = true) (h8 : c0 = false → (plB (A.toN (Int.ofNat (posK l k))) (fnR (nth l))) = true) (h9 : c0 = false → (A.upTo (A.add .i64 (Int.ofNat (posK l k)) (Int.ofNat 1)) (len l)) = true) (h10 : c0 = false → (plB (A.subN (len l) (A.toN (A.add .i64 (Int.ofNat (posK l k)) (Int.ofNat 1)))) fun (j : Nat) => fnR (nth l) (A.addN (A.toN (A.add .i64 (Int.ofNat (posK l k)) 1)) j)) = true) (h11 : c0 = false → (A.room (A.addN (A.toN (Int.ofNat (posK l k))) (A.subN (len l) (A.toN (A.add .i64 (Int.ofNat (posK l k)) (Int.ofNat 1))))) 8) = true) (h12 : c0 = false → (A.upTo (Int.ofNat (posK l k)) (len r)) = true) (h13 : c0 = false → (plB (A.toN (Int.ofNat (posK l k))) (fnR (nth r))) = true) (h14 : c0 = false → (A.upTo (A.add .i64 (Int.ofNat (posK l k)) (Int.ofNat 1)) (len r)) = true) (h15 : c0 = false → (plB (A.subN (len r) (A.toN (A.add .i64 (Int.ofNat (posK l k)) (Int.ofNat 1)))) fun (j : Nat) => fnR (nth r) (A.addN (A.toN (A.add .i64 (Int.ofNat (posK l k)) 1)) j)) = true) (h16 : c0 = false → (A.room (A.addN (A.toN (Int.ofNat (posK l k))) (A.subN (len r) (A.toN (A.add .i64 (Int.ofNat (posK l k)) (Int.ofNat 1))))) 8) = true) (h17 : c0 = false → (A.inB (Int.ofNat (posK l k)) (len r)) = true) (y1 : c0 = true → ψ (Fe2.ret (Sh.tup [Sh.agg [Sh.i .i64 x, Sh.i .i64 y, Sh.os 3 1 (len l) (intG (fnR (nth l))), Sh.os 3 1 (len r) (intG (fnR (nth r)))], Sh.i .i64 (Int.ofNat 2), Sh.i .i64 (Int.ofNat 0), Sh.i .i64 (Int.ofNat 0)]))) (y2 : c0 = false → ψ (Fe2.ret (Sh.tup [Sh.agg [Sh.i .i64 x, Sh.i .i64 y, Sh.os 3 1 (A.addN (A.toN (Int.ofNat (posK l k))) (A.subN (len l) (A.toN (A.add .i64 (Int.ofNat (posK l k)) (Int.ofNat 1))))) (A.snoc (intG (fnR (nth l))) (A.toN (Int.ofNat (posK l k))) (intG fun (j : Nat) => fnR (nth l) (A.addN (A.toN (A.add .i64 (Int.ofNat (posK l k)) 1)) j))), Sh.os 3 1 (A.addN (A.toN (Int.ofNat (posK l k))) (A.subN (len r) (A.toN (A.add .i64 (Int.ofNat (posK l k)) (Int.ofNat 1))))) (A.snoc (intG (fnR (nth r))) (A.toN (Int.ofNat (posK l k))) (intG fun (j : Nat) => fnR (nth r) (A.addN (A.toN (A.add .i64 (Int.ofNat (posK l k)) 1)) j)))], Sh.i .i64 (Int.ofNat 3), Sh.i .i64 (nth r (A.toN (Int.ofNat (posK l k)))), Sh.i .i64 (Int.ofNat 0)]))) : MeetsT ψ (runTo (C7 A W (spec77 0 l) sAl) nH0 300 400 77 [.code []] (start0 92 [rf4 x y l r, .v (.int .i64 9), .i .i64 k, .i .i64 v] L0) [] []) := by
 subst e0
 rw [a77_9 A W x y k v l r, meetsT_eq]
 exact ⟨(h1), ⟨(h2), ⟨(h3), ⟨(h4), ⟨(h5), ⟨(h5), ⟨a77_9_e3_k x y k v l r, ⟨(h4), ⟨(h5), ⟨a77_9_e3_k x y k v l r, ⟨(h6), ⟨(h2), ⟨fun q0 => (y1 q0), fun q0 => ⟨(h7 q0), ⟨(h8 q0), ⟨(h9 q0), ⟨(h10 q0), ⟨(h11 q0), ⟨(h9 q0), ⟨(h8 q0), ⟨(h10 q0), ⟨(h11 q0), ⟨a77_9_e2_k A x y k v l r, ⟨(h9 q0), ⟨(h7 q0), ⟨(h8 q0), ⟨(h10 q0), ⟨(h11 q0), ⟨a77_9_e2_k A x y k v l r, ⟨(h12 q0), ⟨(h13 q0), ⟨(h14 q0), ⟨(h15 q0), ⟨(h16 q0), ⟨(h14 q0), ⟨(h13 q0), ⟨(h15 q0), ⟨(h16 q0), ⟨a77_9_e1_k A x y k v l r, ⟨(h14 q0), ⟨(h12 q0), ⟨(h13 q0), ⟨(h15 q0), ⟨(h16 q0), ⟨a77_9_e1_k A x y k v l r, ⟨(h17 q0), (y2 q0)⟩⟩⟩⟩⟩⟩⟩⟩⟩⟩⟩⟩⟩⟩⟩⟩⟩⟩⟩⟩⟩⟩⟩⟩⟩⟩⟩⟩⟩⟩⟩⟩⟩⟩⟩⟩⟩⟩⟩⟩⟩⟩⟩⟩⟩⟩
end Go.Proofs
namespace Go.Proofs
open Go Go.Sx Go.Pl
theorem ofNat_lit (n : Nat) : Int.ofNat n = (n : Int) := rfl
theorem rep_lit {H : Mem} {c : Int} {u : Value} (h : Rep H (.i .i64 c) u) : Rep H (.v (.int .i64 c)) u := by cases h; exact .v _ rfl
theorem O138 : FnOK Tryz.prog (gls7 W7) 138 F67 := by
 refine fnOK_Ru (C := C7 prim W7 noSpec sAl) (C7.ok _ _) (fok0 _) (m := 300) (n := 400) (L := L0) (fn := Tryz.f138) (by kernel_rfl) (by kernel_rfl) fun H w shs args φ hrep h => ?_
 have hn : Tryz.f138.ntmps = 13 := by kernel_rfl
 unfold F67 at h
 split at h
 ·rename_i t
  split at h
  ·rename_i op ht
   have hφ : φ (.b (keyed op)) := h
   match args, hrep with
   | [v], ⟨hv, _⟩ =>
    refine ⟨[.i .i64 op], ⟨rep_num ht hv, trivial⟩, ?_⟩
    rw [hn, a138 prim W7 op]
    have key : ∀ b : Bool, b = keyed op → up φ (.b b) := fun b e => up_mk (s' := .b (keyed op)) (.inl (by rw [e])) hφ
    refine ⟨fun q => key _ ?_, fun q => ⟨fun q2 => key _ ?_, fun q2 => key _ ?_⟩⟩
    all_goals simp [prim_eq, keyed, ofNat_lit] at *
    all_goals simp [*]
    all_goals first | done | rfl
  ·exact h.elim
 ·exact h.elim
theorem O139 : FnOK Tryz.prog (gls7 W7) 139 F68 := by
 refine fnOK_Ru (C := C7 prim W7 noSpec sAl) (C7.ok _ _) (fok0 _) (m := 300) (n := 400) (L := L0) (fn := Tryz.f139) (by kernel_rfl) (by kernel_rfl) fun H w shs args φ hrep h => ?_
 have hn : Tryz.f139.ntmps = 17 := by kernel_rfl
 unfold F68 at h
 split at h
 ·rename_i t
  split at h
  ·rename_i op ht
   have hφ : φ (.b (valued op)) := h
   match args, hrep with
   | [v], ⟨hv, _⟩ =>
    refine ⟨[.i .i64 op], ⟨rep_num ht hv, trivial⟩, ?_⟩
    rw [hn, a139 prim W7 op]
    have key : ∀ b : Bool, b = valued op → up φ (.b b) := fun b e => up_mk (s' := .b (valued op)) (.inl (by rw [e])) hφ
    refine ⟨fun q => key _ ?_, fun q => ⟨fun q2 => key _ ?_, fun q2 => ⟨fun q3 => key _ ?_, fun q3 => key _ ?_⟩⟩⟩
    all_goals simp [prim_eq, valued, ofNat_lit] at *
    all_goals simp [*]
    all_goals first | done | rfl
  ·exact h.elim
 ·exact h.elim
theorem O137 : FnOK Tryz.prog (gls7 W7) 137 F66 := by
 refine fnOK_Ru (C := C7 prim W7 noSpec sAl) (C7.ok _ _) (fok0 _) (m := 300) (n := 400) (L := L0) (fn := Tryz.f137) (by kernel_rfl) (by kernel_rfl) fun H w shs args φ hrep h => ?_
 have hn : Tryz.f137.ntmps = 15 := by kernel_rfl
 unfold F66 at h
 split at h
 ·rename_i t
  split at h
  ·rename_i op ht
   have hφ : φ (.i .i64 (ofOp op)) := h
   match args, hrep with
   | [v], ⟨hv, _⟩ =>
    have hr := rep_num ht hv
    have key : ∀ c : Int, c = ofOp op → up φ (.i .i64 c) := fun c e => up_mk (s' := .i .i64 (ofOp op)) (by rw [e]; exact rfl) hφ
    by_cases hb : 1 ≤ op ∧ op ≤ 9
    ·have : op = 1 ∨ op = 2 ∨ op = 3 ∨ op = 4 ∨ op = 5 ∨ op = 6 ∨ op = 7 ∨ op = 8 ∨ op = 9 := by omega
     rcases this with rfl | rfl | rfl | rfl | rfl | rfl | rfl | rfl | rfl
     ·exact ⟨[.v (.int .i64 1)], ⟨rep_lit hr, trivial⟩, by rw [hn, a137_1 prim W7]; exact key _ (by decide)⟩
     ·exact ⟨[.v (.int .i64 2)], ⟨rep_lit hr, trivial⟩, by rw [hn, a137_2 prim W7]; exact key _ (by decide)⟩
     ·exact ⟨[.v (.int .i64 3)], ⟨rep_lit hr, trivial⟩, by rw [hn, a137_3 prim W7]; exact key _ (by decide)⟩
     ·exact ⟨[.v (.int .i64 4)], ⟨rep_lit hr, trivial⟩, by rw [hn, a137_4 prim W7]; exact key _ (by decide)⟩
     ·exact ⟨[.v (.int .i64 5)], ⟨rep_lit hr, trivial⟩, by rw [hn, a137_5 prim W7]; exact key _ (by decide)⟩
     ·exact ⟨[.v (.int .i64 6)], ⟨rep_lit hr, trivial⟩, by rw [hn, a137_6 prim W7]; exact key _ (by decide)⟩
     ·exact ⟨[.v (.int .i64 7)], ⟨rep_lit hr, trivial⟩, by rw [hn, a137_7 prim W7]; exact key _ (by decide)⟩
     ·exact ⟨[.v (.int .i64 8)], ⟨rep_lit hr, trivial⟩, by rw [hn, a137_8 prim W7]; exact key _ (by decide)⟩
     ·exact ⟨[.v (.int .i64 9)], ⟨rep_lit hr, trivial⟩, by rw [hn, a137_9 prim W7]; exact key _ (by decide)⟩
    ·refine ⟨[.i .i64 op], ⟨hr, trivial⟩, ?_⟩
     rw [hn, a137 prim W7 op]
     have hz : (0 : Int) = ofOp op := by unfold ofOp; repeat (first | rw [if_neg (by omega)])
     refine ⟨fun _ => key _ hz, fun q => ⟨fun _ => key _ hz, fun q2 => ?_⟩⟩
     simp only [prim_lt, ofNat_lit, decide_eq_false_iff_not] at q q2
     omega
  ·exact h.elim
 ·exact h.elim
def F111 : List Sh → Tree Sh
 | [.agg [.i .i64 x, .i .i64 y, s2, s3], t, u, w] => match slN 1 s2, slN 1 s3, icode t, icode u, icode w with
  | some (a, g), some (b, h), some op, some k, some v => .need (okB Int a g) (.need (okB Int b h) (.leaf (.i .i64 (argC x y op k v))))
  | _, _, _, _, _ => .fail
 | _ => .fail
theorem fok111 (stop : Nat → List Nat → Bool) : FnsOK Tryz.prog (C7 prim W7 spec111 stop) := C7.fok (fun g F h => by
 unfold spec111 at h
 split at h
 ·cases h; exact O137
 ·cases h; exact O138
 ·cases h; exact O139
 ·cases h) fun g h => by
 unfold spec111 at h
 split at h
 all_goals first | (cases h; done) | kernel_rfl
theorem rep_st4 {H : Mem} {x y : Int} {s2 s3 : Sh} {a b : Nat} {g h : Nat → List Sh} {v : Value} (h2 : slN 1 s2 = some (a, g)) (h3 : slN 1 s3 = some (b, h)) (ha : okB Int a g = true) (hb : okB Int b h = true) (r : Rep H (.agg [.i .i64 x, .i .i64 y, s2, s3]) v) :
  Rep H (rf4 x y (lst Int a g) (lst Int b h)) v :=
 rep_agg4 r (fun u hu => rep_rows_lst (rep_slN h2 hu) ha) (fun u hu => rep_rows_lst (rep_slN h3 hu) hb)
theorem O111 : FnOK Tryz.prog (gls7 W7) 111 F111 := by
 refine fnOK_Ru (C := C7 prim W7 spec111 sAl) (C7.ok _ _) (fok111 _) (m := 300) (n := 400) (L := L0) (fn := Tryz.f111) (by kernel_rfl) (by kernel_rfl) fun H w shs args φ hrep h => ?_
 have hn : Tryz.f111.ntmps = 67 := by kernel_rfl
 unfold F111 at h
 split at h
 ·rename_i x y s2 s3 t u ww
  split at h
  ·rename_i a g b hh op k v h2 h3 ht hu hw
   obtain ⟨ha, hb, hφ⟩ := h
   have hφ : φ (.i .i64 (argC x y op k v)) := hφ
   match args, hrep with
   | [v1, v2, v3, v4], ⟨r1, r2, r3, r4, _⟩ =>
    refine ⟨[rf4 x y (lst Int a g) (lst Int b hh), .i .i64 op, .i .i64 k, .i .i64 v], ⟨rep_st4 h2 h3 ha hb r1, rep_num ht r2, rep_num hu r3, rep_num hw r4, trivial⟩, ?_⟩
    have key : ∀ c : Int, c = argC x y op k v → up φ (.i .i64 c) := fun c e => up_mk (s' := .i .i64 (argC x y op k v)) (by rw [e]; exact rfl) hφ
    rw [hn, ← meetsT_eq]
    apply all_a111 prim W7 x y op k v (lst Int a g) (lst Int b hh) rfl rfl rfl rfl rfl rfl rfl rfl rfl rfl rfl rfl rfl
    all_goals (intros; refine key _ ?_; unfold argC)
    all_goals simp only [prim_lt, prim_eq, prim_nt, ofNat_lit, prim_add, show Int.negSucc 999999999 = (-1000000000 : Int) from rfl, show Int.negSucc 999999999999999 = (-1000000000000000 : Int) from rfl, Bool.not_eq_true', Bool.not_eq_false', decide_eq_true_eq, decide_eq_false_iff_not, beq_iff_eq, beq_eq_false_iff_ne, ne_eq] at *
    all_goals (unfold addW)
    all_goals (repeat' split)
    all_goals first | rfl | omega | (exfalso; simp_all; done) | (exfalso; simp_all; omega)
  ·exact h.elim
 ·exact h.elim
end Go.Proofs
namespace Go.Pl
open Go Go.Sx
theorem posK_eq : ∀ {l : List Int} {key : Int} {i : Nat}, i ≤ l.length → (∀ j, j < i → nth l j < key) → (i < l.length → ¬ nth l i < key) → posK l key = i
 | [], key, i, h, _, _ => by simp at h; subst h; rfl
 | a :: l, key, 0, _, _, h2 => by
  have := h2 (by simp)
  have : ¬ a < key := this
  simp [posK, List.takeWhile, this]
 | a :: l, key, i + 1, h, h1, h2 => by
  have h0 : a < key := h1 0 (by omega)
  have ih := posK_eq (l := l) (key := key) (i := i) (by simpa using h) (fun j hj => h1 (j + 1) (by omega)) (fun hi => h2 (by simpa using hi))
  simp only [posK, List.takeWhile, h0, decide_true, List.length_cons] at ih ⊢
  rw [ih]
theorem posK_le (l : List Int) (key : Int) : posK l key ≤ l.length := by unfold posK; exact (List.takeWhile_prefix _).length_le
end Go.Pl
namespace Go.Proofs
open Go Go.Sx Go.Pl
theorem res_lit {H H' : Mem} {w w' : World} {v : Value} {k : IntKind} {c : Int} (r : SpecRes H w (.i k c) v H' w') : SpecRes H w (.v (.int k c)) v H' w' :=
 ⟨r.Hle, r.on, r.os, r.tape, r.output, r.size, r.old, r.fresh, r.res⟩
theorem fnOK_lit {P : Program} {gls : List (Nat × Sh)} {g : Nat} {F G : List Sh → Tree Sh} (hF : FnOK P gls g F) (h : ∀ (shs : List Sh) (φ : Sh → Prop), (G shs).All φ → ∃ (k : IntKind) (c : Int), φ (.v (.int k c)) ∧ (F shs).All fun s => s = .i k c) : FnOK P gls g G := by
 intro H w shs args φ hon hg hr hφ
 obtain ⟨k, c, h1, h2⟩ := h shs φ hφ
 refine (hF H w shs args _ hon hg hr h2).mono fun e w' ⟨v, s, H', he, hs, r⟩ => ?_
 subst hs
 exact ⟨v, _, H', he, h1, res_lit r⟩
theorem O111w (c : Int) : FnOK Tryz.prog (gls7 W7) 111 (F111w c) := fnOK_lit O111 fun shs φ h => by
 unfold F111w at h
 split at h
 ·split at h
  ·rename_i e1 e2 e3 e4 e5
   obtain ⟨ha, hb, hc, hφ⟩ := h
   refine ⟨.i64, c, hφ, ?_⟩
   unfold F111
   simp only [e1, e2, e3, e4, e5]
   refine ⟨ha, hb, ?_⟩
   show Sh.i .i64 _ = _
   rw [of_decide_eq_true hc]
  ·exact h.elim
 ·exact h.elim
theorem O13w : FnOK Tryz.prog (gls7 W7) 13 F13w := by
 intro H w shs args φ hon hg hr hφ
 refine O13 H w shs args φ hon hg hr ?_
 unfold F13w at hφ
 unfold F13
 split at hφ
 ·obtain ⟨h1, h2⟩ := hφ
  have h1 : (_ && _) = true := h1
  rw [Bool.and_eq_true] at h1
  exact ⟨h1.1, h1.2, h2⟩
 ·exact hφ.elim
section
variable {H0 : Mem} {w0 : World} {φ : Sh → Prop}
theorem loop140 {x y key : Int} {l r : List Int} (hl : l.length ≤ 1000000000) (hφ : φ (.tup [.i .i64 (Int.ofNat (posK l key)), .b (hasK l key)])) :
  ∀ m k, k + m = l.length → (∀ j, j < k → nth l j < key) → GoesS Tryz.prog (C7 prim W7 noSpec sAl) (K0 H0 w0) 140 td140 (LO140 x y l r key (k : Int)) [] emp φ
 | m, k, hk, hE => by
  refine gSi (fn := Tryz.f140) (tb := tb140) (by kernel_rfl) (by kernel_rfl) ?_
  refine gSt (C7.ok _ _) (fok0 _) (hold := nH0) (m := 300) (n := 400) (ts := [⟨140, td140, LO140 x y l r key (k + 1 : Nat), []⟩]) ?_
  have fin (hp : posK l key = k) (b : Bool) (hb : hasK l key = b) : φ (.tup [.i .i64 (k : Int), .b b]) := by
   rw [hp, hb] at hφ; exact hφ
  refine all_b140 prim W7 x y key k (k + 1 : Nat) l r rfl rfl ?_ ?_ ?_ ?_ ?_ ?_ ?_
  ·intro h; simp [prim_lt, prim_ofN, len] at h; simp [prim_inB, len]; omega
  ·intro h h'; rw [h] at h'; cases h'
  ·intro h h'
   refine ⟨⟨rfl, ?_, rfl, rfl, rfl, rfl, trivial⟩, _, rfl, ?_⟩
   ·show IntKind.i64.wrap ((k : Int) + 1) = _
    rw [wrap_id (by omega) (by omega)]; rfl
   ·simp [prim_lt, prim_ofN, len] at h h'
    match m, hk with
    | 0, hk => omega
    | m + 1, hk =>
     refine loop140 hl hφ m (k + 1) (by omega) fun j hj => ?_
     by_cases e : j = k
     ·subst e; simpa [prim_toN] using h'
     ·exact hE j (by omega)
  ·intro h h' _
   simp [prim_lt, prim_ofN, len] at h
   have h' : ¬ nth l k < key := by simpa [prim_lt, prim_toN] using h'
   have hp := posK_eq (by omega) hE fun _ => h'
   refine fin hp _ ?_
   simp [hasK, hp, h, prim_eq, prim_toN]
  ·intro h _ h'; rw [h] at h'; cases h'
  ·intro h h'; rw [h] at h'; cases h'
  ·intro h _
   simp [prim_lt, prim_ofN, len] at h
   have hp := posK_eq (l := l) (key := key) (i := k) (by omega) hE (by omega)
   refine fin hp _ ?_
   simp [hasK, hp]; omega
end
theorem O140 (l : List Int) : FnOK Tryz.prog (gls7 W7) 140 (F140w l) := by
 refine fnOK_S (C := C7 prim W7 noSpec sAl) (C7.ok _ _) (fn := Tryz.f140) (by kernel_rfl) (by kernel_rfl) fun H w shs args φ hrep h => ?_
 have hn : Tryz.f140.ntmps = 38 := by kernel_rfl
 unfold F140w at h
 split at h
 ·rename_i x y s2 s3 t
  split at h
  ·rename_i a g b hh k h2 h3 ht
   obtain ⟨ha, hb, hφ⟩ := h
   have ha : (_ && _) = true := ha
   rw [Bool.and_eq_true] at ha
   obtain ⟨ha, hl⟩ := ha
   obtain ⟨hl, hlen⟩ := of_decide_eq_true hl
   match args, hrep with
   | [v1, v2], ⟨r1, r2, _⟩ =>
    have hrs := rep_st4 h2 h3 ha hb r1
    rw [hl] at hrs
    refine ⟨[rf4 x y l (lst Int b hh), .i .i64 k], ⟨hrs, rep_num ht r2, trivial⟩, L0, ?_⟩
    refine gSt (C7.ok _ _) (fok0 _) (hold := nH0) (m := 300) (n := 400) (ts := [⟨140, td140, LO140 x y l (lst Int b hh) k (0 : Nat), []⟩]) ?_
    rw [hn]
    refine all_a140 prim W7 x y k (0 : Nat) l (lst Int b hh) ?_
    refine ⟨⟨rfl, rfl, rfl, rfl, rfl, rfl, trivial⟩, _, rfl, ?_⟩
    exact loop140 hlen hφ l.length 0 (by omega) fun j hj => by omega
  ·exact h.elim
 ·exact h.elim
end Go.Proofs
namespace Go.Pl
open Go Go.Sx
def refOp (s : Rf) (op k v : Int) : Rf × Int × Int :=
 if op = 1 ∨ op = 4 then (s, 3, s.num)
 else if op = 2 then ({ s with num := v }, 1, 0)
 else if op = 3 then ({ s with num := addW s.num v }, 1, 0)
 else if op = 5 then ({ s with vals := s.vals ++ [v] }, 1, 0)
 else if op = 6 then ({ s with vals := s.vals.tail }, deqR s.vals.length, s.vals.headD 0)
 else if op = 7 then (if hasK s.keys k = true then { s with vals := s.vals.set (posK s.keys k) v } else { s with keys := s.keys.take (posK s.keys k) ++ k :: s.keys.drop (posK s.keys k), vals := s.vals.take (posK s.keys k) ++ v :: s.vals.drop (posK s.keys k) }, 1, 0)
 else if op = 8 then (s, if hasK s.keys k = true then 3 else 2, if hasK s.keys k = true then nth s.vals (posK s.keys k) else 0)
 else if op = 9 then (if hasK s.keys k = true then { s with keys := s.keys.take (posK s.keys k) ++ s.keys.drop (posK s.keys k + 1), vals := s.vals.take (posK s.keys k) ++ s.vals.drop (posK s.keys k + 1) } else s, if hasK s.keys k = true then 3 else 2, if hasK s.keys k = true then nth s.vals (posK s.keys k) else 0)
 else (s, 0, 0)
def res77 (r : Rf × Int × Int) : Sh := .tup [.agg (rfS r.1), .i .i64 r.2.1, .i .i64 r.2.2, .i .i64 0]
def smallB (a b : Nat) : Bool := decide (a ≤ 100000 ∧ b ≤ 100000)
def mapU (x : Int) (a b : Nat) : Bool := !decide (x = 4) || decide (a = b)
def RowI (n : Nat) (g : Nat → List Sh) (l : List Int) : Prop := n = l.length ∧ ∀ i, i < n → g i = fnR (nth l) i
theorem rows_nth (l : List Int) : RowI (len l) (fnR (nth l)) l := ⟨rfl, fun _ _ => rfl⟩
theorem rows_int {n : Nat} {o : Nat → Int} {l : List Int} (h : RowI n (fnR o) l) : RowI n (intG (fnR o)) l := h
theorem rows_take {l : List Int} {p : Nat} (h : p ≤ l.length) : RowI p (fnR (nth l)) (l.take p) := ⟨by simp; omega, fun i hi => by simp [fnR, nth, List.getElem?_take, hi]⟩
theorem rows_drop {l : List Int} {q n : Nat} (h : q ≤ l.length) (hn : n = l.length - q) : RowI n (fnR fun j => nth l (q + j)) (l.drop q) := ⟨by simp [hn], fun i hi => by simp [fnR, nth, List.getElem?_drop]⟩
theorem rows_one (v : Int) : RowI 1 (nthL [[Sh.i .i64 v]]) [v] := ⟨rfl, fun i hi => by
 obtain rfl : i = 0 := by omega
 rfl⟩
theorem rows_app {n m : Nat} {g h : Nat → List Sh} {l r : List Int} (h1 : RowI n g l) (h2 : RowI m h r) : RowI (n + m) (prim.snoc g n h) (l ++ r) := by
 obtain ⟨rfl, h1⟩ := h1
 obtain ⟨rfl, h2⟩ := h2
 refine ⟨by simp, fun i hi => ?_⟩
 rw [prim_snoc]
 split
 ·rename_i q
  rw [h1 i q]
  simp [fnR, nth, List.getElem?_append_left q]
 ·rename_i q
  rw [h2 _ (by omega)]
  simp [fnR, nth, List.getElem?_append_right (Nat.le_of_not_lt q)]
theorem rows_set {l : List Int} {p : Nat} (v : Int) (h : p < l.length) : RowI (len l) (prim.upd (fnR (nth l)) p 0 [Sh.i .i64 v]) (l.set p v) := by
 refine ⟨by simp [len], fun i hi => ?_⟩
 rw [prim_upd]
 by_cases e : i = p
 ·subst e
  simp [fnR, nth, h]
  rfl
 ·rw [if_neg e]
  simp [fnR, nth, List.getElem?_set, Ne.symm e]
theorem rows_pl {n : Nat} {g : Nat → List Sh} {l : List Int} (h : RowI n g l) (hn : n ≤ 1000000) : plB n g = true := by
 unfold plB
 rw [Bool.and_eq_true]
 exact ⟨okB_of (o := nth l) fun i hi => h.2 i hi, Go.Proofs.room_le hn (by omega)⟩
end Go.Pl
namespace Go.Proofs
open Go Go.Sx Go.Pl
theorem fok77 (c : Int) (l : List Int) (stop : Nat → List Nat → Bool) : FnsOK Tryz.prog (C7 prim W7 (spec77 c l) stop) := C7.fok (fun g F h => by
 unfold spec77 at h
 split at h
 ·cases h; exact O111w c
 ·cases h; exact O140 l
 ·cases h; exact O13w
 ·cases h) fun g h => by
 unfold spec77 at h
 split at h
 all_goals first | (cases h; done) | kernel_rfl
def F77 : List Sh → Tree Sh
 | [.agg [.i .i64 x, .i .i64 y, s2, s3], t, u, w] => match slN 1 s2, slN 1 s3, icode t, icode u, icode w with
  | some (a, g), some (b, h), some op, some k, some v => .need (okB Int a g) (.need (okB Int b h) (.need (smallB a b) (.need (mapU x a b) (.node (isC x y op k v 0) (.leaf (res77 (refOp ⟨x, y, lst Int a g, lst Int b h⟩ op k v))) (.leaf (.tup [.agg [.i .i64 0, .i .i64 0, .sl 1 0 noI, .sl 1 0 noI], .i .i64 0, .i .i64 0, .i .i64 (argC x y op k v)]))))))
  | _, _, _, _, _ => .fail
 | _ => .fail
section
variable {φ : Sh → Prop} {x y k v : Int} {l r : List Int}
theorem key77 {op num ret got : Int} {kk vv : List Int} {n m : Nat} {g h : Nat → List Sh} (hφ : φ (res77 (refOp ⟨x, y, l, r⟩ op k v))) (hR : refOp ⟨x, y, l, r⟩ op k v = (⟨x, num, kk, vv⟩, ret, got)) (h1 : RowI n g kk) (h2 : RowI m h vv) :
  up φ (.tup [.agg [.i .i64 x, .i .i64 num, .os 3 1 n g, .os 3 1 m h], .i .i64 ret, .i .i64 got, .i .i64 0]) := by
 rw [hR] at hφ
 exact up_mk (s' := res77 (⟨x, num, kk, vv⟩, ret, got)) ⟨⟨rfl, rfl, .inr ⟨rfl, h1.1, h1.2⟩, .inr ⟨rfl, h2.1, h2.2⟩, trivial⟩, rfl, rfl, rfl, trivial⟩ hφ
end
theorem O77 : FnOK Tryz.prog (gls7 W7) 77 F77 := by
 intro H w shs args φ hon hg hrep h
 have hn : Tryz.f77.ntmps = 92 := by kernel_rfl
 unfold F77 at h
 split at h
 ·rename_i x y s2 s3 t u ww
  split at h
  ·rename_i a g b hh op k v h2 h3 ht hu hw
   obtain ⟨ha, hb, hs, hm, hyes, hno⟩ := h
   have hs := of_decide_eq_true hs
   match args, hrep with
   | [v1, v2, v3, v4], ⟨r1, r2, r3, r4, _⟩ =>
    have hst := rep_st4 h2 h3 ha hb r1
    have hlen1 : (lst Int a g).length = a := lst_length ..
    have hlen2 : (lst Int b hh).length = b := lst_length ..
    rw [← hlen1, ← hlen2] at hs
    have hm : x = 4 → (lst Int a g).length = (lst Int b hh).length := by
     rw [hlen1, hlen2]
     intro e
     simpa [mapU, e] using hm
    generalize lst Int a g = l at *
    generalize lst Int b hh = r at *
    have r2' := rep_num ht r2
    have r3' := rep_num hu r3
    have r4' := rep_num hw r4
    have go (shs' : List Sh) (hr : RepL H shs' [v1, v2, v3, v4]) (c : Int) (ha : MeetsT (Fe2OK Tryz.prog (C7 prim W7 (spec77 c l) sAl) (K0 H w) [] emp (up φ)) (runTo (C7 prim W7 (spec77 c l) sAl) nH0 300 400 77 [.code []] (start0 92 shs' L0) [] [])) :
      Calls Tryz.prog 77 #[v1, v2, v3, v4] w fun e w' => ∃ v s H', e = .returned v ∧ φ s ∧ SpecRes H w s v H' w' := by
     refine (calls_S (C := C7 prim W7 (spec77 c l) sAl) (fn := Tryz.f77) (C7.ok _ _) (by kernel_rfl) (by kernel_rfl) hon hg hr (φ := up φ) (L := L0) ?_).mono fun e w' ⟨v, s, H', he, ⟨s', hw, hs⟩, r⟩ => ?_
     ·rw [hn]; exact gSt (C7.ok _ _) (fok77 _ _ _) ha
     ·obtain ⟨H2, r2⟩ := r.wk hw
      exact ⟨v, s', H2, he, hs, r2⟩
    have k1 : okB Int (len l) (fnR (nth l)) = true := okB_put _ _
    have k2 : okB Int (len r) (fnR (nth r)) = true := okB_put _ _
    cases hc : isC x y op k v 0 with
    | false =>
     have hno := hno hc
     have hc : argC x y op k v ≠ 0 := of_decide_eq_false hc
     have : argC x y op k v = 110 ∨ argC x y op k v = 111 := by
      unfold argC at hc ⊢
      repeat' split
      all_goals simp_all
     rcases this with e | e
     ·rw [e] at hno
      refine go [rf4 x y l r, .i .i64 op, .i .i64 k, .i .i64 v] ⟨hst, r2', r3', r4', trivial⟩ 110 ?_
      refine all_e77_110 prim W7 x y op k v l r k1 k2 (decide_eq_true e) ?_
      exact up_mk (s' := .tup [.agg [.i .i64 0, .i .i64 0, .sl 1 0 noI, .sl 1 0 noI], .i .i64 0, .i .i64 0, .i .i64 110]) ⟨⟨rfl, rfl, .inl ⟨rfl, rfl⟩, .inl ⟨rfl, rfl⟩, trivial⟩, rfl, rfl, rfl, trivial⟩ hno
     ·rw [e] at hno
      refine go [rf4 x y l r, .i .i64 op, .i .i64 k, .i .i64 v] ⟨hst, r2', r3', r4', trivial⟩ 111 ?_
      refine all_e77_111 prim W7 x y op k v l r k1 k2 (decide_eq_true e) ?_
      exact up_mk (s' := .tup [.agg [.i .i64 0, .i .i64 0, .sl 1 0 noI, .sl 1 0 noI], .i .i64 0, .i .i64 0, .i .i64 111]) ⟨⟨rfl, rfl, .inl ⟨rfl, rfl⟩, .inl ⟨rfl, rfl⟩, trivial⟩, rfl, rfl, rfl, trivial⟩ hno
    | true =>
     have hyes := hyes hc
     have hx : x ≠ 0 ∧ ofOp op = x := by
      have hc : argC x y op k v = 0 := of_decide_eq_true hc
      unfold argC at hc
      split at hc
      ·omega
      ·rename_i q
       exact ⟨fun e => q (.inl e), Classical.byContradiction fun e => q (.inr e)⟩
     have hop : op = 1 ∨ op = 2 ∨ op = 3 ∨ op = 4 ∨ op = 5 ∨ op = 6 ∨ op = 7 ∨ op = 8 ∨ op = 9 := by
      obtain ⟨q1, q2⟩ := hx
      unfold ofOp at q2
      split at q2
      ·omega
      ·split at q2
       ·omega
       ·split at q2
        ·omega
        ·split at q2
         ·omega
         ·omega
     have p1 : plB (len l) (fnR (nth l)) = true := rows_pl (rows_nth l) (show l.length ≤ _ by omega)
     have p2 : plB (len r) (fnR (nth r)) = true := rows_pl (rows_nth r) (show r.length ≤ _ by omega)
     have pL : isL l (len l) (fnR (nth l)) = true := by
      unfold isL
      rw [Bool.and_eq_true]
      exact ⟨k1, decide_eq_true ⟨lst_nth l, by omega⟩⟩
     have hpos := posK_le l k
     rcases hop with rfl | rfl | rfl | rfl | rfl | rfl | rfl | rfl | rfl
     ·refine go [rf4 x y l r, .v (.int .i64 1), .i .i64 k, .i .i64 v] ⟨hst, rep_lit r2', r3', r4', trivial⟩ 0 ?_
      refine all_a77_1 prim W7 x y k v l r k1 k2 hc p1 p2 ?_
      exact key77 hyes rfl (rows_int (rows_nth l)) (rows_int (rows_nth r))
     ·refine go [rf4 x y l r, .v (.int .i64 2), .i .i64 k, .i .i64 v] ⟨hst, rep_lit r2', r3', r4', trivial⟩ 0 ?_
      refine all_a77_2 prim W7 x y k v l r k1 k2 hc p1 p2 ?_
      exact key77 hyes rfl (rows_int (rows_nth l)) (rows_int (rows_nth r))
     ·refine go [rf4 x y l r, .v (.int .i64 3), .i .i64 k, .i .i64 v] ⟨hst, rep_lit r2', r3', r4', trivial⟩ 0 ?_
      refine all_a77_3 prim W7 x y k v l r k1 k2 hc p1 p2 ?_
      exact key77 hyes rfl (rows_int (rows_nth l)) (rows_int (rows_nth r))
     ·refine go [rf4 x y l r, .v (.int .i64 4), .i .i64 k, .i .i64 v] ⟨hst, rep_lit r2', r3', r4', trivial⟩ 0 ?_
      refine all_a77_4 prim W7 x y k v l r k1 k2 hc p1 p2 ?_
      exact key77 hyes rfl (rows_int (rows_nth l)) (rows_int (rows_nth r))
     ·refine go [rf4 x y l r, .v (.int .i64 5), .i .i64 k, .i .i64 v] ⟨hst, rep_lit r2', r3', r4', trivial⟩ 0 ?_
      refine all_a77_5 prim W7 x y k v l r k1 k2 hc p1 p2 (room_le (show r.length + 1 ≤ _ by omega) (by omega)) ?_
      refine key77 hyes rfl (rows_int (rows_nth l)) ?_
      exact rows_app (rows_int (rows_nth r)) (rows_one v)
     ·refine go [rf4 x y l r, .v (.int .i64 6), .i .i64 k, .i .i64 v] ⟨hst, rep_lit r2', r3', r4', trivial⟩ 0 ?_
      refine all_a77_6 prim W7 x y k v l r rfl k1 k2 hc p1 p2 ?_ ?_ ?_ ?_ ?_
      ·intro e
       have : r.length ≠ 0 := by simpa [prim_eq, prim_ofN, len] using e
       simp [prim_upTo, len]; omega
      ·intro e
       have : r.length ≠ 0 := by simpa [prim_eq, prim_ofN, len] using e
       exact rows_pl (rows_drop (l := r) (q := 1) (by omega) rfl) (show r.length - 1 ≤ _ by omega)
      ·intro e
       have : r.length ≠ 0 := by simpa [prim_eq, prim_ofN, len] using e
       simp [prim_inB, len]; omega
      ·intro e
       have : r.length = 0 := by simpa [prim_eq, prim_ofN, len] using e
       obtain rfl : r = [] := List.length_eq_zero_iff.1 this
       exact key77 hyes rfl (rows_int (rows_nth l)) (rows_int (rows_nth []))
      ·intro e
       have : r.length ≠ 0 := by simpa [prim_eq, prim_ofN, len] using e
       match r, this with
       | a :: r, _ =>
        exact key77 hyes rfl (rows_int (rows_nth l)) (rows_int (rows_drop (l := a :: r) (q := 1) (by simp) rfl))
     ·have hlr := hm hx.2.symm
      have hpr : posK l k ≤ r.length := by omega
      refine go [rf4 x y l r, .v (.int .i64 7), .i .i64 k, .i .i64 v] ⟨hst, rep_lit r2', r3', r4', trivial⟩ 0 ?_
      refine all_a77_7 prim W7 x y k v l r rfl k1 k2 hc p1 p2 pL ?_ ?_ ?_ ?_ ?_ ?_ ?_ ?_ ?_ ?_ ?_ ?_
      ·intro hk
       have : posK l k < l.length := by simp [hasK] at hk; exact hk.1
       simp [prim_inB, len]; omega
      ·intro _; simp [prim_upTo, len]; omega
      ·intro _; exact rows_pl (rows_take hpos) (show posK l k ≤ _ by omega)
      ·intro _; exact room_le (show posK l k + 1 ≤ _ by omega) (by omega)
      ·intro _; exact rows_pl (rows_drop (l := l) (q := posK l k) hpos rfl) (show l.length - posK l k ≤ _ by omega)
      ·intro _; exact room_le (show posK l k + 1 + (l.length - posK l k) ≤ _ by omega) (by omega)
      ·intro _; simp [prim_upTo, len]; omega
      ·intro _; exact rows_pl (rows_take hpr) (show posK l k ≤ _ by omega)
      ·intro _; exact rows_pl (rows_drop (l := r) (q := posK l k) hpr rfl) (show r.length - posK l k ≤ _ by omega)
      ·intro _; exact room_le (show posK l k + 1 + (r.length - posK l k) ≤ _ by omega) (by omega)
      ·intro hk
       have hlt : posK l k < l.length := by simp [hasK] at hk; exact hk.1
       refine key77 hyes (kk := l) (vv := r.set (posK l k) v) (num := y) (ret := 1) (got := 0) ?_ (rows_int (rows_nth l)) (rows_set v (show posK l k < r.length by omega))
       show (ite _ _ _, _, _) = _
       rw [if_pos (show hasK l k = true from hk)]
      ·intro hk
       refine key77 hyes (kk := l.take (posK l k) ++ k :: l.drop (posK l k)) (vv := r.take (posK l k) ++ v :: r.drop (posK l k)) (num := y) (ret := 1) (got := 0) ?_ ?_ ?_
       ·show (ite _ _ _, _, _) = _
        rw [if_neg (show ¬ hasK l k = true by rw [hk]; simp)]
       ·have := rows_app (rows_app (rows_take hpos) (rows_one k)) (rows_drop (l := l) (q := posK l k) hpos rfl)
        rw [List.append_assoc] at this
        exact this
       ·have := rows_app (rows_app (rows_take hpr) (rows_one v)) (rows_drop (l := r) (q := posK l k) hpr rfl)
        rw [List.append_assoc] at this
        exact this
     ·refine go [rf4 x y l r, .v (.int .i64 8), .i .i64 k, .i .i64 v] ⟨hst, rep_lit r2', r3', r4', trivial⟩ 0 ?_
      refine all_a77_8 prim W7 x y k v l r rfl k1 k2 hc p1 p2 pL ?_ ?_ ?_
      ·intro e
       have hk : hasK l k = true := by simpa [prim_nt] using e
       have hlr := hm hx.2.symm
       have : posK l k < l.length := by simp [hasK] at hk; exact hk.1
       simp [prim_inB, len]; omega
      ·intro e
       have hk : hasK l k = false := by simpa [prim_nt] using e
       refine key77 hyes ?_ (rows_int (rows_nth l)) (rows_int (rows_nth r))
       show (_, ite _ _ _, ite _ _ _) = _
       simp only [hk]
       rfl
      ·intro e
       have hk : hasK l k = true := by simpa [prim_nt] using e
       refine key77 hyes ?_ (rows_int (rows_nth l)) (rows_int (rows_nth r))
       show (_, ite _ _ _, ite _ _ _) = _
       simp only [hk]
       rfl
     ·have hlr := hm hx.2.symm
      have hadd : prim.add .i64 (Int.ofNat (posK l k)) (Int.ofNat 1) = ((posK l k + 1 : Nat) : Int) := by
       show IntKind.i64.wrap ((posK l k : Int) + 1) = _
       rw [wrap_id (by omega) (by omega)]; rfl
      have hlt (e : prim.nt (hasK l k) = false) : posK l k + 1 ≤ l.length ∧ posK l k + 1 ≤ r.length := by
       have hk : hasK l k = true := by simpa [prim_nt] using e
       have : posK l k < l.length := by simp [hasK] at hk; exact hk.1
       omega
      refine go [rf4 x y l r, .v (.int .i64 9), .i .i64 k, .i .i64 v] ⟨hst, rep_lit r2', r3', r4', trivial⟩ 0 ?_
      have eqL : (fun j : Nat => fnR (nth l) (prim.addN (prim.toN (prim.add .i64 (Int.ofNat (posK l k)) 1)) j)) = fnR fun j => nth l (posK l k + 1 + j) := by
       rw [show prim.add .i64 (Int.ofNat (posK l k)) 1 = ((posK l k + 1 : Nat) : Int) from hadd]; rfl
      have eqR : (fun j : Nat => fnR (nth r) (prim.addN (prim.toN (prim.add .i64 (Int.ofNat (posK l k)) 1)) j)) = fnR fun j => nth r (posK l k + 1 + j) := by
       rw [show prim.add .i64 (Int.ofNat (posK l k)) 1 = ((posK l k + 1 : Nat) : Int) from hadd]; rfl
      refine all_a77_9 prim W7 x y k v l r rfl k1 k2 hc p1 p2 pL ?_ ?_ ?_ ?_ ?_ ?_ ?_ ?_ ?_ ?_ ?_ ?_ ?_
      ·intro _; simp [prim_upTo, len]; omega
      ·intro _; exact rows_pl (rows_take hpos) (show posK l k ≤ _ by omega)
      ·intro e; have := hlt e; rw [hadd]; simp [prim_upTo, len]; omega
      ·intro e; have := hlt e; rw [eqL, hadd]; exact rows_pl (rows_drop (l := l) (q := posK l k + 1) this.1 rfl) (show l.length - (posK l k + 1) ≤ _ by omega)
      ·intro e; have := hlt e; rw [hadd]; exact room_le (show posK l k + (l.length - (posK l k + 1)) ≤ _ by omega) (by omega)
      ·intro e; have := hlt e; simp [prim_upTo, len]; omega
      ·intro e; have := hlt e; exact rows_pl (rows_take (show posK l k ≤ r.length by omega)) (show posK l k ≤ _ by omega)
      ·intro e; have := hlt e; rw [hadd]; simp [prim_upTo, len]; omega
      ·intro e; have := hlt e; rw [eqR, hadd]; exact rows_pl (rows_drop (l := r) (q := posK l k + 1) this.2 rfl) (show r.length - (posK l k + 1) ≤ _ by omega)
      ·intro e; have := hlt e; rw [hadd]; exact room_le (show posK l k + (r.length - (posK l k + 1)) ≤ _ by omega) (by omega)
      ·intro e; have := hlt e; simp [prim_inB, len]; omega
      ·intro e
       have hk : hasK l k = false := by simpa [prim_nt] using e
       refine key77 hyes (kk := l) (vv := r) (num := y) (ret := 2) (got := 0) ?_ (rows_int (rows_nth l)) (rows_int (rows_nth r))
       show (ite _ _ _, ite _ _ _, ite _ _ _) = _
       simp only [hk]
       rfl
      ·intro e
       have q := hlt e
       have hk : hasK l k = true := by simpa [prim_nt] using e
       rw [eqL, eqR, hadd]
       refine key77 hyes (kk := l.take (posK l k) ++ l.drop (posK l k + 1)) (vv := r.take (posK l k) ++ r.drop (posK l k + 1)) (num := y) (ret := 3) (got := nth r (posK l k)) ?_ (rows_app (rows_take hpos) (rows_drop (l := l) q.1 rfl)) (rows_app (rows_take (show posK l k ≤ r.length by omega)) (rows_drop (l := r) q.2 rfl))
       show (ite _ _ _, ite _ _ _, ite _ _ _) = _
       simp only [hk]
       rfl
  ·exact h.elim
 ·exact h.elim
end Go.Proofs
namespace Go.Pl
open Go Go.Sx
noncomputable def areU (d : Nat → Rf) (n : Nat) (g : Nat → List Sh) : Bool := @decide (∀ j, j < n → g j = rfS (d j)) (Classical.propDecidable _)
noncomputable def isR (r : Rf) (x y : Int) (s2 s3 : Sh) : Bool := @decide ([.i .i64 x, .i .i64 y, s2, s3] = rfS r) (Classical.propDecidable _)
def opS (r : Rf) (op k v : Int) : Rf := (refOp r op k v).1
def opR (r : Rf) (op k v : Int) : Int := (refOp r op k v).2.1
def opV (r : Rf) (op k v : Int) : Int := (refOp r op k v).2.2
def wfU (r : Rf) : Bool := smallB r.keys.length r.vals.length && mapU r.kind r.keys.length r.vals.length
end Go.Pl
namespace Go.Proofs
open Go.Sx.Tree
open Go Go.Sx Go.Pl
noncomputable def F78w (d : Nat → Rf) : List Sh → Tree Sh
 | [s] => match slN 4 s with
  | some (n, g) => .need (areU d n g) (.need (roomB n 64) (.leaf (.os 76 4 n (fnU d))))
  | none => .fail
 | _ => .fail
noncomputable def F77w (r : Rf) : List Sh → Tree Sh
 | [.agg [.i .i64 x, .i .i64 y, s2, s3], t, u, w] => match icode t, icode u, icode w with
  | some op, some k, some v => .need (isR r x y s2 s3) (.need (wfU r) (.node (isC r.kind r.num op k v 0)
    (.leaf (.tup [.agg [.i .i64 (opS r op k v).kind, .i .i64 (opS r op k v).num, .sl 1 (len (opS r op k v).keys) (fnR (nth (opS r op k v).keys)), .sl 1 (len (opS r op k v).vals) (fnR (nth (opS r op k v).vals))], .i .i64 (opR r op k v), .i .i64 (opV r op k v), .v (.int .i64 0)]))
    (.node (isC r.kind r.num op k v 110) (.leaf (.tup [.agg [.i .i64 0, .i .i64 0, .sl 1 0 noI, .sl 1 0 noI], .i .i64 0, .i .i64 0, .v (.int .i64 110)])) (.leaf (.tup [.agg [.i .i64 0, .i .i64 0, .sl 1 0 noI, .sl 1 0 noI], .i .i64 0, .i .i64 0, .v (.int .i64 111)])))))
  | _, _, _ => .fail
 | _ => .fail
noncomputable def spec47 (d : Nat → Rf) (r : Rf) : Nat → Option (List Sh → Tree Sh)
 | 77 => some (F77w r)
 | 78 => some (F78w d)
 | _ => none
def td78 : List It := [It.code [0, 1, 0, 1, 1], It.inBlock 0, It.code [1, 1, 1]]
def tb78 : List It := It.code [0, 0, 1, 0, 1, 1] :: td78
def LO78 (n : Nat) (d : Nat → Rf) (i : Int) (k : Nat) (gg : Nat → List Sh) : Core := { tm := tmOf 22 [(0, .sh (.sl 4 n (fnU d))), (3, .gs 0), (4, .sym .i64 i)], hp := [(0, .own 76 4 k gg)], nx := 1, lim := L0, tc := [] }
theorem a78 (A : Prim) (W : Wd) (n : Nat) (d : Nat → Rf) (i' : Int) (k' : Nat) (gg' : Nat → List Sh) : runTo (C7 A W noSpec sAl) nH0 300 400 78 [.code []] (start0 22 [.sl 4 n (fnU d)] L0) [] [⟨78, td78, LO78 n d i' k' gg', []⟩] = need (A.le (Int.ofNat 0) (A.ofN n)) (need (A.room (A.toN (A.ofN n)) 64) (leaf (Fe2.at_ 0 [Eqn.sh (Sh.sl 4 n (fnU d)) (Sh.sl 4 n (fnU d)), Eqn.int (Int.ofNat 0) i', Eqn.nat 0 k', Eqn.get 0 (fun (x : Nat) => []) gg']))) := by kernel_rfl
theorem b78 (A : Prim) (W : Wd) (n : Nat) (d : Nat → Rf) (i i' : Int) (k k' : Nat) (gg gg' : Nat → List Sh) : runTo (C7 A W noSpec sAl) nH0 300 400 78 tb78 (LO78 n d i k gg) [] [⟨78, td78, LO78 n d i' k' gg', []⟩] = node (A.lt i (A.ofN n)) (need (A.inB i n) (need (A.room (A.addN k 1) 64) (leaf (Fe2.at_ 0 [Eqn.sh (Sh.sl 4 n (fnU d)) (Sh.sl 4 n (fnU d)), Eqn.int (A.add .i64 i (Int.ofNat 1)) i', Eqn.nat (A.addN k 1) k', Eqn.get (A.addN k 1) (A.snoc gg k (nthL [[Sh.i .i64 (d (A.toN i)).kind, Sh.i .i64 (d (A.toN i)).num, Sh.sl 1 (len (d (A.toN i)).keys) (fnR (nth (d (A.toN i)).keys)), Sh.sl 1 (len (d (A.toN i)).vals) (fnR (nth (d (A.toN i)).vals))]])) gg'])))) (leaf (Fe2.ret (Sh.os 76 4 k gg))) := by kernel_rfl
theorem a47 (A : Prim) (W : Wd) (n : Nat) (d : Nat → Rf) (r : Rf) (i op k v : Int) : runTo (C7 A W (spec47 d r) sAl) nH0 300 400 47 [.code []] (start0 53 [.sl 4 n (fnU d), .i .i64 i, .i .i64 op, .i .i64 k, .i .i64 v] L0) [] [] = node (A.lt i (Int.ofNat 0)) (leaf (Fe2.ret (Sh.tup [Sh.sl 0 0 fun (x : Nat) => [], Sh.i .i64 (Int.ofNat 0), Sh.i .i64 (Int.ofNat 0), Sh.i .i64 (Int.ofNat 109)]))) (node (A.le (A.ofN n) i) (leaf (Fe2.ret (Sh.tup [Sh.sl 0 0 fun (x : Nat) => [], Sh.i .i64 (Int.ofNat 0), Sh.i .i64 (Int.ofNat 0), Sh.i .i64 (Int.ofNat 109)]))) (need (A.inB i n) (need (isR r (d (A.toN i)).kind (d (A.toN i)).num (Sh.sl 1 (len (d (A.toN i)).keys) (fnR (nth (d (A.toN i)).keys))) (Sh.sl 1 (len (d (A.toN i)).vals) (fnR (nth (d (A.toN i)).vals)))) (need (wfU r) (node (isC r.kind r.num op k v (Int.ofNat 0)) (need (areU d n (fnU d)) (need (roomB n 64) (need (A.inB i n) (leaf (Fe2.ret (Sh.tup [Sh.os 76 4 n (A.upd (fnU d) (A.toN i) 0 [Sh.i .i64 (opS r op k v).kind, Sh.i .i64 (opS r op k v).num, Sh.sl 1 (len (opS r op k v).keys) (fnR (nth (opS r op k v).keys)), Sh.sl 1 (len (opS r op k v).vals) (fnR (nth (opS r op k v).vals))]), Sh.i .i64 (opR r op k v), Sh.i .i64 (opV r op k v), Sh.i .i64 (Int.ofNat 0)])))))) (node (isC r.kind r.num op k v (Int.ofNat 110)) (leaf (Fe2.ret (Sh.tup [Sh.sl 0 0 fun (x : Nat) => [], Sh.i .i64 (Int.ofNat 0), Sh.i .i64 (Int.ofNat 0), Sh.i .i64 (Int.ofNat 110)]))) (leaf (Fe2.ret (Sh.tup [Sh.sl 0 0 fun (x : Nat) => [], Sh.i .i64 (Int.ofNat 0), Sh.i .i64 (Int.ofNat 0), Sh.i .i64 (Int.ofNat 111)]))))))))) := by kernel_rfl
end Go.Proofs
namespace Go.Proofs
open Go.Sx.Tree
open Go Go.Sx Go.Pl
theorem all_a78 (A : Prim) (W : Wd) (n : Nat) (d : Nat → Rf) (i' : Int) (k' : Nat) (gg' : Nat → List Sh) {ψ : Fe2 → Prop} (h1 : (A.le (Int.ofNat 0) (A.ofN n)) = true) (h2 : (A.room (A.toN (A.ofN n)) 64) = true) (y1 : ψ (Fe2.at_ 0 [Eqn.sh (Sh.sl 4 n (fnU d)) (Sh.sl 4 n (fnU d)), Eqn.int (Int.ofNat 0) i', Eqn.nat 0 k', Eqn.get 0 (fun (x : Nat) => []) gg'])) : MeetsT ψ (runTo (C7 A W noSpec sAl) nH0 300 400 78 [.code []] (start0 22 [.sl 4 n (fnU d)] L0) [] [⟨78, td78, LO78 n d i' k' gg', []⟩]) := by
 rw [a78 A W n d i' k' gg', meetsT_eq]
 exact ⟨(h1), ⟨(h2), (y1)⟩⟩
theorem all_b78 (A : Prim) (W : Wd) (n : Nat) (d : Nat → Rf) (i i' : Int) (k k' : Nat) (gg gg' : Nat → List Sh) {ψ : Fe2 → Prop} (h1 : (A.lt i (A.ofN n)) = true → (A.inB i n) = true) (h2 : (A.lt i (A.ofN n)) = true → (A.room (A.addN k 1) 64) = true) (y1 : (A.lt i (A.ofN n)) = true → ψ (Fe2.at_ 0 [Eqn.sh (Sh.sl 4 n (fnU d)) (Sh.sl 4 n (fnU d)), Eqn.int (A.add .i64 i (Int.ofNat 1)) i', Eqn.nat (A.addN k 1) k', Eqn.get (A.addN k 1) (A.snoc gg k (nthL [[Sh.i .i64 (d (A.toN i)).kind, Sh.i .i64 (d (A.toN i)).num, Sh.sl 1 (len (d (A.toN i)).keys) (fnR (nth (d (A.toN i)).keys)), Sh.sl 1 (len (d (A.toN i)).vals) (fnR (nth (d (A.toN i)).vals))]])) gg'])) (y2 : (A.lt i (A.ofN n)) = false → ψ (Fe2.ret (Sh.os 76 4 k gg))) : MeetsT ψ (runTo (C7 A W noSpec sAl) nH0 300 400 78 tb78 (LO78 n d i k gg) [] [⟨78, td78, LO78 n d i' k' gg', []⟩]) := by
 rw [b78 A W n d i i' k k' gg gg', meetsT_eq]
 exact ⟨fun q0 => ⟨(h1 q0), ⟨(h2 q0), (y1 q0)⟩⟩, fun q0 => (y2 q0)⟩
theorem all_a47 (A : Prim) (W : Wd) (n : Nat) (d : Nat → Rf) (r : Rf) (i op k v : Int) {ψ : Fe2 → Prop} (h1 : (A.lt i (Int.ofNat 0)) = false → (A.le (A.ofN n) i) = false → (A.inB i n) = true) (h2 : (A.lt i (Int.ofNat 0)) = false → (A.le (A.ofN n) i) = false → (isR r (d (A.toN i)).kind (d (A.toN i)).num (Sh.sl 1 (len (d (A.toN i)).keys) (fnR (nth (d (A.toN i)).keys))) (Sh.sl 1 (len (d (A.toN i)).vals) (fnR (nth (d (A.toN i)).vals)))) = true) (h3 : (A.lt i (Int.ofNat 0)) = false → (A.le (A.ofN n) i) = false → (wfU r) = true) (h4 : (A.lt i (Int.ofNat 0)) = false → (A.le (A.ofN n) i) = false → (isC r.kind r.num op k v (Int.ofNat 0)) = true → (areU d n (fnU d)) = true) (h5 : (A.lt i (Int.ofNat 0)) = false → (A.le (A.ofN n) i) = false → (isC r.kind r.num op k v (Int.ofNat 0)) = true → (roomB n 64) = true) (y1 : (A.lt i (Int.ofNat 0)) = true → ψ (Fe2.ret (Sh.tup [Sh.sl 0 0 fun (x : Nat) => [], Sh.i .i64 (Int.ofNat 0), Sh.i .i64 (Int.ofNat 0), Sh.i .i64 (Int.ofNat 109)]))) (y2 : (A.lt i (Int.ofNat 0)) = false → (A.le (A.ofN n) i) = true → ψ (Fe2.ret (Sh.tup [Sh.sl 0 0 fun (x : Nat) => [], Sh.i .i64 (Int.ofNat 0), Sh.i .i64 (Int.ofNat 0), Sh.i .i64 (Int.ofNat 109)]))) (y3 : (A.lt i (Int.ofNat 0)) = false → (A.le (A.ofN n) i) = false → (isC r.kind r.num op k v (Int.ofNat 0)) = true → ψ (Fe2.ret (Sh.tup [Sh.os 76 4 n (A.upd (fnU d) (A.toN i) 0 [Sh.i .i64 (opS r op k v).kind, Sh.i .i64 (opS r op k v).num, Sh.sl 1 (len (opS r op k v).keys) (fnR (nth (opS r op k v).keys)), Sh.sl 1 (len (opS r op k v).vals) (fnR (nth (opS r op k v).vals))]), Sh.i .i64 (opR r op k v), Sh.i .i64 (opV r op k v), Sh.i .i64 (Int.ofNat 0)]))) (y4 : (A.lt i (Int.ofNat 0)) = false → (A.le (A.ofN n) i) = false → (isC r.kind r.num op k v (Int.ofNat 0)) = false → (isC r.kind r.num op k v (Int.ofNat 110)) = true → ψ (Fe2.ret (Sh.tup [Sh.sl 0 0 fun (x : Nat) => [], Sh.i .i64 (Int.ofNat 0), Sh.i .i64 (Int.ofNat 0), Sh.i .i64 (Int.ofNat 110)]))) (y5 : (A.lt i (Int.ofNat 0)) = false → (A.le (A.ofN n) i) = false → (isC r.kind r.num op k v (Int.ofNat 0)) = false → (isC r.kind r.num op k v (Int.ofNat 110)) = false → ψ (Fe2.ret (Sh.tup [Sh.sl 0 0 fun (x : Nat) => [], Sh.i .i64 (Int.ofNat 0), Sh.i .i64 (Int.ofNat 0), Sh.i .i64 (Int.ofNat 111)]))) : MeetsT ψ (runTo (C7 A W (spec47 d r) sAl) nH0 300 400 47 [.code []] (start0 53 [.sl 4 n (fnU d), .i .i64 i, .i .i64 op, .i .i64 k, .i .i64 v] L0) [] []) := by
 rw [a47 A W n d r i op k v, meetsT_eq]
 exact ⟨fun q0 => (y1 q0), fun q0 => ⟨fun q1 => (y2 q0 q1), fun q1 => ⟨(h1 q0 q1), ⟨(h2 q0 q1), ⟨(h3 q0 q1), ⟨fun q2 => ⟨(h4 q0 q1 q2), ⟨(h5 q0 q1 q2), ⟨(h1 q0 q1), (y3 q0 q1 q2)⟩⟩⟩, fun q2 => ⟨fun q3 => (y4 q0 q1 q2 q3), fun q3 => (y5 q0 q1 q2 q3)⟩⟩⟩⟩⟩⟩⟩
end Go.Proofs
namespace Go.Proofs
open Go Go.Sx Go.Pl
theorem res_lit4 {H H' : Mem} {w w' : World} {v : Value} {X : Sh} {a b c : Int} (r : SpecRes H w (.tup [X, .i .i64 a, .i .i64 b, .i .i64 c]) v H' w') : SpecRes H w (.tup [X, .i .i64 a, .i .i64 b, .v (.int .i64 c)]) v H' w' :=
 ⟨r.Hle, r.on, r.os, r.tape, r.output, r.size, r.old, r.fresh, fun b0 => by
  obtain ⟨E1, a1, a2, ⟨⟨vs⟩, e, hd⟩, a4⟩ := r.res b0
  refine ⟨E1, a1, a2, ⟨⟨vs⟩, e, ?_⟩, a4⟩
  match vs, hd with
  | [a, b, c, d], ⟨h1, h2, h3, h4, _⟩ => exact ⟨h1, h2, h3, h4, trivial⟩⟩
theorem areU_at {d : Nat → Rf} {n : Nat} {g : Nat → List Sh} (h : areU d n g = true) : ∀ j, j < n → g j = fnU d j := @of_decide_eq_true _ (Classical.propDecidable _) h
theorem areU_of {d : Nat → Rf} {n : Nat} {g : Nat → List Sh} (h : ∀ j, j < n → g j = fnU d j) : areU d n g = true := @decide_eq_true _ (Classical.propDecidable _) h
theorem O77w (r : Rf) : FnOK Tryz.prog (gls7 W7) 77 (F77w r) := by
 intro H w shs args φ hon hg hr hφ
 have key : (F77 shs).All fun s => ∃ X a b c, s = .tup [X, .i .i64 a, .i .i64 b, .i .i64 c] ∧ φ (.tup [X, .i .i64 a, .i .i64 b, .v (.int .i64 c)]) := by
  unfold F77w at hφ
  split at hφ
  ·rename_i x y s2 s3 t u ww
   split at hφ
   ·rename_i op k v ht hu hw
    obtain ⟨h1, h2, h3, h4⟩ := hφ
    have h1 : [.i .i64 x, .i .i64 y, s2, s3] = rfS r := @of_decide_eq_true _ (Classical.propDecidable _) h1
    unfold rfS at h1
    injection h1 with e1 e2
    injection e2 with e2 e3
    injection e3 with e3 e4
    injection e4 with e4 _
    injection e1 with _ e1
    injection e2 with _ e2
    subst e1 e2 e3 e4
    have h2 : (_ && _) = true := h2
    rw [Bool.and_eq_true] at h2
    have sl1 (l : List Int) : slN 1 (.sl 1 (len l) (fnR (nth l))) = some (len l, fnR (nth l)) := rfl
    unfold F77
    simp only [ht, hu, hw, sl1]
    refine ⟨okB_put _ _, okB_put _ _, h2.1, h2.2, fun q => ?_, fun q => ?_⟩
    ·have e := h3 q
     have l1 : lst Int (len r.keys) (fnR (nth r.keys)) = r.keys := lst_nth _
     have l2 : lst Int (len r.vals) (fnR (nth r.vals)) = r.vals := lst_nth _
     rw [l1, l2]
     exact ⟨_, _, _, _, rfl, e⟩
    ·obtain ⟨h5, h6⟩ := h4 q
     refine ⟨_, _, _, _, rfl, ?_⟩
     cases q2 : isC r.kind r.num op k v 110 with
     | true =>
      have q2' : argC r.kind r.num op k v = 110 := of_decide_eq_true q2
      rw [q2']
      exact h5 q2
     | false =>
      have q' : argC r.kind r.num op k v ≠ 0 := of_decide_eq_false q
      have q2' : argC r.kind r.num op k v ≠ 110 := of_decide_eq_false q2
      have : argC r.kind r.num op k v = 111 := by
       unfold argC at q' q2' ⊢
       split
       ·rfl
       ·rename_i hn
        rw [if_neg hn] at q' q2'
        split at q'
        ·rename_i hn2; rw [if_pos hn2] at q2'; omega
        ·rename_i hn2
         rw [if_neg hn2] at q2'
         split at q'
         ·rename_i hn3; rw [if_pos hn3] at q2'; omega
         ·omega
      rw [this]
      exact h6 q2
   ·exact hφ.elim
  ·exact hφ.elim
 refine (O77 H w shs args _ hon hg hr key).mono fun e w' ⟨v, s, H', he, ⟨X, a, b, c, hs, hφ⟩, r⟩ => ?_
 subst hs
 exact ⟨v, _, H', he, hφ, res_lit4 r⟩
section
variable {H0 : Mem} {w0 : World} {φ : Sh → Prop}
theorem loop78 {n : Nat} {d : Nat → Rf} (hr : roomB n 64 = true) (hφ : φ (.os 76 4 n (fnU d))) :
  ∀ m k, k + m = n → GoesS Tryz.prog (C7 prim W7 noSpec sAl) (K0 H0 w0) 78 td78 (LO78 n d (k : Int) k (fnU d)) [] emp φ
 | m, k, hk => by
  obtain ⟨hr1, hr2⟩ := room_spec hr
  refine gSi (fn := Tryz.f78) (tb := tb78) (by kernel_rfl) (by kernel_rfl) ?_
  refine gSt (C7.ok _ _) (fok0 _) (hold := nH0) (m := 300) (n := 400) (ts := [⟨78, td78, LO78 n d (k + 1 : Nat) (k + 1) (fnU d), []⟩]) ?_
  refine all_b78 prim W7 n d k (k + 1 : Nat) k (k + 1) (fnU d) (fnU d) ?_ ?_ ?_ ?_
  ·intro h; simp [prim_lt, prim_ofN] at h; simp [prim_inB]; omega
  ·intro h
   simp [prim_lt, prim_ofN] at h
   show decide ((k + 1) * 64 ≤ 140737488355328 ∧ k + 1 ≤ maxLen) = true
   rw [maxLen_eq]
   exact decide_eq_true (by omega)
  ·intro h
   simp [prim_lt, prim_ofN] at h
   refine ⟨⟨rfl, ?_, rfl, fun j hj => ?_, trivial⟩, _, rfl, ?_⟩
   ·show IntKind.i64.wrap ((k : Int) + 1) = _
    rw [wrap_id (by omega) (by omega)]; rfl
   ·have hj : j < k + 1 := hj
    rw [prim_snoc]
    split
    ·rfl
    ·obtain rfl : j = k := by omega
     simp only [prim_toN, Int.toNat_natCast, Nat.sub_self]
     rfl
   ·match m, hk with
    | 0, hk => omega
    | m + 1, hk => exact loop78 hr hφ m (k + 1) (by omega)
  ·intro h
   have : k = n := by simp [prim_lt, prim_ofN] at h; omega
   subst this
   exact hφ
end
theorem O78w (d : Nat → Rf) : FnOK Tryz.prog (gls7 W7) 78 (F78w d) := by
 refine fnOK_S (C := C7 prim W7 noSpec sAl) (C7.ok _ _) (fn := Tryz.f78) (by kernel_rfl) (by kernel_rfl) fun H w shs args φ hrep h => ?_
 have hn : Tryz.f78.ntmps = 22 := by kernel_rfl
 unfold F78w at h
 split at h
 ·split at h
  ·rename_i n g hs
   obtain ⟨h1, h2, hφ⟩ := h
   match args, hrep with
   | [v], ⟨r1, _⟩ =>
    refine ⟨[.sl 4 n (fnU d)], ⟨rep_sl_congr (rep_slN hs r1) (areU_at h1), trivial⟩, L0, ?_⟩
    refine gSt (C7.ok _ _) (fok0 _) (hold := nH0) (m := 300) (n := 400) (ts := [⟨78, td78, LO78 n d (0 : Nat) 0 (fnU d), []⟩]) ?_
    rw [hn]
    refine all_a78 prim W7 n d (0 : Nat) 0 (fnU d) ?_ h2 ⟨⟨rfl, rfl, rfl, fun j hj => by omega, trivial⟩, _, rfl, ?_⟩
    ·simp [prim_le, prim_ofN]
    ·exact loop78 h2 hφ n 0 (by omega)
  ·exact h.elim
 ·exact h.elim
theorem fok47 (d : Nat → Rf) (r : Rf) (stop : Nat → List Nat → Bool) : FnsOK Tryz.prog (C7 prim W7 (spec47 d r) stop) := C7.fok (fun g F h => by
 unfold spec47 at h
 split at h
 ·cases h; exact O77w r
 ·cases h; exact O78w d
 ·cases h) fun g h => by
 unfold spec47 at h
 split at h
 all_goals first | (cases h; done) | kernel_rfl
noncomputable def F47 (d : Nat → Rf) : List Sh → Tree Sh
 | [s, t, u, w, z] => match slN 4 s, icode t, icode u, icode w, icode z with
  | some (n, g), some i, some op, some k, some v => .need (areU d n g) (.need (roomB n 64) (.node (inI n i)
    (.need (wfU (d i.toNat)) (.node (isC (d i.toNat).kind (d i.toNat).num op k v 0)
     (.leaf (.tup [.sl 4 n (updG n (fnU d) i (rfS (opS (d i.toNat) op k v))), .i .i64 (opR (d i.toNat) op k v), .i .i64 (opV (d i.toNat) op k v), .v (.int .i64 0)]))
     (.node (isC (d i.toNat).kind (d i.toNat).num op k v 110) (.leaf (.tup [.sl 0 0 noT, .i .i64 0, .i .i64 0, .v (.int .i64 110)])) (.leaf (.tup [.sl 0 0 noT, .i .i64 0, .i .i64 0, .v (.int .i64 111)])))))
    (.leaf (.tup [.sl 0 0 noT, .i .i64 0, .i .i64 0, .v (.int .i64 109)]))))
  | _, _, _, _, _ => .fail
 | _ => .fail
theorem O47 (d : Nat → Rf) : FnOK Tryz.prog (gls7 W7) 47 (F47 d) := by
 intro H w shs args φ hon hg hrep h
 have hn : Tryz.f47.ntmps = 53 := by kernel_rfl
 unfold F47 at h
 split at h
 ·rename_i s t u w' z
  split at h
  ·rename_i n g i op k v hs ht hu hw hz
   obtain ⟨h1, h2, hin, hout⟩ := h
   match args, hrep with
   | [v1, v2, v3, v4, v5], ⟨r1, r2, r3, r4, r5, _⟩ =>
    have hr : RepL H [.sl 4 n (fnU d), .i .i64 i, .i .i64 op, .i .i64 k, .i .i64 v] [v1, v2, v3, v4, v5] := ⟨rep_sl_congr (rep_slN hs r1) (areU_at h1), rep_num ht r2, rep_num hu r3, rep_num hw r4, rep_num hz r5, trivial⟩
    have key : Calls Tryz.prog 47 #[v1, v2, v3, v4, v5] w fun e w' => ∃ v s H', e = .returned v ∧ (∃ X a b c, s = .tup [X, .i .i64 a, .i .i64 b, .i .i64 c] ∧ φ (.tup [X, .i .i64 a, .i .i64 b, .v (.int .i64 c)])) ∧ SpecRes H w s v H' w' := by
     refine (calls_S (C := C7 prim W7 (spec47 d (d i.toNat)) sAl) (fn := Tryz.f47) (C7.ok _ _) (by kernel_rfl) (by kernel_rfl) hon hg hr (φ := up fun s => ∃ X a b c, s = .tup [X, .i .i64 a, .i .i64 b, .i .i64 c] ∧ φ (.tup [X, .i .i64 a, .i .i64 b, .v (.int .i64 c)])) (L := L0) ?_).mono fun e w' ⟨v, s, H', he, ⟨s', hw, hs⟩, r⟩ => ?_
     ·rw [hn]
      refine gSt (C7.ok _ _) (fok47 _ _ _) (hold := nH0) (m := 300) (n := 400) (ts := []) ?_
      have out (c : Int) (hφ : φ (.tup [.sl 0 0 noT, .i .i64 0, .i .i64 0, .v (.int .i64 c)])) : up (fun s => ∃ X a b c, s = .tup [X, .i .i64 a, .i .i64 b, .i .i64 c] ∧ φ (.tup [X, .i .i64 a, .i .i64 b, .v (.int .i64 c)])) (.tup [.sl 0 0 fun _ => [], .i .i64 0, .i .i64 0, .i .i64 c]) :=
       up_mk (s' := .tup [.sl 0 0 noT, .i .i64 0, .i .i64 0, .i .i64 c]) ⟨.inl ⟨rfl, rfl⟩, rfl, rfl, rfl, trivial⟩ ⟨_, _, _, _, rfl, hφ⟩
      have ok (h0 : prim.lt i (Int.ofNat 0) = false) (h0' : prim.le (prim.ofN n) i = false) : inI n i = true := by
       simp [prim_lt, prim_le, prim_ofN] at h0 h0'
       simp [inI]; omega
      refine all_a47 prim W7 n d (d i.toNat) i op k v ?_ ?_ ?_ ?_ ?_ ?_ ?_ ?_ ?_ ?_
      ·intro q q'; have := ok q q'; simpa [inI, prim_inB] using this
      ·intro q q'; exact @decide_eq_true _ (Classical.propDecidable _) rfl
      ·intro q q'; exact (hin (ok q q')).1
      ·intro q q' _; exact areU_of fun _ _ => rfl
      ·intro q q' _; exact h2
      ·intro q; exact out 109 (hout (by simp [prim_lt] at q; simp [inI]; omega))
      ·intro q q'; exact out 109 (hout (by simp [prim_le, prim_ofN] at q'; simp [inI]; omega))
      ·intro q q' q2
       obtain ⟨_, h3, _⟩ := hin (ok q q')
       have h3 := h3 q2
       refine up_mk (s' := .tup [.sl 4 n (updG n (fnU d) i (rfS (opS (d i.toNat) op k v))), .i .i64 (opR (d i.toNat) op k v), .i .i64 (opV (d i.toNat) op k v), .i .i64 0]) ⟨.inr ⟨rfl, rfl, fun j hj => ?_⟩, rfl, rfl, rfl, trivial⟩ ⟨_, _, _, _, rfl, h3⟩
       rw [prim_upd, prim_toN]
       unfold updG
       rw [ok q q']
       by_cases e : j = i.toNat
       ·subst e
        simp [fnU, rfS]
       ·simp [e]
      ·intro q q' q2 q3
       obtain ⟨_, _, h4⟩ := hin (ok q q')
       exact out 110 ((h4 q2).1 q3)
      ·intro q q' q2 q3
       obtain ⟨_, _, h4⟩ := hin (ok q q')
       exact out 111 ((h4 q2).2 q3)
     ·obtain ⟨H2, r2⟩ := r.wk hw
      exact ⟨v, s', H2, he, hs, r2⟩
    refine key.mono fun e w' ⟨v, s, H', he, ⟨X, a, b, c, hs, hφ⟩, r⟩ => ?_
    subst hs
    exact ⟨v, _, H', he, hφ, res_lit4 r⟩
  ·exact h.elim
 ·exact h.elim
end Go.Proofs
