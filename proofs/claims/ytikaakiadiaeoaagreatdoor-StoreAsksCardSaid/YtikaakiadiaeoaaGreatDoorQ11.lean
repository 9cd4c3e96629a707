/-
  Chapters 6 and 7: keys of the document's states; evaluated. Chapters 6 and 7: keys of the document's states: the evaluated trees as lemmas, Chapters 6 and 7: the key of a state of the document. Chapters 6 and 7: the key of a store of the document. Chapters 6 and 7: does the program's store tell what the document's does: evaluated. Chapters 6 and 7: does the program's store tell what the document's does: the evaluated trees as lemmas, Chapters 6 and 7: does the program's store tell what the document's does. Chapters 6 and 7: both stores behind some operations: evaluated. Chapters 6 and 7: both stores behind some operations: the evaluated trees as lemmas, Chapters 6 and 7: the plain law: the document's state of a state; an operation here and there. Chapters 6 and 7: the plain law: an operation on a state and on the document's. Chapters 6 and 7: the plain law: the keys alike; what is asked of states that are reached. Chapters 6 and 7: both stores behind some operations: summaries. Chapter 7: the document's Same and Differ: evaluated. Chapter 7: the document's Same and Differ: the evaluated trees as lemmas,
-/
import Derived.Test.YtikaakiadiaeoaaGreatDoorQ10
namespace Go.Pl
open Go Go.Sx
def wordU (k : Int) : List UInt8 := Go.Proofs.W7 7 (k - 1).toNat
def tabB (c : Int) : Bool := decide (c = 1)
def kindB (k : Int) : Bool := decide (1 ≤ k ∧ k ≤ 4)
def qU (r : List Int) (j : Nat) : List UInt8 := (List.range j).flatMap fun i => 32 :: itoaS (nth r i)
def pU (l r : List Int) (j : Nat) : List UInt8 := (List.range j).flatMap fun i => 32 :: (itoaS (nth l i) ++ 58 :: itoaS (nth r i))
def keyU (s : Rf) : List UInt8 := if s.kind = 0 then [] else wordU s.kind ++ (if s.kind ≤ 2 then 32 :: itoaS s.num else if s.kind = 3 then qU s.vals s.vals.length else pU s.keys s.vals s.vals.length)
noncomputable def rowB (l : List Sh) : Bool := @decide (∃ r : Rf, l = rfS r) (Classical.propDecidable _)
noncomputable def rowF (l : List Sh) : Rf := @dite _ (∃ r : Rf, l = rfS r) (Classical.propDecidable _) (fun h => h.choose) fun _ => ⟨0, 0, [], []⟩
def numsU (s : Rf) : Bool := in64 s.num && s.keys.all in64 && s.vals.all in64
def okU (r : Rf) : Bool := kindB r.kind && (wfU r && numsU r)
end Go.Pl
namespace Go.Proofs
open Go.Sx.Tree
open Go Go.Sx Go.Pl
def F61 : List Sh → Tree Sh
 | [s, t] => match icode s, icode t with
  | some c, some k => .need (tabB c) (.need (kindB k) (.leaf (.str (wordU k))))
  | _, _ => .fail
 | _ => .fail
def spec36 : Nat → Option (List Sh → Tree Sh)
 | 61 => some F61
 | 62 => some F92
 | _ => none
def td36 : List It := [It.code [0, 1, 0, 1, 1, 1, 1], It.inBlock 0, It.code [1, 1, 1, 1, 1]]
def tb36 : List It := It.code [0, 0, 1, 0, 1, 1, 1, 1] :: td36
def LO36 (x y : Int) (l r : List Int) (i : Int) (b : List UInt8) : Core := { tm := tmOf 58 [(1, .ptr 0 0), (3, .gs 1), (4, .sym .i64 i)], hp := [(0, .box [.int .i64 x, .sym .i64 y, .sh (.sl 1 (len l) (fnR (nth l))), .sh (.sl 1 (len r) (fnR (nth r)))] 76), (1, .buf 5 b)], nx := 2, lim := L0, tc := [] }
def rfL (x y : Int) (l r : List Int) : Sh := .agg [.v (.int .i64 x), .i .i64 y, .sl 1 (len l) (fnR (nth l)), .sl 1 (len r) (fnR (nth r))]
noncomputable def F36 (r : Rf) : List Sh → Tree Sh
 | [.agg [.i .i64 x, .i .i64 y, s2, s3]] => .need (isR r x y s2 s3) (.need (wfU r) (.need (numsU r) (.need (kindB r.kind) (.leaf (.str (keyU r))))))
 | _ => .fail
noncomputable def F36c : List Sh → Tree Sh
 | [.agg [x, y, s2, s3]] => .need (rowB [x, y, s2, s3]) (.need (okU (rowF [x, y, s2, s3])) (.leaf (.str (keyU (rowF [x, y, s2, s3])))))
 | _ => .fail
noncomputable def spec79 : Nat → Option (List Sh → Tree Sh)
 | 36 => some F36c
 | _ => none
def td79 : List It := [It.code [0, 1, 0, 1, 1], It.inBlock 0, It.code [1, 1, 1]]
def tb79 : List It := It.code [0, 0, 1, 0, 1, 1] :: td79
def LN79 (n : Nat) (d : Nat → Rf) (i : Int) : Core := { tm := tmOf 26 [(0, .sh (.sl 4 n (fnU d))), (3, .nils), (4, .sym .i64 i)], hp := [], nx := 0, lim := L0, tc := [] }
def LO79 (n : Nat) (d : Nat → Rf) (i : Int) (b : List UInt8) : Core := { tm := tmOf 26 [(0, .sh (.sl 4 n (fnU d))), (3, .gs 0), (4, .sym .i64 i)], hp := [(0, .buf 5 b)], nx := 1, lim := L0, tc := [] }
theorem a36_1 (A : Prim) (W : Wd) (y : Int) (l r : List Int) : runTo (C7 A W spec36 sAl) nH0 300 400 36 [.code []] (start0 58 [rfL 1 y l r] L0) [] [] = need (tabB (Int.ofNat 1)) (need (kindB (Int.ofNat 1)) (need (A.room (A.len (wordU (Int.ofNat 1))) 1) (need (A.room (A.addN (A.len (wordU (Int.ofNat 1))) (A.len [32])) 1) (need (in64 y) (need (A.room (A.addN (A.len (A.app (wordU (Int.ofNat 1)) [32])) (A.len (itoaS y))) 1) (leaf (Fe2.ret (Sh.str (A.app (A.app (wordU (Int.ofNat 1)) [32]) (itoaS y)))))))))) := by kernel_rfl
theorem a36_2 (A : Prim) (W : Wd) (y : Int) (l r : List Int) : runTo (C7 A W spec36 sAl) nH0 300 400 36 [.code []] (start0 58 [rfL 2 y l r] L0) [] [] = need (tabB (Int.ofNat 1)) (need (kindB (Int.ofNat 2)) (need (A.room (A.len (wordU (Int.ofNat 2))) 1) (need (A.room (A.addN (A.len (wordU (Int.ofNat 2))) (A.len [32])) 1) (need (in64 y) (need (A.room (A.addN (A.len (A.app (wordU (Int.ofNat 2)) [32])) (A.len (itoaS y))) 1) (leaf (Fe2.ret (Sh.str (A.app (A.app (wordU (Int.ofNat 2)) [32]) (itoaS y)))))))))) := by kernel_rfl
theorem a36_3 (A : Prim) (W : Wd) (y i' : Int) (l r : List Int) (b' : List UInt8) : runTo (C7 A W spec36 sAl) nH0 300 400 36 [.code []] (start0 58 [rfL 3 y l r] L0) [] [⟨36, td36, LO36 3 y l r i' b', []⟩] = need (tabB (Int.ofNat 1)) (need (kindB (Int.ofNat 3)) (need (A.room (A.len (wordU (Int.ofNat 3))) 1) (leaf (Fe2.at_ 0 [Eqn.int (Int.ofNat 0) i', Eqn.int (Int.ofNat 3) (Int.ofNat 3), Eqn.int y y, Eqn.sh (Sh.sl 1 (len l) (fnR (nth l))) (Sh.sl 1 (len l) (fnR (nth l))), Eqn.sh (Sh.sl 1 (len r) (fnR (nth r))) (Sh.sl 1 (len r) (fnR (nth r))), Eqn.str (wordU (Int.ofNat 3)) b'])))) := by kernel_rfl
theorem b36_3 (A : Prim) (W : Wd) (y i i' : Int) (l r : List Int) (b b' : List UInt8) : runTo (C7 A W spec36 sAl) nH0 300 400 36 tb36 (LO36 3 y l r i b) [] [⟨36, td36, LO36 3 y l r i' b', []⟩] = node (A.lt i (A.ofN (len r))) (need (A.room (A.addN (A.len b) (A.len [32])) 1) (need (A.inB i (len r)) (need (in64 (nth r (A.toN i))) (need (A.room (A.addN (A.len (A.app b [32])) (A.len (itoaS (nth r (A.toN i))))) 1) (leaf (Fe2.at_ 0 [Eqn.int (A.add .i64 i (Int.ofNat 1)) i', Eqn.int (Int.ofNat 3) (Int.ofNat 3), Eqn.int y y, Eqn.sh (Sh.sl 1 (len l) (fnR (nth l))) (Sh.sl 1 (len l) (fnR (nth l))), Eqn.sh (Sh.sl 1 (len r) (fnR (nth r))) (Sh.sl 1 (len r) (fnR (nth r))), Eqn.str (A.app (A.app b [32]) (itoaS (nth r (A.toN i)))) b'])))))) (leaf (Fe2.ret (Sh.str b))) := by kernel_rfl
theorem a36_4 (A : Prim) (W : Wd) (y i' : Int) (l r : List Int) (b' : List UInt8) : runTo (C7 A W spec36 sAl) nH0 300 400 36 [.code []] (start0 58 [rfL 4 y l r] L0) [] [⟨36, td36, LO36 4 y l r i' b', []⟩] = need (tabB (Int.ofNat 1)) (need (kindB (Int.ofNat 4)) (need (A.room (A.len (wordU (Int.ofNat 4))) 1) (leaf (Fe2.at_ 0 [Eqn.int (Int.ofNat 0) i', Eqn.int (Int.ofNat 4) (Int.ofNat 4), Eqn.int y y, Eqn.sh (Sh.sl 1 (len l) (fnR (nth l))) (Sh.sl 1 (len l) (fnR (nth l))), Eqn.sh (Sh.sl 1 (len r) (fnR (nth r))) (Sh.sl 1 (len r) (fnR (nth r))), Eqn.str (wordU (Int.ofNat 4)) b'])))) := by kernel_rfl
theorem b36_4 (A : Prim) (W : Wd) (y i i' : Int) (l r : List Int) (b b' : List UInt8) : runTo (C7 A W spec36 sAl) nH0 300 400 36 tb36 (LO36 4 y l r i b) [] [⟨36, td36, LO36 4 y l r i' b', []⟩] = node (A.lt i (A.ofN (len r))) (need (A.room (A.addN (A.len b) (A.len [32])) 1) (need (A.inB i (len l)) (need (in64 (nth l (A.toN i))) (need (A.room (A.addN (A.len (A.app b [32])) (A.len (itoaS (nth l (A.toN i))))) 1) (need (A.room (A.addN (A.len (A.app (A.app b [32]) (itoaS (nth l (A.toN i))))) (A.len [58])) 1) (need (A.inB i (len r)) (need (in64 (nth r (A.toN i))) (need (A.room (A.addN (A.len (A.app (A.app (A.app b [32]) (itoaS (nth l (A.toN i)))) [58])) (A.len (itoaS (nth r (A.toN i))))) 1) (leaf (Fe2.at_ 0 [Eqn.int (A.add .i64 i (Int.ofNat 1)) i', Eqn.int (Int.ofNat 4) (Int.ofNat 4), Eqn.int y y, Eqn.sh (Sh.sl 1 (len l) (fnR (nth l))) (Sh.sl 1 (len l) (fnR (nth l))), Eqn.sh (Sh.sl 1 (len r) (fnR (nth r))) (Sh.sl 1 (len r) (fnR (nth r))), Eqn.str (A.app (A.app (A.app (A.app b [32]) (itoaS (nth l (A.toN i)))) [58]) (itoaS (nth r (A.toN i)))) b'])))))))))) (leaf (Fe2.ret (Sh.str b))) := by kernel_rfl
theorem a61_1 (A : Prim) (W : Wd) : runTo (C7 A W noSpec sAl) nH0 300 400 61 [.code []] (start0 21 [.v (.int .i64 1), .v (.int .i64 1)] L0) [] [] = leaf (Fe2.ret (Sh.str [114, 101, 103, 105, 115, 116, 101, 114])) := by kernel_rfl
theorem a61_2 (A : Prim) (W : Wd) : runTo (C7 A W noSpec sAl) nH0 300 400 61 [.code []] (start0 21 [.v (.int .i64 1), .v (.int .i64 2)] L0) [] [] = leaf (Fe2.ret (Sh.str [99, 111, 117, 110, 116, 101, 114])) := by kernel_rfl
theorem a61_3 (A : Prim) (W : Wd) : runTo (C7 A W noSpec sAl) nH0 300 400 61 [.code []] (start0 21 [.v (.int .i64 1), .v (.int .i64 3)] L0) [] [] = leaf (Fe2.ret (Sh.str [113, 117, 101, 117, 101])) := by kernel_rfl
theorem a61_4 (A : Prim) (W : Wd) : runTo (C7 A W noSpec sAl) nH0 300 400 61 [.code []] (start0 21 [.v (.int .i64 1), .v (.int .i64 4)] L0) [] [] = leaf (Fe2.ret (Sh.str [109, 97, 112])) := by kernel_rfl
theorem a79 (A : Prim) (W : Wd) (n : Nat) (d : Nat → Rf) (i' : Int) : runTo (C7 A W spec79 sAl) nH0 300 400 79 [.code []] (start0 26 [.sl 4 n (fnU d)] L0) [] [⟨79, td79, LN79 n d i', []⟩] = leaf (Fe2.at_ 0 [Eqn.sh (Sh.sl 4 n (fnU d)) (Sh.sl 4 n (fnU d)), Eqn.int (Int.ofNat 0) i']) := by kernel_rfl
theorem b79 (A : Prim) (W : Wd) (n : Nat) (d : Nat → Rf) (i i' : Int) (b' : List UInt8) : runTo (C7 A W spec79 sAl) nH0 300 400 79 tb79 (LN79 n d i) [] [⟨79, td79, LO79 n d i' b', []⟩] = node (A.lt i (A.ofN n)) (node (A.lt (Int.ofNat 0) i) (need (A.room (A.addN (A.len []) (A.len [59, 32])) 1) (need (A.inB i n) (need (rowB [Sh.i .i64 (d (A.toN i)).kind, Sh.i .i64 (d (A.toN i)).num, Sh.sl 1 (len (d (A.toN i)).keys) (fnR (nth (d (A.toN i)).keys)), Sh.sl 1 (len (d (A.toN i)).vals) (fnR (nth (d (A.toN i)).vals))]) (need (okU (rowF [Sh.i .i64 (d (A.toN i)).kind, Sh.i .i64 (d (A.toN i)).num, Sh.sl 1 (len (d (A.toN i)).keys) (fnR (nth (d (A.toN i)).keys)), Sh.sl 1 (len (d (A.toN i)).vals) (fnR (nth (d (A.toN i)).vals))])) (need (A.room (A.addN (A.len (A.app [] [59, 32])) (A.len (keyU (rowF [Sh.i .i64 (d (A.toN i)).kind, Sh.i .i64 (d (A.toN i)).num, Sh.sl 1 (len (d (A.toN i)).keys) (fnR (nth (d (A.toN i)).keys)), Sh.sl 1 (len (d (A.toN i)).vals) (fnR (nth (d (A.toN i)).vals))])))) 1) (leaf (Fe2.at_ 0 [Eqn.sh (Sh.sl 4 n (fnU d)) (Sh.sl 4 n (fnU d)), Eqn.int (A.add .i64 i (Int.ofNat 1)) i', Eqn.str (A.app (A.app [] [59, 32]) (keyU (rowF [Sh.i .i64 (d (A.toN i)).kind, Sh.i .i64 (d (A.toN i)).num, Sh.sl 1 (len (d (A.toN i)).keys) (fnR (nth (d (A.toN i)).keys)), Sh.sl 1 (len (d (A.toN i)).vals) (fnR (nth (d (A.toN i)).vals))]))) b']))))))) (need (A.inB i n) (need (rowB [Sh.i .i64 (d (A.toN i)).kind, Sh.i .i64 (d (A.toN i)).num, Sh.sl 1 (len (d (A.toN i)).keys) (fnR (nth (d (A.toN i)).keys)), Sh.sl 1 (len (d (A.toN i)).vals) (fnR (nth (d (A.toN i)).vals))]) (need (okU (rowF [Sh.i .i64 (d (A.toN i)).kind, Sh.i .i64 (d (A.toN i)).num, Sh.sl 1 (len (d (A.toN i)).keys) (fnR (nth (d (A.toN i)).keys)), Sh.sl 1 (len (d (A.toN i)).vals) (fnR (nth (d (A.toN i)).vals))])) (need (A.room (A.addN (A.len []) (A.len (keyU (rowF [Sh.i .i64 (d (A.toN i)).kind, Sh.i .i64 (d (A.toN i)).num, Sh.sl 1 (len (d (A.toN i)).keys) (fnR (nth (d (A.toN i)).keys)), Sh.sl 1 (len (d (A.toN i)).vals) (fnR (nth (d (A.toN i)).vals))])))) 1) (leaf (Fe2.at_ 0 [Eqn.sh (Sh.sl 4 n (fnU d)) (Sh.sl 4 n (fnU d)), Eqn.int (A.add .i64 i (Int.ofNat 1)) i', Eqn.str (A.app [] (keyU (rowF [Sh.i .i64 (d (A.toN i)).kind, Sh.i .i64 (d (A.toN i)).num, Sh.sl 1 (len (d (A.toN i)).keys) (fnR (nth (d (A.toN i)).keys)), Sh.sl 1 (len (d (A.toN i)).vals) (fnR (nth (d (A.toN i)).vals))]))) b']))))))) (leaf (Fe2.ret (Sh.str []))) := by kernel_rfl
theorem c79 (A : Prim) (W : Wd) (n : Nat) (d : Nat → Rf) (i i' : Int) (b b' : List UInt8) : runTo (C7 A W spec79 sAl) nH0 300 400 79 tb79 (LO79 n d i b) [] [⟨79, td79, LO79 n d i' b', []⟩] = node (A.lt i (A.ofN n)) (node (A.lt (Int.ofNat 0) i) (need (A.room (A.addN (A.len b) (A.len [59, 32])) 1) (need (A.inB i n) (need (rowB [Sh.i .i64 (d (A.toN i)).kind, Sh.i .i64 (d (A.toN i)).num, Sh.sl 1 (len (d (A.toN i)).keys) (fnR (nth (d (A.toN i)).keys)), Sh.sl 1 (len (d (A.toN i)).vals) (fnR (nth (d (A.toN i)).vals))]) (need (okU (rowF [Sh.i .i64 (d (A.toN i)).kind, Sh.i .i64 (d (A.toN i)).num, Sh.sl 1 (len (d (A.toN i)).keys) (fnR (nth (d (A.toN i)).keys)), Sh.sl 1 (len (d (A.toN i)).vals) (fnR (nth (d (A.toN i)).vals))])) (need (A.room (A.addN (A.len (A.app b [59, 32])) (A.len (keyU (rowF [Sh.i .i64 (d (A.toN i)).kind, Sh.i .i64 (d (A.toN i)).num, Sh.sl 1 (len (d (A.toN i)).keys) (fnR (nth (d (A.toN i)).keys)), Sh.sl 1 (len (d (A.toN i)).vals) (fnR (nth (d (A.toN i)).vals))])))) 1) (leaf (Fe2.at_ 0 [Eqn.sh (Sh.sl 4 n (fnU d)) (Sh.sl 4 n (fnU d)), Eqn.int (A.add .i64 i (Int.ofNat 1)) i', Eqn.str (A.app (A.app b [59, 32]) (keyU (rowF [Sh.i .i64 (d (A.toN i)).kind, Sh.i .i64 (d (A.toN i)).num, Sh.sl 1 (len (d (A.toN i)).keys) (fnR (nth (d (A.toN i)).keys)), Sh.sl 1 (len (d (A.toN i)).vals) (fnR (nth (d (A.toN i)).vals))]))) b']))))))) (need (A.inB i n) (need (rowB [Sh.i .i64 (d (A.toN i)).kind, Sh.i .i64 (d (A.toN i)).num, Sh.sl 1 (len (d (A.toN i)).keys) (fnR (nth (d (A.toN i)).keys)), Sh.sl 1 (len (d (A.toN i)).vals) (fnR (nth (d (A.toN i)).vals))]) (need (okU (rowF [Sh.i .i64 (d (A.toN i)).kind, Sh.i .i64 (d (A.toN i)).num, Sh.sl 1 (len (d (A.toN i)).keys) (fnR (nth (d (A.toN i)).keys)), Sh.sl 1 (len (d (A.toN i)).vals) (fnR (nth (d (A.toN i)).vals))])) (need (A.room (A.addN (A.len b) (A.len (keyU (rowF [Sh.i .i64 (d (A.toN i)).kind, Sh.i .i64 (d (A.toN i)).num, Sh.sl 1 (len (d (A.toN i)).keys) (fnR (nth (d (A.toN i)).keys)), Sh.sl 1 (len (d (A.toN i)).vals) (fnR (nth (d (A.toN i)).vals))])))) 1) (leaf (Fe2.at_ 0 [Eqn.sh (Sh.sl 4 n (fnU d)) (Sh.sl 4 n (fnU d)), Eqn.int (A.add .i64 i (Int.ofNat 1)) i', Eqn.str (A.app b (keyU (rowF [Sh.i .i64 (d (A.toN i)).kind, Sh.i .i64 (d (A.toN i)).num, Sh.sl 1 (len (d (A.toN i)).keys) (fnR (nth (d (A.toN i)).keys)), Sh.sl 1 (len (d (A.toN i)).vals) (fnR (nth (d (A.toN i)).vals))]))) b']))))))) (leaf (Fe2.ret (Sh.str b))) := by kernel_rfl
theorem a62 (A : Prim) (W : Wd) (c : Int) : runTo (C7 A W specA sAl) nH0 300 400 62 [.code []] (start0 5 [.i .i64 c] L0) [] [] = need (in64 c) (leaf (Fe2.ret (Sh.str (itoaS c)))) := by kernel_rfl
end Go.Proofs
namespace Go.Proofs
open Go.Sx.Tree
open Go Go.Sx Go.Pl
theorem all_a36_1 (A : Prim) (W : Wd) (y : Int) (l r : List Int) {ψ : Fe2 → Prop} (h1 : (tabB (Int.ofNat 1)) = true) (h2 : (kindB (Int.ofNat 1)) = true) (h3 : (A.room (A.len (wordU (Int.ofNat 1))) 1) = true) (h4 : (A.room (A.addN (A.len (wordU (Int.ofNat 1))) (A.len [32])) 1) = true) (h5 : (in64 y) = true) (h6 : (A.room (A.addN (A.len (A.app (wordU (Int.ofNat 1)) [32])) (A.len (itoaS y))) 1) = true) (y1 : ψ (Fe2.ret (Sh.str (A.app (A.app (wordU (Int.ofNat 1)) [32]) (itoaS y))))) : MeetsT ψ (runTo (C7 A W spec36 sAl) nH0 300 400 36 [.code []] (start0 58 [rfL 1 y l r] L0) [] []) := by
 rw [a36_1 A W y l r, meetsT_eq]
 exact ⟨(h1), ⟨(h2), ⟨(h3), ⟨(h4), ⟨(h5), ⟨(h6), (y1)⟩⟩⟩⟩⟩⟩
theorem all_a36_2 (A : Prim) (W : Wd) (y : Int) (l r : List Int) {ψ : Fe2 → Prop} (h1 : (tabB (Int.ofNat 1)) = true) (h2 : (kindB (Int.ofNat 2)) = true) (h3 : (A.room (A.len (wordU (Int.ofNat 2))) 1) = true) (h4 : (A.room (A.addN (A.len (wordU (Int.ofNat 2))) (A.len [32])) 1) = true) (h5 : (in64 y) = true) (h6 : (A.room (A.addN (A.len (A.app (wordU (Int.ofNat 2)) [32])) (A.len (itoaS y))) 1) = true) (y1 : ψ (Fe2.ret (Sh.str (A.app (A.app (wordU (Int.ofNat 2)) [32]) (itoaS y))))) : MeetsT ψ (runTo (C7 A W spec36 sAl) nH0 300 400 36 [.code []] (start0 58 [rfL 2 y l r] L0) [] []) := by
 rw [a36_2 A W y l r, meetsT_eq]
 exact ⟨(h1), ⟨(h2), ⟨(h3), ⟨(h4), ⟨(h5), ⟨(h6), (y1)⟩⟩⟩⟩⟩⟩
theorem all_a36_3 (A : Prim) (W : Wd) (y i' : Int) (l r : List Int) (b' : List UInt8) {ψ : Fe2 → Prop} (h1 : (tabB (Int.ofNat 1)) = true) (h2 : (kindB (Int.ofNat 3)) = true) (h3 : (A.room (A.len (wordU (Int.ofNat 3))) 1) = true) (y1 : ψ (Fe2.at_ 0 [Eqn.int (Int.ofNat 0) i', Eqn.int (Int.ofNat 3) (Int.ofNat 3), Eqn.int y y, Eqn.sh (Sh.sl 1 (len l) (fnR (nth l))) (Sh.sl 1 (len l) (fnR (nth l))), Eqn.sh (Sh.sl 1 (len r) (fnR (nth r))) (Sh.sl 1 (len r) (fnR (nth r))), Eqn.str (wordU (Int.ofNat 3)) b'])) : MeetsT ψ (runTo (C7 A W spec36 sAl) nH0 300 400 36 [.code []] (start0 58 [rfL 3 y l r] L0) [] [⟨36, td36, LO36 3 y l r i' b', []⟩]) := by
 rw [a36_3 A W y i' l r b', meetsT_eq]
 exact ⟨(h1), ⟨(h2), ⟨(h3), (y1)⟩⟩⟩
theorem all_b36_3 (A : Prim) (W : Wd) (y i i' : Int) (l r : List Int) (b b' : List UInt8) {ψ : Fe2 → Prop} (h1 : (A.lt i (A.ofN (len r))) = true → (A.room (A.addN (A.len b) (A.len [32])) 1) = true) (h2 : (A.lt i (A.ofN (len r))) = true → (A.inB i (len r)) = true) (h3 : (A.lt i (A.ofN (len r))) = true → (in64 (nth r (A.toN i))) = true) (h4 : (A.lt i (A.ofN (len r))) = true → (A.room (A.addN (A.len (A.app b [32])) (A.len (itoaS (nth r (A.toN i))))) 1) = true) (y1 : (A.lt i (A.ofN (len r))) = true → ψ (Fe2.at_ 0 [Eqn.int (A.add .i64 i (Int.ofNat 1)) i', Eqn.int (Int.ofNat 3) (Int.ofNat 3), Eqn.int y y, Eqn.sh (Sh.sl 1 (len l) (fnR (nth l))) (Sh.sl 1 (len l) (fnR (nth l))), Eqn.sh (Sh.sl 1 (len r) (fnR (nth r))) (Sh.sl 1 (len r) (fnR (nth r))), Eqn.str (A.app (A.app b [32]) (itoaS (nth r (A.toN i)))) b'])) (y2 : (A.lt i (A.ofN (len r))) = false → ψ (Fe2.ret (Sh.str b))) : MeetsT ψ (runTo (C7 A W spec36 sAl) nH0 300 400 36 tb36 (LO36 3 y l r i b) [] [⟨36, td36, LO36 3 y l r i' b', []⟩]) := by
 rw [b36_3 A W y i i' l r b b', meetsT_eq]
 exact ⟨fun q0 => ⟨(h1 q0), ⟨(h2 q0), ⟨(h3 q0), ⟨(h4 q0), (y1 q0)⟩⟩⟩⟩, fun q0 => (y2 q0)⟩
theorem all_a36_4 (A : Prim) (W : Wd) (y i' : Int) (l r : List Int) (b' : List UInt8) {ψ : Fe2 → Prop} (h1 : (tabB (Int.ofNat 1)) = true) (h2 : (kindB (Int.ofNat 4)) = true) (h3 : (A.room (A.len (wordU (Int.ofNat 4))) 1) = true) (y1 : ψ (Fe2.at_ 0 [Eqn.int (Int.ofNat 0) i', Eqn.int (Int.ofNat 4) (Int.ofNat 4), Eqn.int y y, Eqn.sh (Sh.sl 1 (len l) (fnR (nth l))) (Sh.sl 1 (len l) (fnR (nth l))), Eqn.sh (Sh.sl 1 (len r) (fnR (nth r))) (Sh.sl 1 (len r) (fnR (nth r))), Eqn.str (wordU (Int.ofNat 4)) b'])) : MeetsT ψ (runTo (C7 A W spec36 sAl) nH0 300 400 36 [.code []] (start0 58 [rfL 4 y l r] L0) [] [⟨36, td36, LO36 4 y l r i' b', []⟩]) := by
 rw [a36_4 A W y i' l r b', meetsT_eq]
 exact ⟨(h1), ⟨(h2), ⟨(h3), (y1)⟩⟩⟩
theorem all_b36_4 (A : Prim) (W : Wd) (y i i' : Int) (l r : List Int) (b b' : List UInt8) {ψ : Fe2 → Prop} (h1 : (A.lt i (A.ofN (len r))) = true → (A.room (A.addN (A.len b) (A.len [32])) 1) = true) (h2 : (A.lt i (A.ofN (len r))) = true → (A.inB i (len l)) = true) (h3 : (A.lt i (A.ofN (len r))) = true → (in64 (nth l (A.toN i))) = true) (h4 : (A.lt i (A.ofN (len r))) = true → (A.room (A.addN (A.len (A.app b [32])) (A.len (itoaS (nth l (A.toN i))))) 1) = true) (h5 : (A.lt i (A.ofN (len r))) = true → (A.room (A.addN (A.len (A.app (A.app b [32]) (itoaS (nth l (A.toN i))))) (A.len [58])) 1) = true) (h6 : (A.lt i (A.ofN (len r))) = true → (A.inB i (len r)) = true) (h7 : (A.lt i (A.ofN (len r))) = true → (in64 (nth r (A.toN i))) = true) (h8 : (A.lt i (A.ofN (len r))) = true → (A.room (A.addN (A.len (A.app (A.app (A.app b [32]) (itoaS (nth l (A.toN i)))) [58])) (A.len (itoaS (nth r (A.toN i))))) 1) = true) (y1 : (A.lt i (A.ofN (len r))) = true → ψ (Fe2.at_ 0 [Eqn.int (A.add .i64 i (Int.ofNat 1)) i', Eqn.int (Int.ofNat 4) (Int.ofNat 4), Eqn.int y y, Eqn.sh (Sh.sl 1 (len l) (fnR (nth l))) (Sh.sl 1 (len l) (fnR (nth l))), Eqn.sh (Sh.sl 1 (len r) (fnR (nth r))) (Sh.sl 1 (len r) (fnR (nth r))), Eqn.str (A.app (A.app (A.app (A.app b [32]) (itoaS (nth l (A.toN i)))) [58]) (itoaS (nth r (A.toN i)))) b'])) (y2 : (A.lt i (A.ofN (len r))) = false → ψ (Fe2.ret (Sh.str b))) : MeetsT ψ (runTo (C7 A W spec36 sAl) nH0 300 400 36 tb36 (LO36 4 y l r i b) [] [⟨36, td36, LO36 4 y l r i' b', []⟩]) := by
 rw [b36_4 A W y i i' l r b b', meetsT_eq]
 exact ⟨fun q0 => ⟨(h1 q0), ⟨(h2 q0), ⟨(h3 q0), ⟨(h4 q0), ⟨(h5 q0), ⟨(h6 q0), ⟨(h7 q0), ⟨(h8 q0), (y1 q0)⟩⟩⟩⟩⟩⟩⟩⟩, fun q0 => (y2 q0)⟩
theorem all_a79 (A : Prim) (W : Wd) (n : Nat) (d : Nat → Rf) (i' : Int) {ψ : Fe2 → Prop} (y1 : ψ (Fe2.at_ 0 [Eqn.sh (Sh.sl 4 n (fnU d)) (Sh.sl 4 n (fnU d)), Eqn.int (Int.ofNat 0) i'])) : MeetsT ψ (runTo (C7 A W spec79 sAl) nH0 300 400 79 [.code []] (start0 26 [.sl 4 n (fnU d)] L0) [] [⟨79, td79, LN79 n d i', []⟩]) := by
 rw [a79 A W n d i', meetsT_eq]
 exact (y1)
theorem all_b79 (A : Prim) (W : Wd) (n : Nat) (d : Nat → Rf) (i i' : Int) (b' : List UInt8) {ψ : Fe2 → Prop} (h1 : (A.lt i (A.ofN n)) = true → (A.lt (Int.ofNat 0) i) = true → (A.room (A.addN (A.len []) (A.len [59, 32])) 1) = true) (h2 : (A.lt i (A.ofN n)) = true → (A.lt (Int.ofNat 0) i) = true → (A.inB i n) = true) (h3 : (A.lt i (A.ofN n)) = true → (A.lt (Int.ofNat 0) i) = true → (rowB [Sh.i .i64 (d (A.toN i)).kind, Sh.i .i64 (d (A.toN i)).num, Sh.sl 1 (len (d (A.toN i)).keys) (fnR (nth (d (A.toN i)).keys)), Sh.sl 1 (len (d (A.toN i)).vals) (fnR (nth (d (A.toN i)).vals))]) = true) (h4 : (A.lt i (A.ofN n)) = true → (A.lt (Int.ofNat 0) i) = true → (okU (rowF [Sh.i .i64 (d (A.toN i)).kind, Sh.i .i64 (d (A.toN i)).num, Sh.sl 1 (len (d (A.toN i)).keys) (fnR (nth (d (A.toN i)).keys)), Sh.sl 1 (len (d (A.toN i)).vals) (fnR (nth (d (A.toN i)).vals))])) = true) (h5 : (A.lt i (A.ofN n)) = true → (A.lt (Int.ofNat 0) i) = true → (A.room (A.addN (A.len (A.app [] [59, 32])) (A.len (keyU (rowF [Sh.i .i64 (d (A.toN i)).kind, Sh.i .i64 (d (A.toN i)).num, Sh.sl 1 (len (d (A.toN i)).keys) (fnR (nth (d (A.toN i)).keys)), Sh.sl 1 (len (d (A.toN i)).vals) (fnR (nth (d (A.toN i)).vals))])))) 1) = true) (h6 : (A.lt i (A.ofN n)) = true → (A.lt (Int.ofNat 0) i) = false → (A.inB i n) = true) (h7 : (A.lt i (A.ofN n)) = true → (A.lt (Int.ofNat 0) i) = false → (rowB [Sh.i .i64 (d (A.toN i)).kind, Sh.i .i64 (d (A.toN i)).num, Sh.sl 1 (len (d (A.toN i)).keys) (fnR (nth (d (A.toN i)).keys)), Sh.sl 1 (len (d (A.toN i)).vals) (fnR (nth (d (A.toN i)).vals))]) = true) (h8 : (A.lt i (A.ofN n)) = true → (A.lt (Int.ofNat 0) i) = false → (okU (rowF [Sh.i .i64 (d (A.toN i)).kind, Sh.i .i64 (d (A.toN i)).num, Sh.sl 1 (len (d (A.toN i)).keys) (fnR (nth (d (A.toN i)).keys)), Sh.sl 1 (len (d (A.toN i)).vals) (fnR (nth (d (A.toN i)).vals))])) = true) (h9 : (A.lt i (A.ofN n)) = true → (A.lt (Int.ofNat 0) i) = false → (A.room (A.addN (A.len []) (A.len (keyU (rowF [Sh.i .i64 (d (A.toN i)).kind, Sh.i .i64 (d (A.toN i)).num, Sh.sl 1 (len (d (A.toN i)).keys) (fnR (nth (d (A.toN i)).keys)), Sh.sl 1 (len (d (A.toN i)).vals) (fnR (nth (d (A.toN i)).vals))])))) 1) = true) (y1 : (A.lt i (A.ofN n)) = true → (A.lt (Int.ofNat 0) i) = true → ψ (Fe2.at_ 0 [Eqn.sh (Sh.sl 4 n (fnU d)) (Sh.sl 4 n (fnU d)), Eqn.int (A.add .i64 i (Int.ofNat 1)) i', Eqn.str (A.app (A.app [] [59, 32]) (keyU (rowF [Sh.i .i64 (d (A.toN i)).kind, Sh.i .i64 (d (A.toN i)).num, Sh.sl 1 (len (d (A.toN i)).keys) (fnR (nth (d (A.toN i)).keys)), Sh.sl 1 (len (d (A.toN i)).vals) (fnR (nth (d (A.toN i)).vals))]))) b'])) (y2 : (A.lt i (A.ofN n)) = true → (A.lt (Int.ofNat 0) i) = false → ψ (Fe2.at_ 0 [Eqn.sh (Sh.sl 4 n (fnU d)) (Sh.sl 4 n (fnU d)), Eqn.int (A.add .i64 i (Int.ofNat 1)) i', Eqn.str (A.app [] (keyU (rowF [Sh.i .i64 (d (A.toN i)).kind, Sh.i .i64 (d (A.toN i)).num, Sh.sl 1 (len (d (A.toN i)).keys) (fnR (nth (d (A.toN i)).keys)), Sh.sl 1 (len (d (A.toN i)).vals) (fnR (nth (d (A.toN i)).vals))]))) b'])) (y3 : (A.lt i (A.ofN n)) = false → ψ (Fe2.ret (Sh.str []))) : MeetsT ψ (runTo (C7 A W spec79 sAl) nH0 300 400 79 tb79 (LN79 n d i) [] [⟨79, td79, LO79 n d i' b', []⟩]) := by
 rw [b79 A W n d i i' b', meetsT_eq]
 exact ⟨fun q0 => ⟨fun q1 => ⟨(h1 q0 q1), ⟨(h2 q0 q1), ⟨(h3 q0 q1), ⟨(h4 q0 q1), ⟨(h5 q0 q1), (y1 q0 q1)⟩⟩⟩⟩⟩, fun q1 => ⟨(h6 q0 q1), ⟨(h7 q0 q1), ⟨(h8 q0 q1), ⟨(h9 q0 q1), (y2 q0 q1)⟩⟩⟩⟩⟩, fun q0 => (y3 q0)⟩
theorem all_c79 (A : Prim) (W : Wd) (n : Nat) (d : Nat → Rf) (i i' : Int) (b b' : List UInt8) {ψ : Fe2 → Prop} (h1 : (A.lt i (A.ofN n)) = true → (A.lt (Int.ofNat 0) i) = true → (A.room (A.addN (A.len b) (A.len [59, 32])) 1) = true) (h2 : (A.lt i (A.ofN n)) = true → (A.lt (Int.ofNat 0) i) = true → (A.inB i n) = true) (h3 : (A.lt i (A.ofN n)) = true → (A.lt (Int.ofNat 0) i) = true → (rowB [Sh.i .i64 (d (A.toN i)).kind, Sh.i .i64 (d (A.toN i)).num, Sh.sl 1 (len (d (A.toN i)).keys) (fnR (nth (d (A.toN i)).keys)), Sh.sl 1 (len (d (A.toN i)).vals) (fnR (nth (d (A.toN i)).vals))]) = true) (h4 : (A.lt i (A.ofN n)) = true → (A.lt (Int.ofNat 0) i) = true → (okU (rowF [Sh.i .i64 (d (A.toN i)).kind, Sh.i .i64 (d (A.toN i)).num, Sh.sl 1 (len (d (A.toN i)).keys) (fnR (nth (d (A.toN i)).keys)), Sh.sl 1 (len (d (A.toN i)).vals) (fnR (nth (d (A.toN i)).vals))])) = true) (h5 : (A.lt i (A.ofN n)) = true → (A.lt (Int.ofNat 0) i) = true → (A.room (A.addN (A.len (A.app b [59, 32])) (A.len (keyU (rowF [Sh.i .i64 (d (A.toN i)).kind, Sh.i .i64 (d (A.toN i)).num, Sh.sl 1 (len (d (A.toN i)).keys) (fnR (nth (d (A.toN i)).keys)), Sh.sl 1 (len (d (A.toN i)).vals) (fnR (nth (d (A.toN i)).vals))])))) 1) = true) (h6 : (A.lt i (A.ofN n)) = true → (A.lt (Int.ofNat 0) i) = false → (A.inB i n) = true) (h7 : (A.lt i (A.ofN n)) = true → (A.lt (Int.ofNat 0) i) = false → (rowB [Sh.i .i64 (d (A.toN i)).kind, Sh.i .i64 (d (A.toN i)).num, Sh.sl 1 (len (d (A.toN i)).keys) (fnR (nth (d (A.toN i)).keys)), Sh.sl 1 (len (d (A.toN i)).vals) (fnR (nth (d (A.toN i)).vals))]) = true) (h8 : (A.lt i (A.ofN n)) = true → (A.lt (Int.ofNat 0) i) = false → (okU (rowF [Sh.i .i64 (d (A.toN i)).kind, Sh.i .i64 (d (A.toN i)).num, Sh.sl 1 (len (d (A.toN i)).keys) (fnR (nth (d (A.toN i)).keys)), Sh.sl 1 (len (d (A.toN i)).vals) (fnR (nth (d (A.toN i)).vals))])) = true) (h9 : (A.lt i (A.ofN n)) = true → (A.lt (Int.ofNat 0) i) = false → (A.room (A.addN (A.len b) (A.len (keyU (rowF [Sh.i .i64 (d (A.toN i)).kind, Sh.i .i64 (d (A.toN i)).num, Sh.sl 1 (len (d (A.toN i)).keys) (fnR (nth (d (A.toN i)).keys)), Sh.sl 1 (len (d (A.toN i)).vals) (fnR (nth (d (A.toN i)).vals))])))) 1) = true) (y1 : (A.lt i (A.ofN n)) = true → (A.lt (Int.ofNat 0) i) = true → ψ (Fe2.at_ 0 [Eqn.sh (Sh.sl 4 n (fnU d)) (Sh.sl 4 n (fnU d)), Eqn.int (A.add .i64 i (Int.ofNat 1)) i', Eqn.str (A.app (A.app b [59, 32]) (keyU (rowF [Sh.i .i64 (d (A.toN i)).kind, Sh.i .i64 (d (A.toN i)).num, Sh.sl 1 (len (d (A.toN i)).keys) (fnR (nth (d (A.toN i)).keys)), Sh.sl 1 (len (d (A.toN i)).vals) (fnR (nth (d (A.toN i)).vals))]))) b'])) (y2 : (A.lt i (A.ofN n)) = true → (A.lt (Int.ofNat 0) i) = false → ψ (Fe2.at_ 0 [Eqn.sh (Sh.sl 4 n (fnU d)) (Sh.sl 4 n (fnU d)), Eqn.int (A.add .i64 i (Int.ofNat 1)) i', Eqn.str (A.app b (keyU (rowF [Sh.i .i64 (d (A.toN i)).kind, Sh.i .i64 (d (A.toN i)).num, Sh.sl 1 (len (d (A.toN i)).keys) (fnR (nth (d (A.toN i)).keys)), Sh.sl 1 (len (d (A.toN i)).vals) (fnR (nth (d (A.toN i)).vals))]))) b'])) (y3 : (A.lt i (A.ofN n)) = false → ψ (Fe2.ret (Sh.str b))) : MeetsT ψ (runTo (C7 A W spec79 sAl) nH0 300 400 79 tb79 (LO79 n d i b) [] [⟨79, td79, LO79 n d i' b', []⟩]) := by
 rw [c79 A W n d i i' b b', meetsT_eq]
 exact ⟨fun q0 => ⟨fun q1 => ⟨(h1 q0 q1), ⟨(h2 q0 q1), ⟨(h3 q0 q1), ⟨(h4 q0 q1), ⟨(h5 q0 q1), (y1 q0 q1)⟩⟩⟩⟩⟩, fun q1 => ⟨(h6 q0 q1), ⟨(h7 q0 q1), ⟨(h8 q0 q1), ⟨(h9 q0 q1), (y2 q0 q1)⟩⟩⟩⟩⟩, fun q0 => (y3 q0)⟩
end Go.Proofs
namespace Go.Pl
open Go Go.Sx Go.Proofs
theorem rep_agg_to {H : Mem} {l l' : List Sh} {v : Value} (hv : Rep H (.agg l) v) (hl : l'.length = l.length) (h : ∀ (j : Nat) (s s' : Sh), l[j]? = some s → l'[j]? = some s' → ∀ u, Rep H s u → Rep H s' u) : Rep H (.agg l') v := by
 cases hv with
 | agg _ vs h3 h4 =>
  refine .agg _ vs (by rw [hl]; exact h3) fun j s' v' e1 e2 => ?_
  have hj : j < l.length := by
   rw [← hl]
   exact (List.getElem?_eq_some_iff.1 e1).1
  exact h j l[j] s' (List.getElem?_eq_getElem hj) e1 _ (h4 j l[j] v' (List.getElem?_eq_getElem hj) e2)
theorem qU_succ (r : List Int) (k : Nat) : qU r (k + 1) = qU r k ++ 32 :: itoaS (nth r k) := by simp [qU, List.range_succ]
theorem pU_succ (l r : List Int) (k : Nat) : pU l r (k + 1) = pU l r k ++ 32 :: (itoaS (nth l k) ++ 58 :: itoaS (nth r k)) := by simp [pU, List.range_succ]
theorem nth_all {l : List Int} {p : Int → Bool} (h : l.all p = true) {k : Nat} (hk : k < l.length) : p (nth l k) = true := by
 have e : nth l k = l[k] := by simp [nth, hk]
 rw [e]
 exact List.all_eq_true.1 h _ (List.getElem_mem hk)
theorem qU_len {r : List Int} (h : r.all in64 = true) : ∀ k, k ≤ r.length → (qU r k).length ≤ 22 * k
 | 0, _ => by simp [qU]
 | k + 1, hk => by
  have ih := qU_len h k (by omega)
  have := itoa_len (nth_all h (show k < r.length by omega))
  rw [qU_succ, List.length_append, List.length_cons]
  omega
theorem pU_len {l r : List Int} (hl : l.all in64 = true) (hr : r.all in64 = true) : ∀ k, k ≤ l.length → k ≤ r.length → (pU l r k).length ≤ 44 * k
 | 0, _, _ => by simp [pU]
 | k + 1, h1, h2 => by
  have ih := pU_len hl hr k (by omega) (by omega)
  have := itoa_len (nth_all hl (show k < l.length by omega))
  have := itoa_len (nth_all hr (show k < r.length by omega))
  rw [pU_succ, List.length_append, List.length_cons, List.length_append, List.length_cons]
  omega
theorem wordU_len {k : Int} (h : kindB k = true) : (wordU k).length ≤ 8 := by
 have h := of_decide_eq_true h
 have : k = 1 ∨ k = 2 ∨ k = 3 ∨ k = 4 := by omega
 rcases this with rfl | rfl | rfl | rfl <;> decide
theorem room1 {n : Nat} (h : n ≤ 1000000000) : prim.room n 1 = true := by
 show decide (n * 1 ≤ 140737488355328 ∧ n ≤ maxLen) = true
 rw [maxLen_eq]
 exact decide_eq_true (by omega)
theorem keyU_len {s : Rf} (h : kindB s.kind = true) (hw : wfU s = true) (hn : numsU s = true) : (keyU s).length ≤ 5000000 := by
 have h1 := wordU_len h
 have hw : (_ && _) = true := hw
 rw [Bool.and_eq_true] at hw
 obtain ⟨hs, hm⟩ := hw
 have hs := of_decide_eq_true hs
 have hn : ((_ && _) && _) = true := hn
 rw [Bool.and_eq_true, Bool.and_eq_true] at hn
 obtain ⟨⟨n1, n2⟩, n3⟩ := hn
 have hk := of_decide_eq_true h
 unfold keyU
 rw [if_neg (by omega), List.length_append]
 split
 ·have := itoa_len n1
  rw [List.length_cons]
  omega
 ·split
  ·have := qU_len n3 _ (Nat.le_refl _)
   omega
  ·have e4 : s.kind = 4 := by omega
   have : s.keys.length = s.vals.length := by simpa [mapU, e4] using hm
   have := pU_len n2 n3 s.vals.length (by omega) (Nat.le_refl _)
   omega
end Go.Pl
namespace Go.Proofs
open Go Go.Sx Go.Pl
theorem O61 : FnOK Tryz.prog (gls7 W7) 61 F61 := by
 refine fnOK_Ru (C := C7 prim W7 noSpec sAl) (C7.ok _ _) (fok0 _) (m := 300) (n := 400) (L := L0) (fn := Tryz.f61) (by kernel_rfl) (by kernel_rfl) fun H w shs args φ hrep h => ?_
 have hn : Tryz.f61.ntmps = 21 := by kernel_rfl
 unfold F61 at h
 split at h
 ·split at h
  ·rename_i c k hs ht
   obtain ⟨h1, h2, hφ⟩ := h
   have h1 : c = 1 := of_decide_eq_true h1
   subst h1
   have h2 := of_decide_eq_true h2
   match args, hrep with
   | [v1, v2], ⟨r1, r2, _⟩ =>
    have r1' := rep_lit (rep_num hs r1)
    have r2' := rep_num ht r2
    have : k = 1 ∨ k = 2 ∨ k = 3 ∨ k = 4 := by omega
    rcases this with rfl | rfl | rfl | rfl
    ·exact ⟨[.v (.int .i64 1), .v (.int .i64 1)], ⟨r1', rep_lit r2', trivial⟩, by rw [hn, a61_1 prim W7]; exact up_mk (s' := .str (wordU 1)) rfl hφ⟩
    ·exact ⟨[.v (.int .i64 1), .v (.int .i64 2)], ⟨r1', rep_lit r2', trivial⟩, by rw [hn, a61_2 prim W7]; exact up_mk (s' := .str (wordU 2)) rfl hφ⟩
    ·exact ⟨[.v (.int .i64 1), .v (.int .i64 3)], ⟨r1', rep_lit r2', trivial⟩, by rw [hn, a61_3 prim W7]; exact up_mk (s' := .str (wordU 3)) rfl hφ⟩
    ·exact ⟨[.v (.int .i64 1), .v (.int .i64 4)], ⟨r1', rep_lit r2', trivial⟩, by rw [hn, a61_4 prim W7]; exact up_mk (s' := .str (wordU 4)) rfl hφ⟩
  ·exact h.elim
 ·exact h.elim
theorem O62 : FnOK Tryz.prog (gls7 W7) 62 F92 := by
 refine fnOK_Ru (C := C7 prim W7 specA sAl) (C7.ok _ _) (fokA _) (m := 300) (n := 400) (L := L0) (fn := Tryz.f62) (by kernel_rfl) (by kernel_rfl) fun H w shs args φ hrep h => ?_
 have hn : Tryz.f62.ntmps = 5 := by kernel_rfl
 unfold F92 at h
 split at h
 ·obtain ⟨h1, hφ⟩ := h
  refine ⟨_, hrep, ?_⟩
  rw [hn, a62 prim W7]
  exact ⟨h1, up_mk (s' := .str (itoaS _)) rfl hφ⟩
 ·exact h.elim
theorem fok36 (stop : Nat → List Nat → Bool) : FnsOK Tryz.prog (C7 prim W7 spec36 stop) := C7.fok (fun g F h => by
 unfold spec36 at h
 split at h
 ·cases h; exact O61
 ·cases h; exact O62
 ·cases h) fun g h => by
 unfold spec36 at h
 split at h
 all_goals first | (cases h; done) | kernel_rfl
section
variable {H0 : Mem} {w0 : World} {φ : Sh → Prop}
theorem loop36_3 {y : Int} {l r : List Int} (hl : r.length ≤ 100000) (hr : r.all in64 = true) (hφ : up φ (.str (wordU 3 ++ qU r r.length))) :
  ∀ m k, k + m = r.length → GoesS Tryz.prog (C7 prim W7 spec36 sAl) (K0 H0 w0) 36 td36 (LO36 3 y l r (k : Int) (wordU 3 ++ qU r k)) [] emp (up φ)
 | m, k, hk => by
  have w3 : (wordU 3).length ≤ 8 := wordU_len (by decide)
  have q3 := qU_len hr k (by omega)
  refine gSi (fn := Tryz.f36) (tb := tb36) (by kernel_rfl) (by kernel_rfl) ?_
  refine gSt (C7.ok _ _) (fok36 _) (hold := nH0) (m := 300) (n := 400) (ts := [⟨36, td36, LO36 3 y l r (k + 1 : Nat) (wordU 3 ++ qU r (k + 1)), []⟩]) ?_
  have lt (h : prim.lt k (prim.ofN (len r)) = true) : k < r.length := by simp [prim_lt, prim_ofN, len] at h; omega
  refine all_b36_3 prim W7 y k (k + 1 : Nat) l r _ _ ?_ ?_ ?_ ?_ ?_ ?_
  ·intro h
   refine room1 (show (wordU 3 ++ qU r k).length + 1 ≤ _ from ?_)
   rw [List.length_append]; omega
  ·intro h; have := lt h; simp [prim_inB, len]; omega
  ·intro h; exact nth_all hr (lt h)
  ·intro h
   have q4 := itoa_len (nth_all hr (lt h))
   refine room1 (show (wordU 3 ++ qU r k ++ [32]).length + (itoaS (nth r k)).length ≤ _ from ?_)
   rw [List.length_append, List.length_append]; simp; omega
  ·intro h
   have := lt h
   refine ⟨⟨?_, rfl, rfl, rfl, rfl, ?_, trivial⟩, _, rfl, ?_⟩
   ·show IntKind.i64.wrap ((k : Int) + 1) = _
    rw [wrap_id (by omega) (by omega)]; rfl
   ·show wordU 3 ++ qU r k ++ [32] ++ itoaS (nth r k) = _
    rw [qU_succ]; simp
   ·match m, hk with
    | 0, hk => omega
    | m + 1, hk => exact loop36_3 hl hr hφ m (k + 1) (by omega)
  ·intro h
   have : k = r.length := by simp [prim_lt, prim_ofN, len] at h; omega
   subst this
   exact hφ
theorem loop36_4 {y : Int} {l r : List Int} (hl : r.length ≤ 100000) (hlr : l.length = r.length) (hll : l.all in64 = true) (hr : r.all in64 = true) (hφ : up φ (.str (wordU 4 ++ pU l r r.length))) :
  ∀ m k, k + m = r.length → GoesS Tryz.prog (C7 prim W7 spec36 sAl) (K0 H0 w0) 36 td36 (LO36 4 y l r (k : Int) (wordU 4 ++ pU l r k)) [] emp (up φ)
 | m, k, hk => by
  have w3 : (wordU 4).length ≤ 8 := wordU_len (by decide)
  have q3 := pU_len hll hr k (by omega) (by omega)
  refine gSi (fn := Tryz.f36) (tb := tb36) (by kernel_rfl) (by kernel_rfl) ?_
  refine gSt (C7.ok _ _) (fok36 _) (hold := nH0) (m := 300) (n := 400) (ts := [⟨36, td36, LO36 4 y l r (k + 1 : Nat) (wordU 4 ++ pU l r (k + 1)), []⟩]) ?_
  have lt (h : prim.lt k (prim.ofN (len r)) = true) : k < r.length := by simp [prim_lt, prim_ofN, len] at h; omega
  refine all_b36_4 prim W7 y k (k + 1 : Nat) l r _ _ ?_ ?_ ?_ ?_ ?_ ?_ ?_ ?_ ?_ ?_
  ·intro h
   refine room1 (show (wordU 4 ++ pU l r k).length + 1 ≤ _ from ?_)
   rw [List.length_append]; omega
  ·intro h; have := lt h; simp [prim_inB, len]; omega
  ·intro h; exact nth_all hll (k := k) (by have := lt h; omega)
  ·intro h
   have q4 := itoa_len (nth_all hll (show k < l.length by have := lt h; omega))
   refine room1 (show (wordU 4 ++ pU l r k ++ [32]).length + (itoaS (nth l k)).length ≤ _ from ?_)
   rw [List.length_append, List.length_append]; simp; omega
  ·intro h
   have q4 := itoa_len (nth_all hll (show k < l.length by have := lt h; omega))
   refine room1 (show (wordU 4 ++ pU l r k ++ [32] ++ itoaS (nth l k)).length + 1 ≤ _ from ?_)
   rw [List.length_append, List.length_append, List.length_append]; simp; omega
  ·intro h; have := lt h; simp [prim_inB, len]; omega
  ·intro h; exact nth_all hr (lt h)
  ·intro h
   have q4 := itoa_len (nth_all hll (show k < l.length by have := lt h; omega))
   have q5 := itoa_len (nth_all hr (lt h))
   refine room1 (show (wordU 4 ++ pU l r k ++ [32] ++ itoaS (nth l k) ++ [58]).length + (itoaS (nth r k)).length ≤ _ from ?_)
   rw [List.length_append, List.length_append, List.length_append, List.length_append]; simp; omega
  ·intro h
   have := lt h
   refine ⟨⟨?_, rfl, rfl, rfl, rfl, ?_, trivial⟩, _, rfl, ?_⟩
   ·show IntKind.i64.wrap ((k : Int) + 1) = _
    rw [wrap_id (by omega) (by omega)]; rfl
   ·show wordU 4 ++ pU l r k ++ [32] ++ itoaS (nth l k) ++ [58] ++ itoaS (nth r k) = _
    rw [pU_succ]; simp
   ·match m, hk with
    | 0, hk => omega
    | m + 1, hk => exact loop36_4 hl hlr hll hr hφ m (k + 1) (by omega)
  ·intro h
   have : k = r.length := by simp [prim_lt, prim_ofN, len] at h; omega
   subst this
   exact hφ
end
theorem O36 (r : Rf) : FnOK Tryz.prog (gls7 W7) 36 (F36 r) := by
 refine fnOK_Su (C := C7 prim W7 spec36 sAl) (C7.ok _ _) (fn := Tryz.f36) (by kernel_rfl) (by kernel_rfl) fun H w shs args φ hrep h => ?_
 have hn : Tryz.f36.ntmps = 58 := by kernel_rfl
 unfold F36 at h
 split at h
 ·rename_i x y s2 s3
  obtain ⟨h1, hw, hnu, hk, hφ⟩ := h
  have hφ : φ (.str (keyU r)) := hφ
  have h1 : [.i .i64 x, .i .i64 y, s2, s3] = rfS r := @of_decide_eq_true _ (Classical.propDecidable _) h1
  unfold rfS at h1
  injection h1 with e1 e2
  injection e2 with e2 e3
  injection e3 with e3 e4
  injection e4 with e4 _
  injection e1 with _ e1
  injection e2 with _ e2
  subst e1 e2 e3 e4
  have hw : (_ && _) = true := hw
  rw [Bool.and_eq_true] at hw
  obtain ⟨hs, hm⟩ := hw
  have hs := of_decide_eq_true hs
  have hnu : ((_ && _) && _) = true := hnu
  rw [Bool.and_eq_true, Bool.and_eq_true] at hnu
  obtain ⟨⟨n1, n2⟩, n3⟩ := hnu
  have hkk := of_decide_eq_true hk
  obtain ⟨kind, num, l, q⟩ := r
  match args, hrep with
  | [v], ⟨r1, _⟩ =>
   have r1 : Rep H (.agg [.i .i64 kind, .i .i64 num, .sl 1 (len l) (fnR (nth l)), .sl 1 (len q) (fnR (nth q))]) v := r1
   have hr (k : Int) (e : kind = k) : RepL H [rfL k num l q] [v] := by
    subst e
    refine ⟨rep_agg_to r1 rfl fun j s s' h1 h2 u hu => ?_, trivial⟩
    match j, h1, h2 with
    | 0, h1, h2 => simp at h1 h2; subst h1 h2; exact rep_lit hu
    | 1, h1, h2 => simp at h1 h2; subst h1 h2; exact hu
    | 2, h1, h2 => simp at h1 h2; subst h1 h2; exact hu
    | 3, h1, h2 => simp at h1 h2; subst h1 h2; exact hu
    | j + 4, h1, h2 => simp at h1
   simp only at hkk hs n1 n2 n3 hm
   have wl (k : Int) (h : kindB k = true) := wordU_len h
   have in1 := itoa_len n1
   have : kind = 1 ∨ kind = 2 ∨ kind = 3 ∨ kind = 4 := by omega
   rcases this with rfl | rfl | rfl | rfl
   ·refine ⟨_, hr 1 rfl, L0, ?_⟩
    refine gSt (C7.ok _ _) (fok36 _) (hold := nH0) (m := 300) (n := 400) (ts := []) ?_
    rw [hn]
    have := wl 1 (by decide)
    refine all_a36_1 prim W7 num l q rfl rfl (room1 (show (wordU 1).length ≤ _ by omega)) (room1 (show (wordU 1).length + 1 ≤ _ by omega)) n1 (room1 (show (wordU 1 ++ [32]).length + (itoaS num).length ≤ _ by rw [List.length_append]; simp; omega)) ?_
    have e : keyU ⟨1, num, l, q⟩ = wordU 1 ++ [32] ++ itoaS num := by simp [keyU]
    rw [e] at hφ
    exact up_mk (s' := .str (wordU 1 ++ [32] ++ itoaS num)) rfl hφ
   ·refine ⟨_, hr 2 rfl, L0, ?_⟩
    refine gSt (C7.ok _ _) (fok36 _) (hold := nH0) (m := 300) (n := 400) (ts := []) ?_
    rw [hn]
    have := wl 2 (by decide)
    refine all_a36_2 prim W7 num l q rfl rfl (room1 (show (wordU 2).length ≤ _ by omega)) (room1 (show (wordU 2).length + 1 ≤ _ by omega)) n1 (room1 (show (wordU 2 ++ [32]).length + (itoaS num).length ≤ _ by rw [List.length_append]; simp; omega)) ?_
    have e : keyU ⟨2, num, l, q⟩ = wordU 2 ++ [32] ++ itoaS num := by simp [keyU]
    rw [e] at hφ
    exact up_mk (s' := .str (wordU 2 ++ [32] ++ itoaS num)) rfl hφ
   ·refine ⟨_, hr 3 rfl, L0, ?_⟩
    refine gSt (C7.ok _ _) (fok36 _) (hold := nH0) (m := 300) (n := 400) (ts := [⟨36, td36, LO36 3 num l q (0 : Nat) (wordU 3 ++ qU q 0), []⟩]) ?_
    rw [hn]
    have := wl 3 (by decide)
    refine all_a36_3 prim W7 num (0 : Nat) l q _ rfl rfl (room1 (show (wordU 3).length ≤ _ by omega)) ⟨⟨rfl, rfl, rfl, rfl, rfl, ?_, trivial⟩, _, rfl, ?_⟩
    ·show wordU 3 = _; simp [qU]
    ·have e : keyU ⟨3, num, l, q⟩ = wordU 3 ++ qU q q.length := by simp [keyU]
     rw [e] at hφ
     exact loop36_3 (by omega) n3 (up_mk (s' := .str (wordU 3 ++ qU q q.length)) rfl hφ) q.length 0 (by omega)
   ·refine ⟨_, hr 4 rfl, L0, ?_⟩
    refine gSt (C7.ok _ _) (fok36 _) (hold := nH0) (m := 300) (n := 400) (ts := [⟨36, td36, LO36 4 num l q (0 : Nat) (wordU 4 ++ pU l q 0), []⟩]) ?_
    rw [hn]
    have := wl 4 (by decide)
    have hlq : l.length = q.length := by simpa [mapU] using hm
    refine all_a36_4 prim W7 num (0 : Nat) l q _ rfl rfl (room1 (show (wordU 4).length ≤ _ by omega)) ⟨⟨rfl, rfl, rfl, rfl, rfl, ?_, trivial⟩, _, rfl, ?_⟩
    ·show wordU 4 = _; simp [pU]
    ·have e : keyU ⟨4, num, l, q⟩ = wordU 4 ++ pU l q q.length := by simp [keyU]
     rw [e] at hφ
     exact loop36_4 (by omega) hlq n2 n3 (up_mk (s' := .str (wordU 4 ++ pU l q q.length)) rfl hφ) q.length 0 (by omega)
 ·exact h.elim
end Go.Proofs
namespace Go.Pl
open Go Go.Sx Go.Proofs
def keysU (d : Nat → Rf) : Nat → List UInt8
 | 0 => []
 | k + 1 => keysU d k ++ ((if k = 0 then [] else [59, 32]) ++ keyU (d k))
def allU (n : Nat) (d : Nat → Rf) : Bool := (List.range n).all fun j => okU (d j)
theorem okU_iff {r : Rf} (h : okU r = true) : kindB r.kind = true ∧ wfU r = true ∧ numsU r = true := by
 have h : (_ && (_ && _)) = true := h
 rw [Bool.and_eq_true, Bool.and_eq_true] at h
 exact h
theorem keysU_len {d : Nat → Rf} : ∀ {n : Nat}, (∀ j, j < n → okU (d j) = true) → (keysU d n).length ≤ 5000002 * n
 | 0, _ => by simp [keysU]
 | n + 1, h => by
  have ih := keysU_len (d := d) (n := n) fun j hj => h j (by omega)
  obtain ⟨h1, h2, h3⟩ := okU_iff (h n (by omega))
  have := keyU_len h1 h2 h3
  rw [keysU, List.length_append, List.length_append]
  have : (if n = 0 then ([] : List UInt8) else [59, 32]).length ≤ 2 := by split <;> simp
  omega
end Go.Pl
namespace Go.Proofs
open Go Go.Sx Go.Pl
theorem rfS_inj {r r' : Rf} (h : rfS r = rfS r') : r = r' := by
 obtain ⟨k, n, l, q⟩ := r
 obtain ⟨k', n', l', q'⟩ := r'
 unfold rfS at h
 injection h with e1 e2
 injection e2 with e2 e3
 injection e3 with e3 e4
 injection e4 with e4 _
 injection e1 with _ e1
 injection e2 with _ e2
 injection e3 with _ a1 a2
 injection e4 with _ b1 b2
 simp only at e1 e2 a1 a2 b1 b2
 have hl : l = l' := by
  have : lst Int (len l) (fnR (nth l)) = lst Int (len l') (fnR (nth l')) := by rw [a1, a2]
  rwa [show lst Int (len l) (fnR (nth l)) = l from lst_nth l, show lst Int (len l') (fnR (nth l')) = l' from lst_nth l'] at this
 have hq : q = q' := by
  have : lst Int (len q) (fnR (nth q)) = lst Int (len q') (fnR (nth q')) := by rw [b1, b2]
  rwa [show lst Int (len q) (fnR (nth q)) = q from lst_nth q, show lst Int (len q') (fnR (nth q')) = q' from lst_nth q'] at this
 subst e1 e2 hl hq
 rfl
theorem rowB_self (r : Rf) : rowB (rfS r) = true := @decide_eq_true _ (Classical.propDecidable _) ⟨r, rfl⟩
theorem rowF_ok {l : List Sh} (h : rowB l = true) : l = rfS (rowF l) := by
 have h := @of_decide_eq_true _ (Classical.propDecidable _) h
 unfold rowF
 rw [dif_pos h]
 exact h.choose_spec
theorem rowF_self (r : Rf) : rowF (rfS r) = r := (rfS_inj (rowF_ok (rowB_self r))).symm
theorem O36c : FnOK Tryz.prog (gls7 W7) 36 F36c := by
 intro H w shs args φ hon hg hr hφ
 unfold F36c at hφ
 split at hφ
 ·rename_i x y s2 s3
  obtain ⟨h1, h2, h3⟩ := hφ
  have e := rowF_ok h1
  generalize rowF [x, y, s2, s3] = r at *
  refine O36 r H w _ args φ hon hg hr ?_
  have e' := e
  unfold rfS at e'
  injection e' with e1 e2
  injection e2 with e2 e3
  subst e1 e2
  obtain ⟨q1, q2, q3⟩ := okU_iff h2
  exact ⟨@decide_eq_true _ (Classical.propDecidable _) e, q2, q3, q1, h3⟩
 ·exact hφ.elim
theorem fok79 (stop : Nat → List Nat → Bool) : FnsOK Tryz.prog (C7 prim W7 spec79 stop) := C7.fok (fun g F h => by
 unfold spec79 at h
 split at h
 ·cases h; exact O36c
 ·cases h) fun g h => by
 unfold spec79 at h
 split at h
 all_goals first | (cases h; done) | kernel_rfl
noncomputable def F79 (d : Nat → Rf) : List Sh → Tree Sh
 | [s] => match slN 4 s with
  | some (n, g) => .need (areU d n g) (.need (decide (n ≤ 100)) (.need (allU n d) (.leaf (.str (keysU d n)))))
  | none => .fail
 | _ => .fail
section
variable {H0 : Mem} {w0 : World} {φ : Sh → Prop} {n : Nat} {d : Nat → Rf}
theorem lt79 {k n : Nat} (h : prim.lt (k : Int) (prim.ofN n) = true) : k < n := by simp [prim_lt, prim_ofN] at h; omega
theorem nx79 {k : Nat} (h : k < 100) : prim.add .i64 (k : Int) (Int.ofNat 1) = ((k + 1 : Nat) : Int) := by
 show IntKind.i64.wrap ((k : Int) + 1) = _
 rw [wrap_id (by omega) (by omega)]; rfl
theorem loop79 (hn : n ≤ 100) (hd : ∀ j, j < n → okU (d j) = true) (hφ : up φ (.str (keysU d n))) :
  ∀ m k, k + m = n → 0 < k → GoesS Tryz.prog (C7 prim W7 spec79 sAl) (K0 H0 w0) 79 td79 (LO79 n d (k : Int) (keysU d k)) [] emp (up φ)
 | m, k, hk, h0 => by
  have hlen := keysU_len (d := d) (n := k) fun j hj => hd j (by omega)
  refine gSi (fn := Tryz.f79) (tb := tb79) (by kernel_rfl) (by kernel_rfl) ?_
  refine gSt (C7.ok _ _) (fok79 _) (hold := nH0) (m := 300) (n := 400) (ts := [⟨79, td79, LO79 n d (k + 1 : Nat) (keysU d (k + 1)), []⟩]) ?_
  have pos (h : prim.lt (Int.ofNat 0) (k : Int) = false) : False := by simp [prim_lt] at h; omega
  have hkey (h : k < n) : (keyU (d k)).length ≤ 5000000 := by
   obtain ⟨q1, q2, q3⟩ := okU_iff (hd k h)
   exact keyU_len q1 q2 q3
  refine all_c79 prim W7 n d k (k + 1 : Nat) _ _ ?_ ?_ ?_ ?_ ?_ ?_ ?_ ?_ ?_ ?_ ?_ ?_
  ·intro h _; exact room1 (show (keysU d k).length + 2 ≤ _ by omega)
  ·intro h _; have := lt79 h; simp [prim_inB]; omega
  ·intro h _; exact rowB_self (d k)
  ·intro h _; exact (congrArg okU (rowF_self (d k))).trans (hd k (lt79 h))
  ·intro h _
   have := hkey (lt79 h)
   refine room1 (show (keysU d k ++ [59, 32]).length + (keyU (rowF (rfS (d k)))).length ≤ _ from ?_)
   rw [rowF_self, List.length_append]; simp; omega
  ·intro h q; exact (pos q).elim
  ·intro h q; exact (pos q).elim
  ·intro h q; exact (pos q).elim
  ·intro h q; exact (pos q).elim
  ·intro h _
   have hlt := lt79 h
   refine ⟨⟨rfl, nx79 (by omega), ?_, trivial⟩, _, rfl, ?_⟩
   ·show keysU d k ++ [59, 32] ++ keyU (rowF (rfS (d k))) = _
    rw [rowF_self, keysU, if_neg (by omega)]; simp
   ·match m, hk with
    | 0, hk => omega
    | m + 1, hk => exact loop79 hn hd hφ m (k + 1) (by omega) (by omega)
  ·intro h q; exact (pos q).elim
  ·intro h
   have : k = n := by simp [prim_lt, prim_ofN] at h; omega
   subst this
   exact hφ
end
theorem O79 (d : Nat → Rf) : FnOK Tryz.prog (gls7 W7) 79 (F79 d) := by
 refine fnOK_Su (C := C7 prim W7 spec79 sAl) (C7.ok _ _) (fn := Tryz.f79) (by kernel_rfl) (by kernel_rfl) fun H w shs args φ hrep h => ?_
 have hn : Tryz.f79.ntmps = 26 := by kernel_rfl
 unfold F79 at h
 split at h
 ·split at h
  ·rename_i n g hs
   obtain ⟨h1, h2, h3, hφ⟩ := h
   have hφ : up φ (.str (keysU d n)) := up_mk (s' := .str (keysU d n)) rfl hφ
   have h2 := of_decide_eq_true h2
   have hd : ∀ j, j < n → okU (d j) = true := fun j hj => all_range h3 j hj
   match args, hrep with
   | [v], ⟨r1, _⟩ =>
    refine ⟨[.sl 4 n (fnU d)], ⟨rep_sl_congr (rep_slN hs r1) (areU_at h1), trivial⟩, L0, ?_⟩
    refine gSt (C7.ok _ _) (fok79 _) (hold := nH0) (m := 300) (n := 400) (ts := [⟨79, td79, LN79 n d (0 : Nat), []⟩]) ?_
    rw [hn]
    refine all_a79 prim W7 n d (0 : Nat) ⟨⟨rfl, rfl, trivial⟩, _, rfl, ?_⟩
    refine gSi (fn := Tryz.f79) (tb := tb79) (by kernel_rfl) (by kernel_rfl) ?_
    refine gSt (C7.ok _ _) (fok79 _) (hold := nH0) (m := 300) (n := 400) (ts := [⟨79, td79, LO79 n d (1 : Nat) (keysU d 1), []⟩]) ?_
    have pos (h : prim.lt (Int.ofNat 0) ((0 : Nat) : Int) = true) : False := by simp [prim_lt] at h
    refine all_b79 prim W7 n d (0 : Nat) (1 : Nat) _ ?_ ?_ ?_ ?_ ?_ ?_ ?_ ?_ ?_ ?_ ?_ ?_
    ·intro h q; exact (pos q).elim
    ·intro h q; exact (pos q).elim
    ·intro h q; exact (pos q).elim
    ·intro h q; exact (pos q).elim
    ·intro h q; exact (pos q).elim
    ·intro h _; have := lt79 h; simp [prim_inB]; omega
    ·intro h _; exact rowB_self (d 0)
    ·intro h _; exact (congrArg okU (rowF_self (d 0))).trans (hd 0 (lt79 h))
    ·intro h _
     obtain ⟨q1, q2, q3⟩ := okU_iff (hd 0 (lt79 h))
     have := keyU_len q1 q2 q3
     refine room1 (show 0 + (keyU (rowF (rfS (d 0)))).length ≤ _ from ?_)
     rw [rowF_self]; omega
    ·intro h q; exact (pos q).elim
    ·intro h _
     have hlt := lt79 h
     refine ⟨⟨rfl, nx79 (by omega), ?_, trivial⟩, _, rfl, loop79 h2 hd hφ (n - 1) 1 (by omega) (by omega)⟩
     show [] ++ keyU (rowF (rfS (d 0))) = _
     rw [rowF_self]; simp [keysU]
    ·intro h
     have : n = 0 := by simp [prim_lt, prim_ofN] at h; omega
     subst this
     exact hφ
  ·exact h.elim
 ·exact h.elim
end Go.Proofs
namespace Go.Pl
open Go Go.Sx
noncomputable def rfB (n : Nat) (g : Nat → List Sh) : Bool := (List.range n).all fun j => rowB (g j)
noncomputable def rfF (n : Nat) (g : Nat → List Sh) : Nat → Rf := fun j => rowF (g j)
def hundB (n : Nat) : Bool := decide (n ≤ 100)
def keyN (n : Nat) (d : Nat → Sta) : List UInt8 := keyT ((List.range n).map d)
def sameK (n : Nat) (d : Nat → Sta) (m : Nat) (f : Nat → Rf) : Bool := (keyN n d == keysU f m) && ((n : Int) == (m : Int))
end Go.Pl
namespace Go.Proofs
open Go.Sx.Tree
open Go Go.Sx Go.Pl
noncomputable def F79c : List Sh → Tree Sh
 | [s] => match slN 4 s with
  | some (n, g) => .need (rfB n g) (.need (hundB n) (.need (allU n (rfF n g)) (.leaf (.str (keysU (rfF n g) n)))))
  | none => .fail
 | _ => .fail
noncomputable def F32x : List Sh → Tree Sh
 | [.agg [s0]] => match slN 4 s0 with
  | some (n, g) => .need (stB n g) (.need (keysB n (stF n g)) (.leaf (.str (keyN n (stF n g)))))
  | none => .fail
 | _ => .fail
noncomputable def spec48 : Nat → Option (List Sh → Tree Sh)
 | 32 => some F32x
 | 79 => some F79c
 | _ => none
theorem a48 (A : Prim) (W : Wd) (n m : Nat) (g h : Nat → List Sh) : runTo (C7 A W spec48 sAl) nH0 300 400 48 [.code []] (start0 17 [.agg [.sl 4 n g], .sl 4 m h] L0) [] [] = need (stB n g) (need (keysB n (stF n g)) (need (rfB m h) (need (hundB m) (need (allU m (rfF m h)) (node (A.seq (keyN n (stF n g)) (keysU (rfF m h) m)) (leaf (Fe2.ret (Sh.b (A.eq (A.ofN n) (A.ofN m))))) (leaf (Fe2.ret (Sh.b false)))))))) := by kernel_rfl
end Go.Proofs
namespace Go.Proofs
open Go.Sx.Tree
open Go Go.Sx Go.Pl
theorem all_a48 (A : Prim) (W : Wd) (n m : Nat) (g h : Nat → List Sh) {ψ : Fe2 → Prop} (h1 : (stB n g) = true) (h2 : (keysB n (stF n g)) = true) (h3 : (rfB m h) = true) (h4 : (hundB m) = true) (h5 : (allU m (rfF m h)) = true) (y1 : (A.seq (keyN n (stF n g)) (keysU (rfF m h) m)) = true → ψ (Fe2.ret (Sh.b (A.eq (A.ofN n) (A.ofN m))))) (y2 : (A.seq (keyN n (stF n g)) (keysU (rfF m h) m)) = false → ψ (Fe2.ret (Sh.b false))) : MeetsT ψ (runTo (C7 A W spec48 sAl) nH0 300 400 48 [.code []] (start0 17 [.agg [.sl 4 n g], .sl 4 m h] L0) [] []) := by
 rw [a48 A W n m g h, meetsT_eq]
 exact ⟨(h1), ⟨(h2), ⟨(h3), ⟨(h4), ⟨(h5), ⟨fun q0 => (y1 q0), fun q0 => (y2 q0)⟩⟩⟩⟩⟩⟩
end Go.Proofs
namespace Go.Proofs
open Go Go.Sx Go.Pl
theorem O32x : FnOK Tryz.prog (gls7 W7) 32 F32x := by
 intro H w shs args φ hon hg hr hφ
 refine O32 H w shs args φ hon hg hr ?_
 unfold F32x at hφ
 unfold F32
 split at hφ
 ·split at hφ
  ·rename_i e; simp only [e]; exact hφ
  ·exact hφ.elim
 ·exact hφ.elim
theorem rfB_at {n : Nat} {g : Nat → List Sh} (h : rfB n g = true) : ∀ j, j < n → g j = fnU (rfF n g) j := fun j hj => rowF_ok (all_range h j hj)
theorem rfB_fnU (n : Nat) (d : Nat → Rf) : rfB n (fnU d) = true := List.all_eq_true.2 fun j _ => rowB_self (d j)
theorem rfF_fnU (n : Nat) (d : Nat → Rf) : rfF n (fnU d) = d := by
 funext j
 exact rowF_self (d j)
theorem O79c : FnOK Tryz.prog (gls7 W7) 79 F79c := by
 intro H w shs args φ hon hg hr hφ
 unfold F79c at hφ
 split at hφ
 ·split at hφ
  ·rename_i n g e
   obtain ⟨h1, h2, h3, h4⟩ := hφ
   refine O79 (rfF n g) H w _ args φ hon hg hr ?_
   unfold F79
   simp only [e]
   exact ⟨areU_of (rfB_at h1), h2, h3, h4⟩
  ·exact hφ.elim
 ·exact hφ.elim
noncomputable def F47c : List Sh → Tree Sh
 | [s, t, u, w, z] => match slN 4 s with
  | some (n, g) => .need (rfB n g) (F47 (rfF n g) [s, t, u, w, z])
  | none => .fail
 | _ => .fail
theorem O47c : FnOK Tryz.prog (gls7 W7) 47 F47c := by
 intro H w shs args φ hon hg hr hφ
 unfold F47c at hφ
 split at hφ
 ·split at hφ
  ·rename_i n g e
   exact O47 (rfF n g) H w _ args φ hon hg hr hφ.2
  ·exact hφ.elim
 ·exact hφ.elim
theorem fok48 (stop : Nat → List Nat → Bool) : FnsOK Tryz.prog (C7 prim W7 spec48 stop) := C7.fok (fun g F h => by
 unfold spec48 at h
 split at h
 ·cases h; exact O32x
 ·cases h; exact O79c
 ·cases h) fun g h => by
 unfold spec48 at h
 split at h
 all_goals first | (cases h; done) | kernel_rfl
noncomputable def F48 : List Sh → Tree Sh
 | [.agg [s0], s1] => match slN 4 s0, slN 4 s1 with
  | some (n, g), some (m, h) => .need (stB n g) (.need (keysB n (stF n g)) (.need (rfB m h) (.need (hundB m) (.need (allU m (rfF m h)) (.leaf (.b (sameK n (stF n g) m (rfF m h))))))))
  | _, _ => .fail
 | _ => .fail
theorem O48 : FnOK Tryz.prog (gls7 W7) 48 F48 := by
 refine fnOK_Su (C := C7 prim W7 spec48 sAl) (C7.ok _ _) (fn := Tryz.f48) (by kernel_rfl) (by kernel_rfl) fun H w shs args φ hrep h => ?_
 have hn : Tryz.f48.ntmps = 17 := by kernel_rfl
 unfold F48 at h
 split at h
 ·split at h
  ·rename_i n g m h' e1 e2
   obtain ⟨h1, h2, h3, h4, h5, hφ⟩ := h
   match args, hrep with
   | [v1, v2], ⟨r1, r2, _⟩ =>
    refine ⟨[.agg [.sl 4 n g], .sl 4 m h'], ⟨rep_agg1 r1 fun u hu => rep_slN e1 hu, rep_slN e2 r2, trivial⟩, L0, ?_⟩
    refine gSt (C7.ok _ _) (fok48 _) (hold := nH0) (m := 300) (n := 400) (ts := []) ?_
    rw [hn]
    have key : ∀ b : Bool, b = sameK n (stF n g) m (rfF m h') → up φ (.b b) := fun b e => up_mk (s' := .b (sameK n (stF n g) m (rfF m h'))) (.inl (by rw [e])) hφ
    refine all_a48 prim W7 n m g h' h1 h2 h3 h4 h5 (fun q => key _ ?_) (fun q => key _ ?_)
    ·have q : (keyN n (stF n g) == keysU (rfF m h') m) = true := q
     unfold sameK
     rw [q]; rfl
    ·have q : (keyN n (stF n g) == keysU (rfF m h') m) = false := q
     unfold sameK
     rw [q]; rfl
  ·exact h.elim
 ·exact h.elim
end Go.Proofs
namespace Go.Pl
open Go Go.Sx
def okN (n : Nat) (d : Nat → Sta) (i op k v : Int) : Bool := inI n i && !badOp (d i.toNat).kind op && !badKV (d i.toNat).kind (d i.toNat).num op k v
def erN (n : Nat) (d : Nat → Sta) (i op k v : Int) : Nat := if inI n i = true then (if badOp (d i.toNat).kind op = true then 1 else 3) else 0
def fitN (n : Nat) (d : Nat → Sta) (i op : Int) : Bool := !inI n i || (Go.Pl.roomS (d i.toNat).q.length && mapOK op (len (d i.toNat).ps) (fnR (nth (d i.toNat).ps)))
noncomputable def nxtT (n : Nat) (g : Nat → List Sh) (i op k v : Int) : Nat → List Sh := updG n g i (staS (opT (stF n g i.toNat) op k v).1)
noncomputable def retT (n : Nat) (g : Nat → List Sh) (i op k v : Int) : Int := (opT (stF n g i.toNat) op k v).2.1
noncomputable def gotT (n : Nat) (g : Nat → List Sh) (i op k v : Int) : Int := (opT (stF n g i.toNat) op k v).2.2
def noN (n : Nat) (d : Nat → Sta) (i op k v : Int) (e : Nat) : Bool := !okN n d i op k v && decide (erN n d i op k v = e)
def okM (n : Nat) (f : Nat → Rf) (i op k v : Int) : Bool := inI n i && isC (f i.toNat).kind (f i.toNat).num op k v 0
def codeM (n : Nat) (f : Nat → Rf) (i op k v : Int) : Int := if inI n i = true then argC (f i.toNat).kind (f i.toNat).num op k v else 109
def noM (n : Nat) (f : Nat → Rf) (i op k v c : Int) : Bool := !okM n f i op k v && decide (codeM n f i op k v = c)
def fitM (n : Nat) (f : Nat → Rf) (i : Int) : Bool := !inI n i || wfU (f i.toNat)
noncomputable def nxtU (n : Nat) (g : Nat → List Sh) (i op k v : Int) : Nat → List Sh := updG n g i (rfS (opS (rfF n g i.toNat) op k v))
noncomputable def retU (n : Nat) (g : Nat → List Sh) (i op k v : Int) : Int := opR (rfF n g i.toNat) op k v
noncomputable def gotU (n : Nat) (g : Nat → List Sh) (i op k v : Int) : Int := opV (rfF n g i.toNat) op k v
end Go.Pl
namespace Go.Proofs
open Go.Sx.Tree
open Go Go.Sx Go.Pl
noncomputable def F29x : List Sh → Tree Sh
 | [.agg [s0], t, u, v, w] => match slN 4 s0, icode t, icode u, icode v, icode w with
  | some (n, g), some i, some op, some k, some v => .need (stB n g) (.need (roomB n 64) (.need (fitN n (stF n g) i op) (.need (okN n (stF n g) i op k v)
   (.leaf (.tup [.agg [.sl 4 n (nxtT n g i op k v)], .i .i64 (retT n g i op k v), .i .i64 (gotT n g i op k v), .v .nilIface])))))
  | _, _, _, _, _ => .fail
 | _ => .fail
noncomputable def F47x : List Sh → Tree Sh
 | [s, t, u, w, z] => match slN 4 s, icode t, icode u, icode w, icode z with
  | some (n, g), some i, some op, some k, some v => .need (rfB n g) (.need (roomB n 64) (.need (fitM n (rfF n g) i) (.need (okM n (rfF n g) i op k v)
   (.leaf (.tup [.sl 4 n (nxtU n g i op k v), .i .i64 (retU n g i op k v), .i .i64 (gotU n g i op k v), .v (.int .i64 0)])))))
  | _, _, _, _, _ => .fail
 | _ => .fail
noncomputable def F29y (e : Nat) : List Sh → Tree Sh
 | [.agg [s0], t, u, v, w] => match slN 4 s0, icode t, icode u, icode v, icode w with
  | some (n, g), some i, some op, some k, some v => .need (stB n g) (.need (roomB n 64) (.need (fitN n (stF n g) i op) (.need (noN n (stF n g) i op k v e) (.leaf (.tup [.agg [.sl 4 0 noT], .i .i64 0, .i .i64 0, .er e 242])))))
  | _, _, _, _, _ => .fail
 | _ => .fail
noncomputable def F47y (c : Int) : List Sh → Tree Sh
 | [s, t, u, w, z] => match slN 4 s, icode t, icode u, icode w, icode z with
  | some (n, g), some i, some op, some k, some v => .need (rfB n g) (.need (roomB n 64) (.need (fitM n (rfF n g) i) (.need (noM n (rfF n g) i op k v c) (.leaf (.tup [.sl 0 0 noT, .i .i64 0, .i .i64 0, .v (.int .i64 c)])))))
  | _, _, _, _, _ => .fail
 | _ => .fail
def F26x : List Sh → Tree Sh
 | [t] => match slN 2 t with
  | some (n, g) => .need (okB Oj n g) (.node (bigO n) (.leaf (.tup [.sl 4 0 noT, .agg [.v (.int .i64 105), .sl 1 0 noI]])) (.node (allOb n (rwAt g)) (.leaf (.tup [.sl 4 n (fnU (newU (rwAt g))), .agg [.v (.int .i64 0), .sl 1 0 noI]])) (.leaf (.tup [.sl 4 0 noT, .agg [.v (.int .i64 109), .sl 1 1 (oneI (firstOb n (rwAt g)))]]))))
  | none => .fail
 | _ => .fail
noncomputable def spec24 : Nat → Option (List Sh → Tree Sh)
 | 25 => some F25
 | 26 => some F26x
 | 29 => some F29x
 | 47 => some F47x
 | 48 => some F48
 | _ => none
noncomputable def spec24y (e : Nat) (c : Int) : Nat → Option (List Sh → Tree Sh)
 | 29 => some (F29y e)
 | 47 => some (F47y c)
 | 48 => some F48
 | _ => none
def td24 : List It := [It.code [0, 1, 0, 1, 1, 1, 1], It.inBlock 0, It.code [1, 1, 1, 1, 1]]
def tb24 : List It := It.code [0, 0, 1, 0, 1, 1, 1, 1] :: td24
def LO24 (n : Nat) (d : Nat → Sta) (f : Nat → Rf) (m : Nat) (c : Nat → Cl) (i : Int) : Core := { tm := tmOf 115 [(1, .sh (.sl 4 m (fnR c))), (4, .ptr 0 0), (7, .ptr 1 0), (9, .sh (.sl 4 n (fnU f))), (11, .sym .i64 i)], hp := [(0, .box [.nils] 47), (1, .box [.sh (.sl 4 n (fnT d))] 47)], nx := 2, lim := L0, tc := [] }
theorem a24 (A : Prim) (W : Wd) (n : Nat) (o : Nat → Oj) (m : Nat) (c : Nat → Cl) (i' : Int) : runTo (C7 A W spec24 sAl) nH0 300 400 24 [.code []] (start0 115 [.sl 2 n (fnR o), .sl 4 m (fnR c)] L0) [] [⟨24, td24, LO24 n (newT o) (newU o) m c i', []⟩] = need (okB Oj n (fnR o)) (need (kindsB n (rwAt (fnR o))) (node (bigO n) (need (okB Oj n (fnR o)) (node (bigO n) (leaf (Fe2.ret (Sh.tup [Sh.agg [Sh.sl 4 0 noT], Sh.sl 0 0 fun (x : Nat) => [], Sh.b false]))) (node (allOb n (rwAt (fnR o))) (leaf (Fe2.ret (Sh.tup [Sh.agg [Sh.sl 4 0 noT], Sh.sl 0 0 fun (x : Nat) => [], Sh.b false]))) (leaf (Fe2.ret (Sh.tup [Sh.agg [Sh.sl 4 0 noT], Sh.sl 0 0 fun (x : Nat) => [], Sh.b false])))))) (node (allOb n (rwAt (fnR o))) (need (okB Oj n (fnR o)) (node (bigO n) (leaf (Fe2.ret (Sh.tup [Sh.agg [Sh.sl 4 n (fnT (newT (rwAt (fnR o))))], Sh.sl 0 0 fun (x : Nat) => [], Sh.b false]))) (node (allOb n (rwAt (fnR o))) (leaf (Fe2.at_ 0 [Eqn.sh (Sh.sl 4 m (fnR c)) (Sh.sl 4 m (fnR c)), Eqn.sh (Sh.sl 4 n (fnU (newU (rwAt (fnR o))))) (Sh.sl 4 n (fnU (newU o))), Eqn.int (Int.ofNat 0) i', Eqn.sh (Sh.sl 4 n (fnT (newT (rwAt (fnR o))))) (Sh.sl 4 n (fnT (newT o)))])) (leaf (Fe2.ret (Sh.tup [Sh.agg [Sh.sl 4 n (fnT (newT (rwAt (fnR o))))], Sh.sl 0 0 fun (x : Nat) => [], Sh.b false])))))) (need (okB Oj n (fnR o)) (node (bigO n) (leaf (Fe2.ret (Sh.tup [Sh.agg [Sh.sl 4 0 noT], Sh.sl 0 0 fun (x : Nat) => [], Sh.b false]))) (node (allOb n (rwAt (fnR o))) (leaf (Fe2.ret (Sh.tup [Sh.agg [Sh.sl 4 0 noT], Sh.sl 0 0 fun (x : Nat) => [], Sh.b false]))) (leaf (Fe2.ret (Sh.tup [Sh.agg [Sh.sl 4 0 noT], Sh.sl 0 0 fun (x : Nat) => [], Sh.b false]))))))))) := by kernel_rfl
theorem b24 (A : Prim) (W : Wd) (n : Nat) (d d' : Nat → Sta) (f f' : Nat → Rf) (m : Nat) (c : Nat → Cl) (i i' : Int) : runTo (C7 A W spec24 sAl) nH0 300 400 24 tb24 (LO24 n d f m c i) [] [⟨24, td24, LO24 n d' f' m c i', []⟩] = node (A.lt i (A.ofN m)) (need (A.inB i m) (need (A.inB i m) (need (A.inB i m) (need (A.inB i m) (need (stB n (fnT d)) (need (roomB n 64) (need (fitN n (stF n (fnT d)) (c (A.toN i)).obj (c (A.toN i)).op) (need (okN n (stF n (fnT d)) (c (A.toN i)).obj (c (A.toN i)).op (c (A.toN i)).key (c (A.toN i)).val) (need (stB n (fnT d)) (need (roomB n 64) (need (fitN n (stF n (fnT d)) (c (A.toN i)).obj (c (A.toN i)).op) (need (okN n (stF n (fnT d)) (c (A.toN i)).obj (c (A.toN i)).op (c (A.toN i)).key (c (A.toN i)).val) (must [Eqn.sh (Sh.sl 4 m (fnR c)) (Sh.sl 4 m (fnR c)), Eqn.sh (Sh.sl 4 n (fnU f)) (Sh.sl 4 n (fnU f)), Eqn.int i i, Eqn.sh (Sh.sl 4 n (fnT d)) (Sh.sl 4 n (fnT d)), Eqn.sh (Sh.sl 4 n (nxtT n (fnT d) (c (A.toN i)).obj (c (A.toN i)).op (c (A.toN i)).key (c (A.toN i)).val)) (Sh.sl 4 n (nxtT n (fnT d) (c (A.toN i)).obj (c (A.toN i)).op (c (A.toN i)).key (c (A.toN i)).val))] (need (A.inB i m) (need (A.inB i m) (need (A.inB i m) (need (A.inB i m) (need (rfB n (fnU f)) (need (roomB n 64) (need (fitM n (rfF n (fnU f)) (c (A.toN i)).obj) (need (okM n (rfF n (fnU f)) (c (A.toN i)).obj (c (A.toN i)).op (c (A.toN i)).key (c (A.toN i)).val) (leaf (Fe2.at_ 0 [Eqn.sh (Sh.sl 4 m (fnR c)) (Sh.sl 4 m (fnR c)), Eqn.sh (Sh.sl 4 n (nxtU n (fnU f) (c (A.toN i)).obj (c (A.toN i)).op (c (A.toN i)).key (c (A.toN i)).val)) (Sh.sl 4 n (fnU f')), Eqn.int (A.add .i64 i (Int.ofNat 1)) i', Eqn.sh (Sh.sl 4 n (nxtT n (fnT d) (c (A.toN i)).obj (c (A.toN i)).op (c (A.toN i)).key (c (A.toN i)).val)) (Sh.sl 4 n (fnT d'))]))))))))))))))))))))))) (need (stB n (fnT d)) (need (keysB n (stF n (fnT d))) (need (rfB n (fnU f)) (need (hundB n) (need (allU n (rfF n (fnU f))) (leaf (Fe2.ret (Sh.tup [Sh.agg [Sh.sl 4 n (fnT d)], Sh.sl 4 n (fnU f), Sh.b (sameK n (stF n (fnT d)) n (rfF n (fnU f)))])))))))) := by kernel_rfl
theorem e24_109 (A : Prim) (W : Wd) (n : Nat) (d d' : Nat → Sta) (f f' : Nat → Rf) (m : Nat) (c : Nat → Cl) (i i' : Int) : runTo (C7 A W (spec24y 0 109) sAl) nH0 300 400 24 tb24 (LO24 n d f m c i) [] [⟨24, td24, LO24 n d' f' m c i', []⟩] = node (A.lt i (A.ofN m)) (need (A.inB i m) (need (A.inB i m) (need (A.inB i m) (need (A.inB i m) (need (stB n (fnT d)) (need (roomB n 64) (need (fitN n (stF n (fnT d)) (c (A.toN i)).obj (c (A.toN i)).op) (need (noN n (stF n (fnT d)) (c (A.toN i)).obj (c (A.toN i)).op (c (A.toN i)).key (c (A.toN i)).val 0) (need (stB n (fnT d)) (need (roomB n 64) (need (fitN n (stF n (fnT d)) (c (A.toN i)).obj (c (A.toN i)).op) (need (noN n (stF n (fnT d)) (c (A.toN i)).obj (c (A.toN i)).op (c (A.toN i)).key (c (A.toN i)).val 0) (must [Eqn.sh (Sh.sl 4 m (fnR c)) (Sh.sl 4 m (fnR c)), Eqn.sh (Sh.sl 4 n (fnU f)) (Sh.sl 4 n (fnU f)), Eqn.int i i, Eqn.sh (Sh.sl 4 n (fnT d)) (Sh.sl 4 n (fnT d)), Eqn.sh (Sh.sl 4 0 noT) (Sh.sl 4 0 noT)] (need (A.inB i m) (need (A.inB i m) (need (A.inB i m) (need (A.inB i m) (need (rfB n (fnU f)) (need (roomB n 64) (need (fitM n (rfF n (fnU f)) (c (A.toN i)).obj) (need (noM n (rfF n (fnU f)) (c (A.toN i)).obj (c (A.toN i)).op (c (A.toN i)).key (c (A.toN i)).val (Int.ofNat 109)) (leaf (Fe2.at_ 0 [Eqn.sh (Sh.sl 4 m (fnR c)) (Sh.sl 4 m (fnR c)), Eqn.sh (Sh.sl 4 n (fnU f)) (Sh.sl 4 n (fnU f')), Eqn.int (A.add .i64 i (Int.ofNat 1)) i', Eqn.sh (Sh.sl 4 n (fnT d)) (Sh.sl 4 n (fnT d'))]))))))))))))))))))))))) (need (stB n (fnT d)) (need (keysB n (stF n (fnT d))) (need (rfB n (fnU f)) (need (hundB n) (need (allU n (rfF n (fnU f))) (leaf (Fe2.ret (Sh.tup [Sh.agg [Sh.sl 4 n (fnT d)], Sh.sl 4 n (fnU f), Sh.b (sameK n (stF n (fnT d)) n (rfF n (fnU f)))])))))))) := by kernel_rfl
theorem e24_111 (A : Prim) (W : Wd) (n : Nat) (d d' : Nat → Sta) (f f' : Nat → Rf) (m : Nat) (c : Nat → Cl) (i i' : Int) : runTo (C7 A W (spec24y 1 111) sAl) nH0 300 400 24 tb24 (LO24 n d f m c i) [] [⟨24, td24, LO24 n d' f' m c i', []⟩] = node (A.lt i (A.ofN m)) (need (A.inB i m) (need (A.inB i m) (need (A.inB i m) (need (A.inB i m) (need (stB n (fnT d)) (need (roomB n 64) (need (fitN n (stF n (fnT d)) (c (A.toN i)).obj (c (A.toN i)).op) (need (noN n (stF n (fnT d)) (c (A.toN i)).obj (c (A.toN i)).op (c (A.toN i)).key (c (A.toN i)).val 1) (need (stB n (fnT d)) (need (roomB n 64) (need (fitN n (stF n (fnT d)) (c (A.toN i)).obj (c (A.toN i)).op) (need (noN n (stF n (fnT d)) (c (A.toN i)).obj (c (A.toN i)).op (c (A.toN i)).key (c (A.toN i)).val 1) (must [Eqn.sh (Sh.sl 4 m (fnR c)) (Sh.sl 4 m (fnR c)), Eqn.sh (Sh.sl 4 n (fnU f)) (Sh.sl 4 n (fnU f)), Eqn.int i i, Eqn.sh (Sh.sl 4 n (fnT d)) (Sh.sl 4 n (fnT d)), Eqn.sh (Sh.sl 4 0 noT) (Sh.sl 4 0 noT)] (need (A.inB i m) (need (A.inB i m) (need (A.inB i m) (need (A.inB i m) (need (rfB n (fnU f)) (need (roomB n 64) (need (fitM n (rfF n (fnU f)) (c (A.toN i)).obj) (need (noM n (rfF n (fnU f)) (c (A.toN i)).obj (c (A.toN i)).op (c (A.toN i)).key (c (A.toN i)).val (Int.ofNat 111)) (leaf (Fe2.at_ 0 [Eqn.sh (Sh.sl 4 m (fnR c)) (Sh.sl 4 m (fnR c)), Eqn.sh (Sh.sl 4 n (fnU f)) (Sh.sl 4 n (fnU f')), Eqn.int (A.add .i64 i (Int.ofNat 1)) i', Eqn.sh (Sh.sl 4 n (fnT d)) (Sh.sl 4 n (fnT d'))]))))))))))))))))))))))) (need (stB n (fnT d)) (need (keysB n (stF n (fnT d))) (need (rfB n (fnU f)) (need (hundB n) (need (allU n (rfF n (fnU f))) (leaf (Fe2.ret (Sh.tup [Sh.agg [Sh.sl 4 n (fnT d)], Sh.sl 4 n (fnU f), Sh.b (sameK n (stF n (fnT d)) n (rfF n (fnU f)))])))))))) := by kernel_rfl
theorem e24_110 (A : Prim) (W : Wd) (n : Nat) (d d' : Nat → Sta) (f f' : Nat → Rf) (m : Nat) (c : Nat → Cl) (i i' : Int) : runTo (C7 A W (spec24y 3 110) sAl) nH0 300 400 24 tb24 (LO24 n d f m c i) [] [⟨24, td24, LO24 n d' f' m c i', []⟩] = node (A.lt i (A.ofN m)) (need (A.inB i m) (need (A.inB i m) (need (A.inB i m) (need (A.inB i m) (need (stB n (fnT d)) (need (roomB n 64) (need (fitN n (stF n (fnT d)) (c (A.toN i)).obj (c (A.toN i)).op) (need (noN n (stF n (fnT d)) (c (A.toN i)).obj (c (A.toN i)).op (c (A.toN i)).key (c (A.toN i)).val 3) (need (stB n (fnT d)) (need (roomB n 64) (need (fitN n (stF n (fnT d)) (c (A.toN i)).obj (c (A.toN i)).op) (need (noN n (stF n (fnT d)) (c (A.toN i)).obj (c (A.toN i)).op (c (A.toN i)).key (c (A.toN i)).val 3) (must [Eqn.sh (Sh.sl 4 m (fnR c)) (Sh.sl 4 m (fnR c)), Eqn.sh (Sh.sl 4 n (fnU f)) (Sh.sl 4 n (fnU f)), Eqn.int i i, Eqn.sh (Sh.sl 4 n (fnT d)) (Sh.sl 4 n (fnT d)), Eqn.sh (Sh.sl 4 0 noT) (Sh.sl 4 0 noT)] (need (A.inB i m) (need (A.inB i m) (need (A.inB i m) (need (A.inB i m) (need (rfB n (fnU f)) (need (roomB n 64) (need (fitM n (rfF n (fnU f)) (c (A.toN i)).obj) (need (noM n (rfF n (fnU f)) (c (A.toN i)).obj (c (A.toN i)).op (c (A.toN i)).key (c (A.toN i)).val (Int.ofNat 110)) (leaf (Fe2.at_ 0 [Eqn.sh (Sh.sl 4 m (fnR c)) (Sh.sl 4 m (fnR c)), Eqn.sh (Sh.sl 4 n (fnU f)) (Sh.sl 4 n (fnU f')), Eqn.int (A.add .i64 i (Int.ofNat 1)) i', Eqn.sh (Sh.sl 4 n (fnT d)) (Sh.sl 4 n (fnT d'))]))))))))))))))))))))))) (need (stB n (fnT d)) (need (keysB n (stF n (fnT d))) (need (rfB n (fnU f)) (need (hundB n) (need (allU n (rfF n (fnU f))) (leaf (Fe2.ret (Sh.tup [Sh.agg [Sh.sl 4 n (fnT d)], Sh.sl 4 n (fnU f), Sh.b (sameK n (stF n (fnT d)) n (rfF n (fnU f)))])))))))) := by kernel_rfl
end Go.Proofs
namespace Go.Proofs
open Go.Sx.Tree
open Go Go.Sx Go.Pl
theorem all_a24 (A : Prim) (W : Wd) (n : Nat) (o : Nat → Oj) (m : Nat) (c : Nat → Cl) (i' : Int) {ψ : Fe2 → Prop} (h1 : (okB Oj n (fnR o)) = true) (h2 : (kindsB n (rwAt (fnR o))) = true) (y1 : (bigO n) = true → (bigO n) = true → ψ (Fe2.ret (Sh.tup [Sh.agg [Sh.sl 4 0 noT], Sh.sl 0 0 fun (x : Nat) => [], Sh.b false]))) (y2 : (bigO n) = true → (bigO n) = false → (allOb n (rwAt (fnR o))) = true → ψ (Fe2.ret (Sh.tup [Sh.agg [Sh.sl 4 0 noT], Sh.sl 0 0 fun (x : Nat) => [], Sh.b false]))) (y3 : (bigO n) = true → (bigO n) = false → (allOb n (rwAt (fnR o))) = false → ψ (Fe2.ret (Sh.tup [Sh.agg [Sh.sl 4 0 noT], Sh.sl 0 0 fun (x : Nat) => [], Sh.b false]))) (y4 : (bigO n) = false → (allOb n (rwAt (fnR o))) = true → (bigO n) = true → ψ (Fe2.ret (Sh.tup [Sh.agg [Sh.sl 4 n (fnT (newT (rwAt (fnR o))))], Sh.sl 0 0 fun (x : Nat) => [], Sh.b false]))) (y5 : (bigO n) = false → (allOb n (rwAt (fnR o))) = true → (bigO n) = false → (allOb n (rwAt (fnR o))) = true → ψ (Fe2.at_ 0 [Eqn.sh (Sh.sl 4 m (fnR c)) (Sh.sl 4 m (fnR c)), Eqn.sh (Sh.sl 4 n (fnU (newU (rwAt (fnR o))))) (Sh.sl 4 n (fnU (newU o))), Eqn.int (Int.ofNat 0) i', Eqn.sh (Sh.sl 4 n (fnT (newT (rwAt (fnR o))))) (Sh.sl 4 n (fnT (newT o)))])) (y6 : (bigO n) = false → (allOb n (rwAt (fnR o))) = true → (bigO n) = false → (allOb n (rwAt (fnR o))) = false → ψ (Fe2.ret (Sh.tup [Sh.agg [Sh.sl 4 n (fnT (newT (rwAt (fnR o))))], Sh.sl 0 0 fun (x : Nat) => [], Sh.b false]))) (y7 : (bigO n) = false → (allOb n (rwAt (fnR o))) = false → (bigO n) = true → ψ (Fe2.ret (Sh.tup [Sh.agg [Sh.sl 4 0 noT], Sh.sl 0 0 fun (x : Nat) => [], Sh.b false]))) (y8 : (bigO n) = false → (allOb n (rwAt (fnR o))) = false → (bigO n) = false → (allOb n (rwAt (fnR o))) = true → ψ (Fe2.ret (Sh.tup [Sh.agg [Sh.sl 4 0 noT], Sh.sl 0 0 fun (x : Nat) => [], Sh.b false]))) (y9 : (bigO n) = false → (allOb n (rwAt (fnR o))) = false → (bigO n) = false → (allOb n (rwAt (fnR o))) = false → ψ (Fe2.ret (Sh.tup [Sh.agg [Sh.sl 4 0 noT], Sh.sl 0 0 fun (x : Nat) => [], Sh.b false]))) : MeetsT ψ (runTo (C7 A W spec24 sAl) nH0 300 400 24 [.code []] (start0 115 [.sl 2 n (fnR o), .sl 4 m (fnR c)] L0) [] [⟨24, td24, LO24 n (newT o) (newU o) m c i', []⟩]) := by
 rw [a24 A W n o m c i', meetsT_eq]
 exact ⟨(h1), ⟨(h2), ⟨fun q0 => ⟨(h1), ⟨fun q1 => (y1 q0 q1), fun q1 => ⟨fun q2 => (y2 q0 q1 q2), fun q2 => (y3 q0 q1 q2)⟩⟩⟩, fun q0 => ⟨fun q1 => ⟨(h1), ⟨fun q2 => (y4 q0 q1 q2), fun q2 => ⟨fun q3 => (y5 q0 q1 q2 q3), fun q3 => (y6 q0 q1 q2 q3)⟩⟩⟩, fun q1 => ⟨(h1), ⟨fun q2 => (y7 q0 q1 q2), fun q2 => ⟨fun q3 => (y8 q0 q1 q2 q3), fun q3 => (y9 q0 q1 q2 q3)⟩⟩⟩⟩⟩⟩⟩
theorem all_b24 (A : Prim) (W : Wd) (n : Nat) (d d' : Nat → Sta) (f f' : Nat → Rf) (m : Nat) (c : Nat → Cl) (i i' : Int) {ψ : Fe2 → Prop} (h1 : (A.lt i (A.ofN m)) = true → (A.inB i m) = true) (h2 : (A.lt i (A.ofN m)) = true → (stB n (fnT d)) = true) (h3 : (A.lt i (A.ofN m)) = true → (roomB n 64) = true) (h4 : (A.lt i (A.ofN m)) = true → (fitN n (stF n (fnT d)) (c (A.toN i)).obj (c (A.toN i)).op) = true) (h5 : (A.lt i (A.ofN m)) = true → (okN n (stF n (fnT d)) (c (A.toN i)).obj (c (A.toN i)).op (c (A.toN i)).key (c (A.toN i)).val) = true) (h6 : (A.lt i (A.ofN m)) = true → (rfB n (fnU f)) = true) (h7 : (A.lt i (A.ofN m)) = true → (fitM n (rfF n (fnU f)) (c (A.toN i)).obj) = true) (h8 : (A.lt i (A.ofN m)) = true → (okM n (rfF n (fnU f)) (c (A.toN i)).obj (c (A.toN i)).op (c (A.toN i)).key (c (A.toN i)).val) = true) (h9 : (A.lt i (A.ofN m)) = false → (stB n (fnT d)) = true) (h10 : (A.lt i (A.ofN m)) = false → (keysB n (stF n (fnT d))) = true) (h11 : (A.lt i (A.ofN m)) = false → (rfB n (fnU f)) = true) (h12 : (A.lt i (A.ofN m)) = false → (hundB n) = true) (h13 : (A.lt i (A.ofN m)) = false → (allU n (rfF n (fnU f))) = true) (y1 : (A.lt i (A.ofN m)) = true → ψ (Fe2.at_ 0 [Eqn.sh (Sh.sl 4 m (fnR c)) (Sh.sl 4 m (fnR c)), Eqn.sh (Sh.sl 4 n (nxtU n (fnU f) (c (A.toN i)).obj (c (A.toN i)).op (c (A.toN i)).key (c (A.toN i)).val)) (Sh.sl 4 n (fnU f')), Eqn.int (A.add .i64 i (Int.ofNat 1)) i', Eqn.sh (Sh.sl 4 n (nxtT n (fnT d) (c (A.toN i)).obj (c (A.toN i)).op (c (A.toN i)).key (c (A.toN i)).val)) (Sh.sl 4 n (fnT d'))])) (y2 : (A.lt i (A.ofN m)) = false → ψ (Fe2.ret (Sh.tup [Sh.agg [Sh.sl 4 n (fnT d)], Sh.sl 4 n (fnU f), Sh.b (sameK n (stF n (fnT d)) n (rfF n (fnU f)))]))) : MeetsT ψ (runTo (C7 A W spec24 sAl) nH0 300 400 24 tb24 (LO24 n d f m c i) [] [⟨24, td24, LO24 n d' f' m c i', []⟩]) := by
 rw [b24 A W n d d' f f' m c i i', meetsT_eq]
 exact ⟨fun q0 => ⟨(h1 q0), ⟨(h1 q0), ⟨(h1 q0), ⟨(h1 q0), ⟨(h2 q0), ⟨(h3 q0), ⟨(h4 q0), ⟨(h5 q0), ⟨(h2 q0), ⟨(h3 q0), ⟨(h4 q0), ⟨(h5 q0), ⟨⟨rfl, rfl, rfl, rfl, rfl, trivial⟩, ⟨(h1 q0), ⟨(h1 q0), ⟨(h1 q0), ⟨(h1 q0), ⟨(h6 q0), ⟨(h3 q0), ⟨(h7 q0), ⟨(h8 q0), (y1 q0)⟩⟩⟩⟩⟩⟩⟩⟩⟩⟩⟩⟩⟩⟩⟩⟩⟩⟩⟩⟩⟩, fun q0 => ⟨(h9 q0), ⟨(h10 q0), ⟨(h11 q0), ⟨(h12 q0), ⟨(h13 q0), (y2 q0)⟩⟩⟩⟩⟩⟩
theorem all_e24_109 (A : Prim) (W : Wd) (n : Nat) (d d' : Nat → Sta) (f f' : Nat → Rf) (m : Nat) (c : Nat → Cl) (i i' : Int) {ψ : Fe2 → Prop} (h1 : (A.lt i (A.ofN m)) = true → (A.inB i m) = true) (h2 : (A.lt i (A.ofN m)) = true → (stB n (fnT d)) = true) (h3 : (A.lt i (A.ofN m)) = true → (roomB n 64) = true) (h4 : (A.lt i (A.ofN m)) = true → (fitN n (stF n (fnT d)) (c (A.toN i)).obj (c (A.toN i)).op) = true) (h5 : (A.lt i (A.ofN m)) = true → (noN n (stF n (fnT d)) (c (A.toN i)).obj (c (A.toN i)).op (c (A.toN i)).key (c (A.toN i)).val 0) = true) (h6 : (A.lt i (A.ofN m)) = true → (rfB n (fnU f)) = true) (h7 : (A.lt i (A.ofN m)) = true → (fitM n (rfF n (fnU f)) (c (A.toN i)).obj) = true) (h8 : (A.lt i (A.ofN m)) = true → (noM n (rfF n (fnU f)) (c (A.toN i)).obj (c (A.toN i)).op (c (A.toN i)).key (c (A.toN i)).val (Int.ofNat 109)) = true) (h9 : (A.lt i (A.ofN m)) = false → (stB n (fnT d)) = true) (h10 : (A.lt i (A.ofN m)) = false → (keysB n (stF n (fnT d))) = true) (h11 : (A.lt i (A.ofN m)) = false → (rfB n (fnU f)) = true) (h12 : (A.lt i (A.ofN m)) = false → (hundB n) = true) (h13 : (A.lt i (A.ofN m)) = false → (allU n (rfF n (fnU f))) = true) (y1 : (A.lt i (A.ofN m)) = true → ψ (Fe2.at_ 0 [Eqn.sh (Sh.sl 4 m (fnR c)) (Sh.sl 4 m (fnR c)), Eqn.sh (Sh.sl 4 n (fnU f)) (Sh.sl 4 n (fnU f')), Eqn.int (A.add .i64 i (Int.ofNat 1)) i', Eqn.sh (Sh.sl 4 n (fnT d)) (Sh.sl 4 n (fnT d'))])) (y2 : (A.lt i (A.ofN m)) = false → ψ (Fe2.ret (Sh.tup [Sh.agg [Sh.sl 4 n (fnT d)], Sh.sl 4 n (fnU f), Sh.b (sameK n (stF n (fnT d)) n (rfF n (fnU f)))]))) : MeetsT ψ (runTo (C7 A W (spec24y 0 109) sAl) nH0 300 400 24 tb24 (LO24 n d f m c i) [] [⟨24, td24, LO24 n d' f' m c i', []⟩]) := by
 rw [e24_109 A W n d d' f f' m c i i', meetsT_eq]
 exact ⟨fun q0 => ⟨(h1 q0), ⟨(h1 q0), ⟨(h1 q0), ⟨(h1 q0), ⟨(h2 q0), ⟨(h3 q0), ⟨(h4 q0), ⟨(h5 q0), ⟨(h2 q0), ⟨(h3 q0), ⟨(h4 q0), ⟨(h5 q0), ⟨⟨rfl, rfl, rfl, rfl, rfl, trivial⟩, ⟨(h1 q0), ⟨(h1 q0), ⟨(h1 q0), ⟨(h1 q0), ⟨(h6 q0), ⟨(h3 q0), ⟨(h7 q0), ⟨(h8 q0), (y1 q0)⟩⟩⟩⟩⟩⟩⟩⟩⟩⟩⟩⟩⟩⟩⟩⟩⟩⟩⟩⟩⟩, fun q0 => ⟨(h9 q0), ⟨(h10 q0), ⟨(h11 q0), ⟨(h12 q0), ⟨(h13 q0), (y2 q0)⟩⟩⟩⟩⟩⟩
theorem all_e24_111 (A : Prim) (W : Wd) (n : Nat) (d d' : Nat → Sta) (f f' : Nat → Rf) (m : Nat) (c : Nat → Cl) (i i' : Int) {ψ : Fe2 → Prop} (h1 : (A.lt i (A.ofN m)) = true → (A.inB i m) = true) (h2 : (A.lt i (A.ofN m)) = true → (stB n (fnT d)) = true) (h3 : (A.lt i (A.ofN m)) = true → (roomB n 64) = true) (h4 : (A.lt i (A.ofN m)) = true → (fitN n (stF n (fnT d)) (c (A.toN i)).obj (c (A.toN i)).op) = true) (h5 : (A.lt i (A.ofN m)) = true → (noN n (stF n (fnT d)) (c (A.toN i)).obj (c (A.toN i)).op (c (A.toN i)).key (c (A.toN i)).val 1) = true) (h6 : (A.lt i (A.ofN m)) = true → (rfB n (fnU f)) = true) (h7 : (A.lt i (A.ofN m)) = true → (fitM n (rfF n (fnU f)) (c (A.toN i)).obj) = true) (h8 : (A.lt i (A.ofN m)) = true → (noM n (rfF n (fnU f)) (c (A.toN i)).obj (c (A.toN i)).op (c (A.toN i)).key (c (A.toN i)).val (Int.ofNat 111)) = true) (h9 : (A.lt i (A.ofN m)) = false → (stB n (fnT d)) = true) (h10 : (A.lt i (A.ofN m)) = false → (keysB n (stF n (fnT d))) = true) (h11 : (A.lt i (A.ofN m)) = false → (rfB n (fnU f)) = true) (h12 : (A.lt i (A.ofN m)) = false → (hundB n) = true) (h13 : (A.lt i (A.ofN m)) = false → (allU n (rfF n (fnU f))) = true) (y1 : (A.lt i (A.ofN m)) = true → ψ (Fe2.at_ 0 [Eqn.sh (Sh.sl 4 m (fnR c)) (Sh.sl 4 m (fnR c)), Eqn.sh (Sh.sl 4 n (fnU f)) (Sh.sl 4 n (fnU f')), Eqn.int (A.add .i64 i (Int.ofNat 1)) i', Eqn.sh (Sh.sl 4 n (fnT d)) (Sh.sl 4 n (fnT d'))])) (y2 : (A.lt i (A.ofN m)) = false → ψ (Fe2.ret (Sh.tup [Sh.agg [Sh.sl 4 n (fnT d)], Sh.sl 4 n (fnU f), Sh.b (sameK n (stF n (fnT d)) n (rfF n (fnU f)))]))) : MeetsT ψ (runTo (C7 A W (spec24y 1 111) sAl) nH0 300 400 24 tb24 (LO24 n d f m c i) [] [⟨24, td24, LO24 n d' f' m c i', []⟩]) := by
 rw [e24_111 A W n d d' f f' m c i i', meetsT_eq]
 exact ⟨fun q0 => ⟨(h1 q0), ⟨(h1 q0), ⟨(h1 q0), ⟨(h1 q0), ⟨(h2 q0), ⟨(h3 q0), ⟨(h4 q0), ⟨(h5 q0), ⟨(h2 q0), ⟨(h3 q0), ⟨(h4 q0), ⟨(h5 q0), ⟨⟨rfl, rfl, rfl, rfl, rfl, trivial⟩, ⟨(h1 q0), ⟨(h1 q0), ⟨(h1 q0), ⟨(h1 q0), ⟨(h6 q0), ⟨(h3 q0), ⟨(h7 q0), ⟨(h8 q0), (y1 q0)⟩⟩⟩⟩⟩⟩⟩⟩⟩⟩⟩⟩⟩⟩⟩⟩⟩⟩⟩⟩⟩, fun q0 => ⟨(h9 q0), ⟨(h10 q0), ⟨(h11 q0), ⟨(h12 q0), ⟨(h13 q0), (y2 q0)⟩⟩⟩⟩⟩⟩
theorem all_e24_110 (A : Prim) (W : Wd) (n : Nat) (d d' : Nat → Sta) (f f' : Nat → Rf) (m : Nat) (c : Nat → Cl) (i i' : Int) {ψ : Fe2 → Prop} (h1 : (A.lt i (A.ofN m)) = true → (A.inB i m) = true) (h2 : (A.lt i (A.ofN m)) = true → (stB n (fnT d)) = true) (h3 : (A.lt i (A.ofN m)) = true → (roomB n 64) = true) (h4 : (A.lt i (A.ofN m)) = true → (fitN n (stF n (fnT d)) (c (A.toN i)).obj (c (A.toN i)).op) = true) (h5 : (A.lt i (A.ofN m)) = true → (noN n (stF n (fnT d)) (c (A.toN i)).obj (c (A.toN i)).op (c (A.toN i)).key (c (A.toN i)).val 3) = true) (h6 : (A.lt i (A.ofN m)) = true → (rfB n (fnU f)) = true) (h7 : (A.lt i (A.ofN m)) = true → (fitM n (rfF n (fnU f)) (c (A.toN i)).obj) = true) (h8 : (A.lt i (A.ofN m)) = true → (noM n (rfF n (fnU f)) (c (A.toN i)).obj (c (A.toN i)).op (c (A.toN i)).key (c (A.toN i)).val (Int.ofNat 110)) = true) (h9 : (A.lt i (A.ofN m)) = false → (stB n (fnT d)) = true) (h10 : (A.lt i (A.ofN m)) = false → (keysB n (stF n (fnT d))) = true) (h11 : (A.lt i (A.ofN m)) = false → (rfB n (fnU f)) = true) (h12 : (A.lt i (A.ofN m)) = false → (hundB n) = true) (h13 : (A.lt i (A.ofN m)) = false → (allU n (rfF n (fnU f))) = true) (y1 : (A.lt i (A.ofN m)) = true → ψ (Fe2.at_ 0 [Eqn.sh (Sh.sl 4 m (fnR c)) (Sh.sl 4 m (fnR c)), Eqn.sh (Sh.sl 4 n (fnU f)) (Sh.sl 4 n (fnU f')), Eqn.int (A.add .i64 i (Int.ofNat 1)) i', Eqn.sh (Sh.sl 4 n (fnT d)) (Sh.sl 4 n (fnT d'))])) (y2 : (A.lt i (A.ofN m)) = false → ψ (Fe2.ret (Sh.tup [Sh.agg [Sh.sl 4 n (fnT d)], Sh.sl 4 n (fnU f), Sh.b (sameK n (stF n (fnT d)) n (rfF n (fnU f)))]))) : MeetsT ψ (runTo (C7 A W (spec24y 3 110) sAl) nH0 300 400 24 tb24 (LO24 n d f m c i) [] [⟨24, td24, LO24 n d' f' m c i', []⟩]) := by
 rw [e24_110 A W n d d' f f' m c i i', meetsT_eq]
 exact ⟨fun q0 => ⟨(h1 q0), ⟨(h1 q0), ⟨(h1 q0), ⟨(h1 q0), ⟨(h2 q0), ⟨(h3 q0), ⟨(h4 q0), ⟨(h5 q0), ⟨(h2 q0), ⟨(h3 q0), ⟨(h4 q0), ⟨(h5 q0), ⟨⟨rfl, rfl, rfl, rfl, rfl, trivial⟩, ⟨(h1 q0), ⟨(h1 q0), ⟨(h1 q0), ⟨(h1 q0), ⟨(h6 q0), ⟨(h3 q0), ⟨(h7 q0), ⟨(h8 q0), (y1 q0)⟩⟩⟩⟩⟩⟩⟩⟩⟩⟩⟩⟩⟩⟩⟩⟩⟩⟩⟩⟩⟩, fun q0 => ⟨(h9 q0), ⟨(h10 q0), ⟨(h11 q0), ⟨(h12 q0), ⟨(h13 q0), (y2 q0)⟩⟩⟩⟩⟩⟩
end Go.Proofs
namespace Go.Pl
open Go Go.Sx Go.Proofs
def toR (s : Sta) : Rf := ⟨s.kind, s.num, s.ps.map (·.key), s.q ++ s.ps.map (·.val)⟩
theorem posK_map (ps : List Pr) (k : Int) : posK (ps.map (·.key)) k = posP ps k := by
 unfold posK posP
 rw [List.takeWhile_map, List.length_map]; rfl
theorem arg_eq (x y op k v : Int) : argC x y op k v = if badOp x op = true then 111 else if badKV x y op k v = true then 110 else 0 := by
 by_cases h1 : x = 0 ∨ ofOp op ≠ x
 ·have : badOp x op = true := by
   unfold badOp
   rcases h1 with h1 | h1 <;> simp [h1]
  rw [if_pos this]
  unfold argC
  rw [if_pos h1]
 ·have hx : x ≠ 0 ∧ ofOp op = x := ⟨fun e => h1 (.inl e), Classical.byContradiction fun e => h1 (.inr e)⟩
  have : ¬ badOp x op = true := by
   unfold badOp
   simp [hx.1, hx.2]
  rw [if_neg this]
  unfold argC
  rw [if_neg h1]
  have h3 : op = 3 → x = 2 := fun e => by rw [← hx.2, e]; decide
  have e1 : (badKV x y op k v = true) ↔ ((keyed op = false ∧ k ≠ 0) ∨ k < 0 ∨ 1000 < k ∨ (valued op = false ∧ v ≠ 0) ∨ v < -1000000000 ∨ 1000000000 < v) ∨ (op = 3 ∧ (addW y v < -1000000000000000 ∨ 1000000000000000 < addW y v)) := by
   unfold badKV beyondB
   by_cases h : op = 3
   ·have := h3 h
    subst this
    cases keyed op <;> cases valued op <;> simp [h] <;> omega
   ·cases keyed op <;> cases valued op <;> simp [h] <;> omega
  by_cases a : (keyed op = false ∧ k ≠ 0) ∨ k < 0 ∨ 1000 < k ∨ (valued op = false ∧ v ≠ 0) ∨ v < -1000000000 ∨ 1000000000 < v
  ·rw [if_pos a, if_pos (e1.2 (.inl a))]
  ·rw [if_neg a]
   by_cases b : op = 3 ∧ (addW y v < -1000000000000000 ∨ 1000000000000000 < addW y v)
   ·rw [if_pos b, if_pos (e1.2 (.inr b))]
   ·rw [if_neg b, if_neg fun e => (e1.1 e).elim a b]
theorem nth_key (ps : List Pr) {i : Nat} (h : i < ps.length) : nth (ps.map (·.key)) i = (nth ps i).key := by simp [nth, h]
theorem nth_val (ps : List Pr) {i : Nat} (h : i < ps.length) : nth (ps.map (·.val)) i = (nth ps i).val := by simp [nth, h]
theorem has_pos : ∀ {ps : List Pr} {k : Int}, (ps.Pairwise fun a b => a.key < b.key) → (hasP ps k = true ↔ posP ps k < ps.length ∧ (nth ps (posP ps k)).key = k)
 | [], k, _ => by simp [hasP, posP]
 | a :: ps, k, h => by
  rw [List.pairwise_cons] at h
  have ih := has_pos (ps := ps) (k := k) h.2
  by_cases hk : a.key < k
  ·have e : posP (a :: ps) k = posP ps k + 1 := by simp [posP, List.takeWhile, hk]
   have e2 : hasP (a :: ps) k = hasP ps k := by
    have : (a.key == k) = false := by simp; omega
    simp [hasP, this]
   rw [e, e2, ih]
   simp [nth]
  ·have e : posP (a :: ps) k = 0 := by simp [posP, List.takeWhile, hk]
   rw [e]
   constructor
   ·intro q
    refine ⟨by simp, ?_⟩
    show a.key = k
    simp only [hasP, List.any_cons, Bool.or_eq_true, beq_iff_eq, List.any_eq_true] at q
    rcases q with q | ⟨b, hb, q⟩
    ·exact q
    ·have := h.1 b hb
     omega
   ·intro ⟨_, q⟩
    have q : a.key = k := q
    simp [hasP, q]
theorem hasK_map {ps : List Pr} {k : Int} (h : ps.Pairwise fun a b => a.key < b.key) : hasK (ps.map (·.key)) k = hasP ps k := by
 have e : hasK (ps.map (·.key)) k = true ↔ hasP ps k = true := by
  rw [has_pos h]
  unfold hasK
  rw [posK_map, Bool.and_eq_true, decide_eq_true_eq, List.length_map, beq_iff_eq]
  constructor
  ·intro ⟨q1, q2⟩
   exact ⟨q1, by rw [← nth_key ps q1]; exact q2⟩
  ·intro ⟨q1, q2⟩
   exact ⟨q1, by rw [nth_key ps q1]; exact q2⟩
 cases h1 : hasK (ps.map (·.key)) k <;> cases h2 : hasP ps k <;> simp_all
theorem wfP_iff {ps : List Pr} : wfP ps = true ↔ (ps.Pairwise fun a b => a.key < b.key) ∧ ∀ p ∈ ps, 0 ≤ p.key ∧ p.key ≤ 1000 := by
 unfold wfP
 rw [Bool.and_eq_true, decide_eq_true_eq, List.all_eq_true]
 simp
theorem put_key {ps : List Pr} {k v : Int} (hs : ps.Pairwise fun a b => a.key < b.key) (h : hasP ps k = true) : (putP ps k v).map (·.key) = ps.map (·.key) := by
 obtain ⟨h1, h2⟩ := hasP_at hs h
 rw [putP_t h, List.map_set]
 show (ps.map (·.key)).set _ k = _
 have : (ps.map (·.key))[posP ps k]'(by simpa using h1) = k := by simpa using h2
 have e : (ps.map (·.key)).set (posP ps k) ((ps.map (·.key))[posP ps k]'(by simpa using h1)) = ps.map (·.key) := List.set_getElem_self _
 rw [this] at e
 exact e
theorem wfP_put {ps : List Pr} {k v : Int} (h : wfP ps = true) (hk : 0 ≤ k ∧ k ≤ 1000) : wfP (putP ps k v) = true := by
 rw [wfP_iff] at h ⊢
 obtain ⟨hs, hb⟩ := h
 cases hh : hasP ps k with
 | true =>
  have e := put_key (v := v) hs hh
  refine ⟨?_, fun p hp => ?_⟩
  ·have : (ps.map (·.key)).Pairwise (· < ·) := List.pairwise_map.2 hs
   rw [← e] at this
   exact List.pairwise_map.1 this
  ·have : p.key ∈ (putP ps k v).map (·.key) := List.mem_map.2 ⟨p, hp, rfl⟩
   rw [e] at this
   obtain ⟨q, hq, e2⟩ := List.mem_map.1 this
   rw [← e2]; exact hb q hq
 | false =>
  rw [putP_f hh]
  have hl := posP_lt ps k
  have hg := posP_ge (key := k) hs
  have hn : ∀ p ∈ ps, p.key ≠ k := fun p hp e => by
   have : hasP ps k = true := List.any_eq_true.2 ⟨p, hp, by simp [e]⟩
   rw [hh] at this; cases this
  have ht : ∀ p ∈ ps.take (posP ps k), p.key < k := fun p hp => by
   obtain ⟨j, hj, e⟩ := List.mem_take_iff_getElem.1 hp
   rw [← e]; exact hl j (by omega) (by omega)
  have hd : ∀ p ∈ ps.drop (posP ps k), k < p.key := fun p hp => by
   obtain ⟨j, hj, e⟩ := List.mem_drop_iff_getElem.1 hp
   have h1 := hg (posP ps k + j) (by omega) (by omega)
   have h2 := hn p (List.mem_of_mem_drop hp)
   rw [e] at h1
   omega
  refine ⟨List.pairwise_append.2 ⟨hs.sublist (List.take_sublist _ _), List.pairwise_cons.2 ⟨fun p hp => hd p hp, hs.sublist (List.drop_sublist _ _)⟩, fun a ha b hb => ?_⟩, fun p hp => ?_⟩
  ·rcases List.mem_cons.1 hb with rfl | hb
   ·exact ht a ha
   ·have := ht a ha
    have := hd b hb
    omega
  ·rcases List.mem_append.1 hp with hp | hp
   ·exact hb p (List.mem_of_mem_take hp)
   ·rcases List.mem_cons.1 hp with rfl | hp
    ·exact hk
    ·exact hb p (List.mem_of_mem_drop hp)
theorem wfP_del {ps : List Pr} {k : Int} (h : wfP ps = true) : wfP (delP ps k) = true := by
 cases hh : hasP ps k with
 | false => rw [delP_f hh]; exact h
 | true =>
  rw [delP_t hh]
  rw [wfP_iff] at h ⊢
  have sub : (ps.take (posP ps k) ++ ps.drop (posP ps k + 1)).Sublist ps := by
   conv => rhs; rw [← List.take_append_drop (posP ps k) ps]
   refine List.Sublist.append (List.Sublist.refl _) ?_
   rw [← List.drop_drop]
   exact List.drop_sublist _ _
  exact ⟨h.1.sublist sub, fun p hp => h.2 p (sub.subset hp)⟩
end Go.Pl
namespace Go.Pl
open Go Go.Sx Go.Proofs
structure InvS (m : Nat) (s : Sta) : Prop where
 kind : 1 ≤ s.kind ∧ s.kind ≤ 4
 q0 : s.kind ≠ 3 → s.q = []
 p0 : s.kind ≠ 4 → s.ps = []
 wf : wfP s.ps = true
 num : -1000000000000000 ≤ s.num ∧ s.num ≤ 1000000000000000
 qv : ∀ x ∈ s.q, -1000000000 ≤ x ∧ x ≤ 1000000000
 pv : ∀ p ∈ s.ps, -1000000000 ≤ p.val ∧ p.val ≤ 1000000000
 ql : s.q.length ≤ m
 pl : s.ps.length ≤ m
 n0 : 2 < s.kind → s.num = 0
theorem arg_ok {x y op k v : Int} (h : argC x y op k v = 0) : (x ≠ 0 ∧ ofOp op = x) ∧ (0 ≤ k ∧ k ≤ 1000) ∧ (-1000000000 ≤ v ∧ v ≤ 1000000000) ∧ (op = 3 → -1000000000000000 ≤ addW y v ∧ addW y v ≤ 1000000000000000) := by
 unfold argC at h
 split at h
 ·omega
 ·rename_i h1
  split at h
  ·omega
  ·rename_i h2
   split at h
   ·omega
   ·rename_i h3
    refine ⟨⟨fun e => h1 (.inl e), Classical.byContradiction fun e => h1 (.inr e)⟩, ?_, ?_, fun e => ?_⟩
    ·constructor
     ·exact Int.not_lt.1 fun e => h2 (.inr (.inl e))
     ·exact Int.not_lt.1 fun e => h2 (.inr (.inr (.inl e)))
    ·constructor
     ·exact Int.not_lt.1 fun e => h2 (.inr (.inr (.inr (.inr (.inl e)))))
     ·exact Int.not_lt.1 fun e => h2 (.inr (.inr (.inr (.inr (.inr e)))))
    ·constructor
     ·exact Int.not_lt.1 fun e2 => h3 ⟨e, .inl e2⟩
     ·exact Int.not_lt.1 fun e2 => h3 ⟨e, .inr e2⟩
theorem op_cases {x y op k v : Int} (h : argC x y op k v = 0) : op = 1 ∨ op = 2 ∨ op = 3 ∨ op = 4 ∨ op = 5 ∨ op = 6 ∨ op = 7 ∨ op = 8 ∨ op = 9 := by
 obtain ⟨⟨q1, q2⟩, _⟩ := arg_ok h
 unfold ofOp at q2
 split at q2
 ·omega
 ·split at q2
  ·omega
  ·split at q2
   ·omega
   ·split at q2
    ·omega
    ·omega
theorem step_ref {m : Nat} {s : Sta} {op k v : Int} (h : InvS m s) (ha : argC s.kind s.num op k v = 0) : opS (toR s) op k v = toR (opT s op k v).1 ∧ InvS (m + 1) (opT s op k v).1 := by
 obtain ⟨⟨k0, hk⟩, ⟨b1, b2⟩, bv, bs⟩ := arg_ok ha
 have hop := op_cases ha
 have h' : InvS (m + 1) s := { h with ql := Nat.le_succ_of_le h.ql, pl := Nat.le_succ_of_le h.pl }
 obtain ⟨kind, num, q, ps⟩ := s
 rcases hop with rfl | rfl | rfl | rfl | rfl | rfl | rfl | rfl | rfl
 ·exact ⟨rfl, h'⟩
 ·exact ⟨rfl, { h' with num := ⟨by show _ ≤ v; omega, by show v ≤ _; omega⟩, n0 := fun e => by have hk : (1 : Int) = kind := hk; have e : 2 < kind := e; omega }⟩
 ·exact ⟨rfl, { h' with num := bs rfl, n0 := fun e => by have hk : (2 : Int) = kind := hk; have e : 2 < kind := e; omega }⟩
 ·exact ⟨rfl, h'⟩
 ·have hk : (3 : Int) = kind := hk
  subst hk
  have hp : ps = [] := h.p0 (show (3 : Int) ≠ 4 by decide)
  subst hp
  refine ⟨by simp [opS, refOp, opT, toR], { h' with q0 := fun e => absurd rfl e, qv := fun x hx => ?_, ql := ?_ }⟩
  ·have hx : x ∈ q ++ [v] := hx
   rcases List.mem_append.1 hx with hx | hx
   ·exact h.qv x hx
   ·simp at hx; subst hx; exact bv
  ·show (q ++ [v]).length ≤ m + 1
   have := h.ql
   simp at this ⊢
   exact this
 ·have hk : (3 : Int) = kind := hk
  subst hk
  have hp : ps = [] := h.p0 (show (3 : Int) ≠ 4 by decide)
  subst hp
  refine ⟨by simp [opS, refOp, opT, toR], { h' with q0 := fun e => absurd rfl e, qv := fun x hx => h.qv x (List.mem_of_mem_tail hx), ql := ?_ }⟩
  show q.tail.length ≤ m + 1
  have := h.ql
  simp at this ⊢
  omega
 ·have hk : (4 : Int) = kind := hk
  subst hk
  have hq : q = [] := h.q0 (show (4 : Int) ≠ 3 by decide)
  subst hq
  have hs := wfP_sorted h.wf
  refine ⟨?_, { h' with p0 := fun e => absurd rfl e, wf := wfP_put h.wf ⟨b1, b2⟩, pv := fun p hp => ?_, pl := ?_ }⟩
  ·show (if hasK (ps.map (·.key)) k = true then (_ : Rf) else _) = ⟨4, num, (putP ps k v).map (·.key), [] ++ (putP ps k v).map (·.val)⟩
   rw [hasK_map hs]
   cases hh : hasP ps k with
   | true =>
    rw [if_pos rfl, put_key hs hh, putP_t hh]
    simp [toR, posK_map, List.map_set]
   | false =>
    rw [if_neg (by simp), putP_f hh]
    simp [toR, posK_map, List.map_take, List.map_drop]
  ·have hp : p ∈ putP ps k v := hp
   unfold putP at hp
   split at hp
   ·rcases List.mem_or_eq_of_mem_set hp with hp | rfl
    ·exact h.pv p hp
    ·exact bv
   ·rcases List.mem_append.1 hp with hp | hp
    ·exact h.pv p (List.mem_of_mem_take hp)
    ·rcases List.mem_cons.1 hp with rfl | hp
     ·exact bv
     ·exact h.pv p (List.mem_of_mem_drop hp)
  ·show (putP ps k v).length ≤ m + 1
   have := h.pl
   have : ps.length ≤ m := this
   rw [len_put]
   split <;> omega
 ·exact ⟨rfl, h'⟩
 ·have hk : (4 : Int) = kind := hk
  subst hk
  have hq : q = [] := h.q0 (show (4 : Int) ≠ 3 by decide)
  subst hq
  have hs := wfP_sorted h.wf
  refine ⟨?_, { h' with p0 := fun e => absurd rfl e, wf := wfP_del h.wf, pv := fun p hp => ?_, pl := ?_ }⟩
  ·show (if hasK (ps.map (·.key)) k = true then (_ : Rf) else _) = ⟨4, num, (delP ps k).map (·.key), [] ++ (delP ps k).map (·.val)⟩
   rw [hasK_map hs]
   cases hh : hasP ps k with
   | true =>
    rw [if_pos rfl, delP_t hh]
    simp [toR, posK_map, List.map_take, List.map_drop]
   | false =>
    rw [if_neg (by simp), delP_f hh]
    rfl
  ·have hp : p ∈ delP ps k := hp
   unfold delP at hp
   split at hp
   ·rcases List.mem_append.1 hp with hp | hp
    ·exact h.pv p (List.mem_of_mem_take hp)
    ·exact h.pv p (List.mem_of_mem_drop hp)
   ·exact h.pv p hp
  ·show (delP ps k).length ≤ m + 1
   have : ps.length ≤ m := h.pl
   rw [len_del (show wfP ps = true from h.wf)]
   split <;> omega
end Go.Pl
namespace Go.Pl
open Go Go.Sx Go.Proofs
theorem flat_range {α : Type} [Row α] (l : List α) (F : α → List UInt8) : (List.range l.length).flatMap (fun i => F (nth l i)) = l.flatMap F := by
 have := range_nth l
 conv => rhs; rw [← this]
 rw [List.flatMap_map]
theorem qU_eq (q : List Int) : qU q q.length = q.flatMap fun x => 32 :: itoaS x := flat_range q fun x => 32 :: itoaS x
theorem pU_eq (ps : List Pr) : pU (ps.map (·.key)) (ps.map (·.val)) ps.length = ps.flatMap fun p => 32 :: (itoaS p.key ++ 58 :: itoaS p.val) := by
 rw [← flat_range ps fun p => 32 :: (itoaS p.key ++ 58 :: itoaS p.val)]
 unfold pU
 rw [List.flatMap_def, List.flatMap_def]
 congr 1
 refine List.map_congr_left fun i hi => ?_
 have hi := List.mem_range.1 hi
 rw [nth_key ps hi, nth_val ps hi]
theorem tail_flat (l : List (List UInt8)) : Go.Lib.joinTail [32] l = l.flatMap fun x => 32 :: x := by
 unfold Go.Lib.joinTail
 rw [List.flatMap_def]
 rfl
theorem key_eq {m : Nat} {s : Sta} (h : InvS m s) : keyS s = keyU (toR s) := by
 obtain ⟨kind, num, q, ps⟩ := s
 have hk : 1 ≤ kind ∧ kind ≤ 4 := h.kind
 unfold keyS partsS joinS
 rw [Go.Lib.join_cons, tail_flat]
 have : kind = 1 ∨ kind = 2 ∨ kind = 3 ∨ kind = 4 := by omega
 rcases this with rfl | rfl | rfl | rfl
 ·simp [keyU, toR]; rfl
 ·simp [keyU, toR]; rfl
 ·have hp : ps = [] := h.p0 (show (3 : Int) ≠ 4 by decide)
  subst hp
  have := qU_eq q
  simp [keyU, toR, this, List.flatMap_map]
  rfl
 ·have hq : q = [] := h.q0 (show (4 : Int) ≠ 3 by decide)
  subst hq
  have := pU_eq ps
  simp [keyU, toR, this, List.flatMap_map]
  rfl
theorem join_snoc (l : List (List UInt8)) (x sep : List UInt8) : joinS (l ++ [x]) sep = joinS l sep ++ ((if l = [] then [] else sep) ++ x) := by
 unfold joinS
 cases l with
 | nil => simp [Go.Lib.join_one, Go.Lib.join_nil]
 | cons a l =>
  rw [List.cons_append, Go.Lib.join_cons, Go.Lib.join_cons]
  simp [Go.Lib.joinTail]
theorem keys_eq {m : Nat} {d : Nat → Sta} : ∀ n, (∀ j, j < n → InvS m (d j)) → keyN n d = keysU (fun j => toR (d j)) n
 | 0, _ => rfl
 | n + 1, h => by
  have ih := keys_eq n fun j hj => h j (by omega)
  unfold keyN keyT at ih ⊢
  rw [List.range_succ, List.map_append, List.map_append, List.map_singleton, List.map_singleton, join_snoc, ih, keysU, key_eq (h n (by omega))]
  congr 2
  cases n with
  | zero => rfl
  | succ n => simp [List.range_succ]
theorem okT_inv {m : Nat} {s : Sta} (hm : m ≤ 100000) (h : InvS m s) : okT s = true := by
 obtain ⟨⟨k1, k2⟩, _, _, wf, ⟨n1, n2⟩, qv, pv, ql, pl, _⟩ := h
 have wf := wfP_iff.1 wf
 unfold okT
 simp only [Bool.and_eq_true, List.all_eq_true, decide_eq_true_eq]
 refine ⟨⟨⟨⟨decide_eq_true ⟨by omega, by omega⟩, decide_eq_true ⟨by omega, by omega⟩⟩, fun x hx => ?_⟩, fun p hp => ⟨?_, ?_⟩⟩, by omega, by omega⟩
 ·have := qv x hx; exact decide_eq_true ⟨by omega, by omega⟩
 ·have := wf.2 p hp; exact decide_eq_true ⟨by omega, by omega⟩
 ·have := pv p hp; exact decide_eq_true ⟨by omega, by omega⟩
theorem wfU_inv {m : Nat} {s : Sta} (hm : m ≤ 50000) (h : InvS m s) : wfU (toR s) = true := by
 obtain ⟨_, q0, p0, _, _, _, _, ql, pl, _⟩ := h
 unfold wfU
 rw [Bool.and_eq_true]
 refine ⟨decide_eq_true ?_, ?_⟩
 ·simp only [toR, List.length_map, List.length_append]; omega
 ·show (!decide (s.kind = 4) || decide ((toR s).keys.length = (toR s).vals.length)) = true
  by_cases e : s.kind = 4
  ·have := q0 (by omega)
   simp [toR, this]
  ·simp [e]
theorem okU_inv {m : Nat} {s : Sta} (hm : m ≤ 50000) (h : InvS m s) : okU (toR s) = true := by
 have hw := wfU_inv hm h
 obtain ⟨⟨k1, k2⟩, _, _, wf, ⟨n1, n2⟩, qv, pv, ql, pl, _⟩ := h
 have wf := wfP_iff.1 wf
 unfold okU
 rw [Bool.and_eq_true, Bool.and_eq_true]
 refine ⟨decide_eq_true ⟨k1, k2⟩, hw, ?_⟩
 unfold numsU
 simp only [Bool.and_eq_true, List.all_eq_true]
 refine ⟨⟨decide_eq_true ⟨by show _ ≤ s.num; omega, by show s.num ≤ _; omega⟩, fun x hx => ?_⟩, fun x hx => ?_⟩
 ·obtain ⟨p, hp, rfl⟩ := List.mem_map.1 hx
  have := wf.2 p hp; exact decide_eq_true ⟨by omega, by omega⟩
 ·rcases List.mem_append.1 hx with hx | hx
  ·have := qv x hx; exact decide_eq_true ⟨by omega, by omega⟩
  ·obtain ⟨p, hp, rfl⟩ := List.mem_map.1 hx
   have := pv p hp; exact decide_eq_true ⟨by omega, by omega⟩
theorem fitN_inv {m n : Nat} {d : Nat → Sta} {i op : Int} (hm : m ≤ 50000) (h : ∀ j, j < n → InvS m (d j)) : fitN n d i op = true := by
 unfold fitN
 cases hi : inI n i with
 | false => rfl
 | true =>
  have hi : 0 ≤ i ∧ i < n := of_decide_eq_true hi
  obtain ⟨_, _, _, wf, _, _, _, ql, pl, _⟩ := h i.toNat (by omega)
  show (_ && _) = true
  rw [Bool.and_eq_true]
  refine ⟨Go.Proofs.room_le (show (d i.toNat).q.length + 1 ≤ _ by omega) (by omega), ?_⟩
  unfold mapOK
  rw [Bool.or_eq_true, Bool.and_eq_true]
  refine .inr ⟨wfG_def.2 ⟨okB_put _ _, show (d i.toNat).ps.length ≤ _ by omega, ?_⟩, Go.Proofs.room_le (show (d i.toNat).ps.length + 1 ≤ _ by omega) (by omega)⟩
  rw [show lst Pr (len (d i.toNat).ps) (fnR (nth (d i.toNat).ps)) = (d i.toNat).ps from lst_nth _]
  exact wf
theorem fitM_inv {m n : Nat} {d : Nat → Sta} {i : Int} (hm : m ≤ 50000) (h : ∀ j, j < n → InvS m (d j)) : fitM n (fun j => toR (d j)) i = true := by
 unfold fitM
 cases hi : inI n i with
 | false => rfl
 | true =>
  have hi : 0 ≤ i ∧ i < n := of_decide_eq_true hi
  exact wfU_inv hm (h i.toNat (by omega))
theorem new_inv {o : Nat → Oj} {j : Nat} (h : badOb (o j).kind (o j).init = false) : InvS 0 (newT o j) ∧ toR (newT o j) = newU o j := by
 unfold badOb at h
 simp only [Bool.or_eq_false_iff, Bool.not_eq_false', Bool.and_eq_true, decide_eq_true_eq, decide_eq_false_iff_not] at h
 exact ⟨⟨h.1.1.1, fun _ => rfl, fun _ => rfl, (show wfP [] = true from rfl), ⟨(by show _ ≤ (o j).init; omega), (by show (o j).init ≤ _; omega)⟩, (fun x hx => (List.not_mem_nil hx).elim), (fun p hp => (List.not_mem_nil hp).elim), Nat.le_refl _, Nat.le_refl _, (fun e => by have e : 2 < (o j).kind := e; show (o j).init = 0; have := h.2; simp at this; omega)⟩, rfl⟩
theorem ok_same {n : Nat} {d : Nat → Sta} {i op k v : Int} : okM n (fun j => toR (d j)) i op k v = okN n d i op k v := by
 unfold okM okN
 cases hi : inI n i with
 | false => rfl
 | true =>
  have e := arg_eq (d i.toNat).kind (d i.toNat).num op k v
  show decide (argC (d i.toNat).kind (d i.toNat).num op k v = 0) = _
  rw [e]
  cases badOp (d i.toNat).kind op <;> cases badKV (d i.toNat).kind (d i.toNat).num op k v <;> rfl
theorem er_same {n : Nat} {d : Nat → Sta} {i op k v : Int} (h : okN n d i op k v = false) :
  (erN n d i op k v = 0 ∧ codeM n (fun j => toR (d j)) i op k v = 109) ∨ (erN n d i op k v = 1 ∧ codeM n (fun j => toR (d j)) i op k v = 111) ∨ (erN n d i op k v = 3 ∧ codeM n (fun j => toR (d j)) i op k v = 110) := by
 unfold erN codeM okN at *
 cases hi : inI n i with
 | false => exact .inl ⟨rfl, rfl⟩
 | true =>
  have e := arg_eq (d i.toNat).kind (d i.toNat).num op k v
  rw [if_pos rfl, if_pos rfl]
  rw [hi] at h
  show (_ ∧ argC (d i.toNat).kind (d i.toNat).num op k v = 109) ∨ (_ ∧ argC (d i.toNat).kind (d i.toNat).num op k v = 111) ∨ (_ ∧ argC (d i.toNat).kind (d i.toNat).num op k v = 110)
  rw [e]
  cases h1 : badOp (d i.toNat).kind op with
  | true => exact .inr (.inl ⟨rfl, rfl⟩)
  | false =>
   cases h2 : badKV (d i.toNat).kind (d i.toNat).num op k v with
   | true => exact .inr (.inr ⟨rfl, rfl⟩)
   | false => rw [h1, h2] at h; cases h
end Go.Pl
namespace Go.Pl
open Go Go.Sx Go.Proofs
def updT (n : Nat) (d : Nat → Sta) (i op k v : Int) : Nat → Sta := fun j => if inI n i = true ∧ j = i.toNat then (opT (d i.toNat) op k v).1 else d j
def behT (n : Nat) (d : Nat → Sta) (c : Nat → Cl) : Nat → Nat → Sta
 | 0 => d
 | k + 1 => if okN n (behT n d c k) (c k).obj (c k).op (c k).key (c k).val = true then updT n (behT n d c k) (c k).obj (c k).op (c k).key (c k).val else behT n d c k
theorem nxtT_eq (n : Nat) (d : Nat → Sta) (i op k v : Int) : nxtT n (fnT d) i op k v = fnT (updT n d i op k v) := by
 funext j
 unfold nxtT updG fnT updT
 by_cases h : inI n i = true ∧ j = i.toNat
 ·rw [if_pos h, if_pos h]
  have hi : 0 ≤ i ∧ i < n := of_decide_eq_true h.1
  have := stF_fnT (n := n) (d := d) i.toNat (by omega)
  unfold fnT at this
  rw [this]
 ·rw [if_neg h, if_neg h]
theorem nxtU_eq {m n : Nat} {d : Nat → Sta} {i op k v : Int} (hd : ∀ j, j < n → InvS m (d j)) (h : okN n d i op k v = true) :
  nxtU n (fnU fun j => toR (d j)) i op k v = fnU (fun j => toR (updT n d i op k v j)) ∧ ∀ j, j < n → InvS (m + 1) (updT n d i op k v j) := by
 have hM : okM n (fun j => toR (d j)) i op k v = true := by rw [ok_same]; exact h
 have hM : (inI n i && isC (toR (d i.toNat)).kind (toR (d i.toNat)).num op k v 0) = true := hM
 rw [Bool.and_eq_true] at hM
 obtain ⟨hi, hc⟩ := hM
 have hi' : 0 ≤ i ∧ i < n := of_decide_eq_true hi
 have hc : argC (d i.toNat).kind (d i.toNat).num op k v = 0 := of_decide_eq_true hc
 obtain ⟨q1, q2⟩ := step_ref (hd i.toNat (by omega)) hc
 refine ⟨?_, fun j hj => ?_⟩
 ·funext j
  unfold nxtU updG updT
  rw [rfF_fnU]
  by_cases h : inI n i = true ∧ j = i.toNat
  ·rw [if_pos h, q1]
   show _ = rfS (toR (if inI n i = true ∧ j = i.toNat then (opT (d i.toNat) op k v).1 else d j))
   rw [if_pos h]
  ·rw [if_neg h]
   show rfS (toR (d j)) = rfS (toR (if inI n i = true ∧ j = i.toNat then (opT (d i.toNat) op k v).1 else d j))
   rw [if_neg h]
 ·unfold updT
  by_cases h : inI n i = true ∧ j = i.toNat
  ·rw [if_pos h]; exact q2
  ·rw [if_neg h]
   have := hd j hj
   exact { this with ql := Nat.le_succ_of_le this.ql, pl := Nat.le_succ_of_le this.pl }
end Go.Pl
namespace Go.Proofs
open Go Go.Sx Go.Pl
theorem goesS_spec {A : Prim} {W : Wd} {s s' : Nat → Option (List Sh → Tree Sh)} {stop stop' : Nat → List Nat → Bool} {K : Kx} {g : Nat} {td : List It} {c : Core} {R : Hp → Prop} {φ : Sh → Prop}
  (h : GoesS Tryz.prog (C7 A W s stop) K g td c [] R φ) : GoesS Tryz.prog (C7 A W s' stop') K g td c [] R φ := fun H E w a items ms cs fn hf st hi hs hx =>
 h H E w a items ms cs fn hf ⟨st.den, st.hp, st.wok, st.free, st.gl, st.defers⟩ hi (by cases ms with
  | nil => trivial
  | cons _ _ => exact hs.elim) hx
theorem O29x : FnOK Tryz.prog (gls7 W7) 29 F29x := by
 intro H w shs args φ hon hg hr hφ
 refine O29 H w shs args φ hon hg hr ?_
 unfold F29x at hφ
 unfold F29
 split at hφ
 ·split at hφ
  ·rename_i e1 e2 e3 e4 e5
   simp only [e1, e2, e3, e4, e5]
   obtain ⟨h1, h2, h3, h4, h5⟩ := hφ
   have h4 : ((inI _ _ && !badOp _ _) && !badKV _ _ _ _ _) = true := h4
   rw [Bool.and_eq_true, Bool.and_eq_true] at h4
   obtain ⟨⟨a1, a2⟩, a3⟩ := h4
   have h3 : (!inI _ _ || (_ && _)) = true := h3
   rw [a1, Bool.not_true, Bool.false_or, Bool.and_eq_true] at h3
   refine ⟨h1, h2, fun _ => ⟨h3.1, fun q => ?_, fun _ => ⟨fun q => ?_, fun _ => ⟨h3.2, h5⟩⟩⟩, fun q => ?_⟩
   ·rw [q] at a2; cases a2
   ·rw [q] at a3; cases a3
   ·rw [a1] at q; cases q
  ·exact hφ.elim
 ·exact hφ.elim
theorem O29y (e : Nat) : FnOK Tryz.prog (gls7 W7) 29 (F29y e) := by
 intro H w shs args φ hon hg hr hφ
 refine O29 H w shs args φ hon hg hr ?_
 unfold F29y at hφ
 unfold F29
 split at hφ
 ·split at hφ
  ·rename_i e1 e2 e3 e4 e5
   simp only [e1, e2, e3, e4, e5]
   obtain ⟨h1, h2, h3, h4, h5⟩ := hφ
   have h4 : (!okN _ _ _ _ _ _ && decide (_ = _)) = true := h4
   rw [Bool.and_eq_true] at h4
   obtain ⟨a1, a2⟩ := h4
   have a2 := of_decide_eq_true a2
   have h3 : (!inI _ _ || (_ && _)) = true := h3
   have a1 : (!((inI _ _ && !badOp _ _) && !badKV _ _ _ _ _)) = true := a1
   unfold erN at a2
   refine ⟨h1, h2, fun q => ?_, fun q => ?_⟩
   ·rw [q, Bool.not_true, Bool.false_or, Bool.and_eq_true] at h3
    rw [if_pos q] at a2
    refine ⟨h3.1, fun q2 => ?_, fun q2 => ⟨fun q3 => ?_, fun q3 => ?_⟩⟩
    ·rw [if_pos q2] at a2; subst a2; exact h5
    ·rw [if_neg (by rw [q2]; simp)] at a2; subst a2; exact h5
    ·rw [q, q2, q3] at a1; cases a1
   ·rw [if_neg (by rw [q]; simp)] at a2; subst a2; exact h5
  ·exact hφ.elim
 ·exact hφ.elim
theorem O47x : FnOK Tryz.prog (gls7 W7) 47 F47x := by
 intro H w shs args φ hon hg hr hφ
 suffices hs : (F47c shs).All (up φ) by
  refine (O47c H w shs args (up φ) hon hg hr hs).mono fun e w' ⟨v, s, H', he, ⟨s', hw, hs⟩, r⟩ => ?_
  obtain ⟨H2, r2⟩ := r.wk hw
  exact ⟨v, s', H2, he, hs, r2⟩
 unfold F47x at hφ
 unfold F47c
 split at hφ
 ·split at hφ
  ·rename_i n g i op k v e1 e2 e3 e4 e5
   obtain ⟨h1, h2, h3, h4, h5⟩ := hφ
   simp only [e1]
   refine ⟨h1, ?_⟩
   unfold F47
   simp only [e1, e2, e3, e4, e5]
   have h4 : (inI n i && isC _ _ _ _ _ _) = true := h4
   rw [Bool.and_eq_true] at h4
   obtain ⟨a1, a2⟩ := h4
   have h3 : (!inI n i || _) = true := h3
   rw [a1, Bool.not_true, Bool.false_or] at h3
   refine ⟨areU_of (rfB_at h1), h2, fun _ => ⟨h3, fun _ => ?_, fun q => ?_⟩, fun q => ?_⟩
   ·refine up_mk (s' := .tup [.sl 4 n (nxtU n g i op k v), .i .i64 (retU n g i op k v), .i .i64 (gotU n g i op k v), .v (.int .i64 0)]) ⟨.inr ⟨rfl, rfl, fun j hj => ?_⟩, rfl, rfl, rfl, trivial⟩ h5
    unfold nxtU updG
    rw [rfB_at h1 j hj]
   ·rw [a2] at q; cases q
   ·rw [a1] at q; cases q
  ·exact hφ.elim
 ·exact hφ.elim
theorem O47y (c : Int) : FnOK Tryz.prog (gls7 W7) 47 (F47y c) := by
 intro H w shs args φ hon hg hr hφ
 refine O47c H w shs args φ hon hg hr ?_
 unfold F47y at hφ
 unfold F47c
 split at hφ
 ·split at hφ
  ·rename_i n g i op k v e1 e2 e3 e4 e5
   obtain ⟨h1, h2, h3, h4, h5⟩ := hφ
   simp only [e1]
   refine ⟨h1, ?_⟩
   unfold F47
   simp only [e1, e2, e3, e4, e5]
   have h4 : (!okM _ _ _ _ _ _ && decide (_ = _)) = true := h4
   rw [Bool.and_eq_true] at h4
   obtain ⟨a1, a2⟩ := h4
   have a2 := of_decide_eq_true a2
   have a1 : (!(inI n i && isC _ _ _ _ _ _)) = true := a1
   have h3 : (!inI n i || _) = true := h3
   unfold codeM at a2
   refine ⟨areU_of (rfB_at h1), h2, fun q => ?_, fun q => ?_⟩
   ·rw [q, Bool.not_true, Bool.false_or] at h3
    rw [if_pos q] at a2
    refine ⟨h3, fun q2 => ?_, fun q2 => ⟨fun q3 => ?_, fun q3 => ?_⟩⟩
    ·rw [q, q2] at a1; cases a1
    ·have : argC _ _ _ _ _ = 110 := of_decide_eq_true q3
     rw [this] at a2; subst a2; exact h5
    ·have b1 : argC (rfF n g i.toNat).kind (rfF n g i.toNat).num op k v ≠ 0 := of_decide_eq_false q2
     have b2 : argC (rfF n g i.toNat).kind (rfF n g i.toNat).num op k v ≠ 110 := of_decide_eq_false q3
     rw [arg_eq] at a2 b1 b2
     by_cases x1 : badOp (rfF n g i.toNat).kind op = true
     ·rw [if_pos x1] at a2; subst a2; exact h5
     ·rw [if_neg x1] at b1 b2
      by_cases x2 : badKV (rfF n g i.toNat).kind (rfF n g i.toNat).num op k v = true
      ·rw [if_pos x2] at b2; exact absurd rfl b2
      ·rw [if_neg x2] at b1; exact absurd rfl b1
   ·rw [if_neg (by rw [q]; simp)] at a2; subst a2; exact h5
  ·exact hφ.elim
 ·exact hφ.elim
theorem res_lit26 {H H' : Mem} {w w' : World} {v : Value} {X Y : Sh} {a : Int} (r : SpecRes H w (.tup [X, .agg [.i .i64 a, Y]]) v H' w') : SpecRes H w (.tup [X, .agg [.v (.int .i64 a), Y]]) v H' w' :=
 ⟨r.Hle, r.on, r.os, r.tape, r.output, r.size, r.old, r.fresh, fun b0 => by
  obtain ⟨E1, a1, a2, ⟨⟨vs⟩, e, hd⟩, a4⟩ := r.res b0
  refine ⟨E1, a1, a2, ⟨⟨vs⟩, e, ?_⟩, a4⟩
  match vs, hd with
  | [a, b], ⟨h1, h2, _⟩ =>
   obtain ⟨⟨us⟩, e2, hd2⟩ := h2
   refine ⟨h1, ⟨⟨us⟩, e2, ?_⟩, trivial⟩
   match us, hd2 with
   | [c, d], ⟨h3, h4, _⟩ => exact ⟨h3, h4, trivial⟩⟩
theorem O26x : FnOK Tryz.prog (gls7 W7) 26 F26x := by
 intro H w shs args φ hon hg hr hφ
 have key : (F26 shs).All fun s => ∃ X a Y, s = .tup [X, .agg [.i .i64 a, Y]] ∧ up φ (.tup [X, .agg [.v (.int .i64 a), Y]]) := by
  unfold F26x at hφ
  unfold F26
  split at hφ
  ·split at hφ
   ·rename_i n g e
    simp only [e]
    obtain ⟨h1, h2, h3⟩ := hφ
    refine ⟨h1, fun q => ⟨_, _, _, rfl, ?_⟩, fun q => ⟨fun q2 => ⟨_, _, _, rfl, ?_⟩, fun q2 => ⟨_, _, _, rfl, ?_⟩⟩⟩
    ·exact up_mk (s' := .tup [.sl 4 0 noT, .agg [.v (.int .i64 105), .sl 1 0 noI]]) ⟨.inl ⟨rfl, rfl⟩, ⟨rfl, .inl ⟨rfl, rfl⟩, trivial⟩, trivial⟩ (h2 q)
    ·exact up_mk (s' := .tup [.sl 4 n (fnU (newU (rwAt g))), .agg [.v (.int .i64 0), .sl 1 0 noI]]) ⟨.inr ⟨rfl, rfl, fun _ _ => rfl⟩, ⟨rfl, .inl ⟨rfl, rfl⟩, trivial⟩, trivial⟩ ((h3 q).1 q2)
    ·exact up_mk (s' := .tup [.sl 4 0 noT, .agg [.v (.int .i64 109), .sl 1 1 (oneI (firstOb n (rwAt g)))]]) ⟨.inl ⟨rfl, rfl⟩, ⟨rfl, .inr ⟨rfl, rfl, fun _ _ => rfl⟩, trivial⟩, trivial⟩ ((h3 q).2 q2)
   ·exact hφ.elim
  ·exact hφ.elim
 refine (O26 H w shs args _ hon hg hr key).mono fun e w' ⟨v, s, H', he, ⟨X, a, Y, hs, s', hw, h⟩, r⟩ => ?_
 subst hs
 obtain ⟨H2, r2⟩ := (res_lit26 r).wk hw
 exact ⟨v, s', H2, he, h, r2⟩
theorem fok24 (stop : Nat → List Nat → Bool) : FnsOK Tryz.prog (C7 prim W7 spec24 stop) := C7.fok (fun g F h => by
 unfold spec24 at h
 split at h
 ·cases h; exact O25
 ·cases h; exact O26x
 ·cases h; exact O29x
 ·cases h; exact O47x
 ·cases h; exact O48
 ·cases h) fun g h => by
 unfold spec24 at h
 split at h
 all_goals first | (cases h; done) | kernel_rfl
theorem fok24y (e : Nat) (c : Int) (stop : Nat → List Nat → Bool) : FnsOK Tryz.prog (C7 prim W7 (spec24y e c) stop) := C7.fok (fun g F h => by
 unfold spec24y at h
 split at h
 ·cases h; exact O29y e
 ·cases h; exact O47y c
 ·cases h; exact O48
 ·cases h) fun g h => by
 unfold spec24y at h
 split at h
 all_goals first | (cases h; done) | kernel_rfl
end Go.Proofs
namespace Go.Pl
open Go Go.Sx
def eqU (r s : Rf) : Bool := r.kind == s.kind && r.num == s.num && sameL r.keys s.keys && sameL r.vals s.vals
def unU (n : Nat) (f : Nat → Rf) (m : Nat) (e : Nat → Rf) (k : Nat) : Bool := !(decide (k < n) && decide (k < m) && eqU (f k) (e k))
def diffU (n : Nat) (f : Nat → Rf) (m : Nat) (e : Nat → Rf) (k : Nat) : List Int := ((List.range k).filter (unU n f m e)).map Int.ofNat
def difU (n : Nat) (f : Nat → Rf) (m : Nat) (e : Nat → Rf) : Nat := (diffU n f m e (max n m)).length
def manyU (n m : Nat) : Bool := decide (n ≤ 100000 ∧ m ≤ 100000)
noncomputable def dirU (n : Nat) (f : Nat → Rf) (m : Nat) (e : Nat → Rf) : Nat → List Sh := fnR (nth (diffU n f m e (max n m)))
end Go.Pl
namespace Go.Proofs
open Go.Sx.Tree
open Go Go.Sx Go.Pl
noncomputable def G18b : List Sh → Tree Sh
 | [.sl 1 n g, .sl 1 m h] => .need (okB Int n g) (.need (okB Int m h) (.leaf (.b (eqI n g m h))))
 | _ => .fail
noncomputable def spec53 : Nat → Option (List Sh → Tree Sh)
 | 18 => some G18b
 | _ => none
noncomputable def F53 : List Sh → Tree Sh
 | [.agg [x, y, s2, s3], .agg [x', y', t2, t3]] => .need (rowB [x, y, s2, s3]) (.need (rowB [x', y', t2, t3]) (.leaf (.b (eqU (rowF [x, y, s2, s3]) (rowF [x', y', t2, t3])))))
 | _ => .fail
noncomputable def spec28 : Nat → Option (List Sh → Tree Sh)
 | 53 => some F53
 | _ => none
def td28 : List It := [It.code [0, 1, 0, 1, 1], It.inBlock 0, It.code [1, 1, 1]]
def tb28 : List It := It.code [0, 0, 1, 0, 1, 1] :: td28
def LO28 (n : Nat) (f : Nat → Rf) (m : Nat) (e : Nat → Rf) (i : Int) (c : Nat) (gg : Nat → List Sh) : Core := { tm := tmOf 46 [(0, .sh (.sl 4 n (fnU f))), (1, .sh (.sl 4 m (fnU e))), (5, .gs 0), (6, .sym .i64 i)], hp := [(0, .own 3 1 c gg)], nx := 1, lim := L0, tc := [] }
noncomputable def F28 : List Sh → Tree Sh
 | [s0, s1] => match slN 4 s0, slN 4 s1 with
  | some (n, g), some (m, h) => .need (rfB n g) (.need (rfB m h) (.need (manyU n m) (.leaf (.os 3 1 (difU n (rfF n g) m (rfF m h)) (dirU n (rfF n g) m (rfF m h))))))
  | _, _ => .fail
 | _ => .fail
noncomputable def spec39 : Nat → Option (List Sh → Tree Sh)
 | 28 => some F28
 | _ => none
theorem a53 (A : Prim) (W : Wd) (r s : Rf) : runTo (C7 A W spec53 sAl) nH0 300 400 53 [.code []] (start0 35 [.agg (rfS r), .agg (rfS s)] L0) [] [] = need (okB Int (len r.keys) (fnR (nth r.keys))) (need (okB Int (len s.keys) (fnR (nth s.keys))) (need (okB Int (len r.vals) (fnR (nth r.vals))) (need (okB Int (len s.vals) (fnR (nth s.vals))) (node (A.eq r.kind s.kind) (node (A.eq r.num s.num) (node (eqI (len r.keys) (fnR (nth r.keys)) (len s.keys) (fnR (nth s.keys))) (leaf (Fe2.ret (Sh.b (eqI (len r.vals) (fnR (nth r.vals)) (len s.vals) (fnR (nth s.vals)))))) (leaf (Fe2.ret (Sh.b false)))) (leaf (Fe2.ret (Sh.b false)))) (leaf (Fe2.ret (Sh.b false))))))) := by kernel_rfl
theorem a28 (A : Prim) (W : Wd) (n : Nat) (f : Nat → Rf) (m : Nat) (e : Nat → Rf) (i' : Int) (c' : Nat) (gg' : Nat → List Sh) : runTo (C7 A W spec28 sAl) nH0 300 400 28 [.code []] (start0 46 [.sl 4 n (fnU f), .sl 4 m (fnU e)] L0) [] [⟨28, td28, LO28 n f m e i' c' gg', []⟩] = leaf (Fe2.at_ 0 [Eqn.sh (Sh.sl 4 n (fnU f)) (Sh.sl 4 n (fnU f)), Eqn.sh (Sh.sl 4 m (fnU e)) (Sh.sl 4 m (fnU e)), Eqn.int (Int.ofNat 0) i', Eqn.nat c' 0]) := by kernel_rfl
theorem b28 (A : Prim) (W : Wd) (n : Nat) (f : Nat → Rf) (m : Nat) (e : Nat → Rf) (i i' : Int) (c c' : Nat) (gg gg' : Nat → List Sh) : runTo (C7 A W spec28 sAl) nH0 300 400 28 tb28 (LO28 n f m e i c gg) [] [⟨28, td28, LO28 n f m e i' c' gg', []⟩] = node (A.lt i (A.ofN n)) (node (A.le (A.ofN n) i) (need (A.room (A.addN c 1) 8) (leaf (Fe2.at_ 0 [Eqn.sh (Sh.sl 4 n (fnU f)) (Sh.sl 4 n (fnU f)), Eqn.sh (Sh.sl 4 m (fnU e)) (Sh.sl 4 m (fnU e)), Eqn.int (A.add .i64 i (Int.ofNat 1)) i', Eqn.nat (A.addN c 1) c', Eqn.get (A.addN c 1) (A.snoc gg c (nthL [[Sh.i .i64 i]])) gg']))) (node (A.le (A.ofN m) i) (need (A.room (A.addN c 1) 8) (leaf (Fe2.at_ 0 [Eqn.sh (Sh.sl 4 n (fnU f)) (Sh.sl 4 n (fnU f)), Eqn.sh (Sh.sl 4 m (fnU e)) (Sh.sl 4 m (fnU e)), Eqn.int (A.add .i64 i (Int.ofNat 1)) i', Eqn.nat (A.addN c 1) c', Eqn.get (A.addN c 1) (A.snoc gg c (nthL [[Sh.i .i64 i]])) gg']))) (need (A.inB i n) (need (A.inB i m) (need (rowB [Sh.i .i64 (f (A.toN i)).kind, Sh.i .i64 (f (A.toN i)).num, Sh.sl 1 (len (f (A.toN i)).keys) (fnR (nth (f (A.toN i)).keys)), Sh.sl 1 (len (f (A.toN i)).vals) (fnR (nth (f (A.toN i)).vals))]) (need (rowB [Sh.i .i64 (e (A.toN i)).kind, Sh.i .i64 (e (A.toN i)).num, Sh.sl 1 (len (e (A.toN i)).keys) (fnR (nth (e (A.toN i)).keys)), Sh.sl 1 (len (e (A.toN i)).vals) (fnR (nth (e (A.toN i)).vals))]) (node (A.nt (eqU (rowF [Sh.i .i64 (f (A.toN i)).kind, Sh.i .i64 (f (A.toN i)).num, Sh.sl 1 (len (f (A.toN i)).keys) (fnR (nth (f (A.toN i)).keys)), Sh.sl 1 (len (f (A.toN i)).vals) (fnR (nth (f (A.toN i)).vals))]) (rowF [Sh.i .i64 (e (A.toN i)).kind, Sh.i .i64 (e (A.toN i)).num, Sh.sl 1 (len (e (A.toN i)).keys) (fnR (nth (e (A.toN i)).keys)), Sh.sl 1 (len (e (A.toN i)).vals) (fnR (nth (e (A.toN i)).vals))]))) (need (A.room (A.addN c 1) 8) (leaf (Fe2.at_ 0 [Eqn.sh (Sh.sl 4 n (fnU f)) (Sh.sl 4 n (fnU f)), Eqn.sh (Sh.sl 4 m (fnU e)) (Sh.sl 4 m (fnU e)), Eqn.int (A.add .i64 i (Int.ofNat 1)) i', Eqn.nat (A.addN c 1) c', Eqn.get (A.addN c 1) (A.snoc gg c (nthL [[Sh.i .i64 i]])) gg']))) (leaf (Fe2.at_ 0 [Eqn.sh (Sh.sl 4 n (fnU f)) (Sh.sl 4 n (fnU f)), Eqn.sh (Sh.sl 4 m (fnU e)) (Sh.sl 4 m (fnU e)), Eqn.int (A.add .i64 i (Int.ofNat 1)) i', Eqn.nat c c', Eqn.get c gg gg']))))))))) (node (A.lt i (A.ofN m)) (node (A.le (A.ofN n) i) (need (A.room (A.addN c 1) 8) (leaf (Fe2.at_ 0 [Eqn.sh (Sh.sl 4 n (fnU f)) (Sh.sl 4 n (fnU f)), Eqn.sh (Sh.sl 4 m (fnU e)) (Sh.sl 4 m (fnU e)), Eqn.int (A.add .i64 i (Int.ofNat 1)) i', Eqn.nat (A.addN c 1) c', Eqn.get (A.addN c 1) (A.snoc gg c (nthL [[Sh.i .i64 i]])) gg']))) (node (A.le (A.ofN m) i) (need (A.room (A.addN c 1) 8) (leaf (Fe2.at_ 0 [Eqn.sh (Sh.sl 4 n (fnU f)) (Sh.sl 4 n (fnU f)), Eqn.sh (Sh.sl 4 m (fnU e)) (Sh.sl 4 m (fnU e)), Eqn.int (A.add .i64 i (Int.ofNat 1)) i', Eqn.nat (A.addN c 1) c', Eqn.get (A.addN c 1) (A.snoc gg c (nthL [[Sh.i .i64 i]])) gg']))) (need (A.inB i n) (need (A.inB i m) (need (rowB [Sh.i .i64 (f (A.toN i)).kind, Sh.i .i64 (f (A.toN i)).num, Sh.sl 1 (len (f (A.toN i)).keys) (fnR (nth (f (A.toN i)).keys)), Sh.sl 1 (len (f (A.toN i)).vals) (fnR (nth (f (A.toN i)).vals))]) (need (rowB [Sh.i .i64 (e (A.toN i)).kind, Sh.i .i64 (e (A.toN i)).num, Sh.sl 1 (len (e (A.toN i)).keys) (fnR (nth (e (A.toN i)).keys)), Sh.sl 1 (len (e (A.toN i)).vals) (fnR (nth (e (A.toN i)).vals))]) (node (A.nt (eqU (rowF [Sh.i .i64 (f (A.toN i)).kind, Sh.i .i64 (f (A.toN i)).num, Sh.sl 1 (len (f (A.toN i)).keys) (fnR (nth (f (A.toN i)).keys)), Sh.sl 1 (len (f (A.toN i)).vals) (fnR (nth (f (A.toN i)).vals))]) (rowF [Sh.i .i64 (e (A.toN i)).kind, Sh.i .i64 (e (A.toN i)).num, Sh.sl 1 (len (e (A.toN i)).keys) (fnR (nth (e (A.toN i)).keys)), Sh.sl 1 (len (e (A.toN i)).vals) (fnR (nth (e (A.toN i)).vals))]))) (need (A.room (A.addN c 1) 8) (leaf (Fe2.at_ 0 [Eqn.sh (Sh.sl 4 n (fnU f)) (Sh.sl 4 n (fnU f)), Eqn.sh (Sh.sl 4 m (fnU e)) (Sh.sl 4 m (fnU e)), Eqn.int (A.add .i64 i (Int.ofNat 1)) i', Eqn.nat (A.addN c 1) c', Eqn.get (A.addN c 1) (A.snoc gg c (nthL [[Sh.i .i64 i]])) gg']))) (leaf (Fe2.at_ 0 [Eqn.sh (Sh.sl 4 n (fnU f)) (Sh.sl 4 n (fnU f)), Eqn.sh (Sh.sl 4 m (fnU e)) (Sh.sl 4 m (fnU e)), Eqn.int (A.add .i64 i (Int.ofNat 1)) i', Eqn.nat c c', Eqn.get c gg gg']))))))))) (leaf (Fe2.ret (Sh.os 3 1 c gg)))) := by kernel_rfl
theorem a39 (A : Prim) (W : Wd) (n m : Nat) (f e : Nat → Rf) : runTo (C7 A W spec39 sAl) nH0 300 400 39 [.code []] (start0 10 [.sl 4 n (fnU f), .sl 4 m (fnU e)] L0) [] [] = need (rfB n (fnU f)) (need (rfB m (fnU e)) (need (manyU n m) (leaf (Fe2.ret (Sh.b (A.eq (A.ofN (difU n (rfF n (fnU f)) m (rfF m (fnU e)))) (Int.ofNat 0))))))) := by kernel_rfl
end Go.Proofs
namespace Go.Proofs
open Go.Sx.Tree
open Go Go.Sx Go.Pl
theorem all_a53 (A : Prim) (W : Wd) (r s : Rf) {ψ : Fe2 → Prop} (h1 : (okB Int (len r.keys) (fnR (nth r.keys))) = true) (h2 : (okB Int (len s.keys) (fnR (nth s.keys))) = true) (h3 : (okB Int (len r.vals) (fnR (nth r.vals))) = true) (h4 : (okB Int (len s.vals) (fnR (nth s.vals))) = true) (y1 : (A.eq r.kind s.kind) = true → (A.eq r.num s.num) = true → (eqI (len r.keys) (fnR (nth r.keys)) (len s.keys) (fnR (nth s.keys))) = true → ψ (Fe2.ret (Sh.b (eqI (len r.vals) (fnR (nth r.vals)) (len s.vals) (fnR (nth s.vals)))))) (y2 : (A.eq r.kind s.kind) = true → (A.eq r.num s.num) = true → (eqI (len r.keys) (fnR (nth r.keys)) (len s.keys) (fnR (nth s.keys))) = false → ψ (Fe2.ret (Sh.b false))) (y3 : (A.eq r.kind s.kind) = true → (A.eq r.num s.num) = false → ψ (Fe2.ret (Sh.b false))) (y4 : (A.eq r.kind s.kind) = false → ψ (Fe2.ret (Sh.b false))) : MeetsT ψ (runTo (C7 A W spec53 sAl) nH0 300 400 53 [.code []] (start0 35 [.agg (rfS r), .agg (rfS s)] L0) [] []) := by
 rw [a53 A W r s, meetsT_eq]
 exact ⟨(h1), ⟨(h2), ⟨(h3), ⟨(h4), ⟨fun q0 => ⟨fun q1 => ⟨fun q2 => (y1 q0 q1 q2), fun q2 => (y2 q0 q1 q2)⟩, fun q1 => (y3 q0 q1)⟩, fun q0 => (y4 q0)⟩⟩⟩⟩⟩
theorem all_a28 (A : Prim) (W : Wd) (n : Nat) (f : Nat → Rf) (m : Nat) (e : Nat → Rf) (i' : Int) (c' : Nat) (gg' : Nat → List Sh) {ψ : Fe2 → Prop} (y1 : ψ (Fe2.at_ 0 [Eqn.sh (Sh.sl 4 n (fnU f)) (Sh.sl 4 n (fnU f)), Eqn.sh (Sh.sl 4 m (fnU e)) (Sh.sl 4 m (fnU e)), Eqn.int (Int.ofNat 0) i', Eqn.nat c' 0])) : MeetsT ψ (runTo (C7 A W spec28 sAl) nH0 300 400 28 [.code []] (start0 46 [.sl 4 n (fnU f), .sl 4 m (fnU e)] L0) [] [⟨28, td28, LO28 n f m e i' c' gg', []⟩]) := by
 rw [a28 A W n f m e i' c' gg', meetsT_eq]
 exact (y1)
theorem all_b28 (A : Prim) (W : Wd) (n : Nat) (f : Nat → Rf) (m : Nat) (e : Nat → Rf) (i i' : Int) (c c' : Nat) (gg gg' : Nat → List Sh) {ψ : Fe2 → Prop} (h1 : (A.lt i (A.ofN n)) = true → (A.le (A.ofN n) i) = true → (A.room (A.addN c 1) 8) = true) (h2 : (A.lt i (A.ofN n)) = true → (A.le (A.ofN n) i) = false → (A.le (A.ofN m) i) = true → (A.room (A.addN c 1) 8) = true) (h3 : (A.lt i (A.ofN n)) = true → (A.le (A.ofN n) i) = false → (A.le (A.ofN m) i) = false → (A.inB i n) = true) (h4 : (A.lt i (A.ofN n)) = true → (A.le (A.ofN n) i) = false → (A.le (A.ofN m) i) = false → (A.inB i m) = true) (h5 : (A.lt i (A.ofN n)) = true → (A.le (A.ofN n) i) = false → (A.le (A.ofN m) i) = false → (rowB [Sh.i .i64 (f (A.toN i)).kind, Sh.i .i64 (f (A.toN i)).num, Sh.sl 1 (len (f (A.toN i)).keys) (fnR (nth (f (A.toN i)).keys)), Sh.sl 1 (len (f (A.toN i)).vals) (fnR (nth (f (A.toN i)).vals))]) = true) (h6 : (A.lt i (A.ofN n)) = true → (A.le (A.ofN n) i) = false → (A.le (A.ofN m) i) = false → (rowB [Sh.i .i64 (e (A.toN i)).kind, Sh.i .i64 (e (A.toN i)).num, Sh.sl 1 (len (e (A.toN i)).keys) (fnR (nth (e (A.toN i)).keys)), Sh.sl 1 (len (e (A.toN i)).vals) (fnR (nth (e (A.toN i)).vals))]) = true) (h7 : (A.lt i (A.ofN n)) = true → (A.le (A.ofN n) i) = false → (A.le (A.ofN m) i) = false → (A.nt (eqU (rowF [Sh.i .i64 (f (A.toN i)).kind, Sh.i .i64 (f (A.toN i)).num, Sh.sl 1 (len (f (A.toN i)).keys) (fnR (nth (f (A.toN i)).keys)), Sh.sl 1 (len (f (A.toN i)).vals) (fnR (nth (f (A.toN i)).vals))]) (rowF [Sh.i .i64 (e (A.toN i)).kind, Sh.i .i64 (e (A.toN i)).num, Sh.sl 1 (len (e (A.toN i)).keys) (fnR (nth (e (A.toN i)).keys)), Sh.sl 1 (len (e (A.toN i)).vals) (fnR (nth (e (A.toN i)).vals))]))) = true → (A.room (A.addN c 1) 8) = true) (h8 : (A.lt i (A.ofN n)) = false → (A.lt i (A.ofN m)) = true → (A.le (A.ofN n) i) = true → (A.room (A.addN c 1) 8) = true) (h9 : (A.lt i (A.ofN n)) = false → (A.lt i (A.ofN m)) = true → (A.le (A.ofN n) i) = false → (A.le (A.ofN m) i) = true → (A.room (A.addN c 1) 8) = true) (h10 : (A.lt i (A.ofN n)) = false → (A.lt i (A.ofN m)) = true → (A.le (A.ofN n) i) = false → (A.le (A.ofN m) i) = false → (A.inB i n) = true) (h11 : (A.lt i (A.ofN n)) = false → (A.lt i (A.ofN m)) = true → (A.le (A.ofN n) i) = false → (A.le (A.ofN m) i) = false → (A.inB i m) = true) (h12 : (A.lt i (A.ofN n)) = false → (A.lt i (A.ofN m)) = true → (A.le (A.ofN n) i) = false → (A.le (A.ofN m) i) = false → (rowB [Sh.i .i64 (f (A.toN i)).kind, Sh.i .i64 (f (A.toN i)).num, Sh.sl 1 (len (f (A.toN i)).keys) (fnR (nth (f (A.toN i)).keys)), Sh.sl 1 (len (f (A.toN i)).vals) (fnR (nth (f (A.toN i)).vals))]) = true) (h13 : (A.lt i (A.ofN n)) = false → (A.lt i (A.ofN m)) = true → (A.le (A.ofN n) i) = false → (A.le (A.ofN m) i) = false → (rowB [Sh.i .i64 (e (A.toN i)).kind, Sh.i .i64 (e (A.toN i)).num, Sh.sl 1 (len (e (A.toN i)).keys) (fnR (nth (e (A.toN i)).keys)), Sh.sl 1 (len (e (A.toN i)).vals) (fnR (nth (e (A.toN i)).vals))]) = true) (h14 : (A.lt i (A.ofN n)) = false → (A.lt i (A.ofN m)) = true → (A.le (A.ofN n) i) = false → (A.le (A.ofN m) i) = false → (A.nt (eqU (rowF [Sh.i .i64 (f (A.toN i)).kind, Sh.i .i64 (f (A.toN i)).num, Sh.sl 1 (len (f (A.toN i)).keys) (fnR (nth (f (A.toN i)).keys)), Sh.sl 1 (len (f (A.toN i)).vals) (fnR (nth (f (A.toN i)).vals))]) (rowF [Sh.i .i64 (e (A.toN i)).kind, Sh.i .i64 (e (A.toN i)).num, Sh.sl 1 (len (e (A.toN i)).keys) (fnR (nth (e (A.toN i)).keys)), Sh.sl 1 (len (e (A.toN i)).vals) (fnR (nth (e (A.toN i)).vals))]))) = true → (A.room (A.addN c 1) 8) = true) (y1 : (A.lt i (A.ofN n)) = true → (A.le (A.ofN n) i) = true → ψ (Fe2.at_ 0 [Eqn.sh (Sh.sl 4 n (fnU f)) (Sh.sl 4 n (fnU f)), Eqn.sh (Sh.sl 4 m (fnU e)) (Sh.sl 4 m (fnU e)), Eqn.int (A.add .i64 i (Int.ofNat 1)) i', Eqn.nat (A.addN c 1) c', Eqn.get (A.addN c 1) (A.snoc gg c (nthL [[Sh.i .i64 i]])) gg'])) (y2 : (A.lt i (A.ofN n)) = true → (A.le (A.ofN n) i) = false → (A.le (A.ofN m) i) = true → ψ (Fe2.at_ 0 [Eqn.sh (Sh.sl 4 n (fnU f)) (Sh.sl 4 n (fnU f)), Eqn.sh (Sh.sl 4 m (fnU e)) (Sh.sl 4 m (fnU e)), Eqn.int (A.add .i64 i (Int.ofNat 1)) i', Eqn.nat (A.addN c 1) c', Eqn.get (A.addN c 1) (A.snoc gg c (nthL [[Sh.i .i64 i]])) gg'])) (y3 : (A.lt i (A.ofN n)) = true → (A.le (A.ofN n) i) = false → (A.le (A.ofN m) i) = false → (A.nt (eqU (rowF [Sh.i .i64 (f (A.toN i)).kind, Sh.i .i64 (f (A.toN i)).num, Sh.sl 1 (len (f (A.toN i)).keys) (fnR (nth (f (A.toN i)).keys)), Sh.sl 1 (len (f (A.toN i)).vals) (fnR (nth (f (A.toN i)).vals))]) (rowF [Sh.i .i64 (e (A.toN i)).kind, Sh.i .i64 (e (A.toN i)).num, Sh.sl 1 (len (e (A.toN i)).keys) (fnR (nth (e (A.toN i)).keys)), Sh.sl 1 (len (e (A.toN i)).vals) (fnR (nth (e (A.toN i)).vals))]))) = true → ψ (Fe2.at_ 0 [Eqn.sh (Sh.sl 4 n (fnU f)) (Sh.sl 4 n (fnU f)), Eqn.sh (Sh.sl 4 m (fnU e)) (Sh.sl 4 m (fnU e)), Eqn.int (A.add .i64 i (Int.ofNat 1)) i', Eqn.nat (A.addN c 1) c', Eqn.get (A.addN c 1) (A.snoc gg c (nthL [[Sh.i .i64 i]])) gg'])) (y4 : (A.lt i (A.ofN n)) = true → (A.le (A.ofN n) i) = false → (A.le (A.ofN m) i) = false → (A.nt (eqU (rowF [Sh.i .i64 (f (A.toN i)).kind, Sh.i .i64 (f (A.toN i)).num, Sh.sl 1 (len (f (A.toN i)).keys) (fnR (nth (f (A.toN i)).keys)), Sh.sl 1 (len (f (A.toN i)).vals) (fnR (nth (f (A.toN i)).vals))]) (rowF [Sh.i .i64 (e (A.toN i)).kind, Sh.i .i64 (e (A.toN i)).num, Sh.sl 1 (len (e (A.toN i)).keys) (fnR (nth (e (A.toN i)).keys)), Sh.sl 1 (len (e (A.toN i)).vals) (fnR (nth (e (A.toN i)).vals))]))) = false → ψ (Fe2.at_ 0 [Eqn.sh (Sh.sl 4 n (fnU f)) (Sh.sl 4 n (fnU f)), Eqn.sh (Sh.sl 4 m (fnU e)) (Sh.sl 4 m (fnU e)), Eqn.int (A.add .i64 i (Int.ofNat 1)) i', Eqn.nat c c', Eqn.get c gg gg'])) (y5 : (A.lt i (A.ofN n)) = false → (A.lt i (A.ofN m)) = true → (A.le (A.ofN n) i) = true → ψ (Fe2.at_ 0 [Eqn.sh (Sh.sl 4 n (fnU f)) (Sh.sl 4 n (fnU f)), Eqn.sh (Sh.sl 4 m (fnU e)) (Sh.sl 4 m (fnU e)), Eqn.int (A.add .i64 i (Int.ofNat 1)) i', Eqn.nat (A.addN c 1) c', Eqn.get (A.addN c 1) (A.snoc gg c (nthL [[Sh.i .i64 i]])) gg'])) (y6 : (A.lt i (A.ofN n)) = false → (A.lt i (A.ofN m)) = true → (A.le (A.ofN n) i) = false → (A.le (A.ofN m) i) = true → ψ (Fe2.at_ 0 [Eqn.sh (Sh.sl 4 n (fnU f)) (Sh.sl 4 n (fnU f)), Eqn.sh (Sh.sl 4 m (fnU e)) (Sh.sl 4 m (fnU e)), Eqn.int (A.add .i64 i (Int.ofNat 1)) i', Eqn.nat (A.addN c 1) c', Eqn.get (A.addN c 1) (A.snoc gg c (nthL [[Sh.i .i64 i]])) gg'])) (y7 : (A.lt i (A.ofN n)) = false → (A.lt i (A.ofN m)) = true → (A.le (A.ofN n) i) = false → (A.le (A.ofN m) i) = false → (A.nt (eqU (rowF [Sh.i .i64 (f (A.toN i)).kind, Sh.i .i64 (f (A.toN i)).num, Sh.sl 1 (len (f (A.toN i)).keys) (fnR (nth (f (A.toN i)).keys)), Sh.sl 1 (len (f (A.toN i)).vals) (fnR (nth (f (A.toN i)).vals))]) (rowF [Sh.i .i64 (e (A.toN i)).kind, Sh.i .i64 (e (A.toN i)).num, Sh.sl 1 (len (e (A.toN i)).keys) (fnR (nth (e (A.toN i)).keys)), Sh.sl 1 (len (e (A.toN i)).vals) (fnR (nth (e (A.toN i)).vals))]))) = true → ψ (Fe2.at_ 0 [Eqn.sh (Sh.sl 4 n (fnU f)) (Sh.sl 4 n (fnU f)), Eqn.sh (Sh.sl 4 m (fnU e)) (Sh.sl 4 m (fnU e)), Eqn.int (A.add .i64 i (Int.ofNat 1)) i', Eqn.nat (A.addN c 1) c', Eqn.get (A.addN c 1) (A.snoc gg c (nthL [[Sh.i .i64 i]])) gg'])) (y8 : (A.lt i (A.ofN n)) = false → (A.lt i (A.ofN m)) = true → (A.le (A.ofN n) i) = false → (A.le (A.ofN m) i) = false → (A.nt (eqU (rowF [Sh.i .i64 (f (A.toN i)).kind, Sh.i .i64 (f (A.toN i)).num, Sh.sl 1 (len (f (A.toN i)).keys) (fnR (nth (f (A.toN i)).keys)), Sh.sl 1 (len (f (A.toN i)).vals) (fnR (nth (f (A.toN i)).vals))]) (rowF [Sh.i .i64 (e (A.toN i)).kind, Sh.i .i64 (e (A.toN i)).num, Sh.sl 1 (len (e (A.toN i)).keys) (fnR (nth (e (A.toN i)).keys)), Sh.sl 1 (len (e (A.toN i)).vals) (fnR (nth (e (A.toN i)).vals))]))) = false → ψ (Fe2.at_ 0 [Eqn.sh (Sh.sl 4 n (fnU f)) (Sh.sl 4 n (fnU f)), Eqn.sh (Sh.sl 4 m (fnU e)) (Sh.sl 4 m (fnU e)), Eqn.int (A.add .i64 i (Int.ofNat 1)) i', Eqn.nat c c', Eqn.get c gg gg'])) (y9 : (A.lt i (A.ofN n)) = false → (A.lt i (A.ofN m)) = false → ψ (Fe2.ret (Sh.os 3 1 c gg))) : MeetsT ψ (runTo (C7 A W spec28 sAl) nH0 300 400 28 tb28 (LO28 n f m e i c gg) [] [⟨28, td28, LO28 n f m e i' c' gg', []⟩]) := by
 rw [b28 A W n f m e i i' c c' gg gg', meetsT_eq]
 exact ⟨fun q0 => ⟨fun q1 => ⟨(h1 q0 q1), (y1 q0 q1)⟩, fun q1 => ⟨fun q2 => ⟨(h2 q0 q1 q2), (y2 q0 q1 q2)⟩, fun q2 => ⟨(h3 q0 q1 q2), ⟨(h4 q0 q1 q2), ⟨(h5 q0 q1 q2), ⟨(h6 q0 q1 q2), ⟨fun q3 => ⟨(h7 q0 q1 q2 q3), (y3 q0 q1 q2 q3)⟩, fun q3 => (y4 q0 q1 q2 q3)⟩⟩⟩⟩⟩⟩⟩, fun q0 => ⟨fun q1 => ⟨fun q2 => ⟨(h8 q0 q1 q2), (y5 q0 q1 q2)⟩, fun q2 => ⟨fun q3 => ⟨(h9 q0 q1 q2 q3), (y6 q0 q1 q2 q3)⟩, fun q3 => ⟨(h10 q0 q1 q2 q3), ⟨(h11 q0 q1 q2 q3), ⟨(h12 q0 q1 q2 q3), ⟨(h13 q0 q1 q2 q3), ⟨fun q4 => ⟨(h14 q0 q1 q2 q3 q4), (y7 q0 q1 q2 q3 q4)⟩, fun q4 => (y8 q0 q1 q2 q3 q4)⟩⟩⟩⟩⟩⟩⟩, fun q1 => (y9 q0 q1)⟩⟩
theorem all_a39 (A : Prim) (W : Wd) (n m : Nat) (f e : Nat → Rf) {ψ : Fe2 → Prop} (h1 : (rfB n (fnU f)) = true) (h2 : (rfB m (fnU e)) = true) (h3 : (manyU n m) = true) (y1 : ψ (Fe2.ret (Sh.b (A.eq (A.ofN (difU n (rfF n (fnU f)) m (rfF m (fnU e)))) (Int.ofNat 0))))) : MeetsT ψ (runTo (C7 A W spec39 sAl) nH0 300 400 39 [.code []] (start0 10 [.sl 4 n (fnU f), .sl 4 m (fnU e)] L0) [] []) := by
 rw [a39 A W n m f e, meetsT_eq]
 exact ⟨(h1), ⟨(h2), ⟨(h3), (y1)⟩⟩⟩
end Go.Proofs
